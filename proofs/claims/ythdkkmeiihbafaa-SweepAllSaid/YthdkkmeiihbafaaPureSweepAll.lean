/- The pure statement of the law SweepAll: proved in the imported text. -/
import Derived.Test.YthdkkmeiihbafaaSweepAll
