/- The pure statement of the law SweepDue: proved in the imported text. -/
import Derived.Test.YthdkkmeiihbafaaSweepDue
