/- The pure statement of the law SweepParts: proved in the imported text. -/
import Derived.Test.YthdkkmeiihbafaaSweepParts
