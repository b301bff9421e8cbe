/- The pure statement of the law SweepKeeps: proved in the imported text. -/
import Derived.Test.YthdkkmeiihbafaaSweepKeeps
