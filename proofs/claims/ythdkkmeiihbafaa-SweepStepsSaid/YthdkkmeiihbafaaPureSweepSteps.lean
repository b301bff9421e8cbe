/- The pure statement of the law SweepSteps: proved in the imported text. -/
import Derived.Test.YthdkkmeiihbafaaSweepSteps
