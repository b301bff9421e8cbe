/- The pure statement of the law SweepLater: proved in the imported text. -/
import Derived.Test.YthdkkmeiihbafaaSweepLater
