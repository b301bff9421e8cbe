/- The pure statement of the law PointsWithout: proved in the imported text. -/
import Derived.Test.YtcekkbimdogboaaPointsWithout
