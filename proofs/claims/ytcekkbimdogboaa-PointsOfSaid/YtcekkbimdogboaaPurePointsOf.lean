/- The pure statement of the law PointsOf: proved in the imported text. -/
import Derived.Test.YtcekkbimdogboaaPointsOf
