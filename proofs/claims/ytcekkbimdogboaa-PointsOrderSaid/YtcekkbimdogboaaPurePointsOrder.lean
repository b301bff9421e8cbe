/- The pure statement of the law PointsOrder: proved in the imported text. -/
import Derived.Test.YtcekkbimdogboaaPointsOrder
