/- The pure statement of the law PointsEach: proved in the imported text. -/
import Derived.Test.YtcekkbimdogboaaPointsEach
