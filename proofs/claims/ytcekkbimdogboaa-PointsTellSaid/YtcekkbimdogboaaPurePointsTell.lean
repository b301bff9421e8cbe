/- The pure statement of the law PointsTell: proved in the imported text. -/
import Derived.Test.YtcekkbimdogboaaPointsTell
