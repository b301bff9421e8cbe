/- The pure statement of the law PointsSorted: proved in the imported text. -/
import Derived.Test.YtcekkbimdogboaaPointsSorted
