/- The pure statement of the law PointsWith: proved in the imported text. -/
import Derived.Test.YtcekkbimdogboaaPointsWith
