/- The pure statement of the law RingMoved: proved in the imported text. -/
import Derived.Test.YtcekkbimdogboaaRingMoved
