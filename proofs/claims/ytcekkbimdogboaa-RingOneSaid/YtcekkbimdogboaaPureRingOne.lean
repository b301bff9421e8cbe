/- The pure statement of the law RingOne: proved in the imported text. -/
import Derived.Test.YtcekkbimdogboaaRingOne
