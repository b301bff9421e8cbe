/- The pure statement of the law RingWith: proved in the imported text. -/
import Derived.Test.YtcekkbimdogboaaRingWith
