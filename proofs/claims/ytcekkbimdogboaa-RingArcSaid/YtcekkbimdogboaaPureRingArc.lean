/- The pure statement of the law RingArc: proved in the imported text. -/
import Derived.Test.YtcekkbimdogboaaRingArc
