/- The pure statement of the law RingSucc: proved in the imported text. -/
import Derived.Test.YtcekkbimdogboaaRingSucc
