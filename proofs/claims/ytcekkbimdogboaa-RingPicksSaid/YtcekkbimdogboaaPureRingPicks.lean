/- The pure statement of the law RingPicks: proved in the imported text. -/
import Derived.Test.YtcekkbimdogboaaRingPicks
