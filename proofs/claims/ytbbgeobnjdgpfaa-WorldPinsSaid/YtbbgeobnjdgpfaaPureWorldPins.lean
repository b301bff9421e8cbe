/- The pure statement of the law WorldPins: proved in the imported text. -/
import Derived.Test.YtbbgeobnjdgpfaaWorldPins
