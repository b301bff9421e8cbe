/- The pure statement of the law WorldApart: proved in the imported text. -/
import Derived.Test.YtbbgeobnjdgpfaaGreatWorldApart
