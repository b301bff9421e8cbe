/- The pure statement of the law WorldNew: proved in the imported text. -/
import Derived.Test.YtbbgeobnjdgpfaaWorldNew
