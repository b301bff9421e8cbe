/- The pure statement of the law WorldLive: proved in the imported text. -/
import Derived.Test.YtbbgeobnjdgpfaaWorldLive
