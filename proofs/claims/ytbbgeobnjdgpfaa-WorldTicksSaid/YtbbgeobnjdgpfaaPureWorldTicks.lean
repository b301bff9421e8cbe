/- The pure statement of the law WorldTicks: proved in the imported text. -/
import Derived.Test.YtbbgeobnjdgpfaaWorldTicks
