/- The pure statement of the law FnvBytes: proved in the imported text. -/
import Derived.Test.YthecbaeemmejpaaFnvPure
