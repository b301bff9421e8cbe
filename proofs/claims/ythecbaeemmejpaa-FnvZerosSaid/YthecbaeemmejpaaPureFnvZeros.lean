/- The pure statement of the law FnvZeros: proved in the imported text. -/
import Derived.Test.YthecbaeemmejpaaFnvPure
