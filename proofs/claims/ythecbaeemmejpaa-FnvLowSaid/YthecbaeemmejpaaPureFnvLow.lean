/- The pure statement of the law FnvLow: proved in the imported text. -/
import Derived.Test.YthecbaeemmejpaaFnvPure
