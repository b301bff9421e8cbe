/- The pure statement of the law FnvJoins: proved in the imported text. -/
import Derived.Test.YthecbaeemmejpaaFnvPure
