/- The pure statement of the law FnvTells: proved in the imported text. -/
import Derived.Test.YthecbaeemmejpaaFnvPure
