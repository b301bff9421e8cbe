/- The pure statement of the law FnvApart: proved in the imported text. -/
import Derived.Test.YthecbaeemmejpaaFnvPure
