/- The pure statement of the law CellsDo: proved in the imported text. -/
import Derived.Test.YthecbaeemmejpaaCellsDo
