/- The pure statement of the law CellsApart: proved in the imported text. -/
import Derived.Test.YthecbaeemmejpaaCellsApart
