/- The pure statement of the law CellsHold: proved in the imported text. -/
import Derived.Test.YthecbaeemmejpaaCellsHold
