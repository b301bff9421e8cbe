/- The pure statement of the law CellsLock: proved in the imported text. -/
import Derived.Test.YthecbaeemmejpaaCellsLock
