/- The pure statement of the law CellsAdds: proved in the imported text. -/
import Derived.Test.YthecbaeemmejpaaCellsAdds
