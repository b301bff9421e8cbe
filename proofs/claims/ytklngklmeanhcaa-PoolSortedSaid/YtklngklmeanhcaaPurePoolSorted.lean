/- The pure statement of the law PoolSorted: proved in the imported text. -/
import Derived.Test.YtklngklmeanhcaaPoolSorted
