/- The pure statement of the law PoolWithout: proved in the imported text. -/
import Derived.Test.YtklngklmeanhcaaPoolWithout
