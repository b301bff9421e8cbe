/- The pure statement of the law PoolGone: proved in the imported text. -/
import Derived.Test.YtklngklmeanhcaaPoolGone
