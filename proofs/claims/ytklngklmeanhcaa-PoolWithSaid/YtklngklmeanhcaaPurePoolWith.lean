/- The pure statement of the law PoolWith: proved in the imported text. -/
import Derived.Test.YtklngklmeanhcaaPoolWith
