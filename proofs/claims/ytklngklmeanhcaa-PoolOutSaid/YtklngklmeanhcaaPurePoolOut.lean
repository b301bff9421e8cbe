/- The pure statement of the law PoolOut: proved in the imported text. -/
import Derived.Test.YtklngklmeanhcaaPoolOut
