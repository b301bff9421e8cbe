/- The pure statement of the law PoolTells: proved in the imported text. -/
import Derived.Test.YtklngklmeanhcaaPoolTells
