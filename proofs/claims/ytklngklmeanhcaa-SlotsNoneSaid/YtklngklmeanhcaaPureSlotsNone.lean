/- The pure statement of the law SlotsNone: proved in the imported text. -/
import Derived.Test.YtklngklmeanhcaaSlotsNone
