/- The pure statement of the law SlotsAnew: proved in the imported text. -/
import Derived.Test.YtklngklmeanhcaaSlotsAnew
