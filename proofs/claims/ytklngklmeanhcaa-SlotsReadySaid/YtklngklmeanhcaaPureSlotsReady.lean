/- The pure statement of the law SlotsReady: proved in the imported text. -/
import Derived.Test.YtklngklmeanhcaaSlotsReady
