/- The pure statement of the law SlotsHas: proved in the imported text. -/
import Derived.Test.YtklngklmeanhcaaSlotsHas
