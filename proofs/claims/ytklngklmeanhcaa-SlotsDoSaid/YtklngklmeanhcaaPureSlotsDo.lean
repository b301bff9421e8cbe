/- The pure statement of the law SlotsDo: proved in the imported text. -/
import Derived.Test.YtklngklmeanhcaaSlotsDo
