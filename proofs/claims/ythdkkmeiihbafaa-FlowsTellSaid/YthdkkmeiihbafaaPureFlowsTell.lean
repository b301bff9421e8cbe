/- The pure statement of the law FlowsTell: proved in the imported text. -/
import Derived.Test.YthdkkmeiihbafaaFlowsTell
