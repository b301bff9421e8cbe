/- The pure statement of the law FlowsBack: proved in the imported text. -/
import Derived.Test.YthdkkmeiihbafaaFlowsBack
