/- The pure statement of the law FlowsDelete: proved in the imported text. -/
import Derived.Test.YthdkkmeiihbafaaFlowsDelete
