/- The pure statement of the law FlowsMany: proved in the imported text. -/
import Derived.Test.YthdkkmeiihbafaaFlowsMany
