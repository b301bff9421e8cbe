/- The pure statement of the law FlowsOne: proved in the imported text. -/
import Derived.Test.YthdkkmeiihbafaaFlowsOne
