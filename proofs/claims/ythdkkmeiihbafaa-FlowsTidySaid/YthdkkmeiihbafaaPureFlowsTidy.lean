/- The pure statement of the law FlowsTidy: proved in the imported text. -/
import Derived.Test.YthdkkmeiihbafaaFlowsTidy
