/- The pure statement of the law FlowsPut: proved in the imported text. -/
import Derived.Test.YthdkkmeiihbafaaFlowsPut
