/- The pure statement of the law ProbeWay: proved in the imported text. -/
import Derived.Test.YthdkkmeiihbafaaProbePure
