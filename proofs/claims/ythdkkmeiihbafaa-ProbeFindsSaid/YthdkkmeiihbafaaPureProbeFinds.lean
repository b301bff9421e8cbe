/- The pure statement of the law ProbeFinds: proved in the imported text. -/
import Derived.Test.YthdkkmeiihbafaaProbePure
