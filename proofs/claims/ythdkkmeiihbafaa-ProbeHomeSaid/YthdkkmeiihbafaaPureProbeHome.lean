/- The pure statement of the law ProbeHome: proved in the imported text. -/
import Derived.Test.YthdkkmeiihbafaaProbePure
