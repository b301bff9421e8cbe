/- The pure statement of the law ProbeTombs: proved in the imported text. -/
import Derived.Test.YthdkkmeiihbafaaProbePure
