/- The pure statement of the law ProbeTells: proved in the imported text. -/
import Derived.Test.YthdkkmeiihbafaaProbePure
