/- The pure statement of the law ProbePuts: proved in the imported text. -/
import Derived.Test.YthdkkmeiihbafaaProbePure
