/- What functions that the law reaches compute, on a heap of the run's own: the conditions stand in each theorem. -/
import Derived.Test.YtejedmocjdcdgaaCrcC
set_option linter.unusedSimpArgs false
set_option linter.unusedVariables false
namespace Go.Proofs.Ytejedmocjdcdgaa.D
open Go Go.Det

end Go.Proofs.Ytejedmocjdcdgaa.D
