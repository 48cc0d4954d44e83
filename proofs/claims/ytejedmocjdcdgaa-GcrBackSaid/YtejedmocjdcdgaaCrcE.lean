/- What functions that the law reaches compute, on a heap of the run's own: the conditions stand in each theorem. -/
import Derived.Test.YtejedmocjdcdgaaCrcD
set_option linter.unusedSimpArgs false
set_option linter.unusedVariables false
namespace Go.Proofs.Ytejedmocjdcdgaa.D
open Go Go.Det

theorem u8s_one (l : List Int) : (l.map (Value.int .u8)).all one = true := ints_one l .u8

end Go.Proofs.Ytejedmocjdcdgaa.D
