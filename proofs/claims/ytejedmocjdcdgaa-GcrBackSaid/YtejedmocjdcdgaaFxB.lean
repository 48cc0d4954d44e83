/- What functions that the law reaches compute, on a heap of the run's own: the conditions stand in each theorem. -/
import Derived.Test.YtejedmocjdcdgaaFxA
set_option linter.unusedSimpArgs false
set_option linter.unusedVariables false
namespace Go.Proofs.Ytejedmocjdcdgaa.D
open Go Go.Det

theorem hext_ints {H H' : AH} {s : Value} {l : List Int} (hx : HExt H H') (hs : Ints H s l) : Ints H' s l := Sl.ext hx hs

end Go.Proofs.Ytejedmocjdcdgaa.D
