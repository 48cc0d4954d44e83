/-
  No cell of these rows narrows 'for every input' (looked for: loops, veiled, ifaces, maps, wideKeys, modest, calm, conditions, laid).
  DERIVED. THE GIVEN ROWS OF THIS SEAT. 11 by the template 'for every input the law returns true; each argument reads behind the call as it read before'; 0 by the template 'total and deterministic' (their statements: YtkhjmmidaihbhaaTotals.lean).
  GIVEN WITH THE SEED: the statements are not yours to turn. If you find one false, say at which input.
  Laid BY PROGRAM, IN A SANDBOX (cutbox-rows.mjs): the forced cells as the released guide's own fill.sh prints them over the translation 8a4e7e265e352efb… (all of the seat's roots in one cut). By AI agents, Wed Nov 11 2026. No macro, syntax, notation, axiom, sorry.
-/
import Derived.Test.YtkhjmmidaihbhaaChecked
import GoSem.Claim
import GoSem.ClaimJoined
import GoSem.ClaimMapViews
import Derived.JoinedTies
import Derived.KernelRfl
namespace Go.Proofs.Ytkhjmmidaihbhaa
/- THE CELL 'sum', in the pinned program and in every row, IS THE sha256 OF THE DUMP (.gsa) THAT YtkhjmmidaihbhaaProg.lean LOADS. Nothing in Lean hashes anything: it is a label: what it is worth is what the hold of that sum in a sandbox is worth. -/
noncomputable def Try.pinned : Pinned := { name := "ytkhjmmidaihbhaa", sum := "8a4e7e265e352efbb84924ddf9e400d7d5a8e9d7cc6946124abb33cd57eb986b", checked := Try.checked }
namespace Rows
def none {H : Type} : Left H := { results := [], args := [] }

/-- 'bakekeep2.CrcJoins': WHATEVER THE INPUT: true; the input reads as it did. -/
def crcJoinsSpec : ChangeSpec := { name := "crcJoins", fn := fun _ => fun
  | [d1, d2] => { results := [.lit (.bool true)], args := [d1, d2] }
  | _ => none }
def crcJoinsRow : OpenClaim := { program := "ytkhjmmidaihbhaa", sum := "8a4e7e265e352efbb84924ddf9e400d7d5a8e9d7cc6946124abb33cd57eb986b", func := "bakelite/bakekeep2.CrcJoins", spec := "crcJoins", apart := false }
def CrcJoinsSaid : Prop := crcJoinsRow.holds Try.pinned (OpenSpec.ofChange crcJoinsSpec)

/-- ITS FALSE NEIGHBOUR: 'it returns false'. Refute it at one input. -/
def crcJoinsWrong : ChangeSpec := { name := "crcJoins", fn := fun _ => fun
  | [d1, d2] => { results := [.lit (.bool false)], args := [d1, d2] }
  | _ => none }
def CrcJoinsWrongFalsely : Prop := crcJoinsRow.holds Try.pinned (OpenSpec.ofChange crcJoinsWrong)

/-- 'bakekeep2.CrcFinds': WHATEVER THE INPUT: true; the input reads as it did. -/
def crcFindsSpec : ChangeSpec := { name := "crcFinds", fn := fun _ => fun
  | [d1, d2, d3] => { results := [.lit (.bool true)], args := [d1, d2, d3] }
  | _ => none }
def crcFindsRow : OpenClaim := { program := "ytkhjmmidaihbhaa", sum := "8a4e7e265e352efbb84924ddf9e400d7d5a8e9d7cc6946124abb33cd57eb986b", func := "bakelite/bakekeep2.CrcFinds", spec := "crcFinds", apart := false }
def CrcFindsSaid : Prop := crcFindsRow.holds Try.pinned (OpenSpec.ofChange crcFindsSpec)

/-- ITS FALSE NEIGHBOUR: 'it returns false'. Refute it at one input. -/
def crcFindsWrong : ChangeSpec := { name := "crcFinds", fn := fun _ => fun
  | [d1, d2, d3] => { results := [.lit (.bool false)], args := [d1, d2, d3] }
  | _ => none }
def CrcFindsWrongFalsely : Prop := crcFindsRow.holds Try.pinned (OpenSpec.ofChange crcFindsWrong)

/-- 'bakekeep2.ImagePuts': WHATEVER THE INPUT: true; the input reads as it did. -/
def imagePutsSpec : ChangeSpec := { name := "imagePuts", fn := fun _ => fun
  | [d1, d2, d3, d4] => { results := [.lit (.bool true)], args := [d1, d2, d3, d4] }
  | _ => none }
def imagePutsRow : OpenClaim := { program := "ytkhjmmidaihbhaa", sum := "8a4e7e265e352efbb84924ddf9e400d7d5a8e9d7cc6946124abb33cd57eb986b", func := "bakelite/bakekeep2.ImagePuts", spec := "imagePuts", apart := false }
def ImagePutsSaid : Prop := imagePutsRow.holds Try.pinned (OpenSpec.ofChange imagePutsSpec)

/-- ITS FALSE NEIGHBOUR: 'it returns false'. Refute it at one input. -/
def imagePutsWrong : ChangeSpec := { name := "imagePuts", fn := fun _ => fun
  | [d1, d2, d3, d4] => { results := [.lit (.bool false)], args := [d1, d2, d3, d4] }
  | _ => none }
def ImagePutsWrongFalsely : Prop := imagePutsRow.holds Try.pinned (OpenSpec.ofChange imagePutsWrong)

/-- 'bakekeep2.FluxShakes': WHATEVER THE INPUT: true; the input reads as it did. -/
def fluxShakesSpec : ChangeSpec := { name := "fluxShakes", fn := fun _ => fun
  | [d1, d2, d3] => { results := [.lit (.bool true)], args := [d1, d2, d3] }
  | _ => none }
def fluxShakesRow : OpenClaim := { program := "ytkhjmmidaihbhaa", sum := "8a4e7e265e352efbb84924ddf9e400d7d5a8e9d7cc6946124abb33cd57eb986b", func := "bakelite/bakekeep2.FluxShakes", spec := "fluxShakes", apart := false }
def FluxShakesSaid : Prop := fluxShakesRow.holds Try.pinned (OpenSpec.ofChange fluxShakesSpec)

/-- ITS FALSE NEIGHBOUR: 'it returns false'. Refute it at one input. -/
def fluxShakesWrong : ChangeSpec := { name := "fluxShakes", fn := fun _ => fun
  | [d1, d2, d3] => { results := [.lit (.bool false)], args := [d1, d2, d3] }
  | _ => none }
def FluxShakesWrongFalsely : Prop := fluxShakesRow.holds Try.pinned (OpenSpec.ofChange fluxShakesWrong)

/-- 'bakekeep2.FluxBack': WHATEVER THE INPUT: true; the input reads as it did. -/
def fluxBackSpec : ChangeSpec := { name := "fluxBack", fn := fun _ => fun
  | [d1, d2] => { results := [.lit (.bool true)], args := [d1, d2] }
  | _ => none }
def fluxBackRow : OpenClaim := { program := "ytkhjmmidaihbhaa", sum := "8a4e7e265e352efbb84924ddf9e400d7d5a8e9d7cc6946124abb33cd57eb986b", func := "bakelite/bakekeep2.FluxBack", spec := "fluxBack", apart := false }
def FluxBackSaid : Prop := fluxBackRow.holds Try.pinned (OpenSpec.ofChange fluxBackSpec)

/-- ITS FALSE NEIGHBOUR: 'it returns false'. Refute it at one input. -/
def fluxBackWrong : ChangeSpec := { name := "fluxBack", fn := fun _ => fun
  | [d1, d2] => { results := [.lit (.bool false)], args := [d1, d2] }
  | _ => none }
def FluxBackWrongFalsely : Prop := fluxBackRow.holds Try.pinned (OpenSpec.ofChange fluxBackWrong)

/-- 'bakekeep2.WeakNear': WHATEVER THE INPUT: true; the input reads as it did. -/
def weakNearSpec : ChangeSpec := { name := "weakNear", fn := fun _ => fun
  | [d1, d2, d3] => { results := [.lit (.bool true)], args := [d1, d2, d3] }
  | _ => none }
def weakNearRow : OpenClaim := { program := "ytkhjmmidaihbhaa", sum := "8a4e7e265e352efbb84924ddf9e400d7d5a8e9d7cc6946124abb33cd57eb986b", func := "bakelite/bakekeep2.WeakNear", spec := "weakNear", unfollowed := true, recurses := true, apart := false }
def WeakNearSaid : Prop := weakNearRow.holds Try.pinned (OpenSpec.ofChange weakNearSpec)

/-- ITS FALSE NEIGHBOUR: 'it returns false'. Refute it at one input. -/
def weakNearWrong : ChangeSpec := { name := "weakNear", fn := fun _ => fun
  | [d1, d2, d3] => { results := [.lit (.bool false)], args := [d1, d2, d3] }
  | _ => none }
def WeakNearWrongFalsely : Prop := weakNearRow.holds Try.pinned (OpenSpec.ofChange weakNearWrong)

/-- 'bakekeep2.FluxSplices': WHATEVER THE INPUT: true; the input reads as it did. -/
def fluxSplicesSpec : ChangeSpec := { name := "fluxSplices", fn := fun _ => fun
  | [d1, d2, d3] => { results := [.lit (.bool true)], args := [d1, d2, d3] }
  | _ => none }
def fluxSplicesRow : OpenClaim := { program := "ytkhjmmidaihbhaa", sum := "8a4e7e265e352efbb84924ddf9e400d7d5a8e9d7cc6946124abb33cd57eb986b", func := "bakelite/bakekeep2.FluxSplices", spec := "fluxSplices", apart := false }
def FluxSplicesSaid : Prop := fluxSplicesRow.holds Try.pinned (OpenSpec.ofChange fluxSplicesSpec)

/-- ITS FALSE NEIGHBOUR: 'it returns false'. Refute it at one input. -/
def fluxSplicesWrong : ChangeSpec := { name := "fluxSplices", fn := fun _ => fun
  | [d1, d2, d3] => { results := [.lit (.bool false)], args := [d1, d2, d3] }
  | _ => none }
def FluxSplicesWrongFalsely : Prop := fluxSplicesRow.holds Try.pinned (OpenSpec.ofChange fluxSplicesWrong)

/-- 'bakekeep2.FmBack': WHATEVER THE INPUT: true; the input reads as it did. -/
def fmBackSpec : ChangeSpec := { name := "fmBack", fn := fun _ => fun
  | [d1, d2, d3] => { results := [.lit (.bool true)], args := [d1, d2, d3] }
  | _ => none }
def fmBackRow : OpenClaim := { program := "ytkhjmmidaihbhaa", sum := "8a4e7e265e352efbb84924ddf9e400d7d5a8e9d7cc6946124abb33cd57eb986b", func := "bakelite/bakekeep2.FmBack", spec := "fmBack", apart := false }
def FmBackSaid : Prop := fmBackRow.holds Try.pinned (OpenSpec.ofChange fmBackSpec)

/-- ITS FALSE NEIGHBOUR: 'it returns false'. Refute it at one input. -/
def fmBackWrong : ChangeSpec := { name := "fmBack", fn := fun _ => fun
  | [d1, d2, d3] => { results := [.lit (.bool false)], args := [d1, d2, d3] }
  | _ => none }
def FmBackWrongFalsely : Prop := fmBackRow.holds Try.pinned (OpenSpec.ofChange fmBackWrong)

/-- 'bakekeep2.FiveSums': WHATEVER THE INPUT: true; the input reads as it did. -/
def fiveSumsSpec : ChangeSpec := { name := "fiveSums", fn := fun _ => fun
  | [d1, d2, d3, d4] => { results := [.lit (.bool true)], args := [d1, d2, d3, d4] }
  | _ => none }
def fiveSumsRow : OpenClaim := { program := "ytkhjmmidaihbhaa", sum := "8a4e7e265e352efbb84924ddf9e400d7d5a8e9d7cc6946124abb33cd57eb986b", func := "bakelite/bakekeep2.FiveSums", spec := "fiveSums", apart := false }
def FiveSumsSaid : Prop := fiveSumsRow.holds Try.pinned (OpenSpec.ofChange fiveSumsSpec)

/-- ITS FALSE NEIGHBOUR: 'it returns false'. Refute it at one input. -/
def fiveSumsWrong : ChangeSpec := { name := "fiveSums", fn := fun _ => fun
  | [d1, d2, d3, d4] => { results := [.lit (.bool false)], args := [d1, d2, d3, d4] }
  | _ => none }
def FiveSumsWrongFalsely : Prop := fiveSumsRow.holds Try.pinned (OpenSpec.ofChange fiveSumsWrong)

/-- 'bakekeep2.FiveProducts': WHATEVER THE INPUT: true; the input reads as it did. -/
def fiveProductsSpec : ChangeSpec := { name := "fiveProducts", fn := fun _ => fun
  | [d1, d2, d3] => { results := [.lit (.bool true)], args := [d1, d2, d3] }
  | _ => none }
def fiveProductsRow : OpenClaim := { program := "ytkhjmmidaihbhaa", sum := "8a4e7e265e352efbb84924ddf9e400d7d5a8e9d7cc6946124abb33cd57eb986b", func := "bakelite/bakekeep2.FiveProducts", spec := "fiveProducts", named := ["math/bits.divideError", "math/bits.overflowError"], apart := false }
def FiveProductsSaid : Prop := fiveProductsRow.holds Try.pinned (OpenSpec.ofChange fiveProductsSpec)

/-- ITS FALSE NEIGHBOUR: 'it returns false'. Refute it at one input. -/
def fiveProductsWrong : ChangeSpec := { name := "fiveProducts", fn := fun _ => fun
  | [d1, d2, d3] => { results := [.lit (.bool false)], args := [d1, d2, d3] }
  | _ => none }
def FiveProductsWrongFalsely : Prop := fiveProductsRow.holds Try.pinned (OpenSpec.ofChange fiveProductsWrong)

/-- 'bakekeep2.MfmPure': WHATEVER THE INPUT: true; the input reads as it did. -/
def mfmPureSpec : ChangeSpec := { name := "mfmPure", fn := fun _ => fun
  | [d1, d2] => { results := [.lit (.bool true)], args := [d1, d2] }
  | _ => none }
def mfmPureRow : OpenClaim := { program := "ytkhjmmidaihbhaa", sum := "8a4e7e265e352efbb84924ddf9e400d7d5a8e9d7cc6946124abb33cd57eb986b", func := "bakelite/bakekeep2.MfmPure", spec := "mfmPure", apart := false }
def MfmPureSaid : Prop := mfmPureRow.holds Try.pinned (OpenSpec.ofChange mfmPureSpec)

/-- ITS FALSE NEIGHBOUR: 'it returns false'. Refute it at one input. -/
def mfmPureWrong : ChangeSpec := { name := "mfmPure", fn := fun _ => fun
  | [d1, d2] => { results := [.lit (.bool false)], args := [d1, d2] }
  | _ => none }
def MfmPureWrongFalsely : Prop := mfmPureRow.holds Try.pinned (OpenSpec.ofChange mfmPureWrong)

/- THE SECOND FORM. 'bulk': how many values and letters a reading holds, each counted each time it is reached (what is shared counts as often as it is met; a slice's spare places count too). A statement '..UptoSaid' is the law's where the arguments, and the package variables that the reading takes, are together of bulk at most 1048576: NARROWER than '..Said'. Prove '..Said' where nothing that the law and all that it calls make is longer than what came in: it says more and counts as full. Else prove '..UptoSaid'. A law counts once. -/
mutual
def uptoBulk {H : Type} : DataW H → Nat
  | .lit (.string bytes) => bytes.length + 1
  | .lit _ => 1
  | .nil => 1
  | .ptr d => uptoBulk d + 1
  | .slice elems spare => uptoBulkAll elems + uptoBulkAll spare + 1
  | .agg parts => uptoBulkAll parts + 1
  | .iface _ d => uptoBulk d + 1
  | .map entries => uptoBulkEntries entries + 1
  | .held _ => 1
def uptoBulkAll {H : Type} : List (DataW H) → Nat
  | [] => 0
  | d :: r => uptoBulk d + uptoBulkAll r
def uptoBulkEntries {H : Type} : List (Lit × DataW H) → Nat
  | [] => 0
  | x :: r => uptoBulkEntry x + uptoBulkEntries r
def uptoBulkEntry {H : Type} : Lit × DataW H → Nat
  | (.string bytes, d) => bytes.length + uptoBulk d + 1
  | (_, d) => uptoBulk d + 1
 end
def uptoSmall : (H : Type) → List (DataW H) → Bool := fun _ ds => decide (uptoBulkAll ds ≤ 1048576)
def OpenSpec.upto (s : _root_.Go.ChangeSpec) : _root_.Go.OpenSpec := { _root_.Go.OpenSpec.ofChange s with cond := some uptoSmall }

/-- 'bakekeep2.CrcJoins', WHERE WHAT IT READS IS OF BULK AT MOST 1048576: true; the input reads as it did. -/
def crcJoinsUptoRow : OpenClaim := { program := "ytkhjmmidaihbhaa", sum := "8a4e7e265e352efbb84924ddf9e400d7d5a8e9d7cc6946124abb33cd57eb986b", func := "bakelite/bakekeep2.CrcJoins", spec := "crcJoins", apart := false, narrowed := true }
def CrcJoinsUptoSaid : Prop := crcJoinsUptoRow.holds Try.pinned (OpenSpec.upto crcJoinsSpec)

/-- 'bakekeep2.CrcFinds', WHERE WHAT IT READS IS OF BULK AT MOST 1048576: true; the input reads as it did. -/
def crcFindsUptoRow : OpenClaim := { program := "ytkhjmmidaihbhaa", sum := "8a4e7e265e352efbb84924ddf9e400d7d5a8e9d7cc6946124abb33cd57eb986b", func := "bakelite/bakekeep2.CrcFinds", spec := "crcFinds", apart := false, narrowed := true }
def CrcFindsUptoSaid : Prop := crcFindsUptoRow.holds Try.pinned (OpenSpec.upto crcFindsSpec)

/-- 'bakekeep2.ImagePuts', WHERE WHAT IT READS IS OF BULK AT MOST 1048576: true; the input reads as it did. -/
def imagePutsUptoRow : OpenClaim := { program := "ytkhjmmidaihbhaa", sum := "8a4e7e265e352efbb84924ddf9e400d7d5a8e9d7cc6946124abb33cd57eb986b", func := "bakelite/bakekeep2.ImagePuts", spec := "imagePuts", apart := false, narrowed := true }
def ImagePutsUptoSaid : Prop := imagePutsUptoRow.holds Try.pinned (OpenSpec.upto imagePutsSpec)

/-- 'bakekeep2.FluxShakes', WHERE WHAT IT READS IS OF BULK AT MOST 1048576: true; the input reads as it did. -/
def fluxShakesUptoRow : OpenClaim := { program := "ytkhjmmidaihbhaa", sum := "8a4e7e265e352efbb84924ddf9e400d7d5a8e9d7cc6946124abb33cd57eb986b", func := "bakelite/bakekeep2.FluxShakes", spec := "fluxShakes", apart := false, narrowed := true }
def FluxShakesUptoSaid : Prop := fluxShakesUptoRow.holds Try.pinned (OpenSpec.upto fluxShakesSpec)

/-- 'bakekeep2.FluxBack', WHERE WHAT IT READS IS OF BULK AT MOST 1048576: true; the input reads as it did. -/
def fluxBackUptoRow : OpenClaim := { program := "ytkhjmmidaihbhaa", sum := "8a4e7e265e352efbb84924ddf9e400d7d5a8e9d7cc6946124abb33cd57eb986b", func := "bakelite/bakekeep2.FluxBack", spec := "fluxBack", apart := false, narrowed := true }
def FluxBackUptoSaid : Prop := fluxBackUptoRow.holds Try.pinned (OpenSpec.upto fluxBackSpec)

/-- 'bakekeep2.WeakNear', WHERE WHAT IT READS IS OF BULK AT MOST 1048576: true; the input reads as it did. -/
def weakNearUptoRow : OpenClaim := { program := "ytkhjmmidaihbhaa", sum := "8a4e7e265e352efbb84924ddf9e400d7d5a8e9d7cc6946124abb33cd57eb986b", func := "bakelite/bakekeep2.WeakNear", spec := "weakNear", unfollowed := true, recurses := true, apart := false, narrowed := true }
def WeakNearUptoSaid : Prop := weakNearUptoRow.holds Try.pinned (OpenSpec.upto weakNearSpec)

/-- 'bakekeep2.FluxSplices', WHERE WHAT IT READS IS OF BULK AT MOST 1048576: true; the input reads as it did. -/
def fluxSplicesUptoRow : OpenClaim := { program := "ytkhjmmidaihbhaa", sum := "8a4e7e265e352efbb84924ddf9e400d7d5a8e9d7cc6946124abb33cd57eb986b", func := "bakelite/bakekeep2.FluxSplices", spec := "fluxSplices", apart := false, narrowed := true }
def FluxSplicesUptoSaid : Prop := fluxSplicesUptoRow.holds Try.pinned (OpenSpec.upto fluxSplicesSpec)

/-- 'bakekeep2.FmBack', WHERE WHAT IT READS IS OF BULK AT MOST 1048576: true; the input reads as it did. -/
def fmBackUptoRow : OpenClaim := { program := "ytkhjmmidaihbhaa", sum := "8a4e7e265e352efbb84924ddf9e400d7d5a8e9d7cc6946124abb33cd57eb986b", func := "bakelite/bakekeep2.FmBack", spec := "fmBack", apart := false, narrowed := true }
def FmBackUptoSaid : Prop := fmBackUptoRow.holds Try.pinned (OpenSpec.upto fmBackSpec)

/-- 'bakekeep2.FiveSums', WHERE WHAT IT READS IS OF BULK AT MOST 1048576: true; the input reads as it did. -/
def fiveSumsUptoRow : OpenClaim := { program := "ytkhjmmidaihbhaa", sum := "8a4e7e265e352efbb84924ddf9e400d7d5a8e9d7cc6946124abb33cd57eb986b", func := "bakelite/bakekeep2.FiveSums", spec := "fiveSums", apart := false, narrowed := true }
def FiveSumsUptoSaid : Prop := fiveSumsUptoRow.holds Try.pinned (OpenSpec.upto fiveSumsSpec)

/-- 'bakekeep2.FiveProducts', WHERE WHAT IT READS IS OF BULK AT MOST 1048576: true; the input reads as it did. -/
def fiveProductsUptoRow : OpenClaim := { program := "ytkhjmmidaihbhaa", sum := "8a4e7e265e352efbb84924ddf9e400d7d5a8e9d7cc6946124abb33cd57eb986b", func := "bakelite/bakekeep2.FiveProducts", spec := "fiveProducts", named := ["math/bits.divideError", "math/bits.overflowError"], apart := false, narrowed := true }
def FiveProductsUptoSaid : Prop := fiveProductsUptoRow.holds Try.pinned (OpenSpec.upto fiveProductsSpec)

/-- 'bakekeep2.MfmPure', WHERE WHAT IT READS IS OF BULK AT MOST 1048576: true; the input reads as it did. -/
def mfmPureUptoRow : OpenClaim := { program := "ytkhjmmidaihbhaa", sum := "8a4e7e265e352efbb84924ddf9e400d7d5a8e9d7cc6946124abb33cd57eb986b", func := "bakelite/bakekeep2.MfmPure", spec := "mfmPure", apart := false, narrowed := true }
def MfmPureUptoSaid : Prop := mfmPureUptoRow.holds Try.pinned (OpenSpec.upto mfmPureSpec)

end Rows
end Go.Proofs.Ytkhjmmidaihbhaa
