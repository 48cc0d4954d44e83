/-
  No cell of these rows narrows 'for every input' (looked for: loops, veiled, ifaces, maps, wideKeys, modest, calm, conditions, laid).
  DERIVED. THE GIVEN ROWS OF THIS SEAT. 10 by the template 'for every input the law returns true; each argument reads behind the call as it read before'; 0 by the template 'total and deterministic' (their statements: YtejedmocjdcdgaaTotals.lean).
  GIVEN WITH THE SEED: the statements are not yours to turn. If you find one false, say at which input.
  Laid BY PROGRAM, IN A SANDBOX (cutbox-rows.mjs): the forced cells as the released guide's own fill.sh prints them over the translation 830878692aed3fb1… (all of the seat's roots in one cut). By AI agents, Wed Nov 11 2026. No macro, syntax, notation, axiom, sorry.
-/
import Derived.Test.YtejedmocjdcdgaaChecked
import GoSem.Claim
import GoSem.ClaimJoined
import GoSem.ClaimMapViews
import Derived.JoinedTies
import Derived.KernelRfl
namespace Go.Proofs.Ytejedmocjdcdgaa
/- THE CELL 'sum', in the pinned program and in every row, IS THE sha256 OF THE DUMP (.gsa) THAT YtejedmocjdcdgaaProg.lean LOADS. Nothing in Lean hashes anything: it is a label: what it is worth is what the hold of that sum in a sandbox is worth. -/
noncomputable def Try.pinned : Pinned := { name := "ytejedmocjdcdgaa", sum := "830878692aed3fb19bbadbfe62eed17c518e35b80ce9e70b676960bb7c155990", checked := Try.checked }
namespace Rows
def none {H : Type} : Left H := { results := [], args := [] }

/-- 'bakekeep2.GcrBack': WHATEVER THE INPUT: true; the input reads as it did. -/
def gcrBackSpec : ChangeSpec := { name := "gcrBack", fn := fun _ => fun
  | [d1, d2, d3] => { results := [.lit (.bool true)], args := [d1, d2, d3] }
  | _ => none }
def gcrBackRow : OpenClaim := { program := "ytejedmocjdcdgaa", sum := "830878692aed3fb19bbadbfe62eed17c518e35b80ce9e70b676960bb7c155990", func := "bakelite/bakekeep2.GcrBack", spec := "gcrBack", unfollowed := true, recurses := true, apart := false }
def GcrBackSaid : Prop := gcrBackRow.holds Try.pinned (OpenSpec.ofChange gcrBackSpec)

/-- ITS FALSE NEIGHBOUR: 'it returns false'. Refute it at one input. -/
def gcrBackWrong : ChangeSpec := { name := "gcrBack", fn := fun _ => fun
  | [d1, d2, d3] => { results := [.lit (.bool false)], args := [d1, d2, d3] }
  | _ => none }
def GcrBackWrongFalsely : Prop := gcrBackRow.holds Try.pinned (OpenSpec.ofChange gcrBackWrong)

/-- 'bakekeep2.TapeBack': WHATEVER THE INPUT: true; the input reads as it did. -/
def tapeBackSpec : ChangeSpec := { name := "tapeBack", fn := fun _ => fun
  | [d1, d2, d3] => { results := [.lit (.bool true)], args := [d1, d2, d3] }
  | _ => none }
def tapeBackRow : OpenClaim := { program := "ytejedmocjdcdgaa", sum := "830878692aed3fb19bbadbfe62eed17c518e35b80ce9e70b676960bb7c155990", func := "bakelite/bakekeep2.TapeBack", spec := "tapeBack", unfollowed := true, recurses := true, apart := false }
def TapeBackSaid : Prop := tapeBackRow.holds Try.pinned (OpenSpec.ofChange tapeBackSpec)

/-- ITS FALSE NEIGHBOUR: 'it returns false'. Refute it at one input. -/
def tapeBackWrong : ChangeSpec := { name := "tapeBack", fn := fun _ => fun
  | [d1, d2, d3] => { results := [.lit (.bool false)], args := [d1, d2, d3] }
  | _ => none }
def TapeBackWrongFalsely : Prop := tapeBackRow.holds Try.pinned (OpenSpec.ofChange tapeBackWrong)

/-- 'bakekeep2.MfmBack': WHATEVER THE INPUT: true; the input reads as it did. -/
def mfmBackSpec : ChangeSpec := { name := "mfmBack", fn := fun _ => fun
  | [d1, d2, d3] => { results := [.lit (.bool true)], args := [d1, d2, d3] }
  | _ => none }
def mfmBackRow : OpenClaim := { program := "ytejedmocjdcdgaa", sum := "830878692aed3fb19bbadbfe62eed17c518e35b80ce9e70b676960bb7c155990", func := "bakelite/bakekeep2.MfmBack", spec := "mfmBack", unfollowed := true, recurses := true, apart := false }
def MfmBackSaid : Prop := mfmBackRow.holds Try.pinned (OpenSpec.ofChange mfmBackSpec)

/-- ITS FALSE NEIGHBOUR: 'it returns false'. Refute it at one input. -/
def mfmBackWrong : ChangeSpec := { name := "mfmBack", fn := fun _ => fun
  | [d1, d2, d3] => { results := [.lit (.bool false)], args := [d1, d2, d3] }
  | _ => none }
def MfmBackWrongFalsely : Prop := mfmBackRow.holds Try.pinned (OpenSpec.ofChange mfmBackWrong)

/-- 'bakekeep2.ChainFound': WHATEVER THE INPUT: true; the input reads as it did. -/
def chainFoundSpec : ChangeSpec := { name := "chainFound", fn := fun _ => fun
  | [d1, d2, d3] => { results := [.lit (.bool true)], args := [d1, d2, d3] }
  | _ => none }
def chainFoundRow : OpenClaim := { program := "ytejedmocjdcdgaa", sum := "830878692aed3fb19bbadbfe62eed17c518e35b80ce9e70b676960bb7c155990", func := "bakelite/bakekeep2.ChainFound", spec := "chainFound", unfollowed := true, recurses := true, apart := false }
def ChainFoundSaid : Prop := chainFoundRow.holds Try.pinned (OpenSpec.ofChange chainFoundSpec)

/-- ITS FALSE NEIGHBOUR: 'it returns false'. Refute it at one input. -/
def chainFoundWrong : ChangeSpec := { name := "chainFound", fn := fun _ => fun
  | [d1, d2, d3] => { results := [.lit (.bool false)], args := [d1, d2, d3] }
  | _ => none }
def ChainFoundWrongFalsely : Prop := chainFoundRow.holds Try.pinned (OpenSpec.ofChange chainFoundWrong)

/-- 'bakekeep2.ExprNames': WHATEVER THE INPUT: true; the input reads as it did. -/
def exprNamesSpec : ChangeSpec := { name := "exprNames", fn := fun _ => fun
  | [d] => { results := [.lit (.bool true)], args := [d] }
  | _ => none }
def exprNamesRow : OpenClaim := { program := "ytejedmocjdcdgaa", sum := "830878692aed3fb19bbadbfe62eed17c518e35b80ce9e70b676960bb7c155990", func := "bakelite/bakekeep2.ExprNames", spec := "exprNames", unfollowed := true, recurses := true, apart := false }
def ExprNamesSaid : Prop := exprNamesRow.holds Try.pinned (OpenSpec.ofChange exprNamesSpec)

/-- ITS FALSE NEIGHBOUR: 'it returns false'. Refute it at one input. -/
def exprNamesWrong : ChangeSpec := { name := "exprNames", fn := fun _ => fun
  | [d] => { results := [.lit (.bool false)], args := [d] }
  | _ => none }
def ExprNamesWrongFalsely : Prop := exprNamesRow.holds Try.pinned (OpenSpec.ofChange exprNamesWrong)

/-- 'bakekeep2.SectBack': WHATEVER THE INPUT: true; the input reads as it did. -/
def sectBackSpec : ChangeSpec := { name := "sectBack", fn := fun _ => fun
  | [d1, d2] => { results := [.lit (.bool true)], args := [d1, d2] }
  | _ => none }
def sectBackRow : OpenClaim := { program := "ytejedmocjdcdgaa", sum := "830878692aed3fb19bbadbfe62eed17c518e35b80ce9e70b676960bb7c155990", func := "bakelite/bakekeep2.SectBack", spec := "sectBack", unfollowed := true, recurses := true, apart := false }
def SectBackSaid : Prop := sectBackRow.holds Try.pinned (OpenSpec.ofChange sectBackSpec)

/-- ITS FALSE NEIGHBOUR: 'it returns false'. Refute it at one input. -/
def sectBackWrong : ChangeSpec := { name := "sectBack", fn := fun _ => fun
  | [d1, d2] => { results := [.lit (.bool false)], args := [d1, d2] }
  | _ => none }
def SectBackWrongFalsely : Prop := sectBackRow.holds Try.pinned (OpenSpec.ofChange sectBackWrong)

/-- 'bakekeep2.MendGood': WHATEVER THE INPUT: true; the input reads as it did. -/
def mendGoodSpec : ChangeSpec := { name := "mendGood", fn := fun _ => fun
  | [d1, d2, d3, d4] => { results := [.lit (.bool true)], args := [d1, d2, d3, d4] }
  | _ => none }
def mendGoodRow : OpenClaim := { program := "ytejedmocjdcdgaa", sum := "830878692aed3fb19bbadbfe62eed17c518e35b80ce9e70b676960bb7c155990", func := "bakelite/bakekeep2.MendGood", spec := "mendGood", unfollowed := true, recurses := true, apart := false }
def MendGoodSaid : Prop := mendGoodRow.holds Try.pinned (OpenSpec.ofChange mendGoodSpec)

/-- ITS FALSE NEIGHBOUR: 'it returns false'. Refute it at one input. -/
def mendGoodWrong : ChangeSpec := { name := "mendGood", fn := fun _ => fun
  | [d1, d2, d3, d4] => { results := [.lit (.bool false)], args := [d1, d2, d3, d4] }
  | _ => none }
def MendGoodWrongFalsely : Prop := mendGoodRow.holds Try.pinned (OpenSpec.ofChange mendGoodWrong)

/-- 'bakekeep2.ChainKeeps': WHATEVER THE INPUT: true; the input reads as it did. -/
def chainKeepsSpec : ChangeSpec := { name := "chainKeeps", fn := fun _ => fun
  | [d1, d2, d3] => { results := [.lit (.bool true)], args := [d1, d2, d3] }
  | _ => none }
def chainKeepsRow : OpenClaim := { program := "ytejedmocjdcdgaa", sum := "830878692aed3fb19bbadbfe62eed17c518e35b80ce9e70b676960bb7c155990", func := "bakelite/bakekeep2.ChainKeeps", spec := "chainKeeps", unfollowed := true, recurses := true, apart := false }
def ChainKeepsSaid : Prop := chainKeepsRow.holds Try.pinned (OpenSpec.ofChange chainKeepsSpec)

/-- ITS FALSE NEIGHBOUR: 'it returns false'. Refute it at one input. -/
def chainKeepsWrong : ChangeSpec := { name := "chainKeeps", fn := fun _ => fun
  | [d1, d2, d3] => { results := [.lit (.bool false)], args := [d1, d2, d3] }
  | _ => none }
def ChainKeepsWrongFalsely : Prop := chainKeepsRow.holds Try.pinned (OpenSpec.ofChange chainKeepsWrong)

/-- 'bakekeep2.ChainRooms': WHATEVER THE INPUT: true; the input reads as it did. -/
def chainRoomsSpec : ChangeSpec := { name := "chainRooms", fn := fun _ => fun
  | [d1, d2] => { results := [.lit (.bool true)], args := [d1, d2] }
  | _ => none }
def chainRoomsRow : OpenClaim := { program := "ytejedmocjdcdgaa", sum := "830878692aed3fb19bbadbfe62eed17c518e35b80ce9e70b676960bb7c155990", func := "bakelite/bakekeep2.ChainRooms", spec := "chainRooms", unfollowed := true, recurses := true, apart := false }
def ChainRoomsSaid : Prop := chainRoomsRow.holds Try.pinned (OpenSpec.ofChange chainRoomsSpec)

/-- ITS FALSE NEIGHBOUR: 'it returns false'. Refute it at one input. -/
def chainRoomsWrong : ChangeSpec := { name := "chainRooms", fn := fun _ => fun
  | [d1, d2] => { results := [.lit (.bool false)], args := [d1, d2] }
  | _ => none }
def ChainRoomsWrongFalsely : Prop := chainRoomsRow.holds Try.pinned (OpenSpec.ofChange chainRoomsWrong)

/-- 'bakekeep2.ImageBack': WHATEVER THE INPUT: true; the input reads as it did. -/
def imageBackSpec : ChangeSpec := { name := "imageBack", fn := fun _ => fun
  | [d1, d2] => { results := [.lit (.bool true)], args := [d1, d2] }
  | _ => none }
def imageBackRow : OpenClaim := { program := "ytejedmocjdcdgaa", sum := "830878692aed3fb19bbadbfe62eed17c518e35b80ce9e70b676960bb7c155990", func := "bakelite/bakekeep2.ImageBack", spec := "imageBack", unfollowed := true, recurses := true, apart := false }
def ImageBackSaid : Prop := imageBackRow.holds Try.pinned (OpenSpec.ofChange imageBackSpec)

/-- ITS FALSE NEIGHBOUR: 'it returns false'. Refute it at one input. -/
def imageBackWrong : ChangeSpec := { name := "imageBack", fn := fun _ => fun
  | [d1, d2] => { results := [.lit (.bool false)], args := [d1, d2] }
  | _ => none }
def ImageBackWrongFalsely : Prop := imageBackRow.holds Try.pinned (OpenSpec.ofChange imageBackWrong)

/- THE SECOND FORM. 'bulk': how many values and letters a reading holds, each counted each time it is reached (what is shared counts as often as it is met; a slice's spare places count too). A statement '..UptoSaid' is the law's where the arguments, and the package variables that the reading takes, are together of bulk at most 1048576: NARROWER than '..Said'. Prove '..Said' where nothing that the law and all that it calls make is longer than what came in: it says more and counts as full. Else prove '..UptoSaid'. A law counts once. -/
mutual
def uptoBulk {H : Type} : DataW H → Nat
  | .lit (.string bytes) => bytes.length + 1
  | .lit _ => 1
  | .nil => 1
  | .ptr d => uptoBulk d + 1
  | .slice elems spare => uptoBulkAll elems + uptoBulkAll spare + 1
  | .agg parts => uptoBulkAll parts + 1
  | .iface _ d => uptoBulk d + 1
  | .map entries => uptoBulkEntries entries + 1
  | .held _ => 1
def uptoBulkAll {H : Type} : List (DataW H) → Nat
  | [] => 0
  | d :: r => uptoBulk d + uptoBulkAll r
def uptoBulkEntries {H : Type} : List (Lit × DataW H) → Nat
  | [] => 0
  | x :: r => uptoBulkEntry x + uptoBulkEntries r
def uptoBulkEntry {H : Type} : Lit × DataW H → Nat
  | (.string bytes, d) => bytes.length + uptoBulk d + 1
  | (_, d) => uptoBulk d + 1
 end
def uptoSmall : (H : Type) → List (DataW H) → Bool := fun _ ds => decide (uptoBulkAll ds ≤ 1048576)
def OpenSpec.upto (s : _root_.Go.ChangeSpec) : _root_.Go.OpenSpec := { _root_.Go.OpenSpec.ofChange s with cond := some uptoSmall }

/-- 'bakekeep2.GcrBack', WHERE WHAT IT READS IS OF BULK AT MOST 1048576: true; the input reads as it did. -/
def gcrBackUptoRow : OpenClaim := { program := "ytejedmocjdcdgaa", sum := "830878692aed3fb19bbadbfe62eed17c518e35b80ce9e70b676960bb7c155990", func := "bakelite/bakekeep2.GcrBack", spec := "gcrBack", unfollowed := true, recurses := true, apart := false, narrowed := true }
def GcrBackUptoSaid : Prop := gcrBackUptoRow.holds Try.pinned (OpenSpec.upto gcrBackSpec)

/-- 'bakekeep2.TapeBack', WHERE WHAT IT READS IS OF BULK AT MOST 1048576: true; the input reads as it did. -/
def tapeBackUptoRow : OpenClaim := { program := "ytejedmocjdcdgaa", sum := "830878692aed3fb19bbadbfe62eed17c518e35b80ce9e70b676960bb7c155990", func := "bakelite/bakekeep2.TapeBack", spec := "tapeBack", unfollowed := true, recurses := true, apart := false, narrowed := true }
def TapeBackUptoSaid : Prop := tapeBackUptoRow.holds Try.pinned (OpenSpec.upto tapeBackSpec)

/-- 'bakekeep2.MfmBack', WHERE WHAT IT READS IS OF BULK AT MOST 1048576: true; the input reads as it did. -/
def mfmBackUptoRow : OpenClaim := { program := "ytejedmocjdcdgaa", sum := "830878692aed3fb19bbadbfe62eed17c518e35b80ce9e70b676960bb7c155990", func := "bakelite/bakekeep2.MfmBack", spec := "mfmBack", unfollowed := true, recurses := true, apart := false, narrowed := true }
def MfmBackUptoSaid : Prop := mfmBackUptoRow.holds Try.pinned (OpenSpec.upto mfmBackSpec)

/-- 'bakekeep2.ChainFound', WHERE WHAT IT READS IS OF BULK AT MOST 1048576: true; the input reads as it did. -/
def chainFoundUptoRow : OpenClaim := { program := "ytejedmocjdcdgaa", sum := "830878692aed3fb19bbadbfe62eed17c518e35b80ce9e70b676960bb7c155990", func := "bakelite/bakekeep2.ChainFound", spec := "chainFound", unfollowed := true, recurses := true, apart := false, narrowed := true }
def ChainFoundUptoSaid : Prop := chainFoundUptoRow.holds Try.pinned (OpenSpec.upto chainFoundSpec)

/-- 'bakekeep2.ExprNames', WHERE WHAT IT READS IS OF BULK AT MOST 1048576: true; the input reads as it did. -/
def exprNamesUptoRow : OpenClaim := { program := "ytejedmocjdcdgaa", sum := "830878692aed3fb19bbadbfe62eed17c518e35b80ce9e70b676960bb7c155990", func := "bakelite/bakekeep2.ExprNames", spec := "exprNames", unfollowed := true, recurses := true, apart := false, narrowed := true }
def ExprNamesUptoSaid : Prop := exprNamesUptoRow.holds Try.pinned (OpenSpec.upto exprNamesSpec)

/-- 'bakekeep2.SectBack', WHERE WHAT IT READS IS OF BULK AT MOST 1048576: true; the input reads as it did. -/
def sectBackUptoRow : OpenClaim := { program := "ytejedmocjdcdgaa", sum := "830878692aed3fb19bbadbfe62eed17c518e35b80ce9e70b676960bb7c155990", func := "bakelite/bakekeep2.SectBack", spec := "sectBack", unfollowed := true, recurses := true, apart := false, narrowed := true }
def SectBackUptoSaid : Prop := sectBackUptoRow.holds Try.pinned (OpenSpec.upto sectBackSpec)

/-- 'bakekeep2.MendGood', WHERE WHAT IT READS IS OF BULK AT MOST 1048576: true; the input reads as it did. -/
def mendGoodUptoRow : OpenClaim := { program := "ytejedmocjdcdgaa", sum := "830878692aed3fb19bbadbfe62eed17c518e35b80ce9e70b676960bb7c155990", func := "bakelite/bakekeep2.MendGood", spec := "mendGood", unfollowed := true, recurses := true, apart := false, narrowed := true }
def MendGoodUptoSaid : Prop := mendGoodUptoRow.holds Try.pinned (OpenSpec.upto mendGoodSpec)

/-- 'bakekeep2.ChainKeeps', WHERE WHAT IT READS IS OF BULK AT MOST 1048576: true; the input reads as it did. -/
def chainKeepsUptoRow : OpenClaim := { program := "ytejedmocjdcdgaa", sum := "830878692aed3fb19bbadbfe62eed17c518e35b80ce9e70b676960bb7c155990", func := "bakelite/bakekeep2.ChainKeeps", spec := "chainKeeps", unfollowed := true, recurses := true, apart := false, narrowed := true }
def ChainKeepsUptoSaid : Prop := chainKeepsUptoRow.holds Try.pinned (OpenSpec.upto chainKeepsSpec)

/-- 'bakekeep2.ChainRooms', WHERE WHAT IT READS IS OF BULK AT MOST 1048576: true; the input reads as it did. -/
def chainRoomsUptoRow : OpenClaim := { program := "ytejedmocjdcdgaa", sum := "830878692aed3fb19bbadbfe62eed17c518e35b80ce9e70b676960bb7c155990", func := "bakelite/bakekeep2.ChainRooms", spec := "chainRooms", unfollowed := true, recurses := true, apart := false, narrowed := true }
def ChainRoomsUptoSaid : Prop := chainRoomsUptoRow.holds Try.pinned (OpenSpec.upto chainRoomsSpec)

/-- 'bakekeep2.ImageBack', WHERE WHAT IT READS IS OF BULK AT MOST 1048576: true; the input reads as it did. -/
def imageBackUptoRow : OpenClaim := { program := "ytejedmocjdcdgaa", sum := "830878692aed3fb19bbadbfe62eed17c518e35b80ce9e70b676960bb7c155990", func := "bakelite/bakekeep2.ImageBack", spec := "imageBack", unfollowed := true, recurses := true, apart := false, narrowed := true }
def ImageBackUptoSaid : Prop := imageBackUptoRow.holds Try.pinned (OpenSpec.upto imageBackSpec)

end Rows
end Go.Proofs.Ytejedmocjdcdgaa
