/-
  DERIVED. GIVEN WITH THE SEED: THE CARDS: each row of YtpmcajokddjkeaaDoorRows.lean that lists a variable, with what it lists TIED to the program's text (the seventh form; the later family's looks); each row that meets fmt, with fmt's text TOLD by the authors' own Lean function (tested against real Go, not proved from fmt's source: count such statements apart). THE CARD IS WHAT COUNTS. Prove the row's statement (the work); the ties are given (YtpmcajokddjkeaaDoorTie.lean); close each card by the builder's one call (the guide's Derived/Test/ToyasCard.lean, 'card_holds'). Laid BY PROGRAM, IN A SANDBOX (cutbox-door.mjs). By AI agents, Wed Nov 11 2026. No macro, syntax, notation, axiom, sorry.
-/
import Derived.Test.YtpmcajokddjkeaaDoorRows
import GoSem.ClaimSeven
namespace Go.Proofs.YtpmcajokddjkeaaDoor
namespace Rows

/-- THE TIED CARD OF 'bakekeep2.ObjMoved'. -/
def objMovedCard : Claim7 := { stood := { row := objMovedRow, standIns := [], harness := (true, "7fec3ca51854827b4c2acf0c7f31f94c021a543d73b8a321116b20f0d6ba7612"), looks := true }, kinds := [], alts := [], laidByText := true, laidKinds := [.data, .data, .data], laidTests := true, laidLooks := .later }
def ObjMovedCardSaid : Prop := Claim7.holds Tryd.pinned (.plain (OpenSpec.ofChange objMovedSpec)) objMovedCard

/-- THE TIED CARD OF 'bakekeep2.ExprSums'. -/
def exprSumsCard : Claim7 := { stood := { row := exprSumsRow, standIns := [], harness := (true, "7fec3ca51854827b4c2acf0c7f31f94c021a543d73b8a321116b20f0d6ba7612"), looks := true }, kinds := [], alts := [], laidByText := true, laidKinds := [.data, .data, .data], laidTests := true, laidLooks := .later }
def ExprSumsCardSaid : Prop := Claim7.holds Tryd.pinned (.plain (OpenSpec.ofChange exprSumsSpec)) exprSumsCard

/-- THE TIED CARD OF 'bakekeep2.ObjLinked'. -/
def objLinkedCard : Claim7 := { stood := { row := objLinkedRow, standIns := [], harness := (true, "7fec3ca51854827b4c2acf0c7f31f94c021a543d73b8a321116b20f0d6ba7612"), looks := true }, kinds := [], alts := [], laidByText := true, laidKinds := [.data, .data, .data], laidTests := true, laidLooks := .later }
def ObjLinkedCardSaid : Prop := Claim7.holds Tryd.pinned (.plain (OpenSpec.ofChange objLinkedSpec)) objLinkedCard

/-- THE TIED CARD OF 'bakekeep2.ObjBack'. -/
def objBackCard : Claim7 := { stood := { row := objBackRow, standIns := [], harness := (true, "7fec3ca51854827b4c2acf0c7f31f94c021a543d73b8a321116b20f0d6ba7612"), looks := true }, kinds := [], alts := [], laidByText := true, laidKinds := [.data, .data, .data, .data, .sentinel, .sentinel, .pinned], laidTests := true, laidLooks := .later }
def ObjBackCardSaid : Prop := Claim7.holds Tryd.pinned (.plain (OpenSpec.ofChange objBackSpec)) objBackCard

/-- THE TIED CARD OF 'bakekeep2.ConvSizes'. -/
def convSizesCard : Claim7 := { stood := { row := convSizesRow, standIns := [], harness := (true, "7fec3ca51854827b4c2acf0c7f31f94c021a543d73b8a321116b20f0d6ba7612"), looks := true }, kinds := [], alts := [], laidByText := true, laidKinds := [.data, .pinned], laidTests := true, laidLooks := .later }
def ConvSizesCardSaid : Prop := Claim7.holds Tryd.pinned (.plain (OpenSpec.ofChange convSizesSpec)) convSizesCard

/-- THE SECOND FORM's CARD OF 'bakekeep2.ObjMoved'. -/
def objMovedUptoCard : Claim7 := { stood := { row := objMovedUptoRow, standIns := [], harness := (true, "7fec3ca51854827b4c2acf0c7f31f94c021a543d73b8a321116b20f0d6ba7612"), looks := true }, kinds := [], alts := [], laidByText := true, laidKinds := [.data, .data, .data], laidTests := true, laidLooks := .later }
def ObjMovedUptoCardSaid : Prop := Claim7.holds Tryd.pinned (.plain (OpenSpec.upto objMovedSpec)) objMovedUptoCard

/-- THE SECOND FORM's CARD OF 'bakekeep2.ExprSums'. -/
def exprSumsUptoCard : Claim7 := { stood := { row := exprSumsUptoRow, standIns := [], harness := (true, "7fec3ca51854827b4c2acf0c7f31f94c021a543d73b8a321116b20f0d6ba7612"), looks := true }, kinds := [], alts := [], laidByText := true, laidKinds := [.data, .data, .data], laidTests := true, laidLooks := .later }
def ExprSumsUptoCardSaid : Prop := Claim7.holds Tryd.pinned (.plain (OpenSpec.upto exprSumsSpec)) exprSumsUptoCard

/-- THE SECOND FORM's CARD OF 'bakekeep2.ObjLinked'. -/
def objLinkedUptoCard : Claim7 := { stood := { row := objLinkedUptoRow, standIns := [], harness := (true, "7fec3ca51854827b4c2acf0c7f31f94c021a543d73b8a321116b20f0d6ba7612"), looks := true }, kinds := [], alts := [], laidByText := true, laidKinds := [.data, .data, .data], laidTests := true, laidLooks := .later }
def ObjLinkedUptoCardSaid : Prop := Claim7.holds Tryd.pinned (.plain (OpenSpec.upto objLinkedSpec)) objLinkedUptoCard

/-- THE SECOND FORM's CARD OF 'bakekeep2.ObjBack'. -/
def objBackUptoCard : Claim7 := { stood := { row := objBackUptoRow, standIns := [], harness := (true, "7fec3ca51854827b4c2acf0c7f31f94c021a543d73b8a321116b20f0d6ba7612"), looks := true }, kinds := [], alts := [], laidByText := true, laidKinds := [.data, .data, .data, .data, .sentinel, .sentinel, .pinned], laidTests := true, laidLooks := .later }
def ObjBackUptoCardSaid : Prop := Claim7.holds Tryd.pinned (.plain (OpenSpec.upto objBackSpec)) objBackUptoCard

/-- THE SECOND FORM's CARD OF 'bakekeep2.ConvSizes'. -/
def convSizesUptoCard : Claim7 := { stood := { row := convSizesUptoRow, standIns := [], harness := (true, "7fec3ca51854827b4c2acf0c7f31f94c021a543d73b8a321116b20f0d6ba7612"), looks := true }, kinds := [], alts := [], laidByText := true, laidKinds := [.data, .pinned], laidTests := true, laidLooks := .later }
def ConvSizesUptoCardSaid : Prop := Claim7.holds Tryd.pinned (.plain (OpenSpec.upto convSizesSpec)) convSizesUptoCard
end Rows
end Go.Proofs.YtpmcajokddjkeaaDoor
