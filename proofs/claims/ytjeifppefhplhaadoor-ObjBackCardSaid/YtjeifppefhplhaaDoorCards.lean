/-
  DERIVED. GIVEN WITH THE SEED: THE CARDS: each row of YtjeifppefhplhaaDoorRows.lean that lists a variable, with what it lists TIED to the program's text (the seventh form; the later family's looks); each row that meets fmt, with fmt's text TOLD by the authors' own Lean function (tested against real Go, not proved from fmt's source: count such statements apart). THE CARD IS WHAT COUNTS. Prove the row's statement (the work); the ties are given (YtjeifppefhplhaaDoorTie.lean); close each card by the builder's one call (the guide's Derived/Test/ToyasCard.lean, 'card_holds'). Laid BY PROGRAM, IN A SANDBOX (cutbox-door.mjs). By AI agents, Wed Nov 11 2026. No macro, syntax, notation, axiom, sorry.
-/
import Derived.Test.YtjeifppefhplhaaDoorRows
import GoSem.ClaimSeven
namespace Go.Proofs.YtjeifppefhplhaaDoor
namespace Rows

/-- THE TIED CARD OF 'bakekeep2.ObjLinked'. -/
def objLinkedCard : Claim7 := { stood := { row := objLinkedRow, standIns := [], harness := (true, "c9219cac1387c8935ed31b0802debbe1b8eca988f8b3aa92f57e14146c9680da"), looks := true }, kinds := [], alts := [], laidByText := true, laidKinds := [.data, .data, .data], laidTests := true, laidLooks := .later }
def ObjLinkedCardSaid : Prop := Claim7.holds Tryd.pinned (.plain (OpenSpec.ofChange objLinkedSpec)) objLinkedCard

/-- THE TIED CARD OF 'bakekeep2.ObjBack'. -/
def objBackCard : Claim7 := { stood := { row := objBackRow, standIns := [], harness := (true, "c9219cac1387c8935ed31b0802debbe1b8eca988f8b3aa92f57e14146c9680da"), looks := true }, kinds := [], alts := [], laidByText := true, laidKinds := [.data, .data, .data, .data, .sentinel, .sentinel, .pinned], laidTests := true, laidLooks := .later }
def ObjBackCardSaid : Prop := Claim7.holds Tryd.pinned (.plain (OpenSpec.ofChange objBackSpec)) objBackCard

/-- THE SECOND FORM's CARD OF 'bakekeep2.ObjLinked'. -/
def objLinkedUptoCard : Claim7 := { stood := { row := objLinkedUptoRow, standIns := [], harness := (true, "c9219cac1387c8935ed31b0802debbe1b8eca988f8b3aa92f57e14146c9680da"), looks := true }, kinds := [], alts := [], laidByText := true, laidKinds := [.data, .data, .data], laidTests := true, laidLooks := .later }
def ObjLinkedUptoCardSaid : Prop := Claim7.holds Tryd.pinned (.plain (OpenSpec.upto objLinkedSpec)) objLinkedUptoCard

/-- THE SECOND FORM's CARD OF 'bakekeep2.ObjBack'. -/
def objBackUptoCard : Claim7 := { stood := { row := objBackUptoRow, standIns := [], harness := (true, "c9219cac1387c8935ed31b0802debbe1b8eca988f8b3aa92f57e14146c9680da"), looks := true }, kinds := [], alts := [], laidByText := true, laidKinds := [.data, .data, .data, .data, .sentinel, .sentinel, .pinned], laidTests := true, laidLooks := .later }
def ObjBackUptoCardSaid : Prop := Claim7.holds Tryd.pinned (.plain (OpenSpec.upto objBackSpec)) objBackUptoCard
end Rows
end Go.Proofs.YtjeifppefhplhaaDoor
