/-
  DERIVED. GIVEN WITH THE SEED: THE CARDS: each row of YtnjjnnfpnjjccaaGreatDoorRows.lean that lists a variable, with what it lists TIED to the program's text (the seventh form; the later family's looks); each row that meets fmt, with fmt's text TOLD by the authors' own Lean function (tested against real Go, not proved from fmt's source: count such statements apart). THE CARD IS WHAT COUNTS. Prove the row's statement (the work); the ties are given (YtnjjnnfpnjjccaaGreatDoorTie.lean); close each card by the builder's one call (the guide's Derived/Test/ToyasCard.lean, 'card_holds'). Laid BY PROGRAM, IN A SANDBOX (cutbox-door.mjs). By AI agents, Wed Nov 11 2026. No macro, syntax, notation, axiom, sorry.
-/
import Derived.Test.YtnjjnnfpnjjccaaGreatDoorRows
import GoSem.ClaimSeven
namespace Go.Proofs.YtnjjnnfpnjjccaaGreatDoor
namespace Rows

/-- THE TIED CARD OF 'bakekeep2.TreeDirs'. -/
def treeDirsCard : Claim7 := { stood := { row := treeDirsRow, standIns := [], harness := (true, "b92ad8fd789a21075b3f3bfd0ccac15060f42a763099f3e1c8bf64ea769bc787"), looks := false }, kinds := [], alts := [], laidByText := true, laidKinds := [.data, .pinned], laidTests := true, laidLooks := .later }
def TreeDirsCardSaid : Prop := Claim7.holds Tryz.pinned (.plain (OpenSpec.ofChange treeDirsSpec)) treeDirsCard

/-- THE TIED CARD OF 'bakekeep2.TreeKeeps'. -/
def treeKeepsCard : Claim7 := { stood := { row := treeKeepsRow, standIns := [], harness := (true, "b92ad8fd789a21075b3f3bfd0ccac15060f42a763099f3e1c8bf64ea769bc787"), looks := false }, kinds := [], alts := [], laidByText := true, laidKinds := [.data, .pinned], laidTests := true, laidLooks := .later }
def TreeKeepsCardSaid : Prop := Claim7.holds Tryz.pinned (.plain (OpenSpec.ofChange treeKeepsSpec)) treeKeepsCard

/-- THE TIED CARD OF 'bakekeep2.TreeRooms'. -/
def treeRoomsCard : Claim7 := { stood := { row := treeRoomsRow, standIns := [], harness := (true, "b92ad8fd789a21075b3f3bfd0ccac15060f42a763099f3e1c8bf64ea769bc787"), looks := false }, kinds := [], alts := [], laidByText := true, laidKinds := [.data, .pinned], laidTests := true, laidLooks := .later }
def TreeRoomsCardSaid : Prop := Claim7.holds Tryz.pinned (.plain (OpenSpec.ofChange treeRoomsSpec)) treeRoomsCard

/-- THE TIED CARD OF 'bakekeep2.ConvBack'. -/
def convBackCard : Claim7 := { stood := { row := convBackRow, standIns := [], harness := (true, "b92ad8fd789a21075b3f3bfd0ccac15060f42a763099f3e1c8bf64ea769bc787"), looks := false }, kinds := [], alts := [], laidByText := true, laidKinds := [.data, .pinned], laidTests := true, laidLooks := .later }
def ConvBackCardSaid : Prop := Claim7.holds Tryz.pinned (.plain (OpenSpec.ofChange convBackSpec)) convBackCard

/-- THE SECOND FORM's CARD OF 'bakekeep2.TreeDirs'. -/
def treeDirsUptoCard : Claim7 := { stood := { row := treeDirsUptoRow, standIns := [], harness := (true, "b92ad8fd789a21075b3f3bfd0ccac15060f42a763099f3e1c8bf64ea769bc787"), looks := false }, kinds := [], alts := [], laidByText := true, laidKinds := [.data, .pinned], laidTests := true, laidLooks := .later }
def TreeDirsUptoCardSaid : Prop := Claim7.holds Tryz.pinned (.plain (OpenSpec.upto treeDirsSpec)) treeDirsUptoCard

/-- THE SECOND FORM's CARD OF 'bakekeep2.TreeKeeps'. -/
def treeKeepsUptoCard : Claim7 := { stood := { row := treeKeepsUptoRow, standIns := [], harness := (true, "b92ad8fd789a21075b3f3bfd0ccac15060f42a763099f3e1c8bf64ea769bc787"), looks := false }, kinds := [], alts := [], laidByText := true, laidKinds := [.data, .pinned], laidTests := true, laidLooks := .later }
def TreeKeepsUptoCardSaid : Prop := Claim7.holds Tryz.pinned (.plain (OpenSpec.upto treeKeepsSpec)) treeKeepsUptoCard

/-- THE SECOND FORM's CARD OF 'bakekeep2.TreeRooms'. -/
def treeRoomsUptoCard : Claim7 := { stood := { row := treeRoomsUptoRow, standIns := [], harness := (true, "b92ad8fd789a21075b3f3bfd0ccac15060f42a763099f3e1c8bf64ea769bc787"), looks := false }, kinds := [], alts := [], laidByText := true, laidKinds := [.data, .pinned], laidTests := true, laidLooks := .later }
def TreeRoomsUptoCardSaid : Prop := Claim7.holds Tryz.pinned (.plain (OpenSpec.upto treeRoomsSpec)) treeRoomsUptoCard

/-- THE SECOND FORM's CARD OF 'bakekeep2.ConvBack'. -/
def convBackUptoCard : Claim7 := { stood := { row := convBackUptoRow, standIns := [], harness := (true, "b92ad8fd789a21075b3f3bfd0ccac15060f42a763099f3e1c8bf64ea769bc787"), looks := false }, kinds := [], alts := [], laidByText := true, laidKinds := [.data, .pinned], laidTests := true, laidLooks := .later }
def ConvBackUptoCardSaid : Prop := Claim7.holds Tryz.pinned (.plain (OpenSpec.upto convBackSpec)) convBackUptoCard
end Rows
end Go.Proofs.YtnjjnnfpnjjccaaGreatDoor
