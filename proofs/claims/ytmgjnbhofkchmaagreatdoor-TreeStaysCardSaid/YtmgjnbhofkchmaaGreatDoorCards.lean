/-
  DERIVED. GIVEN WITH THE SEED: THE CARDS: each row of YtmgjnbhofkchmaaGreatDoorRows.lean that lists a variable, with what it lists TIED to the program's text (the seventh form; the later family's looks); each row that meets fmt, with fmt's text TOLD by the authors' own Lean function (tested against real Go, not proved from fmt's source: count such statements apart). THE CARD IS WHAT COUNTS. Prove the row's statement (the work); the ties are given (YtmgjnbhofkchmaaGreatDoorTie.lean); close each card by the builder's one call (the guide's Derived/Test/ToyasCard.lean, 'card_holds'). Laid BY PROGRAM, IN A SANDBOX (cutbox-door.mjs). By AI agents, Wed Nov 11 2026. No macro, syntax, notation, axiom, sorry.
-/
import Derived.Test.YtmgjnbhofkchmaaGreatDoorRows
import GoSem.ClaimSeven
namespace Go.Proofs.YtmgjnbhofkchmaaGreatDoor
namespace Rows

/-- THE TIED CARD OF 'grommetlaw05.TreeStays'. -/
def treeStaysCard : Claim7 := { stood := { row := treeStaysRow, standIns := [], harness := (true, "33ad4609169431b6a7f59716fe910f093142da4c30ffd8b685b95e7fd23f1b7f"), looks := false }, kinds := [], alts := [], laidByText := true, laidKinds := [.listed, .data], laidTests := true, laidLooks := .later }
def TreeStaysCardSaid : Prop := Claim7.holds Tryz.pinned (.plain (OpenSpec.ofChange treeStaysSpec)) treeStaysCard

/-- THE SECOND FORM's CARD OF 'grommetlaw05.TreeStays'. -/
def treeStaysUptoCard : Claim7 := { stood := { row := treeStaysUptoRow, standIns := [], harness := (true, "33ad4609169431b6a7f59716fe910f093142da4c30ffd8b685b95e7fd23f1b7f"), looks := false }, kinds := [], alts := [], laidByText := true, laidKinds := [.listed, .data], laidTests := true, laidLooks := .later }
def TreeStaysUptoCardSaid : Prop := Claim7.holds Tryz.pinned (.plain (OpenSpec.upto treeStaysSpec)) treeStaysUptoCard
end Rows
end Go.Proofs.YtmgjnbhofkchmaaGreatDoor
