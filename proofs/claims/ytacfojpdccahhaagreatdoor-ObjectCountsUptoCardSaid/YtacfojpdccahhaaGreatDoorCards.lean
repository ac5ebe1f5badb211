/-
  DERIVED. GIVEN WITH THE SEED: THE CARDS: each row of YtacfojpdccahhaaGreatDoorRows.lean that lists a variable, with what it lists TIED to the program's text (the seventh form; the later family's looks); each row that meets fmt, with fmt's text TOLD by the authors' own Lean function (tested against real Go, not proved from fmt's source: count such statements apart). THE CARD IS WHAT COUNTS. Prove the row's statement (the work); the ties are given (YtacfojpdccahhaaGreatDoorTie.lean); close each card by the builder's one call (the guide's Derived/Test/ToyasCard.lean, 'card_holds'). Laid BY PROGRAM, IN A SANDBOX (cutbox-door.mjs). By AI agents, Wed Nov 11 2026. No macro, syntax, notation, axiom, sorry.
-/
import Derived.Test.YtacfojpdccahhaaGreatDoorRows
import GoSem.ClaimSeven
namespace Go.Proofs.YtacfojpdccahhaaGreatDoor
namespace Rows

/-- THE TIED CARD OF 'grommetlaw19.ObjectCounts'. -/
def objectCountsCard : Claim7 := { stood := { row := objectCountsRow, standIns := [], harness := (true, "13256d4f79ee59d719197b4013202e3fcd8bc20203a1da87294177e92744120b"), looks := true }, kinds := [], alts := [], laidByText := true, laidKinds := [.handle, .listed, .data], laidTests := true, laidLooks := .later }
def ObjectCountsCardSaid : Prop := Claim7.holds Tryz.pinned (.plain (OpenSpec.ofChange objectCountsSpec)) objectCountsCard

/-- THE SECOND FORM's CARD OF 'grommetlaw19.ObjectCounts'. -/
def objectCountsUptoCard : Claim7 := { stood := { row := objectCountsUptoRow, standIns := [], harness := (true, "13256d4f79ee59d719197b4013202e3fcd8bc20203a1da87294177e92744120b"), looks := true }, kinds := [], alts := [], laidByText := true, laidKinds := [.handle, .listed, .data], laidTests := true, laidLooks := .later }
def ObjectCountsUptoCardSaid : Prop := Claim7.holds Tryz.pinned (.plain (OpenSpec.upto objectCountsSpec)) objectCountsUptoCard
end Rows
end Go.Proofs.YtacfojpdccahhaaGreatDoor
