/-
  DERIVED. GIVEN WITH THE SEED: THE CARDS: each row of YthcjapmfchidhaaDoorRows.lean that lists a variable, with what it lists TIED to the program's text (the seventh form; the later family's looks); each row that meets fmt, with fmt's text TOLD by the authors' own Lean function (tested against real Go, not proved from fmt's source: count such statements apart). THE CARD IS WHAT COUNTS. Prove the row's statement (the work); the ties are given (YthcjapmfchidhaaDoorTie.lean); close each card by the builder's one call (the guide's Derived/Test/ToyasCard.lean, 'card_holds'). Laid BY PROGRAM, IN A SANDBOX (cutbox-door.mjs). By AI agents, Wed Nov 11 2026. No macro, syntax, notation, axiom, sorry.
-/
import Derived.Test.YthcjapmfchidhaaDoorRows
import GoSem.ClaimSeven
namespace Go.Proofs.YthcjapmfchidhaaDoor
namespace Rows

/-- THE TIED CARD OF 'grommetlaw06.ExprParts'. -/
def exprPartsCard : Claim7 := { stood := { row := exprPartsRow, standIns := [], harness := (true, "39ec295ac7b081f64bf67307c2f5210e37879bb03d0adc9b6e8b419f957222ed"), looks := true }, kinds := [], alts := [], laidByText := true, laidKinds := [.handle, .listed, .data], laidTests := true, laidLooks := .later }
def ExprPartsCardSaid : Prop := Claim7.holds Tryd.pinned (.plain (OpenSpec.ofChange exprPartsSpec)) exprPartsCard

/-- THE SECOND FORM's CARD OF 'grommetlaw06.ExprParts'. -/
def exprPartsUptoCard : Claim7 := { stood := { row := exprPartsUptoRow, standIns := [], harness := (true, "39ec295ac7b081f64bf67307c2f5210e37879bb03d0adc9b6e8b419f957222ed"), looks := true }, kinds := [], alts := [], laidByText := true, laidKinds := [.handle, .listed, .data], laidTests := true, laidLooks := .later }
def ExprPartsUptoCardSaid : Prop := Claim7.holds Tryd.pinned (.plain (OpenSpec.upto exprPartsSpec)) exprPartsUptoCard
end Rows
end Go.Proofs.YthcjapmfchidhaaDoor
