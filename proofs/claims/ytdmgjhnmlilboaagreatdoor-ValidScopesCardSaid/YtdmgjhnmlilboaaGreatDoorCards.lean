/-
  DERIVED. GIVEN WITH THE SEED: THE CARDS: each row of YtdmgjhnmlilboaaGreatDoorRows.lean that lists a variable, with what it lists TIED to the program's text (the seventh form; the later family's looks); each row that meets fmt, with fmt's text TOLD by the authors' own Lean function (tested against real Go, not proved from fmt's source: count such statements apart). THE CARD IS WHAT COUNTS. Prove the row's statement (the work); the ties are given (YtdmgjhnmlilboaaGreatDoorTie.lean); close each card by the builder's one call (the guide's Derived/Test/ToyasCard.lean, 'card_holds'). Laid BY PROGRAM, IN A SANDBOX (cutbox-door.mjs). By AI agents, Wed Nov 11 2026. No macro, syntax, notation, axiom, sorry.
-/
import Derived.Test.YtdmgjhnmlilboaaGreatDoorRows
import GoSem.ClaimSeven
namespace Go.Proofs.YtdmgjhnmlilboaaGreatDoor
namespace Rows

/-- THE TIED CARD OF 'grommetlaw14.ValidScopes'. -/
def validScopesCard : Claim7 := { stood := { row := validScopesRow, standIns := [], harness := (true, "917d6770ebcaf9313ff1ab819532074b1a3e2e020bb722e8ef65bad3334c4d56"), looks := true }, kinds := [], alts := [], laidByText := true, laidKinds := [.listed, .data], laidTests := true, laidLooks := .later }
def ValidScopesCardSaid : Prop := Claim7.holds Tryz.pinned (.plain (OpenSpec.ofChange validScopesSpec)) validScopesCard

/-- THE SECOND FORM's CARD OF 'grommetlaw14.ValidScopes'. -/
def validScopesUptoCard : Claim7 := { stood := { row := validScopesUptoRow, standIns := [], harness := (true, "917d6770ebcaf9313ff1ab819532074b1a3e2e020bb722e8ef65bad3334c4d56"), looks := true }, kinds := [], alts := [], laidByText := true, laidKinds := [.listed, .data], laidTests := true, laidLooks := .later }
def ValidScopesUptoCardSaid : Prop := Claim7.holds Tryz.pinned (.plain (OpenSpec.upto validScopesSpec)) validScopesUptoCard
end Rows
end Go.Proofs.YtdmgjhnmlilboaaGreatDoor
