/-
  DERIVED. GIVEN WITH THE SEED: THE CARDS: each row of YthcjapmfchidhaaGreatDoorRows.lean that lists a variable, with what it lists TIED to the program's text (the seventh form; the later family's looks); each row that meets fmt, with fmt's text TOLD by the authors' own Lean function (tested against real Go, not proved from fmt's source: count such statements apart). THE CARD IS WHAT COUNTS. Prove the row's statement (the work); the ties are given (YthcjapmfchidhaaGreatDoorTie.lean); close each card by the builder's one call (the guide's Derived/Test/ToyasCard.lean, 'card_holds'). Laid BY PROGRAM, IN A SANDBOX (cutbox-door.mjs). By AI agents, Wed Nov 11 2026. No macro, syntax, notation, axiom, sorry.
-/
import Derived.Test.YthcjapmfchidhaaGreatDoorRows
import GoSem.ClaimSeven
namespace Go.Proofs.YthcjapmfchidhaaGreatDoor
namespace Rows

/-- THE TIED CARD OF 'grommetlaw06.ExprPuts'. -/
def exprPutsCard : Claim7 := { stood := { row := exprPutsRow, standIns := [], harness := (true, "d590cfb41cbcd6fef54b28cacf8f6ba8676add9702341c9cfc5b8a70e8ffbeb6"), looks := true }, kinds := [], alts := [], laidByText := true, laidKinds := [.handle, .listed, .data], laidTests := true, laidLooks := .later }
def ExprPutsCardSaid : Prop := Claim7.holds Tryz.pinned (.plain (OpenSpec.ofChange exprPutsSpec)) exprPutsCard

/-- THE TIED CARD OF 'grommetlaw06.ExprGets'. -/
def exprGetsCard : Claim7 := { stood := { row := exprGetsRow, standIns := [], harness := (true, "d590cfb41cbcd6fef54b28cacf8f6ba8676add9702341c9cfc5b8a70e8ffbeb6"), looks := true }, kinds := [], alts := [], laidByText := true, laidKinds := [.handle, .listed, .data], laidTests := true, laidLooks := .later }
def ExprGetsCardSaid : Prop := Claim7.holds Tryz.pinned (.plain (OpenSpec.ofChange exprGetsSpec)) exprGetsCard

/-- THE TIED CARD OF 'grommetlaw06.ExprBack'. -/
def exprBackCard : Claim7 := { stood := { row := exprBackRow, standIns := [], harness := (true, "d590cfb41cbcd6fef54b28cacf8f6ba8676add9702341c9cfc5b8a70e8ffbeb6"), looks := true }, kinds := [], alts := [], laidByText := true, laidKinds := [.handle, .listed, .data], laidTests := true, laidLooks := .later }
def ExprBackCardSaid : Prop := Claim7.holds Tryz.pinned (.plain (OpenSpec.ofChange exprBackSpec)) exprBackCard

/-- THE TIED CARD OF 'grommetlaw06.ExprStays'. -/
def exprStaysCard : Claim7 := { stood := { row := exprStaysRow, standIns := [], harness := (true, "d590cfb41cbcd6fef54b28cacf8f6ba8676add9702341c9cfc5b8a70e8ffbeb6"), looks := true }, kinds := [], alts := [], laidByText := true, laidKinds := [.handle, .listed, .data], laidTests := true, laidLooks := .later }
def ExprStaysCardSaid : Prop := Claim7.holds Tryz.pinned (.plain (OpenSpec.ofChange exprStaysSpec)) exprStaysCard

/-- THE SECOND FORM's CARD OF 'grommetlaw06.ExprPuts'. -/
def exprPutsUptoCard : Claim7 := { stood := { row := exprPutsUptoRow, standIns := [], harness := (true, "d590cfb41cbcd6fef54b28cacf8f6ba8676add9702341c9cfc5b8a70e8ffbeb6"), looks := true }, kinds := [], alts := [], laidByText := true, laidKinds := [.handle, .listed, .data], laidTests := true, laidLooks := .later }
def ExprPutsUptoCardSaid : Prop := Claim7.holds Tryz.pinned (.plain (OpenSpec.upto exprPutsSpec)) exprPutsUptoCard

/-- THE SECOND FORM's CARD OF 'grommetlaw06.ExprGets'. -/
def exprGetsUptoCard : Claim7 := { stood := { row := exprGetsUptoRow, standIns := [], harness := (true, "d590cfb41cbcd6fef54b28cacf8f6ba8676add9702341c9cfc5b8a70e8ffbeb6"), looks := true }, kinds := [], alts := [], laidByText := true, laidKinds := [.handle, .listed, .data], laidTests := true, laidLooks := .later }
def ExprGetsUptoCardSaid : Prop := Claim7.holds Tryz.pinned (.plain (OpenSpec.upto exprGetsSpec)) exprGetsUptoCard

/-- THE SECOND FORM's CARD OF 'grommetlaw06.ExprBack'. -/
def exprBackUptoCard : Claim7 := { stood := { row := exprBackUptoRow, standIns := [], harness := (true, "d590cfb41cbcd6fef54b28cacf8f6ba8676add9702341c9cfc5b8a70e8ffbeb6"), looks := true }, kinds := [], alts := [], laidByText := true, laidKinds := [.handle, .listed, .data], laidTests := true, laidLooks := .later }
def ExprBackUptoCardSaid : Prop := Claim7.holds Tryz.pinned (.plain (OpenSpec.upto exprBackSpec)) exprBackUptoCard

/-- THE SECOND FORM's CARD OF 'grommetlaw06.ExprStays'. -/
def exprStaysUptoCard : Claim7 := { stood := { row := exprStaysUptoRow, standIns := [], harness := (true, "d590cfb41cbcd6fef54b28cacf8f6ba8676add9702341c9cfc5b8a70e8ffbeb6"), looks := true }, kinds := [], alts := [], laidByText := true, laidKinds := [.handle, .listed, .data], laidTests := true, laidLooks := .later }
def ExprStaysUptoCardSaid : Prop := Claim7.holds Tryz.pinned (.plain (OpenSpec.upto exprStaysSpec)) exprStaysUptoCard
end Rows
end Go.Proofs.YthcjapmfchidhaaGreatDoor
