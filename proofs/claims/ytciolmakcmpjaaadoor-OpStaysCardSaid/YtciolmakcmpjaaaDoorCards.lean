/-
  DERIVED. GIVEN WITH THE SEED: THE CARDS: each row of YtciolmakcmpjaaaDoorRows.lean that lists a variable, with what it lists TIED to the program's text (the seventh form; the later family's looks); each row that meets fmt, with fmt's text TOLD by the authors' own Lean function (tested against real Go, not proved from fmt's source: count such statements apart). THE CARD IS WHAT COUNTS. Prove the row's statement (the work); the ties are given (YtciolmakcmpjaaaDoorTie.lean); close each card by the builder's one call (the guide's Derived/Test/ToyasCard.lean, 'card_holds'). Laid BY PROGRAM, IN A SANDBOX (cutbox-door.mjs). By AI agents, Wed Nov 11 2026. No macro, syntax, notation, axiom, sorry.
-/
import Derived.Test.YtciolmakcmpjaaaDoorRows
import GoSem.ClaimSeven
namespace Go.Proofs.YtciolmakcmpjaaaDoor
namespace Rows

/-- THE TIED CARD OF 'grommetlaw04.OpLooks'. -/
def opLooksCard : Claim7 := { stood := { row := opLooksRow, standIns := [], harness := (true, "e0b1e1ed63a880047f2763a0c82467597d0b04a2174cf694e2a80bccba333864"), looks := true }, kinds := [], alts := [], laidByText := true, laidKinds := [.listed, .data], laidTests := true, laidLooks := .later }
def OpLooksCardSaid : Prop := Claim7.holds Tryd.pinned (.plain (OpenSpec.ofChange opLooksSpec)) opLooksCard

/-- THE TIED CARD OF 'grommetlaw04.OpFinds'. -/
def opFindsCard : Claim7 := { stood := { row := opFindsRow, standIns := [], harness := (true, "e0b1e1ed63a880047f2763a0c82467597d0b04a2174cf694e2a80bccba333864"), looks := true }, kinds := [], alts := [], laidByText := true, laidKinds := [.listed, .data], laidTests := true, laidLooks := .later }
def OpFindsCardSaid : Prop := Claim7.holds Tryd.pinned (.plain (OpenSpec.ofChange opFindsSpec)) opFindsCard

/-- THE TIED CARD OF 'grommetlaw04.OpBack'. -/
def opBackCard : Claim7 := { stood := { row := opBackRow, standIns := [], harness := (true, "e0b1e1ed63a880047f2763a0c82467597d0b04a2174cf694e2a80bccba333864"), looks := true }, kinds := [], alts := [], laidByText := true, laidKinds := [.listed, .data], laidTests := true, laidLooks := .later }
def OpBackCardSaid : Prop := Claim7.holds Tryd.pinned (.plain (OpenSpec.ofChange opBackSpec)) opBackCard

/-- THE TIED CARD OF 'grommetlaw04.OpStays'. -/
def opStaysCard : Claim7 := { stood := { row := opStaysRow, standIns := [], harness := (true, "e0b1e1ed63a880047f2763a0c82467597d0b04a2174cf694e2a80bccba333864"), looks := true }, kinds := [], alts := [], laidByText := true, laidKinds := [.listed, .data], laidTests := true, laidLooks := .later }
def OpStaysCardSaid : Prop := Claim7.holds Tryd.pinned (.plain (OpenSpec.ofChange opStaysSpec)) opStaysCard

/-- THE SECOND FORM's CARD OF 'grommetlaw04.OpLooks'. -/
def opLooksUptoCard : Claim7 := { stood := { row := opLooksUptoRow, standIns := [], harness := (true, "e0b1e1ed63a880047f2763a0c82467597d0b04a2174cf694e2a80bccba333864"), looks := true }, kinds := [], alts := [], laidByText := true, laidKinds := [.listed, .data], laidTests := true, laidLooks := .later }
def OpLooksUptoCardSaid : Prop := Claim7.holds Tryd.pinned (.plain (OpenSpec.upto opLooksSpec)) opLooksUptoCard

/-- THE SECOND FORM's CARD OF 'grommetlaw04.OpFinds'. -/
def opFindsUptoCard : Claim7 := { stood := { row := opFindsUptoRow, standIns := [], harness := (true, "e0b1e1ed63a880047f2763a0c82467597d0b04a2174cf694e2a80bccba333864"), looks := true }, kinds := [], alts := [], laidByText := true, laidKinds := [.listed, .data], laidTests := true, laidLooks := .later }
def OpFindsUptoCardSaid : Prop := Claim7.holds Tryd.pinned (.plain (OpenSpec.upto opFindsSpec)) opFindsUptoCard

/-- THE SECOND FORM's CARD OF 'grommetlaw04.OpBack'. -/
def opBackUptoCard : Claim7 := { stood := { row := opBackUptoRow, standIns := [], harness := (true, "e0b1e1ed63a880047f2763a0c82467597d0b04a2174cf694e2a80bccba333864"), looks := true }, kinds := [], alts := [], laidByText := true, laidKinds := [.listed, .data], laidTests := true, laidLooks := .later }
def OpBackUptoCardSaid : Prop := Claim7.holds Tryd.pinned (.plain (OpenSpec.upto opBackSpec)) opBackUptoCard

/-- THE SECOND FORM's CARD OF 'grommetlaw04.OpStays'. -/
def opStaysUptoCard : Claim7 := { stood := { row := opStaysUptoRow, standIns := [], harness := (true, "e0b1e1ed63a880047f2763a0c82467597d0b04a2174cf694e2a80bccba333864"), looks := true }, kinds := [], alts := [], laidByText := true, laidKinds := [.listed, .data], laidTests := true, laidLooks := .later }
def OpStaysUptoCardSaid : Prop := Claim7.holds Tryd.pinned (.plain (OpenSpec.upto opStaysSpec)) opStaysUptoCard
end Rows
end Go.Proofs.YtciolmakcmpjaaaDoor
