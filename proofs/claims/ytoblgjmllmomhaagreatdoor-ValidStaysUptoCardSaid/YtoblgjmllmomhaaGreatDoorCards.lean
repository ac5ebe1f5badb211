/-
  DERIVED. GIVEN WITH THE SEED: THE CARDS: each row of YtoblgjmllmomhaaGreatDoorRows.lean that lists a variable, with what it lists TIED to the program's text (the seventh form; the later family's looks); each row that meets fmt, with fmt's text TOLD by the authors' own Lean function (tested against real Go, not proved from fmt's source: count such statements apart). THE CARD IS WHAT COUNTS. Prove the row's statement (the work); the ties are given (YtoblgjmllmomhaaGreatDoorTie.lean); close each card by the builder's one call (the guide's Derived/Test/ToyasCard.lean, 'card_holds'). Laid BY PROGRAM, IN A SANDBOX (cutbox-door.mjs). By AI agents, Wed Nov 11 2026. No macro, syntax, notation, axiom, sorry.
-/
import Derived.Test.YtoblgjmllmomhaaGreatDoorRows
import GoSem.ClaimSeven
namespace Go.Proofs.YtoblgjmllmomhaaGreatDoor
namespace Rows

/-- THE TIED CARD OF 'grommetlaw13.BodyChecks'. -/
def bodyChecksCard : Claim7 := { stood := { row := bodyChecksRow, standIns := [], harness := (true, "46d1b7095e034d02a507c8fa26de451ca37348ffef385066bdcf188d79a605d4"), looks := true }, kinds := [], alts := [], laidByText := true, laidKinds := [.listed, .data], laidTests := true, laidLooks := .later }
def BodyChecksCardSaid : Prop := Claim7.holds Tryz.pinned (.plain (OpenSpec.ofChange bodyChecksSpec)) bodyChecksCard

/-- THE TIED CARD OF 'grommetlaw14.ValidLess'. -/
def validLessCard : Claim7 := { stood := { row := validLessRow, standIns := [], harness := (true, "46d1b7095e034d02a507c8fa26de451ca37348ffef385066bdcf188d79a605d4"), looks := true }, kinds := [], alts := [], laidByText := true, laidKinds := [.listed, .data], laidTests := true, laidLooks := .later }
def ValidLessCardSaid : Prop := Claim7.holds Tryz.pinned (.plain (OpenSpec.ofChange validLessSpec)) validLessCard

/-- THE TIED CARD OF 'grommetlaw14.ValidStays'. -/
def validStaysCard : Claim7 := { stood := { row := validStaysRow, standIns := [], harness := (true, "46d1b7095e034d02a507c8fa26de451ca37348ffef385066bdcf188d79a605d4"), looks := true }, kinds := [], alts := [], laidByText := true, laidKinds := [.listed, .data], laidTests := true, laidLooks := .later }
def ValidStaysCardSaid : Prop := Claim7.holds Tryz.pinned (.plain (OpenSpec.ofChange validStaysSpec)) validStaysCard

/-- THE TIED CARD OF 'grommetlaw14.ValidMore'. -/
def validMoreCard : Claim7 := { stood := { row := validMoreRow, standIns := [], harness := (true, "46d1b7095e034d02a507c8fa26de451ca37348ffef385066bdcf188d79a605d4"), looks := true }, kinds := [], alts := [], laidByText := true, laidKinds := [.listed, .data], laidTests := true, laidLooks := .later }
def ValidMoreCardSaid : Prop := Claim7.holds Tryz.pinned (.plain (OpenSpec.ofChange validMoreSpec)) validMoreCard

/-- THE SECOND FORM's CARD OF 'grommetlaw13.BodyChecks'. -/
def bodyChecksUptoCard : Claim7 := { stood := { row := bodyChecksUptoRow, standIns := [], harness := (true, "46d1b7095e034d02a507c8fa26de451ca37348ffef385066bdcf188d79a605d4"), looks := true }, kinds := [], alts := [], laidByText := true, laidKinds := [.listed, .data], laidTests := true, laidLooks := .later }
def BodyChecksUptoCardSaid : Prop := Claim7.holds Tryz.pinned (.plain (OpenSpec.upto bodyChecksSpec)) bodyChecksUptoCard

/-- THE SECOND FORM's CARD OF 'grommetlaw14.ValidLess'. -/
def validLessUptoCard : Claim7 := { stood := { row := validLessUptoRow, standIns := [], harness := (true, "46d1b7095e034d02a507c8fa26de451ca37348ffef385066bdcf188d79a605d4"), looks := true }, kinds := [], alts := [], laidByText := true, laidKinds := [.listed, .data], laidTests := true, laidLooks := .later }
def ValidLessUptoCardSaid : Prop := Claim7.holds Tryz.pinned (.plain (OpenSpec.upto validLessSpec)) validLessUptoCard

/-- THE SECOND FORM's CARD OF 'grommetlaw14.ValidStays'. -/
def validStaysUptoCard : Claim7 := { stood := { row := validStaysUptoRow, standIns := [], harness := (true, "46d1b7095e034d02a507c8fa26de451ca37348ffef385066bdcf188d79a605d4"), looks := true }, kinds := [], alts := [], laidByText := true, laidKinds := [.listed, .data], laidTests := true, laidLooks := .later }
def ValidStaysUptoCardSaid : Prop := Claim7.holds Tryz.pinned (.plain (OpenSpec.upto validStaysSpec)) validStaysUptoCard

/-- THE SECOND FORM's CARD OF 'grommetlaw14.ValidMore'. -/
def validMoreUptoCard : Claim7 := { stood := { row := validMoreUptoRow, standIns := [], harness := (true, "46d1b7095e034d02a507c8fa26de451ca37348ffef385066bdcf188d79a605d4"), looks := true }, kinds := [], alts := [], laidByText := true, laidKinds := [.listed, .data], laidTests := true, laidLooks := .later }
def ValidMoreUptoCardSaid : Prop := Claim7.holds Tryz.pinned (.plain (OpenSpec.upto validMoreSpec)) validMoreUptoCard
end Rows
end Go.Proofs.YtoblgjmllmomhaaGreatDoor
