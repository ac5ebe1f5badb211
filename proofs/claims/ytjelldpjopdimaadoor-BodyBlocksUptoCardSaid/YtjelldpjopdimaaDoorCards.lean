/-
  DERIVED. GIVEN WITH THE SEED: THE CARDS: each row of YtjelldpjopdimaaDoorRows.lean that lists a variable, with what it lists TIED to the program's text (the seventh form; the later family's looks); each row that meets fmt, with fmt's text TOLD by the authors' own Lean function (tested against real Go, not proved from fmt's source: count such statements apart). THE CARD IS WHAT COUNTS. Prove the row's statement (the work); the ties are given (YtjelldpjopdimaaDoorTie.lean); close each card by the builder's one call (the guide's Derived/Test/ToyasCard.lean, 'card_holds'). Laid BY PROGRAM, IN A SANDBOX (cutbox-door.mjs). By AI agents, Wed Nov 11 2026. No macro, syntax, notation, axiom, sorry.
-/
import Derived.Test.YtjelldpjopdimaaDoorRows
import GoSem.ClaimSeven
namespace Go.Proofs.YtjelldpjopdimaaDoor
namespace Rows

/-- THE TIED CARD OF 'grommetlaw13.BodyMore'. -/
def bodyMoreCard : Claim7 := { stood := { row := bodyMoreRow, standIns := [], harness := (true, "05d748245b80e632b092f4a2cc55ef4ef4b21580430c3baf09d6c9d1a6f82da8"), looks := true }, kinds := [], alts := [], laidByText := true, laidKinds := [.listed, .data], laidTests := true, laidLooks := .later }
def BodyMoreCardSaid : Prop := Claim7.holds Tryd.pinned (.plain (OpenSpec.ofChange bodyMoreSpec)) bodyMoreCard

/-- THE TIED CARD OF 'grommetlaw13.BodyBlocks'. -/
def bodyBlocksCard : Claim7 := { stood := { row := bodyBlocksRow, standIns := [], harness := (true, "05d748245b80e632b092f4a2cc55ef4ef4b21580430c3baf09d6c9d1a6f82da8"), looks := true }, kinds := [], alts := [], laidByText := true, laidKinds := [.listed, .data], laidTests := true, laidLooks := .later }
def BodyBlocksCardSaid : Prop := Claim7.holds Tryd.pinned (.plain (OpenSpec.ofChange bodyBlocksSpec)) bodyBlocksCard

/-- THE TIED CARD OF 'grommetlaw13.BodyStays'. -/
def bodyStaysCard : Claim7 := { stood := { row := bodyStaysRow, standIns := [], harness := (true, "05d748245b80e632b092f4a2cc55ef4ef4b21580430c3baf09d6c9d1a6f82da8"), looks := true }, kinds := [], alts := [], laidByText := true, laidKinds := [.listed, .data], laidTests := true, laidLooks := .later }
def BodyStaysCardSaid : Prop := Claim7.holds Tryd.pinned (.plain (OpenSpec.ofChange bodyStaysSpec)) bodyStaysCard

/-- THE SECOND FORM's CARD OF 'grommetlaw13.BodyMore'. -/
def bodyMoreUptoCard : Claim7 := { stood := { row := bodyMoreUptoRow, standIns := [], harness := (true, "05d748245b80e632b092f4a2cc55ef4ef4b21580430c3baf09d6c9d1a6f82da8"), looks := true }, kinds := [], alts := [], laidByText := true, laidKinds := [.listed, .data], laidTests := true, laidLooks := .later }
def BodyMoreUptoCardSaid : Prop := Claim7.holds Tryd.pinned (.plain (OpenSpec.upto bodyMoreSpec)) bodyMoreUptoCard

/-- THE SECOND FORM's CARD OF 'grommetlaw13.BodyBlocks'. -/
def bodyBlocksUptoCard : Claim7 := { stood := { row := bodyBlocksUptoRow, standIns := [], harness := (true, "05d748245b80e632b092f4a2cc55ef4ef4b21580430c3baf09d6c9d1a6f82da8"), looks := true }, kinds := [], alts := [], laidByText := true, laidKinds := [.listed, .data], laidTests := true, laidLooks := .later }
def BodyBlocksUptoCardSaid : Prop := Claim7.holds Tryd.pinned (.plain (OpenSpec.upto bodyBlocksSpec)) bodyBlocksUptoCard

/-- THE SECOND FORM's CARD OF 'grommetlaw13.BodyStays'. -/
def bodyStaysUptoCard : Claim7 := { stood := { row := bodyStaysUptoRow, standIns := [], harness := (true, "05d748245b80e632b092f4a2cc55ef4ef4b21580430c3baf09d6c9d1a6f82da8"), looks := true }, kinds := [], alts := [], laidByText := true, laidKinds := [.listed, .data], laidTests := true, laidLooks := .later }
def BodyStaysUptoCardSaid : Prop := Claim7.holds Tryd.pinned (.plain (OpenSpec.upto bodyStaysSpec)) bodyStaysUptoCard
end Rows
end Go.Proofs.YtjelldpjopdimaaDoor
