/-
  DERIVED. GIVEN WITH THE SEED: THE CARDS: each row of YtmgjnbhofkchmaaDoorRows.lean that lists a variable, with what it lists TIED to the program's text (the seventh form; the later family's looks); each row that meets fmt, with fmt's text TOLD by the authors' own Lean function (tested against real Go, not proved from fmt's source: count such statements apart). THE CARD IS WHAT COUNTS. Prove the row's statement (the work); the ties are given (YtmgjnbhofkchmaaDoorTie.lean); close each card by the builder's one call (the guide's Derived/Test/ToyasCard.lean, 'card_holds'). Laid BY PROGRAM, IN A SANDBOX (cutbox-door.mjs). By AI agents, Wed Nov 11 2026. No macro, syntax, notation, axiom, sorry.
-/
import Derived.Test.YtmgjnbhofkchmaaDoorRows
import GoSem.ClaimSeven
namespace Go.Proofs.YtmgjnbhofkchmaaDoor
namespace Rows

/-- THE TIED CARD OF 'grommetlaw05.TreeParts'. -/
def treePartsCard : Claim7 := { stood := { row := treePartsRow, standIns := [], harness := (true, "ea24d0fdec8e19484090a6123b90830cfb1736409e4c78901388be9e2c738338"), looks := true }, kinds := [], alts := [], laidByText := true, laidKinds := [.listed, .data], laidTests := true, laidLooks := .later }
def TreePartsCardSaid : Prop := Claim7.holds Tryd.pinned (.plain (OpenSpec.ofChange treePartsSpec)) treePartsCard

/-- THE TIED CARD OF 'grommetlaw05.TreeSpaces'. -/
def treeSpacesCard : Claim7 := { stood := { row := treeSpacesRow, standIns := [], harness := (true, "ea24d0fdec8e19484090a6123b90830cfb1736409e4c78901388be9e2c738338"), looks := true }, kinds := [], alts := [], laidByText := true, laidKinds := [.listed, .data], laidTests := true, laidLooks := .later }
def TreeSpacesCardSaid : Prop := Claim7.holds Tryd.pinned (.plain (OpenSpec.ofChange treeSpacesSpec)) treeSpacesCard

/-- THE TIED CARD OF 'grommetlaw05.TreeSelf'. -/
def treeSelfCard : Claim7 := { stood := { row := treeSelfRow, standIns := [], harness := (true, "ea24d0fdec8e19484090a6123b90830cfb1736409e4c78901388be9e2c738338"), looks := true }, kinds := [], alts := [], laidByText := true, laidKinds := [.listed, .data], laidTests := true, laidLooks := .later }
def TreeSelfCardSaid : Prop := Claim7.holds Tryd.pinned (.plain (OpenSpec.ofChange treeSelfSpec)) treeSelfCard

/-- THE SECOND FORM's CARD OF 'grommetlaw05.TreeParts'. -/
def treePartsUptoCard : Claim7 := { stood := { row := treePartsUptoRow, standIns := [], harness := (true, "ea24d0fdec8e19484090a6123b90830cfb1736409e4c78901388be9e2c738338"), looks := true }, kinds := [], alts := [], laidByText := true, laidKinds := [.listed, .data], laidTests := true, laidLooks := .later }
def TreePartsUptoCardSaid : Prop := Claim7.holds Tryd.pinned (.plain (OpenSpec.upto treePartsSpec)) treePartsUptoCard

/-- THE SECOND FORM's CARD OF 'grommetlaw05.TreeSpaces'. -/
def treeSpacesUptoCard : Claim7 := { stood := { row := treeSpacesUptoRow, standIns := [], harness := (true, "ea24d0fdec8e19484090a6123b90830cfb1736409e4c78901388be9e2c738338"), looks := true }, kinds := [], alts := [], laidByText := true, laidKinds := [.listed, .data], laidTests := true, laidLooks := .later }
def TreeSpacesUptoCardSaid : Prop := Claim7.holds Tryd.pinned (.plain (OpenSpec.upto treeSpacesSpec)) treeSpacesUptoCard

/-- THE SECOND FORM's CARD OF 'grommetlaw05.TreeSelf'. -/
def treeSelfUptoCard : Claim7 := { stood := { row := treeSelfUptoRow, standIns := [], harness := (true, "ea24d0fdec8e19484090a6123b90830cfb1736409e4c78901388be9e2c738338"), looks := true }, kinds := [], alts := [], laidByText := true, laidKinds := [.listed, .data], laidTests := true, laidLooks := .later }
def TreeSelfUptoCardSaid : Prop := Claim7.holds Tryd.pinned (.plain (OpenSpec.upto treeSelfSpec)) treeSelfUptoCard
end Rows
end Go.Proofs.YtmgjnbhofkchmaaDoor
