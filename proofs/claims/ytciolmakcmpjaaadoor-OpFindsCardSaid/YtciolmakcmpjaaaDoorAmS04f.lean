/-
  Where the texts are cut for names that are open.
-/
import Derived.Test.YtciolmakcmpjaaaDoorAmSym
import Derived.Test.YtciolmakcmpjaaaDoorAmS04d
namespace Go.Proofs.YtciolmakcmpjaaaDoor
open Go Go.Proofs.Am
def pureY (f r i : Nat) : Bool :=
  match f with
  | 4 => true
  | 14 => true
  | 22 => true
  | 23 => true
  | 24 => true
  | 30 => true
  | 32 => true
  | _ => pureF f r i
noncomputable def cxP (m : Int) : Cx := { cxS m with pure := pureY }
theorem cxP_ok (m : Int) : CxOk (cxP m) := ⟨names_ok, (cxS_ok m).ext, (cxS_ok m).mixed, globs_ok m⟩
/-- Does a text end so, begin so? -/
def suf (s e : ByteArray) : Bool := Nat.ble e.size s.size && (s.extract (s.size - e.size) s.size).toList == e.toList
def pre (s p : ByteArray) : Bool := Nat.ble p.size s.size && (s.extract 0 p.size).toList == p.toList
def sufE : List LV → Option LV
  | [.v (.str s), .v (.str e)] => bif small s then some (.v (.bool (suf s e))) else none
  | _ => none
def preE : List LV → Option LV
  | [.v (.str s), .v (.str e)] => bif small s then some (.v (.bool (pre s e))) else none
  | _ => none
def cutY (f id : Nat) : Option Keep :=
  match f, id with
  | 24, 2 => some ⟨[0, 1, 7, 8], [], 0⟩
  | 23, 4 => some ⟨[0, 11, 12, 13], [], 0⟩
  | 13, 4 => some ⟨[0, 2, 3, 11, 12, 13], [(0, 7)], 1⟩
  | 4, 10 => some ⟨[0, 3, 4, 5, 7, 8], [(0, 7)], 1⟩
  | _, _ => none
/-- op.Look by its table; what texts begin with, and end with. -/
def extY (f : Nat) : Option (List LV → Option LV) :=
  match f with
  | 7 => some upE
  | 8 => some lookE
  | 11 => some allE
  | 18 => some fieldsE
  | 22 => some sufE
  | 30 => some sufE
  | 32 => some preE
  | _ => none
noncomputable def cxY (m : Int) : Cx := { cxP m with cut := cutY, ext := extY }
end Go.Proofs.YtciolmakcmpjaaaDoor
