/-
  The abstract machine at this program: which operations move, which boxes lie on the heap.
-/
import Derived.Test.YtciolmakcmpjaaaDoorAmS04
import Derived.KernelRfl

namespace Go.Proofs.YtciolmakcmpjaaaDoor
open Go Go.Proofs.Am
def inP (l : List (Nat × Nat)) (r i : Nat) : Bool := l.any fun p => Nat.beq p.1 r && Nat.beq p.2 i
def takeF (f r i : Nat) : Bool :=
  match f with
  | 11 => inP [(1, 1), (6, 0), (6, 11), (7, 0), (7, 11), (17, 0), (17, 12), (18, 0), (18, 12)] r i
  | 20 => inP [(1, 47)] r i
  | 12 => inP [(1, 10), (10, 1), (10, 10)] r i
  | _ => false
def heapF (f r i : Nat) : Bool :=
  match f with
  | 19 => inP [(0, 0), (1, 1), (2, 1), (4, 3), (4, 6), (4, 9), (4, 11), (4, 13), (4, 15), (6, 3), (6, 6), (6, 8), (8, 2), (10, 1), (11, 1), (12, 2), (15, 1), (21, 2), (22, 0)] r i
  | 31 => inP [(0, 3), (1, 3), (3, 3), (5, 3), (7, 9), (7, 12), (8, 6), (8, 13), (9, 3)] r i
  | 36 => inP [(6, 2)] r i
  | _ => false
def arrF (f r i : Nat) : Bool :=
  match f with
  | 36 => inP [(10, 1)] r i
  | _ => false
def pureF (f r i : Nat) : Bool :=
  match f with
  | 8 => inP [(3, 0), (6, 2), (8, 11)] r i
  | 5 => true
  | 13 => true
  | 7 => true
  | 19 => inP [(4, 4), (4, 7), (6, 4)] r i
  | 3 => true
  | 31 => inP [(0, 4), (1, 4), (3, 4), (5, 4), (7, 5), (8, 14)] r i
  | _ => false
def extF (f : Nat) : Option (List LV → Option LV) :=
  match f with
  | 18 => some fieldsE
  | 34 => some containsE
  | _ => none
noncomputable def cxS (m : Int) : Cx :=
  { P := Tryd.prog, cut := fun _ _ => none, take := takeF, heap := heapF, arr := arrF, pure := pureF, retOw := fun f => Nat.beq f 20, ext := extF,
    glob := fun i => match i with | 0 => some asciiL | 2 => some [.int .i64 m] | _ => none }
def bodyOf (P : Program) (g : FuncId) : List Item := match P.funcs[g]? with | some f => (match f.body with | some c => [.code c] | none => []) | none => []
def okP (x : Option (LV × Heap)) : Bool := match x with
  | some (.tup (.agg _ :: _), _) => true
  | _ => false
end Go.Proofs.YtciolmakcmpjaaaDoor
