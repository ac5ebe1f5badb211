/-
  The abstract machine at this program: which operations move, which boxes lie on the heap, which calls see no heap, where texts are cut.
-/
import Derived.Test.YtmgjnbhofkchmaaDoorAmSym
import Derived.Test.YtmgjnbhofkchmaaDoorAmS05
import Derived.KernelRfl

namespace Go.Proofs.YtmgjnbhofkchmaaDoor
open Go Go.Proofs.Am
def inP (l : List (Nat × Nat)) (r i : Nat) : Bool := l.any fun p => Nat.beq p.1 r && Nat.beq p.2 i
def takeF (f r i : Nat) : Bool :=
  match f with
  | 12 => inP [(8, 0), (8, 4), (13, 0), (13, 5)] r i
  | 17 => inP [(1, 20), (5, 1), (5, 22), (9, 1), (9, 27), (15, 1), (15, 6), (19, 1), (19, 24), (23, 1), (23, 24), (27, 1), (27, 20)] r i
  | 26 => inP [(6, 0), (6, 4)] r i
  | 29 => inP [(9, 0), (9, 4)] r i
  | 82 => inP [(1, 1), (8, 0), (8, 6), (13, 0), (13, 7)] r i
  | _ => false
def heapF (f r i : Nat) : Bool :=
  match f with
  | 73 => inP [(14, 1), (24, 6), (24, 7), (31, 5), (31, 6)] r i
  | 74 => inP [(0, 0), (1, 1), (2, 1), (4, 3), (4, 6), (4, 9), (4, 11), (4, 13), (4, 15), (6, 3), (6, 6), (6, 8), (8, 2), (10, 1), (11, 1), (12, 2), (15, 1), (21, 2), (22, 0)] r i
  | 82 => inP [(14, 2), (18, 8), (18, 9)] r i
  | 87 => inP [(0, 3), (1, 3), (3, 3), (5, 3), (7, 9), (7, 12), (8, 6), (8, 13), (9, 3)] r i
  | 88 => inP [(1, 3), (2, 3), (5, 3)] r i
  | 93 => inP [(6, 2)] r i
  | _ => false
def arrF (f r i : Nat) : Bool :=
  match f with
  | 73 => inP [(32, 1)] r i
  | 82 => inP [(20, 1)] r i
  | 93 => inP [(10, 1)] r i
  | _ => false
def pureF (f r i : Nat) : Bool :=
  match f with
  | 54 => inP [(1, 1), (3, 0), (6, 2), (8, 11)] r i
  | 74 => inP [(1, 2), (4, 4), (4, 7), (6, 4)] r i
  | 84 => inP [(1, 1), (3, 1)] r i
  | 85 => inP [(1, 1), (3, 1), (5, 2), (5, 5)] r i
  | 86 => inP [(1, 2)] r i
  | 87 => inP [(0, 4), (1, 4), (3, 4), (5, 4), (7, 5), (8, 14)] r i
  | 89 => inP [(1, 2)] r i
  | 90 => inP [(1, 2)] r i
  | 97 => inP [(1, 2)] r i
  | 100 => inP [(5, 3), (9, 2), (17, 6), (25, 6), (26, 4), (31, 4)] r i
  | 103 => inP [(1, 2)] r i
  | _ => false
def retF (f : Nat) : Bool := [].any fun k => Nat.beq f k
def cutF (f id : Nat) : Option Keep :=
  match f, id with
  | 7, 4 => some ⟨[0, 4, 5, 6], [], 0⟩
  | 8, 3 => some ⟨[4, 5, 12, 13, 14], [], 0⟩
  | 10, 15 => some ⟨[1, 3, 7], [(0, 11)], 1⟩
  | 10, 11 => some ⟨[1, 3, 6], [(0, 11)], 1⟩
  | 10, 7 => some ⟨[1, 3, 5], [(0, 11)], 1⟩
  | 10, 3 => some ⟨[1, 3, 4], [(0, 11)], 1⟩
  | 12, 11 => some ⟨[1, 5, 7, 8], [], 1⟩
  | 12, 5 => some ⟨[1, 2, 5, 6], [(0, 11)], 1⟩
  | 15, 4 => some ⟨[0, 1, 5], [], 0⟩
  | 17, 25 => some ⟨[1, 2, 3, 10], [(0, 11), (1, 11), (2, 11)], 3⟩
  | 17, 21 => some ⟨[1, 2, 3, 9], [(0, 11), (1, 11), (2, 11)], 3⟩
  | 17, 17 => some ⟨[1, 2, 3, 8], [(0, 11), (1, 11), (2, 11)], 3⟩
  | 17, 11 => some ⟨[1, 2, 3, 6], [(0, 11), (1, 11), (2, 11)], 3⟩
  | 17, 7 => some ⟨[1, 2, 3, 5], [(0, 11), (1, 11), (2, 11)], 3⟩
  | 17, 3 => some ⟨[1, 2, 3, 4], [(0, 11), (1, 11), (2, 11)], 3⟩
  | 19, 16 => some ⟨[1, 49, 50, 51], [(0, 11)], 1⟩
  | 19, 10 => some ⟨[1, 31, 32, 33], [(0, 11)], 1⟩
  | 19, 4 => some ⟨[1, 13, 14, 15], [(0, 11)], 1⟩
  | 26, 3 => some ⟨[1, 5, 9, 10, 11], [], 1⟩
  | 29, 3 => some ⟨[0, 3, 4], [], 0⟩
  | 30, 4 => some ⟨[1, 2, 15, 16, 17], [], 0⟩
  | 32, 4 => some ⟨[0, 1, 12, 13], [], 0⟩
  | 33, 4 => some ⟨[0, 1, 12, 13], [], 0⟩
  | 34, 4 => some ⟨[0, 1, 12, 13], [], 0⟩
  | 35, 4 => some ⟨[1, 2, 15, 16, 17], [], 0⟩
  | 37, 4 => some ⟨[0, 1, 12, 13], [], 0⟩
  | 38, 4 => some ⟨[1, 2, 15, 16, 17], [], 0⟩
  | 40, 4 => some ⟨[1, 2, 15, 16, 17], [], 0⟩
  | 42, 4 => some ⟨[1, 2, 15, 16, 17], [], 0⟩
  | 44, 4 => some ⟨[1, 2, 15, 16, 17], [], 0⟩
  | 46, 4 => some ⟨[0, 1, 12, 13], [], 0⟩
  | 47, 4 => some ⟨[1, 2, 15, 16, 17], [], 0⟩
  | 53, 2 => some ⟨[0, 1, 7, 8], [], 0⟩
  | 75, 2 => some ⟨[0, 1, 7, 8], [], 0⟩
  | 77, 2 => some ⟨[0, 1, 7, 8], [], 0⟩
  | 78, 2 => some ⟨[0, 1, 7, 8], [], 0⟩
  | 79, 2 => some ⟨[0, 1, 7, 8], [], 0⟩
  | 80, 2 => some ⟨[0, 1, 7, 8], [], 0⟩
  | 81, 2 => some ⟨[0, 1, 7, 8], [], 0⟩
  | 94, 14 => some ⟨[0, 1, 7, 8], [], 0⟩
  | 94, 3 => some ⟨[0, 1, 19, 20], [], 0⟩
  | 95, 14 => some ⟨[0, 1, 7, 8], [], 0⟩
  | 95, 3 => some ⟨[0, 1, 15, 16], [], 0⟩
  | 106, 11 => some ⟨[0, 1, 5, 6, 7, 8, 10], [], 0⟩
  | 106, 5 => some ⟨[0, 1, 5, 6, 7, 8, 9], [], 0⟩
  | 108, 8 => some ⟨[4, 6, 7, 8], [], 0⟩
  | 108, 3 => some ⟨[0, 4, 5], [], 0⟩
  | _, _ => none
def extF (f : Nat) : Option (List LV → Option LV) :=
  match f with
  | 73 => some fieldsE
  | 90 => some containsE
  | _ => none
noncomputable def cxS (m : Int) : Cx :=
  { P := Tryd.prog, cut := fun _ _ => none, take := takeF, heap := heapF, arr := arrF, pure := pureF, retOw := retF, ext := extF,
    glob := fun i => match i with | 0 => some asciiL | 2 => some [.int .i64 m] | _ => none }
def bodyOf (P : Program) (g : FuncId) : List Item := match P.funcs[g]? with | some f => (match f.body with | some c => [.code c] | none => []) | none => []
end Go.Proofs.YtmgjnbhofkchmaaDoor
