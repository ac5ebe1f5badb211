/-
  The document's 'is it a float's operation's byte?': told by runs of the machine.
-/
import Derived.Test.YthcjapmfchidhaaGreatDoorAmSym
import Derived.Test.YthcjapmfchidhaaGreatDoorAmS6
import Derived.KernelRfl
import Derived.Test.YthcjapmfchidhaaGreatDoorAmExtRun
namespace Go.Proofs.YthcjapmfchidhaaGreatDoor
open Go Go.Proofs.Am
def inP (l : List (Nat × Nat)) (r i : Nat) : Bool := l.any fun p => Nat.beq p.1 r && Nat.beq p.2 i
def takeF (f r i : Nat) : Bool :=
 match f with
 | 11 => inP [(5, 0), (5, 7)] r i
 | 17 => inP [(9, 0), (9, 4)] r i
 | 20 => inP [(4, 0), (4, 2), (4, 3), (6, 0), (6, 1)] r i
 | 22 => inP [(1, 4), (4, 0), (4, 6), (5, 0), (5, 5), (7, 0), (7, 3), (8, 0), (8, 5), (9, 0), (9, 3), (11, 0), (11, 9), (13, 0), (13, 3), (18, 0), (18, 4), (20, 0), (20, 5), (22, 0), (22, 7), (26, 0), (26, 8), (28, 0), (28, 7), (30, 0), (30, 5)] r i
 | 23 => inP [(16, 0), (16, 7)] r i
 | 25 => inP [(18, 0), (18, 4)] r i
 | 34 => inP [(3, 0), (3, 1), (4, 0), (4, 6), (6, 0), (6, 9), (8, 0), (8, 6), (9, 0), (9, 3), (11, 7), (13, 0), (13, 3), (15, 0), (15, 8), (17, 0), (17, 6), (19, 10), (21, 7), (23, 5), (24, 0), (24, 1), (6, 8), (8, 5), (11, 0), (11, 6), (19, 0), (19, 6), (19, 9), (21, 0), (21, 4), (23, 0), (23, 4)] r i
 | 39 => inP [(15, 0), (15, 5)] r i
 | 45 => inP [(1, 3), (6, 2), (10, 2), (32, 1), (32, 6)] r i
 | 59 => inP [(4, 0), (4, 5), (6, 0), (6, 1)] r i
 | 60 => inP [(3, 0), (3, 6), (5, 0)] r i
 | 61 => inP [(1, 1), (6, 0), (6, 11), (7, 0), (7, 11), (17, 0), (17, 12), (18, 0), (18, 12)] r i
 | 62 => inP [(13, 0), (13, 5)] r i
 | 71 => inP [(9, 0), (9, 5)] r i
 | 79 => inP [(3, 0), (3, 6), (5, 0)] r i
 | 80 => inP [(1, 47)] r i
 | 81 => inP [(3, 0), (3, 9)] r i
 | 82 => inP [(1, 1), (8, 0), (8, 6), (13, 0), (13, 7)] r i
 | _ => false
def heapF (f r i : Nat) : Bool :=
 match f with
 | 4 => inP [(7, 3), (9, 3), (10, 6), (10, 10), (11, 10)] r i
 | 6 => inP [(11, 2), (11, 3), (19, 2), (19, 3)] r i
 | 12 => inP [(3, 3), (6, 4), (7, 3), (8, 3), (9, 4)] r i
 | 13 => inP [(1, 3), (4, 4)] r i
 | 18 => inP [(1, 0), (3, 3), (3, 8), (6, 2), (6, 5), (6, 10), (6, 13)] r i
 | 23 => inP [(2, 3), (3, 3), (5, 3), (12, 3), (14, 3), (14, 7), (15, 3)] r i
 | 24 => inP [(0, 3), (1, 4), (1, 8)] r i
 | 25 => inP [(2, 3), (3, 3), (5, 10), (13, 3), (15, 3), (15, 7), (16, 3)] r i
 | 26 => inP [(0, 3), (1, 4), (2, 4)] r i
 | 40 => inP [(1, 3), (3, 3), (3, 7), (4, 4), (6, 3), (6, 7), (7, 3), (7, 7)] r i
 | 43 => inP [(1, 3), (1, 9), (1, 13), (2, 4), (3, 3), (5, 3), (5, 7), (6, 3), (6, 7)] r i
 | 45 => inP [(13, 4), (24, 3), (29, 7)] r i
 | 65 => inP [(14, 1), (24, 6), (24, 7), (31, 5), (31, 6)] r i
 | 66 => inP [(0, 0), (1, 1), (2, 1), (4, 3), (4, 6), (4, 9), (4, 11), (4, 13), (4, 15), (6, 3), (6, 6), (6, 8), (8, 2), (10, 1), (11, 1), (12, 2), (15, 1), (21, 2), (22, 0)] r i
 | 67 => inP [(6, 4), (10, 4)] r i
 | 68 => inP [(1, 3), (3, 3), (3, 7), (5, 4), (7, 4)] r i
 | 69 => inP [(0, 3)] r i
 | 70 => inP [(4, 3), (6, 3), (6, 7), (8, 4), (10, 4)] r i
 | 71 => inP [(1, 3), (7, 7)] r i
 | 72 => inP [(1, 3)] r i
 | 74 => inP [(0, 3)] r i
 | 75 => inP [(1, 3), (3, 3), (3, 7), (5, 4), (7, 4)] r i
 | 82 => inP [(14, 2), (18, 8), (18, 9)] r i
 | 87 => inP [(0, 3), (1, 3), (3, 3), (5, 3), (7, 9), (7, 12), (8, 6), (8, 13), (9, 3)] r i
 | 88 => inP [(1, 3)] r i
 | 91 => inP [(1, 3), (2, 3), (5, 3)] r i
 | 96 => inP [(6, 2)] r i
 | 133 => inP [(1, 3)] r i
 | _ => false
def arrF (f r i : Nat) : Bool :=
 match f with
 | 65 => inP [(32, 1)] r i
 | 82 => inP [(20, 1)] r i
 | 96 => inP [(10, 1)] r i
 | _ => false
def pureF (f r i : Nat) : Bool :=
 match f with
 | 41 => inP [(1, 1), (3, 0), (6, 2), (8, 11)] r i
 | 66 => inP [(1, 2), (4, 4), (4, 7), (6, 4)] r i
 | 84 => inP [(1, 1), (3, 1)] r i
 | 85 => inP [(1, 1), (3, 1), (5, 2), (5, 5)] r i
 | 86 => inP [(1, 2)] r i
 | 87 => inP [(0, 4), (1, 4), (3, 4), (5, 4), (7, 5), (8, 14)] r i
 | 91 => inP [(4, 5), (7, 3)] r i
 | 92 => inP [(1, 2)] r i
 | 93 => inP [(1, 2)] r i
 | 95 => inP [(1, 1)] r i
 | 96 => inP [(3, 5)] r i
 | 102 => inP [(1, 2)] r i
 | 104 => inP [(1, 4), (3, 2)] r i
 | 105 => inP [(5, 3), (9, 2), (17, 6), (25, 6), (26, 4), (31, 4)] r i
 | 108 => inP [(1, 2)] r i
 | 111 => inP [(1, 1)] r i
 | _ => false
def retF (f : Nat) : Bool := [20, 34, 59, 80].any fun k => Nat.beq f k
def cutF (f id : Nat) : Option Keep :=
 match f, id with
 | 6, 17 => some ⟨[0, 1, 5, 8, 10, 11, 13, 14, 15, 16, 18, 19, 20], [], 0⟩
 | 6, 9 => some ⟨[0, 1, 5, 8, 9, 10, 11, 12], [], 0⟩
 | 8, 4 => some ⟨[0, 4, 5, 6], [], 0⟩
 | 10, 2 => some ⟨[0, 3], [], 0⟩
 | 11, 3 => some ⟨[0, 3, 4], [], 0⟩
 | 15, 4 => some ⟨[0, 1, 5], [], 0⟩
 | 16, 2 => some ⟨[0, 3], [], 0⟩
 | 17, 3 => some ⟨[0, 3, 4], [], 0⟩
 | 20, 2 => some ⟨[0, 7, 8, 9], [], 0⟩
 | 21, 10 => some ⟨[1, 7], [(0, 9)], 1⟩
 | 22, 24 => some ⟨[1, 3, 6], [(0, 9)], 1⟩
 | 23, 2 => some ⟨[0, 1, 6], [], 0⟩
 | 25, 2 => some ⟨[0, 1, 6], [], 0⟩
 | 27, 4 => some ⟨[0, 3], [], 0⟩
 | 28, 4 => some ⟨[0, 1, 5], [], 0⟩
 | 35, 3 => some ⟨[0, 3, 4], [], 0⟩
 | 39, 7 => some ⟨[0, 1, 5, 6, 7, 8], [], 0⟩
 | 39, 2 => some ⟨[0, 1, 5], [], 0⟩
 | 41, 4 => some ⟨[0, 2, 11, 12, 13], [(0, 7)], 1⟩
 | 45, 29 => some ⟨[0, 6, 7, 14, 15], [(0, 9), (1, 9)], 2⟩
 | 49, 18 => some ⟨[1, 3, 6, 48, 49, 50], [(0, 3)], 1⟩
 | 49, 1 => some ⟨[0, 1, 3, 6], [(0, 3)], 1⟩
 | 51, 17 => some ⟨[1, 2, 43, 44, 45], [], 0⟩
 | 51, 1 => some ⟨[0, 1, 2], [], 0⟩
 | 52, 2 => some ⟨[0, 1, 7, 8], [], 0⟩
 | 59, 2 => some ⟨[0, 7, 8, 9], [], 0⟩
 | 60, 2 => some ⟨[0, 3], [], 0⟩
 | 61, 10 => some ⟨[1, 4, 5], [], 0⟩
 | 61, 4 => some ⟨[1, 2, 3], [], 0⟩
 | 62, 27 => some ⟨[2, 13, 15, 19, 21, 22], [], 0⟩
 | 62, 21 => some ⟨[2, 13, 15, 19, 20], [], 0⟩
 | 62, 11 => some ⟨[2, 3, 12, 13, 15, 16, 17, 18], [], 0⟩
 | 62, 7 => some ⟨[2, 3, 12, 13, 15, 16], [], 0⟩
 | 65, 27 => some ⟨[0, 9, 10, 12], [], 0⟩
 | 65, 21 => some ⟨[0, 9, 10, 11, 12], [], 0⟩
 | 65, 18 => some ⟨[0, 9, 10, 12], [], 0⟩
 | 65, 5 => some ⟨[0, 3, 4, 5, 6], [], 0⟩
 | 71, 7 => some ⟨[0, 4, 5, 6], [], 0⟩
 | 78, 2 => some ⟨[0, 1, 7, 8], [], 0⟩
 | 79, 2 => some ⟨[0, 3], [], 0⟩
 | 81, 2 => some ⟨[0, 1, 2, 9], [], 0⟩
 | 82, 16 => some ⟨[0, 9, 47, 48, 49], [], 0⟩
 | 82, 4 => some ⟨[0, 1, 5, 6, 14], [], 0⟩
 | 96, 8 => some ⟨[7, 8], [], 0⟩
 | 98, 3 => some ⟨[0, 1, 2, 10, 11], [], 0⟩
 | 99, 14 => some ⟨[0, 1, 7, 8], [], 0⟩
 | 99, 3 => some ⟨[0, 1, 19, 20], [], 0⟩
 | 100, 14 => some ⟨[0, 1, 7, 8], [], 0⟩
 | 100, 3 => some ⟨[0, 1, 15, 16], [], 0⟩
 | 105, 15 => some ⟨[0, 1, 5, 6, 7, 8, 9, 10], [], 0⟩
 | 111, 11 => some ⟨[0, 1, 5, 6, 7, 8, 10], [], 0⟩
 | 111, 5 => some ⟨[0, 1, 5, 6, 7, 8, 9], [], 0⟩
 | 113, 8 => some ⟨[4, 6, 7, 8], [], 0⟩
 | 113, 3 => some ⟨[0, 4, 5], [], 0⟩
 | _, _ => none
def extF (f : Nat) : Option (List LV → Option LV) :=
 match f with
 | 65 => some fieldsE
 | 93 => some containsE
 | _ => none
noncomputable def cxS (m : Int) : Cx :=
  { P := Tryz.prog, cut := fun _ _ => none, take := takeF, heap := heapF, arr := arrF, pure := pureF, retOw := retF, ext := extF,
    glob := fun i => match i with | 1 => some asciiL | 3 => some [.int .i64 m] | _ => none }
def rawF (i : Nat) : Option Value := match i with | 0 => some (.iface 121 (.agg #[.pointer (some ⟨5, 28, none⟩)])) | _ => none
def bodyOf (P : Program) (g : FuncId) : List Item := match P.funcs[g]? with | some f => (match f.body with | some c => [.code c] | none => []) | none => []
end Go.Proofs.YthcjapmfchidhaaGreatDoor
namespace Go.Proofs.YthcjapmfchidhaaGreatDoor
open Go Go.Proofs.Am
def sb (l : List UInt8) : ByteArray := ⟨l.toArray⟩
def opV (b : Nat) (s : ByteArray) (k : Nat) (t : List Nat) (g y : Nat) (sg : Bool) : AV :=
 .agg [.int .i64 (.ofNat b), .str s, .int .i64 (.ofNat k), .imm (t.map fun x => [.int .i64 (.ofNat x)]), .int .i64 (.ofNat g), .int .i64 (.ofNat y), .bool sg]
def rowV (b : Nat) (s : ByteArray) (k : Nat) (t : ByteArray) (y : Nat) : List AV :=
 [.int .i64 (.ofNat b), .str s, .int .i64 (.ofNat k), .str t, .int .i64 (.ofNat y)]
def errV (n : Nat) : AV := .ifc 32 (.int .i64 (.ofNat n))
def lookL0 : List LV := [
 .tup [opV 0 (sb [117, 110, 114, 101, 97, 99, 104, 97, 98, 108, 101]) 1 [] 0 0 false, .nilI],
 .tup [opV 1 (sb [110, 111, 112]) 1 [] 0 0 false, .nilI],
 .tup [opV 2 (sb [98, 108, 111, 99, 107]) 2 [] 0 0 false, .nilI],
 .tup [opV 3 (sb [108, 111, 111, 112]) 2 [] 0 0 false, .nilI],
 .tup [opV 4 (sb [105, 102]) 2 [1] 0 0 false, .nilI],
 .tup [opV 0 (sb []) 0 [] 0 0 false, errV 5],
 .tup [opV 0 (sb []) 0 [] 0 0 false, errV 5],
 .tup [opV 0 (sb []) 0 [] 0 0 false, errV 5],
 .tup [opV 0 (sb []) 0 [] 0 0 false, errV 5],
 .tup [opV 0 (sb []) 0 [] 0 0 false, errV 5],
 .tup [opV 0 (sb []) 0 [] 0 0 false, errV 5],
 .tup [opV 0 (sb []) 0 [] 0 0 false, errV 5],
 .tup [opV 12 (sb [98, 114]) 3 [] 0 0 false, .nilI],
 .tup [opV 13 (sb [98, 114, 95, 105, 102]) 3 [1] 0 0 false, .nilI],
 .tup [opV 14 (sb [98, 114, 95, 116, 97, 98, 108, 101]) 3 [1] 0 0 false, .nilI],
 .tup [opV 15 (sb [114, 101, 116, 117, 114, 110]) 3 [] 0 0 false, .nilI],
 .tup [opV 16 (sb [99, 97, 108, 108]) 4 [] 0 0 false, .nilI],
 .tup [opV 17 (sb [99, 97, 108, 108, 95, 105, 110, 100, 105, 114, 101, 99, 116]) 4 [1] 0 0 false, .nilI],
 .tup [opV 0 (sb []) 0 [] 0 0 false, errV 5],
 .tup [opV 0 (sb []) 0 [] 0 0 false, errV 5],
 .tup [opV 0 (sb []) 0 [] 0 0 false, errV 5],
 .tup [opV 0 (sb []) 0 [] 0 0 false, errV 5],
 .tup [opV 0 (sb []) 0 [] 0 0 false, errV 5],
 .tup [opV 0 (sb []) 0 [] 0 0 false, errV 5],
 .tup [opV 0 (sb []) 0 [] 0 0 false, errV 5],
 .tup [opV 0 (sb []) 0 [] 0 0 false, errV 5],
 .tup [opV 26 (sb [100, 114, 111, 112]) 5 [] 0 0 false, .nilI],
 .tup [opV 27 (sb [115, 101, 108, 101, 99, 116]) 5 [1] 0 0 false, .nilI],
 .tup [opV 0 (sb []) 0 [] 0 0 false, errV 5],
 .tup [opV 0 (sb []) 0 [] 0 0 false, errV 5],
 .tup [opV 0 (sb []) 0 [] 0 0 false, errV 5],
 .tup [opV 0 (sb []) 0 [] 0 0 false, errV 5],
 .tup [opV 32 (sb [108, 111, 99, 97, 108, 46, 103, 101, 116]) 6 [] 0 0 false, .nilI],
 .tup [opV 33 (sb [108, 111, 99, 97, 108, 46, 115, 101, 116]) 6 [] 0 0 false, .nilI],
 .tup [opV 34 (sb [108, 111, 99, 97, 108, 46, 116, 101, 101]) 6 [] 0 0 false, .nilI],
 .tup [opV 35 (sb [103, 108, 111, 98, 97, 108, 46, 103, 101, 116]) 6 [] 0 0 false, .nilI],
 .tup [opV 36 (sb [103, 108, 111, 98, 97, 108, 46, 115, 101, 116]) 6 [] 0 0 false, .nilI],
 .tup [opV 0 (sb []) 0 [] 0 0 false, errV 5],
 .tup [opV 0 (sb []) 0 [] 0 0 false, errV 5],
 .tup [opV 0 (sb []) 0 [] 0 0 false, errV 5],
 .tup [opV 40 (sb [105, 51, 50, 46, 108, 111, 97, 100]) 7 [1] 1 4 false, .nilI],
 .tup [opV 41 (sb [105, 54, 52, 46, 108, 111, 97, 100]) 7 [1] 2 8 false, .nilI],
 .tup [opV 0 (sb []) 0 [] 0 0 false, errV 3],
 .tup [opV 0 (sb []) 0 [] 0 0 false, errV 3],
 .tup [opV 44 (sb [105, 51, 50, 46, 108, 111, 97, 100, 56, 95, 115]) 7 [1] 1 1 true, .nilI],
 .tup [opV 45 (sb [105, 51, 50, 46, 108, 111, 97, 100, 56, 95, 117]) 7 [1] 1 1 false, .nilI],
 .tup [opV 46 (sb [105, 51, 50, 46, 108, 111, 97, 100, 49, 54, 95, 115]) 7 [1] 1 2 true, .nilI],
 .tup [opV 47 (sb [105, 51, 50, 46, 108, 111, 97, 100, 49, 54, 95, 117]) 7 [1] 1 2 false, .nilI]]
def lookL1 : List LV := [
 .tup [opV 48 (sb [105, 54, 52, 46, 108, 111, 97, 100, 56, 95, 115]) 7 [1] 2 1 true, .nilI],
 .tup [opV 49 (sb [105, 54, 52, 46, 108, 111, 97, 100, 56, 95, 117]) 7 [1] 2 1 false, .nilI],
 .tup [opV 50 (sb [105, 54, 52, 46, 108, 111, 97, 100, 49, 54, 95, 115]) 7 [1] 2 2 true, .nilI],
 .tup [opV 51 (sb [105, 54, 52, 46, 108, 111, 97, 100, 49, 54, 95, 117]) 7 [1] 2 2 false, .nilI],
 .tup [opV 52 (sb [105, 54, 52, 46, 108, 111, 97, 100, 51, 50, 95, 115]) 7 [1] 2 4 true, .nilI],
 .tup [opV 53 (sb [105, 54, 52, 46, 108, 111, 97, 100, 51, 50, 95, 117]) 7 [1] 2 4 false, .nilI],
 .tup [opV 54 (sb [105, 51, 50, 46, 115, 116, 111, 114, 101]) 8 [1, 1] 0 4 false, .nilI],
 .tup [opV 55 (sb [105, 54, 52, 46, 115, 116, 111, 114, 101]) 8 [1, 2] 0 8 false, .nilI],
 .tup [opV 0 (sb []) 0 [] 0 0 false, errV 3],
 .tup [opV 0 (sb []) 0 [] 0 0 false, errV 3],
 .tup [opV 58 (sb [105, 51, 50, 46, 115, 116, 111, 114, 101, 56]) 8 [1, 1] 0 1 false, .nilI],
 .tup [opV 59 (sb [105, 51, 50, 46, 115, 116, 111, 114, 101, 49, 54]) 8 [1, 1] 0 2 false, .nilI],
 .tup [opV 60 (sb [105, 54, 52, 46, 115, 116, 111, 114, 101, 56]) 8 [1, 2] 0 1 false, .nilI],
 .tup [opV 61 (sb [105, 54, 52, 46, 115, 116, 111, 114, 101, 49, 54]) 8 [1, 2] 0 2 false, .nilI],
 .tup [opV 62 (sb [105, 54, 52, 46, 115, 116, 111, 114, 101, 51, 50]) 8 [1, 2] 0 4 false, .nilI],
 .tup [opV 63 (sb [109, 101, 109, 111, 114, 121, 46, 115, 105, 122, 101]) 9 [] 1 0 false, .nilI],
 .tup [opV 64 (sb [109, 101, 109, 111, 114, 121, 46, 103, 114, 111, 119]) 9 [1] 1 0 false, .nilI],
 .tup [opV 65 (sb [105, 51, 50, 46, 99, 111, 110, 115, 116]) 10 [] 1 0 false, .nilI],
 .tup [opV 66 (sb [105, 54, 52, 46, 99, 111, 110, 115, 116]) 10 [] 2 0 false, .nilI],
 .tup [opV 0 (sb []) 0 [] 0 0 false, errV 3],
 .tup [opV 0 (sb []) 0 [] 0 0 false, errV 3],
 .tup [opV 69 (sb [105, 51, 50, 46, 101, 113, 122]) 11 [1] 1 0 false, .nilI],
 .tup [opV 70 (sb [105, 51, 50, 46, 101, 113]) 11 [1, 1] 1 0 false, .nilI],
 .tup [opV 71 (sb [105, 51, 50, 46, 110, 101]) 11 [1, 1] 1 0 false, .nilI],
 .tup [opV 72 (sb [105, 51, 50, 46, 108, 116, 95, 115]) 11 [1, 1] 1 0 false, .nilI],
 .tup [opV 73 (sb [105, 51, 50, 46, 108, 116, 95, 117]) 11 [1, 1] 1 0 false, .nilI],
 .tup [opV 74 (sb [105, 51, 50, 46, 103, 116, 95, 115]) 11 [1, 1] 1 0 false, .nilI],
 .tup [opV 75 (sb [105, 51, 50, 46, 103, 116, 95, 117]) 11 [1, 1] 1 0 false, .nilI],
 .tup [opV 76 (sb [105, 51, 50, 46, 108, 101, 95, 115]) 11 [1, 1] 1 0 false, .nilI],
 .tup [opV 77 (sb [105, 51, 50, 46, 108, 101, 95, 117]) 11 [1, 1] 1 0 false, .nilI],
 .tup [opV 78 (sb [105, 51, 50, 46, 103, 101, 95, 115]) 11 [1, 1] 1 0 false, .nilI],
 .tup [opV 79 (sb [105, 51, 50, 46, 103, 101, 95, 117]) 11 [1, 1] 1 0 false, .nilI],
 .tup [opV 80 (sb [105, 54, 52, 46, 101, 113, 122]) 11 [2] 1 0 false, .nilI],
 .tup [opV 81 (sb [105, 54, 52, 46, 101, 113]) 11 [2, 2] 1 0 false, .nilI],
 .tup [opV 82 (sb [105, 54, 52, 46, 110, 101]) 11 [2, 2] 1 0 false, .nilI],
 .tup [opV 83 (sb [105, 54, 52, 46, 108, 116, 95, 115]) 11 [2, 2] 1 0 false, .nilI],
 .tup [opV 84 (sb [105, 54, 52, 46, 108, 116, 95, 117]) 11 [2, 2] 1 0 false, .nilI],
 .tup [opV 85 (sb [105, 54, 52, 46, 103, 116, 95, 115]) 11 [2, 2] 1 0 false, .nilI],
 .tup [opV 86 (sb [105, 54, 52, 46, 103, 116, 95, 117]) 11 [2, 2] 1 0 false, .nilI],
 .tup [opV 87 (sb [105, 54, 52, 46, 108, 101, 95, 115]) 11 [2, 2] 1 0 false, .nilI],
 .tup [opV 88 (sb [105, 54, 52, 46, 108, 101, 95, 117]) 11 [2, 2] 1 0 false, .nilI],
 .tup [opV 89 (sb [105, 54, 52, 46, 103, 101, 95, 115]) 11 [2, 2] 1 0 false, .nilI],
 .tup [opV 90 (sb [105, 54, 52, 46, 103, 101, 95, 117]) 11 [2, 2] 1 0 false, .nilI],
 .tup [opV 0 (sb []) 0 [] 0 0 false, errV 3],
 .tup [opV 0 (sb []) 0 [] 0 0 false, errV 3],
 .tup [opV 0 (sb []) 0 [] 0 0 false, errV 3],
 .tup [opV 0 (sb []) 0 [] 0 0 false, errV 3],
 .tup [opV 0 (sb []) 0 [] 0 0 false, errV 3]]
def lookL2 : List LV := [
 .tup [opV 0 (sb []) 0 [] 0 0 false, errV 3],
 .tup [opV 0 (sb []) 0 [] 0 0 false, errV 3],
 .tup [opV 0 (sb []) 0 [] 0 0 false, errV 3],
 .tup [opV 0 (sb []) 0 [] 0 0 false, errV 3],
 .tup [opV 0 (sb []) 0 [] 0 0 false, errV 3],
 .tup [opV 0 (sb []) 0 [] 0 0 false, errV 3],
 .tup [opV 0 (sb []) 0 [] 0 0 false, errV 3],
 .tup [opV 103 (sb [105, 51, 50, 46, 99, 108, 122]) 11 [1] 1 0 false, .nilI],
 .tup [opV 104 (sb [105, 51, 50, 46, 99, 116, 122]) 11 [1] 1 0 false, .nilI],
 .tup [opV 105 (sb [105, 51, 50, 46, 112, 111, 112, 99, 110, 116]) 11 [1] 1 0 false, .nilI],
 .tup [opV 106 (sb [105, 51, 50, 46, 97, 100, 100]) 11 [1, 1] 1 0 false, .nilI],
 .tup [opV 107 (sb [105, 51, 50, 46, 115, 117, 98]) 11 [1, 1] 1 0 false, .nilI],
 .tup [opV 108 (sb [105, 51, 50, 46, 109, 117, 108]) 11 [1, 1] 1 0 false, .nilI],
 .tup [opV 109 (sb [105, 51, 50, 46, 100, 105, 118, 95, 115]) 11 [1, 1] 1 0 false, .nilI],
 .tup [opV 110 (sb [105, 51, 50, 46, 100, 105, 118, 95, 117]) 11 [1, 1] 1 0 false, .nilI],
 .tup [opV 111 (sb [105, 51, 50, 46, 114, 101, 109, 95, 115]) 11 [1, 1] 1 0 false, .nilI],
 .tup [opV 112 (sb [105, 51, 50, 46, 114, 101, 109, 95, 117]) 11 [1, 1] 1 0 false, .nilI],
 .tup [opV 113 (sb [105, 51, 50, 46, 97, 110, 100]) 11 [1, 1] 1 0 false, .nilI],
 .tup [opV 114 (sb [105, 51, 50, 46, 111, 114]) 11 [1, 1] 1 0 false, .nilI],
 .tup [opV 115 (sb [105, 51, 50, 46, 120, 111, 114]) 11 [1, 1] 1 0 false, .nilI],
 .tup [opV 116 (sb [105, 51, 50, 46, 115, 104, 108]) 11 [1, 1] 1 0 false, .nilI],
 .tup [opV 117 (sb [105, 51, 50, 46, 115, 104, 114, 95, 115]) 11 [1, 1] 1 0 false, .nilI],
 .tup [opV 118 (sb [105, 51, 50, 46, 115, 104, 114, 95, 117]) 11 [1, 1] 1 0 false, .nilI],
 .tup [opV 119 (sb [105, 51, 50, 46, 114, 111, 116, 108]) 11 [1, 1] 1 0 false, .nilI],
 .tup [opV 120 (sb [105, 51, 50, 46, 114, 111, 116, 114]) 11 [1, 1] 1 0 false, .nilI],
 .tup [opV 121 (sb [105, 54, 52, 46, 99, 108, 122]) 11 [2] 2 0 false, .nilI],
 .tup [opV 122 (sb [105, 54, 52, 46, 99, 116, 122]) 11 [2] 2 0 false, .nilI],
 .tup [opV 123 (sb [105, 54, 52, 46, 112, 111, 112, 99, 110, 116]) 11 [2] 2 0 false, .nilI],
 .tup [opV 124 (sb [105, 54, 52, 46, 97, 100, 100]) 11 [2, 2] 2 0 false, .nilI],
 .tup [opV 125 (sb [105, 54, 52, 46, 115, 117, 98]) 11 [2, 2] 2 0 false, .nilI],
 .tup [opV 126 (sb [105, 54, 52, 46, 109, 117, 108]) 11 [2, 2] 2 0 false, .nilI],
 .tup [opV 127 (sb [105, 54, 52, 46, 100, 105, 118, 95, 115]) 11 [2, 2] 2 0 false, .nilI],
 .tup [opV 128 (sb [105, 54, 52, 46, 100, 105, 118, 95, 117]) 11 [2, 2] 2 0 false, .nilI],
 .tup [opV 129 (sb [105, 54, 52, 46, 114, 101, 109, 95, 115]) 11 [2, 2] 2 0 false, .nilI],
 .tup [opV 130 (sb [105, 54, 52, 46, 114, 101, 109, 95, 117]) 11 [2, 2] 2 0 false, .nilI],
 .tup [opV 131 (sb [105, 54, 52, 46, 97, 110, 100]) 11 [2, 2] 2 0 false, .nilI],
 .tup [opV 132 (sb [105, 54, 52, 46, 111, 114]) 11 [2, 2] 2 0 false, .nilI],
 .tup [opV 133 (sb [105, 54, 52, 46, 120, 111, 114]) 11 [2, 2] 2 0 false, .nilI],
 .tup [opV 134 (sb [105, 54, 52, 46, 115, 104, 108]) 11 [2, 2] 2 0 false, .nilI],
 .tup [opV 135 (sb [105, 54, 52, 46, 115, 104, 114, 95, 115]) 11 [2, 2] 2 0 false, .nilI],
 .tup [opV 136 (sb [105, 54, 52, 46, 115, 104, 114, 95, 117]) 11 [2, 2] 2 0 false, .nilI],
 .tup [opV 137 (sb [105, 54, 52, 46, 114, 111, 116, 108]) 11 [2, 2] 2 0 false, .nilI],
 .tup [opV 138 (sb [105, 54, 52, 46, 114, 111, 116, 114]) 11 [2, 2] 2 0 false, .nilI],
 .tup [opV 0 (sb []) 0 [] 0 0 false, errV 3],
 .tup [opV 0 (sb []) 0 [] 0 0 false, errV 3],
 .tup [opV 0 (sb []) 0 [] 0 0 false, errV 3],
 .tup [opV 0 (sb []) 0 [] 0 0 false, errV 3],
 .tup [opV 0 (sb []) 0 [] 0 0 false, errV 3]]
def lookL3 : List LV := [
 .tup [opV 0 (sb []) 0 [] 0 0 false, errV 3],
 .tup [opV 0 (sb []) 0 [] 0 0 false, errV 3],
 .tup [opV 0 (sb []) 0 [] 0 0 false, errV 3],
 .tup [opV 0 (sb []) 0 [] 0 0 false, errV 3],
 .tup [opV 0 (sb []) 0 [] 0 0 false, errV 3],
 .tup [opV 0 (sb []) 0 [] 0 0 false, errV 3],
 .tup [opV 0 (sb []) 0 [] 0 0 false, errV 3],
 .tup [opV 0 (sb []) 0 [] 0 0 false, errV 3],
 .tup [opV 0 (sb []) 0 [] 0 0 false, errV 3],
 .tup [opV 0 (sb []) 0 [] 0 0 false, errV 3],
 .tup [opV 0 (sb []) 0 [] 0 0 false, errV 3],
 .tup [opV 0 (sb []) 0 [] 0 0 false, errV 3],
 .tup [opV 0 (sb []) 0 [] 0 0 false, errV 3],
 .tup [opV 0 (sb []) 0 [] 0 0 false, errV 3],
 .tup [opV 0 (sb []) 0 [] 0 0 false, errV 3],
 .tup [opV 0 (sb []) 0 [] 0 0 false, errV 3],
 .tup [opV 0 (sb []) 0 [] 0 0 false, errV 3],
 .tup [opV 0 (sb []) 0 [] 0 0 false, errV 3],
 .tup [opV 0 (sb []) 0 [] 0 0 false, errV 3],
 .tup [opV 0 (sb []) 0 [] 0 0 false, errV 3],
 .tup [opV 0 (sb []) 0 [] 0 0 false, errV 3],
 .tup [opV 0 (sb []) 0 [] 0 0 false, errV 3],
 .tup [opV 0 (sb []) 0 [] 0 0 false, errV 3],
 .tup [opV 167 (sb [105, 51, 50, 46, 119, 114, 97, 112, 95, 105, 54, 52]) 11 [2] 1 0 false, .nilI],
 .tup [opV 0 (sb []) 0 [] 0 0 false, errV 3],
 .tup [opV 0 (sb []) 0 [] 0 0 false, errV 3],
 .tup [opV 0 (sb []) 0 [] 0 0 false, errV 3],
 .tup [opV 0 (sb []) 0 [] 0 0 false, errV 3],
 .tup [opV 172 (sb [105, 54, 52, 46, 101, 120, 116, 101, 110, 100, 95, 105, 51, 50, 95, 115]) 11 [1] 2 0 false, .nilI],
 .tup [opV 173 (sb [105, 54, 52, 46, 101, 120, 116, 101, 110, 100, 95, 105, 51, 50, 95, 117]) 11 [1] 2 0 false, .nilI],
 .tup [opV 0 (sb []) 0 [] 0 0 false, errV 3],
 .tup [opV 0 (sb []) 0 [] 0 0 false, errV 3],
 .tup [opV 0 (sb []) 0 [] 0 0 false, errV 3],
 .tup [opV 0 (sb []) 0 [] 0 0 false, errV 3],
 .tup [opV 0 (sb []) 0 [] 0 0 false, errV 3],
 .tup [opV 0 (sb []) 0 [] 0 0 false, errV 3],
 .tup [opV 0 (sb []) 0 [] 0 0 false, errV 3],
 .tup [opV 0 (sb []) 0 [] 0 0 false, errV 3],
 .tup [opV 0 (sb []) 0 [] 0 0 false, errV 3],
 .tup [opV 0 (sb []) 0 [] 0 0 false, errV 3],
 .tup [opV 0 (sb []) 0 [] 0 0 false, errV 3],
 .tup [opV 0 (sb []) 0 [] 0 0 false, errV 3],
 .tup [opV 0 (sb []) 0 [] 0 0 false, errV 3],
 .tup [opV 0 (sb []) 0 [] 0 0 false, errV 3],
 .tup [opV 0 (sb []) 0 [] 0 0 false, errV 3],
 .tup [opV 0 (sb []) 0 [] 0 0 false, errV 3],
 .tup [opV 0 (sb []) 0 [] 0 0 false, errV 3],
 .tup [opV 0 (sb []) 0 [] 0 0 false, errV 3]]
noncomputable def run8 (m : Int) (z : Int) : Option LV := (blkF (cxS m) 12 41 (bodyOf Tryz.prog 41) [.v (.int .i64 z)] Heap.nil).map Prod.fst
end Go.Proofs.YthcjapmfchidhaaGreatDoor
namespace Go.Proofs.YthcjapmfchidhaaGreatDoor
open Go Go.Proofs.Am
theorem chunk_0_0 (m : Int) : (List.range' 0 12).map (fun n => run8 m (.ofNat n)) = ((lookL0.drop 0).take 12).map some := by kernel_rfl
theorem chunk_0_1 (m : Int) : (List.range' 12 12).map (fun n => run8 m (.ofNat n)) = ((lookL0.drop 12).take 12).map some := by kernel_rfl
theorem chunk_0_2 (m : Int) : (List.range' 24 12).map (fun n => run8 m (.ofNat n)) = ((lookL0.drop 24).take 12).map some := by kernel_rfl
theorem chunk_0_3 (m : Int) : (List.range' 36 12).map (fun n => run8 m (.ofNat n)) = ((lookL0.drop 36).take 12).map some := by kernel_rfl
theorem chunk_0 (m : Int) : (List.range' 0 48).map (fun n => run8 m (.ofNat n)) = lookL0.map some := by
 have e : List.range' 0 48 = List.range' 0 12 ++ (List.range' 12 12 ++ (List.range' 24 12 ++ List.range' 36 12)) := by kernel_rfl
 rw [e, List.map_append, List.map_append, List.map_append, chunk_0_0, chunk_0_1, chunk_0_2, chunk_0_3]
 have h : ((lookL0.drop 0).take 12).map some ++ (((lookL0.drop 12).take 12).map some ++ (((lookL0.drop 24).take 12).map some ++ (((lookL0.drop 36).take 12).map some))) = lookL0.map some := by kernel_rfl
 exact h
end Go.Proofs.YthcjapmfchidhaaGreatDoor
namespace Go.Proofs.YthcjapmfchidhaaGreatDoor
open Go Go.Proofs.Am
theorem chunk_1_0 (m : Int) : (List.range' 48 12).map (fun n => run8 m (.ofNat n)) = ((lookL1.drop 0).take 12).map some := by kernel_rfl
theorem chunk_1_1 (m : Int) : (List.range' 60 12).map (fun n => run8 m (.ofNat n)) = ((lookL1.drop 12).take 12).map some := by kernel_rfl
theorem chunk_1_2 (m : Int) : (List.range' 72 12).map (fun n => run8 m (.ofNat n)) = ((lookL1.drop 24).take 12).map some := by kernel_rfl
theorem chunk_1_3 (m : Int) : (List.range' 84 12).map (fun n => run8 m (.ofNat n)) = ((lookL1.drop 36).take 12).map some := by kernel_rfl
theorem chunk_1 (m : Int) : (List.range' 48 48).map (fun n => run8 m (.ofNat n)) = lookL1.map some := by
 have e : List.range' 48 48 = List.range' 48 12 ++ (List.range' 60 12 ++ (List.range' 72 12 ++ List.range' 84 12)) := by kernel_rfl
 rw [e, List.map_append, List.map_append, List.map_append, chunk_1_0, chunk_1_1, chunk_1_2, chunk_1_3]
 have h : ((lookL1.drop 0).take 12).map some ++ (((lookL1.drop 12).take 12).map some ++ (((lookL1.drop 24).take 12).map some ++ (((lookL1.drop 36).take 12).map some))) = lookL1.map some := by kernel_rfl
 exact h
end Go.Proofs.YthcjapmfchidhaaGreatDoor
namespace Go.Proofs.YthcjapmfchidhaaGreatDoor
open Go Go.Proofs.Am
theorem chunk_2_0 (m : Int) : (List.range' 96 12).map (fun n => run8 m (.ofNat n)) = ((lookL2.drop 0).take 12).map some := by kernel_rfl
theorem chunk_2_1 (m : Int) : (List.range' 108 12).map (fun n => run8 m (.ofNat n)) = ((lookL2.drop 12).take 12).map some := by kernel_rfl
theorem chunk_2_2 (m : Int) : (List.range' 120 12).map (fun n => run8 m (.ofNat n)) = ((lookL2.drop 24).take 12).map some := by kernel_rfl
theorem chunk_2_3 (m : Int) : (List.range' 132 12).map (fun n => run8 m (.ofNat n)) = ((lookL2.drop 36).take 12).map some := by kernel_rfl
theorem chunk_2 (m : Int) : (List.range' 96 48).map (fun n => run8 m (.ofNat n)) = lookL2.map some := by
 have e : List.range' 96 48 = List.range' 96 12 ++ (List.range' 108 12 ++ (List.range' 120 12 ++ List.range' 132 12)) := by kernel_rfl
 rw [e, List.map_append, List.map_append, List.map_append, chunk_2_0, chunk_2_1, chunk_2_2, chunk_2_3]
 have h : ((lookL2.drop 0).take 12).map some ++ (((lookL2.drop 12).take 12).map some ++ (((lookL2.drop 24).take 12).map some ++ (((lookL2.drop 36).take 12).map some))) = lookL2.map some := by kernel_rfl
 exact h
end Go.Proofs.YthcjapmfchidhaaGreatDoor
namespace Go.Proofs.YthcjapmfchidhaaGreatDoor
open Go Go.Proofs.Am
theorem chunk_3_0 (m : Int) : (List.range' 144 12).map (fun n => run8 m (.ofNat n)) = ((lookL3.drop 0).take 12).map some := by kernel_rfl
theorem chunk_3_1 (m : Int) : (List.range' 156 12).map (fun n => run8 m (.ofNat n)) = ((lookL3.drop 12).take 12).map some := by kernel_rfl
theorem chunk_3_2 (m : Int) : (List.range' 168 12).map (fun n => run8 m (.ofNat n)) = ((lookL3.drop 24).take 12).map some := by kernel_rfl
theorem chunk_3_3 (m : Int) : (List.range' 180 12).map (fun n => run8 m (.ofNat n)) = ((lookL3.drop 36).take 12).map some := by kernel_rfl
theorem chunk_3 (m : Int) : (List.range' 144 48).map (fun n => run8 m (.ofNat n)) = lookL3.map some := by
 have e : List.range' 144 48 = List.range' 144 12 ++ (List.range' 156 12 ++ (List.range' 168 12 ++ List.range' 180 12)) := by kernel_rfl
 rw [e, List.map_append, List.map_append, List.map_append, chunk_3_0, chunk_3_1, chunk_3_2, chunk_3_3]
 have h : ((lookL3.drop 0).take 12).map some ++ (((lookL3.drop 12).take 12).map some ++ (((lookL3.drop 24).take 12).map some ++ (((lookL3.drop 36).take 12).map some))) = lookL3.map some := by kernel_rfl
 exact h
end Go.Proofs.YthcjapmfchidhaaGreatDoor
namespace Go.Proofs.YthcjapmfchidhaaGreatDoor
open Go Go.Proofs.Am
theorem namesB : (Tryz.prog.funcs.toList.all fun fn => fn.name != "runtime.NumGoroutine") = true := by kernel_rfl
theorem npA : (AV.snap asciiL).np = true := by kernel_rfl
theorem names_ok (f : FuncId) (fn : Func) (hf : Tryz.prog.funcs[f]? = some fn) : fn.name ≠ "runtime.NumGoroutine" := by
 intro h
 have := List.all_eq_true.1 namesB fn (List.mem_of_getElem? (by simpa using hf))
 simp [h] at this
theorem globs_ok (m : Int) (i : Nat) (cs : List AV) (hi : (cxS m).glob i = some cs) : (AV.snap cs).np = true := by
 match i, hi with
 | 0, hi => cases hi
 | 1, hi => cases hi; exact npA
 | 2, hi => cases hi
 | 3, hi => cases hi; rfl
 | n + 4, hi => cases hi
theorem body_of {f : FuncId} {fn : Func} (h : Tryz.prog.funcs[f]? = some fn) (hb : fn.body.isSome = true) : ∃ c, fn.body = some c ∧ bodyOf Tryz.prog f = [.code c] := by
 cases hc : fn.body with
 | none => rw [hc] at hb; cases hb
 | some c => exact ⟨c, rfl, by simp only [bodyOf, h, hc]⟩
theorem cut_none {cx : Cx} (h : cx.cut = fun _ _ => none) (f : FuncId) (todo : List Item) : cutAt cx f todo = none := by
 unfold cutAt
 split
 ·rw [h]
 ·rfl
theorem cxS_ok (m : Int) : CxOk (cxS m) where
 names := names_ok
 ext := fun f e h => by
  have h : extF f = some e := h
  unfold extF at h
  split at h
  ·cases h
   obtain ⟨c, hc, _⟩ := body_of Tryz.func65 (by kernel_rfl)
   exact ⟨fields_ok rfl rfl, _, c, Tryz.func65, hc⟩
  ·cases h
   obtain ⟨c, hc, _⟩ := body_of Tryz.func93 (by kernel_rfl)
   exact ⟨contains_ok (m := m) rfl rfl, _, c, Tryz.func93, hc⟩
  ·cases h
 mixed := by kernel_rfl
 globs := globs_ok m
def noneL : LV := .tup [opV 0 (sb []) 0 [] 0 0 false, errV 5]
def lookL : List LV := lookL0 ++ (lookL1 ++ (lookL2 ++ lookL3))
def lookV (z : Int) : LV :=
 match z with
 | .ofNat n => (lookL[n]?).getD noneL
 | .negSucc _ => noneL
theorem big (m : Int) (k : Nat) : run8 m (.ofNat (k + 192)) = some noneL := by kernel_rfl
theorem neg (m : Int) (k : Nat) : run8 m (.negSucc k) = some noneL := by kernel_rfl
theorem lookBig (k : Nat) : lookV (.ofNat (k + 192)) = noneL := by kernel_rfl
theorem chunks (m : Int) : (List.range 192).map (fun n => run8 m (.ofNat n)) = lookL.map some := by
 have e : List.range 192 = List.range' 0 48 ++ (List.range' 48 48 ++ (List.range' 96 48 ++ List.range' 144 48)) := by kernel_rfl
 rw [e, List.map_append, List.map_append, List.map_append, chunk_0, chunk_1, chunk_2, chunk_3]
 simp only [lookL, List.map_append]
theorem run8_eq (m z : Int) : run8 m z = some (lookV z) := by
 cases z with
 | negSucc k => exact neg m k
 | ofNat n =>
  by_cases h : n < 192
  ·have h1 : (((List.range 192).map (fun n => run8 m (.ofNat n)))[n]?) = (lookL.map some)[n]? := by rw [chunks]
   rw [List.getElem?_map, List.getElem?_range h, List.getElem?_map, Option.map_some] at h1
   cases h2 : lookL[n]? with
   | none => rw [h2] at h1; cases h1
   | some x =>
    rw [h2] at h1
    simp only [Option.map_some, Option.some.injEq] at h1
    rw [h1]
    simp only [lookV, h2, Option.getD_some]
  ·obtain ⟨k, rfl⟩ : ∃ k, n = k + 192 := ⟨n - 192, by omega⟩
   rw [big, lookBig]
theorem lookNp : (noneL.np && lookL.all LV.np) = true := by kernel_rfl
theorem lookV_np (z : Int) : (lookV z).np = true := by
 have h := lookNp
 rw [Bool.and_eq_true] at h
 unfold lookV
 split
 ·rename_i n
  cases h2 : lookL[n]? with
  | none => exact h.1
  | some x => exact List.all_eq_true.1 h.2 x (List.mem_of_getElem? h2)
 ·exact h.1
def lookE : List LV → Option LV
 | [.v (.int .i64 z)] => some (lookV z)
 | _ => none
theorem ext_of {m : Int} {f : FuncId} {fn : Func} (hf : Tryz.prog.funcs[f]? = some fn) (hb : fn.body.isSome = true) {cx' : Cx} (hP : cx'.P = Tryz.prog) (hg : cx'.glob = (cxS m).glob) {e : List LV → Option LV} {n : Nat}
  (he : ∀ (xs : List LV) (x : LV), e xs = some x → npLs xs = true ∧ x.np = true ∧ (blkF (cxS m) n f (bodyOf Tryz.prog f) xs Heap.nil).map Prod.fst = some x) : ExtOk cx' f e ∧ ∃ fn c, cx'.P.funcs[f]? = some fn ∧ fn.body = some c := by
 obtain ⟨c, hc, hbody⟩ := body_of hf hb
 refine ⟨ext_run (cxS_ok m) hP hg hf hc (cut_none rfl f _) fun xs x hx => ?_, fn, c, by rw [hP]; exact hf, hc⟩
 obtain ⟨h1, h2, h3⟩ := he xs x hx
 rw [hbody] at h3
 exact ⟨h1, h2, blk_of_run h3⟩
theorem look_ok {m : Int} {cx' : Cx} (hP : cx'.P = Tryz.prog) (hg : cx'.glob = (cxS m).glob) : ExtOk cx' 41 lookE ∧ ∃ fn c, cx'.P.funcs[41]? = some fn ∧ fn.body = some c :=
 ext_of (m := m) (n := 12) Tryz.func41 (by kernel_rfl) hP hg fun xs x hx => by
  unfold lookE at hx
  split at hx
  ·rename_i z
   cases hx
   exact ⟨rfl, lookV_np z, run8_eq m z⟩
  ·cases hx
end Go.Proofs.YthcjapmfchidhaaGreatDoor
namespace Go.Proofs.YthcjapmfchidhaaGreatDoor
set_option maxRecDepth 100000
open Go Go.Proofs.Am
structure RowQ where
 b : Nat
 n : ByteArray
 k : Nat
 t : ByteArray
 y : Nat
 tk : List Nat
 gv : Nat
 sg : Bool
def RowQ.enc (r : RowQ) : List AV := [.int .i64 (.ofNat r.b), .str r.n, .int .i64 (.ofNat r.k), .str r.t, .int .i64 (.ofNat r.y)]
def RowQ.op (r : RowQ) : List AV := [.int .i64 (.ofNat r.b), .str r.n, .int .i64 (.ofNat r.k), .imm (r.tk.map fun x => [.int .i64 (.ofNat x)]), .int .i64 (.ofNat r.gv), .int .i64 (.ofNat r.y), .bool r.sg]
def rowsT : List RowQ := [
 ⟨0, sb [117,110,114,101,97,99,104,97,98,108,101], 1, sb [58], 0, [], 0, false⟩, ⟨1, sb [110,111,112], 1, sb [58], 0, [], 0, false⟩,
 ⟨2, sb [98,108,111,99,107], 2, sb [58], 0, [], 0, false⟩, ⟨3, sb [108,111,111,112], 2, sb [58], 0, [], 0, false⟩,
 ⟨4, sb [105,102], 2, sb [52,58], 0, [1], 0, false⟩, ⟨12, sb [98,114], 3, sb [58], 0, [], 0, false⟩,
 ⟨13, sb [98,114,95,105,102], 3, sb [52,58], 0, [1], 0, false⟩, ⟨14, sb [98,114,95,116,97,98,108,101], 3, sb [52,58], 0, [1], 0, false⟩,
 ⟨15, sb [114,101,116,117,114,110], 3, sb [58], 0, [], 0, false⟩, ⟨16, sb [99,97,108,108], 4, sb [58], 0, [], 0, false⟩,
 ⟨17, sb [99,97,108,108,95,105,110,100,105,114,101,99,116], 4, sb [52,58], 0, [1], 0, false⟩, ⟨26, sb [100,114,111,112], 5, sb [58], 0, [], 0, false⟩,
 ⟨27, sb [115,101,108,101,99,116], 5, sb [52,58], 0, [1], 0, false⟩, ⟨32, sb [108,111,99,97,108,46,103,101,116], 6, sb [58], 0, [], 0, false⟩,
 ⟨33, sb [108,111,99,97,108,46,115,101,116], 6, sb [58], 0, [], 0, false⟩, ⟨34, sb [108,111,99,97,108,46,116,101,101], 6, sb [58], 0, [], 0, false⟩,
 ⟨35, sb [103,108,111,98,97,108,46,103,101,116], 6, sb [58], 0, [], 0, false⟩, ⟨36, sb [103,108,111,98,97,108,46,115,101,116], 6, sb [58], 0, [], 0, false⟩,
 ⟨40, sb [105,51,50,46,108,111,97,100], 7, sb [52,58,52], 4, [1], 1, false⟩, ⟨41, sb [105,54,52,46,108,111,97,100], 7, sb [52,58,56], 8, [1], 2, false⟩,
 ⟨44, sb [105,51,50,46,108,111,97,100,56,95,115], 7, sb [52,58,52], 1, [1], 1, true⟩, ⟨45, sb [105,51,50,46,108,111,97,100,56,95,117], 7, sb [52,58,52], 1, [1], 1, false⟩,
 ⟨46, sb [105,51,50,46,108,111,97,100,49,54,95,115], 7, sb [52,58,52], 2, [1], 1, true⟩, ⟨47, sb [105,51,50,46,108,111,97,100,49,54,95,117], 7, sb [52,58,52], 2, [1], 1, false⟩,
 ⟨48, sb [105,54,52,46,108,111,97,100,56,95,115], 7, sb [52,58,56], 1, [1], 2, true⟩, ⟨49, sb [105,54,52,46,108,111,97,100,56,95,117], 7, sb [52,58,56], 1, [1], 2, false⟩,
 ⟨50, sb [105,54,52,46,108,111,97,100,49,54,95,115], 7, sb [52,58,56], 2, [1], 2, true⟩, ⟨51, sb [105,54,52,46,108,111,97,100,49,54,95,117], 7, sb [52,58,56], 2, [1], 2, false⟩,
 ⟨52, sb [105,54,52,46,108,111,97,100,51,50,95,115], 7, sb [52,58,56], 4, [1], 2, true⟩, ⟨53, sb [105,54,52,46,108,111,97,100,51,50,95,117], 7, sb [52,58,56], 4, [1], 2, false⟩,
 ⟨54, sb [105,51,50,46,115,116,111,114,101], 8, sb [52,52,58], 4, [1, 1], 0, false⟩, ⟨55, sb [105,54,52,46,115,116,111,114,101], 8, sb [52,56,58], 8, [1, 2], 0, false⟩,
 ⟨58, sb [105,51,50,46,115,116,111,114,101,56], 8, sb [52,52,58], 1, [1, 1], 0, false⟩, ⟨59, sb [105,51,50,46,115,116,111,114,101,49,54], 8, sb [52,52,58], 2, [1, 1], 0, false⟩,
 ⟨60, sb [105,54,52,46,115,116,111,114,101,56], 8, sb [52,56,58], 1, [1, 2], 0, false⟩, ⟨61, sb [105,54,52,46,115,116,111,114,101,49,54], 8, sb [52,56,58], 2, [1, 2], 0, false⟩,
 ⟨62, sb [105,54,52,46,115,116,111,114,101,51,50], 8, sb [52,56,58], 4, [1, 2], 0, false⟩, ⟨63, sb [109,101,109,111,114,121,46,115,105,122,101], 9, sb [58,52], 0, [], 1, false⟩,
 ⟨64, sb [109,101,109,111,114,121,46,103,114,111,119], 9, sb [52,58,52], 0, [1], 1, false⟩, ⟨65, sb [105,51,50,46,99,111,110,115,116], 10, sb [58,52], 0, [], 1, false⟩,
 ⟨66, sb [105,54,52,46,99,111,110,115,116], 10, sb [58,56], 0, [], 2, false⟩, ⟨69, sb [105,51,50,46,101,113,122], 11, sb [52,58,52], 0, [1], 1, false⟩,
 ⟨80, sb [105,54,52,46,101,113,122], 11, sb [56,58,52], 0, [2], 1, false⟩, ⟨167, sb [105,51,50,46,119,114,97,112,95,105,54,52], 11, sb [56,58,52], 0, [2], 1, false⟩,
 ⟨172, sb [105,54,52,46,101,120,116,101,110,100,95,105,51,50,95,115], 11, sb [52,58,56], 0, [1], 2, false⟩, ⟨173, sb [105,54,52,46,101,120,116,101,110,100,95,105,51,50,95,117], 11, sb [52,58,56], 0, [1], 2, false⟩,
 ⟨70, sb [105,51,50,46,101,113], 11, sb [52,52,58,52], 0, [1, 1], 1, false⟩, ⟨81, sb [105,54,52,46,101,113], 11, sb [56,56,58,52], 0, [2, 2], 1, false⟩,
 ⟨71, sb [105,51,50,46,110,101], 11, sb [52,52,58,52], 0, [1, 1], 1, false⟩, ⟨82, sb [105,54,52,46,110,101], 11, sb [56,56,58,52], 0, [2, 2], 1, false⟩,
 ⟨72, sb [105,51,50,46,108,116,95,115], 11, sb [52,52,58,52], 0, [1, 1], 1, false⟩, ⟨83, sb [105,54,52,46,108,116,95,115], 11, sb [56,56,58,52], 0, [2, 2], 1, false⟩,
 ⟨73, sb [105,51,50,46,108,116,95,117], 11, sb [52,52,58,52], 0, [1, 1], 1, false⟩, ⟨84, sb [105,54,52,46,108,116,95,117], 11, sb [56,56,58,52], 0, [2, 2], 1, false⟩,
 ⟨74, sb [105,51,50,46,103,116,95,115], 11, sb [52,52,58,52], 0, [1, 1], 1, false⟩, ⟨85, sb [105,54,52,46,103,116,95,115], 11, sb [56,56,58,52], 0, [2, 2], 1, false⟩,
 ⟨75, sb [105,51,50,46,103,116,95,117], 11, sb [52,52,58,52], 0, [1, 1], 1, false⟩, ⟨86, sb [105,54,52,46,103,116,95,117], 11, sb [56,56,58,52], 0, [2, 2], 1, false⟩,
 ⟨76, sb [105,51,50,46,108,101,95,115], 11, sb [52,52,58,52], 0, [1, 1], 1, false⟩, ⟨87, sb [105,54,52,46,108,101,95,115], 11, sb [56,56,58,52], 0, [2, 2], 1, false⟩,
 ⟨77, sb [105,51,50,46,108,101,95,117], 11, sb [52,52,58,52], 0, [1, 1], 1, false⟩, ⟨88, sb [105,54,52,46,108,101,95,117], 11, sb [56,56,58,52], 0, [2, 2], 1, false⟩,
 ⟨78, sb [105,51,50,46,103,101,95,115], 11, sb [52,52,58,52], 0, [1, 1], 1, false⟩, ⟨89, sb [105,54,52,46,103,101,95,115], 11, sb [56,56,58,52], 0, [2, 2], 1, false⟩,
 ⟨79, sb [105,51,50,46,103,101,95,117], 11, sb [52,52,58,52], 0, [1, 1], 1, false⟩, ⟨90, sb [105,54,52,46,103,101,95,117], 11, sb [56,56,58,52], 0, [2, 2], 1, false⟩,
 ⟨103, sb [105,51,50,46,99,108,122], 11, sb [52,58,52], 0, [1], 1, false⟩, ⟨121, sb [105,54,52,46,99,108,122], 11, sb [56,58,56], 0, [2], 2, false⟩,
 ⟨104, sb [105,51,50,46,99,116,122], 11, sb [52,58,52], 0, [1], 1, false⟩, ⟨122, sb [105,54,52,46,99,116,122], 11, sb [56,58,56], 0, [2], 2, false⟩,
 ⟨105, sb [105,51,50,46,112,111,112,99,110,116], 11, sb [52,58,52], 0, [1], 1, false⟩, ⟨123, sb [105,54,52,46,112,111,112,99,110,116], 11, sb [56,58,56], 0, [2], 2, false⟩,
 ⟨106, sb [105,51,50,46,97,100,100], 11, sb [52,52,58,52], 0, [1, 1], 1, false⟩, ⟨124, sb [105,54,52,46,97,100,100], 11, sb [56,56,58,56], 0, [2, 2], 2, false⟩,
 ⟨107, sb [105,51,50,46,115,117,98], 11, sb [52,52,58,52], 0, [1, 1], 1, false⟩, ⟨125, sb [105,54,52,46,115,117,98], 11, sb [56,56,58,56], 0, [2, 2], 2, false⟩,
 ⟨108, sb [105,51,50,46,109,117,108], 11, sb [52,52,58,52], 0, [1, 1], 1, false⟩, ⟨126, sb [105,54,52,46,109,117,108], 11, sb [56,56,58,56], 0, [2, 2], 2, false⟩,
 ⟨109, sb [105,51,50,46,100,105,118,95,115], 11, sb [52,52,58,52], 0, [1, 1], 1, false⟩, ⟨127, sb [105,54,52,46,100,105,118,95,115], 11, sb [56,56,58,56], 0, [2, 2], 2, false⟩,
 ⟨110, sb [105,51,50,46,100,105,118,95,117], 11, sb [52,52,58,52], 0, [1, 1], 1, false⟩, ⟨128, sb [105,54,52,46,100,105,118,95,117], 11, sb [56,56,58,56], 0, [2, 2], 2, false⟩,
 ⟨111, sb [105,51,50,46,114,101,109,95,115], 11, sb [52,52,58,52], 0, [1, 1], 1, false⟩, ⟨129, sb [105,54,52,46,114,101,109,95,115], 11, sb [56,56,58,56], 0, [2, 2], 2, false⟩,
 ⟨112, sb [105,51,50,46,114,101,109,95,117], 11, sb [52,52,58,52], 0, [1, 1], 1, false⟩, ⟨130, sb [105,54,52,46,114,101,109,95,117], 11, sb [56,56,58,56], 0, [2, 2], 2, false⟩,
 ⟨113, sb [105,51,50,46,97,110,100], 11, sb [52,52,58,52], 0, [1, 1], 1, false⟩, ⟨131, sb [105,54,52,46,97,110,100], 11, sb [56,56,58,56], 0, [2, 2], 2, false⟩,
 ⟨114, sb [105,51,50,46,111,114], 11, sb [52,52,58,52], 0, [1, 1], 1, false⟩, ⟨132, sb [105,54,52,46,111,114], 11, sb [56,56,58,56], 0, [2, 2], 2, false⟩,
 ⟨115, sb [105,51,50,46,120,111,114], 11, sb [52,52,58,52], 0, [1, 1], 1, false⟩, ⟨133, sb [105,54,52,46,120,111,114], 11, sb [56,56,58,56], 0, [2, 2], 2, false⟩,
 ⟨116, sb [105,51,50,46,115,104,108], 11, sb [52,52,58,52], 0, [1, 1], 1, false⟩, ⟨134, sb [105,54,52,46,115,104,108], 11, sb [56,56,58,56], 0, [2, 2], 2, false⟩,
 ⟨117, sb [105,51,50,46,115,104,114,95,115], 11, sb [52,52,58,52], 0, [1, 1], 1, false⟩, ⟨135, sb [105,54,52,46,115,104,114,95,115], 11, sb [56,56,58,56], 0, [2, 2], 2, false⟩,
 ⟨118, sb [105,51,50,46,115,104,114,95,117], 11, sb [52,52,58,52], 0, [1, 1], 1, false⟩, ⟨136, sb [105,54,52,46,115,104,114,95,117], 11, sb [56,56,58,56], 0, [2, 2], 2, false⟩,
 ⟨119, sb [105,51,50,46,114,111,116,108], 11, sb [52,52,58,52], 0, [1, 1], 1, false⟩, ⟨137, sb [105,54,52,46,114,111,116,108], 11, sb [56,56,58,56], 0, [2, 2], 2, false⟩,
 ⟨120, sb [105,51,50,46,114,111,116,114], 11, sb [52,52,58,52], 0, [1, 1], 1, false⟩, ⟨138, sb [105,54,52,46,114,111,116,114], 11, sb [56,56,58,56], 0, [2, 2], 2, false⟩]
def allL : List (List AV) := rowsT.map RowQ.enc
def rowsE : List LV → Option LV
 | [] => some (.v (.imm allL))
 | _ => none
theorem run123 (m : Int) : (blkF (cxS m) 12 61 (bodyOf Tryz.prog 61) [] Heap.nil).map Prod.fst = some (.v (.imm allL)) := by kernel_rfl
theorem allNp : (AV.imm allL).np = true := by kernel_rfl
theorem rows_ok {m : Int} {cx' : Cx} (hP : cx'.P = Tryz.prog) (hg : cx'.glob = (cxS m).glob) : ExtOk cx' 61 rowsE ∧ ∃ fn c, cx'.P.funcs[61]? = some fn ∧ fn.body = some c :=
 ext_of (m := m) (n := 12) Tryz.func61 (by kernel_rfl) hP hg fun xs x hx => by
  unfold rowsE at hx
  split at hx
  ·cases hx
   exact ⟨rfl, allNp, run123 m⟩
  ·cases hx
end Go.Proofs.YthcjapmfchidhaaGreatDoor
namespace Go.Proofs.YthcjapmfchidhaaGreatDoor
open Go Go.Proofs.Am
def floN (n : Nat) : Bool := [42, 43, 56, 57, 67, 68].any (Nat.beq n) || (Nat.ble 91 n && Nat.ble n 102) || (Nat.ble 139 n && Nat.ble n 166) || (Nat.ble 168 n && Nat.ble n 171) || (Nat.ble 174 n && Nat.ble n 191)
def floB (z : Int) : Bool :=
 match z with
 | .ofNat n => floN n
 | .negSucc _ => false
noncomputable def run44 (m z : Int) : Option LV := (blkF (cxS m) 12 44 (bodyOf Tryz.prog 44) [.v (.int .i64 z)] Heap.nil).map Prod.fst
theorem big44 (m : Int) (k : Nat) : run44 m (.ofNat (k + 192)) = some (.v (.bool false)) := by kernel_rfl
theorem neg44 (m : Int) (k : Nat) : run44 m (.negSucc k) = some (.v (.bool false)) := by kernel_rfl
theorem floBig (k : Nat) : floN (k + 192) = false := by kernel_rfl
theorem low44 (m : Int) : (List.range 192).map (fun n => run44 m (.ofNat n)) = (List.range 192).map (fun n => some (.v (.bool (floN n)))) := by kernel_rfl
theorem run44_eq (m z : Int) : run44 m z = some (.v (.bool (floB z))) := by
 cases z with
 | negSucc k => exact neg44 m k
 | ofNat n =>
  by_cases h : n < 192
  ·have h1 : (((List.range 192).map (fun n => run44 m (.ofNat n)))[n]?) = ((List.range 192).map (fun n => some (.v (.bool (floN n)))))[n]? := by rw [low44]
   rw [List.getElem?_map, List.getElem?_range h, List.getElem?_map, List.getElem?_range h, Option.map_some, Option.map_some, Option.some.injEq] at h1
   exact h1
  ·obtain ⟨k, rfl⟩ : ∃ k, n = k + 192 := ⟨n - 192, by omega⟩
   show run44 m (.ofNat (k + 192)) = some (.v (.bool (floN (k + 192))))
   rw [big44, floBig]
def floatE : List LV → Option LV
 | [.v (.int .i64 z)] => some (.v (.bool (floB z)))
 | _ => none
theorem float_ok {m : Int} {cx' : Cx} (hP : cx'.P = Tryz.prog) (hg : cx'.glob = (cxS m).glob) : ExtOk cx' 44 floatE ∧ ∃ fn c, cx'.P.funcs[44]? = some fn ∧ fn.body = some c :=
 ext_of (m := m) (n := 12) Tryz.func44 (by kernel_rfl) hP hg fun xs x hx => by
  unfold floatE at hx
  split at hx
  ·rename_i z
   cases hx
   exact ⟨rfl, rfl, run44_eq m z⟩
  ·cases hx
end Go.Proofs.YthcjapmfchidhaaGreatDoor
