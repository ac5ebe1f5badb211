/-
  The document's numbers, put: the fewest digits that are read as the number.
-/
import Derived.Test.YthcjapmfchidhaaGreatDoorAmS6s
import Derived.Test.YthcjapmfchidhaaGreatDoorAmS6gc
namespace Go.Proofs.YthcjapmfchidhaaGreatDoor
set_option maxRecDepth 100000
open Go Go.Proofs.Am
def nat2 (l : List Nat) : List Int := l.map fun (x : Nat) => (x : Int)
section
variable {m : Int} {h : Heap}
def noDig : LV := .tup [.imm [], .int .i64 (Int.ofNat 0), .bool false]
def digV (bs : List Nat) (k p : Nat) : LV := match digN bs k p with | none => noDig | some r => .tup [.imm (encN (nat2 r.1)), .int .i64 (r.2 : Int), .bool true]
def bitsN : Nat → Nat → List Nat
 | 0, _ => []
 | j + 1, x => x % 2 :: bitsN j (x / 2)
section
variable {b sg : Bool} {bb nx : Int} {ds : List Nat} {r : LV × Heap} {q : Bool}
end
def noNum : LV := .tup [.int .u64 (Int.ofNat 0), .int .i64 (Int.ofNat 0), .bool false]
def readV (bs : List Nat) (B : Nat) (sg : Bool) (p : Nat) : LV :=
 match digN bs (if B = 64 then 10 else 5) p with
 | none => noNum
 | some r => match readF (bitsF r.1) B sg with
  | none => noNum
  | some v => .tup [.int .u64 (v : Int), .int .i64 (r.2 : Int), .bool true]
end
end Go.Proofs.YthcjapmfchidhaaGreatDoor
namespace Go.Proofs.YthcjapmfchidhaaGreatDoor
set_option maxRecDepth 100000
open Go Go.Proofs.Am
section
variable {m : Int} {h : Heap} {v n : Nat} {sg : Bool} {r : LV × Heap}
def asRead (w : Int) (sg : Bool) (n : Nat) : Option Nat := readF (bitsF (dgs n w)) 64 sg
end
end Go.Proofs.YthcjapmfchidhaaGreatDoor
