/-
  The laws, as the machine answers them: ExprPuts, ExprGets, ExprBack.
-/
import Derived.Test.YthcjapmfchidhaaGreatDoorAmS6gc
import Derived.Test.YthcjapmfchidhaaGreatDoorAmS6RwN
import Derived.Test.YthcjapmfchidhaaGreatDoorAmS6RwQ
import Derived.Test.YthcjapmfchidhaaGreatDoorAmS6h
namespace Go.Proofs.YthcjapmfchidhaaGreatDoor
set_option maxRecDepth 100000
open Go Go.Proofs.Am
section
variable {m : Int} {h : Heap} {o a b v t k : Int} {l : List Int} {bd el : List Ins} {q mb me : Bool}
def tailB (o a b v t : Int) (l : List Int) (el : List Ins) (q mb me : Bool) : Bool :=
 !(decide (o ≠ 4) && q) && !(!q && !el.isEmpty) && numZ a && numZ b && decide (0 ≤ t) && decide (t ≤ 2) && !(decide (o = 65) && decide (4294967295 < v)) && (l.all numZ && mb && me)
def headB (A B LL C K : Bool) (a b v t : Int) (l : List Int) (bd : List Ins) : Bool :=
 (A || decide (a = 0)) && (B || decide (b = 0)) && (C || decide (v = 0)) && (K || decide (t = 0) && bd.isEmpty) && (bif LL then !l.isEmpty else l.isEmpty)
end
end Go.Proofs.YthcjapmfchidhaaGreatDoor
namespace Go.Proofs.YthcjapmfchidhaaGreatDoor
set_option maxRecDepth 100000
open Go Go.Proofs.Am
section
variable {m : Int} {h : Heap} {o a b v t k : Int} {l : List Int} {bd el : List Ins} {q : Bool}
def May5 (m : Int) (xs : List Ins) : Prop := ∀ h : Heap, callF (cxZ m) (blk (cxZ m)) 10 [.v (.imm (encIs xs))] h = some (.v (.bool (mayL opI xs)), h)
def One5 (m : Int) (x : Ins) : Prop := ∀ h : Heap, callF (cxZ m) (blk (cxZ m)) 21 [.v (.agg (encI x))] h = some (.v (.bool (mayI opI x)), h)
end
end Go.Proofs.YthcjapmfchidhaaGreatDoor
namespace Go.Proofs.YthcjapmfchidhaaGreatDoor
set_option maxRecDepth 100000
open Go Go.Proofs.Am
theorem expr_ok {bs : List Nat} {p : Nat} {xs : List Ins} {q : Nat} (hp : p ≤ bs.length) (h : pExpr opI floB bs p = .ok (xs, q)) :
  p + (lstB opI xs).length + 1 ≤ q ∧ q ≤ bs.length ∧ nL xs ≤ 512 ∧ mayL opI xs = true ∧ v64L xs = true ∧ lgL xs = false ∧ dL xs ≤ 32 := by
 unfold pExpr at h
 cases hL : pList opI floB bs (bs.length + 1) 0 p 0 with
 | error e => rw [hL] at h; cases h
 | ok y =>
  obtain ⟨ys, l, r, n'⟩ := y
  have B := list_q (f := bs.length + 1) hp hL
  rw [hL] at h
  simp only at h
  split at h
  ·cases h
  ·cases h
   have h1 := B.ne
   have h2 := B.n5 (by decide)
   have h3 := B.dd (by decide)
   exact ⟨B.sz, B.qb, by omega, B.may, B.vv, B.lg, by omega⟩
section
variable {m : Int}
theorem self15 {xs : List Ins} (hc : cL xs < 2 ^ 40) (h : Heap) : callF (cxZ m) (blk (cxZ m)) 15 [.v (.imm (encIs xs)), .v (.imm (encIs xs))] h = some (.v (.bool true), h) :=
 (all_of (allL_Z (m := m) xs hc) (by have := cL_len xs; omega)).2.2 h
theorem small_c {xs : List Ins} (hg : lgL xs = false) (hn : nL xs ≤ 512) : cL xs ≤ 33280 := by
 have := cL_n xs hg
 omega
end
end Go.Proofs.YthcjapmfchidhaaGreatDoor
