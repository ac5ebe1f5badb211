/-
  The document's reader: any list, and an expression.
-/
import Derived.Test.YthcjapmfchidhaaGreatDoorAmS6gc
import Derived.Test.YthcjapmfchidhaaGreatDoorAmS6z
import Derived.Test.YthcjapmfchidhaaGreatDoorAmS6twM
import Derived.Test.YthcjapmfchidhaaGreatDoorAmS6wE
namespace Go.Proofs.YthcjapmfchidhaaGreatDoor
set_option maxRecDepth 100000
open Go Go.Proofs.Am
def qdC (bs : List Nat) (p n b w : Int) : List LV := [.v (.imm (encBy bs)), .v (.int .i64 p), .v (.int .i64 n), .v (.int .i64 b), .v (.int .i64 w)]
def bdO : Option PErr → Int
 | none => 0
 | some e => e.2
def Qd (L : Nat) (h : Heap) (bs : List Nat) (p n : Int) (e : Option PErr) : Prop := ∃ w : Int, h.bx[L]? = some (qdC bs p n (bdO e) w) ∧ ∀ e', e = some e' → w = (e'.1 : Int) ∧ e'.2 ≠ 0
def QdE (L : Nat) (h : Heap) (bs : List Nat) (e : PErr) : Prop := ∃ p n : Int, Qd L h bs p n (some e)
section
variable {m : Int} {L : Nat} {h : Heap} {bs : List Nat} {p n : Int} {e : Option PErr}
theorem Qd.ld0 (H : Qd L h bs p n e) : ldP h (.ptr L 0) 1 false = some (.imm (encBy bs)) := by obtain ⟨a, h1, _⟩ := H; exact ldP_at h1 rfl
theorem Qd.ld1 (H : Qd L h bs p n e) : ldP h (.ptr L 1) 1 false = some (.int .i64 p) := by obtain ⟨a, h1, _⟩ := H; exact ldP_at h1 rfl
theorem Qd.ld2 (H : Qd L h bs p n e) : ldP h (.ptr L 2) 1 false = some (.int .i64 n) := by obtain ⟨a, h1, _⟩ := H; exact ldP_at h1 rfl
theorem Qd.ld3 (H : Qd L h bs p n e) : ldP h (.ptr L 3) 1 false = some (.int .i64 (bdO e)) := by obtain ⟨a, h1, _⟩ := H; exact ldP_at h1 rfl
theorem Qd.set1 (H : Qd L h bs p n e) (p' : Int) : ∃ h', stP h (.ptr L 1) [.v (.int .i64 p')] = some h' ∧ Qd L h' bs p' n e ∧ Fr L h h' := by
 obtain ⟨a, h1, h2⟩ := H
 refine ⟨_, stP_at h1 (show 1 < 5 by decide), ⟨a, ?_, h2⟩, Fr.put _ _ _⟩
 rw [put_same h1]; rfl
theorem Qd.set2 (H : Qd L h bs p n e) (n' : Int) : ∃ h', stP h (.ptr L 2) [.v (.int .i64 n')] = some h' ∧ Qd L h' bs p n' e ∧ Fr L h h' := by
 obtain ⟨a, h1, h2⟩ := H
 refine ⟨_, stP_at h1 (show 2 < 5 by decide), ⟨a, ?_, h2⟩, Fr.put _ _ _⟩
 rw [put_same h1]; rfl
def QRes {A : Type} (L : Nat) (h : Heap) (bs : List Nat) (n : Int) (r : PR A) (ok : A → Prop) : Prop :=
 match r with
 | .ok x => ok x.1 ∧ Qd L h bs (x.2 : Int) n none
 | .error e => QdE L h bs e
def pVal (bs : List Nat) (B : Nat) (sg : Bool) (p : Nat) : PR Nat :=
 match digN bs (if B = 64 then 10 else 5) p with
 | none => .error (p, 2)
 | some r => match readF (bitsF r.1) B sg with
  | none => .error (p, 2)
  | some v => .ok (v, r.2)
def qlA (L : Nat) (o n z : Int) (out : List Int) : List LV := [.v (.ptr L 0), .lp 0 0, .lp 1 0, .v (.int .i64 n), .v (.int .i64 z), .v (.int .i64 (.ofNat 0)), .v (.int .i64 (.ofNat 0)), .v (.int .i64 (.ofNat 0)), .v (.int .u64 (.ofNat 0)), .v (.int .i64 (.ofNat 0)), .ow 1 [], .ow 9 [], .ow 9 [], .v (.bool false), .v (.int .i64 o), .v (.int .i64 (.ofNat 0)), .v (.int .i64 (.ofNat 0)), .v (.int .u64 (.ofNat 0)), .v (.int .i64 (.ofNat 0)), .ow 1 (encN out), .ow 9 [], .ow 9 [], .v (.bool false)]
end
end Go.Proofs.YthcjapmfchidhaaGreatDoor
namespace Go.Proofs.YthcjapmfchidhaaGreatDoor
set_option maxRecDepth 100000
open Go Go.Proofs.Am
def QResL (L : Nat) (h : Heap) (bs : List Nat) (out : List Ins) (r : PL) (vs : List Ins) (last : Int) : Prop :=
 match r with
 | .ok x => vs = out ++ x.1 ∧ last = (x.2.1 : Int) ∧ Qd L h bs (x.2.2.1 : Int) (x.2.2.2 : Int) none
 | .error e => QdE L h bs e
def QResI (L : Nat) (h : Heap) (bs : List Nat) (r : PI) (v : Ins) : Prop :=
 match r with
 | .ok x => v = x.1 ∧ Qd L h bs (x.2.1 : Int) (x.2.2 : Int) none
 | .error e => QdE L h bs e
def ListQ (m : Int) (L : Nat) (bs : List Nat) (f : Nat) : Prop := ∀ ⦃d p n : Nat⦄ ⦃h : Heap⦄ ⦃out : List Ins⦄, p ≤ bs.length → bs.length < p + f → n ≤ 512 → out.length ≤ n → d ≤ 33 → Qd L h bs (p : Int) (n : Int) none →
 ∃ h' vs last, blk (cxZ m) 25 (at_ Tryz.prog 25 2) [.v (.ptr L 0), .v (.int .i64 (d : Int)), .ow 9 (encIs out)] h = some (.tup [.imm (encIs vs), .int .i64 last], h') ∧ Fr L h h' ∧ QResL L h' bs out (pL bs f d p n) vs last
section
variable {m : Int} {L : Nat} {h : Heap} {bs : List Nat}
end
end Go.Proofs.YthcjapmfchidhaaGreatDoor
namespace Go.Proofs.YthcjapmfchidhaaGreatDoor
set_option maxRecDepth 100000
open Go Go.Proofs.Am
section
variable {m : Int} {L : Nat} {h : Heap} {bs : List Nat}
def ExprR (L : Nat) (h : Heap) (bs : List Nat) (r : PR (List Ins)) (vs : List Ins) : Prop :=
 match r with
 | .ok x => vs = x.1 ∧ ∃ n : Int, Qd L h bs (x.2 : Int) n none
 | .error e => QdE L h bs e
end
end Go.Proofs.YthcjapmfchidhaaGreatDoor
