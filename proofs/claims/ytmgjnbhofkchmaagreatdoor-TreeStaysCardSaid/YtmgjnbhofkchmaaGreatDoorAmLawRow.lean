/-
  A law of plain arguments: what its form asks, by what the machine says of its text.
-/
import Derived.Test.YtmgjnbhofkchmaaGreatDoorAmRow
import Derived.Carry
import Derived.WideShapes
import Derived.ChangeShapes
import Derived.ChangeOld
import Derived.WalkKit
import Derived.ProofKit
import Derived.OpenShut
import Derived.LaidMore
import Derived.Stop.Joined

namespace Go.Proofs.Am
open Go Go.RowKit Go.ChangeShapes Go.WideShapes

/-- An argument out of its cells. -/
def argV (P : Program) (t : TypeId) (ys : List AV) : AV :=
  match P.underlying t with
  | some (.struct _) => .agg ys
  | some (.array _ _) => .agg ys
  | _ => ys.headD .nilI
/-- Arguments of their types. -/
def ShA (P : Program) (n : Nat) : List TypeId → List AV → Prop
  | [], [] => True
  | t :: ts, x :: xs => (∃ ys, Sh P n t ys ∧ x = argV P t ys) ∧ ShA P n ts xs
  | _, _ => False

variable {H : Type} {enc : TypeId × Value → H} {P : Program} {W : World} {g : Gh}

/-- No array stands as an argument. -/
def noArr (P : Program) (t : TypeId) : Bool :=
  match P.underlying t with
  | some (.array _ _) => false
  | _ => true

/-- They read as they did. -/
theorem args_stay {W' : World} (hl : laidOutB P = true) (hb : Below W.heap.size W W') : ∀ (ts : List TypeId) (vs : List Value) (ds : List (DataW H)) (p : List MemPlace), (∀ t ∈ ts, P.readableRec t = true ∧ t < P.types.size) →
    (∀ x ∈ p, x.block < W.heap.size) → DataW.TrodAll enc P W 0 (fun _ => true) true ts vs ds p → DataW.TrodAll enc P W' 0 (fun b => decide (b < W.heap.size)) true ts vs ds p
  | [], [], [], _, _, _, h => h
  | t :: ts, v :: vs, d :: ds, _, hr, hlt, ⟨p, q, h, hs, e⟩ => by
    subst e
    obtain ⟨h1, h2⟩ := hr t (by simp)
    exact ⟨p, q, Below.trod hl h1 h2 h hb (fun x hx => hlt x (by simp [hx])), args_stay hl hb ts vs ds q (fun t ht => hr t (by simp [ht])) (fun x hx => hlt x (by simp [hx])) hs, rfl⟩
  | [], _ :: _, _, _, _, _, h => False.elim h
  | [], [], _ :: _, _, _, _, h => False.elim h
  | _ :: _, [], _, _, _, _, h => False.elim h
  | _ :: _, _ :: _, [], _, _, _, h => False.elim h

theorem trod_len : ∀ {ts : List TypeId} {vs : List Value} {ds : List (DataW H)} {p : List MemPlace} {sp : Nat → Bool} {held : Bool}, DataW.TrodAll enc P W 0 sp held ts vs ds p → ds.length = ts.length
  | [], [], [], _, _, _, _ => rfl
  | t :: ts, v :: vs, d :: ds, _, _, _, ⟨p, q, h, hs, e⟩ => by simp [trod_len hs]
  | [], _ :: _, _, _, _, _, h => False.elim h
  | [], [], _ :: _, _, _, _, h => False.elim h
  | _ :: _, [], _, _, _, _, h => False.elim h
  | _ :: _, _ :: _, [], _, _, _, h => False.elim h

end Go.Proofs.Am
