/-
  Which numbers there are.
-/
import Derived.Test.YtoblgjmllmomhaaGreatDoorAmRefC
namespace Go.Proofs.Am
open Go
structure SOk (s : Scp) : Prop where
 ty : ∀ x, x ∈ s.ty -> (∀ t, t ∈ x.p -> 0 < t) /\ (∀ t, t ∈ x.r -> 0 < t)
 lo : ∀ t, t ∈ s.lo -> 0 < t
 gl : ∀ g, g ∈ s.gl -> 0 < g.t
 re : 0 <= s.re
structure OpT (OP : Int -> Option OpR) : Prop where
 ks : ∀ o r, OP o = some r -> ((12 <= o /\ o <= 15) ↔ r.kind = 3) /\ ((16 <= o /\ o <= 17) ↔ r.kind = 4) /\ ((26 <= o /\ o <= 27) ↔ r.kind = 5) /\ ((32 <= o /\ o <= 36) ↔ r.kind = 6) /\ ((2 <= o /\ o <= 4) ↔ r.kind = 2) /\ ((0 <= o /\ o <= 1) ↔ r.kind = 1) /\ 0 <= o
 tk : ∀ o r, OP o = some r -> ∀ t, t ∈ r.takes -> 0 < t
 gv : ∀ o r, OP o = some r -> 0 <= r.gives
 by8 : ∀ o r, OP o = some r -> r.bytes <= 8
section
variable {OP : Int -> Option OpR} {s : Scp}
theorem r_thr (q : Bool) : SimR (LS.thr q) (RS.thr q) := by
 cases q with
 | false => exact r_id
 | true => exact r_take (t := 1) (by decide)
theorem r_call (hs : SOk s) (n : Int) (q : Bool) : SimR (LS.callT s q n) (RS.call s n q) := sim_of (k_callT _ _) (kp_call _ _) fun σ ρ g hn => by
 unfold LS.callT RS.call
 by_cases hc : n < 0 ∨ (s.ty.length : Int) <= n ∨ (q = true /\ s.tb = false)
 ·rw [if_pos hc, if_pos hc]
  exact r_fail (by decide) σ ρ (.inl ⟨g, hn⟩)
 ·rw [if_neg hc, if_neg hc]
  cases hx : s.ty[n.toNat]? with
  | none => exact .inl ⟨g, hn⟩
  | some x =>
   have h1 := hs.ty x (List.mem_of_getElem? hx)
   exact ((((r_ifail (c := 4) (by decide) (Iff.refl (1 < x.r.length))).comp (r_thr q)).comp (r_wants h1.1)).comp (r_pushes h1.2)) σ ρ (.inl ⟨g, hn⟩)
theorem r_callO (hs : SOk s) {o a : Int} : SimR (LS.call s o a) (fun ρ => if o = 16 then ρ.fun s a else ρ.call s a true) := by
 by_cases h : o = 16
 ·have e1 : LS.call s o a = fun σ => if (s.fn.length : Int) <= a then σ.fail 5 else match s.fn[a.toNat]? with | none => σ | some n => σ.callT s false n := by
   funext σ; unfold LS.call; rw [if_pos h]; rfl
  have e2 : (fun ρ : RS => if o = 16 then ρ.fun s a else ρ.call s a true) = fun ρ => if (s.fn.length : Int) <= a then ρ.amiss 5 else match s.fn[a.toNat]? with | none => ρ | some n => ρ.call s n false := by
   funext ρ; rw [if_pos h]; rfl
  rw [e1, e2]
  refine r_ite Iff.rfl (r_fail (by decide)) ?_
  cases s.fn[a.toNat]? with
  | none => exact r_id
  | some n => exact r_call hs n false
 ·have e1 : LS.call s o a = LS.callT s true a := by funext σ; unfold LS.call; rw [if_neg h]
  have e2 : (fun ρ : RS => if o = 16 then ρ.fun s a else ρ.call s a true) = RS.call s a true := by funext ρ; rw [if_neg h]
  rw [e1, e2]
  exact r_call hs a true
theorem r_varT {o t : Int} {mu : Bool} (ho : 32 <= o /\ o <= 36) (ht : 0 < t) : SimR (LS.varT o t mu) (RS.varT o t mu) := by
 rcases (show o = 32 ∨ o = 33 ∨ o = 34 ∨ o = 35 ∨ o = 36 by omega) with rfl | rfl | rfl | rfl | rfl
 ·exact r_give (by omega)
 ·have e : LS.varT 33 t mu = fun σ => (σ.take t).1 := by funext σ; unfold LS.varT; simp
  rw [e]
  exact r_take ht
 ·exact (r_take ht).comp (r_give (by omega))
 ·exact r_give (by omega)
 ·have e : LS.varT 36 t mu = fun σ => ((if mu = false then σ.fail 4 else σ : LS).take t).1 := by
   funext σ; unfold LS.varT; simp
  have e2 : RS.varT 36 t mu = fun ρ => (if mu = false then ρ.amiss 4 else ρ : RS).want t := by
   funext ρ; cases mu <;> rfl
  rw [e, e2]
  exact (r_ifail (c := 4) (by decide) (Iff.refl (mu = false))).comp (r_take ht)
theorem r_var (hs : SOk s) {o a : Int} (ho : 32 <= o /\ o <= 36) : SimR (LS.var s o a) (RS.var s o a) := by
 by_cases h : o < 35
 ·have e1 : LS.var s o a = fun σ => if a < s.lo.length then (match s.lo[a.toNat]? with | none => σ | some t => σ.varT o t true) else σ.fail 5 := by
   funext σ; unfold LS.var; rw [if_pos h]; rfl
  have e2 : RS.var s o a = fun ρ => if a < s.lo.length then (match s.lo[a.toNat]? with | none => ρ | some t => ρ.varT o t true) else ρ.amiss 5 := by
   funext ρ; unfold RS.var; rw [if_pos h]
   by_cases hl : (s.lo.length : Int) <= a
   ·rw [if_pos hl, if_neg (by omega)]
   ·rw [if_neg hl, if_pos (by omega)]; rfl
  rw [e1, e2]
  refine r_ite Iff.rfl ?_ (r_fail (by decide))
  cases hg : s.lo[a.toNat]? with
  | none => exact r_id
  | some t => exact r_varT ho (hs.lo t (List.mem_of_getElem? hg))
 ·have e1 : LS.var s o a = fun σ => if a < s.gl.length then (match s.gl[a.toNat]? with | none => σ | some g => σ.varT o g.t g.mu) else σ.fail 5 := by
   funext σ; unfold LS.var; rw [if_neg h]; rfl
  have e2 : RS.var s o a = fun ρ => if a < s.gl.length then (match s.gl[a.toNat]? with | none => ρ | some g => ρ.varT o g.t g.mu) else ρ.amiss 5 := by
   funext ρ; unfold RS.var; rw [if_neg h]
   by_cases hl : (s.gl.length : Int) <= a
   ·rw [if_pos hl, if_neg (by omega)]
   ·rw [if_neg hl, if_pos (by omega)]; rfl
  rw [e1, e2]
  refine r_ite Iff.rfl ?_ (r_fail (by decide))
  cases hg : s.gl[a.toNat]? with
  | none => exact r_id
  | some g => exact r_varT ho (hs.gl g (List.mem_of_getElem? hg))
theorem pow16 {a : Int} (h : 3 < a) : (16 : Int) <= (2 : Int) ^ a.toNat := by
 obtain ⟨k, hk⟩ := Nat.exists_eq_add_of_le (show 4 <= a.toNat by omega)
 rw [hk, Int.pow_add]
 have h1 : (1 : Int) <= (2 : Int) ^ k := by
  have : (0 : Int) < (2 : Int) ^ k := Int.pow_pos (by decide)
  omega
 have h2 : (2 : Int) ^ 4 = 16 := by decide
 rw [h2]
 omega
theorem r_plain {r : OpR} (htk : ∀ t, t ∈ r.takes -> 0 < t) (hgv : 0 <= r.gives) (h8 : r.bytes <= 8) (a : Int) : SimR (LS.plain s r a) (RS.plain s r a) := by
 have e1 : LS.plain s r a = fun σ => if (r.kind = 7 ∨ r.kind = 8 ∨ r.kind = 9) /\ s.mm = false then σ.fail 5 else ((if (r.kind = 7 ∨ r.kind = 8) /\ (3 < a ∨ r.bytes < (2 : Int) ^ a.toNat) then σ.fail 4 else σ : LS).all r.takes).give [r.gives] := rfl
 have e2 : RS.plain s r a = fun ρ => if 7 <= r.kind /\ r.kind <= 9 /\ s.mm = false then ρ.amiss 5 else ((if (r.kind = 7 ∨ r.kind = 8) /\ r.bytes < (2 : Int) ^ a.toNat then ρ.amiss 4 else ρ : RS).wants r.takes).push r.gives := rfl
 rw [e1, e2]
 refine r_ite ⟨fun h => ⟨by have := h.1; omega, by have := h.1; omega, h.2⟩, fun h => ⟨by have := h.1; have := h.2.1; omega, h.2.2⟩⟩ (r_fail (by decide)) (((r_ifail (c := 4) (by decide) ?_).comp (r_wants htk)).comp (r_give (by omega)))
 constructor
 ·rintro ⟨h1, h2⟩
  refine ⟨h1, ?_⟩
  rcases h2 with h2 | h2
  ·have := pow16 h2; omega
  ·exact h2
 ·rintro ⟨h1, h2⟩
  exact ⟨h1, .inr h2⟩
theorem r_drop : SimR (fun σ => (σ.take (-1)).1) (fun ρ => ρ.pop.1) := sim_of (k_take _) kp_pop fun σ ρ g hn => by
 rcases take_pop g hn (-1) with ⟨_, _, h3⟩ | ⟨x, hx, h1, _, h3, h4⟩
 ·exact h3
 ·rw [h4, if_neg (by omega)]
  exact .inl ⟨h3, hn⟩
theorem r_sel2 : SimR (fun σ => LS.sel (σ.take (-1))) RS.sel0 := sim_of (fun σ c h => k_take _ _ c (k_take (-1) σ c h)) kp_sel0 fun σ ρ g hn => by
 have fin : ∀ {σ2 : LS} {ρ2 : RS} {z : Int}, RR σ2 ρ2 -> -1 <= z -> RR (σ2.give [z]) (ρ2.push z) := fun h hz => r_give hz _ _ h
 unfold LS.sel RS.sel0
 rcases take_pop g hn (-1) with ⟨h1, h2, h3⟩ | ⟨x, hx, h1, h2, h3, h4⟩
 ·rw [h1, h2]
  have e1 : ρ.sel1 = ρ.pop.1.pop.1 := by unfold RS.sel1; rw [h1, if_neg (by omega)]
  rw [e1]
  rcases h3 with ⟨g2, hn2⟩ | ⟨c, hc, he, hb⟩
  ·rcases take_pop g2 hn2 (-1) with ⟨i1, i2, i3⟩ | ⟨y, hy, i1, i2, i3, i4⟩
   ·rw [i1, i2, if_neg (by omega)]
    exact fin i3 (by omega)
   ·rw [i1, i2, i4, if_neg (show ¬(y ≠ -1 /\ y ≠ -1 /\ (-1 : Int) ≠ -1) by omega)]
    have e2 : (if y = -1 then (-1 : Int) else y) = (if 0 <= y then y else -1) := by split <;> split <;> omega
    rw [e2]
    exact fin (.inl ⟨i3, hn2⟩) (by split <;> omega)
  ·refine .inr ⟨c, hc, k_take _ _ c he, ?_⟩
   rw [push_bad, kp_pop _ (by rw [hb]; exact hc), hb]
 ·rw [h1, h2]
  have hx1 : (if x = -1 then (-1 : Int) else x) = x := by split <;> omega
  rw [hx1]
  have e4 : (σ.take (-1)).1 = { σ with row := σ.row.dropLast } := by rw [h4, if_neg (by omega)]
  rw [e4]
  rcases take_pop h3 hn x with ⟨i1, i2, i3⟩ | ⟨y, hy, i1, i2, i3, i4⟩
  ·have e1 : ρ.sel1 = ρ.pop.1.pop.1 := by unfold RS.sel1; rw [i1, if_neg (by omega)]
   rw [e1, i1, i2, if_neg (by omega)]
   exact fin i3 (by omega)
  ·have e2 : (if 0 <= y then y else x) = (if y = -1 then x else y) := by split <;> split <;> omega
   rw [i1, i2, i4, e2]
   have hz : -1 <= (if y = -1 then x else y) := by split <;> omega
   unfold RS.sel1
   rw [h1, i1]
   by_cases hp : y ≠ x /\ y ≠ -1 /\ x ≠ -1
   ·rw [if_pos hp, if_pos (show 0 <= x /\ 0 <= y /\ x ≠ y by omega)]
    exact fin (r_fail (by decide) _ _ (.inl ⟨i3, hn⟩)) hz
   ·rw [if_neg hp, if_neg (show ¬(0 <= x /\ 0 <= y /\ x ≠ y) by omega)]
    exact fin (.inl ⟨i3, hn⟩) hz
theorem r_any {o : Int} (ho : o = 26 ∨ o = 27) : SimR (LS.any o) (fun ρ => if o = 26 then ρ.pop.1 else ρ.sel) := by
 rcases ho with rfl | rfl
 ·exact r_drop
 ·exact (r_take (t := 1) (by decide)).comp r_sel2
theorem r_jump (hs : SOk s) {o a : Int} {l : List Int} (ho : 12 <= o /\ o <= 15) (hl : o = 14 -> ∀ n, n ∈ l -> 0 <= n) (ha : o = 14 ∨ o = 15 ∨ 0 <= a) :
  SimR (LS.jump s o a l) (fun ρ => if o = 12 ∨ o = 13 then ρ.jump a (decide (o = 13)) else if o = 14 then ρ.table l else (ρ.want s.re).stop) := by
 rcases (show o = 12 ∨ o = 13 ∨ o = 14 ∨ o = 15 by omega) with rfl | rfl | rfl | rfl
 ·refine sim_of (k_jump _ _ _) (kp_jump _ _) fun σ ρ g hn => ?_
  have hlb := lbl_key g (show 0 <= a by omega)
  show RR (match σ.lbl a with | none => σ.fail 5 | some t => if (12 : Int) = 13 then ((σ.take 1).1.all t).give t else (σ.all t).stop) (ρ.jump a false)
  unfold RS.jump
  rw [hlb.1]
  cases ht : ρ.lbl a with
  | none => exact r_fail (by decide) σ ρ (.inl ⟨g, hn⟩)
  | some t => exact ((r_want (hlb.2 t ht)).comp r_stop) σ ρ (.inl ⟨g, hn⟩)
 ·refine sim_of (k_jump _ _ _) (kp_jump _ _) fun σ ρ g hn => ?_
  have hlb := lbl_key g (show 0 <= a by omega)
  show RR (match σ.lbl a with | none => σ.fail 5 | some t => if (13 : Int) = 13 then ((σ.take 1).1.all t).give t else (σ.all t).stop) (ρ.jump a true)
  unfold RS.jump
  rw [hlb.1]
  cases ht : ρ.lbl a with
  | none => exact r_fail (by decide) σ ρ (.inl ⟨g, hn⟩)
  | some t =>
   have h0 := hlb.2 t ht
   exact (((r_take (t := 1) (by decide)).comp (r_want h0)).comp (r_push (by omega))) σ ρ (.inl ⟨g, hn⟩)
 ·exact r_table (hl rfl)
 ·exact (r_want hs.re).comp r_stop
theorem r_one (hs : SOk s) (hT : OpT OP) {o a b v : Int} {l : List Int} {r : OpR} (hop : OP o = some r) (hm : mayP r o a b v l = true) :
  SimR (fun σ => if r.kind = 3 then σ.jump s o a l else if r.kind = 4 then σ.call s o a else if r.kind = 5 then σ.any o else if r.kind = 6 then σ.var s o a else if o = 0 then σ.stop else σ.plain s r a) (RS.one s r o a l) := by
 obtain ⟨k3, k4, k5, k6, k2, k1, h0⟩ := hT.ks o r hop
 by_cases h3 : r.kind = 3
 ·have ho := k3.2 h3
  have e : RS.one s r o a l = fun ρ => if o = 12 ∨ o = 13 then ρ.jump a (decide (o = 13)) else if o = 14 then ρ.table l else (ρ.want s.re).stop := by
   funext ρ
   unfold RS.one
   rw [if_neg (show ¬ o = 0 by omega)]
   by_cases c1 : o = 12 ∨ o = 13
   ·rw [if_pos c1, if_pos c1]
   ·rw [if_neg c1, if_neg c1]
    by_cases c2 : o = 14
    ·rw [if_pos c2, if_pos c2]
    ·rw [if_neg c2, if_neg c2, if_pos (show o = 15 by omega)]
  simp only [if_pos h3]
  rw [e]
  have hj := may_j hm h3
  exact r_jump hs ho hj.1 hj.2
 ·simp only [if_neg h3]
  have n3 : ¬(12 <= o /\ o <= 15) := fun h => h3 (k3.1 h)
  by_cases h4 : r.kind = 4
  ·have ho := k4.2 h4
   have e : RS.one s r o a l = fun ρ => if o = 16 then ρ.fun s a else ρ.call s a true := by
    funext ρ
    unfold RS.one
    rw [if_neg (show ¬ o = 0 by omega), if_neg (show ¬(o = 12 ∨ o = 13) by omega), if_neg (show ¬ o = 14 by omega), if_neg (show ¬ o = 15 by omega)]
    by_cases c1 : o = 16
    ·rw [if_pos c1, if_pos c1]
    ·rw [if_neg c1, if_neg c1, if_pos (show o = 17 by omega)]
   simp only [if_pos h4]
   rw [e]
   exact r_callO hs
  ·simp only [if_neg h4]
   have n4 : ¬(16 <= o /\ o <= 17) := fun h => h4 (k4.1 h)
   by_cases h5 : r.kind = 5
   ·have ho := k5.2 h5
    have e : RS.one s r o a l = fun ρ => if o = 26 then ρ.pop.1 else ρ.sel := by
     funext ρ
     unfold RS.one
     rw [if_neg (show ¬ o = 0 by omega), if_neg (show ¬(o = 12 ∨ o = 13) by omega), if_neg (show ¬ o = 14 by omega), if_neg (show ¬ o = 15 by omega), if_neg (show ¬ o = 16 by omega), if_neg (show ¬ o = 17 by omega)]
     by_cases c1 : o = 26
     ·rw [if_pos c1, if_pos c1]
     ·rw [if_neg c1, if_neg c1, if_pos (show o = 27 by omega)]
    simp only [if_pos h5]
    rw [e]
    exact r_any (by omega)
   ·simp only [if_neg h5]
    have n5 : ¬(26 <= o /\ o <= 27) := fun h => h5 (k5.1 h)
    by_cases h6 : r.kind = 6
    ·have ho := k6.2 h6
     have e : RS.one s r o a l = RS.var s o a := by
      funext ρ
      unfold RS.one
      rw [if_neg (show ¬ o = 0 by omega), if_neg (show ¬(o = 12 ∨ o = 13) by omega), if_neg (show ¬ o = 14 by omega), if_neg (show ¬ o = 15 by omega), if_neg (show ¬ o = 16 by omega), if_neg (show ¬ o = 17 by omega), if_neg (show ¬ o = 26 by omega), if_neg (show ¬ o = 27 by omega), if_pos h6]
     simp only [if_pos h6]
     rw [e]
     exact r_var hs ho
    ·simp only [if_neg h6]
     by_cases h00 : o = 0
     ·have e : RS.one s r o a l = RS.stop := by funext ρ; unfold RS.one; rw [if_pos h00]
      simp only [if_pos h00]
      rw [e]
      exact r_stop
     ·have e : RS.one s r o a l = RS.plain s r a := by
       funext ρ
       unfold RS.one
       rw [if_neg h00, if_neg (show ¬(o = 12 ∨ o = 13) by omega), if_neg (show ¬ o = 14 by omega), if_neg (show ¬ o = 15 by omega), if_neg (show ¬ o = 16 by omega), if_neg (show ¬ o = 17 by omega), if_neg (show ¬ o = 26 by omega), if_neg (show ¬ o = 27 by omega), if_neg h6]
      simp only [if_neg h00]
      rw [e]
      exact r_plain (hT.tk o r hop) (hT.gv o r hop) (hT.by8 o r hop) a
def Hts (G : RS -> RS) : Prop := ∀ ρ : RS, (G ρ).blk.map (·.ht) = ρ.blk.map (·.ht)
theorem hts_comp {G G' : RS -> RS} (h : Hts G) (h' : Hts G') : Hts fun ρ => G' (G ρ) := fun ρ => (h' _).trans (h ρ)
theorem hts_ite {p : RS -> Prop} [∀ ρ, Decidable (p ρ)] {G G' : RS -> RS} (h : Hts G) (h' : Hts G') : Hts fun ρ => if p ρ then G ρ else G' ρ := fun ρ => by
 dsimp only
 split
 ·exact h ρ
 ·exact h' ρ
theorem hts_id : Hts fun ρ => ρ := fun _ => rfl
theorem hts_amiss (c : Int) : Hts (RS.amiss c) := fun ρ => by rw [amiss_blk]
theorem hts_pop : Hts fun ρ => ρ.pop.1 := fun ρ => by
 show ρ.pop.1.blk.map _ = _
 unfold RS.pop
 split
 ·rfl
 ·split
  ·dsimp only
   split
   ·rfl
   ·rw [amiss_blk]
  ·rfl
theorem hts_want (t : Int) : Hts (RS.want t) := fun ρ => by
 rcases want_cases t ρ with e | e | e <;> rw [e]
 ·exact hts_pop ρ
 ·rw [amiss_blk]; exact hts_pop ρ
theorem hts_wants : ∀ ts : List Int, Hts (RS.wants ts)
 | [] => hts_id
 | t :: ts => hts_comp (G := RS.wants ts) (hts_wants ts) (hts_want t)
theorem hts_push (t : Int) : Hts (RS.push t) := fun ρ => by rw [push_blk]
theorem hts_pushes (ts : List Int) : Hts (RS.pushes ts) := fun ρ => by rw [pushes_blk]
theorem hts_stop : Hts RS.stop := fun ρ => by
 unfold RS.stop
 split
 ·rfl
 ·exact nvR_hts _
theorem hts_thr (q : Bool) : Hts (RS.thr q) := hts_ite (hts_want 1) hts_id
theorem hts_call (t : Int) (q : Bool) : Hts (RS.call s t q) := fun ρ => by
 unfold RS.call
 split
 ·exact hts_amiss 5 ρ
 ·split
  ·rfl
  ·rename_i x _
   rw [hts_pushes, hts_wants, hts_thr]
   split
   ·exact hts_amiss 4 ρ
   ·rfl
theorem hts_one (r : OpR) (o a : Int) (l : List Int) : Hts (RS.one s r o a l) := by
 unfold RS.one
 refine hts_ite hts_stop (hts_ite (fun ρ => ?_) (hts_ite (fun ρ => ?_) (hts_ite (hts_comp (G := RS.want _) (hts_want _) hts_stop) (hts_ite (fun ρ => ?_) (hts_ite (hts_call a true) (hts_ite hts_pop (hts_ite (fun ρ => ?_) (hts_ite (fun ρ => ?_) (fun ρ => ?_)))))))))
 ·unfold RS.jump
  split
  ·exact hts_amiss 5 ρ
  ·split
   ·rw [hts_push, hts_want, hts_want]
   ·rw [hts_stop, hts_want]
 ·unfold RS.table
  split
  ·exact hts_amiss 5 ρ
  ·rw [hts_stop, hts_want, hts_want]
   unfold RS.odd
   split
   ·exact hts_amiss 4 ρ
   ·rfl
 ·unfold RS.fun
  split
  ·exact hts_amiss 5 ρ
  ·split
   ·rfl
   ·exact hts_call _ _ ρ
 ·unfold RS.sel RS.sel0
  rw [hts_push]
  unfold RS.sel1
  split
  ·rw [hts_amiss]
   exact ((hts_pop _).trans (hts_pop _)).trans (hts_want 1 ρ)
  ·exact ((hts_pop _).trans (hts_pop _)).trans (hts_want 1 ρ)
 ·unfold RS.var
  have hv : ∀ (t : Int) (mu : Bool), Hts (RS.varT o t mu) := fun t mu => hts_comp (G := fun ρ => if o = 33 ∨ o = 34 ∨ o = 36 then (if o = 36 /\ mu = false then ρ.amiss 4 else ρ).want t else (if o = 36 /\ mu = false then ρ.amiss 4 else ρ))
   (hts_comp (G := fun ρ => if o = 36 /\ mu = false then ρ.amiss 4 else ρ) (G' := fun ρ => if o = 33 ∨ o = 34 ∨ o = 36 then ρ.want t else ρ) (hts_ite (hts_amiss 4) hts_id) (hts_ite (hts_want t) hts_id))
   (G' := fun ρ => if o = 32 ∨ o = 34 ∨ o = 35 then ρ.push t else ρ) (hts_ite (hts_push t) hts_id)
  split
  all_goals
   split
   ·exact hts_amiss 5 ρ
   ·split
    ·rfl
    ·exact hv _ _ ρ
 ·unfold RS.plain
  split
  ·exact hts_amiss 5 ρ
  ·rw [hts_push, hts_wants]
   split
   ·exact hts_amiss 4 ρ
   ·rfl
theorem hts_ahead (o t : Int) (q : Bool) : Hts (RS.ahead o t q) := by
 unfold RS.ahead
 exact hts_ite (hts_ite (hts_comp (G := RS.want 1) (hts_want 1) (hts_amiss 4)) (hts_want 1)) hts_id
def HtI (OP : Int -> Option OpR) (s : Scp) (x : Ins) : Prop := ∀ ρ : RS, (RS.instr OP s x ρ).bad = 0 -> (RS.instr OP s x ρ).blk.map (·.ht) = ρ.blk.map (·.ht)
def HtL (OP : Int -> Option OpR) (s : Scp) (l : List Ins) : Prop := ∀ (re : Int) (fr : Nat) (ρ : RS), (RS.runL OP s l re fr ρ).bad = 0 -> (RS.runL OP s l re fr ρ).blk.map (·.ht) = (ρ.blk.map (·.ht)).dropLast
theorem ht_code {l : List Ins} (h : HtL OP s l) (la re : Int) (ρ : RS) (hb : (RS.code OP s l la re ρ).bad = 0) : (RS.code OP s l la re ρ).blk.map (·.ht) = ρ.blk.map (·.ht) := by
 unfold RS.code at hb ⊢
 split at hb
 ·rename_i hc
  rw [if_pos hc]
 ·rename_i hc
  rw [if_neg hc, h re _ _ hb]
  simp [RS.opn]
theorem end1_hts (re : Int) (fr : Nat) : Hts (RS.end1 re fr) := fun ρ => by
 unfold RS.end1
 split
 ·rw [hts_amiss, hts_want]
 ·exact hts_want re ρ
mutual
theorem ht_instr : ∀ x : Ins, HtI OP s x
 | .mk o a b v t l bd el q => fun ρ hb => by
  have h1 := ht_runL bd
  have h2 := ht_runL el
  cases ho : OP o with
  | none =>
   have e : RS.instr OP s (.mk o a b v t l bd el q) ρ = ρ := by unfold RS.instr; rw [ho]
   rw [e]
  | some r =>
   rw [instrR_some ho] at hb ⊢
   split at hb
   ·rename_i hk
    rw [if_pos hk]
    unfold RS.block at hb ⊢
    split at hb
    ·rename_i h3
     rw [if_pos h3]
     exact ht_code h1 0 t ρ hb
    ·rename_i h3
     rw [if_neg h3]
     split at hb
     ·rename_i hq
      rw [if_pos hq]
      rw [ht_code h2 t t _ hb, hts_want, ht_code h1 t t _ hq.2, hts_ahead]
     ·rename_i hq
      rw [if_neg hq]
      rw [ht_code h1 t t _ hb, hts_ahead]
   ·rename_i hk
    rw [if_neg hk]
    exact hts_one r o a l ρ
theorem ht_runL : ∀ xs : List Ins, HtL OP s xs
 | [] => fun re fr ρ hb => by
  unfold RS.runL at hb ⊢
  split at hb
  ·rename_i hc
   exact absurd hb hc
  ·rename_i hc
   rw [if_neg hc]
   unfold RS.fin at hb ⊢
   split at hb
   ·rename_i hd
    exact absurd hb hd
   ·rename_i hd
    rw [if_neg hd, push_blk]
    show List.map _ (ρ.end1 re fr).blk.dropLast = _
    rw [List.map_dropLast, end1_hts]
 | x :: xs => fun re fr ρ hb => by
  unfold RS.runL at hb ⊢
  split at hb
  ·rename_i hc
   exact absurd hb hc
  ·rename_i hc
   rw [if_neg hc]
   have h1 := ht_runL xs re fr _ hb
   have hb1 : (RS.instr OP s x ρ).bad = 0 := Decidable.byContradiction fun hne => by
    have e : RS.runL OP s xs re fr (RS.instr OP s x ρ) = RS.instr OP s x ρ := by
     cases xs <;> unfold RS.runL <;> rw [if_pos hne]
    rw [e] at hb
    exact hne hb
   rw [h1, ht_instr x ρ hb1]
end
end
end Go.Proofs.Am
namespace Go.Proofs.Am
open Go
section
variable {OP : Int -> Option OpR} {s : Scp}
def RunS (OP : Int -> Option OpR) (s : Scp) (l : List Ins) : Prop := mayL OP l = true -> ∀ (re : Int) (fr : Nat) (σ : LS) (ρ : RS), 0 <= re -> RR σ ρ -> (ρ.blk.map (·.ht)).getLast? = some fr -> RR0 (LS.runL OP s l (rsl re) σ) (RS.runL OP s l re fr ρ)
def InsS (OP : Int -> Option OpR) (s : Scp) (x : Ins) : Prop := mayI OP x = true -> SimR (LS.instr OP s x) (RS.instr OP s x)
theorem kp_runL (re : Int) (fr : Nat) {l : List Ins} {ρ : RS} (h : ρ.bad ≠ 0) : RS.runL OP s l re fr ρ = ρ := by
 cases l <;> unfold RS.runL <;> rw [if_pos h]
theorem isSome_bad {σ : LS} {ρ : RS} (h : RR0 σ ρ) : σ.err.isSome = true ↔ ρ.bad ≠ 0 := by
 rcases h with g | ⟨c, h0, h1, h2⟩
 ·rw [g.err, g.bad]; simp
 ·rw [h1, h2]; simp [h0]
theorem RG.opn {σ : LS} {ρ : RS} (g : RG σ ρ) {la re : Int} (hla : 0 <= la) : RG (σ.push (rsl la) (rsl re)) (ρ.opn la) := by
 refine ⟨g.err, g.bad, g.row, ?_, g.val, fun c hc => ?_, ?_, ?_⟩
 ·simp only [LS.push, RS.opn, List.map_append, g.key, List.map_cons, List.map_nil, kB, kR, g.row]
 ·rcases List.mem_append.1 hc with h | h
  ·exact g.lab c h
  ·rw [List.mem_singleton.1 h]; exact hla
 ·intro b hb
  rcases List.mem_append.1 hb with h | h
  ·exact g.wf.le b h
  ·rw [List.mem_singleton.1 h]; exact Nat.le_refl _
 ·refine List.pairwise_append.2 ⟨g.wf.srt, by simp, fun b hb c hc => ?_⟩
  rw [List.mem_singleton.1 hc]
  exact g.wf.le b hb
theorem key_len {σ : LS} {ρ : RS} (g : RG σ ρ) : σ.blk.length = ρ.blk.length := by have := congrArg List.length g.key; simpa using this
theorem code_S {l : List Ins} (h : RunS OP s l) (hm : mayL OP l = true) {la re : Int} (hla : 0 <= la) (hre : 0 <= re) {σ : LS} {ρ : RS} (r : RR0 σ ρ) : RR0 (LS.code OP s l (rsl la) (rsl re) σ) (RS.code OP s l la re ρ) := by
 unfold LS.code RS.code
 rcases r with g | ⟨c, h0, h1, h2⟩
 ·rw [if_neg (by rw [g.err]; simp), if_neg (by rw [g.bad]; simp)]
  exact h hm re ρ.row.length _ _ hre (.inl ⟨g.opn hla, by simp [LS.push]⟩) (by simp [RS.opn])
 ·rw [if_pos (by rw [h1]; rfl), if_pos (by rw [h2]; exact h0)]
  exact .inr ⟨c, h0, h1, h2⟩
theorem code_R {l : List Ins} (h : RunS OP s l) (hm : mayL OP l = true) {la re : Int} (hla : 0 <= la) (hre : 0 <= re) : SimR (LS.code OP s l (rsl la) (rsl re)) (RS.code OP s l la re) := fun σ ρ r => by
 have h1 := code_S h hm hla hre r.rr0
 rcases h1 with g | hb
 ·refine .inl ⟨g, ?_⟩
  rcases r with ⟨g0, hn⟩ | ⟨c, h0, h1, h2⟩
  ·have e := ht_code (ht_runL l) la re ρ g.bad
   have e1 := congrArg List.length e
   rw [List.length_map, List.length_map, ← key_len g, ← key_len g0] at e1
   intro hnil
   rw [hnil] at e1
   exact hn (List.eq_nil_of_length_eq_zero e1.symm)
  ·exfalso
   have := kp_code (OP := OP) (s := s) l la re ρ (by rw [h2]; exact h0)
   rw [g.bad, h2] at this
   exact h0 this.symm
 ·exact .inr hb
theorem RG.push0 {σ : LS} {ρ : RS} (g : RG σ ρ) {re : Int} (h : 0 <= re) : RG (σ.give (rsl re)) (ρ.push re) := by
 rw [give_rsl, give_one]
 unfold RS.push
 by_cases h0 : re = 0
 ·rw [if_pos h0, if_pos h0]; exact g
 ·rw [if_neg h0, if_neg h0]; exact g.push (.inr (by omega))
theorem runS_nil : RunS OP s [] := by
 intro _ re fr σ ρ hre r hfr
 unfold LS.runL RS.runL
 have r1 := r_want hre σ ρ r
 by_cases hb : ρ.bad ≠ 0
 ·rw [if_pos hb]
  rcases r with ⟨g, _⟩ | ⟨c, h0, h1, h2⟩
  ·exact absurd g.bad hb
  ·exact .inr ⟨c, h0, k_fin _ σ c h1, h2⟩
 ·rw [if_neg hb]
  unfold RS.fin
  rcases r1 with ⟨g, hn⟩ | ⟨c, h0, h1, h2⟩
  ·obtain ⟨b, c, hbl, hcl, hk, hle⟩ := last_both g hn
   have hht : b.ht = c.ht := congrArg (fun p => p.2.1) hk
   have hf2 : c.ht = fr := by
    have e := hts_want re ρ
    rw [← e, List.getLast?_map, hcl] at hfr
    simpa using hfr
   have hfin : LS.fin (rsl re) σ = LS.fin2 (rsl re) b (if (σ.all (rsl re)).row.length = b.ht then σ.all (rsl re) else (σ.all (rsl re)).fail 4) := by
    unfold LS.fin LS.fin1
    rw [hbl]
   rw [hfin]
   by_cases hl : (σ.all (rsl re)).row.length = b.ht
   ·have he : ρ.end1 re fr = ρ.want re := by unfold RS.end1; rw [if_neg (by rw [← g.row]; omega)]
    rw [he, if_pos hl, if_neg (by rw [g.bad]; simp)]
    refine .inl (RG.push0 (σ := { σ.all (rsl re) with row := (σ.all (rsl re)).row.take (min b.ht (σ.all (rsl re)).row.length), blk := (σ.all (rsl re)).blk.dropLast }) (ρ := { ρ.want re with blk := (ρ.want re).blk.dropLast }) ⟨g.err, g.bad, ?_, ?_, g.val, fun d hd => g.lab d (List.dropLast_subset _ hd), fun d hd => ?_, g.wf.srt.sublist (List.dropLast_sublist _)⟩ hre)
    ·dsimp only
     rw [List.take_of_length_le (by omega)]
     exact g.row
    ·dsimp only
     rw [List.map_dropLast, List.map_dropLast, g.key]
    ·have := g.wf.le d (List.dropLast_subset _ hd)
     simp only [List.length_take]
     omega
   ·have he : ρ.end1 re fr = (ρ.want re).amiss 4 := by unfold RS.end1; rw [if_pos (by rw [← g.row]; omega)]
    have hbad : ((ρ.want re).amiss 4).bad = 4 := by unfold RS.amiss; rw [if_pos g.bad]
    rw [he, if_neg hl, if_pos (by rw [hbad]; decide)]
    refine .inr ⟨4, by decide, ?_, hbad⟩
    show ((σ.all (rsl re)).fail 4).err = some 4
    unfold LS.fail
    rw [if_pos g.err]
  ·have he : (ρ.end1 re fr).bad = c := by
    unfold RS.end1
    split
    ·rw [kp_amiss 4 _ (by rw [h2]; exact h0), h2]
    ·exact h2
   rw [if_pos (by rw [he]; exact h0)]
   refine .inr ⟨c, h0, ?_, he⟩
   unfold LS.fin LS.fin1
   split
   ·exact h1
   ·show (if _ then _ else _ : LS).err = some c
    split
    ·exact h1
    ·exact k_fail 4 _ c h1
theorem runS_cons {x : Ins} {xs : List Ins} (hx : InsS OP s x) (hxs : RunS OP s xs) : RunS OP s (x :: xs) := by
 intro hm re fr σ ρ hre r hfr
 rw [mayL, Bool.and_eq_true] at hm
 unfold LS.runL RS.runL
 have hi := isSome_bad r.rr0
 by_cases hb : ρ.bad ≠ 0
 ·rw [if_pos hb, if_pos (hi.2 hb)]
  exact r.rr0
 ·rw [if_neg hb, if_neg (fun h => hb (hi.1 h))]
  have r1 := hx hm.1 σ ρ r
  by_cases hb1 : (RS.instr OP s x ρ).bad = 0
  ·exact hxs hm.2 re fr _ _ hre r1 (by rw [ht_instr x ρ hb1]; exact hfr)
  ·rw [kp_runL re fr hb1]
   rcases r1 with ⟨g, _⟩ | ⟨c, h0, h1, h2⟩
   ·exact absurd g.bad hb1
   ·refine .inr ⟨c, h0, ?_, h2⟩
    cases xs with
    | nil => unfold LS.runL; exact k_fin _ _ c h1
    | cons y ys => unfold LS.runL; rw [if_pos (by rw [h1]; rfl)]; exact h1
theorem instr_of_LS {o a b v t : Int} {l : List Int} {bd el : List Ins} {q : Bool} {r : OpR} (h : OP o = some r) : LS.instr OP s (.mk o a b v t l bd el q) = fun σ =>
  if r.kind = 2 then (if o = 3 then LS.code OP s bd (rsl 0) (rsl t) σ
   else if q = true /\ (LS.code OP s bd (rsl t) (rsl t) (LS.cond o t q σ)).err = none then LS.code OP s el (rsl t) (rsl t) ((LS.code OP s bd (rsl t) (rsl t) (LS.cond o t q σ)).all (rsl t)) else LS.code OP s bd (rsl t) (rsl t) (LS.cond o t q σ))
  else if r.kind = 3 then σ.jump s o a l else if r.kind = 4 then σ.call s o a else if r.kind = 5 then σ.any o else if r.kind = 6 then σ.var s o a else if o = 0 then σ.stop else σ.plain s r a := by
 funext σ
 unfold LS.instr LS.code
 rw [h]
 rfl
theorem r_ahead (o t : Int) (q : Bool) : SimR (LS.cond o t q) (RS.ahead o t q) := by
 have e1 : LS.cond o t q = fun σ => if o = 4 then (if q = false /\ t ≠ 0 then (σ.take 1).1.fail 4 else (σ.take 1).1) else σ := rfl
 have e2 : RS.ahead o t q = fun ρ => if o = 4 then (if q = false /\ t ≠ 0 then (ρ.want 1).amiss 4 else ρ.want 1) else ρ := rfl
 rw [e1, e2]
 exact r_ite Iff.rfl (r_ite Iff.rfl ((r_take (t := 1) (by decide)).comp (r_fail (by decide))) (r_take (t := 1) (by decide))) r_id
theorem insS_of (hs : SOk s) (hT : OpT OP) {o a b v t : Int} {l : List Int} {bd el : List Ins} {q : Bool} (hb : RunS OP s bd) (hl : RunS OP s el) : InsS OP s (.mk o a b v t l bd el q) := by
 intro hm
 unfold mayI at hm
 cases hop : OP o with
 | none => rw [hop] at hm; cases hm
 | some r =>
  rw [hop] at hm
  simp only at hm
  have e2 : RS.instr OP s (.mk o a b v t l bd el q) = fun ρ => if r.kind = 2 then ρ.block OP s o t bd el q else ρ.one s r o a l := by funext ρ; exact instrR_some hop
  rw [instr_of_LS hop, e2]
  by_cases h2 : r.kind = 2
  ·rw [if_pos h2] at hm
   simp only [if_pos h2]
   simp only [Bool.and_eq_true, decide_eq_true_eq] at hm
   have ht := hm.1.1.1.1.1.1
   have mb := hm.1.1.1.1.2
   have ml := hm.1.1.1.2
   by_cases h3 : o = 3
   ·have e3 : (fun ρ : RS => ρ.block OP s o t bd el q) = RS.code OP s bd 0 t := by funext ρ; unfold RS.block; rw [if_pos h3]
    simp only [if_pos h3]
    rw [e3]
    exact code_R hb mb (Int.le_refl 0) ht
   ·have e3 : (fun ρ : RS => ρ.block OP s o t bd el q) = fun ρ => if q = true /\ (RS.code OP s bd t t (ρ.ahead o t q)).bad = 0 then RS.code OP s el t t ((RS.code OP s bd t t (ρ.ahead o t q)).want t) else RS.code OP s bd t t (ρ.ahead o t q) := by
     funext ρ; unfold RS.block; rw [if_neg h3]
    simp only [if_neg h3]
    rw [e3]
    intro σ ρ r0
    have r1 := code_R hb mb ht ht _ _ (r_ahead o t q σ ρ r0)
    have hi := isSome_bad r1.rr0
    dsimp only
    by_cases hc : q = true /\ (RS.code OP s bd t t (ρ.ahead o t q)).bad = 0
    ·have hc' : q = true /\ (LS.code OP s bd (rsl t) (rsl t) (LS.cond o t q σ)).err = none := ⟨hc.1, by
      cases he : (LS.code OP s bd (rsl t) (rsl t) (LS.cond o t q σ)).err with
      | none => rfl
      | some c => exact absurd hc.2 (hi.1 (by rw [he]; rfl))⟩
     rw [if_pos hc, if_pos hc']
     exact ((r_want ht).comp (code_R hl ml ht ht)) _ _ r1
    ·have hc' : ¬(q = true /\ (LS.code OP s bd (rsl t) (rsl t) (LS.cond o t q σ)).err = none) := fun h => hc ⟨h.1, Decidable.byContradiction fun hne => by
      have := hi.2 hne
      rw [h.2] at this
      cases this⟩
     rw [if_neg hc, if_neg hc']
     exact r1
  ·rw [if_neg h2] at hm
   simp only [if_neg h2]
   rw [Bool.and_eq_true] at hm
   exact r_one hs hT hop hm.1
mutual
theorem insS (hs : SOk s) (hT : OpT OP) : ∀ x : Ins, InsS OP s x
 | .mk _ _ _ _ _ _ bd el _ => insS_of hs hT (runS hs hT bd) (runS hs hT el)
theorem runS (hs : SOk s) (hT : OpT OP) : ∀ xs : List Ins, RunS OP s xs
 | [] => runS_nil
 | x :: xs => runS_cons (insS hs hT x) (runS hs hT xs)
end
end
end Go.Proofs.Am
namespace Go.Proofs.Am
open Go
section
variable {OP : Int -> Option OpR} {s : Scp}
def B45 (ρ : RS) : Prop := ρ.bad = 0 ∨ ρ.bad = 4 ∨ ρ.bad = 5
def Bd (G : RS -> RS) : Prop := ∀ ρ : RS, B45 ρ -> B45 (G ρ)
theorem bd_comp {G G' : RS -> RS} (h : Bd G) (h' : Bd G') : Bd fun ρ => G' (G ρ) := fun ρ b => h' _ (h ρ b)
theorem bd_ite {p : RS -> Prop} [∀ ρ, Decidable (p ρ)] {G G' : RS -> RS} (h : Bd G) (h' : Bd G') : Bd fun ρ => if p ρ then G ρ else G' ρ := fun ρ b => by
 dsimp only
 split
 ·exact h ρ b
 ·exact h' ρ b
theorem bd_id : Bd fun ρ => ρ := fun _ b => b
theorem bd_amiss {c : Int} (hc : c = 4 ∨ c = 5) : Bd (RS.amiss c) := fun ρ b => by
 unfold RS.amiss
 split
 ·exact .inr hc
 ·exact b
theorem bd_4 : Bd (RS.amiss 4) := bd_amiss (.inl rfl)
theorem bd_5 : Bd (RS.amiss 5) := bd_amiss (.inr rfl)
theorem bd_pop : Bd fun ρ => ρ.pop.1 := fun ρ b => by
 show B45 ρ.pop.1
 unfold RS.pop
 split
 ·exact b
 ·split
  ·dsimp only
   split
   ·exact b
   ·exact bd_4 ρ b
  ·exact b
theorem bd_want (t : Int) : Bd (RS.want t) := fun ρ b => by
 rcases want_cases t ρ with e | e | e <;> rw [e]
 ·exact b
 ·exact bd_pop ρ b
 ·exact bd_4 _ (bd_pop ρ b)
theorem bd_wants : ∀ ts : List Int, Bd (RS.wants ts)
 | [] => bd_id
 | t :: ts => bd_comp (G := RS.wants ts) (bd_wants ts) (bd_want t)
theorem bd_push (t : Int) : Bd (RS.push t) := fun ρ b => by unfold B45; rw [push_bad]; exact b
theorem bd_pushes : ∀ ts : List Int, Bd (RS.pushes ts)
 | [] => bd_id
 | t :: ts => bd_comp (G := RS.push t) (bd_push t) (bd_pushes ts)
theorem bd_stop : Bd RS.stop := fun ρ b => by
 unfold RS.stop
 split
 ·exact b
 ·exact b
theorem bd_thr (q : Bool) : Bd (RS.thr q) := bd_ite (bd_want 1) bd_id
theorem bd_call (t : Int) (q : Bool) : Bd (RS.call s t q) := fun ρ b => by
 unfold RS.call
 split
 ·exact bd_5 ρ b
 ·split
  ·exact b
  ·refine bd_pushes _ _ (bd_wants _ _ (bd_thr _ _ ?_))
   split
   ·exact bd_4 ρ b
   ·exact b
theorem bd_one (r : OpR) (o a : Int) (l : List Int) : Bd (RS.one s r o a l) := by
 unfold RS.one
 refine bd_ite bd_stop (bd_ite (fun ρ b => ?_) (bd_ite (fun ρ b => ?_) (bd_ite (bd_comp (G := RS.want _) (bd_want _) bd_stop) (bd_ite (fun ρ b => ?_) (bd_ite (bd_call a true) (bd_ite bd_pop (bd_ite (fun ρ b => ?_) (bd_ite (fun ρ b => ?_) (fun ρ b => ?_)))))))))
 ·unfold RS.jump
  split
  ·exact bd_5 ρ b
  ·split
   ·exact bd_push _ _ (bd_want _ _ (bd_want _ _ b))
   ·exact bd_stop _ (bd_want _ _ b)
 ·unfold RS.table
  split
  ·exact bd_5 ρ b
  ·refine bd_stop _ (bd_want _ _ (bd_want _ _ ?_))
   unfold RS.odd
   split
   ·exact bd_4 ρ b
   ·exact b
 ·unfold RS.fun
  split
  ·exact bd_5 ρ b
  ·split
   ·exact b
   ·exact bd_call _ _ ρ b
 ·unfold RS.sel RS.sel0
  refine bd_push _ _ ?_
  have h := bd_pop _ (bd_pop _ (bd_want 1 ρ b))
  unfold RS.sel1
  split
  ·exact bd_4 _ h
  ·exact h
 ·unfold RS.var
  have hv : ∀ (t : Int) (mu : Bool), Bd (RS.varT o t mu) := fun t mu ρ b => by
   have h1 : B45 (if o = 36 /\ mu = false then ρ.amiss 4 else ρ) := by
    split
    ·exact bd_4 ρ b
    ·exact b
   have h2 : B45 (if o = 33 ∨ o = 34 ∨ o = 36 then (if o = 36 /\ mu = false then ρ.amiss 4 else ρ).want t else (if o = 36 /\ mu = false then ρ.amiss 4 else ρ)) := by
    split
    ·exact bd_want t _ h1
    ·exact h1
   unfold RS.varT
   dsimp only
   by_cases hp : o = 32 ∨ o = 34 ∨ o = 35
   ·rw [if_pos hp]; exact bd_push t _ h2
   ·rw [if_neg hp]; exact h2
  split
  all_goals
   split
   ·exact bd_5 ρ b
   ·split
    ·exact b
    ·exact hv _ _ ρ b
 ·unfold RS.plain
  split
  ·exact bd_5 ρ b
  ·refine bd_push _ _ (bd_wants _ _ ?_)
   split
   ·exact bd_4 ρ b
   ·exact b
theorem bd_ahead (o t : Int) (q : Bool) : Bd (RS.ahead o t q) := by
 unfold RS.ahead
 exact bd_ite (bd_ite (bd_comp (G := RS.want 1) (bd_want 1) bd_4) (bd_want 1)) bd_id
def BdL (OP : Int -> Option OpR) (s : Scp) (l : List Ins) : Prop := ∀ (re : Int) (fr : Nat), Bd (RS.runL OP s l re fr)
theorem bd_code {l : List Ins} (h : BdL OP s l) (la re : Int) : Bd (RS.code OP s l la re) := fun ρ b => by
 unfold RS.code
 split
 ·exact b
 ·exact h re _ _ b
theorem bd_block {o t : Int} {bd el : List Ins} {q : Bool} (h1 : BdL OP s bd) (h2 : BdL OP s el) : Bd (RS.block OP s o t bd el q) := fun ρ b => by
 unfold RS.block
 have h3 := bd_code h1 t t _ (bd_ahead o t q ρ b)
 split
 ·exact bd_code h1 0 t ρ b
 ·split
  ·exact bd_code h2 t t _ (bd_want t _ h3)
  ·exact h3
mutual
theorem bd_instr : ∀ x : Ins, Bd (RS.instr OP s x)
 | .mk o a b v t l bd el q => fun ρ hb => by
  have h1 := bd_runL bd
  have h2 := bd_runL el
  cases ho : OP o with
  | none =>
   have e : RS.instr OP s (.mk o a b v t l bd el q) ρ = ρ := by unfold RS.instr; rw [ho]
   rw [e]; exact hb
  | some r =>
   rw [instrR_some ho]
   split
   ·exact bd_block h1 h2 ρ hb
   ·exact bd_one r o a l ρ hb
theorem bd_runL : ∀ xs : List Ins, BdL OP s xs
 | [] => fun re fr ρ b => by
  unfold RS.runL
  split
  ·exact b
  ·have he : B45 (ρ.end1 re fr) := by
    unfold RS.end1
    split
    ·exact bd_4 _ (bd_want re ρ b)
    ·exact bd_want re ρ b
   unfold RS.fin
   split
   ·exact he
   ·exact bd_push re _ he
 | x :: xs => fun re fr ρ b => by
  unfold RS.runL
  split
  ·exact b
  ·exact bd_runL xs re fr _ (bd_instr x ρ b)
end
theorem same_check (hs : SOk s) (hT : OpT OP) {xs : List Ins} (hm : mayL OP xs = true) :
  ((RS.code OP s xs s.re s.re ⟨[], [], 0⟩).bad = 0 /\ (LS.code OP s xs (rsl s.re) (rsl s.re) ⟨[], [], none⟩).err = none) ∨
  (∃ c : Int, (c = 4 ∨ c = 5) /\ (RS.code OP s xs s.re s.re ⟨[], [], 0⟩).bad = c /\ (LS.code OP s xs (rsl s.re) (rsl s.re) ⟨[], [], none⟩).err = some c) := by
 have r := code_S (runS hs hT xs) hm hs.re hs.re (σ := ⟨[], [], none⟩) (ρ := ⟨[], [], 0⟩) (.inl ⟨rfl, rfl, rfl, rfl, by simp, by simp, by simp, by simp⟩)
 have b := bd_code (bd_runL (OP := OP) (s := s) xs) s.re s.re ⟨[], [], 0⟩ (.inl rfl)
 rcases r with g | ⟨c, h0, h1, h2⟩
 ·exact .inl ⟨g.bad, g.err⟩
 ·refine .inr ⟨c, ?_, h2, h1⟩
  unfold B45 at b
  rw [h2] at b
  omega
end
end Go.Proofs.Am
