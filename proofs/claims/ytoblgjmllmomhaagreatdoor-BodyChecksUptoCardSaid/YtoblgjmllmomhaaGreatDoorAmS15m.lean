/-
  The looker: calls, plain operations.
-/
import Derived.Test.YtoblgjmllmomhaaGreatDoorAmS15j
import Derived.Test.YtoblgjmllmomhaaGreatDoorAmS15wE
import Derived.Test.YtoblgjmllmomhaaGreatDoorAmS15wF
import Derived.Test.YtoblgjmllmomhaaGreatDoorAmS15wG
namespace Go.Proofs.YtoblgjmllmomhaaGreatDoor
set_option maxRecDepth 100000
open Go Go.Proofs.Am
abbrev opA (ob : Int) (nm : ByteArray) (ok : Int) (tk : List (List AV)) (gv bz : Int) (sg : Bool) : AV := .agg [.int .i64 ob, .str nm, .int .i64 ok, .imm tk, .int .i64 gv, .int .i64 bz, .bool sg]
abbrev inA (o a b v t : Int) (l bd el : List (List AV)) (q : Bool) : AV := .agg [.int .i64 o, .int .i64 a, .int .i64 b, .int .u64 v, .int .i64 t, .imm l, .imm bd, .imm el, .bool q]
section
variable {m : Int} {s : Scp} {L : Nat} {h : Heap} {σ : LS} {N : Nat} {ob ok gv bz : Int} {tk : List (List AV)} {sg : Bool} {o a b v t : Int} {l : List Int} {ll bd el : List (List AV)} {q : Bool}
theorem Rel.ld (H : Rel s L h σ) {k : Nat} {x : AV} (hk : ∀ pr pb, (lkC s pr pb σ.err)[k]? = some (.v x)) : ldP h (.ptr L k) 1 false = some x := by
 obtain ⟨r, b, pr, pb, H⟩ := H
 exact H.ld (hk pr pb)
theorem ret_R (H : Rel s L h σ) (I : Inv N σ) (hN : N < 2 ^ 41) : ∃ h', cA m 89 [vP L 0, .v (opA ob (sb [114, 101, 116, 117, 114, 110]) ok tk gv bz sg), .v (inA o a b v t ll bd el q)] h = some (.tup [], h') /\ Rel s L h' (σ.jump s 15 a l) := by
 have hld : ldP h (.ptr L 6) 1 false = some (.int .i64 s.re) := H.ld fun _ _ => rfl
 have := rsl_len s.re
 obtain ⟨h1, c1, H1, _⟩ := all_R (m := m) H I hN (ts := rsl s.re) (by omega)
 obtain ⟨h2, c2, H2⟩ := stop_R (m := m) H1 (I.all _) hN
 exact ⟨h2, cO (w41r_0 (k0 := hld) (k1 := list_Z _ _) (k2 := c1) (k3 := c2)), H2⟩
theorem brt_R (H : Rel s L h σ) (I : Inv N σ) (hN : N < 2 ^ 41) (h0 : ∀ n, n ∈ l -> 0 <= n) (hl : l.length < 2 ^ 40) (hne : l ≠ []) : ∃ h', cA m 89 [vP L 0, .v (opA ob (sb [98, 114, 95, 116, 97, 98, 108, 101]) ok tk gv bz sg), .v (inA o a b v t (encN l) bd el q)] h = some (.tup [], h') /\ Rel s L h' (σ.jump s 14 a l) := by
 obtain ⟨h1, c1, H1⟩ := table_R (m := m) (o := o) (a := a) (b' := b) (v := v) (t := t) (bd := bd) (el := el) (q := q) h0 hl hne hN I H
 exact ⟨h1, cO (w41t_0 (k0 := c1)), H1⟩
theorem bri_R (H : Rel s L h σ) (I : Inv N σ) (hN : N + 1 < 2 ^ 41) (h0 : 0 <= a) : ∃ h', cA m 89 [vP L 0, .v (opA ob (sb [98, 114, 95, 105, 102]) ok tk gv bz sg), .v (inA o a b v t ll bd el q)] h = some (.tup [], h') /\ Rel s L h' (σ.jump s 13 a l) := by
 have hj : σ.jump s 13 a l = match σ.lbl a with | none => σ.fail 5 | some t => ((σ.take 1).1.all t).give t := rfl
 rw [hj]
 rcases lbl_R (m := m) H I (by omega) h0 with ⟨x, hx, hc⟩ | ⟨hx, h', hc, H'⟩
 ·rw [hx]
  have := I.lbl hx
  obtain ⟨h1, c1, H1, _⟩ := take_R (m := m) H I (by omega) 1
  obtain ⟨h2, c2, H2, _⟩ := all_R (m := m) H1 (I.take 1) (by omega) (ts := x) (by omega)
  obtain ⟨h3, c3, H3⟩ := give_R (m := m) H2 ((I.take 1).all x) (ts := x) (by omega)
  exact ⟨h3, cO (w41i_1 (k0 := hc) (k1 := rfl) (k2 := c1) (k3 := c2) (k4 := c3)), H3⟩
 ·rw [hx]
  exact ⟨h', cO (w41i_0 (k0 := hc) (k1 := rfl)), H'⟩
theorem br_R (H : Rel s L h σ) (I : Inv N σ) (hN : N < 2 ^ 41) (h0 : 0 <= a) : ∃ h', cA m 89 [vP L 0, .v (opA ob (sb [98, 114]) ok tk gv bz sg), .v (inA o a b v t ll bd el q)] h = some (.tup [], h') /\ Rel s L h' (σ.jump s 12 a l) := by
 have hj : σ.jump s 12 a l = match σ.lbl a with | none => σ.fail 5 | some t => (σ.all t).stop := rfl
 rw [hj]
 rcases lbl_R (m := m) H I hN h0 with ⟨x, hx, hc⟩ | ⟨hx, h', hc, H'⟩
 ·rw [hx]
  have := I.lbl hx
  obtain ⟨h2, c2, H2, _⟩ := all_R (m := m) H I (by omega) (ts := x) (by omega)
  obtain ⟨h3, c3, H3⟩ := stop_R (m := m) H2 (I.all x) hN
  exact ⟨h3, cO (w41b_1 (k0 := hc) (k1 := rfl) (k2 := c2) (k3 := c3)), H3⟩
 ·rw [hx]
  exact ⟨h', cO (w41b_0 (k0 := hc) (k1 := rfl)), H'⟩
theorem drop_R (H : Rel s L h σ) (I : Inv N σ) (hN : N < 2 ^ 41) : ∃ h', cA m 91 [vP L 0, .v (opA ob (sb [100, 114, 111, 112]) ok tk gv bz sg)] h = some (.tup [], h') /\ Rel s L h' (σ.any 26) := by
 obtain ⟨h1, c1, H1, _⟩ := take_R (m := m) H I hN (Int.negSucc 0)
 exact ⟨h1, cO (w43d_0 (k0 := c1)), H1⟩
theorem sel_R (H : Rel s L h σ) (I : Inv N σ) (hN : N + 1 < 2 ^ 41) : ∃ h', cA m 91 [vP L 0, .v (opA ob (sb [115, 101, 108, 101, 99, 116]) ok tk gv bz sg)] h = some (.tup [], h') /\ Rel s L h' (σ.any 27) := by
 obtain ⟨h1, c1, H1, _⟩ := take_R (m := m) H I (by omega) 1
 obtain ⟨h2, c2, H2, _⟩ := take_R (m := m) H1 (I.take 1) (by omega) (Int.negSucc 0)
 obtain ⟨h3, c3, H3, _⟩ := take_R (m := m) H2 ((I.take 1).take (Int.negSucc 0)) (by omega) (((σ.take 1).1.take (Int.negSucc 0)).2)
 obtain ⟨h4, c4, H4⟩ := give_R (m := m) H3 (((I.take 1).take (Int.negSucc 0)).take _) (ts := [(((σ.take 1).1.take (Int.negSucc 0)).1.take (((σ.take 1).1.take (Int.negSucc 0)).2)).2]) (by simpa using hN)
 exact ⟨h4, cO (w43s_0 (k0 := c1) (k1 := c2) (k2 := c3) (k3 := c4)), H4⟩
theorem ln5 (H : Rel s L h σ) : ldP h (.ptr L 5) 1 false = some (.imm (encN s.lo)) := H.ld fun _ _ => rfl
theorem ln2 (H : Rel s L h σ) : ldP h (.ptr L 2) 1 false = some (.imm (s.gl.map Glo.enc)) := H.ld fun _ _ => rfl
theorem lnI (l : List Int) : lnS (.imm (encN l)) = some (l.length : Int) := by show some _ = some _; rw [encN_len]
theorem lnM {A : Type} (f : A -> List AV) (l : List A) : lnS (.imm (l.map f)) = some (l.length : Int) := by show some _ = some _; rw [List.length_map]
theorem var_lo {o : Int} (ho : o < 35) : σ.var s o a = if a < s.lo.length then match s.lo[a.toNat]? with | none => σ | some t => σ.varT o t true else σ.fail 5 := by
 exact if_pos ho
theorem var_gl {o : Int} (ho : ¬ o < 35) : σ.var s o a = if a < s.gl.length then match s.gl[a.toNat]? with | none => σ | some g => σ.varT o g.t g.mu else σ.fail 5 := by
 exact if_neg ho
theorem lget_R (H : Rel s L h σ) (I : Inv N σ) (hN : N + 1 < 2 ^ 41) (h0 : 0 <= a) : ∃ h', cA m 92 [vP L 0, .v (opA 32 (sb [108, 111, 99, 97, 108, 46, 103, 101, 116]) ok tk gv bz sg), .v (inA o a b v t ll bd el q)] h = some (.tup [], h') /\ Rel s L h' (σ.var s 32 a) := by
 rw [var_lo (by decide)]
 by_cases ha : a < s.lo.length
 ·have hg : s.lo[a.toNat]? = some s.lo[a.toNat] := List.getElem?_eq_getElem (by omega)
  rw [if_pos ha, hg]
  obtain ⟨h1, c1, H1⟩ := give_R (m := m) H I (ts := [s.lo[a.toNat]]) (by simpa using hN)
  exact ⟨h1, cO (w44_32_0 (k0 := ln5 H) (k1 := lnI _) (k2 := ltZ_t ha) (k3 := ln5 H) (k4 := ix_mapZ (f := fun x => [AV.int .i64 x]) h0 hg rfl) (k5 := c1)), H1⟩
 ·rw [if_neg ha]
  obtain ⟨h1, c1, H1, _⟩ := fail_R (m := m) H 5
  exact ⟨h1, cO (w44_32_1 (k0 := ln5 H) (k1 := lnI _) (k2 := ltZ_f (by omega)) (k3 := c1)), H1⟩
theorem lset_R (H : Rel s L h σ) (I : Inv N σ) (hN : N < 2 ^ 41) (h0 : 0 <= a) : ∃ h', cA m 92 [vP L 0, .v (opA 33 (sb [108, 111, 99, 97, 108, 46, 115, 101, 116]) ok tk gv bz sg), .v (inA o a b v t ll bd el q)] h = some (.tup [], h') /\ Rel s L h' (σ.var s 33 a) := by
 rw [var_lo (by decide)]
 by_cases ha : a < s.lo.length
 ·have hg : s.lo[a.toNat]? = some s.lo[a.toNat] := List.getElem?_eq_getElem (by omega)
  rw [if_pos ha, hg]
  obtain ⟨h1, c1, H1, _⟩ := take_R (m := m) H I hN s.lo[a.toNat]
  exact ⟨h1, cO (w44_33_0 (k0 := ln5 H) (k1 := lnI _) (k2 := ltZ_t ha) (k3 := ln5 H) (k4 := ix_mapZ (f := fun x => [AV.int .i64 x]) h0 hg rfl) (k5 := c1)), H1⟩
 ·rw [if_neg ha]
  obtain ⟨h1, c1, H1, _⟩ := fail_R (m := m) H 5
  exact ⟨h1, cO (w44_33_1 (k0 := ln5 H) (k1 := lnI _) (k2 := ltZ_f (by omega)) (k3 := c1)), H1⟩
theorem ltee_R (H : Rel s L h σ) (I : Inv N σ) (hN : N + 1 < 2 ^ 41) (h0 : 0 <= a) : ∃ h', cA m 92 [vP L 0, .v (opA 34 (sb [108, 111, 99, 97, 108, 46, 116, 101, 101]) ok tk gv bz sg), .v (inA o a b v t ll bd el q)] h = some (.tup [], h') /\ Rel s L h' (σ.var s 34 a) := by
 rw [var_lo (by decide)]
 by_cases ha : a < s.lo.length
 ·have hg : s.lo[a.toNat]? = some s.lo[a.toNat] := List.getElem?_eq_getElem (by omega)
  rw [if_pos ha, hg]
  obtain ⟨h1, c1, H1, _⟩ := take_R (m := m) H I (by omega) s.lo[a.toNat]
  obtain ⟨h2, c2, H2⟩ := give_R (m := m) H1 (I.take _) (ts := [s.lo[a.toNat]]) (by simpa using hN)
  exact ⟨h2, cO (w44_34_0 (k0 := ln5 H) (k1 := lnI _) (k2 := ltZ_t ha) (k3 := ln5 H) (k4 := ix_mapZ (f := fun x => [AV.int .i64 x]) h0 hg rfl) (k5 := c1) (k6 := c2)), H2⟩
 ·rw [if_neg ha]
  obtain ⟨h1, c1, H1, _⟩ := fail_R (m := m) H 5
  exact ⟨h1, cO (w44_34_1 (k0 := ln5 H) (k1 := lnI _) (k2 := ltZ_f (by omega)) (k3 := c1)), H1⟩
theorem gget_R (H : Rel s L h σ) (I : Inv N σ) (hN : N + 1 < 2 ^ 41) (h0 : 0 <= a) : ∃ h', cA m 92 [vP L 0, .v (opA 35 (sb [103, 108, 111, 98, 97, 108, 46, 103, 101, 116]) ok tk gv bz sg), .v (inA o a b v t ll bd el q)] h = some (.tup [], h') /\ Rel s L h' (σ.var s 35 a) := by
 rw [var_gl (by decide)]
 by_cases ha : a < s.gl.length
 ·have hg : s.gl[a.toNat]? = some s.gl[a.toNat] := List.getElem?_eq_getElem (by omega)
  rw [if_pos ha, hg]
  have hix := ix_mapZ (f := Glo.enc) h0 hg rfl
  generalize s.gl[a.toNat] = g at hix ⊢
  obtain ⟨gt, mu, ⟨g1, g2, g3, g4, g5, g6, g7, g8, g9⟩⟩ := g
  obtain ⟨h1, c1, H1⟩ := give_R (m := m) H I (ts := [gt]) (by simpa using hN)
  exact ⟨h1, cO (w44_35_0 (k0 := ln2 H) (k1 := lnM _ _) (k2 := ltZ_t ha) (k3 := ln2 H) (k4 := hix) (k5 := ln2 H) (k6 := hix) (k7 := c1)), H1⟩
 ·rw [if_neg ha]
  obtain ⟨h1, c1, H1, _⟩ := fail_R (m := m) H 5
  exact ⟨h1, cO (w44_35_1 (k0 := ln2 H) (k1 := lnM _ _) (k2 := ltZ_f (by omega)) (k3 := c1)), H1⟩
theorem gset_R (H : Rel s L h σ) (I : Inv N σ) (hN : N < 2 ^ 41) (h0 : 0 <= a) : ∃ h', cA m 92 [vP L 0, .v (opA 36 (sb [103, 108, 111, 98, 97, 108, 46, 115, 101, 116]) ok tk gv bz sg), .v (inA o a b v t ll bd el q)] h = some (.tup [], h') /\ Rel s L h' (σ.var s 36 a) := by
 rw [var_gl (by decide)]
 by_cases ha : a < s.gl.length
 ·have hg : s.gl[a.toNat]? = some s.gl[a.toNat] := List.getElem?_eq_getElem (by omega)
  rw [if_pos ha, hg]
  have hix := ix_mapZ (f := Glo.enc) h0 hg rfl
  generalize s.gl[a.toNat] = g at hix ⊢
  obtain ⟨gt, mu, ⟨g1, g2, g3, g4, g5, g6, g7, g8, g9⟩⟩ := g
  cases mu with
  | true =>
   obtain ⟨h1, c1, H1, _⟩ := take_R (m := m) H I hN gt
   exact ⟨h1, cO (w44_36_1 (k0 := ln2 H) (k1 := lnM _ _) (k2 := ltZ_t ha) (k3 := ln2 H) (k4 := hix) (k5 := ln2 H) (k6 := hix) (k7 := rfl) (k8 := c1)), H1⟩
  | false =>
   obtain ⟨h1, c1, H1, _⟩ := fail_R (m := m) H 4
   obtain ⟨h2, c2, H2, _⟩ := take_R (m := m) H1 (I.fail 4) hN gt
   exact ⟨h2, cO (w44_36_0 (k0 := ln2 H) (k1 := lnM _ _) (k2 := ltZ_t ha) (k3 := ln2 H) (k4 := hix) (k5 := ln2 H) (k6 := hix) (k7 := rfl) (k8 := c1) (k9 := c2)), H2⟩
 ·rw [if_neg ha]
  obtain ⟨h1, c1, H1, _⟩ := fail_R (m := m) H 5
  exact ⟨h1, cO (w44_36_2 (k0 := ln2 H) (k1 := lnM _ _) (k2 := ltZ_f (by omega)) (k3 := c1)), H1⟩
end
end Go.Proofs.YtoblgjmllmomhaaGreatDoor
namespace Go.Proofs.YtoblgjmllmomhaaGreatDoor
set_option maxRecDepth 100000
open Go Go.Proofs.Am
section
variable {m : Int} {s : Scp} {L : Nat} {h : Heap} {σ : LS} {N R : Nat} {ob ok gv bz : Int} {tk : List (List AV)} {sg : Bool} {o a b v t : Int} {l : List Int} {ll bd el : List (List AV)} {q : Bool}
theorem ln1 (H : Rel s L h σ) : ldP h (.ptr L 1) 1 false = some (.imm (encN s.fn)) := H.ld fun _ _ => rfl
theorem ln0 (H : Rel s L h σ) : ldP h (.ptr L 0) 1 false = some (.imm (s.ty.map FTy.enc)) := H.ld fun _ _ => rfl
theorem ln3 (H : Rel s L h σ) : ldP h (.ptr L 3) 1 false = some (.bool s.tb) := H.ld fun _ _ => rfl
theorem ln4 (H : Rel s L h σ) : ldP h (.ptr L 4) 1 false = some (.bool s.mm) := H.ld fun _ _ => rfl
def TyLen (R : Nat) (s : Scp) : Prop := ∀ x, x ∈ s.ty -> x.p.length <= R /\ x.r.length <= R
theorem callT_ok {n : Int} {thr : Bool} {x : FTy} (h0 : 0 <= n) (hn : n < s.ty.length) (ht : thr = true -> s.tb = true) (hx : s.ty[n.toNat]? = some x) :
  σ.callT s thr n = LS.give x.r (LS.all x.p (LS.thr thr (if 1 < x.r.length then σ.fail 4 else σ))) := by
 unfold LS.callT
 rw [if_neg (by
  rintro (h1 | h1 | h1)
  ·omega
  ·omega
  ·rw [ht h1.1] at h1; cases h1.2), hx]
theorem callT_no {n : Int} {thr : Bool} (hn : n < 0 ∨ (s.ty.length : Int) <= n ∨ (thr = true /\ s.tb = false)) : σ.callT s thr n = σ.fail 5 := if_pos hn
theorem call_R (hR : TyLen R s) (H : Rel s L h σ) (I : Inv N σ) (hN : N + R < 2 ^ 41) (h0 : 0 <= a) : ∃ h', cA m 90 [vP L 0, .v (opA ob (sb [99, 97, 108, 108]) ok tk gv bz sg), .v (inA o a b v t ll bd el q)] h = some (.tup [], h') /\ Rel s L h' (σ.call s 16 a) := by
 have hc : σ.call s 16 a = if (s.fn.length : Int) <= a then σ.fail 5 else match s.fn[a.toNat]? with | none => σ | some n => σ.callT s false n := rfl
 rw [hc]
 by_cases ha : (s.fn.length : Int) <= a
 ·rw [if_pos ha]
  obtain ⟨h1, c1, H1, _⟩ := fail_R (m := m) H 5
  exact ⟨h1, cO (w42c_0 (k0 := ln1 H) (k1 := lnI _) (k2 := leZ_t ha) (k3 := c1)), H1⟩
 ·rw [if_neg ha]
  have hg : s.fn[a.toNat]? = some s.fn[a.toNat] := List.getElem?_eq_getElem (by omega)
  rw [hg]
  simp only
  have hi : ixA (.imm (encN s.fn)) a 1 = some [.int .i64 s.fn[a.toNat]] := ix_mapZ (f := fun x => [AV.int .i64 x]) h0 hg rfl
  generalize s.fn[a.toNat] = n at hi ⊢
  have e2 := leZ_f (show a < (s.fn.length : Int) by omega)
  by_cases hn : n < 0
  ·rw [callT_no (.inl hn)]
   obtain ⟨h1, c1, H1, _⟩ := fail_R (m := m) H 5
   exact ⟨h1, cO (w42c_1 (k0 := ln1 H) (k1 := lnI _) (k2 := e2) (k3 := ln1 H) (k4 := hi) (k5 := ltZ_t hn) (k6 := c1)), H1⟩
  ·by_cases hn2 : (s.ty.length : Int) <= n
   ·rw [callT_no (.inr (.inl hn2))]
    obtain ⟨h1, c1, H1, _⟩ := fail_R (m := m) H 5
    exact ⟨h1, cO (w42c_2 (k0 := ln1 H) (k1 := lnI _) (k2 := e2) (k3 := ln1 H) (k4 := hi) (k5 := ltZ_f (by show (0 : Int) <= _; omega)) (k6 := ln0 H) (k7 := lnM _ _) (k8 := leZ_t hn2) (k9 := c1)), H1⟩
   ·have hgt : s.ty[n.toNat]? = some s.ty[n.toNat] := List.getElem?_eq_getElem (by omega)
    rw [callT_ok (by omega) (by omega) (by simp) hgt]
    have hit : ixA (.imm (s.ty.map FTy.enc)) n 2 = some [.imm (encN s.ty[n.toNat].p), .imm (encN s.ty[n.toNat].r)] := ix_mapZ (f := FTy.enc) (by omega) hgt rfl
    obtain ⟨hp, hr⟩ := hR _ (List.mem_of_getElem? hgt)
    generalize s.ty[n.toNat] = x at hit hp hr ⊢
    by_cases h1r : 1 < x.r.length
    ·rw [if_pos h1r]
     obtain ⟨h1, c1, H1, _⟩ := fail_R (m := m) H 4
     obtain ⟨h2, c2, H2, _⟩ := all_R (m := m) H1 (I.fail 4) (by omega) (ts := x.p) (by omega)
     obtain ⟨h3, c3, H3⟩ := give_R (m := m) H2 ((I.fail 4).all x.p) (ts := x.r) (by omega)
     exact ⟨h3, cO (w42c_3 (k0 := ln1 H) (k1 := lnI _) (k2 := e2) (k3 := ln1 H) (k4 := hi) (k5 := ltZ_f (by show (0 : Int) <= _; omega)) (k6 := ln0 H) (k7 := lnM _ _) (k8 := leZ_f (by omega)) (k9 := ln0 H) (k10 := hit) (k11 := ltZ_t (by rw [ofN, ofN, encN_len]; omega)) (k12 := c1) (k13 := c2) (k14 := c3)), H3⟩
    ·rw [if_neg h1r]
     obtain ⟨h2, c2, H2, _⟩ := all_R (m := m) H I (by omega) (ts := x.p) (by omega)
     obtain ⟨h3, c3, H3⟩ := give_R (m := m) H2 (I.all x.p) (ts := x.r) (by omega)
     exact ⟨h3, cO (w42c_4 (k0 := ln1 H) (k1 := lnI _) (k2 := e2) (k3 := ln1 H) (k4 := hi) (k5 := ltZ_f (by show (0 : Int) <= _; omega)) (k6 := ln0 H) (k7 := lnM _ _) (k8 := leZ_f (by omega)) (k9 := ln0 H) (k10 := hit) (k11 := ltZ_f (by rw [ofN, ofN, encN_len]; omega)) (k12 := c2) (k13 := c3)), H3⟩
theorem calli_R (hR : TyLen R s) (H : Rel s L h σ) (I : Inv N σ) (hN : N + R < 2 ^ 41) : ∃ h', cA m 90 [vP L 0, .v (opA ob (sb [99, 97, 108, 108, 95, 105, 110, 100, 105, 114, 101, 99, 116]) ok tk gv bz sg), .v (inA o a b v t ll bd el q)] h = some (.tup [], h') /\ Rel s L h' (σ.call s 17 a) := by
 have hc : σ.call s 17 a = σ.callT s true a := rfl
 rw [hc]
 by_cases hn : a < 0
 ·rw [callT_no (.inl hn)]
  obtain ⟨h1, c1, H1, _⟩ := fail_R (m := m) H 5
  exact ⟨h1, cO (w42i_0 (k0 := ltZ_t hn) (k1 := c1)), H1⟩
 ·by_cases hn2 : (s.ty.length : Int) <= a
  ·rw [callT_no (.inr (.inl hn2))]
   obtain ⟨h1, c1, H1, _⟩ := fail_R (m := m) H 5
   exact ⟨h1, cO (w42i_1 (k0 := ltZ_f (by show (0 : Int) <= _; omega)) (k1 := ln0 H) (k2 := lnM _ _) (k3 := leZ_t hn2) (k4 := c1)), H1⟩
  ·have l3 := ln3 H
   cases htb : s.tb with
   | false =>
    rw [htb] at l3
    rw [callT_no (.inr (.inr ⟨rfl, htb⟩))]
    obtain ⟨h1, c1, H1, _⟩ := fail_R (m := m) H 5
    exact ⟨h1, cO (w42i_2 (k0 := ltZ_f (by show (0 : Int) <= _; omega)) (k1 := ln0 H) (k2 := lnM _ _) (k3 := leZ_f (by omega)) (k4 := l3) (k5 := rfl) (k6 := c1)), H1⟩
   | true =>
    rw [htb] at l3
    have hgt : s.ty[a.toNat]? = some s.ty[a.toNat] := List.getElem?_eq_getElem (by omega)
    rw [callT_ok (by omega) (by omega) (fun _ => htb) hgt]
    have hit : ixA (.imm (s.ty.map FTy.enc)) a 2 = some [.imm (encN s.ty[a.toNat].p), .imm (encN s.ty[a.toNat].r)] := ix_mapZ (f := FTy.enc) (by omega) hgt rfl
    obtain ⟨hp, hr⟩ := hR _ (List.mem_of_getElem? hgt)
    generalize s.ty[a.toNat] = x at hit hp hr ⊢
    by_cases h1r : 1 < x.r.length
    ·rw [if_pos h1r]
     obtain ⟨h1, c1, H1, _⟩ := fail_R (m := m) H 4
     obtain ⟨h4, c4, H4, _⟩ := take_R (m := m) H1 (I.fail 4) (by omega) 1
     obtain ⟨h2, c2, H2, _⟩ := all_R (m := m) H4 ((I.fail 4).take 1) (by omega) (ts := x.p) (by omega)
     obtain ⟨h3, c3, H3⟩ := give_R (m := m) H2 (((I.fail 4).take 1).all x.p) (ts := x.r) (by omega)
     exact ⟨h3, cO (w42i_3 (k0 := ltZ_f (by show (0 : Int) <= _; omega)) (k1 := ln0 H) (k2 := lnM _ _) (k3 := leZ_f (by omega)) (k4 := l3) (k5 := rfl) (k6 := ln0 H) (k7 := hit) (k8 := ltZ_t (by rw [ofN, ofN, encN_len]; omega)) (k9 := c1) (k10 := c4) (k11 := c2) (k12 := c3)), H3⟩
    ·rw [if_neg h1r]
     obtain ⟨h4, c4, H4, _⟩ := take_R (m := m) H I (by omega) 1
     obtain ⟨h2, c2, H2, _⟩ := all_R (m := m) H4 (I.take 1) (by omega) (ts := x.p) (by omega)
     obtain ⟨h3, c3, H3⟩ := give_R (m := m) H2 ((I.take 1).all x.p) (ts := x.r) (by omega)
     exact ⟨h3, cO (w42i_4 (k0 := ltZ_f (by show (0 : Int) <= _; omega)) (k1 := ln0 H) (k2 := lnM _ _) (k3 := leZ_f (by omega)) (k4 := l3) (k5 := rfl) (k6 := ln0 H) (k7 := hit) (k8 := ltZ_f (by rw [ofN, ofN, encN_len]; omega)) (k9 := c4) (k10 := c2) (k11 := c3)), H3⟩
theorem shl0 : binF Tryz.prog .shl 3 true (.int .i64 (Int.ofNat 1)) (.int .i64 0) = some (.int .i64 ((2 : Int) ^ (0 : Int).toNat)) := by kernel_rfl
theorem shl1 : binF Tryz.prog .shl 3 true (.int .i64 (Int.ofNat 1)) (.int .i64 1) = some (.int .i64 ((2 : Int) ^ (1 : Int).toNat)) := by kernel_rfl
theorem shl2 : binF Tryz.prog .shl 3 true (.int .i64 (Int.ofNat 1)) (.int .i64 2) = some (.int .i64 ((2 : Int) ^ (2 : Int).toNat)) := by kernel_rfl
theorem shl3 : binF Tryz.prog .shl 3 true (.int .i64 (Int.ofNat 1)) (.int .i64 3) = some (.int .i64 ((2 : Int) ^ (3 : Int).toNat)) := by kernel_rfl
theorem shl_ok (h0 : 0 <= a) (h3 : ¬ 3 < a) : binF Tryz.prog .shl 3 true (.int .i64 (Int.ofNat 1)) (.int .i64 a) = some (.int .i64 ((2 : Int) ^ a.toNat)) := by
 have e : a = 0 ∨ a = 1 ∨ a = 2 ∨ a = 3 := by omega
 rcases e with e | e | e | e
 ·rw [e]; exact shl0
 ·rw [e]; exact shl1
 ·rw [e]; exact shl2
 ·rw [e]; exact shl3
theorem plain_no {r : OpR} (hk : r.kind = 7 ∨ r.kind = 8 ∨ r.kind = 9) (hm : s.mm = false) : σ.plain s r a = σ.fail 5 := if_pos ⟨hk, hm⟩
theorem plain_ok {r : OpR} (hk : ¬((r.kind = 7 ∨ r.kind = 8 ∨ r.kind = 9) /\ s.mm = false)) :
  σ.plain s r a = ((if (r.kind = 7 ∨ r.kind = 8) /\ (3 < a ∨ r.bytes < (2 : Int) ^ a.toNat) then σ.fail 4 else σ).all r.takes).give [r.gives] := if_neg hk
theorem plain_R {r : OpR} {on : ByteArray} (ht : r.takes.length < 2 ^ 41) (H : Rel s L h σ) (I : Inv N σ) (hN : N + 1 < 2 ^ 41) (h0 : r.kind = 7 ∨ r.kind = 8 -> 0 <= a) :
  ∃ h', cA m 94 [vP L 0, .v (opA ob on r.kind (encN r.takes) r.gives r.bytes sg), .v (inA o a b v t ll bd el q)] h = some (.tup [], h') /\ Rel s L h' (σ.plain s r a) := by
 obtain ⟨rb, rn, k, tk, gv, bz, rs⟩ := r
 simp only at ht h0 ⊢
 have l4 := ln4 H
 have go : ∀ {h : Heap} {σ : LS}, Rel s L h σ -> Inv N σ -> ∃ h2 h3, cA m 52 [vP L 0, vM (encN tk)] h = some (.tup [], h2) /\ cA m 55 [vP L 0, .v (.imm [[.int .i64 gv]])] h2 = some (.tup [], h3) /\ Rel s L h3 ((σ.all tk).give [gv]) := by
  intro h σ H I
  obtain ⟨h2, c2, H2, _⟩ := all_R (m := m) H I (by omega) (ts := tk) ht
  obtain ⟨h3, c3, H3⟩ := give_R (m := m) H2 (I.all tk) (ts := [gv]) (by simpa using hN)
  exact ⟨h2, h3, c2, c3, H3⟩
 by_cases h7 : k = 7
 ·have e7 := eqZ_t (b := Int.ofNat 7) h7
  cases hm : s.mm with
  | false =>
   rw [hm] at l4
   rw [plain_no (.inl h7) hm]
   obtain ⟨h1, c1, H1, _⟩ := fail_R (m := m) H 5
   exact ⟨h1, cO (w46_0 (k0 := e7) (k1 := l4) (k2 := rfl) (k3 := c1)), H1⟩
  | true =>
   rw [hm] at l4
   rw [plain_ok (by rw [hm]; simp)]
   simp only
   by_cases h3 : 3 < a
   ·rw [if_pos ⟨.inl h7, .inl h3⟩]
    obtain ⟨h1, c1, H1, _⟩ := fail_R (m := m) H 4
    obtain ⟨h2, h3', c2, c3, H3⟩ := go H1 (I.fail 4)
    exact ⟨h3', cO (w46_1 (k0 := e7) (k1 := l4) (k2 := rfl) (k3 := ltZ_t h3) (k4 := c1) (k5 := c2) (k6 := c3)), H3⟩
   ·have hsh := shl_ok (h0 (.inl h7)) h3
    by_cases hb : bz < (2 : Int) ^ a.toNat
    ·rw [if_pos ⟨.inl h7, .inr hb⟩]
     obtain ⟨h1, c1, H1, _⟩ := fail_R (m := m) H 4
     obtain ⟨h2, h3', c2, c3, H3⟩ := go H1 (I.fail 4)
     exact ⟨h3', cO (w46_2 (k0 := e7) (k1 := l4) (k2 := rfl) (k3 := ltZ_f (Int.not_lt.1 h3)) (k4 := hsh) (k5 := ltZ_t hb) (k6 := c1) (k7 := c2) (k8 := c3)), H3⟩
    ·rw [if_neg (fun hh => hh.2.elim h3 hb)]
     obtain ⟨h2, h3', c2, c3, H3⟩ := go H I
     exact ⟨h3', cO (w46_3 (k0 := e7) (k1 := l4) (k2 := rfl) (k3 := ltZ_f (Int.not_lt.1 h3)) (k4 := hsh) (k5 := ltZ_f (Int.not_lt.1 hb)) (k6 := c2) (k7 := c3)), H3⟩
 ·have e7 := eqZ_f (b := Int.ofNat 7) h7
  by_cases h8 : k = 8
  ·have e8 := eqZ_t (b := Int.ofNat 8) h8
   cases hm : s.mm with
   | false =>
    rw [hm] at l4
    rw [plain_no (.inr (.inl h8)) hm]
    obtain ⟨h1, c1, H1, _⟩ := fail_R (m := m) H 5
    exact ⟨h1, cO (w46_4 (k0 := e7) (k1 := e8) (k2 := l4) (k3 := rfl) (k4 := c1)), H1⟩
   | true =>
    rw [hm] at l4
    rw [plain_ok (by rw [hm]; simp)]
    simp only
    by_cases h3 : 3 < a
    ·rw [if_pos ⟨.inr h8, .inl h3⟩]
     obtain ⟨h1, c1, H1, _⟩ := fail_R (m := m) H 4
     obtain ⟨h2, h3', c2, c3, H3⟩ := go H1 (I.fail 4)
     exact ⟨h3', cO (w46_5 (k0 := e7) (k1 := e8) (k2 := l4) (k3 := rfl) (k4 := ltZ_t h3) (k5 := c1) (k6 := c2) (k7 := c3)), H3⟩
    ·have hsh := shl_ok (h0 (.inr h8)) h3
     by_cases hb : bz < (2 : Int) ^ a.toNat
     ·rw [if_pos ⟨.inr h8, .inr hb⟩]
      obtain ⟨h1, c1, H1, _⟩ := fail_R (m := m) H 4
      obtain ⟨h2, h3', c2, c3, H3⟩ := go H1 (I.fail 4)
      exact ⟨h3', cO (w46_6 (k0 := e7) (k1 := e8) (k2 := l4) (k3 := rfl) (k4 := ltZ_f (Int.not_lt.1 h3)) (k5 := hsh) (k6 := ltZ_t hb) (k7 := c1) (k8 := c2) (k9 := c3)), H3⟩
     ·rw [if_neg (fun hh => hh.2.elim h3 hb)]
      obtain ⟨h2, h3', c2, c3, H3⟩ := go H I
      exact ⟨h3', cO (w46_7 (k0 := e7) (k1 := e8) (k2 := l4) (k3 := rfl) (k4 := ltZ_f (Int.not_lt.1 h3)) (k5 := hsh) (k6 := ltZ_f (Int.not_lt.1 hb)) (k7 := c2) (k8 := c3)), H3⟩
  ·have e8 := eqZ_f (b := Int.ofNat 8) h8
   have nf : ∀ (x : LS), (if (k = 7 ∨ k = 8) /\ (3 < a ∨ bz < (2 : Int) ^ a.toNat) then x.fail 4 else x) = x := fun x => if_neg (fun hh => hh.1.elim h7 h8)
   by_cases h9 : k = 9
   ·have e9 := eqZ_t (b := Int.ofNat 9) h9
    cases hm : s.mm with
    | false =>
     rw [hm] at l4
     rw [plain_no (.inr (.inr h9)) hm]
     obtain ⟨h1, c1, H1, _⟩ := fail_R (m := m) H 5
     exact ⟨h1, cO (w46_9 (k0 := e7) (k1 := e8) (k2 := e9) (k3 := l4) (k4 := rfl) (k5 := c1)), H1⟩
    | true =>
     rw [hm] at l4
     rw [plain_ok (by rw [hm]; simp)]
     simp only
     rw [nf]
     obtain ⟨h2, h3', c2, c3, H3⟩ := go H I
     exact ⟨h3', cO (w46_13 (k0 := e7) (k1 := e8) (k2 := e9) (k3 := l4) (k4 := rfl) (k5 := c2) (k6 := c3)), H3⟩
   ·have e9 := eqZ_f (b := Int.ofNat 9) h9
    rw [plain_ok (fun hh => hh.1.elim h7 fun x => x.elim h8 h9)]
    simp only
    rw [nf]
    obtain ⟨h2, h3', c2, c3, H3⟩ := go H I
    exact ⟨h3', cO (w46_17 (k0 := e7) (k1 := e8) (k2 := e9) (k3 := c2) (k4 := c3)), H3⟩
end
end Go.Proofs.YtoblgjmllmomhaaGreatDoor
namespace Go.Proofs.YtoblgjmllmomhaaGreatDoor
set_option maxRecDepth 100000
open Go Go.Proofs.Am
def opP (x : LV) : Option OpR :=
 match x with
 | .tup [.agg [.int .i64 ob, .str nm, .int .i64 k, .imm tk, .int .i64 gv, .int .i64 bz, .bool sg], .nilI] => (intsX tk).map fun ts => ⟨ob, nm, k, ts, gv, bz, sg⟩
 | _ => none
def opI (z : Int) : Option OpR := opP (lookV z)
theorem opP_some {x : LV} {r : OpR} (h : opP x = some r) : x = .tup [opA r.byte r.nm r.kind (encN r.takes) r.gives r.bytes r.sg, .nilI] := by
 unfold opP at h
 split at h
 ·rename_i ob nm k tk gv bz sg
  obtain ⟨ts, ht, rfl⟩ := Option.map_eq_some_iff.1 h
  rw [intsX_eq _ _ ht]
  rfl
 ·cases h
def namesK : List (Nat × Nat × List UInt8) := [(2, 2, [98, 108, 111, 99, 107]), (2, 3, [108, 111, 111, 112]), (2, 4, [105, 102]),
 (3, 12, [98, 114]), (3, 13, [98, 114, 95, 105, 102]), (3, 14, [98, 114, 95, 116, 97, 98, 108, 101]), (3, 15, [114, 101, 116, 117, 114, 110]),
 (4, 16, [99, 97, 108, 108]), (4, 17, [99, 97, 108, 108, 95, 105, 110, 100, 105, 114, 101, 99, 116]),
 (5, 26, [100, 114, 111, 112]), (5, 27, [115, 101, 108, 101, 99, 116]),
 (6, 32, [108, 111, 99, 97, 108, 46, 103, 101, 116]), (6, 33, [108, 111, 99, 97, 108, 46, 115, 101, 116]), (6, 34, [108, 111, 99, 97, 108, 46, 116, 101, 101]), (6, 35, [103, 108, 111, 98, 97, 108, 46, 103, 101, 116]), (6, 36, [103, 108, 111, 98, 97, 108, 46, 115, 101, 116])]
def eqL : List UInt8 -> List UInt8 -> Bool
 | [], [] => true
 | x :: xs, y :: ys => Nat.beq x.toNat y.toNat && eqL xs ys
 | _, _ => false
theorem eqL_eq : ∀ {xs ys : List UInt8}, eqL xs ys = true -> xs = ys
 | [], [], _ => rfl
 | x :: xs, y :: ys, h => by
  simp only [eqL, Bool.and_eq_true] at h
  have h1 := Nat.eq_of_beq_eq_true h.1
  rw [UInt8.toNat_inj.1 h1, eqL_eq h.2]
 | [], _ :: _, h => by cases h
 | _ :: _, [], h => by cases h
def chkK (n : Nat) (r : OpR) : Bool :=
 eqZ r.byte (Int.ofNat n) && Nat.ble r.takes.length 3 && ((r.nm.toList == (sb [98, 114, 95, 116, 97, 98, 108, 101]).toList) == Nat.beq n 14) && ((r.nm.toList == (sb [114, 101, 116, 117, 114, 110]).toList) == Nat.beq n 15) &&
 (bif leZ 2 r.kind && leZ r.kind 6 then namesK.any fun e => eqZ r.kind (Int.ofNat e.1) && Nat.beq e.2.1 n && eqL r.nm.data.toList e.2.2
  else (r.nm.toList == (sb [117, 110, 114, 101, 97, 99, 104, 97, 98, 108, 101]).toList) == Nat.beq n 0)
def isNo : LV -> Bool
 | .tup [.agg [.int .i64 _, .str _, .int .i64 _, .imm _, .int .i64 _, .int .i64 _, .bool _], .ifc 56 (.int .i64 _)] => true
 | _ => false
def chk1 (n : Nat) (x : LV) : Bool :=
 match opP x with
 | some r => chkK n r
 | none => isNo x
def chkL : Nat -> List LV -> Bool
 | _, [] => true
 | n, x :: xs => chk1 n x && chkL (n + 1) xs
theorem chk_all : chkL 0 lookL = true := by kernel_rfl
theorem chkL_get : ∀ (l : List LV) (n k : Nat) (x : LV), chkL n l = true -> l[k]? = some x -> chk1 (n + k) x = true
 | [], n, k, x, _, h => by simp at h
 | y :: l, n, 0, x, h, hx => by
  simp only [chkL, Bool.and_eq_true] at h
  simp only [List.getElem?_cons_zero, Option.some.injEq] at hx
  subst hx
  exact h.1
 | y :: l, n, k + 1, x, h, hx => by
  simp only [chkL, Bool.and_eq_true] at h
  have := chkL_get l (n + 1) k x h.2 (by simpa using hx)
  rwa [show n + (k + 1) = n + 1 + k by omega]
theorem none_no : opP noneL = none := by kernel_rfl
theorem look_cases (z : Int) : (∃ (n : Nat) (r : OpR), z = n /\ opI z = some r /\ chkK n r = true) ∨ (opI z = none /\ isNo (lookV z) = true) := by
 have hno : isNo noneL = true := by kernel_rfl
 have hn := none_no
 unfold opI lookV
 cases z with
 | negSucc k => exact .inr ⟨hn, hno⟩
 | ofNat n =>
  cases hx : lookL[n]? with
  | none => simp only [hx, Option.getD_none]; exact .inr ⟨hn, hno⟩
  | some x =>
   have h1 := chkL_get lookL 0 n x chk_all hx
   rw [Nat.zero_add] at h1
   simp only [hx, Option.getD_some]
   unfold chk1 at h1
   cases hp : opP x with
   | none => rw [hp] at h1; exact .inr ⟨rfl, h1⟩
   | some r => rw [hp] at h1; exact .inl ⟨n, r, rfl, rfl, h1⟩
theorem isNo_eq {x : LV} (h : isNo x = true) : ∃ ob nm k tk gv bz sg c, x = .tup [opA ob nm k tk gv bz sg, .ifc 56 (.int .i64 c)] := by
 unfold isNo at h
 split at h
 ·exact ⟨_, _, _, _, _, _, _, _, rfl⟩
 ·cases h
theorem sb_eq {nm : ByteArray} {l : List UInt8} (h : nm.data.toList = l) : nm = sb l := by
 subst h
 cases nm
 rfl
structure OpFacts (z : Int) (r : OpR) : Prop where
 takes : r.takes.length <= 3
 byte : r.byte = z
 bt : (r.nm.toList == (sb [98, 114, 95, 116, 97, 98, 108, 101]).toList) = decide (z = 14)
 rt : (r.nm.toList == (sb [114, 101, 116, 117, 114, 110]).toList) = decide (z = 15)
 k2 : r.kind = 2 -> (z = 2 /\ r.nm = sb [98, 108, 111, 99, 107]) ∨ (z = 3 /\ r.nm = sb [108, 111, 111, 112]) ∨ (z = 4 /\ r.nm = sb [105, 102])
 k3 : r.kind = 3 -> (z = 12 /\ r.nm = sb [98, 114]) ∨ (z = 13 /\ r.nm = sb [98, 114, 95, 105, 102]) ∨ (z = 14 /\ r.nm = sb [98, 114, 95, 116, 97, 98, 108, 101]) ∨ (z = 15 /\ r.nm = sb [114, 101, 116, 117, 114, 110])
 k4 : r.kind = 4 -> (z = 16 /\ r.nm = sb [99, 97, 108, 108]) ∨ (z = 17 /\ r.nm = sb [99, 97, 108, 108, 95, 105, 110, 100, 105, 114, 101, 99, 116])
 k5 : r.kind = 5 -> (z = 26 /\ r.nm = sb [100, 114, 111, 112]) ∨ (z = 27 /\ r.nm = sb [115, 101, 108, 101, 99, 116])
 k6 : r.kind = 6 -> (z = 32 /\ r.nm = sb [108, 111, 99, 97, 108, 46, 103, 101, 116]) ∨ (z = 33 /\ r.nm = sb [108, 111, 99, 97, 108, 46, 115, 101, 116]) ∨ (z = 34 /\ r.nm = sb [108, 111, 99, 97, 108, 46, 116, 101, 101]) ∨ (z = 35 /\ r.nm = sb [103, 108, 111, 98, 97, 108, 46, 103, 101, 116]) ∨ (z = 36 /\ r.nm = sb [103, 108, 111, 98, 97, 108, 46, 115, 101, 116])
 k0 : ¬(2 <= r.kind /\ r.kind <= 6) -> (r.nm.toList == (sb [117, 110, 114, 101, 97, 99, 104, 97, 98, 108, 101]).toList) = decide (z = 0)
theorem namesK_get {n : Nat} {r : OpR} (h : (namesK.any fun e => eqZ r.kind (Int.ofNat e.1) && Nat.beq e.2.1 n && eqL r.nm.data.toList e.2.2) = true) : ∃ e, e ∈ namesK /\ r.kind = (e.1 : Int) /\ e.2.1 = n /\ r.nm = sb e.2.2 := by
 obtain ⟨e, he, h⟩ := List.any_eq_true.1 h
 rw [Bool.and_eq_true, Bool.and_eq_true, eqZ_eq, beq_iff_eq] at h
 exact ⟨e, he, h.1.1, Nat.eq_of_beq_eq_true h.1.2, sb_eq (eqL_eq h.2)⟩
theorem op_facts {z : Int} {r : OpR} (h : opI z = some r) : OpFacts z r := by
 rcases look_cases z with ⟨n, r', hz, hr, hc⟩ | ⟨hn, _⟩
 ·rw [h] at hr
  cases hr
  unfold chkK at hc
  simp only [Bool.and_eq_true] at hc
  obtain ⟨⟨⟨⟨hb, ht⟩, hbt⟩, hrt⟩, hk⟩ := hc
  have beqd : ∀ (k : Nat), Nat.beq n k = decide (z = (k : Int)) := fun k => by
   rw [hz]
   cases h1 : Nat.beq n k with
   | true => rw [Nat.eq_of_beq_eq_true h1]; simp
   | false => exact (decide_eq_false (fun e => by have := Int.ofNat.inj e; subst this; rw [Nat.beq_refl] at h1; cases h1)).symm
  rw [beq_iff_eq, beqd] at hbt hrt
  have hbyte : r.byte = z := by rw [hz]; exact (eqZ_i hb).2 rfl
  have htk := Nat.le_of_ble_eq_true ht
  by_cases hin : 2 <= r.kind /\ r.kind <= 6
  ·have e1 : (leZ 2 r.kind && leZ r.kind 6) = true := by rw [leZ_t hin.1, leZ_t hin.2]; rfl
   rw [e1, cond_true] at hk
   obtain ⟨⟨k, q, nm⟩, he, h1, h2, h3⟩ := namesK_get hk
   simp only at h1 h2 h3
   simp only [namesK, List.mem_cons, Prod.mk.injEq, List.not_mem_nil, or_false] at he
   subst h2
   have key : ∀ (p : Nat), r.kind = (p : Int) -> k = p := fun p hp => by rw [hp] at h1; omega
   refine ⟨htk, hbyte, hbt, hrt, fun hh => ?_, fun hh => ?_, fun hh => ?_, fun hh => ?_, fun hh => ?_, fun hh => absurd hin hh⟩
   ·have := key 2 hh
    subst this
    rcases he with ⟨x, rfl, rfl⟩ | ⟨x, rfl, rfl⟩ | ⟨x, rfl, rfl⟩ | ⟨x, rfl, rfl⟩ | ⟨x, rfl, rfl⟩ | ⟨x, rfl, rfl⟩ | ⟨x, rfl, rfl⟩ | ⟨x, rfl, rfl⟩ | ⟨x, rfl, rfl⟩ | ⟨x, rfl, rfl⟩ | ⟨x, rfl, rfl⟩ | ⟨x, rfl, rfl⟩ | ⟨x, rfl, rfl⟩ | ⟨x, rfl, rfl⟩ | ⟨x, rfl, rfl⟩ | ⟨x, rfl, rfl⟩ <;> first | (exfalso; omega) | (simp [h3, hz])
   ·have := key 3 hh
    subst this
    rcases he with ⟨x, rfl, rfl⟩ | ⟨x, rfl, rfl⟩ | ⟨x, rfl, rfl⟩ | ⟨x, rfl, rfl⟩ | ⟨x, rfl, rfl⟩ | ⟨x, rfl, rfl⟩ | ⟨x, rfl, rfl⟩ | ⟨x, rfl, rfl⟩ | ⟨x, rfl, rfl⟩ | ⟨x, rfl, rfl⟩ | ⟨x, rfl, rfl⟩ | ⟨x, rfl, rfl⟩ | ⟨x, rfl, rfl⟩ | ⟨x, rfl, rfl⟩ | ⟨x, rfl, rfl⟩ | ⟨x, rfl, rfl⟩ <;> first | (exfalso; omega) | (simp [h3, hz])
   ·have := key 4 hh
    subst this
    rcases he with ⟨x, rfl, rfl⟩ | ⟨x, rfl, rfl⟩ | ⟨x, rfl, rfl⟩ | ⟨x, rfl, rfl⟩ | ⟨x, rfl, rfl⟩ | ⟨x, rfl, rfl⟩ | ⟨x, rfl, rfl⟩ | ⟨x, rfl, rfl⟩ | ⟨x, rfl, rfl⟩ | ⟨x, rfl, rfl⟩ | ⟨x, rfl, rfl⟩ | ⟨x, rfl, rfl⟩ | ⟨x, rfl, rfl⟩ | ⟨x, rfl, rfl⟩ | ⟨x, rfl, rfl⟩ | ⟨x, rfl, rfl⟩ <;> first | (exfalso; omega) | (simp [h3, hz])
   ·have := key 5 hh
    subst this
    rcases he with ⟨x, rfl, rfl⟩ | ⟨x, rfl, rfl⟩ | ⟨x, rfl, rfl⟩ | ⟨x, rfl, rfl⟩ | ⟨x, rfl, rfl⟩ | ⟨x, rfl, rfl⟩ | ⟨x, rfl, rfl⟩ | ⟨x, rfl, rfl⟩ | ⟨x, rfl, rfl⟩ | ⟨x, rfl, rfl⟩ | ⟨x, rfl, rfl⟩ | ⟨x, rfl, rfl⟩ | ⟨x, rfl, rfl⟩ | ⟨x, rfl, rfl⟩ | ⟨x, rfl, rfl⟩ | ⟨x, rfl, rfl⟩ <;> first | (exfalso; omega) | (simp [h3, hz])
   ·have := key 6 hh
    subst this
    rcases he with ⟨x, rfl, rfl⟩ | ⟨x, rfl, rfl⟩ | ⟨x, rfl, rfl⟩ | ⟨x, rfl, rfl⟩ | ⟨x, rfl, rfl⟩ | ⟨x, rfl, rfl⟩ | ⟨x, rfl, rfl⟩ | ⟨x, rfl, rfl⟩ | ⟨x, rfl, rfl⟩ | ⟨x, rfl, rfl⟩ | ⟨x, rfl, rfl⟩ | ⟨x, rfl, rfl⟩ | ⟨x, rfl, rfl⟩ | ⟨x, rfl, rfl⟩ | ⟨x, rfl, rfl⟩ | ⟨x, rfl, rfl⟩ <;> first | (exfalso; omega) | (simp [h3, hz])
  ·have e1 : (leZ 2 r.kind && leZ r.kind 6) = false := by
    cases h1 : leZ 2 r.kind with
    | false => rfl
    | true =>
     rw [Bool.true_and]
     exact leZ_f (by have := (leZ_i h1).2 rfl; omega)
   rw [e1, cond_false, beq_iff_eq] at hk
   refine ⟨htk, hbyte, hbt, hrt, fun hh => absurd ⟨by omega, by omega⟩ hin, fun hh => absurd ⟨by omega, by omega⟩ hin, fun hh => absurd ⟨by omega, by omega⟩ hin, fun hh => absurd ⟨by omega, by omega⟩ hin, fun hh => absurd ⟨by omega, by omega⟩ hin, fun _ => ?_⟩
   rw [hk, hz]
   cases n with
   | zero => rfl
   | succ k => exact (decide_eq_false (by omega)).symm
 ·rw [h] at hn; cases hn
end Go.Proofs.YtoblgjmllmomhaaGreatDoor
