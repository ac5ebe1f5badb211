/-
  The looker: jumps, calls, what takes any type, variables, plain operations.
-/
import Derived.Test.YtjelldpjopdimaaDoorAmS13j
import Derived.Test.YtjelldpjopdimaaDoorAmS13wE
import Derived.Test.YtjelldpjopdimaaDoorAmS13wF
import Derived.Test.YtjelldpjopdimaaDoorAmS13wG

namespace Go.Proofs.YtjelldpjopdimaaDoor
open Go Go.Proofs.Am

abbrev opA (ob : Int) (nm : ByteArray) (ok : Int) (tk : List (List AV)) (gv bz : Int) (sg : Bool) : AV := .agg [.int .i64 ob, .str nm, .int .i64 ok, .imm tk, .int .i64 gv, .int .i64 bz, .bool sg]
abbrev inA (o a b v t : Int) (l bd el : List (List AV)) (q : Bool) : AV := .agg [.int .i64 o, .int .i64 a, .int .i64 b, .int .u64 v, .int .i64 t, .imm l, .imm bd, .imm el, .bool q]

section
variable {m : Int} {s : Scp} {L : Nat} {h : Heap} {σ : LS} {N : Nat} {ob ok gv bz : Int} {tk : List (List AV)} {sg : Bool} {o a b v t : Int} {l : List Int} {ll bd el : List (List AV)} {q : Bool}
theorem Rel.ld (H : Rel s L h σ) {k : Nat} {x : AV} (hk : ∀ pr pb, (lkC s pr pb σ.err)[k]? = some (.v x)) : ldP h (.ptr L k) 1 false = some x := by
  obtain ⟨r, b, pr, pb, H⟩ := H
  exact H.ld (hk pr pb)
theorem ret_R (H : Rel s L h σ) (I : Inv N σ) (hN : N < 2 ^ 41) : ∃ h', callF (cxZ m) (blk (cxZ m)) 41 [.v (.ptr L 0), .v (opA ob (sb [114, 101, 116, 117, 114, 110]) ok tk gv bz sg), .v (inA o a b v t ll bd el q)] h = some (.tup [], h') ∧ Rel s L h' (σ.jump s 15 a l) := by
  have hld : ldP h (.ptr L 6) 1 false = some (.int .i64 s.re) := H.ld fun _ _ => rfl
  have := rsl_len s.re
  obtain ⟨h1, c1, H1, _⟩ := all_R (m := m) H I hN (ts := rsl s.re) (by omega)
  obtain ⟨h2, c2, H2⟩ := stop_R (m := m) H1 (I.all _) hN
  exact ⟨h2, callF_of rfl rfl (by kernel_rfl) (w41r_0 (k0 := hld) (k1 := list_Z _ _) (k2 := c1) (k3 := c2)), H2⟩
theorem brt_R (H : Rel s L h σ) (I : Inv N σ) (hN : N < 2 ^ 41) (h0 : ∀ n, n ∈ l → 0 ≤ n) (hl : l.length < 2 ^ 40) (hne : l ≠ []) : ∃ h', callF (cxZ m) (blk (cxZ m)) 41 [.v (.ptr L 0), .v (opA ob (sb [98, 114, 95, 116, 97, 98, 108, 101]) ok tk gv bz sg), .v (inA o a b v t (encN l) bd el q)] h = some (.tup [], h') ∧ Rel s L h' (σ.jump s 14 a l) := by
  obtain ⟨h1, c1, H1⟩ := table_R (m := m) (o := o) (a := a) (b' := b) (v := v) (t := t) (bd := bd) (el := el) (q := q) h0 hl hne hN I H
  exact ⟨h1, callF_of rfl rfl (by kernel_rfl) (w41t_0 (k0 := c1)), H1⟩
theorem bri_R (H : Rel s L h σ) (I : Inv N σ) (hN : N + 1 < 2 ^ 41) (h0 : 0 ≤ a) : ∃ h', callF (cxZ m) (blk (cxZ m)) 41 [.v (.ptr L 0), .v (opA ob (sb [98, 114, 95, 105, 102]) ok tk gv bz sg), .v (inA o a b v t ll bd el q)] h = some (.tup [], h') ∧ Rel s L h' (σ.jump s 13 a l) := by
  have hj : σ.jump s 13 a l = match σ.lbl a with | none => σ.fail 5 | some t => ((σ.take 1).1.all t).give t := rfl
  rw [hj]
  rcases lbl_R (m := m) H I (by omega) h0 with ⟨x, hx, hc⟩ | ⟨hx, h', hc, H'⟩
  · rw [hx]
    have := I.lbl hx
    obtain ⟨h1, c1, H1, _⟩ := take_R (m := m) H I (by omega) 1
    obtain ⟨h2, c2, H2, _⟩ := all_R (m := m) H1 (I.take 1) (by omega) (ts := x) (by omega)
    obtain ⟨h3, c3, H3⟩ := give_R (m := m) H2 ((I.take 1).all x) (ts := x) (by omega)
    exact ⟨h3, callF_of rfl rfl (by kernel_rfl) (w41i_1 (k0 := hc) (k1 := rfl) (k2 := c1) (k3 := c2) (k4 := c3)), H3⟩
  · rw [hx]
    exact ⟨h', callF_of rfl rfl (by kernel_rfl) (w41i_0 (k0 := hc) (k1 := rfl)), H'⟩
theorem br_R (H : Rel s L h σ) (I : Inv N σ) (hN : N < 2 ^ 41) (h0 : 0 ≤ a) : ∃ h', callF (cxZ m) (blk (cxZ m)) 41 [.v (.ptr L 0), .v (opA ob (sb [98, 114]) ok tk gv bz sg), .v (inA o a b v t ll bd el q)] h = some (.tup [], h') ∧ Rel s L h' (σ.jump s 12 a l) := by
  have hj : σ.jump s 12 a l = match σ.lbl a with | none => σ.fail 5 | some t => (σ.all t).stop := rfl
  rw [hj]
  rcases lbl_R (m := m) H I hN h0 with ⟨x, hx, hc⟩ | ⟨hx, h', hc, H'⟩
  · rw [hx]
    have := I.lbl hx
    obtain ⟨h2, c2, H2, _⟩ := all_R (m := m) H I (by omega) (ts := x) (by omega)
    obtain ⟨h3, c3, H3⟩ := stop_R (m := m) H2 (I.all x) hN
    exact ⟨h3, callF_of rfl rfl (by kernel_rfl) (w41b_1 (k0 := hc) (k1 := rfl) (k2 := c2) (k3 := c3)), H3⟩
  · rw [hx]
    exact ⟨h', callF_of rfl rfl (by kernel_rfl) (w41b_0 (k0 := hc) (k1 := rfl)), H'⟩
theorem drop_R (H : Rel s L h σ) (I : Inv N σ) (hN : N < 2 ^ 41) : ∃ h', callF (cxZ m) (blk (cxZ m)) 43 [.v (.ptr L 0), .v (opA ob (sb [100, 114, 111, 112]) ok tk gv bz sg)] h = some (.tup [], h') ∧ Rel s L h' (σ.any 26) := by
  obtain ⟨h1, c1, H1, _⟩ := take_R (m := m) H I hN (Int.negSucc 0)
  exact ⟨h1, callF_of rfl rfl (by kernel_rfl) (w43d_0 (k0 := c1)), H1⟩
theorem sel_R (H : Rel s L h σ) (I : Inv N σ) (hN : N + 1 < 2 ^ 41) : ∃ h', callF (cxZ m) (blk (cxZ m)) 43 [.v (.ptr L 0), .v (opA ob (sb [115, 101, 108, 101, 99, 116]) ok tk gv bz sg)] h = some (.tup [], h') ∧ Rel s L h' (σ.any 27) := by
  obtain ⟨h1, c1, H1, _⟩ := take_R (m := m) H I (by omega) 1
  obtain ⟨h2, c2, H2, _⟩ := take_R (m := m) H1 (I.take 1) (by omega) (Int.negSucc 0)
  obtain ⟨h3, c3, H3, _⟩ := take_R (m := m) H2 ((I.take 1).take (Int.negSucc 0)) (by omega) (((σ.take 1).1.take (Int.negSucc 0)).2)
  obtain ⟨h4, c4, H4⟩ := give_R (m := m) H3 (((I.take 1).take (Int.negSucc 0)).take _) (ts := [(((σ.take 1).1.take (Int.negSucc 0)).1.take (((σ.take 1).1.take (Int.negSucc 0)).2)).2]) (by simpa using hN)
  exact ⟨h4, callF_of rfl rfl (by kernel_rfl) (w43s_0 (k0 := c1) (k1 := c2) (k2 := c3) (k3 := c4)), H4⟩
/-! ### Variables -/
theorem ln5 (H : Rel s L h σ) : ldP h (.ptr L 5) 1 false = some (.imm (encN s.lo)) := H.ld fun _ _ => rfl
theorem ln2 (H : Rel s L h σ) : ldP h (.ptr L 2) 1 false = some (.imm (s.gl.map Glo.enc)) := H.ld fun _ _ => rfl
theorem lnI (l : List Int) : lnS (.imm (encN l)) = some (l.length : Int) := by show some _ = some _; rw [encN_len]
theorem lnM {A : Type} (f : A → List AV) (l : List A) : lnS (.imm (l.map f)) = some (l.length : Int) := by show some _ = some _; rw [List.length_map]
theorem var_lo {o : Int} (ho : o < 35) : σ.var s o a = if a < s.lo.length then match s.lo[a.toNat]? with | none => σ | some t => σ.varT o t true else σ.fail 5 := by
  exact if_pos ho
theorem var_gl {o : Int} (ho : ¬ o < 35) : σ.var s o a = if a < s.gl.length then match s.gl[a.toNat]? with | none => σ | some g => σ.varT o g.t g.mu else σ.fail 5 := by
  exact if_neg ho
theorem lget_R (H : Rel s L h σ) (I : Inv N σ) (hN : N + 1 < 2 ^ 41) (h0 : 0 ≤ a) : ∃ h', callF (cxZ m) (blk (cxZ m)) 44 [.v (.ptr L 0), .v (opA 32 (sb [108, 111, 99, 97, 108, 46, 103, 101, 116]) ok tk gv bz sg), .v (inA o a b v t ll bd el q)] h = some (.tup [], h') ∧ Rel s L h' (σ.var s 32 a) := by
  rw [var_lo (by decide)]
  by_cases ha : a < s.lo.length
  · have hg : s.lo[a.toNat]? = some s.lo[a.toNat] := List.getElem?_eq_getElem (by omega)
    rw [if_pos ha, hg]
    obtain ⟨h1, c1, H1⟩ := give_R (m := m) H I (ts := [s.lo[a.toNat]]) (by simpa using hN)
    exact ⟨h1, callF_of rfl rfl (by kernel_rfl) (w44_32_0 (k0 := ln5 H) (k1 := lnI _) (k2 := ltZ_t ha) (k3 := ln5 H) (k4 := ix_mapZ (f := fun x => [AV.int .i64 x]) h0 hg rfl) (k5 := c1)), H1⟩
  · rw [if_neg ha]
    obtain ⟨h1, c1, H1, _⟩ := fail_R (m := m) H 5
    exact ⟨h1, callF_of rfl rfl (by kernel_rfl) (w44_32_1 (k0 := ln5 H) (k1 := lnI _) (k2 := ltZ_f (by omega)) (k3 := c1)), H1⟩
theorem lset_R (H : Rel s L h σ) (I : Inv N σ) (hN : N < 2 ^ 41) (h0 : 0 ≤ a) : ∃ h', callF (cxZ m) (blk (cxZ m)) 44 [.v (.ptr L 0), .v (opA 33 (sb [108, 111, 99, 97, 108, 46, 115, 101, 116]) ok tk gv bz sg), .v (inA o a b v t ll bd el q)] h = some (.tup [], h') ∧ Rel s L h' (σ.var s 33 a) := by
  rw [var_lo (by decide)]
  by_cases ha : a < s.lo.length
  · have hg : s.lo[a.toNat]? = some s.lo[a.toNat] := List.getElem?_eq_getElem (by omega)
    rw [if_pos ha, hg]
    obtain ⟨h1, c1, H1, _⟩ := take_R (m := m) H I hN s.lo[a.toNat]
    exact ⟨h1, callF_of rfl rfl (by kernel_rfl) (w44_33_0 (k0 := ln5 H) (k1 := lnI _) (k2 := ltZ_t ha) (k3 := ln5 H) (k4 := ix_mapZ (f := fun x => [AV.int .i64 x]) h0 hg rfl) (k5 := c1)), H1⟩
  · rw [if_neg ha]
    obtain ⟨h1, c1, H1, _⟩ := fail_R (m := m) H 5
    exact ⟨h1, callF_of rfl rfl (by kernel_rfl) (w44_33_1 (k0 := ln5 H) (k1 := lnI _) (k2 := ltZ_f (by omega)) (k3 := c1)), H1⟩
theorem ltee_R (H : Rel s L h σ) (I : Inv N σ) (hN : N + 1 < 2 ^ 41) (h0 : 0 ≤ a) : ∃ h', callF (cxZ m) (blk (cxZ m)) 44 [.v (.ptr L 0), .v (opA 34 (sb [108, 111, 99, 97, 108, 46, 116, 101, 101]) ok tk gv bz sg), .v (inA o a b v t ll bd el q)] h = some (.tup [], h') ∧ Rel s L h' (σ.var s 34 a) := by
  rw [var_lo (by decide)]
  by_cases ha : a < s.lo.length
  · have hg : s.lo[a.toNat]? = some s.lo[a.toNat] := List.getElem?_eq_getElem (by omega)
    rw [if_pos ha, hg]
    obtain ⟨h1, c1, H1, _⟩ := take_R (m := m) H I (by omega) s.lo[a.toNat]
    obtain ⟨h2, c2, H2⟩ := give_R (m := m) H1 (I.take _) (ts := [s.lo[a.toNat]]) (by simpa using hN)
    exact ⟨h2, callF_of rfl rfl (by kernel_rfl) (w44_34_0 (k0 := ln5 H) (k1 := lnI _) (k2 := ltZ_t ha) (k3 := ln5 H) (k4 := ix_mapZ (f := fun x => [AV.int .i64 x]) h0 hg rfl) (k5 := c1) (k6 := c2)), H2⟩
  · rw [if_neg ha]
    obtain ⟨h1, c1, H1, _⟩ := fail_R (m := m) H 5
    exact ⟨h1, callF_of rfl rfl (by kernel_rfl) (w44_34_1 (k0 := ln5 H) (k1 := lnI _) (k2 := ltZ_f (by omega)) (k3 := c1)), H1⟩
theorem gget_R (H : Rel s L h σ) (I : Inv N σ) (hN : N + 1 < 2 ^ 41) (h0 : 0 ≤ a) : ∃ h', callF (cxZ m) (blk (cxZ m)) 44 [.v (.ptr L 0), .v (opA 35 (sb [103, 108, 111, 98, 97, 108, 46, 103, 101, 116]) ok tk gv bz sg), .v (inA o a b v t ll bd el q)] h = some (.tup [], h') ∧ Rel s L h' (σ.var s 35 a) := by
  rw [var_gl (by decide)]
  by_cases ha : a < s.gl.length
  · have hg : s.gl[a.toNat]? = some s.gl[a.toNat] := List.getElem?_eq_getElem (by omega)
    rw [if_pos ha, hg]
    have hix := ix_mapZ (f := Glo.enc) h0 hg rfl
    generalize s.gl[a.toNat] = g at hix ⊢
    obtain ⟨gt, mu, ⟨g1, g2, g3, g4, g5, g6, g7, g8, g9⟩⟩ := g
    obtain ⟨h1, c1, H1⟩ := give_R (m := m) H I (ts := [gt]) (by simpa using hN)
    exact ⟨h1, callF_of rfl rfl (by kernel_rfl) (w44_35_0 (k0 := ln2 H) (k1 := lnM _ _) (k2 := ltZ_t ha) (k3 := ln2 H) (k4 := hix) (k5 := ln2 H) (k6 := hix) (k7 := c1)), H1⟩
  · rw [if_neg ha]
    obtain ⟨h1, c1, H1, _⟩ := fail_R (m := m) H 5
    exact ⟨h1, callF_of rfl rfl (by kernel_rfl) (w44_35_1 (k0 := ln2 H) (k1 := lnM _ _) (k2 := ltZ_f (by omega)) (k3 := c1)), H1⟩
theorem gset_R (H : Rel s L h σ) (I : Inv N σ) (hN : N < 2 ^ 41) (h0 : 0 ≤ a) : ∃ h', callF (cxZ m) (blk (cxZ m)) 44 [.v (.ptr L 0), .v (opA 36 (sb [103, 108, 111, 98, 97, 108, 46, 115, 101, 116]) ok tk gv bz sg), .v (inA o a b v t ll bd el q)] h = some (.tup [], h') ∧ Rel s L h' (σ.var s 36 a) := by
  rw [var_gl (by decide)]
  by_cases ha : a < s.gl.length
  · have hg : s.gl[a.toNat]? = some s.gl[a.toNat] := List.getElem?_eq_getElem (by omega)
    rw [if_pos ha, hg]
    have hix := ix_mapZ (f := Glo.enc) h0 hg rfl
    generalize s.gl[a.toNat] = g at hix ⊢
    obtain ⟨gt, mu, ⟨g1, g2, g3, g4, g5, g6, g7, g8, g9⟩⟩ := g
    cases mu with
    | true =>
      obtain ⟨h1, c1, H1, _⟩ := take_R (m := m) H I hN gt
      exact ⟨h1, callF_of rfl rfl (by kernel_rfl) (w44_36_1 (k0 := ln2 H) (k1 := lnM _ _) (k2 := ltZ_t ha) (k3 := ln2 H) (k4 := hix) (k5 := ln2 H) (k6 := hix) (k7 := rfl) (k8 := c1)), H1⟩
    | false =>
      obtain ⟨h1, c1, H1, _⟩ := fail_R (m := m) H 4
      obtain ⟨h2, c2, H2, _⟩ := take_R (m := m) H1 (I.fail 4) hN gt
      exact ⟨h2, callF_of rfl rfl (by kernel_rfl) (w44_36_0 (k0 := ln2 H) (k1 := lnM _ _) (k2 := ltZ_t ha) (k3 := ln2 H) (k4 := hix) (k5 := ln2 H) (k6 := hix) (k7 := rfl) (k8 := c1) (k9 := c2)), H2⟩
  · rw [if_neg ha]
    obtain ⟨h1, c1, H1, _⟩ := fail_R (m := m) H 5
    exact ⟨h1, callF_of rfl rfl (by kernel_rfl) (w44_36_2 (k0 := ln2 H) (k1 := lnM _ _) (k2 := ltZ_f (by omega)) (k3 := c1)), H1⟩
end
end Go.Proofs.YtjelldpjopdimaaDoor
