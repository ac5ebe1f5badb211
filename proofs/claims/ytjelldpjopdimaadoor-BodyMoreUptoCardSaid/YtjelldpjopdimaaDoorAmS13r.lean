/-
  May: code and scopes (lists asked one by one: printed by a program of this repo).
-/
import Derived.Test.YtjelldpjopdimaaDoorAmS13q
import Derived.Test.YtjelldpjopdimaaDoorAmS13wI
import Derived.Test.YtjelldpjopdimaaDoorAmS13wJ

namespace Go.Proofs.YtjelldpjopdimaaDoor
open Go Go.Proofs.Am

section
variable {m : Int} {h : Heap}

theorem has38_loop {xs : List Int} {fv : AV} {F : Int → Bool} (hf : ∀ x, x ∈ xs → ∀ h, callV (cxZ m) (blk (cxZ m)) fv [.v (.int .i64 x)] h = some (.v (.bool (F x)), h)) (hl : xs.length < 2 ^ 62) : ∀ (k i : Nat), i + k = xs.length →
    ∃ z : Int, blk (cxZ m) 38 (at_ Tryd.prog 38 2) [.v (.imm (xs.map (fun x => [AV.int .i64 x]))), .v fv, .v (.int .i64 (Int.ofNat xs.length)), .v (.int .i64 (Int.ofNat i))] h = some (.v (.int .i64 z), h) ∧ leZ (Int.ofNat 0) z = (xs.drop i).any F
  | 0, i, hi => by
    rw [List.drop_of_length_le (by omega)]
    exact ⟨_, w38_2_2 (k0 := ltZ_f (by rw [ofN, ofN]; omega)), rfl⟩
  | k + 1, i, hi => by
    have h1 : xs[i]? = some xs[i] := List.getElem?_eq_getElem (by omega)
    have e1 : ixA (.imm (xs.map (fun x => [AV.int .i64 x]))) (Int.ofNat i) 1 = some ((fun x => [AV.int .i64 x]) xs[i]) := ix_map (f := (fun x => [AV.int .i64 x])) h1 rfl
    have hv := hf xs[i] (List.getElem_mem _) h
    rw [drop_get h1, List.any_cons]
    obtain ⟨z, hz, he⟩ := has38_loop hf hl k (i + 1) (by omega)
    generalize xs[i] = x at e1 hv ⊢
    cases hq : F x with
    | true =>
      rw [hq] at hv
      exact ⟨_, w38_2_0 (k0 := ltZ_t (by rw [ofN, ofN]; omega)) (k1 := e1) (k2 := hv) (k3 := rfl), by rw [Bool.true_or]; exact leZ_t (by rw [ofN, ofN]; omega)⟩
    | false =>
      rw [hq] at hv
      exact ⟨z, w38_2_1 (k0 := ltZ_t (by rw [ofN, ofN]; omega)) (k1 := e1) (k2 := hv) (k3 := rfl) (k4 := by rw [wrapS (by omega)]; exact hz), by rw [Bool.false_or]; exact he⟩
theorem has38 {xs : List Int} {fv : AV} {F : Int → Bool} (hf : ∀ x, x ∈ xs → ∀ h, callV (cxZ m) (blk (cxZ m)) fv [.v (.int .i64 x)] h = some (.v (.bool (F x)), h)) (hl : xs.length < 2 ^ 62) :
    callF (cxZ m) (blk (cxZ m)) 22 [.v (.imm (xs.map (fun x => [AV.int .i64 x]))), .v fv] h = some (.v (.bool (xs.any F)), h) := by
  obtain ⟨z, hz, he⟩ := has38_loop (m := m) (h := h) hf hl xs.length 0 (by omega)
  rw [List.drop_zero] at he
  rw [← he]
  refine callF_of rfl rfl (by kernel_rfl) (w22_0 (k0 := callF_of rfl rfl (by kernel_rfl) (w38_0 (k0 := ?_))))
  rw [List.length_map]
  exact hz

theorem has37_loop {xs : List FTy} {fv : AV} {F : FTy → Bool} (hf : ∀ x, x ∈ xs → ∀ h, callV (cxZ m) (blk (cxZ m)) fv [.v (.agg x.enc)] h = some (.v (.bool (F x)), h)) (hl : xs.length < 2 ^ 62) : ∀ (k i : Nat), i + k = xs.length →
    ∃ z : Int, blk (cxZ m) 37 (at_ Tryd.prog 37 2) [.v (.imm (xs.map FTy.enc)), .v fv, .v (.int .i64 (Int.ofNat xs.length)), .v (.int .i64 (Int.ofNat i))] h = some (.v (.int .i64 z), h) ∧ leZ (Int.ofNat 0) z = (xs.drop i).any F
  | 0, i, hi => by
    rw [List.drop_of_length_le (by omega)]
    exact ⟨_, w37_2_2 (k0 := ltZ_f (by rw [ofN, ofN]; omega)), rfl⟩
  | k + 1, i, hi => by
    have h1 : xs[i]? = some xs[i] := List.getElem?_eq_getElem (by omega)
    have e1 : ixA (.imm (xs.map FTy.enc)) (Int.ofNat i) 2 = some (FTy.enc xs[i]) := ix_map (f := FTy.enc) h1 rfl
    have hv := hf xs[i] (List.getElem_mem _) h
    rw [drop_get h1, List.any_cons]
    obtain ⟨z, hz, he⟩ := has37_loop hf hl k (i + 1) (by omega)
    generalize xs[i] = x at e1 hv ⊢
    obtain ⟨xp, xr⟩ := x
    cases hq : F ⟨xp, xr⟩ with
    | true =>
      rw [hq] at hv
      exact ⟨_, w37_2_0 (k0 := ltZ_t (by rw [ofN, ofN]; omega)) (k1 := e1) (k2 := hv) (k3 := rfl), by rw [Bool.true_or]; exact leZ_t (by rw [ofN, ofN]; omega)⟩
    | false =>
      rw [hq] at hv
      exact ⟨z, w37_2_1 (k0 := ltZ_t (by rw [ofN, ofN]; omega)) (k1 := e1) (k2 := hv) (k3 := rfl) (k4 := by rw [wrapS (by omega)]; exact hz), by rw [Bool.false_or]; exact he⟩
theorem has37 {xs : List FTy} {fv : AV} {F : FTy → Bool} (hf : ∀ x, x ∈ xs → ∀ h, callV (cxZ m) (blk (cxZ m)) fv [.v (.agg x.enc)] h = some (.v (.bool (F x)), h)) (hl : xs.length < 2 ^ 62) :
    callF (cxZ m) (blk (cxZ m)) 20 [.v (.imm (xs.map FTy.enc)), .v fv] h = some (.v (.bool (xs.any F)), h) := by
  obtain ⟨z, hz, he⟩ := has37_loop (m := m) (h := h) hf hl xs.length 0 (by omega)
  rw [List.drop_zero] at he
  rw [← he]
  refine callF_of rfl rfl (by kernel_rfl) (w20_0 (k0 := callF_of rfl rfl (by kernel_rfl) (w37_0 (k0 := ?_))))
  rw [List.length_map]
  exact hz

theorem has39_loop {xs : List Glo} {fv : AV} {F : Glo → Bool} (hf : ∀ x, x ∈ xs → ∀ h, callV (cxZ m) (blk (cxZ m)) fv [.v (.agg x.enc)] h = some (.v (.bool (F x)), h)) (hl : xs.length < 2 ^ 62) : ∀ (k i : Nat), i + k = xs.length →
    ∃ z : Int, blk (cxZ m) 39 (at_ Tryd.prog 39 2) [.v (.imm (xs.map Glo.enc)), .v fv, .v (.int .i64 (Int.ofNat xs.length)), .v (.int .i64 (Int.ofNat i))] h = some (.v (.int .i64 z), h) ∧ leZ (Int.ofNat 0) z = (xs.drop i).any F
  | 0, i, hi => by
    rw [List.drop_of_length_le (by omega)]
    exact ⟨_, w39_2_2 (k0 := ltZ_f (by rw [ofN, ofN]; omega)), rfl⟩
  | k + 1, i, hi => by
    have h1 : xs[i]? = some xs[i] := List.getElem?_eq_getElem (by omega)
    have e1 : ixA (.imm (xs.map Glo.enc)) (Int.ofNat i) 11 = some (Glo.enc xs[i]) := ix_map (f := Glo.enc) h1 (Glo.enc_len _)
    have hv := hf xs[i] (List.getElem_mem _) h
    rw [drop_get h1, List.any_cons]
    obtain ⟨z, hz, he⟩ := has39_loop hf hl k (i + 1) (by omega)
    generalize xs[i] = x at e1 hv ⊢
    obtain ⟨gt, gm, ⟨g1, g2, g3, g4, g5, g6, g7, g8, g9⟩⟩ := x
    cases hq : F ⟨gt, gm, .mk g1 g2 g3 g4 g5 g6 g7 g8 g9⟩ with
    | true =>
      rw [hq] at hv
      exact ⟨_, w39_2_0 (k0 := ltZ_t (by rw [ofN, ofN]; omega)) (k1 := e1) (k2 := hv) (k3 := rfl), by rw [Bool.true_or]; exact leZ_t (by rw [ofN, ofN]; omega)⟩
    | false =>
      rw [hq] at hv
      exact ⟨z, w39_2_1 (k0 := ltZ_t (by rw [ofN, ofN]; omega)) (k1 := e1) (k2 := hv) (k3 := rfl) (k4 := by rw [wrapS (by omega)]; exact hz), by rw [Bool.false_or]; exact he⟩
theorem has39 {xs : List Glo} {fv : AV} {F : Glo → Bool} (hf : ∀ x, x ∈ xs → ∀ h, callV (cxZ m) (blk (cxZ m)) fv [.v (.agg x.enc)] h = some (.v (.bool (F x)), h)) (hl : xs.length < 2 ^ 62) :
    callF (cxZ m) (blk (cxZ m)) 24 [.v (.imm (xs.map Glo.enc)), .v fv] h = some (.v (.bool (xs.any F)), h) := by
  obtain ⟨z, hz, he⟩ := has39_loop (m := m) (h := h) hf hl xs.length 0 (by omega)
  rw [List.drop_zero] at he
  rw [← he]
  refine callF_of rfl rfl (by kernel_rfl) (w24_0 (k0 := callF_of rfl rfl (by kernel_rfl) (w39_0 (k0 := ?_))))
  rw [List.length_map]
  exact hz

theorem has31_loop {xs : List Ins} {fv : AV} {F : Ins → Bool} (hf : ∀ x, x ∈ xs → ∀ h, callV (cxZ m) (blk (cxZ m)) fv [.v (.agg (encI x))] h = some (.v (.bool (F x)), h)) (hl : xs.length < 2 ^ 62) : ∀ (k i : Nat), i + k = xs.length →
    ∃ z : Int, blk (cxZ m) 31 (at_ Tryd.prog 31 2) [.v (.imm (xs.map encI)), .v fv, .v (.int .i64 (Int.ofNat xs.length)), .v (.int .i64 (Int.ofNat i))] h = some (.v (.int .i64 z), h) ∧ leZ (Int.ofNat 0) z = (xs.drop i).any F
  | 0, i, hi => by
    rw [List.drop_of_length_le (by omega)]
    exact ⟨_, w31_2_2 (k0 := ltZ_f (by rw [ofN, ofN]; omega)), rfl⟩
  | k + 1, i, hi => by
    have h1 : xs[i]? = some xs[i] := List.getElem?_eq_getElem (by omega)
    have e1 : ixA (.imm (xs.map encI)) (Int.ofNat i) 9 = some (encI xs[i]) := ix_map (f := encI) h1 (encI_len _)
    have hv := hf xs[i] (List.getElem_mem _) h
    rw [drop_get h1, List.any_cons]
    obtain ⟨z, hz, he⟩ := has31_loop hf hl k (i + 1) (by omega)
    generalize xs[i] = x at e1 hv ⊢
    obtain ⟨g1, g2, g3, g4, g5, g6, g7, g8, g9⟩ := x
    cases hq : F (.mk g1 g2 g3 g4 g5 g6 g7 g8 g9) with
    | true =>
      rw [hq] at hv
      exact ⟨_, w31_2_0 (k0 := ltZ_t (by rw [ofN, ofN]; omega)) (k1 := e1) (k2 := hv) (k3 := rfl), by rw [Bool.true_or]; exact leZ_t (by rw [ofN, ofN]; omega)⟩
    | false =>
      rw [hq] at hv
      exact ⟨z, w31_2_1 (k0 := ltZ_t (by rw [ofN, ofN]; omega)) (k1 := e1) (k2 := hv) (k3 := rfl) (k4 := by rw [wrapS (by omega)]; exact hz), by rw [Bool.false_or]; exact he⟩
theorem has31 {xs : List Ins} {fv : AV} {F : Ins → Bool} (hf : ∀ x, x ∈ xs → ∀ h, callV (cxZ m) (blk (cxZ m)) fv [.v (.agg (encI x))] h = some (.v (.bool (F x)), h)) (hl : xs.length < 2 ^ 62) :
    callF (cxZ m) (blk (cxZ m)) 17 [.v (.imm (xs.map encI)), .v fv] h = some (.v (.bool (xs.any F)), h) := by
  obtain ⟨z, hz, he⟩ := has31_loop (m := m) (h := h) hf hl xs.length 0 (by omega)
  rw [List.drop_zero] at he
  rw [← he]
  refine callF_of rfl rfl (by kernel_rfl) (w17_0 (k0 := callF_of rfl rfl (by kernel_rfl) (w31_0 (k0 := ?_))))
  rw [List.length_map]
  exact hz

/-! ### Scopes -/
def odd (t : Int) : Bool := decide (t ≠ 1) && decide (t ≠ 2)
def mayS (s : Scp) : Bool := !(s.ty.any fun x => x.p.any odd || x.r.any odd) && !(s.gl.any fun g => odd g.t) && !(s.lo.any odd) && decide (0 ≤ s.re) && decide (s.re ≤ 2)
theorem odd_Z (t : Int) : callF (cxZ m) (blk (cxZ m)) 23 [.v (.int .i64 t)] h = some (.v (.bool (odd t)), h) := by
  unfold odd
  by_cases h1 : t = 1
  · rw [show (decide (t ≠ 1)) = false by simp [h1], Bool.false_and]
    exact callF_of rfl rfl (by kernel_rfl) (w23_1 (k0 := congrArg not (eqZ_t (b := Int.ofNat 1) h1)))
  · rw [show (decide (t ≠ 1)) = true by simp [h1], Bool.true_and]
    have e : (!eqZ t (Int.ofNat 2)) = decide (t ≠ 2) := by
      by_cases h2 : t = 2
      · rw [eqZ_t (b := Int.ofNat 2) h2]; simp [h2]
      · rw [eqZ_f (b := Int.ofNat 2) h2]; simp [h2]
    rw [← e]
    exact callF_of rfl rfl (by kernel_rfl) (w23_0 (k0 := congrArg not (eqZ_f (b := Int.ofNat 1) h1)))
theorem odds_Z {l : List Int} (hl : l.length < 2 ^ 62) : callF (cxZ m) (blk (cxZ m)) 22 [.v (.imm (encN l)), .v (.fn 23 [] [])] h = some (.v (.bool (l.any odd)), h) :=
  has38 (fun x _ _ => odd_Z x) hl
/-- Its lists are short. -/
structure ScpLen (n : Nat) (s : Scp) : Prop where
  ty : s.ty.length < n
  tl : ∀ x, x ∈ s.ty → x.p.length < n ∧ x.r.length < n
  fn : s.fn.length < n
  gl : s.gl.length < n
  lo : s.lo.length < n
theorem mayS_Z {s : Scp} (hs : ScpLen (2 ^ 62) s) : callF (cxZ m) (blk (cxZ m)) 14 [.v (.agg s.enc)] h = some (.v (.bool (mayS s)), h) := by
  have c1 : ∀ h, callF (cxZ m) (blk (cxZ m)) 20 [.v (.imm (s.ty.map FTy.enc)), .v (.fn 21 [] [])] h = some (.v (.bool (s.ty.any fun x => x.p.any odd || x.r.any odd)), h) := fun h => by
    refine has37 (fun x hx h => ?_) hs.ty
    obtain ⟨hp, hr⟩ := hs.tl x hx
    obtain ⟨p, r⟩ := x
    have a1 := odds_Z (m := m) (h := h) hp
    have a2 := odds_Z (m := m) (h := h) hr
    cases hq : p.any odd with
    | true =>
      simp only [hq] at a1 ⊢
      exact callF_of rfl rfl (by kernel_rfl) (w21_0 (k0 := a1) (k1 := rfl))
    | false =>
      simp only [hq, Bool.false_or] at a1 ⊢
      exact callF_of rfl rfl (by kernel_rfl) (w21_1 (k0 := a1) (k1 := rfl) (k2 := a2))
  have c2 : ∀ h, callF (cxZ m) (blk (cxZ m)) 24 [.v (.imm (s.gl.map Glo.enc)), .v (.fn 25 [] [])] h = some (.v (.bool (s.gl.any fun g => odd g.t)), h) := fun h => by
    refine has39 (fun x hx h => ?_) hs.gl
    obtain ⟨gt, gm, ⟨g1, g2, g3, g4, g5, g6, g7, g8, g9⟩⟩ := x
    exact callF_of rfl rfl (by kernel_rfl) (w25_0 (k0 := odd_Z gt))
  have c3 : ∀ h, callF (cxZ m) (blk (cxZ m)) 22 [.v (.imm (encN s.lo)), .v (.fn 23 [] [])] h = some (.v (.bool (s.lo.any odd)), h) := fun h => odds_Z hs.lo
  unfold mayS
  cases q1 : s.ty.any fun x => x.p.any odd || x.r.any odd with
  | true =>
    rw [q1] at c1
    exact callF_of rfl rfl (by kernel_rfl) (w14_4 (k0 := c1 h) (k1 := c2 h) (k2 := rfl))
  | false =>
    rw [q1] at c1
    cases q2 : s.gl.any fun g => odd g.t with
    | true =>
      rw [q2] at c2
      exact callF_of rfl rfl (by kernel_rfl) (w14_3 (k0 := c1 h) (k1 := c2 h) (k2 := rfl) (k3 := rfl))
    | false =>
      rw [q2] at c2
      cases q3 : s.lo.any odd with
      | true =>
        rw [q3] at c3
        exact callF_of rfl rfl (by kernel_rfl) (w14_2 (k0 := c1 h) (k1 := c2 h) (k2 := rfl) (k3 := rfl) (k4 := c3 h) (k5 := rfl))
      | false =>
        rw [q3] at c3
        simp only [Bool.not_false, Bool.true_and]
        by_cases h0 : 0 ≤ s.re
        · have e : leZ s.re (Int.ofNat 2) = decide (s.re ≤ 2) := leZ_eq _ _
          rw [decide_eq_true h0, Bool.true_and, ← e]
          exact callF_of rfl rfl (by kernel_rfl) (w14_0 (k0 := c1 h) (k1 := c2 h) (k2 := rfl) (k3 := rfl) (k4 := c3 h) (k5 := rfl) (k6 := leZ_t (a := Int.ofNat 0) h0))
        · rw [decide_eq_false h0, Bool.false_and]
          exact callF_of rfl rfl (by kernel_rfl) (w14_1 (k0 := c1 h) (k1 := c2 h) (k2 := rfl) (k3 := rfl) (k4 := c3 h) (k5 := rfl) (k6 := leZ_f (a := Int.ofNat 0) (by rw [ofN]; omega)))
/-! ### Instructions -/
theorem num_Z (n : Int) (h : Heap) : callF (cxZ m) (blk (cxZ m)) 34 [.v (.int .i64 n)] h = some (.v (.bool (numZ n)), h) := by
  unfold numZ
  by_cases h0 : 0 ≤ n
  · have e : leZ n (Int.ofNat 4294967295) = decide (n ≤ 4294967295) := leZ_eq _ _
    rw [decide_eq_true h0, Bool.true_and, ← e]
    exact callF_of rfl rfl (by kernel_rfl) (w34_0 (k0 := leZ_t (a := Int.ofNat 0) h0))
  · rw [decide_eq_false h0, Bool.false_and]
    exact callF_of rfl rfl (by kernel_rfl) (w34_1 (k0 := leZ_f (a := Int.ofNat 0) (by rw [ofN]; omega)))
theorem nums_Z {l : List Int} (hl : l.length < 2 ^ 62) (h : Heap) : callF (cxZ m) (blk (cxZ m)) 22 [.v (.imm (encN l)), .v (.fn 35 [] [])] h = some (.v (.bool (l.any fun n => !numZ n)), h) :=
  has38 (fun x _ h => callF_of rfl rfl (by kernel_rfl) (w35_0 (k0 := num_Z x h))) hl
def bareB (a b v t : Int) (l bd el : List (List AV)) (q : Bool) : Bool := decide (a = 0) && decide (b = 0) && decide (v = 0) && decide (t = 0) && l.isEmpty && bd.isEmpty && el.isEmpty && !q
theorem len0 {A : Type} {l : List A} : eqZ (Int.ofNat l.length) (Int.ofNat 0) = l.isEmpty := by
  cases l with
  | nil => rfl
  | cons x l => exact eqZ_f (by rw [ofN, ofN]; simp; omega)
theorem bare_Z (o a b v t : Int) (l bd el : List (List AV)) (q : Bool) (h : Heap) : callF (cxZ m) (blk (cxZ m)) 36 [.v (.agg [.int .i64 o, .int .i64 a, .int .i64 b, .int .u64 v, .int .i64 t, .imm l, .imm bd, .imm el, .bool q])] h = some (.v (.bool (bareB a b v t l bd el q)), h) := by
  unfold bareB
  have z : ∀ {x : Int}, x = 0 → eqZ x (Int.ofNat 0) = true := fun e => eqZ_t (b := Int.ofNat 0) e
  have n : ∀ {x : Int}, ¬ x = 0 → eqZ x (Int.ofNat 0) = false := fun e => eqZ_f (b := Int.ofNat 0) e
  by_cases ha : a = 0
  case neg => rw [decide_eq_false ha]; exact callF_of rfl rfl (by kernel_rfl) (w36_7 (k0 := n ha))
  by_cases hb : b = 0
  case neg => rw [decide_eq_true ha, decide_eq_false hb]; exact callF_of rfl rfl (by kernel_rfl) (w36_6 (k0 := z ha) (k1 := n hb))
  by_cases hv : v = 0
  case neg => rw [decide_eq_true ha, decide_eq_true hb, decide_eq_false hv]; exact callF_of rfl rfl (by kernel_rfl) (w36_5 (k0 := z ha) (k1 := z hb) (k2 := n hv))
  by_cases ht : t = 0
  case neg => rw [decide_eq_true ha, decide_eq_true hb, decide_eq_true hv, decide_eq_false ht]; exact callF_of rfl rfl (by kernel_rfl) (w36_4 (k0 := z ha) (k1 := z hb) (k2 := z hv) (k3 := n ht))
  rw [decide_eq_true ha, decide_eq_true hb, decide_eq_true hv, decide_eq_true ht]
  have el0 := len0 (l := l)
  have bd0 := len0 (l := bd)
  have ee0 := len0 (l := el)
  cases hl : l.isEmpty with
  | false => rw [hl] at el0; exact callF_of rfl rfl (by kernel_rfl) (w36_3 (k0 := z ha) (k1 := z hb) (k2 := z hv) (k3 := z ht) (k4 := el0))
  | true =>
    rw [hl] at el0
    cases hbd : bd.isEmpty with
    | false => rw [hbd] at bd0; exact callF_of rfl rfl (by kernel_rfl) (w36_2 (k0 := z ha) (k1 := z hb) (k2 := z hv) (k3 := z ht) (k4 := el0) (k5 := bd0))
    | true =>
      rw [hbd] at bd0
      cases hel : el.isEmpty with
      | false => rw [hel] at ee0; exact callF_of rfl rfl (by kernel_rfl) (w36_1 (k0 := z ha) (k1 := z hb) (k2 := z hv) (k3 := z ht) (k4 := el0) (k5 := bd0) (k6 := ee0))
      | true => rw [hel] at ee0; exact callF_of rfl rfl (by kernel_rfl) (w36_0 (k0 := z ha) (k1 := z hb) (k2 := z hv) (k3 := z ht) (k4 := el0) (k5 := bd0) (k6 := ee0))
end
end Go.Proofs.YtjelldpjopdimaaDoor
