/-
  May: any code; and Check.
-/
import Derived.Test.YtoblgjmllmomhaaGreatDoorAmS15q
import Derived.Test.YtoblgjmllmomhaaGreatDoorAmS15wI
namespace Go.Proofs.YtoblgjmllmomhaaGreatDoor
set_option maxRecDepth 100000
open Go Go.Proofs.Am
section
variable {m : Int} {h : Heap}
theorem has38_loop {xs : List Int} {fv : AV} {F : Int -> Bool} (hf : ∀ x, x ∈ xs -> ∀ h, callV (cxZ m) (blk (cxZ m)) fv [vI x] h = some (.v (.bool (F x)), h)) (hl : xs.length < 2 ^ 62) : ∀ (k i : Nat), i + k = xs.length ->
  ∃ z : Int, bA m 86 2 [.v (.imm (xs.map (fun x => [AV.int .i64 x]))), .v fv, vI (Int.ofNat xs.length), vI (Int.ofNat i)] h = some (.v (.int .i64 z), h) /\ leZ (Int.ofNat 0) z = (xs.drop i).any F
 | 0, i, hi => by
  rw [List.drop_of_length_le (by omega)]
  exact ⟨_, w38_2_2 (k0 := ltZ_f (by rw [ofN, ofN]; omega)), rfl⟩
 | k + 1, i, hi => by
  have h1 : xs[i]? = some xs[i] := List.getElem?_eq_getElem (by omega)
  have e1 : ixA (.imm (xs.map (fun x => [AV.int .i64 x]))) (Int.ofNat i) 1 = some ((fun x => [AV.int .i64 x]) xs[i]) := ix_map (f := (fun x => [AV.int .i64 x])) h1 rfl
  have hv := hf xs[i] (List.getElem_mem _) h
  rw [drop_get h1, List.any_cons]
  obtain ⟨z, hz, he⟩ := has38_loop hf hl k (i + 1) (by omega)
  generalize xs[i] = x at e1 hv ⊢
  cases hq : F x with
  | true =>
   rw [hq] at hv
   exact ⟨_, w38_2_0 (k0 := ltZ_t (by rw [ofN, ofN]; omega)) (k1 := e1) (k2 := hv) (k3 := rfl), by rw [Bool.true_or]; exact leZ_t (by rw [ofN, ofN]; omega)⟩
  | false =>
   rw [hq] at hv
   exact ⟨z, w38_2_1 (k0 := ltZ_t (by rw [ofN, ofN]; omega)) (k1 := e1) (k2 := hv) (k3 := rfl) (k4 := by rw [wrapS (by omega)]; exact hz), by rw [Bool.false_or]; exact he⟩
theorem has38 {xs : List Int} {fv : AV} {F : Int -> Bool} (hf : ∀ x, x ∈ xs -> ∀ h, callV (cxZ m) (blk (cxZ m)) fv [vI x] h = some (.v (.bool (F x)), h)) (hl : xs.length < 2 ^ 62) :
  cA m 47 [.v (.imm (xs.map (fun x => [AV.int .i64 x]))), .v fv] h = some (.v (.bool (xs.any F)), h) := by
 obtain ⟨z, hz, he⟩ := has38_loop (m := m) (h := h) hf hl xs.length 0 (by omega)
 rw [List.drop_zero] at he
 rw [← he]
 refine cO (w22_0 (k0 := cO (w38_0 (k0 := ?_))))
 rw [List.length_map]
 exact hz
theorem has37_loop {xs : List FTy} {fv : AV} {F : FTy -> Bool} (hf : ∀ x, x ∈ xs -> ∀ h, callV (cxZ m) (blk (cxZ m)) fv [.v (.agg x.enc)] h = some (.v (.bool (F x)), h)) (hl : xs.length < 2 ^ 62) : ∀ (k i : Nat), i + k = xs.length ->
  ∃ z : Int, bA m 85 2 [vM (xs.map FTy.enc), .v fv, vI (Int.ofNat xs.length), vI (Int.ofNat i)] h = some (.v (.int .i64 z), h) /\ leZ (Int.ofNat 0) z = (xs.drop i).any F
 | 0, i, hi => by
  rw [List.drop_of_length_le (by omega)]
  exact ⟨_, w37_2_2 (k0 := ltZ_f (by rw [ofN, ofN]; omega)), rfl⟩
 | k + 1, i, hi => by
  have h1 : xs[i]? = some xs[i] := List.getElem?_eq_getElem (by omega)
  have e1 : ixA (.imm (xs.map FTy.enc)) (Int.ofNat i) 2 = some (FTy.enc xs[i]) := ix_map (f := FTy.enc) h1 rfl
  have hv := hf xs[i] (List.getElem_mem _) h
  rw [drop_get h1, List.any_cons]
  obtain ⟨z, hz, he⟩ := has37_loop hf hl k (i + 1) (by omega)
  generalize xs[i] = x at e1 hv ⊢
  obtain ⟨xp, xr⟩ := x
  cases hq : F ⟨xp, xr⟩ with
  | true =>
   rw [hq] at hv
   exact ⟨_, w37_2_0 (k0 := ltZ_t (by rw [ofN, ofN]; omega)) (k1 := e1) (k2 := hv) (k3 := rfl), by rw [Bool.true_or]; exact leZ_t (by rw [ofN, ofN]; omega)⟩
  | false =>
   rw [hq] at hv
   exact ⟨z, w37_2_1 (k0 := ltZ_t (by rw [ofN, ofN]; omega)) (k1 := e1) (k2 := hv) (k3 := rfl) (k4 := by rw [wrapS (by omega)]; exact hz), by rw [Bool.false_or]; exact he⟩
theorem has37 {xs : List FTy} {fv : AV} {F : FTy -> Bool} (hf : ∀ x, x ∈ xs -> ∀ h, callV (cxZ m) (blk (cxZ m)) fv [.v (.agg x.enc)] h = some (.v (.bool (F x)), h)) (hl : xs.length < 2 ^ 62) :
  cA m 45 [vM (xs.map FTy.enc), .v fv] h = some (.v (.bool (xs.any F)), h) := by
 obtain ⟨z, hz, he⟩ := has37_loop (m := m) (h := h) hf hl xs.length 0 (by omega)
 rw [List.drop_zero] at he
 rw [← he]
 refine cO (w20_0 (k0 := cO (w37_0 (k0 := ?_))))
 rw [List.length_map]
 exact hz
theorem has39_loop {xs : List Glo} {fv : AV} {F : Glo -> Bool} (hf : ∀ x, x ∈ xs -> ∀ h, callV (cxZ m) (blk (cxZ m)) fv [.v (.agg x.enc)] h = some (.v (.bool (F x)), h)) (hl : xs.length < 2 ^ 62) : ∀ (k i : Nat), i + k = xs.length ->
  ∃ z : Int, bA m 87 2 [vM (xs.map Glo.enc), .v fv, vI (Int.ofNat xs.length), vI (Int.ofNat i)] h = some (.v (.int .i64 z), h) /\ leZ (Int.ofNat 0) z = (xs.drop i).any F
 | 0, i, hi => by
  rw [List.drop_of_length_le (by omega)]
  exact ⟨_, w39_2_2 (k0 := ltZ_f (by rw [ofN, ofN]; omega)), rfl⟩
 | k + 1, i, hi => by
  have h1 : xs[i]? = some xs[i] := List.getElem?_eq_getElem (by omega)
  have e1 : ixA (.imm (xs.map Glo.enc)) (Int.ofNat i) 11 = some (Glo.enc xs[i]) := ix_map (f := Glo.enc) h1 (Glo.enc_len _)
  have hv := hf xs[i] (List.getElem_mem _) h
  rw [drop_get h1, List.any_cons]
  obtain ⟨z, hz, he⟩ := has39_loop hf hl k (i + 1) (by omega)
  generalize xs[i] = x at e1 hv ⊢
  obtain ⟨gt, gm, ⟨g1, g2, g3, g4, g5, g6, g7, g8, g9⟩⟩ := x
  cases hq : F ⟨gt, gm, .mk g1 g2 g3 g4 g5 g6 g7 g8 g9⟩ with
  | true =>
   rw [hq] at hv
   exact ⟨_, w39_2_0 (k0 := ltZ_t (by rw [ofN, ofN]; omega)) (k1 := e1) (k2 := hv) (k3 := rfl), by rw [Bool.true_or]; exact leZ_t (by rw [ofN, ofN]; omega)⟩
  | false =>
   rw [hq] at hv
   exact ⟨z, w39_2_1 (k0 := ltZ_t (by rw [ofN, ofN]; omega)) (k1 := e1) (k2 := hv) (k3 := rfl) (k4 := by rw [wrapS (by omega)]; exact hz), by rw [Bool.false_or]; exact he⟩
theorem has39 {xs : List Glo} {fv : AV} {F : Glo -> Bool} (hf : ∀ x, x ∈ xs -> ∀ h, callV (cxZ m) (blk (cxZ m)) fv [.v (.agg x.enc)] h = some (.v (.bool (F x)), h)) (hl : xs.length < 2 ^ 62) :
  cA m 49 [vM (xs.map Glo.enc), .v fv] h = some (.v (.bool (xs.any F)), h) := by
 obtain ⟨z, hz, he⟩ := has39_loop (m := m) (h := h) hf hl xs.length 0 (by omega)
 rw [List.drop_zero] at he
 rw [← he]
 refine cO (w24_0 (k0 := cO (w39_0 (k0 := ?_))))
 rw [List.length_map]
 exact hz
theorem has31_loop {xs : List Ins} {fv : AV} {F : Ins -> Bool} (hf : ∀ x, x ∈ xs -> ∀ h, callV (cxZ m) (blk (cxZ m)) fv [.v (.agg (encI x))] h = some (.v (.bool (F x)), h)) (hl : xs.length < 2 ^ 62) : ∀ (k i : Nat), i + k = xs.length ->
  ∃ z : Int, bA m 79 2 [vM (xs.map encI), .v fv, vI (Int.ofNat xs.length), vI (Int.ofNat i)] h = some (.v (.int .i64 z), h) /\ leZ (Int.ofNat 0) z = (xs.drop i).any F
 | 0, i, hi => by
  rw [List.drop_of_length_le (by omega)]
  exact ⟨_, w31_2_2 (k0 := ltZ_f (by rw [ofN, ofN]; omega)), rfl⟩
 | k + 1, i, hi => by
  have h1 : xs[i]? = some xs[i] := List.getElem?_eq_getElem (by omega)
  have e1 : ixA (.imm (xs.map encI)) (Int.ofNat i) 9 = some (encI xs[i]) := ix_map (f := encI) h1 (encI_len _)
  have hv := hf xs[i] (List.getElem_mem _) h
  rw [drop_get h1, List.any_cons]
  obtain ⟨z, hz, he⟩ := has31_loop hf hl k (i + 1) (by omega)
  generalize xs[i] = x at e1 hv ⊢
  obtain ⟨g1, g2, g3, g4, g5, g6, g7, g8, g9⟩ := x
  cases hq : F (.mk g1 g2 g3 g4 g5 g6 g7 g8 g9) with
  | true =>
   rw [hq] at hv
   exact ⟨_, w31_2_0 (k0 := ltZ_t (by rw [ofN, ofN]; omega)) (k1 := e1) (k2 := hv) (k3 := rfl), by rw [Bool.true_or]; exact leZ_t (by rw [ofN, ofN]; omega)⟩
  | false =>
   rw [hq] at hv
   exact ⟨z, w31_2_1 (k0 := ltZ_t (by rw [ofN, ofN]; omega)) (k1 := e1) (k2 := hv) (k3 := rfl) (k4 := by rw [wrapS (by omega)]; exact hz), by rw [Bool.false_or]; exact he⟩
theorem has31 {xs : List Ins} {fv : AV} {F : Ins -> Bool} (hf : ∀ x, x ∈ xs -> ∀ h, callV (cxZ m) (blk (cxZ m)) fv [.v (.agg (encI x))] h = some (.v (.bool (F x)), h)) (hl : xs.length < 2 ^ 62) :
  cA m 42 [vM (xs.map encI), .v fv] h = some (.v (.bool (xs.any F)), h) := by
 obtain ⟨z, hz, he⟩ := has31_loop (m := m) (h := h) hf hl xs.length 0 (by omega)
 rw [List.drop_zero] at he
 rw [← he]
 refine cO (w17_0 (k0 := cO (w31_0 (k0 := ?_))))
 rw [List.length_map]
 exact hz
def odd (t : Int) : Bool := decide (t ≠ 1) && decide (t ≠ 2)
def mayS (s : Scp) : Bool := !(s.ty.any fun x => x.p.any odd || x.r.any odd) && !(s.gl.any fun g => odd g.t) && !(s.lo.any odd) && decide (0 <= s.re) && decide (s.re <= 2)
theorem odd_Z (t : Int) : cA m 48 [vI t] h = some (.v (.bool (odd t)), h) := by
 unfold odd
 by_cases h1 : t = 1
 ·rw [show (decide (t ≠ 1)) = false by simp [h1], Bool.false_and]
  exact cO (w23_1 (k0 := congrArg not (eqZ_t (b := Int.ofNat 1) h1)))
 ·rw [show (decide (t ≠ 1)) = true by simp [h1], Bool.true_and]
  have e : (!eqZ t (Int.ofNat 2)) = decide (t ≠ 2) := by
   by_cases h2 : t = 2
   ·rw [eqZ_t (b := Int.ofNat 2) h2]; simp [h2]
   ·rw [eqZ_f (b := Int.ofNat 2) h2]; simp [h2]
  rw [← e]
  exact cO (w23_0 (k0 := congrArg not (eqZ_f (b := Int.ofNat 1) h1)))
theorem odds_Z {l : List Int} (hl : l.length < 2 ^ 62) : cA m 47 [vM (encN l), .v (.fn 48 [] [])] h = some (.v (.bool (l.any odd)), h) :=
 has38 (fun x _ _ => odd_Z x) hl
structure ScpLen (n : Nat) (s : Scp) : Prop where
 ty : s.ty.length < n
 tl : ∀ x, x ∈ s.ty -> x.p.length < n /\ x.r.length < n
 fn : s.fn.length < n
 gl : s.gl.length < n
 lo : s.lo.length < n
theorem mayS_Z {s : Scp} (hs : ScpLen (2 ^ 62) s) : cA m 20 [.v (.agg s.enc)] h = some (.v (.bool (mayS s)), h) := by
 have c1 : ∀ h, cA m 45 [vM (s.ty.map FTy.enc), .v (.fn 46 [] [])] h = some (.v (.bool (s.ty.any fun x => x.p.any odd || x.r.any odd)), h) := fun h => by
  refine has37 (fun x hx h => ?_) hs.ty
  obtain ⟨hp, hr⟩ := hs.tl x hx
  obtain ⟨p, r⟩ := x
  have a1 := odds_Z (m := m) (h := h) hp
  have a2 := odds_Z (m := m) (h := h) hr
  cases hq : p.any odd with
  | true =>
   simp only [hq] at a1 ⊢
   exact cO (w21_0 (k0 := a1) (k1 := rfl))
  | false =>
   simp only [hq, Bool.false_or] at a1 ⊢
   exact cO (w21_1 (k0 := a1) (k1 := rfl) (k2 := a2))
 have c2 : ∀ h, cA m 49 [vM (s.gl.map Glo.enc), .v (.fn 50 [] [])] h = some (.v (.bool (s.gl.any fun g => odd g.t)), h) := fun h => by
  refine has39 (fun x hx h => ?_) hs.gl
  obtain ⟨gt, gm, ⟨g1, g2, g3, g4, g5, g6, g7, g8, g9⟩⟩ := x
  exact cO (w25_0 (k0 := odd_Z gt))
 have c3 : ∀ h, cA m 47 [vM (encN s.lo), .v (.fn 48 [] [])] h = some (.v (.bool (s.lo.any odd)), h) := fun h => odds_Z hs.lo
 unfold mayS
 cases q1 : s.ty.any fun x => x.p.any odd || x.r.any odd with
 | true =>
  rw [q1] at c1
  exact cO (w14_4 (k0 := c1 h) (k1 := c2 h) (k2 := rfl))
 | false =>
  rw [q1] at c1
  cases q2 : s.gl.any fun g => odd g.t with
  | true =>
   rw [q2] at c2
   exact cO (w14_3 (k0 := c1 h) (k1 := c2 h) (k2 := rfl) (k3 := rfl))
  | false =>
   rw [q2] at c2
   cases q3 : s.lo.any odd with
   | true =>
    rw [q3] at c3
    exact cO (w14_2 (k0 := c1 h) (k1 := c2 h) (k2 := rfl) (k3 := rfl) (k4 := c3 h) (k5 := rfl))
   | false =>
    rw [q3] at c3
    simp only [Bool.not_false, Bool.true_and]
    by_cases h0 : 0 <= s.re
    ·have e : leZ s.re (Int.ofNat 2) = decide (s.re <= 2) := leZ_eq _ _
     rw [decide_eq_true h0, Bool.true_and, ← e]
     exact cO (w14_0 (k0 := c1 h) (k1 := c2 h) (k2 := rfl) (k3 := rfl) (k4 := c3 h) (k5 := rfl) (k6 := leZ_t (a := Int.ofNat 0) h0))
    ·rw [decide_eq_false h0, Bool.false_and]
     exact cO (w14_1 (k0 := c1 h) (k1 := c2 h) (k2 := rfl) (k3 := rfl) (k4 := c3 h) (k5 := rfl) (k6 := leZ_f (a := Int.ofNat 0) (by rw [ofN]; omega)))
theorem num_Z (n : Int) (h : Heap) : cA m 82 [vI n] h = some (.v (.bool (numZ n)), h) := by
 unfold numZ
 by_cases h0 : 0 <= n
 ·have e : leZ n (Int.ofNat 4294967295) = decide (n <= 4294967295) := leZ_eq _ _
  rw [decide_eq_true h0, Bool.true_and, ← e]
  exact cO (w34_0 (k0 := leZ_t (a := Int.ofNat 0) h0))
 ·rw [decide_eq_false h0, Bool.false_and]
  exact cO (w34_1 (k0 := leZ_f (a := Int.ofNat 0) (by rw [ofN]; omega)))
theorem nums_Z {l : List Int} (hl : l.length < 2 ^ 62) (h : Heap) : cA m 47 [vM (encN l), .v (.fn 83 [] [])] h = some (.v (.bool (l.any fun n => !numZ n)), h) :=
 has38 (fun x _ h => cO (w35_0 (k0 := num_Z x h))) hl
def bareB (a b v t : Int) (l bd el : List (List AV)) (q : Bool) : Bool := decide (a = 0) && decide (b = 0) && decide (v = 0) && decide (t = 0) && l.isEmpty && bd.isEmpty && el.isEmpty && !q
theorem len0 {A : Type} {l : List A} : eqZ (Int.ofNat l.length) (Int.ofNat 0) = l.isEmpty := by
 cases l with
 | nil => rfl
 | cons x l => exact eqZ_f (by rw [ofN, ofN]; simp; omega)
theorem bare_Z (o a b v t : Int) (l bd el : List (List AV)) (q : Bool) (h : Heap) : cA m 84 [.v (.agg [.int .i64 o, .int .i64 a, .int .i64 b, .int .u64 v, .int .i64 t, .imm l, .imm bd, .imm el, .bool q])] h = some (.v (.bool (bareB a b v t l bd el q)), h) := by
 unfold bareB
 have z : ∀ {x : Int}, x = 0 -> eqZ x (Int.ofNat 0) = true := fun e => eqZ_t (b := Int.ofNat 0) e
 have n : ∀ {x : Int}, ¬ x = 0 -> eqZ x (Int.ofNat 0) = false := fun e => eqZ_f (b := Int.ofNat 0) e
 by_cases ha : a = 0
 case neg => rw [decide_eq_false ha]; exact cO (w36_7 (k0 := n ha))
 by_cases hb : b = 0
 case neg => rw [decide_eq_true ha, decide_eq_false hb]; exact cO (w36_6 (k0 := z ha) (k1 := n hb))
 by_cases hv : v = 0
 case neg => rw [decide_eq_true ha, decide_eq_true hb, decide_eq_false hv]; exact cO (w36_5 (k0 := z ha) (k1 := z hb) (k2 := n hv))
 by_cases ht : t = 0
 case neg => rw [decide_eq_true ha, decide_eq_true hb, decide_eq_true hv, decide_eq_false ht]; exact cO (w36_4 (k0 := z ha) (k1 := z hb) (k2 := z hv) (k3 := n ht))
 rw [decide_eq_true ha, decide_eq_true hb, decide_eq_true hv, decide_eq_true ht]
 have el0 := len0 (l := l)
 have bd0 := len0 (l := bd)
 have ee0 := len0 (l := el)
 cases hl : l.isEmpty with
 | false => rw [hl] at el0; exact cO (w36_3 (k0 := z ha) (k1 := z hb) (k2 := z hv) (k3 := z ht) (k4 := el0))
 | true =>
  rw [hl] at el0
  cases hbd : bd.isEmpty with
  | false => rw [hbd] at bd0; exact cO (w36_2 (k0 := z ha) (k1 := z hb) (k2 := z hv) (k3 := z ht) (k4 := el0) (k5 := bd0))
  | true =>
   rw [hbd] at bd0
   cases hel : el.isEmpty with
   | false => rw [hel] at ee0; exact cO (w36_1 (k0 := z ha) (k1 := z hb) (k2 := z hv) (k3 := z ht) (k4 := el0) (k5 := bd0) (k6 := ee0))
   | true => rw [hel] at ee0; exact cO (w36_0 (k0 := z ha) (k1 := z hb) (k2 := z hv) (k3 := z ht) (k4 := el0) (k5 := bd0) (k6 := ee0))
end
end Go.Proofs.YtoblgjmllmomhaaGreatDoor
namespace Go.Proofs.YtoblgjmllmomhaaGreatDoor
set_option maxRecDepth 100000
open Go Go.Proofs.Am
section
variable {m : Int}
def MayR (m : Int) (x : Ins) : Prop := ∀ h : Heap, cA m 44 [.v (.agg (encI x))] h = some (.v (.bool (mayI opI x)), h)
theorem encN_e (l : List Int) : (encN l).isEmpty = l.isEmpty := by cases l <;> rfl
theorem encIs_e (l : List Ins) : (encIs l).isEmpty = l.isEmpty := by cases l <;> rfl
theorem mayL_of {xs : List Ins} (h : ∀ x, x ∈ xs -> MayR m x) (hl : xs.length < 2 ^ 62) (hp : Heap) : cA m 19 [vM (encIs xs)] hp = some (.v (.bool (mayL opI xs)), hp) := by
 have e : mayL opI xs = !(xs.any fun x => !mayI opI x) := by
  rw [mayL_mem]
  induction xs with
  | nil => rfl
  | cons x xs ih =>
   rw [List.all_cons, List.any_cons, ih (fun y hy => h y (List.mem_cons_of_mem _ hy)) (by simp at hl; omega)]
   cases mayI opI x <;> simp
 rw [e, encIs_map]
 refine cO (w13_0 (k0 := has31 (F := fun x => !mayI opI x) (fun x hx h' => ?_) hl))
 have := h x hx h'
 cases x
 exact cO (w18_0 (k0 := this))
theorem block_B {o a b v t : Int} {l : List Int} {bd el : List Ins} {q : Bool} (hb : ∀ x, x ∈ bd -> MayR m x) (he : ∀ x, x ∈ el -> MayR m x) (hlb : bd.length < 2 ^ 62) (hle : el.length < 2 ^ 62) (h : Heap) :
  cA m 81 [.v (.agg (encI (.mk o a b v t l bd el q)))] h = some (.v (.bool (decide (0 <= t) && decide (t <= 2) && mayL opI bd && mayL opI el && !(decide (o ≠ 4) && q) && !(!q && !el.isEmpty) && (decide (a = 0) && decide (b = 0) && decide (v = 0) && l.isEmpty))), h) := by
 have cb := mayL_of hb hlb h
 have ce := mayL_of he hle h
 have cbr : cA m 84 [.v (.agg [.int .i64 o, .int .i64 a, .int .i64 b, .int .u64 v, .int .i64 (Int.ofNat 0), .imm (encN l), .imm [], .imm [], .bool false])] h = some (.v (.bool (decide (a = 0) && decide (b = 0) && decide (v = 0) && l.isEmpty)), h) := by
  have := bare_Z (m := m) o a b v (Int.ofNat 0) (encN l) [] [] false h
  rw [this]
  unfold bareB
  rw [encN_e]
  simp
 by_cases h0 : 0 <= t
 case neg =>
  rw [decide_eq_false h0]
  exact cO (w33_0 (k0 := ltZ_t (b := Int.ofNat 0) (by rw [ofN]; omega)))
 rw [decide_eq_true h0]
 have k0 : ltZ t (Int.ofNat 0) = false := ltZ_f (b := Int.ofNat 0) h0
 by_cases h2 : t <= 2
 case neg =>
  rw [decide_eq_false h2]
  exact cO (w33_1 (k0 := k0) (k1 := ltZ_t (a := Int.ofNat 2) (by rw [ofN]; omega)))
 rw [decide_eq_true h2]
 have k1 : ltZ (Int.ofNat 2) t = false := ltZ_f (a := Int.ofNat 2) h2
 cases mb : mayL opI bd with
 | false =>
  rw [mb] at cb
  exact cO (w33_2 (k0 := k0) (k1 := k1) (k2 := cb) (k3 := rfl))
 | true =>
  rw [mb] at cb
  cases me : mayL opI el with
  | false =>
   rw [me] at ce
   exact cO (w33_3 (k0 := k0) (k1 := k1) (k2 := cb) (k3 := rfl) (k4 := ce) (k5 := rfl))
  | true =>
   rw [me] at ce
   have lt0 : ltZ (Int.ofNat 0) (Int.ofNat (encIs el).length) = !el.isEmpty := by
    cases el with
    | nil => rfl
    | cons x xs => exact ltZ_t (by rw [ofN, ofN, encIs_len]; simp)
   by_cases h4 : o = 4
   ·rw [show (decide (o ≠ 4)) = false by simp [h4], Bool.false_and]
    have k6 : (!eqZ o (Int.ofNat 4)) = false := congrArg not (eqZ_t (b := Int.ofNat 4) h4)
    cases q with
    | true =>
     simp only [Bool.not_true, Bool.false_and, Bool.not_false, Bool.true_and, Bool.and_true]
     exact cO (w33_10 (k0 := k0) (k1 := k1) (k2 := cb) (k3 := rfl) (k4 := ce) (k5 := rfl) (k6 := k6) (k7 := rfl) (k8 := cbr))
    | false =>
     cases hel : el.isEmpty with
     | true =>
      rw [hel] at lt0
      simp only [Bool.not_true, Bool.and_false, Bool.not_false, Bool.true_and, Bool.and_true]
      exact cO (w33_9 (k0 := k0) (k1 := k1) (k2 := cb) (k3 := rfl) (k4 := ce) (k5 := rfl) (k6 := k6) (k7 := rfl) (k8 := lt0) (k9 := cbr))
     | false =>
      rw [hel] at lt0
      exact cO (w33_8 (k0 := k0) (k1 := k1) (k2 := cb) (k3 := rfl) (k4 := ce) (k5 := rfl) (k6 := k6) (k7 := rfl) (k8 := lt0))
   ·rw [show (decide (o ≠ 4)) = true by simp [h4], Bool.true_and]
    have k6 : (!eqZ o (Int.ofNat 4)) = true := congrArg not (eqZ_f (b := Int.ofNat 4) h4)
    cases q with
    | true =>
     exact cO (w33_4 (k0 := k0) (k1 := k1) (k2 := cb) (k3 := rfl) (k4 := ce) (k5 := rfl) (k6 := k6) (k7 := rfl))
    | false =>
     cases hel : el.isEmpty with
     | true =>
      rw [hel] at lt0
      simp only [Bool.not_true, Bool.and_false, Bool.not_false, Bool.true_and, Bool.and_true]
      exact cO (w33_6 (k0 := k0) (k1 := k1) (k2 := cb) (k3 := rfl) (k4 := ce) (k5 := rfl) (k6 := k6) (k7 := rfl) (k8 := rfl) (k9 := lt0) (k10 := cbr))
     | false =>
      rw [hel] at lt0
      exact cO (w33_5 (k0 := k0) (k1 := k1) (k2 := cb) (k3 := rfl) (k4 := ce) (k5 := rfl) (k6 := k6) (k7 := rfl) (k8 := rfl) (k9 := lt0))
theorem and_ac (A B V T K D E Q : Bool) : (A && B && V && T && K && D && E && Q) = (A && B && V && K && (T && D && E && Q)) := by
 simp only [Bool.and_left_comm, Bool.and_comm]
theorem any_all (l : List Int) : (l.any fun n => !numZ n) = !(l.all numZ) := by
 induction l with
 | nil => rfl
 | cons x l ih => rw [List.any_cons, List.all_cons, ih]; cases numZ x <;> simp
theorem may_of {o a b v t : Int} {l : List Int} {bd el : List Ins} {q : Bool} (hb : ∀ x, x ∈ bd -> MayR m x) (he : ∀ x, x ∈ el -> MayR m x) (hlb : bd.length < 2 ^ 62) (hle : el.length < 2 ^ 62) (hll : l.length < 2 ^ 62) : MayR m (.mk o a b v t l bd el q) := by
 intro h
 unfold mayI
 cases hop : opI o with
 | none =>
  simp only
  rcases look_cases o with ⟨_, _, _, hr, _⟩ | ⟨_, hno⟩
  ·rw [hop] at hr; cases hr
  obtain ⟨ob, nm, k, tk, gv, bz, sg, c, hlk⟩ := isNo_eq hno
  have hlk2 : (lookV o, h) = (LV.tup [opA ob nm k tk gv bz sg, errA (some c)], h) := by rw [hlk]; rfl
  exact cO (w19_0 (k0 := hlk2) (k1 := err_neq (some c)) (k2 := rfl))
 | some r =>
  have f := op_facts hop
  have k0 : (lookV o, h) = (LV.tup [opA r.byte r.nm r.kind (encN r.takes) r.gives r.bytes r.sg, .nilI], h) := by
   have := opP_some hop
   unfold opI at *
   rw [this]
  have k1 := err_neq none
  simp only
  by_cases h2 : r.kind = 2
  ·rw [if_pos h2]
   exact cO (w19_1 (k0 := k0) (k1 := k1) (k2 := rfl) (k3 := eqZ_t (b := Int.ofNat 2) h2) (k4 := block_B hb he hlb hle h))
  rw [if_neg h2]
  have e2 := eqZ_f (b := Int.ofNat 2) h2
  have br : ∀ (a' b' v' : Int) (l' : List Int), cA m 84 [.v (.agg [.int .i64 o, .int .i64 a', .int .i64 b', .int .u64 v', .int .i64 t, .imm (encN l'), .imm (encIs bd), .imm (encIs el), .bool q])] h = some (.v (.bool (decide (a' = 0) && decide (b' = 0) && decide (v' = 0) && l'.isEmpty && (decide (t = 0) && bd.isEmpty && el.isEmpty && !q))), h) := fun a' b' v' l' => by
   rw [bare_Z]
   unfold bareB
   rw [encN_e, encIs_e, encIs_e, and_ac]
  generalize (decide (t = 0) && bd.isEmpty && el.isEmpty && !q) = T at br ⊢
  unfold mayP
  by_cases h10 : r.kind = 10
  ·rw [if_pos h10]
   have e10 := eqZ_t (b := Int.ofNat 10) h10
   have hbr := br a b 0 l
   rw [show (decide ((0 : Int) = 0)) = true from rfl, Bool.and_true] at hbr
   by_cases hg : r.gives = 1
   ·rw [decide_eq_true hg, Bool.true_and]
    have eg := eqZ_t (b := Int.ofNat 1) hg
    by_cases hv : 4294967295 < v
    ·rw [decide_eq_true hv, Bool.not_true, Bool.false_and, Bool.false_and]
     exact cO (w19_2 (k0 := k0) (k1 := k1) (k2 := rfl) (k3 := e2) (k4 := e10) (k5 := eg) (k6 := ltZ_t (a := Int.ofNat 4294967295) hv))
    ·rw [decide_eq_false hv, Bool.not_false, Bool.true_and]
     exact cO (w19_3 (k0 := k0) (k1 := k1) (k2 := rfl) (k3 := e2) (k4 := e10) (k5 := eg) (k6 := ltZ_f (a := Int.ofNat 4294967295) (Int.not_lt.1 hv)) (k7 := hbr))
   ·rw [decide_eq_false hg, Bool.false_and, Bool.not_false, Bool.true_and]
    exact cO (w19_4 (k0 := k0) (k1 := k1) (k2 := rfl) (k3 := e2) (k4 := e10) (k5 := eqZ_f (b := Int.ofNat 1) hg) (k6 := hbr))
  rw [if_neg h10]
  have e10 := eqZ_f (b := Int.ofNat 10) h10
  have na := num_Z (m := m) a h
  have nb := num_Z (m := m) b h
  by_cases h78 : r.kind = 7 ∨ r.kind = 8
  ·rw [if_pos h78]
   have hbr := br 0 0 v l
   rw [show (decide ((0 : Int) = 0)) = true from rfl, Bool.true_and, Bool.true_and] at hbr
   by_cases h7 : r.kind = 7
   ·have e7 := eqZ_t (b := Int.ofNat 7) h7
    cases qa : numZ a with
    | false =>
     rw [qa] at na
     exact cO (w19_5 (k0 := k0) (k1 := k1) (k2 := rfl) (k3 := e2) (k4 := e10) (k5 := e7) (k6 := na) (k7 := rfl))
    | true =>
     rw [qa] at na
     cases qb : numZ b with
     | false =>
      rw [qb] at nb
      exact cO (w19_6 (k0 := k0) (k1 := k1) (k2 := rfl) (k3 := e2) (k4 := e10) (k5 := e7) (k6 := na) (k7 := rfl) (k8 := nb) (k9 := rfl))
     | true =>
      rw [qb] at nb
      simp only [Bool.true_and]
      exact cO (w19_7 (k0 := k0) (k1 := k1) (k2 := rfl) (k3 := e2) (k4 := e10) (k5 := e7) (k6 := na) (k7 := rfl) (k8 := nb) (k9 := rfl) (k10 := hbr))
   ·have e7 := eqZ_f (b := Int.ofNat 7) h7
    have e8 := eqZ_t (b := Int.ofNat 8) (h78.resolve_left h7)
    cases qa : numZ a with
    | false =>
     rw [qa] at na
     exact cO (w19_8 (k0 := k0) (k1 := k1) (k2 := rfl) (k3 := e2) (k4 := e10) (k5 := e7) (k6 := e8) (k7 := na) (k8 := rfl))
    | true =>
     rw [qa] at na
     cases qb : numZ b with
     | false =>
      rw [qb] at nb
      exact cO (w19_9 (k0 := k0) (k1 := k1) (k2 := rfl) (k3 := e2) (k4 := e10) (k5 := e7) (k6 := e8) (k7 := na) (k8 := rfl) (k9 := nb) (k10 := rfl))
     | true =>
      rw [qb] at nb
      simp only [Bool.true_and]
      exact cO (w19_10 (k0 := k0) (k1 := k1) (k2 := rfl) (k3 := e2) (k4 := e10) (k5 := e7) (k6 := e8) (k7 := na) (k8 := rfl) (k9 := nb) (k10 := rfl) (k11 := hbr))
  rw [if_neg h78]
  have e7 := eqZ_f (b := Int.ofNat 7) (fun e => h78 (.inl e))
  have e8 := eqZ_f (b := Int.ofNat 8) (fun e => h78 (.inr e))
  have kb := f.bt
  have kr := f.rt
  by_cases h14 : o = 14
  ·rw [if_pos h14]
   rw [decide_eq_true h14] at kb
   have hbr := br a b v []
   rw [show (([] : List Int).isEmpty) = true from rfl, Bool.and_true] at hbr
   have l0 := len0 (l := encN l)
   rw [encN_e] at l0
   have ns := nums_Z (m := m) hll h
   rw [any_all] at ns
   cases ql : l.isEmpty with
   | true =>
    rw [ql] at l0
    exact cO (w19_11 (k0 := k0) (k1 := k1) (k2 := rfl) (k3 := e2) (k4 := e10) (k5 := e7) (k6 := e8) (k7 := kb) (k8 := l0))
   | false =>
    rw [ql] at l0
    cases qa : l.all numZ with
    | false =>
     rw [qa] at ns
     exact cO (w19_12 (k0 := k0) (k1 := k1) (k2 := rfl) (k3 := e2) (k4 := e10) (k5 := e7) (k6 := e8) (k7 := kb) (k8 := l0) (k9 := ns) (k10 := rfl))
    | true =>
     rw [qa] at ns
     simp only [Bool.not_false, Bool.true_and]
     exact cO (w19_13 (k0 := k0) (k1 := k1) (k2 := rfl) (k3 := e2) (k4 := e10) (k5 := e7) (k6 := e8) (k7 := kb) (k8 := l0) (k9 := ns) (k10 := rfl) (k11 := hbr))
  rw [if_neg h14]
  rw [decide_eq_false h14] at kb
  have hbr := br 0 b v l
  rw [show (decide ((0 : Int) = 0)) = true from rfl, Bool.true_and] at hbr
  by_cases h4 : r.kind = 4
  ·rw [if_pos (.inl h4)]
   have e4 := eqZ_t (b := Int.ofNat 4) h4
   cases qa : numZ a with
   | false =>
    rw [qa] at na
    exact cO (w19_14 (k0 := k0) (k1 := k1) (k2 := rfl) (k3 := e2) (k4 := e10) (k5 := e7) (k6 := e8) (k7 := kb) (k8 := e4) (k9 := na) (k10 := rfl))
   | true =>
    rw [qa] at na
    simp only [Bool.true_and]
    exact cO (w19_15 (k0 := k0) (k1 := k1) (k2 := rfl) (k3 := e2) (k4 := e10) (k5 := e7) (k6 := e8) (k7 := kb) (k8 := e4) (k9 := na) (k10 := rfl) (k11 := hbr))
  have e4 := eqZ_f (b := Int.ofNat 4) h4
  by_cases h6 : r.kind = 6
  ·rw [if_pos (.inr (.inl h6))]
   have e6 := eqZ_t (b := Int.ofNat 6) h6
   cases qa : numZ a with
   | false =>
    rw [qa] at na
    exact cO (w19_16 (k0 := k0) (k1 := k1) (k2 := rfl) (k3 := e2) (k4 := e10) (k5 := e7) (k6 := e8) (k7 := kb) (k8 := e4) (k9 := e6) (k10 := na) (k11 := rfl))
   | true =>
    rw [qa] at na
    simp only [Bool.true_and]
    exact cO (w19_17 (k0 := k0) (k1 := k1) (k2 := rfl) (k3 := e2) (k4 := e10) (k5 := e7) (k6 := e8) (k7 := kb) (k8 := e4) (k9 := e6) (k10 := na) (k11 := rfl) (k12 := hbr))
  have e6 := eqZ_f (b := Int.ofNat 6) h6
  have hbr2 := br a b v l
  by_cases h3 : r.kind = 3
  ·have e3 := eqZ_t (b := Int.ofNat 3) h3
   by_cases h15 : o = 15
   ·rw [if_neg (fun hh => hh.elim h4 fun hh => hh.elim h6 fun hh => hh.2 h15)]
    rw [decide_eq_true h15] at kr
    exact cO (w19_20 (k0 := k0) (k1 := k1) (k2 := rfl) (k3 := e2) (k4 := e10) (k5 := e7) (k6 := e8) (k7 := kb) (k8 := e4) (k9 := e6) (k10 := e3) (k11 := congrArg not kr) (k12 := hbr2))
   ·rw [if_pos (.inr (.inr ⟨h3, h15⟩))]
    rw [decide_eq_false h15] at kr
    cases qa : numZ a with
    | false =>
     rw [qa] at na
     exact cO (w19_18 (k0 := k0) (k1 := k1) (k2 := rfl) (k3 := e2) (k4 := e10) (k5 := e7) (k6 := e8) (k7 := kb) (k8 := e4) (k9 := e6) (k10 := e3) (k11 := congrArg not kr) (k12 := na) (k13 := rfl))
    | true =>
     rw [qa] at na
     simp only [Bool.true_and]
     exact cO (w19_19 (k0 := k0) (k1 := k1) (k2 := rfl) (k3 := e2) (k4 := e10) (k5 := e7) (k6 := e8) (k7 := kb) (k8 := e4) (k9 := e6) (k10 := e3) (k11 := congrArg not kr) (k12 := na) (k13 := rfl) (k14 := hbr))
  ·rw [if_neg (fun hh => hh.elim h4 fun hh => hh.elim h6 fun hh => h3 hh.1)]
   exact cO (w19_21 (k0 := k0) (k1 := k1) (k2 := rfl) (k3 := e2) (k4 := e10) (k5 := e7) (k6 := e8) (k7 := kb) (k8 := e4) (k9 := e6) (k10 := eqZ_f (b := Int.ofNat 3) h3) (k11 := hbr2))
mutual
theorem may_R : ∀ x : Ins, cI x < 2 ^ 62 -> MayR m x
 | .mk _ _ _ _ _ l bd el _ => fun h => by
  rw [cI] at h
  have h1 := cL_len bd
  have h2 := cL_len el
  exact may_of (mays_R bd (by omega)) (mays_R el (by omega)) (by omega) (by omega) (by omega)
theorem mays_R : ∀ xs : List Ins, cL xs < 2 ^ 62 -> ∀ x, x ∈ xs -> MayR m x
 | [] => fun _ x hx => by cases hx
 | y :: ys => fun h x hx => by
  rw [cL] at h
  have h1 := may_R y (by omega)
  have h2 := mays_R ys (by omega)
  rcases List.mem_cons.1 hx with e | hx
  ·rw [e]; exact h1
  ·exact h2 x hx
end
theorem mayL_Z {xs : List Ins} (h : cL xs < 2 ^ 62) (hp : Heap) : cA m 19 [vM (encIs xs)] hp = some (.v (.bool (mayL opI xs)), hp) :=
 mayL_of (mays_R xs h) (by have := cL_len xs; omega) hp
def ls0 : LS := ⟨[], [], none⟩
def checkP (s : Scp) (xs : List Ins) : Option Int := if (mayL opI xs && mayS s) = true then (LS.runL opI s xs (rsl s.re) (ls0.push (rsl s.re) (rsl s.re))).err else some 1
theorem check_Z {R : Nat} {s : Scp} {xs : List Ins} (hR : TyLen R s) (hs : ScpLen (2 ^ 62) s) (hx : (R + 6) * cL xs + 4 < 2 ^ 41) (h : Heap) : ∃ h', cA m 10 [.v (.agg s.enc), vM (encIs xs)] h = some (.v (errA (checkP s xs)), h') := by
 have h2 : cL xs <= (R + 6) * cL xs := Nat.le_mul_of_pos_left _ (by omega)
 have c1 := mayL_Z (m := m) (xs := xs) (by omega) h
 have c2 := mayS_Z (m := m) (h := h) hs
 unfold checkP
 cases q1 : mayL opI xs with
 | false =>
  rw [q1] at c1
  exact ⟨h, cO (w9_0 (k0 := c1) (k1 := rfl))⟩
 | true =>
  rw [q1] at c1
  cases q2 : mayS s with
  | false =>
   rw [q2] at c2
   exact ⟨h, cO (w9_1 (k0 := c1) (k1 := rfl) (k2 := c2) (k3 := rfl))⟩
  | true =>
   rw [q2] at c2
   rw [if_pos (show (true && true) = true from rfl)]
   have H0 : HR s h.bx.length { bx := h.bx ++ [[vM (s.ty.map FTy.enc), vM (encN s.fn), vM (s.gl.map Glo.enc), .v (.bool s.tb), .v (.bool s.mm), vM (encN s.lo), .v (.int .i64 s.re), .v .nilS, .v .nilS, .v .nilI]], mp := h.mp } none none .nilS .nilS ls0 :=
    ⟨by simp; rfl, ⟨rfl, rfl⟩, ⟨rfl, rfl⟩, by simp, by simp, by simp⟩
   have hr := rsl_len s.re
   obtain ⟨id, h1, h2', ha, hst, H2⟩ := push_H H0 (by decide) (rsl s.re) (rsl s.re)
   have I2 : Inv 1 (ls0.push (rsl s.re) (rsl s.re)) := ⟨WF.push0 rfl _ _, fun b hb => by
    simp only [LS.push, ls0, List.nil_append, List.mem_singleton] at hb
    rw [hb]; exact hr, by simp [LS.push, ls0]⟩
   have h6 : 6 * cL xs <= (R + 6) * cL xs := Nat.mul_le_mul_right _ (by omega)
   have hlen := cL_len xs
   obtain ⟨h3, c3, H3⟩ := loop_R (m := m) (s := s) (L := h.bx.length) hR xs q1 [] hr (by simpa using (by omega : xs.length < 2 ^ 40)) I2 (by omega) ⟨_, _, _, _, H2⟩
   have l9 := H0.ld9
   have c15 : cA m 21 [.v (.ptr h.bx.length 0), vM (encIs xs), .v (.imm (encN (rsl s.re))), .v (.imm (encN (rsl s.re)))] _ = some (.tup [], h3) :=
    cO (w15_1 (k0 := l9) (k1 := err_neq none) (k2 := rfl) (k3 := H0.ld8) (k4 := H0.ld7) (k5 := rfl) (k6 := ha) (k7 := hst) (k8 := c3))
   exact ⟨h3, cO (w9_2 (k0 := c1) (k1 := rfl) (k2 := c2) (k3 := rfl) (k4 := list_Z _ _) (k5 := list_Z _ _) (k6 := c15) (k7 := ld9R H3))⟩
end
end Go.Proofs.YtoblgjmllmomhaaGreatDoor
