/-
  Laws BodyMore and BodyBlocks, gone through.
-/
import Derived.Test.YtjelldpjopdimaaDoorAmS13u
import Derived.Test.YtjelldpjopdimaaDoorAmS13wO
import Derived.Test.YtjelldpjopdimaaDoorAmBodyF

namespace Go.Proofs.YtjelldpjopdimaaDoor
open Go Go.Proofs.Am

theorem hOP : ∀ (o : Int) (r : OpR), opI o = some r → r.kind = 4 ∨ r.kind = 6 → o ≠ 14 := by
  intro o r h hk e
  have f := op_facts h
  rcases hk with hk | hk
  · have := f.k4 hk; omega
  · have := f.k6 hk; omega
theorem check_none {s : Scp} {xs : List Ins} (h : checkP s xs = none) : mayL opI xs = true ∧ mayS s = true ∧ (LS.runL opI s xs (rsl s.re) (ls0.push (rsl s.re) (rsl s.re))).err = none := by
  unfold checkP at h
  split at h
  · rename_i hm
    rw [Bool.and_eq_true] at hm
    exact ⟨hm.1, hm.2, h⟩
  · cases h
theorem check_is {s : Scp} {xs : List Ins} (h1 : mayL opI xs = true) (h2 : mayS s = true) (h3 : (LS.runL opI s xs (rsl s.re) (ls0.push (rsl s.re) (rsl s.re))).err = none) : checkP s xs = none := by
  unfold checkP
  rw [h1, h2]
  exact h3
theorem inv0 (re : Int) : Inv 1 (ls0.push (rsl re) (rsl re)) := by
  refine ⟨WF.push0 rfl _ _, fun b hb => ?_, by simp [LS.push, ls0]⟩
  simp only [LS.push, ls0, List.nil_append, List.mem_singleton] at hb
  rw [hb]; exact rsl_len re
/-! ### More of everything -/
def moreS (s : Scp) (t : Int) : Scp := { ty := s.ty ++ [⟨[t], []⟩], fn := s.fn ++ [(s.ty.length : Int)], gl := s.gl ++ [⟨t, false, .mk 0 0 0 0 0 [] [] [] false⟩], tb := true, mm := true, lo := s.lo ++ [t], re := s.re }
theorem get_app {A : Type} (l k : List A) (n : Nat) (t : A) (h : l[n]? = some t) : (l ++ k)[n]? = some t := by
  rw [List.getElem?_append_left (List.getElem?_eq_some_iff.1 h).1]; exact h
theorem more_wider (s : Scp) (t : Int) : Wider s (moreS s t) := ⟨get_app _ _, get_app _ _, get_app _ _, get_app _ _, fun _ => rfl, fun _ => rfl, rfl⟩
theorem more_ok {s : Scp} {xs : List Ins} {R : Nat} (hR : TyLen R s) {t : Int} (ht : t = 1 ∨ t = 2) (h : checkP s xs = none) : checkP (moreS s t) xs = none := by
  obtain ⟨h1, h2, h3⟩ := check_none h
  refine check_is h1 ?_ ?_
  · have ho : odd t = false := by rcases ht with rfl | rfl <;> rfl
    unfold mayS at h2 ⊢
    simp only [moreS, List.any_append, List.any_cons, List.any_nil, ho, Bool.or_false]
    exact h2
  · have := s_runL sim_id (more_wider s t) hR hOP xs h1 (rsl s.re) (rsl_len s.re) 1 _ (inv0 s.re) h3
    show (LS.runL opI (moreS s t) xs (rsl s.re) (ls0.push (rsl s.re) (rsl s.re))).err = none
    have e : tr (fun l => l) (ls0.push (rsl s.re) (rsl s.re)) = ls0.push (rsl s.re) (rsl s.re) := rfl
    rw [e] at this
    rw [this]
    exact h3
/-! ### In a block; behind unreachable -/
theorem op2 : (opI 2).map (·.kind) = some 2 := by kernel_rfl
theorem op0 : (opI 0).map (·.kind) = some 1 := by kernel_rfl
theorem mayU : mayI opI (ins0 0 0) = true := by kernel_rfl
theorem block_ok {s : Scp} {xs : List Ins} {R : Nat} (hR : TyLen R s) (h : checkP s xs = none) : checkP s [.mk 2 0 0 0 s.re [] xs [] false] = none := by
  obtain ⟨h1, h2, h3⟩ := check_none h
  obtain ⟨r, hop, hk⟩ := Option.map_eq_some_iff.1 op2
  have hre : 0 ≤ s.re ∧ s.re ≤ 2 := by
    unfold mayS at h2
    simp only [Bool.and_eq_true, decide_eq_true_eq] at h2
    exact ⟨h2.1.2, h2.2⟩
  refine check_is ?_ h2 ?_
  · rw [mayL, mayL, mayI, hop]
    simp only [hk, if_true, decide_eq_true hre.1, decide_eq_true hre.2, h1]
    rfl
  · have hs := s_runL (sim_cons ⟨rsl s.re, rsl s.re, 0, false⟩) (Wider.refl s) hR hOP xs h1 (rsl s.re) (rsl_len s.re) 1 _ (inv0 s.re) h3
    have e0 : tr (fun l => (⟨rsl s.re, rsl s.re, 0, false⟩ : Blk) :: l) (ls0.push (rsl s.re) (rsl s.re)) = (ls0.push (rsl s.re) (rsl s.re)).push (rsl s.re) (rsl s.re) := rfl
    rw [e0] at hs
    obtain ⟨l1, l2⟩ := run_left (xs := xs) (re := rsl s.re) (σ := ls0.push (rsl s.re) (rsl s.re)) rfl h3
    have ei : LS.instr opI s (.mk 2 0 0 0 s.re [] xs [] false) (ls0.push (rsl s.re) (rsl s.re)) = LS.runL opI s xs (rsl s.re) ((ls0.push (rsl s.re) (rsl s.re)).push (rsl s.re) (rsl s.re)) := by
      rw [instr_is hop, if_pos hk, if_neg (by decide)]
      rfl
    rw [LS.runL, if_neg (show ¬ (ls0.push (rsl s.re) (rsl s.re)).err.isSome = true from fun e => by cases e), ei, hs, LS.runL]
    generalize LS.runL opI s xs (rsl s.re) (ls0.push (rsl s.re) (rsl s.re)) = τ at h3 l1 l2
    have e2 : tr (fun l => (⟨rsl s.re, rsl s.re, 0, false⟩ : Blk) :: l) τ = ⟨(rsl s.re).filter (· ≠ 0), [⟨rsl s.re, rsl s.re, 0, false⟩], none⟩ := by
      unfold tr
      rw [l1, l2, h3]
    rw [e2]
    exact fin_fits s.re _ rfl
theorem unr_ok {s : Scp} {xs : List Ins} {R : Nat} (hR : TyLen R s) (h : checkP s xs = none) : checkP s (ins0 0 0 :: xs) = none := by
  obtain ⟨h1, h2, h3⟩ := check_none h
  obtain ⟨r, hop, hk⟩ := Option.map_eq_some_iff.1 op0
  refine check_is ?_ h2 ?_
  · rw [mayL, mayU, h1]
    rfl
  · have hs := s_runL sim_nv0 (Wider.refl s) hR hOP xs h1 (rsl s.re) (rsl_len s.re) 1 _ (inv0 s.re) h3
    have ei : LS.instr opI s (ins0 0 0) (ls0.push (rsl s.re) (rsl s.re)) = tr nv0 (ls0.push (rsl s.re) (rsl s.re)) := by
      unfold ins0
      rw [instr_is hop, if_neg (by omega), if_neg (by omega), if_neg (by omega), if_neg (by omega), if_neg (by omega), if_pos rfl]
      rfl
    rw [LS.runL, if_neg (show ¬ (ls0.push (rsl s.re) (rsl s.re)).err.isSome = true from fun e => by cases e), ei, hs]
    exact h3
section
variable {m : Int}
theorem ap_all {A : Type} {f : A → List AV} {n b : Nat} (hf : ∀ a, (f a).length = n) (hb : 0 < b) (hb2 : b ≤ 200) (l : List A) (hl : l.length ≤ 1048577) : apL (.ow n []) n b (l.map f) = some (.ow n (l.map f)) := by
  have := ap_owned (n := n) (b := b) (out := []) (ys := l.map f) (by cases l with
    | nil => rfl
    | cons x l => exact (by show Nat.beq (f x).length n = true; rw [hf]; exact Nat.beq_refl n)) (by
    have := Nat.mul_le_mul hl hb2
    simp only [List.length_nil, List.length_map, Nat.zero_add]; omega) hb
  simpa using this
theorem ap_more {A : Type} {f : A → List AV} {n b : Nat} (hf : ∀ a, (f a).length = n) (hb : 0 < b) (hb2 : b ≤ 200) (l : List A) (hl : l.length ≤ 1048577) (x : A) : apL (.ow n (l.map f)) n b [f x] = some (.ow n ((l ++ [x]).map f)) := by
  have := ap_owned (n := n) (b := b) (out := l.map f) (ys := [f x]) (fit_one (hf x)) (by
    have := Nat.mul_le_mul (Nat.add_le_add_right hl 1) hb2
    rw [List.length_map, List.length_singleton]; omega) hb
  rw [this, List.map_append]
  rfl
theorem blocks_walk {s : Scp} {xs : List Ins} (hS : Small s xs) (h : Heap) : ∃ h', blk (cxZ m) 4 (body_ Tryd.prog 4) [.v (.agg s.enc), .v (.imm (encIs xs))] h = some (.v (.bool true), h') := by
  obtain ⟨hc, _, _⟩ := all3 (m := m) (xs := xs) (by have := hS.co; omega)
  have hco := hS.co
  have hlen := cL_len xs
  obtain ⟨h1, c1⟩ := up_Z (m := m) h
  obtain ⟨n, d, c2⟩ := hc h1
  obtain ⟨q, c3⟩ := few_Z (m := m) (s := s) (by have := hS.ty; omega) h1
  cases q1 : ltZ (Int.ofNat 2000) n with
  | true => exact ⟨_, w4_0 (k0 := c1) (k1 := c2) (k2 := c3) (k3 := q1)⟩
  | false =>
    cases q with
    | false => exact ⟨_, w4_1 (k0 := c1) (k1 := c2) (k2 := c3) (k3 := q1) (k4 := rfl)⟩
    | true =>
      cases q2 : ltZ (Int.ofNat 30) d with
      | true => exact ⟨_, w4_2 (k0 := c1) (k1 := c2) (k2 := c3) (k3 := q1) (k4 := rfl) (k5 := q2)⟩
      | false =>
        obtain ⟨h2, c4⟩ := check_S (m := m) hS h1
        have hq := err_neq (checkP s xs)
        cases hck : checkP s xs with
        | some c =>
          rw [hck] at c4 hq
          exact ⟨_, w4_3 (k0 := c1) (k1 := c2) (k2 := c3) (k3 := q1) (k4 := rfl) (k5 := q2) (k6 := c4) (k7 := hq) (k8 := rfl)⟩
        | none =>
          rw [hck] at c4 hq
          have hm := Nat.mul_le_mul_left (1048576 + 6) hco
          obtain ⟨h3, c5⟩ := check_Z (m := m) (R := 1048576) hS.tl hS.scp (xs := [.mk 2 0 0 0 s.re [] xs [] false]) (by
            have e : cL [.mk 2 0 0 0 s.re [] xs [] false] = 1 + cL xs := by simp only [cL, cI, List.length_nil]; omega
            rw [e, Nat.mul_add]; omega) h2
          rw [block_ok hS.tl hck] at c5
          obtain ⟨h4, c6⟩ := check_Z (m := m) (R := 1048576) hS.tl hS.scp (xs := ins0 0 0 :: xs) (by
            have e : cL (ins0 0 0 :: xs) = 1 + cL xs := by simp only [ins0, cL, cI, List.length_nil]
            rw [e, Nat.mul_add]; omega) h3
          rw [unr_ok hS.tl hck] at c6
          have ap : apL (.ow 9 [encI (ins0 0 0)]) 9 120 (encIs xs) = some (.ow 9 (encIs (ins0 0 0 :: xs))) := by
            have := ap_owned (n := 9) (b := 120) (out := [encI (ins0 0 0)]) (ys := encIs xs) (by cases xs with
              | nil => rfl
              | cons x l => cases x; rfl) (by rw [encIs_len]; simp only [List.length_singleton]; omega) (by decide)
            rw [this]
            rfl
          exact ⟨_, w4_4 (k0 := c1) (k1 := c2) (k2 := c3) (k3 := q1) (k4 := rfl) (k5 := q2) (k6 := c4) (k7 := hq) (k8 := rfl) (k9 := c5) (k10 := ap) (k11 := c6) (k12 := rfl) (k13 := err_eql none) (k14 := rfl) (k15 := err_eql none)⟩
theorem one_two {z : Int} (h : 0 ≤ z) : IntKind.wrap .i64 (Int.ofNat 1 + Int.tmod z (Int.ofNat 2)) = 1 ∨ IntKind.wrap .i64 (Int.ofNat 1 + Int.tmod z (Int.ofNat 2)) = 2 := by
  have e : Int.tmod z (Int.ofNat 2) = z % 2 := Int.tmod_eq_emod_of_nonneg h
  rw [e, wrapI (by unfold InZ; rw [ofN]; omega), ofN]
  omega
theorem more_tail {s : Scp} {xs : List Ins} (hS : Small s xs) {t : Int} (ht : t = 1 ∨ t = 2) (hck : checkP s xs = none) (h : Heap) :
    (∃ h', callF (cxZ m) (blk (cxZ m)) 9 [.v (.agg (moreS s t).enc), .v (.imm (encIs xs))] h = some (.v (errA none), h')) ∧
    apL (.ow 1 []) 1 8 (encN s.lo) = some (.ow 1 (encN s.lo)) ∧ apL (.ow 1 (encN s.lo)) 1 8 [[.int .i64 t]] = some (.ow 1 (encN (moreS s t).lo)) ∧
    apL (.ow 2 []) 2 48 (s.ty.map FTy.enc) = some (.ow 2 (s.ty.map FTy.enc)) ∧ apL (.ow 2 (s.ty.map FTy.enc)) 2 48 [[.imm [[.int .i64 t]], .imm []]] = some (.ow 2 ((moreS s t).ty.map FTy.enc)) ∧
    apL (.ow 1 []) 1 8 (encN s.fn) = some (.ow 1 (encN s.fn)) ∧ apL (.ow 1 (encN s.fn)) 1 8 [[.int .i64 (IntKind.wrap .i64 (Int.ofNat ((moreS s t).ty.map FTy.enc).length - Int.ofNat 1))]] = some (.ow 1 (encN (moreS s t).fn)) ∧
    apL (.ow 11 []) 11 136 (s.gl.map Glo.enc) = some (.ow 11 (s.gl.map Glo.enc)) ∧ apL (.ow 11 (s.gl.map Glo.enc)) 11 136 [[.int .i64 t, .bool false, .int .i64 (Int.ofNat 0), .int .i64 (Int.ofNat 0), .int .i64 (Int.ofNat 0), .int .u64 (Int.ofNat 0), .int .i64 (Int.ofNat 0), .imm [], .imm [], .imm [], .bool false]] = some (.ow 11 ((moreS s t).gl.map Glo.enc)) := by
  have hty := hS.ty
  have hfn := hS.fn
  have hgl := hS.gl
  have hlo := hS.lo
  have hco := hS.co
  have hR : TyLen 1048577 (moreS s t) := fun x hx => by
    simp only [moreS, List.mem_append, List.mem_singleton] at hx
    rcases hx with hx | rfl
    · have := hS.tl x hx; omega
    · simp
  have hs2 : ScpLen (2 ^ 62) (moreS s t) := ⟨by simp only [moreS, List.length_append, List.length_singleton]; omega, fun x hx => by have := hR x hx; omega, by simp only [moreS, List.length_append, List.length_singleton]; omega, by simp only [moreS, List.length_append, List.length_singleton]; omega, by simp only [moreS, List.length_append, List.length_singleton]; omega⟩
  have hm := Nat.mul_le_mul_left (1048577 + 6) hco
  obtain ⟨h2, c⟩ := check_Z (m := m) hR hs2 (xs := xs) (by omega) h
  rw [more_ok hS.tl ht hck] at c
  have hw : IntKind.wrap .i64 (Int.ofNat ((moreS s t).ty.map FTy.enc).length - Int.ofNat 1) = (s.ty.length : Int) := by
    have e : ((moreS s t).ty.map FTy.enc).length = s.ty.length + 1 := by simp [moreS]
    rw [e, ofN, wrapN (by omega) (by omega)]
    omega
  refine ⟨⟨h2, c⟩, ap_ints (by omega), ap_more (f := fun x => [AV.int .i64 x]) (fun _ => rfl) (by decide) (by decide) _ (by omega) t, ap_all (f := FTy.enc) FTy.enc_len (by decide) (by decide) s.ty (by omega), ap_more (f := FTy.enc) (fun _ => rfl) (by decide) (by decide) _ (by omega) ⟨[t], []⟩, ap_ints (by omega), ?_, ap_all (f := Glo.enc) Glo.enc_len (by decide) (by decide) s.gl (by omega), ap_more (f := Glo.enc) Glo.enc_len (by decide) (by decide) _ (by omega) ⟨t, false, .mk 0 0 0 0 0 [] [] [] false⟩⟩
  rw [hw]
  exact ap_more (f := fun x => [AV.int .i64 x]) (fun _ => rfl) (by decide) (by decide) _ (by omega) (s.ty.length : Int)
theorem more_walk {s : Scp} {xs : List Ins} (hS : Small s xs) {z : Int} (hz : InZ z) (h : Heap) : ∃ h', blk (cxZ m) 3 (body_ Tryd.prog 3) [.v (.agg s.enc), .v (.imm (encIs xs)), .v (.int .i64 z)] h = some (.v (.bool true), h') := by
  obtain ⟨hc, _, _⟩ := all3 (m := m) (xs := xs) (by have := hS.co; omega)
  obtain ⟨h1, c1⟩ := up_Z (m := m) h
  obtain ⟨n, d, c2⟩ := hc h1
  obtain ⟨q, c3⟩ := few_Z (m := m) (s := s) (by have := hS.ty; omega) h1
  cases q1 : ltZ (Int.ofNat 2000) n with
  | true => exact ⟨_, w3_0 (k0 := c1) (k1 := c2) (k2 := c3) (k3 := q1)⟩
  | false =>
    cases q with
    | false => exact ⟨_, w3_1 (k0 := c1) (k1 := c2) (k2 := c3) (k3 := q1) (k4 := rfl)⟩
    | true =>
      obtain ⟨h2, c4⟩ := check_S (m := m) hS h1
      have hq := err_neq (checkP s xs)
      cases hck : checkP s xs with
      | some c =>
        rw [hck] at c4 hq
        exact ⟨_, w3_2 (k0 := c1) (k1 := c2) (k2 := c3) (k3 := q1) (k4 := rfl) (k5 := c4) (k6 := hq) (k7 := rfl)⟩
      | none =>
        rw [hck] at c4 hq
        unfold InZ at hz
        by_cases hz0 : z < 0
        · have hw : IntKind.wrap .i64 (Int.ofNat 0 - IntKind.wrap .i64 (z + Int.ofNat 1)) = -(z + 1) := by
            rw [wrapI (i := z + Int.ofNat 1) (by unfold InZ; rw [ofN]; omega), ofN, ofN, wrapI (by unfold InZ; omega)]
            omega
          have ht := one_two (z := IntKind.wrap .i64 (Int.ofNat 0 - IntKind.wrap .i64 (z + Int.ofNat 1))) (by rw [hw]; omega)
          obtain ⟨⟨h3, c5⟩, a1, a2, a3, a4, a5, a6, a7, a8⟩ := more_tail (m := m) hS ht hck h2
          exact ⟨h3, w3_3 (k0 := c1) (k1 := c2) (k2 := c3) (k3 := q1) (k4 := rfl) (k5 := c4) (k6 := hq) (k7 := rfl) (k8 := ltZ_t (b := Int.ofNat 0) hz0) (k9 := a1) (k10 := a2) (k11 := a3) (k12 := a4) (k13 := a5) (k14 := a6) (k15 := a7) (k16 := a8) (k17 := c5) (k18 := rfl) (k19 := err_eql none)⟩
        · have ht := one_two (z := z) (by omega)
          obtain ⟨⟨h3, c5⟩, a1, a2, a3, a4, a5, a6, a7, a8⟩ := more_tail (m := m) hS ht hck h2
          exact ⟨h3, w3_5 (k0 := c1) (k1 := c2) (k2 := c3) (k3 := q1) (k4 := rfl) (k5 := c4) (k6 := hq) (k7 := rfl) (k8 := ltZ_f (b := Int.ofNat 0) (by rw [ofN]; omega)) (k9 := a1) (k10 := a2) (k11 := a3) (k12 := a4) (k13 := a5) (k14 := a6) (k15 := a7) (k16 := a8) (k17 := c5) (k18 := rfl) (k19 := err_eql none)⟩
end
end Go.Proofs.YtjelldpjopdimaaDoor
