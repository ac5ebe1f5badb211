/-
  What valid asks of types, limits, imports, tables, memories, functions.
-/
import Derived.Test.YtoblgjmllmomhaaGreatDoorAmSVwC
import Derived.Test.YtoblgjmllmomhaaGreatDoorAmSVI
import Derived.Test.YtoblgjmllmomhaaGreatDoorAmS15t
namespace Go.Proofs.YtoblgjmllmomhaaGreatDoor
set_option maxRecDepth 100000
open Go Go.RowKit Go.Proofs.Am
section
variable {m : Int} {h : Heap}
theorem has111_loop {xs : List Lim} {fv : AV} {F : Lim → Bool} (hf : ∀ x, x ∈ xs → callV (cxZ m) (blk (cxZ m)) fv [.v (.agg x.enc)] h = some (.v (.bool (F x)), h)) (hl : xs.length < 2 ^ 62) : ∀ (k i : Nat), i + k = xs.length →
  ∃ z : Int, blk (cxZ m) 111 (at_ Tryz.prog 111 2) [.v (.imm (xs.map Lim.enc)), .v fv, .v (.int .i64 (Int.ofNat xs.length)), .v (.int .i64 (Int.ofNat i))] h = some (.v (.int .i64 z), h) ∧ leZ (Int.ofNat 0) z = (xs.drop i).any F
 | 0, i, hi => by
  rw [List.drop_of_length_le (by omega)]
  exact ⟨_, v111_2_2 (k0 := ltZ_f (by rw [ofN, ofN]; omega)), rfl⟩
 | k + 1, i, hi => by
  have h1 : xs[i]? = some xs[i] := List.getElem?_eq_getElem (by omega)
  have e1 : ixA (.imm (xs.map Lim.enc)) (Int.ofNat i) 3 = some (Lim.enc xs[i]) := ix_map (f := Lim.enc) h1 (Lim.enc_len _)
  have hv := hf xs[i] (List.getElem_mem _)
  rw [drop_get h1, List.any_cons]
  obtain ⟨z, hz, he⟩ := has111_loop hf hl k (i + 1) (by omega)
  generalize xs[i] = x at e1 hv ⊢
  obtain ⟨lo, hi, hs⟩ := x
  cases hq : F ⟨lo, hi, hs⟩ with
  | true =>
   rw [hq] at hv
   exact ⟨_, v111_2_0 (k0 := ltZ_t (by rw [ofN, ofN]; omega)) (k1 := e1) (k2 := hv) (k3 := rfl), by rw [Bool.true_or]; exact leZ_t (by rw [ofN, ofN]; omega)⟩
  | false =>
   rw [hq] at hv
   exact ⟨z, v111_2_1 (k0 := ltZ_t (by rw [ofN, ofN]; omega)) (k1 := e1) (k2 := hv) (k3 := rfl) (k4 := by rw [wrapS (by omega)]; exact hz), by rw [Bool.false_or]; exact he⟩
theorem has111 {xs : List Lim} {fv : AV} {F : Lim → Bool} (hf : ∀ x, x ∈ xs → callV (cxZ m) (blk (cxZ m)) fv [.v (.agg x.enc)] h = some (.v (.bool (F x)), h)) (hl : xs.length < 2 ^ 62) :
  callF (cxZ m) (blk (cxZ m)) 65 [.v (.imm (xs.map Lim.enc)), .v fv] h = some (.v (.bool (xs.any F)), h) := by
 obtain ⟨z, hz, he⟩ := has111_loop (m := m) (h := h) hf hl xs.length 0 (by omega)
 rw [List.drop_zero] at he
 rw [← he]
 refine callF_of rfl rfl (by kernel_rfl) (v65_0 (k0 := callF_of rfl rfl (by kernel_rfl) (v111_0 (k0 := ?_))))
 rw [List.length_map]
 exact hz
def orE (a b : Option Int) : Option Int := match a with | some c => some c | none => b
def firstE {A : Type} (f : A → Option Int) : List A → Option Int
 | [] => none
 | x :: xs => orE (f x) (firstE f xs)
theorem odd63_Z (t : Int) : callF (cxZ m) (blk (cxZ m)) 63 [.v (.int .i64 t)] h = some (.v (.bool (odd t)), h) := by
 unfold odd
 by_cases h1 : t = 1
 ·rw [show (decide (t ≠ 1)) = false by simp [h1], Bool.false_and]
  exact callF_of rfl rfl (by kernel_rfl) (v63_1 (k0 := congrArg not (eqZ_t (b := Int.ofNat 1) h1)))
 ·rw [show (decide (t ≠ 1)) = true by simp [h1], Bool.true_and]
  have e : (!eqZ t (Int.ofNat 2)) = decide (t ≠ 2) := by
   by_cases h2 : t = 2
   ·rw [eqZ_t (b := Int.ofNat 2) h2]; simp [h2]
   ·rw [eqZ_f (b := Int.ofNat 2) h2]; simp [h2]
  rw [← e]
  exact callF_of rfl rfl (by kernel_rfl) (v63_0 (k0 := congrArg not (eqZ_f (b := Int.ofNat 1) h1)))
theorem odds63_Z {l : List Int} (hl : l.length < 2 ^ 62) : callF (cxZ m) (blk (cxZ m)) 47 [.v (.imm (encN l)), .v (.fn 63 [] [])] h = some (.v (.bool (l.any odd)), h) :=
 has38 (fun x _ _ => odd63_Z x) hl
def limB (x : Lim) (mo : Int) : Bool := leZ (Int.ofNat 0) x.lo && (leZ x.lo mo && (!x.has || (leZ x.hi mo && leZ x.lo x.hi)))
theorem lim_Z (x : Lim) (mo : Int) : callF (cxZ m) (blk (cxZ m)) 67 [.v (.agg x.enc), .v (.int .i64 mo)] h = some (.v (.bool (limB x mo)), h) := by
 obtain ⟨lo, hi, hs⟩ := x
 unfold limB
 cases e0 : leZ (Int.ofNat 0) lo with
 | false => exact callF_of rfl rfl (by kernel_rfl) (v67_4 (k0 := e0))
 | true =>
  cases e1 : leZ lo mo with
  | false => exact callF_of rfl rfl (by kernel_rfl) (v67_3 (k0 := e0) (k1 := e1))
  | true =>
   cases hs with
   | false => exact callF_of rfl rfl (by kernel_rfl) (v67_0 (k0 := e0) (k1 := e1) (k2 := rfl))
   | true =>
    cases e3 : leZ hi mo with
    | false => exact callF_of rfl rfl (by kernel_rfl) (v67_2 (k0 := e0) (k1 := e1) (k2 := rfl) (k3 := e3))
    | true => exact callF_of rfl rfl (by kernel_rfl) (v67_1 (k0 := e0) (k1 := e1) (k2 := rfl) (k3 := e3))
theorem tabs_Z {l : List Lim} (hl : l.length < 2 ^ 62) : callF (cxZ m) (blk (cxZ m)) 65 [.v (.imm (l.map Lim.enc)), .v (.fn 66 [] [])] h = some (.v (.bool (l.any fun x => !limB x 64)), h) :=
 has111 (F := fun x => !limB x 64) (fun x _ => callV_fn.trans (callF_of rfl rfl (by kernel_rfl) (v66_0 (k0 := lim_Z x 64)))) hl
theorem mems_Z {l : List Lim} (hl : l.length < 2 ^ 62) : callF (cxZ m) (blk (cxZ m)) 65 [.v (.imm (l.map Lim.enc)), .v (.fn 68 [] [])] h = some (.v (.bool (l.any fun x => !limB x 16)), h) :=
 has111 (F := fun x => !limB x 16) (fun x _ => callV_fn.trans (callF_of rfl rfl (by kernel_rfl) (v68_0 (k0 := lim_Z x 16)))) hl
def typB (M : Mdl) (k : Int) : Bool := leZ (Int.ofNat 0) k && ltZ k (Int.ofNat M.ty.length)
theorem typ_Z (M : Mdl) (k : Int) : callF (cxZ m) (blk (cxZ m)) 69 [eM M, .v (.int .i64 k)] h = some (.v (.bool (typB M k)), h) := by
 unfold typB
 cases e0 : leZ (Int.ofNat 0) k with
 | false => exact callF_of rfl rfl (by kernel_rfl) (v69_1 (k0 := e0))
 | true =>
  rw [Bool.true_and, ← List.length_map (f := FTy.enc)]
  exact callF_of rfl rfl (by kernel_rfl) (v69_0 (k0 := e0))
theorem typ_of {M : Mdl} {k : Int} (h : typB M k = true) : ∃ y, tyOf M k = some y := by
 unfold typB at h
 rw [Bool.and_eq_true] at h
 have h1 := leZ_i h.1
 have h2 := ltZ_i h.2
 simp only [iff_true, ofN] at h1 h2
 unfold tyOf
 rw [ltZ_f (b := Int.ofNat 0) h1, cond_false]
 exact ⟨_, List.getElem?_eq_getElem (by omega)⟩
def typeE (x : FTy) : Option Int := if (x.p.any odd || (x.r.any odd || ltZ (Int.ofNat 1) (Int.ofNat x.r.length))) = true then some 4 else none
def ShortT (M : Mdl) : Prop := ∀ x, x ∈ M.ty → x.p.length < 2 ^ 62 ∧ x.r.length < 2 ^ 62
theorem types_loop {M : Mdl} (hs : ShortT M) (hl : M.ty.length < 2 ^ 62) : ∀ (d i : Nat), i + d = M.ty.length →
  blk (cxZ m) 28 (at_ Tryz.prog 28 4) [.v (.imm (M.ty.map FTy.enc)), .v (.int .i64 (Int.ofNat M.ty.length)), .v (.int .i64 (Int.ofNat i))] h = some (.v (errA (firstE typeE (M.ty.drop i))), h)
 | 0, i, hi => by
  rw [List.drop_of_length_le (by omega)]
  exact v28_4_4 (k0 := ltZ_f (by rw [ofN, ofN]; omega))
 | d + 1, i, hi => by
  have hx : M.ty[i]? = some M.ty[i] := List.getElem?_eq_getElem (by omega)
  have hm : M.ty[i] ∈ M.ty := List.getElem_mem _
  have k0 : ltZ (Int.ofNat i) (Int.ofNat M.ty.length) = true := ltZ_t (by rw [ofN, ofN]; omega)
  rw [drop_get hx]
  have ih := types_loop hs hl d (i + 1) (by omega)
  generalize M.ty[i] = x at hx hm ⊢
  have k1 : ixA (.imm (M.ty.map FTy.enc)) (Int.ofNat i) 2 = some x.enc := ix_map hx x.enc_len
  obtain ⟨hp, hr⟩ := hs x hm
  have c1 := odds63_Z (m := m) (h := h) hp
  have c2 := odds63_Z (m := m) (h := h) hr
  obtain ⟨p, r⟩ := x
  unfold firstE typeE
  simp only at c1 c2 ⊢
  cases q1 : p.any odd with
  | true =>
   rw [q1] at c1
   exact v28_4_0 (k0 := k0) (k1 := k1) (k2 := c1) (k3 := rfl)
  | false =>
   rw [q1] at c1
   cases q2 : r.any odd with
   | true =>
    rw [q2] at c2
    exact v28_4_1 (k0 := k0) (k1 := k1) (k2 := c1) (k3 := rfl) (k4 := c2) (k5 := rfl)
   | false =>
    rw [q2] at c2
    cases q3 : ltZ (Int.ofNat 1) (Int.ofNat r.length) with
    | true => exact v28_4_2 (k0 := k0) (k1 := k1) (k2 := c1) (k3 := rfl) (k4 := c2) (k5 := rfl) (k6 := by rw [encN_len]; exact q3)
    | false => exact v28_4_3 (k0 := k0) (k1 := k1) (k2 := c1) (k3 := rfl) (k4 := c2) (k5 := rfl) (k6 := by rw [encN_len]; exact q3) (k7 := by rw [wrapS (by omega)]; exact ih)
theorem types_Z {M : Mdl} (hs : ShortT M) (hl : M.ty.length < 2 ^ 62) {sm : Bool} (h62 : callF (cxZ m) (blk (cxZ m)) 62 [eM M] h = some (.v (.bool sm), h)) :
  callF (cxZ m) (blk (cxZ m)) 28 [eM M] h = some (.v (errA (if sm = true then firstE typeE M.ty else some 7)), h) := by
 cases sm with
 | false => exact callF_of rfl rfl (by kernel_rfl) (v28_0 (k0 := h62) (k1 := rfl))
 | true =>
  have := types_loop (m := m) (h := h) hs hl M.ty.length 0 (by omega)
  exact callF_of rfl rfl (by kernel_rfl) (v28_1 (k0 := h62) (k1 := rfl) (k2 := by rw [List.length_map]; exact this))
end
end Go.Proofs.YtoblgjmllmomhaaGreatDoor
