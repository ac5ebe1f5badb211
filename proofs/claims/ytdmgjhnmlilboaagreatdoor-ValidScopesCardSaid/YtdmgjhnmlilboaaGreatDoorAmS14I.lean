/-
  What a function's code may speak of, as the program tells it: imports, types, and all.
-/
import Derived.Test.YtdmgjhnmlilboaaGreatDoorAmS14H

namespace Go.Proofs.YtdmgjhnmlilboaaGreatDoor
open Go Go.RowKit Go.Proofs.Am

section
variable {M : Mdl} {f : Int} {g : MFn} {y : FTy}
theorem cons_appI (a : Int) (l r : List Int) : a :: l ++ r = a :: (l ++ r) := rfl
theorem cons_appG (a : Int × Bool) (l r : List (Int × Bool)) : a :: l ++ r = a :: (l ++ r) := rfl
theorem loop6_11 (m : Int) (hF : Fn M f g y) (tys : List FTy) : ∀ (d i : Nat), i + d = M.im.length → ∀ (oF : List Int) (oG : List (Int × Bool)), oF.length ≤ i → oG.length ≤ i →
    ∃ h', blk (cxZ m) 6 (at_ Tryz.prog 6 11) (K6 f ++ FN :: L6 (M.im.map Imp.enc) i) (HP M tys oF oG) =
      some (scT M g y tys (oF ++ (((M.im.drop i).filter (kindB 0)).map Imp.t ++ M.fu.map MFn.t).map (numT M)) (oG ++ (((M.im.drop i).filter (kindB 3)).map gI ++ M.gl.map gG)), h')
  | 0, i, hd, oF, oG, h1, h2 => by
    have him := hF.sm.im
    rw [List.drop_eq_nil_of_le (by omega), List.filter_nil, List.filter_nil, List.map_nil, List.map_nil, List.nil_append, List.nil_append]
    obtain ⟨h', ih⟩ := loop6_20 m hF tys oG (by omega) M.fu.length 0 (by omega) oF (by omega)
    rw [List.drop_zero] at ih
    exact ⟨h', z6_11_3 (k0 := ltZ_f (by rw [List.length_map, ofN, ofN]; omega)) (k1 := ih) ..⟩
  | d + 1, i, hd, oF, oG, h1, h2 => by
    have him := hF.sm.im
    have hlt : i < M.im.length := by omega
    have hx : M.im[i]? = some M.im[i] := List.getElem?_eq_getElem hlt
    generalize M.im[i] = x at hx
    have k0 : ltZ (Int.ofNat i) (Int.ofNat (M.im.map Imp.enc).length) = true := ltZ_t (by rw [List.length_map, ofN, ofN]; omega)
    have k1 : ixA (.imm (M.im.map Imp.enc)) (Int.ofNat i) 8 = some x.enc := ix_map hx x.enc_len
    have hw := wrapS (n := i) (by omega)
    have ih := loop6_11 m hF tys d (i + 1) (by omega)
    rw [drop_get hx]
    cases e0 : eqZ x.k (Int.ofNat 0) with
    | true =>
      have hk : x.k = 0 := (eqZ_i e0).2 rfl
      have b0 : kindB 0 x = true := by simp only [kindB, eqZ_t hk]; rfl
      have b3 : kindB 3 x = false := by simp only [kindB, eqZ_f (show x.k ≠ 3 by omega), Bool.false_and]
      rw [List.filter_cons_of_pos b0, List.filter_cons_of_neg (by rw [b3]; simp), List.map_cons, cons_appI, List.map_cons, ← list_snoc oF (numT M x.t)]
      obtain ⟨h', ih⟩ := ih (oF ++ [numT M x.t]) oG (by simp; omega) (by omega)
      exact ⟨h', z6_11_0 (k0 := k0) (k1 := k1) (k2 := e0) (k3 := clos m hF.sm tys oF oG x.t (by omega)) (k4 := by rw [hw]; exact ih) ..⟩
    | false =>
      have hk : x.k ≠ 0 := fun h => by rw [eqZ_t (show x.k = Int.ofNat 0 from h)] at e0; cases e0
      have b0 : kindB 0 x = false := by simp only [kindB, eqZ_f hk, Bool.false_and]
      rw [List.filter_cons_of_neg (by rw [b0]; simp)]
      cases e3 : eqZ x.k (Int.ofNat 3) with
      | true =>
        have hk3 : x.k = 3 := (eqZ_i e3).2 rfl
        have b3 : kindB 3 x = true := by simp only [kindB, eqZ_t hk3]; rfl
        rw [List.filter_cons_of_pos b3, List.map_cons, cons_appG, ← list_snoc oG (gI x)]
        obtain ⟨h', ih⟩ := ih oF (oG ++ [gI x]) (by omega) (by simp; omega)
        exact ⟨h', z6_11_1 (k0 := k0) (k1 := k1) (k2 := e0) (k3 := e3) (k4 := ap_gv (out := oG) (x := gI x) (by omega)) (k5 := by rw [hw]; exact ih) ..⟩
      | false =>
        have b3 : kindB 3 x = false := by simp only [kindB, show eqZ x.k 3 = false from e3, Bool.false_and]
        rw [List.filter_cons_of_neg (by rw [b3]; simp)]
        obtain ⟨h', ih⟩ := ih oF oG (by omega) (by omega)
        exact ⟨h', z6_11_2 (k0 := k0) (k1 := k1) (k2 := e0) (k3 := e3) (k4 := by rw [hw]; exact ih) ..⟩

/-- slices.Clone of numbers. -/
theorem t13c (m : Int) (l : List Int) (hl : l.length * 8 ≤ 140737488351232) (h : Heap) : CALL m 13 [.v (.imm (encN l))] h = some (.v (.imm (encN l)), h) := by
  have hb : (intsB (encN l) && Nat.ble ((encN l).length * 8) 140737488355328) = true := by
    rw [Bool.and_eq_true]
    refine ⟨?_, Nat.ble_eq_true_of_le (by rw [encN_len]; omega)⟩
    unfold intsB encN
    rw [List.all_map]
    exact List.all_eq_true.2 fun _ _ => rfl
  refine (callF_ext (e := cloneE) rfl rfl (x := .v (.imm (encN l))) ?_)
  simp only [cloneE, hb, cond_true]
theorem np_N (l : List Int) : npLs [LV.v (AV.imm (encN l))] = true := by simp only [npLs, LV.np, AV.np, npLL_encN, Bool.and_self]
theorem np_N1 (l : List Int) : LV.np (LV.v (AV.imm (encN l))) = true := by simp only [LV.np, AV.np, npLL_encN]
theorem np_M (M : Mdl) (z : Int) : npLs [eM M, .v (.int .i64 z)] = true := by simp only [npLs, LV.np, AV.np, Mdl.np, Bool.and_self]

theorem loop6_5 (m : Int) (hF : Fn M f g y) : ∀ (d i : Nat), i + d = M.ty.length → ∀ (out : List FTy), out.length ≤ i →
    ∃ h', blk (cxZ m) 6 (at_ Tryz.prog 6 5) (K6 f ++ L6 (M.ty.map FTy.enc) i) (HP M out [] []) = some (scT M g y (out ++ M.ty.drop i) (fS M) (gS M), h')
  | 0, i, hd, out, ho => by
    rw [List.drop_eq_nil_of_le (by omega), List.append_nil]
    obtain ⟨h', ih⟩ := loop6_11 m hF out M.im.length 0 (by omega) [] [] (Nat.le_refl _) (Nat.le_refl _)
    rw [List.drop_zero, List.nil_append, List.nil_append] at ih
    exact ⟨h', z6_5_1 (k0 := ltZ_f (by rw [List.length_map, ofN, ofN]; omega)) (k1 := ih) ..⟩
  | d + 1, i, hd, out, ho => by
    have hty := hF.sm.ty
    have hlt : i < M.ty.length := by omega
    have hx : M.ty[i]? = some M.ty[i] := List.getElem?_eq_getElem hlt
    generalize M.ty[i] = x at hx
    have hf := hF.sm.fit.1.2 x (List.mem_of_getElem? hx)
    have k0 : ltZ (Int.ofNat i) (Int.ofNat (M.ty.map FTy.enc).length) = true := ltZ_t (by rw [List.length_map, ofN, ofN]; omega)
    have k1 : ixA (.imm (M.ty.map FTy.enc)) (Int.ofNat i) 2 = some x.enc := ix_map hx x.enc_len
    have k8 : apL (.ow 2 (out.map FTy.enc)) 2 48 [x.enc] = some (.ow 2 ((out ++ [x]).map FTy.enc)) := by
      rw [ap_owned (fit_one x.enc_len) (by simp; omega) (by decide), List.map_append]
      rfl
    have hw := wrapS (n := i) (by omega)
    obtain ⟨h', ih⟩ := loop6_5 m hF d (i + 1) (by omega) (out ++ [x]) (by simp; omega)
    rw [drop_get hx, ← list_snoc out x (M.ty.drop (i + 1))]
    exact ⟨h', z6_5_0 (k0 := k0) (k1 := k1) (k2 := np_N x.p) (k3 := t13c m x.p hf.1.1 Heap.nil) (k4 := np_N1 x.p) (k5 := np_N x.r) (k6 := t13c m x.r hf.2.1 Heap.nil) (k7 := np_N1 x.r) (k8 := k8) (k9 := by rw [hw]; exact ih) ..⟩

/-- The scope, where there is one. -/
theorem t6_some (m : Int) (hF : Fn M f g y) : ∃ h', CALL m 6 [eM M, .v (.int .i64 f)] Heap.nil = some (.tup [.agg (scM M g y), .nilI], h') := by
  have hu := (List.getElem?_eq_some_iff.1 hF.get).1
  have hfu : f < M.fu.length := by have := hF.nn; omega
  obtain ⟨e1, e2, _⟩ := ty_ans hF.sm hF.ty
  obtain ⟨h', ih⟩ := loop6_5 m hF M.ty.length 0 (by omega) [] (Nat.le_refl _)
  rw [List.drop_zero, List.nil_append] at ih
  refine ⟨h', callZ rfl (by kernel_rfl) (by kernel_rfl) (z6_4 (k0 := ltZ_f (by have := hF.nn; rw [ofN]; exact this)) (k1 := leZ_f (by rw [List.length_map, ofN]; omega)) (k2 := hF.ixg) (k3 := e1) (k4 := hF.ixg) (k5 := e2)
    (k6 := np_M M (Int.ofNat 1)) (k7 := t11 m hF.sm (Int.ofNat 1) Heap.nil) (k8 := np_M M (Int.ofNat 2)) (k9 := t11 m hF.sm (Int.ofNat 2) Heap.nil) (k10 := ih) ..)⟩
end
end Go.Proofs.YtdmgjhnmlilboaaGreatDoor
