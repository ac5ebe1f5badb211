/-
  What the document tells of functions; what both tell of globals.
-/
import Derived.Test.YtdmgjhnmlilboaaGreatDoorAmS14zz

namespace Go.Proofs.YtdmgjhnmlilboaaGreatDoor
open Go Go.RowKit Go.Proofs.Am

theorem idx_get {k : Int} (hk : leZ (Int.ofNat 0) k = true ∧ leZ k (Int.ofNat 3) = true) : ∀ (xs : List Imp) (i j : Nat) (z : Int), (idx k i xs)[j]? = some z → ∃ n x, z = Int.ofNat (i + n) ∧ xs[n]? = some x ∧ (xs.filter (kindB k))[j]? = some x
  | [], i, j, z, h => by simp [idx] at h
  | x :: xs, i, j, z, h => by
    unfold idx at h
    cases e : eqZ x.k k with
    | false =>
      rw [e, cond_false] at h
      obtain ⟨n, y, h1, h2, h3⟩ := idx_get hk xs (i + 1) j z h
      refine ⟨n + 1, y, by rw [h1]; congr 1; omega, by simpa using h2, ?_⟩
      rw [List.filter_cons_of_neg (by simp only [kindB, e, Bool.false_and]; simp)]
      exact h3
    | true =>
      rw [e, cond_true] at h
      rw [List.filter_cons_of_pos (by simp only [kindB, e, hk.1, hk.2, Bool.and_self])]
      cases j with
      | zero =>
        simp only [List.getElem?_cons_zero, Option.some.injEq] at h
        exact ⟨0, x, by rw [← h]; rfl, rfl, rfl⟩
      | succ j =>
        obtain ⟨n, y, h1, h2, h3⟩ := idx_get hk xs (i + 1) j z (by simpa using h)
        exact ⟨n + 1, y, by rw [h1]; congr 1; omega, by simpa using h2, by simpa using h3⟩
theorem minus_get : ∀ (n i j : Nat) (z : Int), (minus i n)[j]? = some z → z = -1 - ((i + j : Nat) : Int) ∧ j < n
  | 0, i, j, z, h => by simp [minus] at h
  | n + 1, i, j, z, h => by
    rw [minus] at h
    cases j with
    | zero => simp at h; exact ⟨by rw [← h]; rfl, by omega⟩
    | succ j =>
      obtain ⟨h1, h2⟩ := minus_get n (i + 1) j z (by simpa using h)
      exact ⟨by rw [h1]; omega, by omega⟩
theorem space_get {M : Mdl} {k : Int} (hk : leZ (Int.ofNat 0) k = true ∧ leZ k (Int.ofNat 3) = true) {j : Nat} {z : Int} (h : (spaceK M k)[j]? = some z) :
    (0 ≤ z ∧ ∃ x, M.im[z.toNat]? = some x ∧ (impK M k)[j]? = some x) ∨ (z < 0 ∧ (impK M k).length ≤ j ∧ -1 - z = ((j - (impK M k).length : Nat) : Int) ∧ j - (impK M k).length < ownK M k) := by
  have e : spaceK M k = idx k 0 M.im ++ minus 0 (ownK M k) := by unfold spaceK; rw [hk.1, hk.2]; rfl
  rw [e] at h
  have hl : (idx k 0 M.im).length = (impK M k).length := idx_filter hk M.im 0
  by_cases hj : j < (idx k 0 M.im).length
  · rw [List.getElem?_append_left hj] at h
    obtain ⟨n, x, h1, h2, h3⟩ := idx_get hk _ _ _ _ h
    rw [h1]
    refine .inl ⟨Int.natCast_nonneg _, x, ?_, h3⟩
    rw [show (Int.ofNat (0 + n)).toNat = n by rw [Nat.zero_add]; rfl]
    exact h2
  · rw [List.getElem?_append_right (by omega)] at h
    obtain ⟨h1, h2⟩ := minus_get _ _ _ _ h
    rw [hl] at h1 h2 hj
    exact .inr ⟨by omega, by omega, by omega, h2⟩
theorem k00 : leZ (Int.ofNat 0) 0 = true ∧ leZ 0 (Int.ofNat 3) = true := ⟨rfl, rfl⟩
theorem k03 : leZ (Int.ofNat 0) 3 = true ∧ leZ 3 (Int.ofNat 3) = true := ⟨rfl, rfl⟩

/-- The document's number of a function's type. -/
theorem t14 (m : Int) {M : Mdl} (hM : Small M) (i : Int) (h : Heap) : CALL m 18 [eM M, .v (.int .i64 i)] h = some (.v (.int .i64 (numOf M i)), h) := by
  refine callZ rfl (by kernel_rfl) (by kernel_rfl) ?_
  have c12 := t12 m hM 0 h
  have hlen := space_len M 0
  have hraw : (rawL M).length = (impK M 0).length + ownK M 0 := by simp [rawL, ownK]
  have hl : (encN (spaceK M 0)).length = (impK M 0).length + ownK M 0 := by rw [encN_len, hlen]
  unfold numOf fT
  cases h0 : ltZ i (Int.ofNat 0) with
  | true => exact s14_0 (k0 := c12) (k1 := h0) ..
  | false =>
    rw [cond_false]
    cases h1 : leZ (Int.ofNat (encN (spaceK M 0)).length) i with
    | true =>
      rw [ge_none hraw (by rw [← hl]; exact h1)]
      exact s14_1 (k0 := c12) (k1 := h0) (k2 := h1) ..
    | false =>
      obtain ⟨z, hz, hi⟩ := lt_some (l := spaceK M 0) (encN_len _).symm h0 h1
      have k3 : ixA (.imm (encN (spaceK M 0))) i 1 = some [.int .i64 z] := ix_intZ hi hz
      rcases space_get k00 hz with ⟨z0, x, hx, hx'⟩ | ⟨z0, hge, hzj, hlt⟩
      · have e : (rawL M)[i.toNat]? = some x.t := by
          unfold rawL
          have := (List.getElem?_eq_some_iff.1 hx').1
          rw [List.getElem?_append_left (by simpa using this), List.getElem?_map, hx']
          rfl
        rw [e]
        show _ = some ((LV.v (AV.int .i64 (numT M x.t)), h) : LV × Heap)
        have k6 : ixA (.imm (M.im.map Imp.enc)) z 8 = some x.enc := ix_mapZ z0 hx x.enc_len
        cases hy : tyOf M x.t with
        | none =>
          rw [numT_none hy]
          rcases ty_none hy with e1 | ⟨e1, e2⟩
          · exact s14_2 (k0 := c12) (k1 := h0) (k2 := h1) (k3 := k3) (k4 := leZ_t z0) (k5 := k3) (k6 := k6) (k7 := e1) ..
          · exact s14_3 (k0 := c12) (k1 := h0) (k2 := h1) (k3 := k3) (k4 := leZ_t z0) (k5 := k3) (k6 := k6) (k7 := e1) (k8 := e2) ..
        | some y =>
          rw [numT_some hy]
          obtain ⟨e1, e2, e3, e4⟩ := ty_ans hM hy
          exact s14_4 (k0 := c12) (k1 := h0) (k2 := h1) (k3 := k3) (k4 := leZ_t z0) (k5 := k3) (k6 := k6) (k7 := e1) (k8 := e2) ..
      · have hlt' : i.toNat - (impK M 0).length < M.fu.length := hlt
        have hx : M.fu[i.toNat - (impK M 0).length]? = some M.fu[i.toNat - (impK M 0).length] := List.getElem?_eq_getElem hlt'
        generalize M.fu[i.toNat - (impK M 0).length] = x at hx
        have e : (rawL M)[i.toNat]? = some x.t := by
          unfold rawL
          rw [List.getElem?_append_right (by simpa using hge), List.getElem?_map, List.length_map, hx]
          rfl
        rw [e]
        show _ = some ((LV.v (AV.int .i64 (numT M x.t)), h) : LV × Heap)
        have := hM.fu
        have hw : IntKind.wrap .i64 (Int.negSucc 0 - z) = ((i.toNat - (impK M 0).length : Nat) : Int) := by
          rw [show (Int.negSucc 0 - z) = -1 - z from rfl, hzj]
          exact wrapI (by unfold InZ; omega)
        have k6 : ixA (.imm (M.fu.map MFn.enc)) (IntKind.wrap .i64 (Int.negSucc 0 - z)) 3 = some x.enc := by
          rw [hw]
          exact ix_mapZ (by omega) (by rw [Int.toNat_natCast]; exact hx) x.enc_len
        cases hy : tyOf M x.t with
        | none =>
          rw [numT_none hy]
          rcases ty_none hy with e1 | ⟨e1, e2⟩
          · exact s14_5 (k0 := c12) (k1 := h0) (k2 := h1) (k3 := k3) (k4 := leZ_f z0) (k5 := k3) (k6 := k6) (k7 := e1) ..
          · exact s14_6 (k0 := c12) (k1 := h0) (k2 := h1) (k3 := k3) (k4 := leZ_f z0) (k5 := k3) (k6 := k6) (k7 := e1) (k8 := e2) ..
        | some y =>
          rw [numT_some hy]
          obtain ⟨e1, e2, e3, e4⟩ := ty_ans hM hy
          exact s14_7 (k0 := c12) (k1 := h0) (k2 := h1) (k3 := k3) (k4 := leZ_f z0) (k5 := k3) (k6 := k6) (k7 := e1) (k8 := e2) ..

end Go.Proofs.YtdmgjhnmlilboaaGreatDoor
