/-
  What the document tells of functions; what both tell of globals.
-/
import Derived.Test.YtmgjnbhofkchmaaDoorAmS05y
import Derived.Test.YtmgjnbhofkchmaaDoorAmRowX
/-
  What both tell of functions and globals.
-/
namespace Go.Proofs.YtmgjnbhofkchmaaDoor
open Go Go.RowKit Go.Proofs.Am

theorem ix_int {l : List Int} {i : Nat} {z : Int} (h : l[i]? = some z) : ixA (.imm (encN l)) (Int.ofNat i) 1 = some [.int .i64 z] := ix_map (f := fun x => [AV.int .i64 x]) h rfl
theorem ix_intZ {l : List Int} {i z : Int} (h0 : 0 ≤ i) (h : l[i.toNat]? = some z) : ixA (.imm (encN l)) i 1 = some [.int .i64 z] := ix_mapZ (f := fun x => [AV.int .i64 x]) h0 h rfl

theorem loop15 (m : Int) (l : List Int) (hl : l.length < 9223372036854775807) (h : Heap) : ∀ (d i : Nat), i + d = l.length →
    blk (cxZ m) 15 (at_ Tryd.prog 15 4) [.v (.imm (encN l)), .v (.imm (encN l)), .v (.int .i64 (Int.ofNat i))] h = some (.v (.bool true), h)
  | 0, i, hd => s15_4_2 (k0 := ltZ_f (by rw [encN_len, ofN, ofN]; omega)) ..
  | d + 1, i, hd => by
    have hlt : i < l.length := by omega
    have k1 := ix_int (List.getElem?_eq_getElem hlt)
    refine s15_4_1 (k0 := ltZ_t (by rw [encN_len, ofN, ofN]; omega)) (k1 := k1) (k2 := k1) (k3 := by rw [eqZ_t rfl]; rfl) (k4 := ?_) ..
    rw [wrapS (by omega)]
    exact loop15 m l hl h d (i + 1) (by omega)
theorem t15 (m : Int) (l : List Int) (hl : FitL 8 InZ l) (h : Heap) : CALL m 15 [.v (.imm (encN l)), .v (.imm (encN l))] h = some (.v (.bool true), h) := by
  have := hl.1
  have e : reachBytes = 140737488351232 := rfl
  refine callZ rfl (by kernel_rfl) (by kernel_rfl) (s15_1 (k0 := by rw [eqZ_t rfl]; rfl) (k1 := ?_) ..)
  exact loop15 m l (by omega) h l.length 0 (by omega)

theorem t28 (m : Int) (l : List Int) (hl : FitL 8 InZ l) (h : Heap) : CALL m 28 [.v (.imm (encN l))] h = some (.v (.imm (encN l)), h) := by
  have hb : (intsB (encN l) && Nat.ble ((encN l).length * 8) 140737488355328) = true := by
    rw [Bool.and_eq_true]
    refine ⟨?_, Nat.ble_eq_true_of_le ?_⟩
    · unfold intsB encN
      rw [List.all_map]
      exact List.all_eq_true.2 fun _ _ => rfl
    · have := hl.1
      have e : reachBytes = 140737488351232 := rfl
      rw [encN_len]; omega
  refine (callF_ext (e := cloneE) rfl rfl (x := .v (.imm (encN l))) ?_)
  simp only [cloneE, hb, cond_true]

/-- The types' numbers of all functions. -/
def rawL (M : Mdl) : List Int := (impK M 0).map Imp.t ++ M.fu.map MFn.t
/-- A function's type. -/
def tyOf (M : Mdl) (t : Int) : Option FTy := bif ltZ t (Int.ofNat 0) then none else M.ty[t.toNat]?
def fT (M : Mdl) (i : Int) : Option Int := bif ltZ i (Int.ofNat 0) then none else (rawL M)[i.toNat]?
/-- A type's number, where there is one. -/
def numT (M : Mdl) (t : Int) : Int := match tyOf M t with | some _ => t | none => -1
theorem numT_none {M : Mdl} {t : Int} (h : tyOf M t = none) : numT M t = -1 := by unfold numT; rw [h]
theorem numT_some {M : Mdl} {t : Int} {y : FTy} (h : tyOf M t = some y) : numT M t = t := by unfold numT; rw [h]
def numOf (M : Mdl) (i : Int) : Int := match fT M i with | some t => numT M t | none => -1
def errN : AV := .ifc 49 (.int .i64 (Int.ofNat 5))
def tyAns (M : Mdl) (i : Int) : LV :=
  match (fT M i).bind (tyOf M) with
  | some y => .tup [.agg y.enc, .nilI]
  | none => .tup [.agg [.imm [], .imm []], errN]

theorem ge_none {A : Type} {l : List A} {i : Int} {n : Nat} (hn : l.length = n) (h : leZ (Int.ofNat n) i = true) : l[i.toNat]? = none := by
  have := (leZ_i h).2 rfl
  rw [ofN] at this
  rw [List.getElem?_eq_none]
  omega
theorem lt_some {A : Type} {l : List A} {i : Int} {n : Nat} (hn : l.length = n) (h0 : ltZ i (Int.ofNat 0) = false) (h : leZ (Int.ofNat n) i = false) : ∃ x, l[i.toNat]? = some x ∧ 0 ≤ i := by
  have h1 := leZ_i h
  have h2 := ltZ_i h0
  simp only [ofN, Bool.false_eq_true, iff_false] at h1 h2
  exact ⟨_, List.getElem?_eq_getElem (by omega), by omega⟩
theorem ty_ans {M : Mdl} (hM : Small M) {t : Int} {y : FTy} (h : tyOf M t = some y) : ltZ t (Int.ofNat 0) = false ∧ leZ (Int.ofNat (M.ty.map FTy.enc).length) t = false ∧ ixA (.imm (M.ty.map FTy.enc)) t 2 = some y.enc ∧ y.Fit := by
  unfold tyOf at h
  cases h0 : ltZ t (Int.ofNat 0) with
  | true => rw [h0] at h; cases h
  | false =>
    rw [h0, cond_false] at h
    have h2 := ltZ_i h0
    simp only [ofN, Bool.false_eq_true, iff_false] at h2
    refine ⟨rfl, ?_, ix_mapZ (by omega) h y.enc_len, hM.fit.1.2 _ (List.mem_of_getElem? h)⟩
    have := (List.getElem?_eq_some_iff.1 h).1
    exact leZ_f (by rw [List.length_map, ofN]; omega)
theorem ty_none {M : Mdl} {t : Int} (h : tyOf M t = none) : ltZ t (Int.ofNat 0) = true ∨ (ltZ t (Int.ofNat 0) = false ∧ leZ (Int.ofNat (M.ty.map FTy.enc).length) t = true) := by
  unfold tyOf at h
  cases h0 : ltZ t (Int.ofNat 0) with
  | true => exact .inl rfl
  | false =>
    refine .inr ⟨rfl, ?_⟩
    rw [h0, cond_false, List.getElem?_eq_none_iff] at h
    have h2 := ltZ_i h0
    simp only [ofN, Bool.false_eq_true, iff_false] at h2
    exact leZ_t (by rw [List.length_map, ofN]; omega)

theorem t13 (m : Int) {M : Mdl} (hM : Small M) (i : Int) (h : Heap) : CALL m 13 [eM M, .v (.int .i64 i)] h = some (tyAns M i, h) := by
  refine callZ rfl (by kernel_rfl) (by kernel_rfl) ?_
  have c11 := t11 m hM 0 h
  have c26 := t26 m hM 0 h
  have l1 := impK_len hM 0
  have l2 := hM.fu
  have hlen : (rawL M).length = (impK M 0).length + ownK M 0 := by simp [rawL, ownK]
  unfold tyAns fT
  cases h0 : ltZ i (Int.ofNat 0) with
  | true => exact s13_0 (k0 := h0) ..
  | false =>
    rw [cond_false]
    cases h1 : leZ (Int.ofNat ((impK M 0).length + ownK M 0)) i with
    | true =>
      rw [ge_none hlen h1]
      exact s13_1 (k0 := h0) (k1 := c11) (k2 := h1) ..
    | false =>
      obtain ⟨t, ht, hi⟩ := lt_some hlen h0 h1
      have hu : i.toNat < (impK M 0).length + M.fu.length := by
        have := (List.getElem?_eq_some_iff.1 ht).1
        rw [hlen] at this
        exact this
      rw [ht, Option.bind_some]
      unfold rawL at ht
      by_cases hlt : i.toNat < (impK M 0).length
      · have k4 : ltZ i (Int.ofNat ((impK M 0).map Imp.enc).length) = true := ltZ_t (by rw [List.length_map, ofN]; omega)
        rw [List.getElem?_append_left (by simpa using hlt), List.getElem?_map, Option.map_eq_some_iff] at ht
        obtain ⟨x, hx, rfl⟩ := ht
        have k5 : ixA (.imm ((impK M 0).map Imp.enc)) i 8 = some x.enc := ix_mapZ hi hx x.enc_len
        cases hy : tyOf M x.t with
        | none =>
          rcases ty_none hy with e1 | ⟨e1, e2⟩
          · exact s13_2 (k0 := h0) (k1 := c11) (k2 := h1) (k3 := c26) (k4 := k4) (k5 := k5) (k6 := e1) ..
          · exact s13_3 (k0 := h0) (k1 := c11) (k2 := h1) (k3 := c26) (k4 := k4) (k5 := k5) (k6 := e1) (k7 := e2) ..
        | some y =>
          obtain ⟨e1, e2, e3, e4⟩ := ty_ans hM hy
          exact s13_4 (k0 := h0) (k1 := c11) (k2 := h1) (k3 := c26) (k4 := k4) (k5 := k5) (k6 := e1) (k7 := e2) (k8 := e3) (k9 := t28 m _ e4.1 h) (k10 := e3) (k11 := t28 m _ e4.2 h) ..
      · have k4 : ltZ i (Int.ofNat ((impK M 0).map Imp.enc).length) = false := ltZ_f (by rw [List.length_map, ofN]; omega)
        rw [List.getElem?_append_right (by simpa using hlt), List.getElem?_map, Option.map_eq_some_iff, List.length_map] at ht
        obtain ⟨x, hx, rfl⟩ := ht
        have e : IntKind.wrap .i64 (i - Int.ofNat ((impK M 0).map Imp.enc).length) = ((i.toNat - (impK M 0).length : Nat) : Int) := by
          rw [List.length_map, ofN, wrapI (by unfold InZ; omega)]; omega
        have k5 : ixA (.imm (M.fu.map MFn.enc)) (IntKind.wrap .i64 (i - Int.ofNat ((impK M 0).map Imp.enc).length)) 3 = some x.enc := by
          rw [e]
          exact ix_mapZ (by omega) (by rw [Int.toNat_natCast]; exact hx) x.enc_len
        cases hy : tyOf M x.t with
        | none =>
          rcases ty_none hy with e1 | ⟨e1, e2⟩
          · exact s13_5 (k0 := h0) (k1 := c11) (k2 := h1) (k3 := c26) (k4 := k4) (k5 := k5) (k6 := e1) ..
          · exact s13_6 (k0 := h0) (k1 := c11) (k2 := h1) (k3 := c26) (k4 := k4) (k5 := k5) (k6 := e1) (k7 := e2) ..
        | some y =>
          obtain ⟨e1, e2, e3, e4⟩ := ty_ans hM hy
          exact s13_7 (k0 := h0) (k1 := c11) (k2 := h1) (k3 := c26) (k4 := k4) (k5 := k5) (k6 := e1) (k7 := e2) (k8 := e3) (k9 := t28 m _ e4.1 h) (k10 := e3) (k11 := t28 m _ e4.2 h) ..
end Go.Proofs.YtmgjnbhofkchmaaDoor


namespace Go.Proofs.YtmgjnbhofkchmaaDoor
open Go Go.RowKit Go.Proofs.Am

theorem idx_get {k : Int} (hk : leZ (Int.ofNat 0) k = true ∧ leZ k (Int.ofNat 3) = true) : ∀ (xs : List Imp) (i j : Nat) (z : Int), (idx k i xs)[j]? = some z → ∃ n x, z = Int.ofNat (i + n) ∧ xs[n]? = some x ∧ (xs.filter (kindB k))[j]? = some x
  | [], i, j, z, h => by simp [idx] at h
  | x :: xs, i, j, z, h => by
    unfold idx at h
    cases e : eqZ x.k k with
    | false =>
      rw [e, cond_false] at h
      obtain ⟨n, y, h1, h2, h3⟩ := idx_get hk xs (i + 1) j z h
      refine ⟨n + 1, y, by rw [h1]; congr 1; omega, by simpa using h2, ?_⟩
      rw [List.filter_cons_of_neg (by simp only [kindB, e, Bool.false_and]; simp)]
      exact h3
    | true =>
      rw [e, cond_true] at h
      rw [List.filter_cons_of_pos (by simp only [kindB, e, hk.1, hk.2, Bool.and_self])]
      cases j with
      | zero =>
        simp only [List.getElem?_cons_zero, Option.some.injEq] at h
        exact ⟨0, x, by rw [← h]; rfl, rfl, rfl⟩
      | succ j =>
        obtain ⟨n, y, h1, h2, h3⟩ := idx_get hk xs (i + 1) j z (by simpa using h)
        exact ⟨n + 1, y, by rw [h1]; congr 1; omega, by simpa using h2, by simpa using h3⟩
theorem minus_get : ∀ (n i j : Nat) (z : Int), (minus i n)[j]? = some z → z = -1 - ((i + j : Nat) : Int) ∧ j < n
  | 0, i, j, z, h => by simp [minus] at h
  | n + 1, i, j, z, h => by
    rw [minus] at h
    cases j with
    | zero => simp at h; exact ⟨by rw [← h]; rfl, by omega⟩
    | succ j =>
      obtain ⟨h1, h2⟩ := minus_get n (i + 1) j z (by simpa using h)
      exact ⟨by rw [h1]; omega, by omega⟩
theorem space_get {M : Mdl} {k : Int} (hk : leZ (Int.ofNat 0) k = true ∧ leZ k (Int.ofNat 3) = true) {j : Nat} {z : Int} (h : (spaceK M k)[j]? = some z) :
    (0 ≤ z ∧ ∃ x, M.im[z.toNat]? = some x ∧ (impK M k)[j]? = some x) ∨ (z < 0 ∧ (impK M k).length ≤ j ∧ -1 - z = ((j - (impK M k).length : Nat) : Int) ∧ j - (impK M k).length < ownK M k) := by
  have e : spaceK M k = idx k 0 M.im ++ minus 0 (ownK M k) := by unfold spaceK; rw [hk.1, hk.2]; rfl
  rw [e] at h
  have hl : (idx k 0 M.im).length = (impK M k).length := idx_filter hk M.im 0
  by_cases hj : j < (idx k 0 M.im).length
  · rw [List.getElem?_append_left hj] at h
    obtain ⟨n, x, h1, h2, h3⟩ := idx_get hk _ _ _ _ h
    rw [h1]
    refine .inl ⟨Int.natCast_nonneg _, x, ?_, h3⟩
    rw [show (Int.ofNat (0 + n)).toNat = n by rw [Nat.zero_add]; rfl]
    exact h2
  · rw [List.getElem?_append_right (by omega)] at h
    obtain ⟨h1, h2⟩ := minus_get _ _ _ _ h
    rw [hl] at h1 h2 hj
    exact .inr ⟨by omega, by omega, by omega, h2⟩
theorem k00 : leZ (Int.ofNat 0) 0 = true ∧ leZ 0 (Int.ofNat 3) = true := ⟨rfl, rfl⟩
theorem k03 : leZ (Int.ofNat 0) 3 = true ∧ leZ 3 (Int.ofNat 3) = true := ⟨rfl, rfl⟩

/-- The document's number of a function's type. -/
theorem t14 (m : Int) {M : Mdl} (hM : Small M) (i : Int) (h : Heap) : CALL m 14 [eM M, .v (.int .i64 i)] h = some (.v (.int .i64 (numOf M i)), h) := by
  refine callZ rfl (by kernel_rfl) (by kernel_rfl) ?_
  have c12 := t12 m hM 0 h
  have hlen := space_len M 0
  have hraw : (rawL M).length = (impK M 0).length + ownK M 0 := by simp [rawL, ownK]
  have hl : (encN (spaceK M 0)).length = (impK M 0).length + ownK M 0 := by rw [encN_len, hlen]
  unfold numOf fT
  cases h0 : ltZ i (Int.ofNat 0) with
  | true => exact s14_0 (k0 := c12) (k1 := h0) ..
  | false =>
    rw [cond_false]
    cases h1 : leZ (Int.ofNat (encN (spaceK M 0)).length) i with
    | true =>
      rw [ge_none hraw (by rw [← hl]; exact h1)]
      exact s14_1 (k0 := c12) (k1 := h0) (k2 := h1) ..
    | false =>
      obtain ⟨z, hz, hi⟩ := lt_some (l := spaceK M 0) (encN_len _).symm h0 h1
      have k3 : ixA (.imm (encN (spaceK M 0))) i 1 = some [.int .i64 z] := ix_intZ hi hz
      rcases space_get k00 hz with ⟨z0, x, hx, hx'⟩ | ⟨z0, hge, hzj, hlt⟩
      · have e : (rawL M)[i.toNat]? = some x.t := by
          unfold rawL
          have := (List.getElem?_eq_some_iff.1 hx').1
          rw [List.getElem?_append_left (by simpa using this), List.getElem?_map, hx']
          rfl
        rw [e]
        show _ = some ((LV.v (AV.int .i64 (numT M x.t)), h) : LV × Heap)
        have k6 : ixA (.imm (M.im.map Imp.enc)) z 8 = some x.enc := ix_mapZ z0 hx x.enc_len
        cases hy : tyOf M x.t with
        | none =>
          rw [numT_none hy]
          rcases ty_none hy with e1 | ⟨e1, e2⟩
          · exact s14_2 (k0 := c12) (k1 := h0) (k2 := h1) (k3 := k3) (k4 := leZ_t z0) (k5 := k3) (k6 := k6) (k7 := e1) ..
          · exact s14_3 (k0 := c12) (k1 := h0) (k2 := h1) (k3 := k3) (k4 := leZ_t z0) (k5 := k3) (k6 := k6) (k7 := e1) (k8 := e2) ..
        | some y =>
          rw [numT_some hy]
          obtain ⟨e1, e2, e3, e4⟩ := ty_ans hM hy
          exact s14_4 (k0 := c12) (k1 := h0) (k2 := h1) (k3 := k3) (k4 := leZ_t z0) (k5 := k3) (k6 := k6) (k7 := e1) (k8 := e2) ..
      · have hlt' : i.toNat - (impK M 0).length < M.fu.length := hlt
        have hx : M.fu[i.toNat - (impK M 0).length]? = some M.fu[i.toNat - (impK M 0).length] := List.getElem?_eq_getElem hlt'
        generalize M.fu[i.toNat - (impK M 0).length] = x at hx
        have e : (rawL M)[i.toNat]? = some x.t := by
          unfold rawL
          rw [List.getElem?_append_right (by simpa using hge), List.getElem?_map, List.length_map, hx]
          rfl
        rw [e]
        show _ = some ((LV.v (AV.int .i64 (numT M x.t)), h) : LV × Heap)
        have := hM.fu
        have hw : IntKind.wrap .i64 (Int.negSucc 0 - z) = ((i.toNat - (impK M 0).length : Nat) : Int) := by
          rw [show (Int.negSucc 0 - z) = -1 - z from rfl, hzj]
          exact wrapI (by unfold InZ; omega)
        have k6 : ixA (.imm (M.fu.map MFn.enc)) (IntKind.wrap .i64 (Int.negSucc 0 - z)) 3 = some x.enc := by
          rw [hw]
          exact ix_mapZ (by omega) (by rw [Int.toNat_natCast]; exact hx) x.enc_len
        cases hy : tyOf M x.t with
        | none =>
          rw [numT_none hy]
          rcases ty_none hy with e1 | ⟨e1, e2⟩
          · exact s14_5 (k0 := c12) (k1 := h0) (k2 := h1) (k3 := k3) (k4 := leZ_f z0) (k5 := k3) (k6 := k6) (k7 := e1) ..
          · exact s14_6 (k0 := c12) (k1 := h0) (k2 := h1) (k3 := k3) (k4 := leZ_f z0) (k5 := k3) (k6 := k6) (k7 := e1) (k8 := e2) ..
        | some y =>
          rw [numT_some hy]
          obtain ⟨e1, e2, e3, e4⟩ := ty_ans hM hy
          exact s14_7 (k0 := c12) (k1 := h0) (k2 := h1) (k3 := k3) (k4 := leZ_f z0) (k5 := k3) (k6 := k6) (k7 := e1) (k8 := e2) ..

/-- All globals: type, whether it changes, whether it is imported. -/
def gL (M : Mdl) : List (Int × Bool × Bool) := (impK M 3).map (fun x => (x.t, x.mu, true)) ++ M.gl.map (fun x => (x.t, x.mu, false))
def gT (M : Mdl) (i : Int) : Option (Int × Bool × Bool) := bif ltZ i (Int.ofNat 0) then none else (gL M)[i.toNat]?
def gAns (M : Mdl) (i : Int) : LV :=
  match gT M i with
  | some (t, q, far) => .tup [.int .i64 t, .bool q, .bool far, .nilI]
  | none => .tup [.int .i64 (Int.ofNat 0), .bool false, .bool false, errN]
theorem t16 (m : Int) {M : Mdl} (hM : Small M) (i : Int) (h : Heap) : CALL m 16 [eM M, .v (.int .i64 i)] h = some (gAns M i, h) := by
  refine callZ rfl (by kernel_rfl) (by kernel_rfl) ?_
  have c26 := t26 m hM 3 h
  have l1 := impK_len hM 3
  have l2 := hM.gl
  have hlen : (gL M).length = (impK M 3).length + M.gl.length := by simp [gL]
  have hw : IntKind.wrap .i64 (Int.ofNat (((impK M 3).map Imp.enc).length + (M.gl.map Glo.enc).length)) = Int.ofNat ((impK M 3).length + M.gl.length) := by
    rw [List.length_map, List.length_map]
    exact wrapI (by unfold InZ; rw [ofN]; omega)
  unfold gAns gT
  cases h0 : ltZ i (Int.ofNat 0) with
  | true => exact s16_0 (k0 := c26) (k1 := h0) ..
  | false =>
    rw [cond_false]
    cases h1 : leZ (Int.ofNat ((impK M 3).length + M.gl.length)) i with
    | true =>
      rw [ge_none hlen h1]
      exact s16_1 (k0 := c26) (k1 := h0) (k2 := by rw [hw]; exact h1) ..
    | false =>
      obtain ⟨t, ht, hi⟩ := lt_some hlen h0 h1
      rw [ht]
      have hu := (List.getElem?_eq_some_iff.1 ht).1
      rw [hlen] at hu
      unfold gL at ht
      by_cases hlt : i.toNat < (impK M 3).length
      · have k4 : ltZ i (Int.ofNat ((impK M 3).map Imp.enc).length) = true := ltZ_t (by rw [List.length_map, ofN]; omega)
        rw [List.getElem?_append_left (by simpa using hlt), List.getElem?_map, Option.map_eq_some_iff] at ht
        obtain ⟨x, hx, rfl⟩ := ht
        have k5 : ixA (.imm ((impK M 3).map Imp.enc)) i 8 = some x.enc := ix_mapZ hi hx x.enc_len
        exact s16_2 (k0 := c26) (k1 := h0) (k2 := by rw [hw]; exact h1) (k3 := k4) (k4 := k5) (k5 := k5) ..
      · have k4 : ltZ i (Int.ofNat ((impK M 3).map Imp.enc).length) = false := ltZ_f (by rw [List.length_map, ofN]; omega)
        rw [List.getElem?_append_right (by simpa using hlt), List.getElem?_map, Option.map_eq_some_iff, List.length_map] at ht
        obtain ⟨x, hx, rfl⟩ := ht
        have e : IntKind.wrap .i64 (i - Int.ofNat ((impK M 3).map Imp.enc).length) = ((i.toNat - (impK M 3).length : Nat) : Int) := by
          rw [List.length_map, ofN, wrapI (by unfold InZ; omega)]; omega
        have k5 : ixA (.imm (M.gl.map Glo.enc)) (IntKind.wrap .i64 (i - Int.ofNat ((impK M 3).map Imp.enc).length)) 11 = some x.enc := by
          rw [e]
          exact ix_mapZ (by omega) (by rw [Int.toNat_natCast]; exact hx) x.enc_len
        obtain ⟨t, q, ⟨o, a, b, v, tt, l, bd, el, qq⟩⟩ := x
        exact s16_3 (k0 := c26) (k1 := h0) (k2 := by rw [hw]; exact h1) (k3 := k4) (k4 := k5) ..
end Go.Proofs.YtmgjnbhofkchmaaDoor
