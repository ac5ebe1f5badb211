/-
  Is a module valid: what is amiss first.
-/
import Derived.Test.YtoblgjmllmomhaaGreatDoorAmMod
import Derived.Test.YtoblgjmllmomhaaGreatDoorAmSVwG
import Derived.Test.YtoblgjmllmomhaaGreatDoorAmSVm2
namespace Go.Proofs.YtoblgjmllmomhaaGreatDoor
set_option maxRecDepth 100000
open Go Go.RowKit Go.Proofs.Am
section
variable {m : Int} {h : Heap}
theorem hasI_loop {xs : List Int} {fv : AV} {F : Int → Bool} (hf : ∀ x, x ∈ xs → callV (cxZ m) (blk (cxZ m)) fv [.v (.int .i64 x)] h = some (.v (.bool (F x)), h)) (hl : xs.length < 2 ^ 62) : ∀ (k i : Nat), i + k = xs.length →
  ∃ z : Int, blk (cxZ m) 86 (at_ Tryz.prog 86 2) [.v (.imm (xs.map (fun x => [AV.int .i64 x]))), .v fv, .v (.int .i64 (Int.ofNat xs.length)), .v (.int .i64 (Int.ofNat i))] h = some (.v (.int .i64 z), h) ∧ leZ (Int.ofNat 0) z = (xs.drop i).any F
 | 0, i, hi => by
  rw [List.drop_of_length_le (by omega)]
  exact ⟨_, w38_2_2 (k0 := ltZ_f (by rw [ofN, ofN]; omega)), rfl⟩
 | k + 1, i, hi => by
  have h1 : xs[i]? = some xs[i] := List.getElem?_eq_getElem (by omega)
  have e1 : ixA (.imm (xs.map (fun x => [AV.int .i64 x]))) (Int.ofNat i) 1 = some ((fun x => [AV.int .i64 x]) xs[i]) := ix_map (f := (fun x => [AV.int .i64 x])) h1 rfl
  have hv := hf xs[i] (List.getElem_mem _)
  rw [drop_get h1, List.any_cons]
  obtain ⟨z, hz, he⟩ := hasI_loop hf hl k (i + 1) (by omega)
  generalize xs[i] = x at e1 hv ⊢
  cases hq : F x with
  | true =>
   rw [hq] at hv
   exact ⟨_, w38_2_0 (k0 := ltZ_t (by rw [ofN, ofN]; omega)) (k1 := e1) (k2 := hv) (k3 := rfl), by rw [Bool.true_or]; exact leZ_t (by rw [ofN, ofN]; omega)⟩
  | false =>
   rw [hq] at hv
   exact ⟨z, w38_2_1 (k0 := ltZ_t (by rw [ofN, ofN]; omega)) (k1 := e1) (k2 := hv) (k3 := rfl) (k4 := by rw [wrapS (by omega)]; exact hz), by rw [Bool.false_or]; exact he⟩
theorem hasI {xs : List Int} {fv : AV} {F : Int → Bool} (hf : ∀ x, x ∈ xs → callV (cxZ m) (blk (cxZ m)) fv [.v (.int .i64 x)] h = some (.v (.bool (F x)), h)) (hl : xs.length < 2 ^ 62) :
  callF (cxZ m) (blk (cxZ m)) 47 [.v (.imm (xs.map (fun x => [AV.int .i64 x]))), .v fv] h = some (.v (.bool (xs.any F)), h) := by
 obtain ⟨z, hz, he⟩ := hasI_loop (m := m) (h := h) hf hl xs.length 0 (by omega)
 rw [List.drop_zero] at he
 rw [← he]
 refine callF_of rfl rfl (by kernel_rfl) (w22_0 (k0 := callF_of rfl rfl (by kernel_rfl) (w38_0 (k0 := ?_))))
 rw [List.length_map]
 exact hz
theorem hasX_loop {xs : List Exq} {fv : AV} {F : Exq → Bool} (hf : ∀ x, x ∈ xs → callV (cxZ m) (blk (cxZ m)) fv [.v (.agg x.enc)] h = some (.v (.bool (F x)), h)) (hl : xs.length < 2 ^ 62) : ∀ (k i : Nat), i + k = xs.length →
  ∃ z : Int, blk (cxZ m) 115 (at_ Tryz.prog 115 2) [.v (.imm (xs.map Exq.enc)), .v fv, .v (.int .i64 (Int.ofNat xs.length)), .v (.int .i64 (Int.ofNat i))] h = some (.v (.int .i64 z), h) ∧ leZ (Int.ofNat 0) z = (xs.drop i).any F
 | 0, i, hi => by
  rw [List.drop_of_length_le (by omega)]
  exact ⟨_, v115_2_2 (k0 := ltZ_f (by rw [ofN, ofN]; omega)), rfl⟩
 | k + 1, i, hi => by
  have h1 : xs[i]? = some xs[i] := List.getElem?_eq_getElem (by omega)
  have e1 : ixA (.imm (xs.map Exq.enc)) (Int.ofNat i) 3 = some (Exq.enc xs[i]) := ix_map (f := Exq.enc) h1 (Exq.enc_len _)
  have hv := hf xs[i] (List.getElem_mem _)
  rw [drop_get h1, List.any_cons]
  obtain ⟨z, hz, he⟩ := hasX_loop hf hl k (i + 1) (by omega)
  generalize xs[i] = x at e1 hv ⊢
  obtain ⟨na, kk, ii⟩ := x
  cases hq : F ⟨na, kk, ii⟩ with
  | true =>
   rw [hq] at hv
   exact ⟨_, v115_2_0 (k0 := ltZ_t (by rw [ofN, ofN]; omega)) (k1 := e1) (k2 := hv) (k3 := rfl), by rw [Bool.true_or]; exact leZ_t (by rw [ofN, ofN]; omega)⟩
  | false =>
   rw [hq] at hv
   exact ⟨z, v115_2_1 (k0 := ltZ_t (by rw [ofN, ofN]; omega)) (k1 := e1) (k2 := hv) (k3 := rfl) (k4 := by rw [wrapS (by omega)]; exact hz), by rw [Bool.false_or]; exact he⟩
theorem hasX {xs : List Exq} {fv : AV} {F : Exq → Bool} (hf : ∀ x, x ∈ xs → callV (cxZ m) (blk (cxZ m)) fv [.v (.agg x.enc)] h = some (.v (.bool (F x)), h)) (hl : xs.length < 2 ^ 62) :
  callF (cxZ m) (blk (cxZ m)) 74 [.v (.imm (xs.map Exq.enc)), .v fv] h = some (.v (.bool (xs.any F)), h) := by
 obtain ⟨z, hz, he⟩ := hasX_loop (m := m) (h := h) hf hl xs.length 0 (by omega)
 rw [List.drop_zero] at he
 rw [← he]
 refine callF_of rfl rfl (by kernel_rfl) (v74_0 (k0 := callF_of rfl rfl (by kernel_rfl) (v115_0 (k0 := ?_))))
 rw [List.length_map]
 exact hz
def gloE (M : Mdl) (x : Glo) : Option Int := if odd x.t = true then some 4 else conE M x.i x.t
theorem globals_loop {M : Mdl} (hM : Bk M) (hS : Small M) : ∀ (d i : Nat), i + d = M.gl.length →
  blk (cxZ m) 30 (at_ Tryz.prog 30 2) ([.lp 0 0, .v (.imm (M.gl.map Glo.enc)), .v (.int .i64 (Int.ofNat M.gl.length)), .v (.int .i64 (Int.ofNat i))] ++ mC M) h = some (.v (errA (firstE (gloE M) (M.gl.drop i))), h)
 | 0, i, hi => by
  rw [List.drop_of_length_le (by omega)]
  exact v30_2_3 (k0 := ltZ_f (by rw [ofN, ofN]; omega))
 | d + 1, i, hi => by
  have hx : M.gl[i]? = some M.gl[i] := List.getElem?_eq_getElem (by omega)
  have hm := hM.gi M.gl[i] (List.getElem_mem _)
  have hl := hM.gl
  have k0 : ltZ (Int.ofNat i) (Int.ofNat M.gl.length) = true := ltZ_t (by rw [ofN, ofN]; omega)
  rw [drop_get hx]
  have ih := globals_loop hM hS d (i + 1) (by omega)
  generalize M.gl[i] = x at hx hm ⊢
  have k1 : ixA (.imm (M.gl.map Glo.enc)) (Int.ofNat i) 11 = some x.enc := ix_map hx x.enc_len
  have c1 := odd63_Z (m := m) (h := h) x.t
  have c2 := con_Z (m := m) (h := h) hS (x := x.i) (by omega) x.t
  have hq := err_neq (conE M x.i x.t)
  unfold firstE gloE
  cases q : odd x.t with
  | true =>
   rw [q] at c1
   obtain ⟨t, mu, ⟨o, a, b, v, tt, l, bd, el, qq⟩⟩ := x
   exact v30_2_0 (k0 := k0) (k1 := k1) (k2 := c1) (k3 := rfl)
  | false =>
   rw [q] at c1
   rw [if_neg (by decide)]
   cases q2 : conE M x.i x.t with
   | some c =>
    rw [q2] at c2 hq
    obtain ⟨t, mu, ⟨o, a, b, v, tt, l, bd, el, qq⟩⟩ := x
    exact v30_2_1 (k0 := k0) (k1 := k1) (k2 := c1) (k3 := rfl) (k4 := c2) (k5 := hq) (k6 := rfl)
   | none =>
    rw [q2] at c2 hq
    obtain ⟨t, mu, ⟨o, a, b, v, tt, l, bd, el, qq⟩⟩ := x
    exact v30_2_2 (k0 := k0) (k1 := k1) (k2 := c1) (k3 := rfl) (k4 := c2) (k5 := hq) (k6 := rfl) (k7 := by rw [wrapS (by omega)]; exact ih)
theorem globals_Z {M : Mdl} (hM : Bk M) (hS : Small M) (h : Heap) : callF (cxZ m) (blk (cxZ m)) 30 [eM M] h = some (.v (errA (firstE (gloE M) M.gl)), h) := by
 have := globals_loop (m := m) (h := h) hM hS M.gl.length 0 (by omega)
 exact callF_of rfl rfl (by kernel_rfl) (v30_0 (k0 := by rw [List.length_map]; exact this))
def zI : Ins := .mk 0 0 0 0 0 [] [] [] false
def scpM (M : Mdl) (g : MFn) (y : FTy) : Scp := { ty := M.ty, fn := fS M, gl := (gS M).map fun x => ⟨x.1, x.2, zI⟩, tb := bT M 1, mm := bT M 2, lo := y.p ++ g.l, re := resT y }
theorem scp_enc (M : Mdl) (g : MFn) (y : FTy) : scM M g y = (scpM M g y).enc := by
 unfold scM scpM Scp.enc
 rw [List.map_map]
 rfl
theorem np_scp (s : Scp) : npL s.enc = true := by
 have h1 : ∀ x : Glo, npL x.enc = true := fun x => by
  unfold Glo.enc
  rw [npL_app, np_ins]
  rfl
 simp only [Scp.enc, npL, AV.np, npLL_map FTy.np, npLL_map h1, npLL_encN, Bool.and_self]
theorem np_err (e : Option Int) : LV.np (.v (errA e)) = true := by cases e <;> rfl
theorem np_body (s : Scp) (xs : List Ins) : npLs [.v (.agg s.enc), .v (.imm (encIs xs))] = true := by
 simp only [npLs, LV.np, AV.np, np_scp, np_inss, Bool.and_self]
theorem np_sc (s : Scp) : LV.np (.tup [.agg s.enc, .nilI]) = true := by
 simp only [LV.np, AV.np, npL, np_scp, Bool.and_self]
theorem is_Z (e : Option Int) : callF (cxZ m) (blk (cxZ m)) 71 [.v (errA e), .v (.ifc 56 (.int .i64 (Int.ofNat 1)))] h = some (.v (.bool (e == some 1)), h) := by
 cases e with
 | none => exact callF_ext (e := isE) rfl rfl rfl
 | some c => exact callF_ext (e := isE) rfl rfl rfl
def codO (e : Option Int) : Option Int := if e = some 1 then some 4 else e
def codE (M : Mdl) (x : MFn) : Option Int :=
 match tyOf M x.t with
 | some y => codO (checkP (scpM M x y) x.b)
 | none => some 5
theorem ty_mem {M : Mdl} {t : Int} {y : FTy} (h : tyOf M t = some y) : y ∈ M.ty := by
 unfold tyOf at h
 cases e : ltZ t (Int.ofNat 0) with
 | true => rw [e] at h; cases h
 | false => rw [e] at h; exact List.mem_of_getElem? h
theorem check_M {M : Mdl} (hM : Bk M) (hS : Small M) (hL : LocN M) {g : MFn} (hg : g ∈ M.fu) {y : FTy} (hy : y ∈ M.ty) (h : Heap) : ∃ h', callF (cxZ m) (blk (cxZ m)) 10 [.v (.agg (scpM M g y).enc), .v (.imm (encIs g.b))] h = some (.v (errA (checkP (scpM M g y) g.b)), h') := by
 have h1 := (hM.fl g hg).2
 have h2 := hL g hg
 have h3 := hM.tl y hy
 have e1 : (fS M).length ≤ 1048776 := by
  unfold fS rawL
  rw [List.length_map, List.length_append, List.length_map, List.length_map]
  have := impK_len hS 0; have := hM.fu; omega
 have e2 : (gS M).length ≤ 1048776 := by
  unfold gS
  rw [List.length_append, List.length_map, List.length_map]
  have := impK_len hS 3; have := hM.gl; omega
 refine check_Z (R := 1048576) (fun x hx => hM.tl x hx) ⟨by have := hM.ty; show M.ty.length < _; omega, fun x hx => ?_, by show (fS M).length < _; omega, by show ((gS M).map _).length < _; rw [List.length_map]; omega, by show (y.p ++ g.l).length < _; rw [List.length_append]; omega⟩ ?_ h
 ·have := hM.tl x hx; omega
 ·have := Nat.mul_le_mul_left (1048576 + 6) h1; omega
theorem code_loop {M : Mdl} (hM : Bk M) (hS : Small M) (hL : LocN M) (hT : ∀ x, x ∈ M.fu → typB M x.t = true) : ∀ (d i : Nat), i + d = M.fu.length →
  blk (cxZ m) 31 (at_ Tryz.prog 31 2) ([.lp 0 0, .v (.imm (M.fu.map MFn.enc)), .v (.int .i64 (Int.ofNat M.fu.length)), .v (.int .i64 (Int.ofNat i))] ++ mC M) h = some (.v (errA (firstE (codE M) (M.fu.drop i))), h)
 | 0, i, hi => by
  rw [List.drop_of_length_le (by omega)]
  exact v31_2_6 (k0 := ltZ_f (by rw [ofN, ofN]; omega))
 | d + 1, i, hi => by
  have hx : M.fu[i]? = some M.fu[i] := List.getElem?_eq_getElem (by omega)
  have hm : M.fu[i] ∈ M.fu := List.getElem_mem _
  have hl := hM.fu
  have k0 : ltZ (Int.ofNat i) (Int.ofNat M.fu.length) = true := ltZ_t (by rw [ofN, ofN]; omega)
  rw [drop_get hx]
  have ih := code_loop hM hS hL hT d (i + 1) (by omega)
  generalize M.fu[i] = x at hx hm ⊢
  have k1 : ixA (.imm (M.fu.map MFn.enc)) (Int.ofNat i) 3 = some x.enc := ix_map hx x.enc_len
  obtain ⟨y, hy⟩ := typ_of (hT x hm)
  have hF : Fn M (Int.ofNat i) x y := ⟨hS, hL, Int.natCast_nonneg _, hx, hy⟩
  obtain ⟨h1, c3⟩ := t6_some m hF
  rw [scp_enc] at c3
  obtain ⟨h2, c8⟩ := check_M (m := m) hM hS hL hm (ty_mem hy) Heap.nil
  have hn := np_err (checkP (scpM M x y) x.b)
  have hi1 := is_Z (m := m) (h := h) (checkP (scpM M x y) x.b)
  have hq := err_neq (checkP (scpM M x y) x.b)
  rw [firstE, codE, hy]
  simp only
  generalize checkP (scpM M x y) x.b = e at c8 hn hi1 hq ⊢
  have n1 := np_M M (Int.ofNat i)
  have n2 := np_sc (scpM M x y)
  have n3 := np_body (scpM M x y) x.b
  have k5 := err_eql none
  by_cases e1 : e = some 1
  ·subst e1
   exact v31_2_0 (k0 := k0) (k1 := k1) (k2 := n1) (k3 := c3) (k4 := n2) (k5 := k5) (k6 := rfl) (k7 := n3) (k8 := c8) (k9 := hn) (k10 := hi1) (k11 := rfl)
  ·have hb : (e == some 1) = false := by simp [e1]
   rw [hb] at hi1
   have hc : codO e = e := if_neg e1
   rw [hc]
   cases e with
   | some c => exact v31_2_1 (k0 := k0) (k1 := k1) (k2 := n1) (k3 := c3) (k4 := n2) (k5 := k5) (k6 := rfl) (k7 := n3) (k8 := c8) (k9 := hn) (k10 := hi1) (k11 := rfl) (k12 := hq) (k13 := rfl)
   | none => exact v31_2_2 (k0 := k0) (k1 := k1) (k2 := n1) (k3 := c3) (k4 := n2) (k5 := k5) (k6 := rfl) (k7 := n3) (k8 := c8) (k9 := hn) (k10 := hi1) (k11 := rfl) (k12 := hq) (k13 := rfl) (k14 := by rw [wrapS (by omega)]; exact ih)
theorem codes_Z {M : Mdl} (hM : Bk M) (hS : Small M) (hL : LocN M) (hT : ∀ x, x ∈ M.fu → typB M x.t = true) (h : Heap) : callF (cxZ m) (blk (cxZ m)) 31 [eM M] h = some (.v (errA (firstE (codE M) M.fu)), h) := by
 have := code_loop (m := m) (h := h) hM hS hL hT M.fu.length 0 (by omega)
 exact callF_of rfl rfl (by kernel_rfl) (v31_0 (k0 := by rw [List.length_map]; exact this))
theorem st_new (h : Heap) {zs vs : List LV} (hl : setL zs 0 vs = vs) (hn : vs.length ≤ zs.length) : stP { bx := h.bx ++ [zs], mp := h.mp } (.ptr h.bx.length 0) vs = some { bx := h.bx ++ [vs], mp := h.mp } := by
 have h1 : Nat.ble (0 + vs.length) zs.length = true := Nat.ble_eq_true_of_le (by omega)
 simp only [stP]
 rw [List.getElem?_append_right (Nat.le_refl _), Nat.sub_self]
 simp only [List.getElem?_cons_zero, Option.bind_some, h1, cond_true, hl]
 rw [List.set_append_right _ _ (Nat.le_refl _), Nat.sub_self]
 rfl
theorem bx_new (h : Heap) (vs : List LV) : ({ bx := h.bx ++ [vs], mp := h.mp } : Heap).bx[h.bx.length]? = some vs := by simp
def eleE (M : Mdl) (x : Ele) : Option Int :=
 if spN M 1 = 0 then some 5 else orE (conE M x.o 1) (if (x.f.any fun z => decide (z < 0) || decide ((spN M 0 : Int) ≤ z)) = true then some 5 else none)
def datE (M : Mdl) (x : Dat) : Option Int := if spN M 2 = 0 then some 5 else conE M x.o 1
theorem cl72 {F : Nat} {n : Int} (hF : ldP h (.ptr F 0) 1 false = some (.int .i64 n)) (z : Int) : callV (cxZ m) (blk (cxZ m)) (.fn 72 [] [.ptr F 0]) [.v (.int .i64 z)] h = some (.v (.bool (decide (z < 0) || decide (n ≤ z))), h) := by
 show callF (cxZ m) (blk (cxZ m)) 72 [.v (.int .i64 z), .v (.ptr F 0)] h = _
 by_cases h0 : z < 0
 ·rw [decide_eq_true h0]
  exact callF_of rfl rfl (by kernel_rfl) (v72_0 (k0 := ltZ_t (b := Int.ofNat 0) h0))
 ·rw [decide_eq_false h0, Bool.false_or, ← leZ_eq]
  exact callF_of rfl rfl (by kernel_rfl) (v72_1 (k0 := ltZ_f (b := Int.ofNat 0) (Int.not_lt.1 h0)) (k1 := hF))
theorem seg14 {M : Mdl} (hM : Bk M) (hS : Small M) : ∀ (d i : Nat), i + d = M.da.length →
  blk (cxZ m) 32 (at_ Tryz.prog 32 14) ([.lp 0 0, .v (.imm (M.da.map Dat.enc)), .v (.int .i64 (Int.ofNat M.da.length)), .v (.int .i64 (Int.ofNat i))] ++ mC M) h = some (.v (errA (firstE (datE M) (M.da.drop i))), h)
 | 0, i, hi => by
  rw [List.drop_of_length_le (by omega)]
  exact v32_14_3 (k0 := ltZ_f (by rw [ofN, ofN]; omega))
 | d + 1, i, hi => by
  have hx : M.da[i]? = some M.da[i] := List.getElem?_eq_getElem (by omega)
  have hm := hM.dl M.da[i] (List.getElem_mem _)
  have hl := hM.da
  have k0 : ltZ (Int.ofNat i) (Int.ofNat M.da.length) = true := ltZ_t (by rw [ofN, ofN]; omega)
  rw [drop_get hx]
  have ih := seg14 hM hS d (i + 1) (by omega)
  generalize M.da[i] = x at hx hm ⊢
  have k1 : ixA (.imm (M.da.map Dat.enc)) (Int.ofNat i) 10 = some x.enc := ix_map hx x.enc_len
  have c1 := sp_Z (m := m) hS 2 h
  have c2 := con_Z (m := m) (h := h) hS (x := x.o) (by omega) 1
  have hq := err_neq (conE M x.o 1)
  unfold firstE datE
  by_cases q : spN M 2 = 0
  ·rw [if_pos q]
   rw [q] at c1
   obtain ⟨⟨o, a, b, v, tt, l, bd, el, qq⟩, f⟩ := x
   exact v32_14_0 (k0 := k0) (k1 := k1) (k2 := c1) (k3 := rfl)
  ·rw [if_neg q]
   have q' : eqZ (Int.ofNat (spN M 2)) (Int.ofNat 0) = false := eqZ_f (by rw [ofN, ofN]; omega)
   cases q2 : conE M x.o 1 with
   | some c =>
    rw [q2] at c2 hq
    obtain ⟨⟨o, a, b, v, tt, l, bd, el, qq⟩, f⟩ := x
    exact v32_14_1 (k0 := k0) (k1 := k1) (k2 := c1) (k3 := q') (k4 := c2) (k5 := hq) (k6 := rfl)
   | none =>
    rw [q2] at c2 hq
    obtain ⟨⟨o, a, b, v, tt, l, bd, el, qq⟩, f⟩ := x
    exact v32_14_2 (k0 := k0) (k1 := k1) (k2 := c1) (k3 := q') (k4 := c2) (k5 := hq) (k6 := rfl) (k7 := by rw [wrapS (by omega)]; exact ih)
theorem seg3 {M : Mdl} (hM : Bk M) (hS : Small M) {F : Nat} (hF : ldP h (.ptr F 0) 1 false = some (.int .i64 (Int.ofNat (spN M 0)))) : ∀ (d i : Nat), i + d = M.el.length →
  blk (cxZ m) 32 (at_ Tryz.prog 32 3) ([.lp 0 0, .v (.ptr F 0), .v (.imm (M.el.map Ele.enc)), .v (.int .i64 (Int.ofNat M.el.length)), .v (.int .i64 (Int.ofNat i))] ++ mC M) h = some (.v (errA (orE (firstE (eleE M) (M.el.drop i)) (firstE (datE M) M.da))), h)
 | 0, i, hi => by
  rw [List.drop_of_length_le (by omega)]
  have := seg14 (m := m) (h := h) hM hS M.da.length 0 (by omega)
  exact v32_3_4 (k0 := ltZ_f (by rw [ofN, ofN]; omega)) (k1 := by rw [List.length_map]; exact this)
 | d + 1, i, hi => by
  have hx : M.el[i]? = some M.el[i] := List.getElem?_eq_getElem (by omega)
  have hm := hM.eo M.el[i] (List.getElem_mem _)
  have hl := hM.el
  have k0 : ltZ (Int.ofNat i) (Int.ofNat M.el.length) = true := ltZ_t (by rw [ofN, ofN]; omega)
  rw [drop_get hx]
  have ih := seg3 hM hS hF d (i + 1) (by omega)
  generalize M.el[i] = x at hx hm ⊢
  have k1 : ixA (.imm (M.el.map Ele.enc)) (Int.ofNat i) 10 = some x.enc := ix_map hx x.enc_len
  have c1 := sp_Z (m := m) hS 1 h
  have c2 := con_Z (m := m) (h := h) hS (x := x.o) (by omega) 1
  have hq := err_neq (conE M x.o 1)
  have c7 := hasI (m := m) (h := h) (xs := x.f) (F := fun z => decide (z < 0) || decide ((Int.ofNat (spN M 0)) ≤ z)) (fun z _ => cl72 hF z) (by omega)
  have hE : eleE M x = (if spN M 1 = 0 then some 5 else orE (conE M x.o 1) (if (x.f.any fun z => decide (z < 0) || decide ((spN M 0 : Int) ≤ z)) = true then some 5 else none)) := rfl
  rw [firstE, hE]
  by_cases q : spN M 1 = 0
  ·rw [if_pos q]
   rw [q] at c1
   obtain ⟨⟨o, a, b, v, tt, l, bd, el, qq⟩, f⟩ := x
   exact v32_3_0 (k0 := k0) (k1 := k1) (k2 := c1) (k3 := rfl)
  ·rw [if_neg q]
   have q' : eqZ (Int.ofNat (spN M 1)) (Int.ofNat 0) = false := eqZ_f (by rw [ofN, ofN]; omega)
   cases q2 : conE M x.o 1 with
   | some c =>
    rw [q2] at c2 hq
    obtain ⟨⟨o, a, b, v, tt, l, bd, el, qq⟩, f⟩ := x
    exact v32_3_1 (k0 := k0) (k1 := k1) (k2 := c1) (k3 := q') (k4 := c2) (k5 := hq) (k6 := rfl)
   | none =>
    rw [q2] at c2 hq
    have e7 : (x.f.any fun z => decide (z < 0) || decide ((spN M 0 : Int) ≤ z)) = (x.f.any fun z => decide (z < 0) || decide ((Int.ofNat (spN M 0)) ≤ z)) := rfl
    rw [e7]
    cases q3 : x.f.any fun z => decide (z < 0) || decide ((Int.ofNat (spN M 0)) ≤ z) with
    | true =>
     rw [q3] at c7
     obtain ⟨⟨o, a, b, v, tt, l, bd, el, qq⟩, f⟩ := x
     exact v32_3_2 (k0 := k0) (k1 := k1) (k2 := c1) (k3 := q') (k4 := c2) (k5 := hq) (k6 := rfl) (k7 := c7) (k8 := rfl)
    | false =>
     rw [q3] at c7
     obtain ⟨⟨o, a, b, v, tt, l, bd, el, qq⟩, f⟩ := x
     exact v32_3_3 (k0 := k0) (k1 := k1) (k2 := c1) (k3 := q') (k4 := c2) (k5 := hq) (k6 := rfl) (k7 := c7) (k8 := rfl) (k9 := by rw [wrapS (by omega)]; exact ih)
def segE (M : Mdl) : Option Int := orE (firstE (eleE M) M.el) (firstE (datE M) M.da)
theorem segs_Z {M : Mdl} (hM : Bk M) (hS : Small M) (h : Heap) : ∃ h', callF (cxZ m) (blk (cxZ m)) 32 [eM M] h = some (.v (errA (segE M)), h') := by
 have hst := st_new h (zs := [.v (.int .i64 (Int.ofNat 0))]) (vs := [.v (.int .i64 (Int.ofNat (spN M 0)))]) rfl (Nat.le_refl _)
 have hld := ldP_at (bx_new h [.v (.int .i64 (Int.ofNat (spN M 0)))]) (k := 0) rfl
 have := seg3 (m := m) hM hS hld M.el.length 0 (by omega)
 exact ⟨_, callF_of rfl rfl (by kernel_rfl) (v32_0 (k0 := sp_Z hS 0 h) (k1 := hst) (k2 := by rw [List.length_map]; exact this))⟩
def staE (M : Mdl) : Option Int :=
 if M.st = -1 then none else
 match (fT M M.st).bind (tyOf M) with
 | some y => if 0 < y.p.length then some 4 else if 0 < y.r.length then some 4 else none
 | none => some 5
theorem start_Z {M : Mdl} (hS : Small M) (h : Heap) : callF (cxZ m) (blk (cxZ m)) 33 [eM M] h = some (.v (errA (staE M)), h) := by
 have c := t13 m hS M.st h
 unfold tyAns at c
 unfold staE
 by_cases h1 : M.st = -1
 ·rw [if_pos h1]
  exact callF_of rfl rfl (by kernel_rfl) (v33_0 (k0 := eqZ_t (b := Int.negSucc 0) h1))
 ·rw [if_neg h1]
  have k0 : eqZ M.st (Int.negSucc 0) = false := eqZ_f (b := Int.negSucc 0) h1
  cases hy : (fT M M.st).bind (tyOf M) with
  | none =>
   rw [hy] at c
   exact callF_of rfl rfl (by kernel_rfl) (v33_1 (k0 := k0) (k1 := c) (k2 := err_neq (some 5)) (k3 := rfl))
  | some y =>
   rw [hy] at c
   simp only at c ⊢
   by_cases h2 : 0 < y.p.length
   ·rw [if_pos h2]
    exact callF_of rfl rfl (by kernel_rfl) (v33_2 (k0 := k0) (k1 := c) (k2 := err_neq none) (k3 := rfl) (k4 := ltZ_t (by rw [encN_len, ofN, ofN]; omega)))
   ·rw [if_neg h2]
    have k4 : ltZ (Int.ofNat 0) (Int.ofNat (encN y.p).length) = false := ltZ_f (by rw [encN_len, ofN, ofN]; omega)
    by_cases h3 : 0 < y.r.length
    ·rw [if_pos h3]
     exact callF_of rfl rfl (by kernel_rfl) (v33_3 (k0 := k0) (k1 := c) (k2 := err_neq none) (k3 := rfl) (k4 := k4) (k5 := ltZ_t (by rw [encN_len, ofN, ofN]; omega)))
    ·rw [if_neg h3]
     exact callF_of rfl rfl (by kernel_rfl) (v33_4 (k0 := k0) (k1 := c) (k2 := err_neq none) (k3 := rfl) (k4 := k4) (k5 := ltZ_f (by rw [encN_len, ofN, ofN]; omega)))
def sameN (e x : Exq) : Bool := x.n.toList == e.n.toList
def expE (M : Mdl) (e : Exq) (pre : List Exq) : Option Int :=
 if e.i < 0 then some 5 else if (spN M e.k : Int) ≤ e.i then some 5 else if pre.any (sameN e) = true then some 6 else none
def expsE (M : Mdl) : List Exq → List Exq → Option Int
 | _, [] => none
 | pre, e :: r => orE (expE M e pre) (expsE M (pre ++ [e]) r)
theorem cl75 {F : Nat} {e : Exq} (hF : ldP h (.ptr F 0) 1 false = some (.str e.n)) (x : Exq) : callV (cxZ m) (blk (cxZ m)) (.fn 75 [] [.ptr F 0]) [.v (.agg x.enc)] h = some (.v (.bool (sameN e x)), h) := by
 show callF (cxZ m) (blk (cxZ m)) 75 [.v (.agg x.enc), .v (.ptr F 0)] h = _
 obtain ⟨na, k, i⟩ := x
 exact callF_of rfl rfl (by kernel_rfl) (v75_0 (k0 := hF))
theorem und41 : Tryz.prog.underlying 41 = some (.slice 100) := by kernel_rfl
theorem size100 : (Tryz.prog.info? 100).map (·.size) = some 3 := by kernel_rfl
theorem sl_ex (l : List Exq) {i : Nat} (hi : i ≤ l.length) : slA (Cx.P (cxZ m)) 41 (.imm (l.map Exq.enc)) none (some (Int.ofNat i)) = some (.imm ((l.take i).map Exq.enc)) := by
 obtain ⟨t, h1, h2⟩ := Option.map_eq_some_iff.1 size100
 have hf : fitE 3 (l.map Exq.enc) = true := by cases l <;> rfl
 have e1 : Cx.P (cxZ m) = Tryz.prog := rfl
 have h3 : (0 : Int) ≤ Int.ofNat i := Int.natCast_nonneg i
 have h4 : (Int.ofNat i) ≤ (((l.map Exq.enc).length : Nat) : Int) := by rw [List.length_map, ofN]; omega
 unfold slA
 rw [e1, und41]
 simp only [h1, Option.bind_some, h2, hf, Option.getD_none, Option.getD_some, decide_eq_true h3, decide_eq_true h4]
 rw [List.map_take]
 rfl
theorem exps_loop {M : Mdl} (hM : Bk M) (hS : Small M) : ∀ (d i : Nat), i + d = M.ex.length → ∀ h : Heap,
  ∃ h', blk (cxZ m) 34 (at_ Tryz.prog 34 2) ([.lp 0 0, .v (.imm (M.ex.map Exq.enc)), .v (.int .i64 (Int.ofNat M.ex.length)), .v (.int .i64 (Int.ofNat i))] ++ mC M) h = some (.v (errA (expsE M (M.ex.take i) (M.ex.drop i))), h')
 | 0, i, hi, h => by
  rw [List.drop_of_length_le (by omega)]
  exact ⟨_, v34_2_4 (k0 := ltZ_f (by rw [ofN, ofN]; omega))⟩
 | d + 1, i, hi, h => by
  have hx : M.ex[i]? = some M.ex[i] := List.getElem?_eq_getElem (by omega)
  have hl := hM.ex
  have k0 : ltZ (Int.ofNat i) (Int.ofNat M.ex.length) = true := ltZ_t (by rw [ofN, ofN]; omega)
  have ht : M.ex.take (i + 1) = M.ex.take i ++ [M.ex[i]] := by rw [List.take_add_one, hx]; rfl
  rw [drop_get hx]
  have ih := exps_loop hM hS d (i + 1) (by omega)
  rw [ht] at ih
  generalize M.ex[i] = x at hx ih ⊢
  have k1 : ixA (.imm (M.ex.map Exq.enc)) (Int.ofNat i) 3 = some x.enc := ix_map hx x.enc_len
  have hst := st_new h (zs := [.v (.str (ByteArray.mk #[])), .v (.int .i64 (Int.ofNat 0)), .v (.int .i64 (Int.ofNat 0))]) (vs := [.v (.str x.n), .v (.int .i64 x.k), .v (.int .i64 x.i)]) rfl (Nat.le_refl _)
  have hb := bx_new h [.v (.str x.n), .v (.int .i64 x.k), .v (.int .i64 x.i)]
  have l0 := ldP_at hb (k := 0) rfl
  have l1 := ldP_at hb (k := 1) rfl
  have l2 := ldP_at hb (k := 2) rfl
  have c8 := sp_Z (m := m) hS x.k Heap.nil
  have n7 := np_M M x.k
  have hl0 : (M.ex.take i).length < 2 ^ 62 := by rw [List.length_take]; omega
  have c11 := hasX (m := m) (xs := M.ex.take i) (F := sameN x) (fun y _ => cl75 l0 y) hl0
  obtain ⟨h', ih⟩ := ih { bx := h.bx ++ [[.v (.str x.n), .v (.int .i64 x.k), .v (.int .i64 x.i)]], mp := h.mp }
  unfold expsE expE
  by_cases q0 : x.i < 0
  ·rw [if_pos q0]
   obtain ⟨na, k, j⟩ := x
   exact ⟨_, v34_2_0 (k0 := k0) (k1 := k1) (k2 := hst) (k3 := l2) (k4 := ltZ_t (b := Int.ofNat 0) q0)⟩
  ·rw [if_neg q0]
   have k4 : ltZ x.i (Int.ofNat 0) = false := ltZ_f (b := Int.ofNat 0) (Int.not_lt.1 q0)
   by_cases q1 : (spN M x.k : Int) ≤ x.i
   ·rw [if_pos q1]
    obtain ⟨na, k, j⟩ := x
    exact ⟨_, v34_2_1 (k0 := k0) (k1 := k1) (k2 := hst) (k3 := l2) (k4 := k4) (k5 := l2) (k6 := l1) (k7 := n7) (k8 := c8) (k9 := leZ_t q1)⟩
   ·rw [if_neg q1]
    have k9 : leZ (Int.ofNat (spN M x.k)) x.i = false := leZ_f (by rw [ofN]; omega)
    have k10 := sl_ex (m := m) M.ex (i := i) (by omega)
    cases q2 : (M.ex.take i).any (sameN x) with
    | true =>
     rw [q2] at c11
     obtain ⟨na, k, j⟩ := x
     exact ⟨_, v34_2_2 (k0 := k0) (k1 := k1) (k2 := hst) (k3 := l2) (k4 := k4) (k5 := l2) (k6 := l1) (k7 := n7) (k8 := c8) (k9 := k9) (k10 := k10) (k11 := c11) (k12 := rfl)⟩
    | false =>
     rw [q2] at c11
     obtain ⟨na, k, j⟩ := x
     exact ⟨h', v34_2_3 (k0 := k0) (k1 := k1) (k2 := hst) (k3 := l2) (k4 := k4) (k5 := l2) (k6 := l1) (k7 := n7) (k8 := c8) (k9 := k9) (k10 := k10) (k11 := c11) (k12 := rfl) (k13 := by rw [wrapS (by omega)]; exact ih)⟩
theorem exps_Z {M : Mdl} (hM : Bk M) (hS : Small M) (h : Heap) : ∃ h', callF (cxZ m) (blk (cxZ m)) 34 [eM M] h = some (.v (errA (expsE M [] M.ex)), h') := by
 obtain ⟨h', this⟩ := exps_loop (m := m) hM hS M.ex.length 0 (by omega) h
 exact ⟨h', callF_of rfl rfl (by kernel_rfl) (v34_0 (k0 := by rw [List.length_map]; exact this))⟩
theorem first_none {A : Type} {f : A → Option Int} : ∀ {l : List A}, firstE f l = none → ∀ x, x ∈ l → f x = none
 | [], _, x, hx => by cases hx
 | y :: ys, h, x, hx => by
  unfold firstE orE at h
  cases e : f y with
  | some c => rw [e] at h; cases h
  | none =>
   rw [e] at h
   rcases List.mem_cons.1 hx with rfl | hx
   ·exact e
   ·exact first_none h x hx
theorem or_none {a b : Option Int} (h : orE a b = none) : a = none ∧ b = none := by
 cases a with
 | some c => cases h
 | none => exact ⟨rfl, h⟩
theorem typed_of {M : Mdl} (h : spE M = none) : ∀ x, x ∈ M.fu → typB M x.t = true := by
 have h2 := (or_none h).2
 unfold sp2E at h2
 split at h2
 ·cases h2
 split at h2
 ·cases h2
 split at h2
 ·cases h2
 split at h2
 ·cases h2
 intro x hx
 have := first_none h2 x hx
 unfold funE at this
 cases e : typB M x.t with
 | true => rfl
 | false => rw [e] at this; cases this
noncomputable def vk1 (m : Int) (M : Mdl) : Option Int := if smlB m M = true then firstE typeE M.ty else some 7
noncomputable def chkE (m : Int) (M : Mdl) : Option Int := orE (vk1 m M) (orE (spE M) (orE (firstE (gloE M) M.gl) (orE (firstE (codE M) M.fu) (orE (segE M) (orE (staE M) (expsE M [] M.ex))))))
theorem npM (M : Mdl) : npLs [eM M] = true := by simp only [npLs, LV.np, AV.np, Mdl.np, Bool.and_self]
theorem valid_Z {M : Mdl} (hM : Bk M) (hS : Small M) (hL : LocN M) (h : Heap) : callF (cxZ m) (blk (cxZ m)) 15 [eM M] h = some (.v (errA (chkE m M)), h) := by
 have c0 := types_Z (m := m) (h := h) (M := M) (fun x hx => by have := hM.tl x hx; omega) (by have := hM.ty; omega) (sml_Z hM h)
 have q0 := err_neq (vk1 m M)
 unfold chkE
 unfold vk1 at q0 ⊢
 cases e0 : (if smlB m M = true then firstE typeE M.ty else some 7) with
 | some c =>
  rw [e0] at c0 q0
  exact callF_of rfl rfl (by kernel_rfl) (v15_0 (k0 := c0) (k1 := q0) (k2 := rfl))
 | none =>
 rw [e0] at c0 q0
 have c1 := spaces_Z (m := m) hM hS h
 have q1 := err_neq (spE M)
 cases e1 : spE M with
 | some c =>
  rw [e1] at c1 q1
  exact callF_of rfl rfl (by kernel_rfl) (v15_1 (k0 := c0) (k1 := q0) (k2 := rfl) (k3 := c1) (k4 := q1) (k5 := rfl))
 | none =>
 have hT := typed_of e1
 rw [e1] at c1 q1
 have c2 := globals_Z (m := m) hM hS h
 have q2 := err_neq (firstE (gloE M) M.gl)
 cases e2 : firstE (gloE M) M.gl with
 | some c =>
  rw [e2] at c2 q2
  exact callF_of rfl rfl (by kernel_rfl) (v15_2 (k0 := c0) (k1 := q0) (k2 := rfl) (k3 := c1) (k4 := q1) (k5 := rfl) (k6 := c2) (k7 := q2) (k8 := rfl))
 | none =>
 rw [e2] at c2 q2
 have c3 := codes_Z (m := m) hM hS hL hT h
 have q3 := err_neq (firstE (codE M) M.fu)
 cases e3 : firstE (codE M) M.fu with
 | some c =>
  rw [e3] at c3 q3
  exact callF_of rfl rfl (by kernel_rfl) (v15_3 (k0 := c0) (k1 := q0) (k2 := rfl) (k3 := c1) (k4 := q1) (k5 := rfl) (k6 := c2) (k7 := q2) (k8 := rfl) (k9 := c3) (k10 := q3) (k11 := rfl))
 | none =>
 rw [e3] at c3 q3
 obtain ⟨h4, c4⟩ := segs_Z (m := m) hM hS Heap.nil
 have n4 := np_err (segE M)
 have q4 := err_neq (segE M)
 have n0 := npM M
 cases e4 : segE M with
 | some c =>
  rw [e4] at c4 q4 n4
  exact callF_of rfl rfl (by kernel_rfl) (v15_4 (k0 := c0) (k1 := q0) (k2 := rfl) (k3 := c1) (k4 := q1) (k5 := rfl) (k6 := c2) (k7 := q2) (k8 := rfl) (k9 := c3) (k10 := q3) (k11 := rfl) (k12 := n0) (k13 := c4) (k14 := n4) (k15 := q4) (k16 := rfl))
 | none =>
 rw [e4] at c4 q4 n4
 have c5 := start_Z (m := m) hS h
 have q5 := err_neq (staE M)
 cases e5 : staE M with
 | some c =>
  rw [e5] at c5 q5
  exact callF_of rfl rfl (by kernel_rfl) (v15_5 (k0 := c0) (k1 := q0) (k2 := rfl) (k3 := c1) (k4 := q1) (k5 := rfl) (k6 := c2) (k7 := q2) (k8 := rfl) (k9 := c3) (k10 := q3) (k11 := rfl) (k12 := n0) (k13 := c4) (k14 := n4) (k15 := q4) (k16 := rfl) (k17 := c5) (k18 := q5) (k19 := rfl))
 | none =>
 rw [e5] at c5 q5
 obtain ⟨h6, c6⟩ := exps_Z (m := m) hM hS Heap.nil
 have n6 := np_err (expsE M [] M.ex)
 exact callF_of rfl rfl (by kernel_rfl) (v15_6 (k0 := c0) (k1 := q0) (k2 := rfl) (k3 := c1) (k4 := q1) (k5 := rfl) (k6 := c2) (k7 := q2) (k8 := rfl) (k9 := c3) (k10 := q3) (k11 := rfl) (k12 := n0) (k13 := c4) (k14 := n4) (k15 := q4) (k16 := rfl) (k17 := c5) (k18 := q5) (k19 := rfl) (k20 := c6) (k21 := n6))
end
end Go.Proofs.YtoblgjmllmomhaaGreatDoor
