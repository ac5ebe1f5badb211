/-
  What a function's code may speak of, as the program tells it.
-/
import Derived.Test.YtdmgjhnmlilboaaGreatDoorAmS14A
import Derived.Test.YtdmgjhnmlilboaaGreatDoorAmS14G

namespace Go.Proofs.YtdmgjhnmlilboaaGreatDoor
open Go Go.RowKit Go.Proofs.Am

abbrev mC (M : Mdl) : List LV := [.v (.imm (M.ty.map FTy.enc)), .v (.imm (M.im.map Imp.enc)), .v (.imm (M.fu.map MFn.enc)), .v (.imm (M.ta.map Lim.enc)), .v (.imm (M.me.map Lim.enc)), .v (.imm (M.gl.map Glo.enc)), .v (.imm (M.ex.map Exq.enc)), .v (.int .i64 M.st), .v (.imm (M.el.map Ele.enc)), .v (.imm (M.da.map Dat.enc)), .v (.imm (M.cu.map Cus.enc))]
/-- The heap: the module, and what is told of it so far. -/
abbrev HP (M : Mdl) (tys : List FTy) (fns : List Int) (gls : List (Int × Bool)) : Heap :=
  Heap.mk [mC M, [.ow 2 (tys.map FTy.enc), .ow 1 (encN fns), .ow 11 (gls.map gv), .v (.bool (bT M 1)), .v (.bool (bT M 2)), .ow 1 [], .v (.int .i64 (Int.ofNat 0))]] []
abbrev Z7 : List LV := [.ow 2 [], .ow 1 [], .ow 11 [], .v (.bool false), .v (.bool false), .ow 1 [], .v (.int .i64 (Int.ofNat 0))]
abbrev K6 (f : Int) : List LV := [.v (.int .i64 f), .v (.ptr 0 0), .lp 0 0, .v (.ptr 1 0)]
abbrev FN : LV := .v (.fn 14 [] [.ptr 0 0, .ptr 1 0])
abbrev L6 (xs : List (List AV)) (i : Nat) : List LV := [.v (.imm xs), .v (.int .i64 (Int.ofNat xs.length)), .v (.int .i64 (Int.ofNat i))] ++ Z7
abbrev scT (M : Mdl) (g : MFn) (y : FTy) (tys : List FTy) (fns : List Int) (gls : List (Int × Bool)) : LV :=
  .tup [.agg (scL M (tys.map FTy.enc) (encN fns) (gls.map gv) (y.p ++ g.l) (resT y)), .nilI]

/-- What is known of the function. -/
structure Fn (M : Mdl) (f : Int) (g : MFn) (y : FTy) : Prop where
  sm : Small M
  loc : LocN M
  nn : 0 ≤ f
  get : M.fu[f.toNat]? = some g
  ty : tyOf M g.t = some y
section
variable {M : Mdl} {f : Int} {g : MFn} {y : FTy}
theorem Fn.ixg (h : Fn M f g y) : ixA (.imm (M.fu.map MFn.enc)) f 3 = some g.enc := ix_mapZ h.nn h.get g.enc_len
theorem Fn.hl (h : Fn M f g y) : g.l.length ≤ 1000 := h.loc g (List.mem_of_getElem? h.get)
theorem Fn.hp (h : Fn M f g y) : y.p.length * 8 ≤ 140737488351232 := (ty_ans h.sm h.ty).2.2.2.1.1
theorem Fn.hr (h : Fn M f g y) : y.r.length * 8 ≤ 140737488351232 := (ty_ans h.sm h.ty).2.2.2.2.1

theorem loop6_25 (m : Int) (hF : Fn M f g y) (tys : List FTy) (fns : List Int) : ∀ (d i : Nat), i + d = M.gl.length → ∀ out : List (Int × Bool), out.length ≤ 200 + i →
    ∃ h', blk (cxZ m) 6 (at_ Tryz.prog 6 25) (K6 f ++ L6 (M.gl.map Glo.enc) i) (HP M tys fns out) = some (scT M g y tys fns (out ++ (M.gl.drop i).map gG), h')
  | 0, i, hd, out, ho => by
    rw [List.drop_eq_nil_of_le (by omega), List.map_nil, List.append_nil]
    have k0 : ltZ (Int.ofNat i) (Int.ofNat (M.gl.map Glo.enc).length) = false := ltZ_f (by rw [List.length_map, ofN, ofN]; omega)
    have kg := hF.ixg
    have ky := (ty_ans hF.sm hF.ty).2.2.1
    have kc := t15c m y.p g.l hF.hp hF.hl Heap.nil
    have kn : npLs [LV.v (AV.imm [[AV.imm (encN y.p)], [AV.imm (encN g.l)]])] = true := by
      simp only [npLs, LV.np, AV.np, npLL, npL, npLL_encN, Bool.and_self]
    have kr : LV.np (LV.v (AV.imm (encN (y.p ++ g.l)))) = true := by simp only [LV.np, AV.np, npLL_encN]
    obtain ⟨p, r⟩ := y
    cases r with
    | nil => exact ⟨_, z6_25_2 (k0 := k0) (k1 := kg) (k2 := ky) (k3 := kg) (k4 := kn) (k5 := kc) (k6 := kr) (k7 := rfl) ..⟩
    | cons z r => exact ⟨_, z6_25_1 (k0 := k0) (k1 := kg) (k2 := ky) (k3 := kg) (k4 := kn) (k5 := kc) (k6 := kr) (k7 := rfl) (k8 := rfl) ..⟩
  | d + 1, i, hd, out, ho => by
    have hgl := hF.sm.gl
    have hlt : i < M.gl.length := by omega
    have hx : M.gl[i]? = some M.gl[i] := List.getElem?_eq_getElem hlt
    generalize M.gl[i] = x at hx
    have k0 : ltZ (Int.ofNat i) (Int.ofNat (M.gl.map Glo.enc).length) = true := ltZ_t (by rw [List.length_map, ofN, ofN]; omega)
    have k1 : ixA (.imm (M.gl.map Glo.enc)) (Int.ofNat i) 11 = some x.enc := ix_map hx x.enc_len
    have k2 := ap_gv (out := out) (x := gG x) (by omega)
    have hw := wrapS (n := i) (by omega)
    obtain ⟨h', ih⟩ := loop6_25 m hF tys fns d (i + 1) (by omega) (out ++ [gG x]) (by simp; omega)
    rw [drop_get hx, List.map_cons, ← list_snoc out (gG x) ((M.gl.drop (i + 1)).map gG)]
    obtain ⟨t, q, ⟨o, a, b, v, tt, l, bd, el, qq⟩⟩ := x
    exact ⟨h', z6_25_0 (k0 := k0) (k1 := k1) (k2 := k2) (k3 := by rw [hw]; exact ih) ..⟩

/-- The closure: a type's number goes behind the others'. -/
theorem clos (m : Int) {M : Mdl} (hM : Small M) (tys : List FTy) (fns : List Int) (gls : List (Int × Bool)) (t : Int) (hl : fns.length ≤ 1000) :
    callV (cxZ m) (blk (cxZ m)) (.fn 14 [] [.ptr 0 0, .ptr 1 0]) [.v (.int .i64 t)] (HP M tys fns gls) = some (.tup [], HP M tys (fns ++ [numT M t]) gls) := by
  have e : callV (cxZ m) (blk (cxZ m)) (.fn 14 [] [.ptr 0 0, .ptr 1 0]) [.v (.int .i64 t)] (HP M tys fns gls) = callF (cxZ m) (blk (cxZ m)) 14 [.v (.int .i64 t), .v (.ptr 0 0), .v (.ptr 1 0)] (HP M tys fns gls) := rfl
  rw [e]
  refine callZ rfl (by kernel_rfl) (by kernel_rfl) ?_
  have ka : ∀ z : Int, apL (.ow 1 (encN fns)) 1 8 [[.int .i64 z]] = some (.ow 1 (encN (fns ++ [z]))) := fun z => ap_int (by omega)
  cases hy : tyOf M t with
  | none =>
    rw [numT_none hy]
    rcases ty_none hy with e1 | ⟨e1, e2⟩
    · exact z14_0 (k0 := e1) (k1 := ka (Int.negSucc 0)) ..
    · exact z14_1 (k0 := e1) (k1 := e2) (k2 := ka (Int.negSucc 0)) ..
  | some y =>
    rw [numT_some hy]
    obtain ⟨e1, e2, _⟩ := ty_ans hM hy
    exact z14_2 (k0 := e1) (k1 := e2) (k2 := ka t) ..

theorem loop6_20 (m : Int) (hF : Fn M f g y) (tys : List FTy) (gls : List (Int × Bool)) (hg : gls.length ≤ 200) : ∀ (d i : Nat), i + d = M.fu.length → ∀ out : List Int, out.length ≤ 200 + i →
    ∃ h', blk (cxZ m) 6 (at_ Tryz.prog 6 20) (K6 f ++ FN :: L6 (M.fu.map MFn.enc) i) (HP M tys out gls) = some (scT M g y tys (out ++ ((M.fu.drop i).map MFn.t).map (numT M)) (gls ++ M.gl.map gG), h')
  | 0, i, hd, out, ho => by
    rw [List.drop_eq_nil_of_le (by omega), List.map_nil, List.map_nil, List.append_nil]
    obtain ⟨h', ih⟩ := loop6_25 m hF tys out M.gl.length 0 (by omega) gls (by omega)
    rw [List.drop_zero] at ih
    exact ⟨h', z6_20_1 (k0 := ltZ_f (by rw [List.length_map, ofN, ofN]; omega)) (k1 := ih) ..⟩
  | d + 1, i, hd, out, ho => by
    have hfu := hF.sm.fu
    have hlt : i < M.fu.length := by omega
    have hx : M.fu[i]? = some M.fu[i] := List.getElem?_eq_getElem hlt
    generalize M.fu[i] = x at hx
    have k0 : ltZ (Int.ofNat i) (Int.ofNat (M.fu.map MFn.enc).length) = true := ltZ_t (by rw [List.length_map, ofN, ofN]; omega)
    have k1 : ixA (.imm (M.fu.map MFn.enc)) (Int.ofNat i) 3 = some x.enc := ix_map hx x.enc_len
    have k2 := clos m hF.sm tys out gls x.t (by omega)
    have hw := wrapS (n := i) (by omega)
    obtain ⟨h', ih⟩ := loop6_20 m hF tys gls hg d (i + 1) (by omega) (out ++ [numT M x.t]) (by simp; omega)
    rw [drop_get hx, List.map_cons, List.map_cons, ← list_snoc out (numT M x.t) (((M.fu.drop (i + 1)).map MFn.t).map (numT M))]
    exact ⟨h', z6_20_0 (k0 := k0) (k1 := k1) (k2 := k2) (k3 := by rw [hw]; exact ih) ..⟩
end
end Go.Proofs.YtdmgjhnmlilboaaGreatDoor
