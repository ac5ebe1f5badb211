/-
  CopyModule: a module in new memory is the same.
-/
import Derived.Test.YtmgjnbhofkchmaaGreatDoorAmSYT
import Derived.Test.YtmgjnbhofkchmaaGreatDoorAmSYF
import Derived.Test.YtmgjnbhofkchmaaGreatDoorAmSYS

namespace Go.Proofs.YtmgjnbhofkchmaaGreatDoor
open Go Go.RowKit Go.Proofs.Am
abbrev S17 (M : Mdl) (i : Nat) (ty : List FTy) (fu : List MFn) (gl : List Glo) (el : List Ele) (da : List Dat) (cu : List Cus) : List LV :=
  [.lp 0 0, .lp 1 0, .lp 2 0, .v (.int .i64 (Int.ofNat i)), .v (.imm (M.ty.map FTy.enc)), .v (.imm (M.im.map Imp.enc)), .v (.imm (M.fu.map MFn.enc)), .v (.imm (M.ta.map Lim.enc)), .v (.imm (M.me.map Lim.enc)), .v (.imm (M.gl.map Glo.enc)), .v (.imm (M.ex.map Exq.enc)), .v (.int .i64 M.st), .v (.imm (M.el.map Ele.enc)), .v (.imm (M.da.map Dat.enc)), .v (.imm (M.cu.map Cus.enc)), .ow 2 [], .ow 8 [], .ow 3 [], .ow 3 [], .ow 3 [], .ow 11 [], .ow 3 [], .v (.int .i64 (Int.ofNat 0)), .ow 10 [], .ow 10 [], .ow 2 [], .ow 2 (ty.map FTy.enc), .v (.imm (M.im.map Imp.enc)), .ow 3 (fu.map MFn.enc), .v (.imm (M.ta.map Lim.enc)), .v (.imm (M.me.map Lim.enc)), .ow 11 (gl.map Glo.enc), .v (.imm (M.ex.map Exq.enc)), .v (.int .i64 M.st), .ow 10 (el.map Ele.enc), .ow 10 (da.map Dat.enc), .ow 2 (cu.map Cus.enc)]
theorem ix0_one (x : Ins) : ixA (.imm [encI x]) (Int.ofNat 0) 9 = some (encI x) := ix_map (f := encI) (l := [x]) (i := 0) rfl (encI_len x)

theorem loop17_25 (m : Int) {M : Mdl} (hM : M.Fit) (h : Heap) : ∀ (d i : Nat), i + d = M.cu.length → ∀ out : List Cus, out.length = i → out ++ M.cu.drop i = M.cu →
    blk (cxZ m) 6 (at_ Tryz.prog 6 25) (S17 M i M.ty M.fu M.gl M.el M.da out) h = some (eM M, h)
  | 0, i, hd, out, ho, he => by
    have k0 : ltZ (Int.ofNat i) (Int.ofNat (M.cu.map Cus.enc).length) = false := ltZ_f (by rw [List.length_map, ofN, ofN]; omega)
    obtain rfl : i = M.cu.length := by omega
    rw [List.drop_length, List.append_nil] at he
    rw [he]
    exact s17_25_1 (k0 := k0) ..
  | d + 1, i, hd, out, ho, he => by
    have hi : i < M.cu.length := by omega
    have hx : M.cu[i]? = some M.cu[i] := List.getElem?_eq_getElem hi
    have hm : M.cu[i] ∈ M.cu := List.getElem_mem hi
    generalize M.cu[i] = x at hx hm
    have hb := hM.2.2.2.2.2.2.2.2.2.2.1
    rw [reach_eq] at hb
    have hf := hM.2.2.2.2.2.2.2.2.2.2.2 x hm
    have k0 : ltZ (Int.ofNat i) (Int.ofNat (M.cu.map Cus.enc).length) = true := ltZ_t (by rw [List.length_map, ofN, ofN]; omega)
    have k1 : ixA (.imm (M.cu.map Cus.enc)) (Int.ofNat i) 2 = some (Cus.enc x) := ix_map (f := Cus.enc) hx (Cus.enc_len _)
    have ka : apL (.ow 2 (out.map Cus.enc)) 2 40 [Cus.enc x] = some (.ow 2 ((out ++ [x]).map Cus.enc)) := ap_more (Cus.enc_len x) (by omega) (by decide)
    have hw := wrapS (n := i) (by omega)
    rw [drop_get hx, ← list_snoc] at he
    have ih := loop17_25 m hM h d (i + 1) (by omega) (out ++ [x]) (by simp; omega) he
    exact s17_25_0 (k0 := k0) (k1 := k1) (k2 := k1) (k3 := ap_bytes hf.2) (k4 := ka) (k5 := by rw [hw]; exact ih) ..

theorem loop17_21 (m : Int) {M : Mdl} (hM : M.Fit) (h : Heap) : ∀ (d i : Nat), i + d = M.da.length → ∀ out : List Dat, out.length = i → out ++ M.da.drop i = M.da →
    blk (cxZ m) 6 (at_ Tryz.prog 6 21) (S17 M i M.ty M.fu M.gl M.el out []) h = some (eM M, h)
  | 0, i, hd, out, ho, he => by
    have k0 : ltZ (Int.ofNat i) (Int.ofNat (M.da.map Dat.enc).length) = false := ltZ_f (by rw [List.length_map, ofN, ofN]; omega)
    obtain rfl : i = M.da.length := by omega
    rw [List.drop_length, List.append_nil] at he
    rw [he]
    exact s17_21_1 (k0 := k0) (k1 := loop17_25 m hM h M.cu.length 0 (by omega) [] rfl rfl) ..
  | d + 1, i, hd, out, ho, he => by
    have hi : i < M.da.length := by omega
    have hx : M.da[i]? = some M.da[i] := List.getElem?_eq_getElem hi
    have hm : M.da[i] ∈ M.da := List.getElem_mem hi
    generalize M.da[i] = x at hx hm
    have hb := hM.2.2.2.2.2.2.2.2.2.1.1
    rw [reach_eq] at hb
    have hf := hM.2.2.2.2.2.2.2.2.2.1.2 x hm
    have k0 : ltZ (Int.ofNat i) (Int.ofNat (M.da.map Dat.enc).length) = true := ltZ_t (by rw [List.length_map, ofN, ofN]; omega)
    have k1 : ixA (.imm (M.da.map Dat.enc)) (Int.ofNat i) 10 = some (Dat.enc x) := ix_map (f := Dat.enc) hx (Dat.enc_len _)
    have ka : apL (.ow 10 (out.map Dat.enc)) 10 144 [Dat.enc x] = some (.ow 10 ((out ++ [x]).map Dat.enc)) := ap_more (Dat.enc_len x) (by omega) (by decide)
    have hw := wrapS (n := i) (by omega)
    rw [drop_get hx, ← list_snoc] at he
    have ih := loop17_21 m hM h d (i + 1) (by omega) (out ++ [x]) (by simp; omega) he
    obtain ⟨gi, f⟩ := x
    have c25 := one25 m gi h
    have c29 := t29_one m hf.1 h
    have kz := ix0_one gi
    obtain ⟨o, a, b, v, t, l, bd, el, q⟩ := gi
    exact s17_21_0 (k0 := k0) (k1 := k1) (k2 := c25) (k3 := c29) (k4 := kz) (k5 := k1) (k6 := ap_bytes hf.2) (k7 := ka) (k8 := by rw [hw]; exact ih) ..

theorem loop17_17 (m : Int) {M : Mdl} (hM : M.Fit) (h : Heap) : ∀ (d i : Nat), i + d = M.el.length → ∀ out : List Ele, out.length = i → out ++ M.el.drop i = M.el →
    blk (cxZ m) 6 (at_ Tryz.prog 6 17) (S17 M i M.ty M.fu M.gl out [] []) h = some (eM M, h)
  | 0, i, hd, out, ho, he => by
    have k0 : ltZ (Int.ofNat i) (Int.ofNat (M.el.map Ele.enc).length) = false := ltZ_f (by rw [List.length_map, ofN, ofN]; omega)
    obtain rfl : i = M.el.length := by omega
    rw [List.drop_length, List.append_nil] at he
    rw [he]
    exact s17_17_1 (k0 := k0) (k1 := loop17_21 m hM h M.da.length 0 (by omega) [] rfl rfl) ..
  | d + 1, i, hd, out, ho, he => by
    have hi : i < M.el.length := by omega
    have hx : M.el[i]? = some M.el[i] := List.getElem?_eq_getElem hi
    have hm : M.el[i] ∈ M.el := List.getElem_mem hi
    generalize M.el[i] = x at hx hm
    have hb := hM.2.2.2.2.2.2.2.2.1.1
    rw [reach_eq] at hb
    have hf := hM.2.2.2.2.2.2.2.2.1.2 x hm
    have k0 : ltZ (Int.ofNat i) (Int.ofNat (M.el.map Ele.enc).length) = true := ltZ_t (by rw [List.length_map, ofN, ofN]; omega)
    have k1 : ixA (.imm (M.el.map Ele.enc)) (Int.ofNat i) 10 = some (Ele.enc x) := ix_map (f := Ele.enc) hx (Ele.enc_len _)
    have ka : apL (.ow 10 (out.map Ele.enc)) 10 144 [Ele.enc x] = some (.ow 10 ((out ++ [x]).map Ele.enc)) := ap_more (Ele.enc_len x) (by omega) (by decide)
    have hw := wrapS (n := i) (by omega)
    rw [drop_get hx, ← list_snoc] at he
    have ih := loop17_17 m hM h d (i + 1) (by omega) (out ++ [x]) (by simp; omega) he
    obtain ⟨gi, f⟩ := x
    have c25 := one25 m gi h
    have c29 := t29_one m hf.1 h
    have kz := ix0_one gi
    obtain ⟨o, a, b, v, t, l, bd, el, q⟩ := gi
    exact s17_17_0 (k0 := k0) (k1 := k1) (k2 := c25) (k3 := c29) (k4 := kz) (k5 := k1) (k6 := ap_ints hf.2) (k7 := ka) (k8 := by rw [hw]; exact ih) ..

theorem loop17_11 (m : Int) {M : Mdl} (hM : M.Fit) (h : Heap) : ∀ (d i : Nat), i + d = M.gl.length → ∀ out : List Glo, out.length = i → out ++ M.gl.drop i = M.gl →
    blk (cxZ m) 6 (at_ Tryz.prog 6 11) (S17 M i M.ty M.fu out [] [] []) h = some (eM M, h)
  | 0, i, hd, out, ho, he => by
    have k0 : ltZ (Int.ofNat i) (Int.ofNat (M.gl.map Glo.enc).length) = false := ltZ_f (by rw [List.length_map, ofN, ofN]; omega)
    obtain rfl : i = M.gl.length := by omega
    rw [List.drop_length, List.append_nil] at he
    rw [he]
    exact s17_11_1 (k0 := k0) (k1 := loop17_17 m hM h M.el.length 0 (by omega) [] rfl rfl) ..
  | d + 1, i, hd, out, ho, he => by
    have hi : i < M.gl.length := by omega
    have hx : M.gl[i]? = some M.gl[i] := List.getElem?_eq_getElem hi
    have hm : M.gl[i] ∈ M.gl := List.getElem_mem hi
    generalize M.gl[i] = x at hx hm
    have hb := hM.2.2.2.2.2.1.1
    rw [reach_eq] at hb
    have hf := hM.2.2.2.2.2.1.2 x hm
    have k0 : ltZ (Int.ofNat i) (Int.ofNat (M.gl.map Glo.enc).length) = true := ltZ_t (by rw [List.length_map, ofN, ofN]; omega)
    have k1 : ixA (.imm (M.gl.map Glo.enc)) (Int.ofNat i) 11 = some (Glo.enc x) := ix_map (f := Glo.enc) hx (Glo.enc_len _)
    have ka : apL (.ow 11 (out.map Glo.enc)) 11 136 [Glo.enc x] = some (.ow 11 ((out ++ [x]).map Glo.enc)) := ap_more (Glo.enc_len x) (by omega) (by decide)
    have hw := wrapS (n := i) (by omega)
    rw [drop_get hx, ← list_snoc] at he
    have ih := loop17_11 m hM h d (i + 1) (by omega) (out ++ [x]) (by simp; omega) he
    obtain ⟨gt, gm, gi⟩ := x
    have c25 := one25 m gi h
    have c29 := t29_one m hf.2 h
    have kz := ix0_one gi
    obtain ⟨o, a, b, v, t, l, bd, el, q⟩ := gi
    exact s17_11_0 (k0 := k0) (k1 := k1) (k2 := c25) (k3 := c29) (k4 := kz) (k5 := ka) (k6 := by rw [hw]; exact ih) ..

theorem loop17_7 (m : Int) {M : Mdl} (hM : M.Fit) (h : Heap) : ∀ (d i : Nat), i + d = M.fu.length → ∀ out : List MFn, out.length = i → out ++ M.fu.drop i = M.fu →
    blk (cxZ m) 6 (at_ Tryz.prog 6 7) (S17 M i M.ty out [] [] [] []) h = some (eM M, h)
  | 0, i, hd, out, ho, he => by
    have k0 : ltZ (Int.ofNat i) (Int.ofNat (M.fu.map MFn.enc).length) = false := ltZ_f (by rw [List.length_map, ofN, ofN]; omega)
    obtain rfl : i = M.fu.length := by omega
    rw [List.drop_length, List.append_nil] at he
    rw [he]
    exact s17_7_1 (k0 := k0) (k1 := loop17_11 m hM h M.gl.length 0 (by omega) [] rfl rfl) ..
  | d + 1, i, hd, out, ho, he => by
    have hi : i < M.fu.length := by omega
    have hx : M.fu[i]? = some M.fu[i] := List.getElem?_eq_getElem hi
    have hm : M.fu[i] ∈ M.fu := List.getElem_mem hi
    generalize M.fu[i] = x at hx hm
    have hb := hM.2.2.1.1
    rw [reach_eq] at hb
    have hf := hM.2.2.1.2 x hm
    have k0 : ltZ (Int.ofNat i) (Int.ofNat (M.fu.map MFn.enc).length) = true := ltZ_t (by rw [List.length_map, ofN, ofN]; omega)
    have k1 : ixA (.imm (M.fu.map MFn.enc)) (Int.ofNat i) 3 = some (MFn.enc x) := ix_map (f := MFn.enc) hx (MFn.enc_len _)
    have ka : apL (.ow 3 (out.map MFn.enc)) 3 56 [MFn.enc x] = some (.ow 3 ((out ++ [x]).map MFn.enc)) := ap_more (MFn.enc_len x) (by omega) (by decide)
    have hw := wrapS (n := i) (by omega)
    rw [drop_get hx, ← list_snoc] at he
    have ih := loop17_7 m hM h d (i + 1) (by omega) (out ++ [x]) (by simp; omega) he
    exact s17_7_0 (k0 := k0) (k1 := k1) (k2 := k1) (k3 := ap_ints hf.2.1) (k4 := k1) (k5 := t29 m x.b hf.2.2 h) (k6 := ka) (k7 := by rw [hw]; exact ih) ..

theorem loop17_3 (m : Int) {M : Mdl} (hM : M.Fit) (h : Heap) : ∀ (d i : Nat), i + d = M.ty.length → ∀ out : List FTy, out.length = i → out ++ M.ty.drop i = M.ty →
    blk (cxZ m) 6 (at_ Tryz.prog 6 3) (S17 M i out [] [] [] [] []) h = some (eM M, h)
  | 0, i, hd, out, ho, he => by
    have k0 : ltZ (Int.ofNat i) (Int.ofNat (M.ty.map FTy.enc).length) = false := ltZ_f (by rw [List.length_map, ofN, ofN]; omega)
    obtain rfl : i = M.ty.length := by omega
    rw [List.drop_length, List.append_nil] at he
    rw [he]
    exact s17_3_1 (k0 := k0) (k1 := loop17_7 m hM h M.fu.length 0 (by omega) [] rfl rfl) ..
  | d + 1, i, hd, out, ho, he => by
    have hi : i < M.ty.length := by omega
    have hx : M.ty[i]? = some M.ty[i] := List.getElem?_eq_getElem hi
    have hm : M.ty[i] ∈ M.ty := List.getElem_mem hi
    generalize M.ty[i] = x at hx hm
    have hb := hM.1.1
    rw [reach_eq] at hb
    have hf := hM.1.2 x hm
    have k0 : ltZ (Int.ofNat i) (Int.ofNat (M.ty.map FTy.enc).length) = true := ltZ_t (by rw [List.length_map, ofN, ofN]; omega)
    have k1 : ixA (.imm (M.ty.map FTy.enc)) (Int.ofNat i) 2 = some (FTy.enc x) := ix_map (f := FTy.enc) hx (FTy.enc_len _)
    have ka : apL (.ow 2 (out.map FTy.enc)) 2 48 [FTy.enc x] = some (.ow 2 ((out ++ [x]).map FTy.enc)) := ap_more (FTy.enc_len x) (by omega) (by decide)
    have hw := wrapS (n := i) (by omega)
    rw [drop_get hx, ← list_snoc] at he
    have ih := loop17_3 m hM h d (i + 1) (by omega) (out ++ [x]) (by simp; omega) he
    exact s17_3_0 (k0 := k0) (k1 := k1) (k2 := ap_ints hf.1) (k3 := k1) (k4 := ap_ints hf.2) (k5 := ka) (k6 := by rw [hw]; exact ih) ..

theorem t17 (m : Int) {M : Mdl} (hM : M.Fit) (h : Heap) : CALL m 6 [eM M] h = some (eM M, h) :=
  callZ rfl (by kernel_rfl) (by kernel_rfl) (s17_0 (k0 := ap_all Imp.enc_len hM.2.1.1 (by decide)) (k1 := ap_all Lim.enc_len hM.2.2.2.1.1 (by decide)) (k2 := ap_all Lim.enc_len hM.2.2.2.2.1.1 (by decide)) (k3 := ap_all Exq.enc_len hM.2.2.2.2.2.2.1.1 (by decide))
    (k4 := loop17_3 m hM h M.ty.length 0 (by omega) [] rfl rfl) ..)
end Go.Proofs.YtmgjnbhofkchmaaGreatDoor
