/-
  Copy: instructions in new memory are the same.
-/
import Derived.Test.YtmgjnbhofkchmaaDoorAmS05f
import Derived.KernelRfl
import Derived.Test.YtmgjnbhofkchmaaDoorAmMod
import Derived.Test.YtmgjnbhofkchmaaDoorAmS05x
import Derived.Test.YtmgjnbhofkchmaaDoorAmS05R
/-
  Ways through texts, one by one (printed by a program of this repo).
-/
namespace Go.Proofs.YtmgjnbhofkchmaaDoor
open Go Go.Proofs.Am

theorem s29_0 (m : Int) (xs : List (List AV)) (h : Heap) (r : LV × Heap) (k0 : (blk (cxZ m)) 29 (at_ Tryd.prog 29 3) [LV.v (AV.imm xs), LV.ow 9 [], LV.v (AV.int IntKind.i64 (Int.ofNat 0))] h = some r) :
    blk (cxZ m) 29 (body_ Tryd.prog 29) [.v (.imm xs)] h = some r :=
  blk_via (scr := ⟨fun _ => none, fun _ _ => none, fun _ _ => none, false⟩) (p := true = true ∧ (blk (cxZ m)) 29 (at_ Tryd.prog 29 3) [LV.v (AV.imm xs), LV.ow 9 [], LV.v (AV.int IntKind.i64 (Int.ofNat 0))] h = some r) (by kernel_rfl) ⟨rfl, k0⟩

theorem s29_3_0 (m : Int) (xs out : List (List AV)) (i : Nat) (h : Heap) (x5_2_0 : Int) (x5_2_1 : Int) (x5_2_2 : Int) (x5_2_3 : Int) (x5_2_4 : Int) (x5_2_5 : List (List AV)) (x5_2_6 : List (List AV)) (x5_2_7 : List (List AV)) (x5_2_8 : Bool) (x6_3 : List (List AV)) (x7_2 : List (List AV)) (x7_2h : Heap) (x8_2 : List (List AV)) (x8_2h : Heap) (x9_3 : List (List AV)) (r : LV × Heap) (k0 : ltZ (Int.ofNat i) (Int.ofNat (List.length xs)) = true) (k1 : ixA (AV.imm xs) (Int.ofNat i) 9 = some [AV.int IntKind.i64 x5_2_0, AV.int IntKind.i64 x5_2_1, AV.int IntKind.i64 x5_2_2, AV.int IntKind.u64 x5_2_3, AV.int IntKind.i64 x5_2_4, AV.imm x5_2_5, AV.imm x5_2_6, AV.imm x5_2_7, AV.bool x5_2_8]) (k2 : apL (LV.ow 1 []) 1 8 x5_2_5 = some (LV.ow 1 x6_3)) (k3 : callF (cxZ m) (blk (cxZ m)) 29 [LV.v (AV.imm x5_2_6)] h = some (LV.v (AV.imm x7_2), x7_2h)) (k4 : callF (cxZ m) (blk (cxZ m)) 29 [LV.v (AV.imm x5_2_7)] x7_2h = some (LV.v (AV.imm x8_2), x8_2h)) (k5 : apL (LV.ow 9 out) 9 120 [[AV.int IntKind.i64 x5_2_0, AV.int IntKind.i64 x5_2_1, AV.int IntKind.i64 x5_2_2, AV.int IntKind.u64 x5_2_3, AV.int IntKind.i64 x5_2_4, AV.imm x6_3, AV.imm x7_2, AV.imm x8_2, AV.bool x5_2_8]] = some (LV.ow 9 x9_3)) (k6 : (blk (cxZ m)) 29 (at_ Tryd.prog 29 3) [LV.v (AV.imm xs), LV.ow 9 x9_3, LV.v (AV.int IntKind.i64 (IntKind.wrap IntKind.i64 (Int.ofNat (Nat.succ i))))] x8_2h = some r) :
    blk (cxZ m) 29 (at_ Tryd.prog 29 3) [.v (.imm xs), .ow 9 out, .v (.int .i64 (Int.ofNat i))] h = some r :=
  blk_via (scr := ⟨fun x => match x with | 9 => some true | _ => none, fun x y => match x, y with | 5, 2 => some (LV.v (AV.snap [(AV.int Go.IntKind.i64 x5_2_0), (AV.int Go.IntKind.i64 x5_2_1), (AV.int Go.IntKind.i64 x5_2_2), (AV.int Go.IntKind.u64 x5_2_3), (AV.int Go.IntKind.i64 x5_2_4), (AV.imm x5_2_5), (AV.imm x5_2_6), (AV.imm x5_2_7), (AV.bool x5_2_8)])) | 6, 3 => some (LV.ow 1 x6_3) | 9, 3 => some (LV.ow 9 x9_3) | _, _ => none, fun x y => match x, y with | 7, 2 => some (LV.v (AV.imm x7_2), x7_2h) | 8, 2 => some (LV.v (AV.imm x8_2), x8_2h) | _, _ => none, false⟩) (p := some (ltZ (Int.ofNat i) (Int.ofNat (List.length xs))) = some true ∧ (false = false ∧ (none : Option Nat) = none ∧ ixA (AV.imm xs) (Int.ofNat i) 9 = some [AV.int IntKind.i64 x5_2_0, AV.int IntKind.i64 x5_2_1, AV.int IntKind.i64 x5_2_2, AV.int IntKind.u64 x5_2_3, AV.int IntKind.i64 x5_2_4, AV.imm x5_2_5, AV.imm x5_2_6, AV.imm x5_2_7, AV.bool x5_2_8]) ∧ false = false ∧ true = true ∧ apL (LV.ow 1 []) 1 8 x5_2_5 = some (LV.ow 1 x6_3) ∧ callF (cxZ m) (blk (cxZ m)) 29 [LV.v (AV.imm x5_2_6)] h = some (LV.v (AV.imm x7_2), x7_2h) ∧ callF (cxZ m) (blk (cxZ m)) 29 [LV.v (AV.imm x5_2_7)] x7_2h = some (LV.v (AV.imm x8_2), x8_2h) ∧ false = false ∧ true = true ∧ apL (LV.ow 9 out) 9 120 [[AV.int IntKind.i64 x5_2_0, AV.int IntKind.i64 x5_2_1, AV.int IntKind.i64 x5_2_2, AV.int IntKind.u64 x5_2_3, AV.int IntKind.i64 x5_2_4, AV.imm x6_3, AV.imm x7_2, AV.imm x8_2, AV.bool x5_2_8]] = some (LV.ow 9 x9_3) ∧ true = true ∧ (blk (cxZ m)) 29 (at_ Tryd.prog 29 3) [LV.v (AV.imm xs), LV.ow 9 x9_3, LV.v (AV.int IntKind.i64 (IntKind.wrap IntKind.i64 (Int.ofNat (Nat.succ i))))] x8_2h = some r) (by kernel_rfl) ⟨congrArg some k0, ⟨⟨rfl, ⟨rfl, k1⟩⟩, ⟨rfl, ⟨rfl, ⟨k2, ⟨k3, ⟨k4, ⟨rfl, ⟨rfl, ⟨k5, ⟨rfl, k6⟩⟩⟩⟩⟩⟩⟩⟩⟩⟩⟩

theorem s29_3_1 (m : Int) (xs out : List (List AV)) (i : Nat) (h : Heap) (k0 : ltZ (Int.ofNat i) (Int.ofNat (List.length xs)) = false) :
    blk (cxZ m) 29 (at_ Tryd.prog 29 3) [.v (.imm xs), .ow 9 out, .v (.int .i64 (Int.ofNat i))] h = some ((LV.v (AV.imm out), h)) :=
  blk_via (scr := ⟨fun x => match x with | 9 => some false | _ => none, fun _ _ => none, fun _ _ => none, false⟩) (p := some (ltZ (Int.ofNat i) (Int.ofNat (List.length xs))) = some false ∧ some (LV.v (AV.imm out), h) = some ((LV.v (AV.imm out), h))) (by kernel_rfl) ⟨congrArg some k0, rfl⟩

theorem s17_0 (m : Int) (ty im fu ta me gl ex el da cu : List (List AV)) (st : Int) (h : Heap) (x1_5 : List (List AV)) (x1_9 : List (List AV)) (x1_13 : List (List AV)) (x1_17 : List (List AV)) (r : LV × Heap) (k0 : apL (LV.ow 8 []) 8 80 im = some (LV.ow 8 x1_5)) (k1 : apL (LV.ow 3 []) 3 24 ta = some (LV.ow 3 x1_9)) (k2 : apL (LV.ow 3 []) 3 24 me = some (LV.ow 3 x1_13)) (k3 : apL (LV.ow 3 []) 3 32 ex = some (LV.ow 3 x1_17)) (k4 : (blk (cxZ m)) 17 (at_ Tryd.prog 17 3) [LV.lp 0 0, LV.lp 1 0, LV.lp 2 0, LV.v (AV.int IntKind.i64 (Int.ofNat 0)), LV.v (AV.imm ty), LV.v (AV.imm im), LV.v (AV.imm fu), LV.v (AV.imm ta), LV.v (AV.imm me), LV.v (AV.imm gl), LV.v (AV.imm ex), LV.v (AV.int IntKind.i64 st), LV.v (AV.imm el), LV.v (AV.imm da), LV.v (AV.imm cu), LV.ow 2 [], LV.ow 8 [], LV.ow 3 [], LV.ow 3 [], LV.ow 3 [], LV.ow 11 [], LV.ow 3 [], LV.v (AV.int IntKind.i64 (Int.ofNat 0)), LV.ow 10 [], LV.ow 10 [], LV.ow 2 [], LV.ow 2 [], LV.v (AV.imm x1_5), LV.ow 3 [], LV.v (AV.imm x1_9), LV.v (AV.imm x1_13), LV.ow 11 [], LV.v (AV.imm x1_17), LV.v (AV.int IntKind.i64 st), LV.ow 10 [], LV.ow 10 [], LV.ow 2 []] h = some r) :
    blk (cxZ m) 17 (body_ Tryd.prog 17) [.v (.agg [.imm ty, .imm im, .imm fu, .imm ta, .imm me, .imm gl, .imm ex, .int .i64 st, .imm el, .imm da, .imm cu])] h = some r :=
  blk_via (scr := ⟨fun _ => none, fun x y => match x, y with | 1, 5 => some (LV.ow 8 x1_5) | 1, 9 => some (LV.ow 3 x1_9) | 1, 13 => some (LV.ow 3 x1_13) | 1, 17 => some (LV.ow 3 x1_17) | _, _ => none, fun _ _ => none, false⟩) (p := false = false ∧ true = true ∧ apL (LV.ow 8 []) 8 80 im = some (LV.ow 8 x1_5) ∧ false = false ∧ true = true ∧ apL (LV.ow 3 []) 3 24 ta = some (LV.ow 3 x1_9) ∧ false = false ∧ true = true ∧ apL (LV.ow 3 []) 3 24 me = some (LV.ow 3 x1_13) ∧ false = false ∧ true = true ∧ apL (LV.ow 3 []) 3 32 ex = some (LV.ow 3 x1_17) ∧ true = true ∧ (blk (cxZ m)) 17 (at_ Tryd.prog 17 3) [LV.lp 0 0, LV.lp 1 0, LV.lp 2 0, LV.v (AV.int IntKind.i64 (Int.ofNat 0)), LV.v (AV.imm ty), LV.v (AV.imm im), LV.v (AV.imm fu), LV.v (AV.imm ta), LV.v (AV.imm me), LV.v (AV.imm gl), LV.v (AV.imm ex), LV.v (AV.int IntKind.i64 st), LV.v (AV.imm el), LV.v (AV.imm da), LV.v (AV.imm cu), LV.ow 2 [], LV.ow 8 [], LV.ow 3 [], LV.ow 3 [], LV.ow 3 [], LV.ow 11 [], LV.ow 3 [], LV.v (AV.int IntKind.i64 (Int.ofNat 0)), LV.ow 10 [], LV.ow 10 [], LV.ow 2 [], LV.ow 2 [], LV.v (AV.imm x1_5), LV.ow 3 [], LV.v (AV.imm x1_9), LV.v (AV.imm x1_13), LV.ow 11 [], LV.v (AV.imm x1_17), LV.v (AV.int IntKind.i64 st), LV.ow 10 [], LV.ow 10 [], LV.ow 2 []] h = some r) (by kernel_rfl) ⟨rfl, ⟨rfl, ⟨k0, ⟨rfl, ⟨rfl, ⟨k1, ⟨rfl, ⟨rfl, ⟨k2, ⟨rfl, ⟨rfl, ⟨k3, ⟨rfl, k4⟩⟩⟩⟩⟩⟩⟩⟩⟩⟩⟩⟩⟩

end Go.Proofs.YtmgjnbhofkchmaaDoor


namespace Go.Proofs.YtmgjnbhofkchmaaDoor
open Go Go.RowKit Go.Proofs.Am
theorem fitE_map {A : Type} {f : A → List AV} {n : Nat} (hf : ∀ x, (f x).length = n) : ∀ l : List A, fitE n (l.map f) = true
  | [] => rfl
  | x :: l => by
    show Nat.beq (f x).length n = true
    rw [hf]
    exact Nat.beq_refl n
/-- All of a list, behind nothing. -/
theorem ap_all {A : Type} {f : A → List AV} {n b : Nat} (hf : ∀ x, (f x).length = n) {l : List A} (h : l.length * b ≤ reachBytes) (hb : 0 < b) : apL (.ow n []) n b (l.map f) = some (.ow n (l.map f)) := by
  rw [reach_eq] at h
  rw [ap_owned (fitE_map hf l) (by rw [List.length_nil, Nat.zero_add, List.length_map]; omega) hb, List.nil_append]
theorem ap_ints {l : List Int} (h : FitL 8 InZ l) : apL (.ow 1 []) 1 8 (encN l) = some (.ow 1 (encN l)) := ap_all (f := fun z => [AV.int .i64 z]) (fun _ => rfl) h.1 (by decide)
theorem ap_bytes {l : List Int} (h : FitL 1 InB l) : apL (.ow 1 []) 1 1 (encB l) = some (.ow 1 (encB l)) := ap_all (f := fun z => [AV.int .u8 z]) (fun _ => rfl) h.1 (by decide)
/-- One more. -/
theorem ap_more {A : Type} {f : A → List AV} {n b : Nat} {out : List A} {x : A} (hf : (f x).length = n) (h : (out.length + 1) * b ≤ 140737488355328) (hb : 0 < b) : apL (.ow n (out.map f)) n b [f x] = some (.ow n ((out ++ [x]).map f)) := by
  rw [ap_owned (fit_one hf) (by rw [List.length_map]; exact h) hb, List.map_append]
  rfl
theorem loop29 (m : Int) (xs : List Ins) (hl : xs.length * 120 ≤ reachBytes)
    (hC : ∀ o a b v t l bd el q, Ins.mk o a b v t l bd el q ∈ xs → (∀ h, CALL m 29 [.v (.imm (encIs bd))] h = some (.v (.imm (encIs bd)), h)) ∧ (∀ h, CALL m 29 [.v (.imm (encIs el))] h = some (.v (.imm (encIs el)), h)) ∧ FitL 8 InZ l) (h : Heap) :
    ∀ (d i : Nat), i + d = xs.length → ∀ out : List Ins, out.length = i →
    blk (cxZ m) 29 (at_ Tryd.prog 29 3) [.v (.imm (encIs xs)), .ow 9 (encIs out), .v (.int .i64 (Int.ofNat i))] h = some (.v (.imm (encIs (out ++ xs.drop i))), h)
  | 0, i, hd, out, ho => by
    obtain rfl : i = xs.length := by omega
    rw [List.drop_length, List.append_nil]
    exact s29_3_1 (k0 := ltZ_f (by rw [encIs_len]; exact Int.le_refl _)) ..
  | d + 1, i, hd, out, ho => by
    have hi : i < xs.length := by omega
    have hx : xs[i]? = some xs[i] := List.getElem?_eq_getElem hi
    have hm : xs[i] ∈ xs := List.getElem_mem hi
    generalize xs[i] = x at hx hm
    rw [reach_eq] at hl
    have k0 : ltZ (Int.ofNat i) (Int.ofNat (encIs xs).length) = true := ltZ_t (by rw [encIs_len, ofN, ofN]; omega)
    have k1 : ixA (.imm (encIs xs)) (Int.ofNat i) 9 = some (encI x) := by rw [encIs_map]; exact ix_map (f := encI) hx (encI_len _)
    have k5 : apL (.ow 9 (encIs out)) 9 120 [encI x] = some (.ow 9 (encIs (out ++ [x]))) := by
      rw [encIs_map, encIs_map]
      exact ap_more (encI_len x) (by omega) (by decide)
    rw [drop_get hx]
    have ih := loop29 m xs hl hC h d (i + 1) (by omega) (out ++ [x]) (by simp; omega)
    rw [list_snoc] at ih
    obtain ⟨o, a, b, v, t, l, bd, el, q⟩ := x
    obtain ⟨h1, h2, h3⟩ := hC _ _ _ _ _ _ _ _ _ hm
    refine s29_3_0 (k0 := k0) (k1 := k1) (k2 := ap_ints h3) (k3 := h1 h) (k4 := h2 h) (k5 := k5) (k6 := ?_) ..
    rw [wrapS (by omega)]
    exact ih
theorem t29_of (m : Int) (l : List Ins) (hl : l.length * 120 ≤ reachBytes)
    (hC : ∀ o a b v t ll bd el q, Ins.mk o a b v t ll bd el q ∈ l → (∀ h, CALL m 29 [.v (.imm (encIs bd))] h = some (.v (.imm (encIs bd)), h)) ∧ (∀ h, CALL m 29 [.v (.imm (encIs el))] h = some (.v (.imm (encIs el)), h)) ∧ FitL 8 InZ ll) (h : Heap) :
    CALL m 29 [.v (.imm (encIs l))] h = some (.v (.imm (encIs l)), h) := by
  have := loop29 m l hl hC h l.length 0 (by omega) [] rfl
  rw [List.drop_zero, List.nil_append] at this
  exact callZ rfl (by kernel_rfl) (by kernel_rfl) (s29_0 (k0 := this) ..)
theorem t29_ins (m : Int) {x : Ins} (hx : FitZ x) : ∀ o a b v t l bd el q, x = Ins.mk o a b v t l bd el q → (∀ h, CALL m 29 [.v (.imm (encIs bd))] h = some (.v (.imm (encIs bd)), h)) ∧ (∀ h, CALL m 29 [.v (.imm (encIs el))] h = some (.v (.imm (encIs el)), h)) ∧ FitL 8 InZ l := by
  induction hx with
  | mk o a b v t l bd el q ho ha hb hv ht hl hbd hel h1 h2 i1 i2 =>
    intro o' a' b' v' t' l' bd' el' q' e
    cases e
    exact ⟨t29_of m bd hbd fun o a b v t ll bd el q hm => i1 _ hm o a b v t ll bd el q rfl, t29_of m el hel fun o a b v t ll bd el q hm => i2 _ hm o a b v t ll bd el q rfl, hl⟩
theorem t29 (m : Int) (l : List Ins) (hl : FitL 120 FitZ l) (h : Heap) : CALL m 29 [.v (.imm (encIs l))] h = some (.v (.imm (encIs l)), h) :=
  t29_of m l hl.1 (fun o a b v t ll bd el q hm => t29_ins m (hl.2 _ hm) o a b v t ll bd el q rfl) h
theorem t29_one (m : Int) {x : Ins} (hx : FitZ x) (h : Heap) : CALL m 29 [.v (.imm [encI x])] h = some (.v (.imm [encI x]), h) :=
  t29 m [x] ⟨Nat.le_of_ble_eq_true (show Nat.ble (1 * 120) reachBytes = true from rfl), fun y hy => by rw [List.mem_singleton] at hy; rw [hy]; exact hx⟩ h
end Go.Proofs.YtmgjnbhofkchmaaDoor

/-
  CopyModule: a module in new memory is the same.
-/
namespace Go.Proofs.YtmgjnbhofkchmaaDoor
open Go Go.RowKit Go.Proofs.Am
abbrev S17 (M : Mdl) (i : Nat) (ty : List FTy) (fu : List MFn) (gl : List Glo) (el : List Ele) (da : List Dat) (cu : List Cus) : List LV :=
  [.lp 0 0, .lp 1 0, .lp 2 0, .v (.int .i64 (Int.ofNat i)), .v (.imm (M.ty.map FTy.enc)), .v (.imm (M.im.map Imp.enc)), .v (.imm (M.fu.map MFn.enc)), .v (.imm (M.ta.map Lim.enc)), .v (.imm (M.me.map Lim.enc)), .v (.imm (M.gl.map Glo.enc)), .v (.imm (M.ex.map Exq.enc)), .v (.int .i64 M.st), .v (.imm (M.el.map Ele.enc)), .v (.imm (M.da.map Dat.enc)), .v (.imm (M.cu.map Cus.enc)), .ow 2 [], .ow 8 [], .ow 3 [], .ow 3 [], .ow 3 [], .ow 11 [], .ow 3 [], .v (.int .i64 (Int.ofNat 0)), .ow 10 [], .ow 10 [], .ow 2 [], .ow 2 (ty.map FTy.enc), .v (.imm (M.im.map Imp.enc)), .ow 3 (fu.map MFn.enc), .v (.imm (M.ta.map Lim.enc)), .v (.imm (M.me.map Lim.enc)), .ow 11 (gl.map Glo.enc), .v (.imm (M.ex.map Exq.enc)), .v (.int .i64 M.st), .ow 10 (el.map Ele.enc), .ow 10 (da.map Dat.enc), .ow 2 (cu.map Cus.enc)]
theorem ix0_one (x : Ins) : ixA (.imm [encI x]) (Int.ofNat 0) 9 = some (encI x) := ix_map (f := encI) (l := [x]) (i := 0) rfl (encI_len x)

theorem loop17_25 (m : Int) {M : Mdl} (hM : M.Fit) (h : Heap) : ∀ (d i : Nat), i + d = M.cu.length → ∀ out : List Cus, out.length = i → out ++ M.cu.drop i = M.cu →
    blk (cxZ m) 17 (at_ Tryd.prog 17 25) (S17 M i M.ty M.fu M.gl M.el M.da out) h = some (eM M, h)
  | 0, i, hd, out, ho, he => by
    have k0 : ltZ (Int.ofNat i) (Int.ofNat (M.cu.map Cus.enc).length) = false := ltZ_f (by rw [List.length_map, ofN, ofN]; omega)
    obtain rfl : i = M.cu.length := by omega
    rw [List.drop_length, List.append_nil] at he
    rw [he]
    exact s17_25_1 (k0 := k0) ..
  | d + 1, i, hd, out, ho, he => by
    have hi : i < M.cu.length := by omega
    have hx : M.cu[i]? = some M.cu[i] := List.getElem?_eq_getElem hi
    have hm : M.cu[i] ∈ M.cu := List.getElem_mem hi
    generalize M.cu[i] = x at hx hm
    have hb := hM.2.2.2.2.2.2.2.2.2.2.1
    rw [reach_eq] at hb
    have hf := hM.2.2.2.2.2.2.2.2.2.2.2 x hm
    have k0 : ltZ (Int.ofNat i) (Int.ofNat (M.cu.map Cus.enc).length) = true := ltZ_t (by rw [List.length_map, ofN, ofN]; omega)
    have k1 : ixA (.imm (M.cu.map Cus.enc)) (Int.ofNat i) 2 = some (Cus.enc x) := ix_map (f := Cus.enc) hx (Cus.enc_len _)
    have ka : apL (.ow 2 (out.map Cus.enc)) 2 40 [Cus.enc x] = some (.ow 2 ((out ++ [x]).map Cus.enc)) := ap_more (Cus.enc_len x) (by omega) (by decide)
    have hw := wrapS (n := i) (by omega)
    rw [drop_get hx, ← list_snoc] at he
    have ih := loop17_25 m hM h d (i + 1) (by omega) (out ++ [x]) (by simp; omega) he
    exact s17_25_0 (k0 := k0) (k1 := k1) (k2 := k1) (k3 := ap_bytes hf.2) (k4 := ka) (k5 := by rw [hw]; exact ih) ..

theorem loop17_21 (m : Int) {M : Mdl} (hM : M.Fit) (h : Heap) : ∀ (d i : Nat), i + d = M.da.length → ∀ out : List Dat, out.length = i → out ++ M.da.drop i = M.da →
    blk (cxZ m) 17 (at_ Tryd.prog 17 21) (S17 M i M.ty M.fu M.gl M.el out []) h = some (eM M, h)
  | 0, i, hd, out, ho, he => by
    have k0 : ltZ (Int.ofNat i) (Int.ofNat (M.da.map Dat.enc).length) = false := ltZ_f (by rw [List.length_map, ofN, ofN]; omega)
    obtain rfl : i = M.da.length := by omega
    rw [List.drop_length, List.append_nil] at he
    rw [he]
    exact s17_21_1 (k0 := k0) (k1 := loop17_25 m hM h M.cu.length 0 (by omega) [] rfl rfl) ..
  | d + 1, i, hd, out, ho, he => by
    have hi : i < M.da.length := by omega
    have hx : M.da[i]? = some M.da[i] := List.getElem?_eq_getElem hi
    have hm : M.da[i] ∈ M.da := List.getElem_mem hi
    generalize M.da[i] = x at hx hm
    have hb := hM.2.2.2.2.2.2.2.2.2.1.1
    rw [reach_eq] at hb
    have hf := hM.2.2.2.2.2.2.2.2.2.1.2 x hm
    have k0 : ltZ (Int.ofNat i) (Int.ofNat (M.da.map Dat.enc).length) = true := ltZ_t (by rw [List.length_map, ofN, ofN]; omega)
    have k1 : ixA (.imm (M.da.map Dat.enc)) (Int.ofNat i) 10 = some (Dat.enc x) := ix_map (f := Dat.enc) hx (Dat.enc_len _)
    have ka : apL (.ow 10 (out.map Dat.enc)) 10 144 [Dat.enc x] = some (.ow 10 ((out ++ [x]).map Dat.enc)) := ap_more (Dat.enc_len x) (by omega) (by decide)
    have hw := wrapS (n := i) (by omega)
    rw [drop_get hx, ← list_snoc] at he
    have ih := loop17_21 m hM h d (i + 1) (by omega) (out ++ [x]) (by simp; omega) he
    obtain ⟨gi, f⟩ := x
    have c25 := one25 m gi h
    have c29 := t29_one m hf.1 h
    have kz := ix0_one gi
    obtain ⟨o, a, b, v, t, l, bd, el, q⟩ := gi
    exact s17_21_0 (k0 := k0) (k1 := k1) (k2 := c25) (k3 := c29) (k4 := kz) (k5 := k1) (k6 := ap_bytes hf.2) (k7 := ka) (k8 := by rw [hw]; exact ih) ..

theorem loop17_17 (m : Int) {M : Mdl} (hM : M.Fit) (h : Heap) : ∀ (d i : Nat), i + d = M.el.length → ∀ out : List Ele, out.length = i → out ++ M.el.drop i = M.el →
    blk (cxZ m) 17 (at_ Tryd.prog 17 17) (S17 M i M.ty M.fu M.gl out [] []) h = some (eM M, h)
  | 0, i, hd, out, ho, he => by
    have k0 : ltZ (Int.ofNat i) (Int.ofNat (M.el.map Ele.enc).length) = false := ltZ_f (by rw [List.length_map, ofN, ofN]; omega)
    obtain rfl : i = M.el.length := by omega
    rw [List.drop_length, List.append_nil] at he
    rw [he]
    exact s17_17_1 (k0 := k0) (k1 := loop17_21 m hM h M.da.length 0 (by omega) [] rfl rfl) ..
  | d + 1, i, hd, out, ho, he => by
    have hi : i < M.el.length := by omega
    have hx : M.el[i]? = some M.el[i] := List.getElem?_eq_getElem hi
    have hm : M.el[i] ∈ M.el := List.getElem_mem hi
    generalize M.el[i] = x at hx hm
    have hb := hM.2.2.2.2.2.2.2.2.1.1
    rw [reach_eq] at hb
    have hf := hM.2.2.2.2.2.2.2.2.1.2 x hm
    have k0 : ltZ (Int.ofNat i) (Int.ofNat (M.el.map Ele.enc).length) = true := ltZ_t (by rw [List.length_map, ofN, ofN]; omega)
    have k1 : ixA (.imm (M.el.map Ele.enc)) (Int.ofNat i) 10 = some (Ele.enc x) := ix_map (f := Ele.enc) hx (Ele.enc_len _)
    have ka : apL (.ow 10 (out.map Ele.enc)) 10 144 [Ele.enc x] = some (.ow 10 ((out ++ [x]).map Ele.enc)) := ap_more (Ele.enc_len x) (by omega) (by decide)
    have hw := wrapS (n := i) (by omega)
    rw [drop_get hx, ← list_snoc] at he
    have ih := loop17_17 m hM h d (i + 1) (by omega) (out ++ [x]) (by simp; omega) he
    obtain ⟨gi, f⟩ := x
    have c25 := one25 m gi h
    have c29 := t29_one m hf.1 h
    have kz := ix0_one gi
    obtain ⟨o, a, b, v, t, l, bd, el, q⟩ := gi
    exact s17_17_0 (k0 := k0) (k1 := k1) (k2 := c25) (k3 := c29) (k4 := kz) (k5 := k1) (k6 := ap_ints hf.2) (k7 := ka) (k8 := by rw [hw]; exact ih) ..

theorem loop17_11 (m : Int) {M : Mdl} (hM : M.Fit) (h : Heap) : ∀ (d i : Nat), i + d = M.gl.length → ∀ out : List Glo, out.length = i → out ++ M.gl.drop i = M.gl →
    blk (cxZ m) 17 (at_ Tryd.prog 17 11) (S17 M i M.ty M.fu out [] [] []) h = some (eM M, h)
  | 0, i, hd, out, ho, he => by
    have k0 : ltZ (Int.ofNat i) (Int.ofNat (M.gl.map Glo.enc).length) = false := ltZ_f (by rw [List.length_map, ofN, ofN]; omega)
    obtain rfl : i = M.gl.length := by omega
    rw [List.drop_length, List.append_nil] at he
    rw [he]
    exact s17_11_1 (k0 := k0) (k1 := loop17_17 m hM h M.el.length 0 (by omega) [] rfl rfl) ..
  | d + 1, i, hd, out, ho, he => by
    have hi : i < M.gl.length := by omega
    have hx : M.gl[i]? = some M.gl[i] := List.getElem?_eq_getElem hi
    have hm : M.gl[i] ∈ M.gl := List.getElem_mem hi
    generalize M.gl[i] = x at hx hm
    have hb := hM.2.2.2.2.2.1.1
    rw [reach_eq] at hb
    have hf := hM.2.2.2.2.2.1.2 x hm
    have k0 : ltZ (Int.ofNat i) (Int.ofNat (M.gl.map Glo.enc).length) = true := ltZ_t (by rw [List.length_map, ofN, ofN]; omega)
    have k1 : ixA (.imm (M.gl.map Glo.enc)) (Int.ofNat i) 11 = some (Glo.enc x) := ix_map (f := Glo.enc) hx (Glo.enc_len _)
    have ka : apL (.ow 11 (out.map Glo.enc)) 11 136 [Glo.enc x] = some (.ow 11 ((out ++ [x]).map Glo.enc)) := ap_more (Glo.enc_len x) (by omega) (by decide)
    have hw := wrapS (n := i) (by omega)
    rw [drop_get hx, ← list_snoc] at he
    have ih := loop17_11 m hM h d (i + 1) (by omega) (out ++ [x]) (by simp; omega) he
    obtain ⟨gt, gm, gi⟩ := x
    have c25 := one25 m gi h
    have c29 := t29_one m hf.2 h
    have kz := ix0_one gi
    obtain ⟨o, a, b, v, t, l, bd, el, q⟩ := gi
    exact s17_11_0 (k0 := k0) (k1 := k1) (k2 := c25) (k3 := c29) (k4 := kz) (k5 := ka) (k6 := by rw [hw]; exact ih) ..

theorem loop17_7 (m : Int) {M : Mdl} (hM : M.Fit) (h : Heap) : ∀ (d i : Nat), i + d = M.fu.length → ∀ out : List MFn, out.length = i → out ++ M.fu.drop i = M.fu →
    blk (cxZ m) 17 (at_ Tryd.prog 17 7) (S17 M i M.ty out [] [] [] []) h = some (eM M, h)
  | 0, i, hd, out, ho, he => by
    have k0 : ltZ (Int.ofNat i) (Int.ofNat (M.fu.map MFn.enc).length) = false := ltZ_f (by rw [List.length_map, ofN, ofN]; omega)
    obtain rfl : i = M.fu.length := by omega
    rw [List.drop_length, List.append_nil] at he
    rw [he]
    exact s17_7_1 (k0 := k0) (k1 := loop17_11 m hM h M.gl.length 0 (by omega) [] rfl rfl) ..
  | d + 1, i, hd, out, ho, he => by
    have hi : i < M.fu.length := by omega
    have hx : M.fu[i]? = some M.fu[i] := List.getElem?_eq_getElem hi
    have hm : M.fu[i] ∈ M.fu := List.getElem_mem hi
    generalize M.fu[i] = x at hx hm
    have hb := hM.2.2.1.1
    rw [reach_eq] at hb
    have hf := hM.2.2.1.2 x hm
    have k0 : ltZ (Int.ofNat i) (Int.ofNat (M.fu.map MFn.enc).length) = true := ltZ_t (by rw [List.length_map, ofN, ofN]; omega)
    have k1 : ixA (.imm (M.fu.map MFn.enc)) (Int.ofNat i) 3 = some (MFn.enc x) := ix_map (f := MFn.enc) hx (MFn.enc_len _)
    have ka : apL (.ow 3 (out.map MFn.enc)) 3 56 [MFn.enc x] = some (.ow 3 ((out ++ [x]).map MFn.enc)) := ap_more (MFn.enc_len x) (by omega) (by decide)
    have hw := wrapS (n := i) (by omega)
    rw [drop_get hx, ← list_snoc] at he
    have ih := loop17_7 m hM h d (i + 1) (by omega) (out ++ [x]) (by simp; omega) he
    exact s17_7_0 (k0 := k0) (k1 := k1) (k2 := k1) (k3 := ap_ints hf.2.1) (k4 := k1) (k5 := t29 m x.b hf.2.2 h) (k6 := ka) (k7 := by rw [hw]; exact ih) ..

theorem loop17_3 (m : Int) {M : Mdl} (hM : M.Fit) (h : Heap) : ∀ (d i : Nat), i + d = M.ty.length → ∀ out : List FTy, out.length = i → out ++ M.ty.drop i = M.ty →
    blk (cxZ m) 17 (at_ Tryd.prog 17 3) (S17 M i out [] [] [] [] []) h = some (eM M, h)
  | 0, i, hd, out, ho, he => by
    have k0 : ltZ (Int.ofNat i) (Int.ofNat (M.ty.map FTy.enc).length) = false := ltZ_f (by rw [List.length_map, ofN, ofN]; omega)
    obtain rfl : i = M.ty.length := by omega
    rw [List.drop_length, List.append_nil] at he
    rw [he]
    exact s17_3_1 (k0 := k0) (k1 := loop17_7 m hM h M.fu.length 0 (by omega) [] rfl rfl) ..
  | d + 1, i, hd, out, ho, he => by
    have hi : i < M.ty.length := by omega
    have hx : M.ty[i]? = some M.ty[i] := List.getElem?_eq_getElem hi
    have hm : M.ty[i] ∈ M.ty := List.getElem_mem hi
    generalize M.ty[i] = x at hx hm
    have hb := hM.1.1
    rw [reach_eq] at hb
    have hf := hM.1.2 x hm
    have k0 : ltZ (Int.ofNat i) (Int.ofNat (M.ty.map FTy.enc).length) = true := ltZ_t (by rw [List.length_map, ofN, ofN]; omega)
    have k1 : ixA (.imm (M.ty.map FTy.enc)) (Int.ofNat i) 2 = some (FTy.enc x) := ix_map (f := FTy.enc) hx (FTy.enc_len _)
    have ka : apL (.ow 2 (out.map FTy.enc)) 2 48 [FTy.enc x] = some (.ow 2 ((out ++ [x]).map FTy.enc)) := ap_more (FTy.enc_len x) (by omega) (by decide)
    have hw := wrapS (n := i) (by omega)
    rw [drop_get hx, ← list_snoc] at he
    have ih := loop17_3 m hM h d (i + 1) (by omega) (out ++ [x]) (by simp; omega) he
    exact s17_3_0 (k0 := k0) (k1 := k1) (k2 := ap_ints hf.1) (k3 := k1) (k4 := ap_ints hf.2) (k5 := ka) (k6 := by rw [hw]; exact ih) ..

theorem t17 (m : Int) {M : Mdl} (hM : M.Fit) (h : Heap) : CALL m 17 [eM M] h = some (eM M, h) :=
  callZ rfl (by kernel_rfl) (by kernel_rfl) (s17_0 (k0 := ap_all Imp.enc_len hM.2.1.1 (by decide)) (k1 := ap_all Lim.enc_len hM.2.2.2.1.1 (by decide)) (k2 := ap_all Lim.enc_len hM.2.2.2.2.1.1 (by decide)) (k3 := ap_all Exq.enc_len hM.2.2.2.2.2.2.1.1 (by decide))
    (k4 := loop17_3 m hM h M.ty.length 0 (by omega) [] rfl rfl) ..)
end Go.Proofs.YtmgjnbhofkchmaaDoor
