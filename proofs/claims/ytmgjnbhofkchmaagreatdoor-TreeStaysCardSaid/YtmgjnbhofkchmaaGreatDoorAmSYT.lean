/-
  Copy: instructions in new memory are the same.
-/
import Derived.Test.YtmgjnbhofkchmaaGreatDoorAmSYb
import Derived.KernelRfl
import Derived.Test.YtmgjnbhofkchmaaGreatDoorAmMod
import Derived.Test.YtmgjnbhofkchmaaGreatDoorAmSYz
/-
  Ways through texts, one by one (printed by a program of this repo).
-/
namespace Go.Proofs.YtmgjnbhofkchmaaGreatDoor
open Go Go.Proofs.Am

theorem s29_0 (m : Int) (xs : List (List AV)) (h : Heap) (r : LV × Heap) (k0 : (blk (cxZ m)) 15 (at_ Tryz.prog 15 3) [LV.v (AV.imm xs), LV.ow 9 [], LV.v (aI (Int.ofNat 0))] h = some r) :
    blk (cxZ m) 15 (body_ Tryz.prog 15) [.v (.imm xs)] h = some r :=
  blk_via (scr := ⟨fun _ => none, fun _ _ => none, fun _ _ => none, false⟩) (p := true = true ∧ (blk (cxZ m)) 15 (at_ Tryz.prog 15 3) [LV.v (AV.imm xs), LV.ow 9 [], LV.v (aI (Int.ofNat 0))] h = some r) (by kernel_rfl) ⟨rfl, k0⟩

theorem s29_3_0 (m : Int) (xs out : List (List AV)) (i : Nat) (h : Heap) (x5_2_0 : Int) (x5_2_1 : Int) (x5_2_2 : Int) (x5_2_3 : Int) (x5_2_4 : Int) (x5_2_5 : List (List AV)) (x5_2_6 : List (List AV)) (x5_2_7 : List (List AV)) (x5_2_8 : Bool) (x6_3 : List (List AV)) (x7_2 : List (List AV)) (x7_2h : Heap) (x8_2 : List (List AV)) (x8_2h : Heap) (x9_3 : List (List AV)) (r : LV × Heap) (k0 : ltZ (Int.ofNat i) (Int.ofNat (List.length xs)) = true) (k1 : ixA (AV.imm xs) (Int.ofNat i) 9 = some [aI x5_2_0, aI x5_2_1, aI x5_2_2, AV.int IntKind.u64 x5_2_3, aI x5_2_4, AV.imm x5_2_5, AV.imm x5_2_6, AV.imm x5_2_7, AV.bool x5_2_8]) (k2 : apL (LV.ow 1 []) 1 8 x5_2_5 = some (LV.ow 1 x6_3)) (k3 : cA m 15 [LV.v (AV.imm x5_2_6)] h = some (LV.v (AV.imm x7_2), x7_2h)) (k4 : cA m 15 [LV.v (AV.imm x5_2_7)] x7_2h = some (LV.v (AV.imm x8_2), x8_2h)) (k5 : apL (LV.ow 9 out) 9 120 [[aI x5_2_0, aI x5_2_1, aI x5_2_2, AV.int IntKind.u64 x5_2_3, aI x5_2_4, AV.imm x6_3, AV.imm x7_2, AV.imm x8_2, AV.bool x5_2_8]] = some (LV.ow 9 x9_3)) (k6 : (blk (cxZ m)) 15 (at_ Tryz.prog 15 3) [LV.v (AV.imm xs), LV.ow 9 x9_3, LV.v (aI (IntKind.wrap IntKind.i64 (Int.ofNat (Nat.succ i))))] x8_2h = some r) :
    blk (cxZ m) 15 (at_ Tryz.prog 15 3) [.v (.imm xs), .ow 9 out, .v (.int .i64 (Int.ofNat i))] h = some r :=
  blk_via (scr := ⟨fun x => match x with | 9 => some true | _ => none, fun x y => match x, y with | 5, 2 => some (LV.v (AV.snap [(aI x5_2_0), (aI x5_2_1), (aI x5_2_2), (AV.int Go.IntKind.u64 x5_2_3), (aI x5_2_4), (AV.imm x5_2_5), (AV.imm x5_2_6), (AV.imm x5_2_7), (AV.bool x5_2_8)])) | 6, 3 => some (LV.ow 1 x6_3) | 9, 3 => some (LV.ow 9 x9_3) | _, _ => none, fun x y => match x, y with | 7, 2 => some (LV.v (AV.imm x7_2), x7_2h) | 8, 2 => some (LV.v (AV.imm x8_2), x8_2h) | _, _ => none, false⟩) (p := some (ltZ (Int.ofNat i) (Int.ofNat (List.length xs))) = some true ∧ (false = false ∧ (none : Option Nat) = none ∧ ixA (AV.imm xs) (Int.ofNat i) 9 = some [aI x5_2_0, aI x5_2_1, aI x5_2_2, AV.int IntKind.u64 x5_2_3, aI x5_2_4, AV.imm x5_2_5, AV.imm x5_2_6, AV.imm x5_2_7, AV.bool x5_2_8]) ∧ false = false ∧ true = true ∧ apL (LV.ow 1 []) 1 8 x5_2_5 = some (LV.ow 1 x6_3) ∧ cA m 15 [LV.v (AV.imm x5_2_6)] h = some (LV.v (AV.imm x7_2), x7_2h) ∧ cA m 15 [LV.v (AV.imm x5_2_7)] x7_2h = some (LV.v (AV.imm x8_2), x8_2h) ∧ false = false ∧ true = true ∧ apL (LV.ow 9 out) 9 120 [[aI x5_2_0, aI x5_2_1, aI x5_2_2, AV.int IntKind.u64 x5_2_3, aI x5_2_4, AV.imm x6_3, AV.imm x7_2, AV.imm x8_2, AV.bool x5_2_8]] = some (LV.ow 9 x9_3) ∧ true = true ∧ (blk (cxZ m)) 15 (at_ Tryz.prog 15 3) [LV.v (AV.imm xs), LV.ow 9 x9_3, LV.v (aI (IntKind.wrap IntKind.i64 (Int.ofNat (Nat.succ i))))] x8_2h = some r) (by kernel_rfl) ⟨congrArg some k0, ⟨⟨rfl, ⟨rfl, k1⟩⟩, ⟨rfl, ⟨rfl, ⟨k2, ⟨k3, ⟨k4, ⟨rfl, ⟨rfl, ⟨k5, ⟨rfl, k6⟩⟩⟩⟩⟩⟩⟩⟩⟩⟩⟩

theorem s29_3_1 (m : Int) (xs out : List (List AV)) (i : Nat) (h : Heap) (k0 : ltZ (Int.ofNat i) (Int.ofNat (List.length xs)) = false) :
    blk (cxZ m) 15 (at_ Tryz.prog 15 3) [.v (.imm xs), .ow 9 out, .v (.int .i64 (Int.ofNat i))] h = some ((LV.v (AV.imm out), h)) :=
  blk_via (scr := ⟨fun x => match x with | 9 => some false | _ => none, fun _ _ => none, fun _ _ => none, false⟩) (p := some (ltZ (Int.ofNat i) (Int.ofNat (List.length xs))) = some false ∧ some (LV.v (AV.imm out), h) = some ((LV.v (AV.imm out), h))) (by kernel_rfl) ⟨congrArg some k0, rfl⟩

theorem s17_0 (m : Int) (ty im fu ta me gl ex el da cu : List (List AV)) (st : Int) (h : Heap) (x1_5 : List (List AV)) (x1_9 : List (List AV)) (x1_13 : List (List AV)) (x1_17 : List (List AV)) (r : LV × Heap) (k0 : apL (LV.ow 8 []) 8 80 im = some (LV.ow 8 x1_5)) (k1 : apL (LV.ow 3 []) 3 24 ta = some (LV.ow 3 x1_9)) (k2 : apL (LV.ow 3 []) 3 24 me = some (LV.ow 3 x1_13)) (k3 : apL (LV.ow 3 []) 3 32 ex = some (LV.ow 3 x1_17)) (k4 : (blk (cxZ m)) 6 (at_ Tryz.prog 6 3) [LV.lp 0 0, LV.lp 1 0, LV.lp 2 0, LV.v (aI (Int.ofNat 0)), LV.v (AV.imm ty), LV.v (AV.imm im), LV.v (AV.imm fu), LV.v (AV.imm ta), LV.v (AV.imm me), LV.v (AV.imm gl), LV.v (AV.imm ex), LV.v (aI st), LV.v (AV.imm el), LV.v (AV.imm da), LV.v (AV.imm cu), LV.ow 2 [], LV.ow 8 [], LV.ow 3 [], LV.ow 3 [], LV.ow 3 [], LV.ow 11 [], LV.ow 3 [], LV.v (aI (Int.ofNat 0)), LV.ow 10 [], LV.ow 10 [], LV.ow 2 [], LV.ow 2 [], LV.v (AV.imm x1_5), LV.ow 3 [], LV.v (AV.imm x1_9), LV.v (AV.imm x1_13), LV.ow 11 [], LV.v (AV.imm x1_17), LV.v (aI st), LV.ow 10 [], LV.ow 10 [], LV.ow 2 []] h = some r) :
    blk (cxZ m) 6 (body_ Tryz.prog 6) [.v (.agg [.imm ty, .imm im, .imm fu, .imm ta, .imm me, .imm gl, .imm ex, .int .i64 st, .imm el, .imm da, .imm cu])] h = some r :=
  blk_via (scr := ⟨fun _ => none, fun x y => match x, y with | 1, 5 => some (LV.ow 8 x1_5) | 1, 9 => some (LV.ow 3 x1_9) | 1, 13 => some (LV.ow 3 x1_13) | 1, 17 => some (LV.ow 3 x1_17) | _, _ => none, fun _ _ => none, false⟩) (p := false = false ∧ true = true ∧ apL (LV.ow 8 []) 8 80 im = some (LV.ow 8 x1_5) ∧ false = false ∧ true = true ∧ apL (LV.ow 3 []) 3 24 ta = some (LV.ow 3 x1_9) ∧ false = false ∧ true = true ∧ apL (LV.ow 3 []) 3 24 me = some (LV.ow 3 x1_13) ∧ false = false ∧ true = true ∧ apL (LV.ow 3 []) 3 32 ex = some (LV.ow 3 x1_17) ∧ true = true ∧ (blk (cxZ m)) 6 (at_ Tryz.prog 6 3) [LV.lp 0 0, LV.lp 1 0, LV.lp 2 0, LV.v (aI (Int.ofNat 0)), LV.v (AV.imm ty), LV.v (AV.imm im), LV.v (AV.imm fu), LV.v (AV.imm ta), LV.v (AV.imm me), LV.v (AV.imm gl), LV.v (AV.imm ex), LV.v (aI st), LV.v (AV.imm el), LV.v (AV.imm da), LV.v (AV.imm cu), LV.ow 2 [], LV.ow 8 [], LV.ow 3 [], LV.ow 3 [], LV.ow 3 [], LV.ow 11 [], LV.ow 3 [], LV.v (aI (Int.ofNat 0)), LV.ow 10 [], LV.ow 10 [], LV.ow 2 [], LV.ow 2 [], LV.v (AV.imm x1_5), LV.ow 3 [], LV.v (AV.imm x1_9), LV.v (AV.imm x1_13), LV.ow 11 [], LV.v (AV.imm x1_17), LV.v (aI st), LV.ow 10 [], LV.ow 10 [], LV.ow 2 []] h = some r) (by kernel_rfl) ⟨rfl, ⟨rfl, ⟨k0, ⟨rfl, ⟨rfl, ⟨k1, ⟨rfl, ⟨rfl, ⟨k2, ⟨rfl, ⟨rfl, ⟨k3, ⟨rfl, k4⟩⟩⟩⟩⟩⟩⟩⟩⟩⟩⟩⟩⟩

end Go.Proofs.YtmgjnbhofkchmaaGreatDoor


namespace Go.Proofs.YtmgjnbhofkchmaaGreatDoor
open Go Go.RowKit Go.Proofs.Am
theorem fitE_map {A : Type} {f : A → List AV} {n : Nat} (hf : ∀ x, (f x).length = n) : ∀ l : List A, fitE n (l.map f) = true
  | [] => rfl
  | x :: l => by
    show Nat.beq (f x).length n = true
    rw [hf]
    exact Nat.beq_refl n
/-- All of a list, behind nothing. -/
theorem ap_all {A : Type} {f : A → List AV} {n b : Nat} (hf : ∀ x, (f x).length = n) {l : List A} (h : l.length * b ≤ reachBytes) (hb : 0 < b) : apL (.ow n []) n b (l.map f) = some (.ow n (l.map f)) := by
  rw [reach_eq] at h
  rw [ap_owned (fitE_map hf l) (by rw [List.length_nil, Nat.zero_add, List.length_map]; omega) hb, List.nil_append]
theorem ap_ints {l : List Int} (h : FitL 8 InZ l) : apL (.ow 1 []) 1 8 (encN l) = some (.ow 1 (encN l)) := ap_all (f := fun z => [AV.int .i64 z]) (fun _ => rfl) h.1 (by decide)
theorem ap_bytes {l : List Int} (h : FitL 1 InB l) : apL (.ow 1 []) 1 1 (encB l) = some (.ow 1 (encB l)) := ap_all (f := fun z => [AV.int .u8 z]) (fun _ => rfl) h.1 (by decide)
/-- One more. -/
theorem ap_more {A : Type} {f : A → List AV} {n b : Nat} {out : List A} {x : A} (hf : (f x).length = n) (h : (out.length + 1) * b ≤ 140737488355328) (hb : 0 < b) : apL (.ow n (out.map f)) n b [f x] = some (.ow n ((out ++ [x]).map f)) := by
  rw [ap_owned (fit_one hf) (by rw [List.length_map]; exact h) hb, List.map_append]
  rfl
theorem loop29 (m : Int) (xs : List Ins) (hl : xs.length * 120 ≤ reachBytes)
    (hC : ∀ o a b v t l bd el q, Ins.mk o a b v t l bd el q ∈ xs → (∀ h, CALL m 15 [.v (.imm (encIs bd))] h = some (.v (.imm (encIs bd)), h)) ∧ (∀ h, CALL m 15 [.v (.imm (encIs el))] h = some (.v (.imm (encIs el)), h)) ∧ FitL 8 InZ l) (h : Heap) :
    ∀ (d i : Nat), i + d = xs.length → ∀ out : List Ins, out.length = i →
    blk (cxZ m) 15 (at_ Tryz.prog 15 3) [.v (.imm (encIs xs)), .ow 9 (encIs out), .v (.int .i64 (Int.ofNat i))] h = some (.v (.imm (encIs (out ++ xs.drop i))), h)
  | 0, i, hd, out, ho => by
    obtain rfl : i = xs.length := by omega
    rw [List.drop_length, List.append_nil]
    exact s29_3_1 (k0 := ltZ_f (by rw [encIs_len]; exact Int.le_refl _)) ..
  | d + 1, i, hd, out, ho => by
    have hi : i < xs.length := by omega
    have hx : xs[i]? = some xs[i] := List.getElem?_eq_getElem hi
    have hm : xs[i] ∈ xs := List.getElem_mem hi
    generalize xs[i] = x at hx hm
    rw [reach_eq] at hl
    have k0 : ltZ (Int.ofNat i) (Int.ofNat (encIs xs).length) = true := ltZ_t (by rw [encIs_len, ofN, ofN]; omega)
    have k1 : ixA (.imm (encIs xs)) (Int.ofNat i) 9 = some (encI x) := by rw [encIs_map]; exact ix_map (f := encI) hx (encI_len _)
    have k5 : apL (.ow 9 (encIs out)) 9 120 [encI x] = some (.ow 9 (encIs (out ++ [x]))) := by
      rw [encIs_map, encIs_map]
      exact ap_more (encI_len x) (by omega) (by decide)
    rw [drop_get hx]
    have ih := loop29 m xs hl hC h d (i + 1) (by omega) (out ++ [x]) (by simp; omega)
    rw [list_snoc] at ih
    obtain ⟨o, a, b, v, t, l, bd, el, q⟩ := x
    obtain ⟨h1, h2, h3⟩ := hC _ _ _ _ _ _ _ _ _ hm
    refine s29_3_0 (k0 := k0) (k1 := k1) (k2 := ap_ints h3) (k3 := h1 h) (k4 := h2 h) (k5 := k5) (k6 := ?_) ..
    rw [wrapS (by omega)]
    exact ih
theorem t29_of (m : Int) (l : List Ins) (hl : l.length * 120 ≤ reachBytes)
    (hC : ∀ o a b v t ll bd el q, Ins.mk o a b v t ll bd el q ∈ l → (∀ h, CALL m 15 [.v (.imm (encIs bd))] h = some (.v (.imm (encIs bd)), h)) ∧ (∀ h, CALL m 15 [.v (.imm (encIs el))] h = some (.v (.imm (encIs el)), h)) ∧ FitL 8 InZ ll) (h : Heap) :
    CALL m 15 [.v (.imm (encIs l))] h = some (.v (.imm (encIs l)), h) := by
  have := loop29 m l hl hC h l.length 0 (by omega) [] rfl
  rw [List.drop_zero, List.nil_append] at this
  exact callZ rfl (by kernel_rfl) (by kernel_rfl) (s29_0 (k0 := this) ..)
theorem t29_ins (m : Int) {x : Ins} (hx : FitZ x) : ∀ o a b v t l bd el q, x = Ins.mk o a b v t l bd el q → (∀ h, CALL m 15 [.v (.imm (encIs bd))] h = some (.v (.imm (encIs bd)), h)) ∧ (∀ h, CALL m 15 [.v (.imm (encIs el))] h = some (.v (.imm (encIs el)), h)) ∧ FitL 8 InZ l := by
  induction hx with
  | mk o a b v t l bd el q ho ha hb hv ht hl hbd hel h1 h2 i1 i2 =>
    intro o' a' b' v' t' l' bd' el' q' e
    cases e
    exact ⟨t29_of m bd hbd fun o a b v t ll bd el q hm => i1 _ hm o a b v t ll bd el q rfl, t29_of m el hel fun o a b v t ll bd el q hm => i2 _ hm o a b v t ll bd el q rfl, hl⟩
theorem t29 (m : Int) (l : List Ins) (hl : FitL 120 FitZ l) (h : Heap) : CALL m 15 [.v (.imm (encIs l))] h = some (.v (.imm (encIs l)), h) :=
  t29_of m l hl.1 (fun o a b v t ll bd el q hm => t29_ins m (hl.2 _ hm) o a b v t ll bd el q rfl) h
theorem t29_one (m : Int) {x : Ins} (hx : FitZ x) (h : Heap) : CALL m 15 [.v (.imm [encI x])] h = some (.v (.imm [encI x]), h) :=
  t29 m [x] ⟨Nat.le_of_ble_eq_true (show Nat.ble (1 * 120) reachBytes = true from rfl), fun y hy => by rw [List.mem_singleton] at hy; rw [hy]; exact hx⟩ h
end Go.Proofs.YtmgjnbhofkchmaaGreatDoor
