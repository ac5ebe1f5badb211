/-
  slices.Concat of two lists; what a function's code may speak of, as the document has it.
-/
import Derived.Test.YtdmgjhnmlilboaaGreatDoorAmS14b
import Derived.KernelRfl
import Derived.Test.YtdmgjhnmlilboaaGreatDoorAmMod
import Derived.Test.YtdmgjhnmlilboaaGreatDoorAmS14GG
import Derived.Test.YtdmgjhnmlilboaaGreatDoorAmS14F
/-
  Ways through texts, one by one (printed by a program of this repo).
-/
namespace Go.Proofs.YtdmgjhnmlilboaaGreatDoor
open Go Go.Proofs.Am

theorem z15_0 (m : Int) (xs ys : List (List AV)) (h : Heap) (r : LV × Heap) (k0 : (blk (cxZ m)) 15 (at_ Tryz.prog 15 3) [LV.v (AV.imm [[AV.imm xs], [AV.imm ys]]), LV.v (AV.int IntKind.i64 (Int.ofNat 0)), LV.v (AV.imm [[AV.imm xs], [AV.imm ys]]), LV.v (AV.int IntKind.i64 (Int.ofNat 2)), LV.v (AV.int IntKind.i64 (Int.ofNat 0))] h = some r) :
    blk (cxZ m) 15 (body_ Tryz.prog 15) [.v (.imm [[.imm xs], [.imm ys]])] h = some r :=
  blk_via (scr := ⟨fun _ => none, fun _ _ => none, fun _ _ => none, false⟩) (p := true = true ∧ (blk (cxZ m)) 15 (at_ Tryz.prog 15 3) [LV.v (AV.imm [[AV.imm xs], [AV.imm ys]]), LV.v (AV.int IntKind.i64 (Int.ofNat 0)), LV.v (AV.imm [[AV.imm xs], [AV.imm ys]]), LV.v (AV.int IntKind.i64 (Int.ofNat 2)), LV.v (AV.int IntKind.i64 (Int.ofNat 0))] h = some r) (by kernel_rfl) ⟨rfl, k0⟩

theorem z15_3_a_0 (m : Int) (xs ys : List (List AV)) (c : Int) (h : Heap) (r : LV × Heap) (k0 : ltZ (IntKind.wrap IntKind.i64 (c + Int.ofNat (List.length xs))) (Int.ofNat 0) = false) (k1 : (blk (cxZ m)) 15 (at_ Tryz.prog 15 3) [LV.v (AV.imm [[AV.imm xs], [AV.imm ys]]), LV.v (AV.int IntKind.i64 (IntKind.wrap IntKind.i64 (c + Int.ofNat (List.length xs)))), LV.v (AV.imm [[AV.imm xs], [AV.imm ys]]), LV.v (AV.int IntKind.i64 (Int.ofNat 2)), LV.v (AV.int IntKind.i64 (Int.ofNat 1))] h = some r) :
    blk (cxZ m) 15 (at_ Tryz.prog 15 3) [.v (.imm [[.imm xs], [.imm ys]]), .v (.int .i64 c), .v (.imm [[.imm xs], [.imm ys]]), .v (.int .i64 (Int.ofNat 2)), .v (.int .i64 (Int.ofNat 0))] h = some r :=
  blk_via (scr := ⟨fun x => match x with | 20 => some false | _ => none, fun _ _ => none, fun _ _ => none, false⟩) (p := some (ltZ (IntKind.wrap IntKind.i64 (c + Int.ofNat (List.length xs))) (Int.ofNat 0)) = some false ∧ true = true ∧ (blk (cxZ m)) 15 (at_ Tryz.prog 15 3) [LV.v (AV.imm [[AV.imm xs], [AV.imm ys]]), LV.v (AV.int IntKind.i64 (IntKind.wrap IntKind.i64 (c + Int.ofNat (List.length xs)))), LV.v (AV.imm [[AV.imm xs], [AV.imm ys]]), LV.v (AV.int IntKind.i64 (Int.ofNat 2)), LV.v (AV.int IntKind.i64 (Int.ofNat 1))] h = some r) (by kernel_rfl) ⟨congrArg some k0, ⟨rfl, k1⟩⟩

theorem z15_3_b_0 (m : Int) (xs ys : List (List AV)) (c : Int) (h : Heap) (r : LV × Heap) (k0 : ltZ (IntKind.wrap IntKind.i64 (c + Int.ofNat (List.length ys))) (Int.ofNat 0) = false) (k1 : (blk (cxZ m)) 15 (at_ Tryz.prog 15 3) [LV.v (AV.imm [[AV.imm xs], [AV.imm ys]]), LV.v (AV.int IntKind.i64 (IntKind.wrap IntKind.i64 (c + Int.ofNat (List.length ys)))), LV.v (AV.imm [[AV.imm xs], [AV.imm ys]]), LV.v (AV.int IntKind.i64 (Int.ofNat 2)), LV.v (AV.int IntKind.i64 (Int.ofNat 2))] h = some r) :
    blk (cxZ m) 15 (at_ Tryz.prog 15 3) [.v (.imm [[.imm xs], [.imm ys]]), .v (.int .i64 c), .v (.imm [[.imm xs], [.imm ys]]), .v (.int .i64 (Int.ofNat 2)), .v (.int .i64 (Int.ofNat 1))] h = some r :=
  blk_via (scr := ⟨fun x => match x with | 20 => some false | _ => none, fun _ _ => none, fun _ _ => none, false⟩) (p := some (ltZ (IntKind.wrap IntKind.i64 (c + Int.ofNat (List.length ys))) (Int.ofNat 0)) = some false ∧ true = true ∧ (blk (cxZ m)) 15 (at_ Tryz.prog 15 3) [LV.v (AV.imm [[AV.imm xs], [AV.imm ys]]), LV.v (AV.int IntKind.i64 (IntKind.wrap IntKind.i64 (c + Int.ofNat (List.length ys)))), LV.v (AV.imm [[AV.imm xs], [AV.imm ys]]), LV.v (AV.int IntKind.i64 (Int.ofNat 2)), LV.v (AV.int IntKind.i64 (Int.ofNat 2))] h = some r) (by kernel_rfl) ⟨congrArg some k0, ⟨rfl, k1⟩⟩

theorem z15_3_c_0 (m : Int) (xs ys : List (List AV)) (c : Int) (h : Heap) (x9_1 : List (List AV)) (x9_1h : Heap) (r : LV × Heap) (k0 : callF (cxZ m) (blk (cxZ m)) 29 [LV.v AV.nilS, LV.v (AV.int IntKind.i64 c)] h = some (LV.ow 1 x9_1, x9_1h)) (k1 : (blk (cxZ m)) 15 (at_ Tryz.prog 15 11) [LV.ow 1 x9_1, LV.v (AV.imm [[AV.imm xs], [AV.imm ys]]), LV.v (AV.int IntKind.i64 (Int.ofNat 2)), LV.v (AV.int IntKind.i64 (Int.ofNat 0))] x9_1h = some r) :
    blk (cxZ m) 15 (at_ Tryz.prog 15 3) [.v (.imm [[.imm xs], [.imm ys]]), .v (.int .i64 c), .v (.imm [[.imm xs], [.imm ys]]), .v (.int .i64 (Int.ofNat 2)), .v (.int .i64 (Int.ofNat 2))] h = some r :=
  blk_via (scr := ⟨fun _ => none, fun _ _ => none, fun x y => match x, y with | 9, 1 => some (LV.ow 1 x9_1, x9_1h) | _, _ => none, false⟩) (p := callF (cxZ m) (blk (cxZ m)) 29 [LV.v AV.nilS, LV.v (AV.int IntKind.i64 c)] h = some (LV.ow 1 x9_1, x9_1h) ∧ true = true ∧ (blk (cxZ m)) 15 (at_ Tryz.prog 15 11) [LV.ow 1 x9_1, LV.v (AV.imm [[AV.imm xs], [AV.imm ys]]), LV.v (AV.int IntKind.i64 (Int.ofNat 2)), LV.v (AV.int IntKind.i64 (Int.ofNat 0))] x9_1h = some r) (by kernel_rfl) ⟨k0, ⟨rfl, k1⟩⟩

theorem z15_11_a_0 (m : Int) (xs ys out : List (List AV)) (h : Heap) (x13_2 : List (List AV)) (r : LV × Heap) (k0 : apL (LV.ow 1 out) 1 8 xs = some (LV.ow 1 x13_2)) (k1 : (blk (cxZ m)) 15 (at_ Tryz.prog 15 11) [LV.ow 1 x13_2, LV.v (AV.imm [[AV.imm xs], [AV.imm ys]]), LV.v (AV.int IntKind.i64 (Int.ofNat 2)), LV.v (AV.int IntKind.i64 (Int.ofNat 1))] h = some r) :
    blk (cxZ m) 15 (at_ Tryz.prog 15 11) [.ow 1 out, .v (.imm [[.imm xs], [.imm ys]]), .v (.int .i64 (Int.ofNat 2)), .v (.int .i64 (Int.ofNat 0))] h = some r :=
  blk_via (scr := ⟨fun _ => none, fun x y => match x, y with | 13, 2 => some (LV.ow 1 x13_2) | _, _ => none, fun _ _ => none, false⟩) (p := false = false ∧ true = true ∧ apL (LV.ow 1 out) 1 8 xs = some (LV.ow 1 x13_2) ∧ true = true ∧ (blk (cxZ m)) 15 (at_ Tryz.prog 15 11) [LV.ow 1 x13_2, LV.v (AV.imm [[AV.imm xs], [AV.imm ys]]), LV.v (AV.int IntKind.i64 (Int.ofNat 2)), LV.v (AV.int IntKind.i64 (Int.ofNat 1))] h = some r) (by kernel_rfl) ⟨rfl, ⟨rfl, ⟨k0, ⟨rfl, k1⟩⟩⟩⟩

theorem z15_11_b_0 (m : Int) (xs ys out : List (List AV)) (h : Heap) (x13_2 : List (List AV)) (r : LV × Heap) (k0 : apL (LV.ow 1 out) 1 8 ys = some (LV.ow 1 x13_2)) (k1 : (blk (cxZ m)) 15 (at_ Tryz.prog 15 11) [LV.ow 1 x13_2, LV.v (AV.imm [[AV.imm xs], [AV.imm ys]]), LV.v (AV.int IntKind.i64 (Int.ofNat 2)), LV.v (AV.int IntKind.i64 (Int.ofNat 2))] h = some r) :
    blk (cxZ m) 15 (at_ Tryz.prog 15 11) [.ow 1 out, .v (.imm [[.imm xs], [.imm ys]]), .v (.int .i64 (Int.ofNat 2)), .v (.int .i64 (Int.ofNat 1))] h = some r :=
  blk_via (scr := ⟨fun _ => none, fun x y => match x, y with | 13, 2 => some (LV.ow 1 x13_2) | _, _ => none, fun _ _ => none, false⟩) (p := false = false ∧ true = true ∧ apL (LV.ow 1 out) 1 8 ys = some (LV.ow 1 x13_2) ∧ true = true ∧ (blk (cxZ m)) 15 (at_ Tryz.prog 15 11) [LV.ow 1 x13_2, LV.v (AV.imm [[AV.imm xs], [AV.imm ys]]), LV.v (AV.int IntKind.i64 (Int.ofNat 2)), LV.v (AV.int IntKind.i64 (Int.ofNat 2))] h = some r) (by kernel_rfl) ⟨rfl, ⟨rfl, ⟨k0, ⟨rfl, k1⟩⟩⟩⟩

theorem z15_11_c_0 (m : Int) (xs ys out : List (List AV)) (h : Heap) :
    blk (cxZ m) 15 (at_ Tryz.prog 15 11) [.ow 1 out, .v (.imm [[.imm xs], [.imm ys]]), .v (.int .i64 (Int.ofNat 2)), .v (.int .i64 (Int.ofNat 2))] h = some ((LV.v (AV.imm out), h)) :=
  blk_via (scr := ⟨fun _ => none, fun _ _ => none, fun _ _ => none, false⟩) (p := some (LV.v (AV.imm out), h) = some ((LV.v (AV.imm out), h))) (by kernel_rfl) rfl

end Go.Proofs.YtdmgjhnmlilboaaGreatDoor


namespace Go.Proofs.YtdmgjhnmlilboaaGreatDoor
open Go Go.RowKit Go.Proofs.Am

theorem fit_N (l : List Int) : fitE 1 (encN l) = true := by cases l <;> rfl
theorem ap_wide {out ys : List Int} (h : (out.length + ys.length) * 8 ≤ 140737488359232) : apL (.ow 1 (encN out)) 1 8 (encN ys) = some (.ow 1 (encN (out ++ ys))) := by
  have h1 : roomW ((encN out).length + (encN ys).length) 8 = true := by
    unfold roomW
    rw [encN_len, encN_len, Bool.and_eq_true, Bool.or_eq_true]
    exact ⟨.inr (Nat.ble_eq_true_of_le (by omega)), rfl⟩
  simp only [apL, Nat.beq_refl, fit_N, h1, Bool.and_self, cond_true, encN_app]
theorem grow_call (m : Int) (n : Nat) (hn : n * 8 ≤ 281474976710656) (h : Heap) : callF (cxZ m) (blk (cxZ m)) 29 [.v .nilS, .v (.int .i64 (Int.ofNat n))] h = some (.ow 1 (encN []), h) := by
  refine callF_ext (e := growE) rfl rfl (x := .ow 1 []) ?_
  have h0 : (0 : Int) ≤ Int.ofNat n := Int.natCast_nonneg n
  have h1 : Nat.ble ((Int.ofNat n).toNat * 8) 281474976710656 = true := Nat.ble_eq_true_of_le hn
  simp only [growE, decide_eq_true h0, h1, Bool.and_self, cond_true]
theorem t15c (m : Int) (p l : List Int) (hp : p.length * 8 ≤ 140737488351232) (hl : l.length ≤ 1000) (h : Heap) : CALL m 15 [.v (.imm [[.imm (encN p)], [.imm (encN l)]])] h = some (.v (.imm (encN (p ++ l))), h) := by
  have e1 : IntKind.wrap .i64 (Int.ofNat 0 + Int.ofNat (encN p).length) = Int.ofNat p.length := by
    rw [encN_len, wrapI (by unfold InZ; simp only [ofN]; omega)]
    simp only [ofN]; omega
  have e2 : IntKind.wrap .i64 (Int.ofNat p.length + Int.ofNat (encN l).length) = Int.ofNat (p.length + l.length) := by
    rw [encN_len, wrapI (by unfold InZ; simp only [ofN]; omega)]
    simp only [ofN]; omega
  have a1 : apL (.ow 1 (encN [])) 1 8 (encN p) = some (.ow 1 (encN p)) := ap_wide (out := []) (by simp only [List.length_nil]; omega)
  have a2 : apL (.ow 1 (encN p)) 1 8 (encN l) = some (.ow 1 (encN (p ++ l))) := ap_wide (by omega)
  refine callZ rfl (by kernel_rfl) (by kernel_rfl) (z15_0 (k0 := z15_3_a_0 (k0 := ?_) (k1 := ?_) ..) ..)
  · rw [e1]; exact ltZ_f (Int.natCast_nonneg _)
  · rw [e1]
    refine z15_3_b_0 (k0 := ?_) (k1 := ?_) ..
    · rw [e2]; exact ltZ_f (Int.natCast_nonneg _)
    · rw [e2]
      exact z15_3_c_0 (k0 := grow_call m _ (by omega) h) (k1 := z15_11_a_0 (k0 := a1) (k1 := z15_11_b_0 (k0 := a2) (k1 := z15_11_c_0 ..) ..) ..) ..

/-! ### What it is -/
/-- A global's cells: its type, and whether it changes. -/
def gv (x : Int × Bool) : List AV :=
  [.int .i64 x.1, .bool x.2, .int .i64 (Int.ofNat 0), .int .i64 (Int.ofNat 0), .int .i64 (Int.ofNat 0), .int .u64 (Int.ofNat 0), .int .i64 (Int.ofNat 0), .imm [], .imm [], .imm [], .bool false]
theorem gv_len (x : Int × Bool) : (gv x).length = 11 := rfl
def gI (x : Imp) : Int × Bool := (x.t, x.mu)
def gG (x : Glo) : Int × Bool := (x.t, x.mu)
def gS (M : Mdl) : List (Int × Bool) := (impK M 3).map gI ++ M.gl.map gG
def fS (M : Mdl) : List Int := (rawL M).map (numT M)
def bT (M : Mdl) (k : Int) : Bool := ltZ (Int.ofNat 0) (Int.ofNat ((impK M k).length + ownK M k))
def resT (y : FTy) : Int := match y.r with | [] => Int.ofNat 0 | z :: _ => z
abbrev scL (M : Mdl) (tys fns gls : List (List AV)) (lo : List Int) (r : Int) : List AV := [.imm tys, .imm fns, .imm gls, .bool (bT M 1), .bool (bT M 2), .imm (encN lo), .int .i64 r]
def scM (M : Mdl) (g : MFn) (y : FTy) : List AV := scL M (M.ty.map FTy.enc) (encN (fS M)) ((gS M).map gv) (y.p ++ g.l) (resT y)
theorem ap_gv {out : List (Int × Bool)} {x : Int × Bool} (h : out.length ≤ 1000) : apL (.ow 11 (out.map gv)) 11 136 [gv x] = some (.ow 11 ((out ++ [x]).map gv)) := by
  rw [ap_owned (fit_one (gv_len x)) (by simp; omega) (by decide), List.map_append]
  rfl
end Go.Proofs.YtdmgjhnmlilboaaGreatDoor
