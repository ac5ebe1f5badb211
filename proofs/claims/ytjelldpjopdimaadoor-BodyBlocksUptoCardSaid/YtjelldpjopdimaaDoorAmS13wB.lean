/-
  Ways through texts, one by one (printed by a program of this repo).
-/
import Derived.Test.YtjelldpjopdimaaDoorAmS13S
import Derived.KernelRfl

namespace Go.Proofs.YtjelldpjopdimaaDoor
open Go Go.Proofs.Am

theorem w30_0 {m : Int} {L : Nat} {a : AV} {h : Heap} {x0_1 : Int} {r : LV × Heap} (k0 : lnS a = some x0_1) (k1 : (blk (cxZ m)) 30 (at_ Tryd.prog 30 1) [LV.v (AV.ptr L 0), LV.v a, LV.v (AV.int IntKind.i64 x0_1), LV.v (AV.int IntKind.i64 (Int.ofNat 0))] h = some r) :
    blk (cxZ m) 30 (body_ Tryd.prog 30) [.v (.ptr L 0), .v a] h = some r :=
  blk_by (scr := ⟨fun _ => none, fun x y => match x, y with | 0, 1 => some (LV.v (AV.int Go.IntKind.i64 x0_1)) | _, _ => none, fun _ _ => none, false⟩) (tA k0 (tA t1 (k1))) (by kernel_rfl)

theorem w30_1_0 {m : Int} {L : Nat} {a : AV} {n i : Int} {h : Heap} {x2_0_0 : Int} {x4_4 : AV} {x4_7_i : Nat} {x4_7_n : Nat} {x4_7h : Heap} {x4_10h : Heap} {r : LV × Heap} (k0 : ltZ i n = true) (k1 : ixA a i 1 = some [AV.int IntKind.i64 x2_0_0]) (k2 : (!eqZ x2_0_0 (Int.ofNat 0)) = true) (k3 : ldP h (AV.ptr L 7) 1 false = some x4_4) (k4 : apH h x4_4 1 8 [[AV.int IntKind.i64 x2_0_0]] = some (AV.arr 1 x4_7_i 0 x4_7_n, x4_7h)) (k5 : stP x4_7h (AV.ptr L 7) [LV.v (AV.arr 1 x4_7_i 0 x4_7_n)] = some x4_10h) (k6 : (blk (cxZ m)) 30 (at_ Tryd.prog 30 1) [LV.v (AV.ptr L 0), LV.v a, LV.v (AV.int IntKind.i64 n), LV.v (AV.int IntKind.i64 (IntKind.wrap IntKind.i64 (i + Int.ofNat 1)))] x4_10h = some r) :
    blk (cxZ m) 30 (at_ Tryd.prog 30 1) [.v (.ptr L 0), .v a, .v (.int .i64 n), .v (.int .i64 i)] h = some r :=
  blk_by (scr := ⟨fun x => match x with | 9 => some true | 13 => some true | _ => none, fun x y => match x, y with | 2, 0 => some (LV.v (AV.snap [(AV.int Go.IntKind.i64 x2_0_0)])) | _, _ => none, fun x y => match x, y with | 4, 4 => some (LV.v x4_4, Heap.nil) | 4, 7 => some (LV.v (AV.arr 1 x4_7_i 0 x4_7_n), x4_7h) | 4, 10 => some (LV.ud, x4_10h) | _, _ => none, false⟩) (tA (tS k0) (tA (tA t0 (tA tN (k1))) (tA (tS k2) (tA t1 (tA tN (tA t0 (tA k3 (tA t1 (tA t1 (tA k4 (tA t1 (tA t0 (tA tU (tA t1 (tA k5 (tA t1 (k6))))))))))))))))) (by kernel_rfl)

theorem w30_1_1 {m : Int} {L : Nat} {a : AV} {n i : Int} {h : Heap} {x2_0_0 : Int} {r : LV × Heap} (k0 : ltZ i n = true) (k1 : ixA a i 1 = some [AV.int IntKind.i64 x2_0_0]) (k2 : (!eqZ x2_0_0 (Int.ofNat 0)) = false) (k3 : (blk (cxZ m)) 30 (at_ Tryd.prog 30 1) [LV.v (AV.ptr L 0), LV.v a, LV.v (AV.int IntKind.i64 n), LV.v (AV.int IntKind.i64 (IntKind.wrap IntKind.i64 (i + Int.ofNat 1)))] h = some r) :
    blk (cxZ m) 30 (at_ Tryd.prog 30 1) [.v (.ptr L 0), .v a, .v (.int .i64 n), .v (.int .i64 i)] h = some r :=
  blk_by (scr := ⟨fun x => match x with | 9 => some true | 13 => some false | _ => none, fun x y => match x, y with | 2, 0 => some (LV.v (AV.snap [(AV.int Go.IntKind.i64 x2_0_0)])) | _, _ => none, fun _ _ => none, false⟩) (tA (tS k0) (tA (tA t0 (tA tN (k1))) (tA (tS k2) (tA t1 (k3))))) (by kernel_rfl)

theorem w30_1_2 {m : Int} {L : Nat} {a : AV} {n i : Int} {h : Heap} (k0 : ltZ i n = false) :
    blk (cxZ m) 30 (at_ Tryd.prog 30 1) [.v (.ptr L 0), .v a, .v (.int .i64 n), .v (.int .i64 i)] h = some ((LV.tup [], h)) :=
  blk_by (scr := ⟨fun x => match x with | 9 => some false | _ => none, fun _ _ => none, fun _ _ => none, false⟩) (tA (tS k0) (tR ((LV.tup [], h)))) (by kernel_rfl)

theorem w45_0 {m : Int} {L : Nat} {h : Heap} {x0_1_i : Nat} {x0_1_o : Nat} {x0_1h : Heap} {x1_5 : AV} {x1_9 : Int} {x1_13h : Heap} {x1_16h : Heap} (k0 : callF (cxZ m) (blk (cxZ m)) 28 [LV.v (AV.ptr L 0)] h = some (LV.v (AV.ptr x0_1_i x0_1_o), x0_1h)) (k1 : ldP x0_1h (AV.ptr L 7) 1 false = some x1_5) (k2 : ldP x0_1h (AV.ptr x0_1_i (Nat.succ (Nat.succ x0_1_o))) 1 false = some (AV.int IntKind.i64 x1_9)) (k3 : slA (Cx.P (cxZ m)) 23 x1_5 none (some x1_9) = some AV.nilS) (k4 : stP x0_1h (AV.ptr L 7) [LV.v AV.nilS] = some x1_13h) (k5 : stP x1_13h (AV.ptr x0_1_i (Nat.succ (Nat.succ (Nat.succ x0_1_o)))) [LV.v (AV.bool true)] = some x1_16h) :
    blk (cxZ m) 45 (body_ Tryd.prog 45) [.v (.ptr L 0)] h = some ((LV.tup [], x1_16h)) :=
  blk_by (scr := ⟨fun _ => none, fun x y => match x, y with | 1, 10 => some (LV.v AV.nilS) | _, _ => none, fun x y => match x, y with | 0, 1 => some (LV.v (AV.ptr x0_1_i x0_1_o), x0_1h) | 1, 5 => some (LV.v x1_5, Heap.nil) | 1, 9 => some (LV.v (AV.int Go.IntKind.i64 x1_9), Heap.nil) | 1, 13 => some (LV.ud, x1_13h) | 1, 16 => some (LV.ud, x1_16h) | _, _ => none, false⟩) (tA k0 (tA t1 (tA tN (tA t0 (tA k1 (tA t1 (tA tN (tA t0 (tA k2 (tA (tA t1 (k3)) (tA t1 (tA t0 (tA tU (tA t1 (tA k4 (tA t1 (tA t0 (tA tU (tA t1 (tA k5 (tR ((LV.tup [], x1_16h))))))))))))))))))))))) (by kernel_rfl)

theorem w45_1 {m : Int} {L : Nat} {h : Heap} {x0_1_i : Nat} {x0_1_o : Nat} {x0_1h : Heap} {x1_5 : AV} {x1_9 : Int} {x1_10_i : Nat} {x1_10_n : Nat} {x1_13h : Heap} {x1_16h : Heap} (k0 : callF (cxZ m) (blk (cxZ m)) 28 [LV.v (AV.ptr L 0)] h = some (LV.v (AV.ptr x0_1_i x0_1_o), x0_1h)) (k1 : ldP x0_1h (AV.ptr L 7) 1 false = some x1_5) (k2 : ldP x0_1h (AV.ptr x0_1_i (Nat.succ (Nat.succ x0_1_o))) 1 false = some (AV.int IntKind.i64 x1_9)) (k3 : slA (Cx.P (cxZ m)) 23 x1_5 none (some x1_9) = some (AV.arr 1 x1_10_i 0 x1_10_n)) (k4 : stP x0_1h (AV.ptr L 7) [LV.v (AV.arr 1 x1_10_i 0 x1_10_n)] = some x1_13h) (k5 : stP x1_13h (AV.ptr x0_1_i (Nat.succ (Nat.succ (Nat.succ x0_1_o)))) [LV.v (AV.bool true)] = some x1_16h) :
    blk (cxZ m) 45 (body_ Tryd.prog 45) [.v (.ptr L 0)] h = some ((LV.tup [], x1_16h)) :=
  blk_by (scr := ⟨fun _ => none, fun x y => match x, y with | 1, 10 => some (LV.v (AV.arr 1 x1_10_i 0 x1_10_n)) | _, _ => none, fun x y => match x, y with | 0, 1 => some (LV.v (AV.ptr x0_1_i x0_1_o), x0_1h) | 1, 5 => some (LV.v x1_5, Heap.nil) | 1, 9 => some (LV.v (AV.int Go.IntKind.i64 x1_9), Heap.nil) | 1, 13 => some (LV.ud, x1_13h) | 1, 16 => some (LV.ud, x1_16h) | _, _ => none, false⟩) (tA k0 (tA t1 (tA tN (tA t0 (tA k1 (tA t1 (tA tN (tA t0 (tA k2 (tA (tA t1 (k3)) (tA t1 (tA t0 (tA tU (tA t1 (tA k4 (tA t1 (tA t0 (tA tU (tA t1 (tA k5 (tR ((LV.tup [], x1_16h))))))))))))))))))))))) (by kernel_rfl)

theorem w54_0 {m : Int} {L : Nat} {n : Int} {h : Heap} {x1_4 : AV} {x1_5 : Int} {x2_2h : Heap} (k0 : ldP h (AV.ptr L 8) 1 false = some x1_4) (k1 : lnS x1_4 = some x1_5) (k2 : leZ x1_5 n = true) (k3 : callF (cxZ m) (blk (cxZ m)) 29 [LV.v (AV.ptr L 0), LV.v (AV.ifc 47 (AV.int IntKind.i64 (Int.ofNat 5)))] h = some (LV.tup [], x2_2h)) :
    blk (cxZ m) 54 (body_ Tryd.prog 54) [.v (.ptr L 0), .v (.int .i64 n)] h = some ((LV.tup [AV.imm [], AV.bool false], x2_2h)) :=
  blk_by (scr := ⟨fun x => match x with | 12 => some true | _ => none, fun x y => match x, y with | 1, 5 => some (LV.v (AV.int Go.IntKind.i64 x1_5)) | _, _ => none, fun x y => match x, y with | 1, 4 => some (LV.v x1_4, Heap.nil) | 2, 2 => some (LV.tup [], x2_2h) | _, _ => none, false⟩) (tA t1 (tA tN (tA t0 (tA k0 (tA k1 (tA (tS k2) (tA k3 (tR ((LV.tup [AV.imm [], AV.bool false], x2_2h)))))))))) (by kernel_rfl)

theorem w54_1 {m : Int} {L : Nat} {n : Int} {h : Heap} {x1_4 : AV} {x1_5 : Int} {x4_3 : AV} {x4_7 : AV} {x4_8 : Int} {x4_12_i : Nat} {x4_12_o : Nat} {x4_14 : AV} (k0 : ldP h (AV.ptr L 8) 1 false = some x1_4) (k1 : lnS x1_4 = some x1_5) (k2 : leZ x1_5 n = false) (k3 : ldP h (AV.ptr L 8) 1 false = some x4_3) (k4 : ldP h (AV.ptr L 8) 1 false = some x4_7) (k5 : lnS x4_7 = some x4_8) (k6 : ixP x4_3 (IntKind.wrap IntKind.i64 (IntKind.wrap IntKind.i64 (x4_8 - Int.ofNat 1) - n)) 4 = some (AV.ptr x4_12_i x4_12_o)) (k7 : ldP h (AV.ptr x4_12_i x4_12_o) 1 false = some x4_14) :
    blk (cxZ m) 54 (body_ Tryd.prog 54) [.v (.ptr L 0), .v (.int .i64 n)] h = some ((LV.tup [x4_14, AV.bool true], h)) :=
  blk_by (scr := ⟨fun x => match x with | 12 => some false | _ => none, fun x y => match x, y with | 1, 5 => some (LV.v (AV.int Go.IntKind.i64 x1_5)) | 4, 8 => some (LV.v (AV.int Go.IntKind.i64 x4_8)) | _, _ => none, fun x y => match x, y with | 1, 4 => some (LV.v x1_4, Heap.nil) | 4, 3 => some (LV.v x4_3, Heap.nil) | 4, 7 => some (LV.v x4_7, Heap.nil) | 4, 12 => some (LV.v (AV.ptr x4_12_i x4_12_o), Heap.nil) | 4, 14 => some (LV.v x4_14, Heap.nil) | _, _ => none, false⟩) (tA t1 (tA tN (tA t0 (tA k0 (tA k1 (tA (tS k2) (tA t1 (tA tN (tA t0 (tA k3 (tA t1 (tA tN (tA t0 (tA k4 (tA k5 (tA t1 (tA tN (tA k6 (tA t1 (tA tN (tA t0 (tA k7 (tR ((LV.tup [x4_14, AV.bool true], h))))))))))))))))))))))))) (by kernel_rfl)

theorem w16_0 {m : Int} {t : Int} {h : Heap} (k0 : eqZ t (Int.ofNat 0) = true) :
    blk (cxZ m) 16 (body_ Tryd.prog 16) [.v (.int .i64 t)] h = some ((LV.v (AV.imm []), h)) :=
  blk_by (scr := ⟨fun x => match x with | 4 => some true | _ => none, fun _ _ => none, fun _ _ => none, false⟩) (tA (tS k0) (tR ((LV.v (AV.imm []), h)))) (by kernel_rfl)

theorem w16_1 {m : Int} {t : Int} {h : Heap} (k0 : eqZ t (Int.ofNat 0) = false) :
    blk (cxZ m) 16 (body_ Tryd.prog 16) [.v (.int .i64 t)] h = some ((LV.v (AV.imm [[AV.int IntKind.i64 t]]), h)) :=
  blk_by (scr := ⟨fun x => match x with | 4 => some false | _ => none, fun _ _ => none, fun _ _ => none, false⟩) (tA (tS k0) (tR ((LV.v (AV.imm [[AV.int IntKind.i64 t]]), h)))) (by kernel_rfl)

end Go.Proofs.YtjelldpjopdimaaDoor

/-
  Ways through texts, one by one (printed by a program of this repo).
-/
namespace Go.Proofs.YtjelldpjopdimaaDoor
open Go Go.Proofs.Am

theorem w53_0 {m : Int} {L : Nat} {o a b v t : Int} {l bd el : List (List AV)} {q : Bool} {h : Heap} {r : LV × Heap} (k0 : (blk (cxZ m)) 53 (at_ Tryd.prog 53 3) [LV.v (AV.ptr L 0), LV.ow 1 [], LV.v (AV.imm l), LV.v (AV.int IntKind.i64 (Int.ofNat (List.length l))), LV.v (AV.int IntKind.i64 (Int.ofNat 0))] h = some r) :
    blk (cxZ m) 53 (body_ Tryd.prog 53) [.v (.ptr L 0), .v (.agg [.int .i64 o, .int .i64 a, .int .i64 b, .int .u64 v, .int .i64 t, .imm l, .imm bd, .imm el, .bool q])] h = some r :=
  blk_by (scr := ⟨fun _ => none, fun _ _ => none, fun _ _ => none, false⟩) (tA t1 (k0)) (by kernel_rfl)

theorem w53_3_0 {m : Int} {L : Nat} {out l : List (List AV)} {n : Int} {i : Nat} {h : Heap} {x4_0_0 : Int} {x5_2_r0 : List (List AV)} {x5_2_r1 : Bool} {x5_2h : Heap} (k0 : ltZ (Int.ofNat i) n = true) (k1 : ixA (AV.imm l) (Int.ofNat i) 1 = some [AV.int IntKind.i64 x4_0_0]) (k2 : callF (cxZ m) (blk (cxZ m)) 54 [LV.v (AV.ptr L 0), LV.v (AV.int IntKind.i64 x4_0_0)] h = some (LV.tup [AV.imm x5_2_r0, AV.bool x5_2_r1], x5_2h)) (k3 : (!x5_2_r1) = true) :
    blk (cxZ m) 53 (at_ Tryd.prog 53 3) [.v (.ptr L 0), .ow 1 out, .v (.imm l), .v (.int .i64 n), .v (.int .i64 i)] h = some ((LV.tup [], x5_2h)) :=
  blk_by (scr := ⟨fun x => match x with | 14 => some true | 24 => some true | _ => none, fun x y => match x, y with | 4, 0 => some (LV.v (AV.snap [(AV.int Go.IntKind.i64 x4_0_0)])) | _, _ => none, fun x y => match x, y with | 5, 2 => some (LV.tup [(AV.imm x5_2_r0), (AV.bool x5_2_r1)], x5_2h) | _, _ => none, false⟩) (tA (tS k0) (tA (tA t0 (tA tN (k1))) (tA k2 (tA (tS k3) (tR ((LV.tup [], x5_2h))))))) (by kernel_rfl)

theorem w53_3_1 {m : Int} {L : Nat} {out l : List (List AV)} {n : Int} {i : Nat} {h : Heap} {x4_0_0 : Int} {x5_2_r0 : List (List AV)} {x5_2_r1 : Bool} {x5_2h : Heap} {x7_3 : List (List AV)} {r : LV × Heap} (k0 : ltZ (Int.ofNat i) n = true) (k1 : ixA (AV.imm l) (Int.ofNat i) 1 = some [AV.int IntKind.i64 x4_0_0]) (k2 : callF (cxZ m) (blk (cxZ m)) 54 [LV.v (AV.ptr L 0), LV.v (AV.int IntKind.i64 x4_0_0)] h = some (LV.tup [AV.imm x5_2_r0, AV.bool x5_2_r1], x5_2h)) (k3 : (!x5_2_r1) = false) (k4 : apL (LV.ow 1 out) 1 24 [[AV.imm x5_2_r0]] = some (LV.ow 1 x7_3)) (k5 : (blk (cxZ m)) 53 (at_ Tryd.prog 53 3) [LV.v (AV.ptr L 0), LV.ow 1 x7_3, LV.v (AV.imm l), LV.v (AV.int IntKind.i64 n), LV.v (AV.int IntKind.i64 (IntKind.wrap IntKind.i64 (Int.ofNat (Nat.succ i))))] x5_2h = some r) :
    blk (cxZ m) 53 (at_ Tryd.prog 53 3) [.v (.ptr L 0), .ow 1 out, .v (.imm l), .v (.int .i64 n), .v (.int .i64 i)] h = some r :=
  blk_by (scr := ⟨fun x => match x with | 14 => some true | 24 => some false | _ => none, fun x y => match x, y with | 4, 0 => some (LV.v (AV.snap [(AV.int Go.IntKind.i64 x4_0_0)])) | 7, 3 => some (LV.ow 1 x7_3) | _, _ => none, fun x y => match x, y with | 5, 2 => some (LV.tup [(AV.imm x5_2_r0), (AV.bool x5_2_r1)], x5_2h) | _, _ => none, false⟩) (tA (tS k0) (tA (tA t0 (tA tN (k1))) (tA k2 (tA (tS k3) (tA t0 (tA t0 (tA t1 (tA k4 (tA t1 (k5)))))))))) (by kernel_rfl)

theorem w53_3_2 {m : Int} {L : Nat} {out l : List (List AV)} {n : Int} {i : Nat} {h : Heap} {x9_4_0 : List (List AV)} {x9_7h : Heap} {x10_2 : Bool} {x10_2h : Heap} {x11_2h : Heap} {x12_1 : Int} {x12_1h : Heap} {x13_1 : AV} {x13_2h : Heap} {x14_1h : Heap} (k0 : ltZ (Int.ofNat i) n = false) (k1 : ixA (AV.imm out) (IntKind.wrap IntKind.i64 (Int.ofNat (List.length out) - Int.ofNat 1)) 1 = some [AV.imm x9_4_0]) (k2 : stP { bx := Heap.bx h ++ [[LV.ow 1 []]], mp := Heap.mp h } (AV.ptr (List.length (Heap.bx h)) 0) [LV.v (AV.imm x9_4_0)] = some x9_7h) (k3 : callF (cxZ m) (blk (cxZ m)) 62 [LV.v (AV.imm out), LV.v (AV.fn 63 [] [AV.ptr (List.length (Heap.bx h)) 0])] x9_7h = some (LV.v (AV.bool x10_2), x10_2h)) (k4 : x10_2 = true) (k5 : callF (cxZ m) (blk (cxZ m)) 29 [LV.v (AV.ptr L 0), LV.v (AV.ifc 47 (AV.int IntKind.i64 (Int.ofNat 4)))] x10_2h = some (LV.tup [], x11_2h)) (k6 : callF (cxZ m) (blk (cxZ m)) 48 [LV.v (AV.ptr L 0), LV.v (AV.int IntKind.i64 (Int.ofNat 1))] x11_2h = some (LV.v (AV.int IntKind.i64 x12_1), x12_1h)) (k7 : ldP x12_1h (AV.ptr (List.length (Heap.bx h)) 0) 1 false = some x13_1) (k8 : callF (cxZ m) (blk (cxZ m)) 27 [LV.v (AV.ptr L 0), LV.v x13_1] x12_1h = some (LV.tup [], x13_2h)) (k9 : callF (cxZ m) (blk (cxZ m)) 45 [LV.v (AV.ptr L 0)] x13_2h = some (LV.tup [], x14_1h)) :
    blk (cxZ m) 53 (at_ Tryd.prog 53 3) [.v (.ptr L 0), .ow 1 out, .v (.imm l), .v (.int .i64 n), .v (.int .i64 i)] h = some ((LV.tup [], x14_1h)) :=
  blk_by (scr := ⟨fun x => match x with | 14 => some false | 38 => some true | _ => none, fun x y => match x, y with | 9, 4 => some (LV.v (AV.snap [(AV.imm x9_4_0)])) | _, _ => none, fun x y => match x, y with | 9, 7 => some (LV.ud, x9_7h) | 10, 2 => some (LV.v (AV.bool x10_2), x10_2h) | 11, 2 => some (LV.tup [], x11_2h) | 12, 1 => some (LV.v (AV.int Go.IntKind.i64 x12_1), x12_1h) | 13, 1 => some (LV.v x13_1, Heap.nil) | 13, 2 => some (LV.tup [], x13_2h) | 14, 1 => some (LV.tup [], x14_1h) | _, _ => none, false⟩) (tA (tS k0) (tA (tA t0 (tA tN (k1))) (tA t1 (tA t0 (tA tU (tA t1 (tA k2 (tA k3 (tA (tS k4) (tA k5 (tA k6 (tA t1 (tA tN (tA t0 (tA k7 (tA k8 (tA k9 (tR ((LV.tup [], x14_1h)))))))))))))))))))) (by kernel_rfl)

theorem w53_3_3 {m : Int} {L : Nat} {out l : List (List AV)} {n : Int} {i : Nat} {h : Heap} {x9_4_0 : List (List AV)} {x9_7h : Heap} {x10_2 : Bool} {x10_2h : Heap} {x12_1 : Int} {x12_1h : Heap} {x13_1 : AV} {x13_2h : Heap} {x14_1h : Heap} (k0 : ltZ (Int.ofNat i) n = false) (k1 : ixA (AV.imm out) (IntKind.wrap IntKind.i64 (Int.ofNat (List.length out) - Int.ofNat 1)) 1 = some [AV.imm x9_4_0]) (k2 : stP { bx := Heap.bx h ++ [[LV.ow 1 []]], mp := Heap.mp h } (AV.ptr (List.length (Heap.bx h)) 0) [LV.v (AV.imm x9_4_0)] = some x9_7h) (k3 : callF (cxZ m) (blk (cxZ m)) 62 [LV.v (AV.imm out), LV.v (AV.fn 63 [] [AV.ptr (List.length (Heap.bx h)) 0])] x9_7h = some (LV.v (AV.bool x10_2), x10_2h)) (k4 : x10_2 = false) (k5 : callF (cxZ m) (blk (cxZ m)) 48 [LV.v (AV.ptr L 0), LV.v (AV.int IntKind.i64 (Int.ofNat 1))] x10_2h = some (LV.v (AV.int IntKind.i64 x12_1), x12_1h)) (k6 : ldP x12_1h (AV.ptr (List.length (Heap.bx h)) 0) 1 false = some x13_1) (k7 : callF (cxZ m) (blk (cxZ m)) 27 [LV.v (AV.ptr L 0), LV.v x13_1] x12_1h = some (LV.tup [], x13_2h)) (k8 : callF (cxZ m) (blk (cxZ m)) 45 [LV.v (AV.ptr L 0)] x13_2h = some (LV.tup [], x14_1h)) :
    blk (cxZ m) 53 (at_ Tryd.prog 53 3) [.v (.ptr L 0), .ow 1 out, .v (.imm l), .v (.int .i64 n), .v (.int .i64 i)] h = some ((LV.tup [], x14_1h)) :=
  blk_by (scr := ⟨fun x => match x with | 14 => some false | 38 => some false | _ => none, fun x y => match x, y with | 9, 4 => some (LV.v (AV.snap [(AV.imm x9_4_0)])) | _, _ => none, fun x y => match x, y with | 9, 7 => some (LV.ud, x9_7h) | 10, 2 => some (LV.v (AV.bool x10_2), x10_2h) | 12, 1 => some (LV.v (AV.int Go.IntKind.i64 x12_1), x12_1h) | 13, 1 => some (LV.v x13_1, Heap.nil) | 13, 2 => some (LV.tup [], x13_2h) | 14, 1 => some (LV.tup [], x14_1h) | _, _ => none, false⟩) (tA (tS k0) (tA (tA t0 (tA tN (k1))) (tA t1 (tA t0 (tA tU (tA t1 (tA k2 (tA k3 (tA (tS k4) (tA k5 (tA t1 (tA tN (tA t0 (tA k6 (tA k7 (tA k8 (tR ((LV.tup [], x14_1h))))))))))))))))))) (by kernel_rfl)

theorem w62_0 {m : Int} {xs : List (List AV)} {fv : AV} {h : Heap} {x1_2 : Int} {x1_2h : Heap} (k0 : callF (cxZ m) (blk (cxZ m)) 71 [LV.v (AV.imm xs), LV.v fv] h = some (LV.v (AV.int IntKind.i64 x1_2), x1_2h)) :
    blk (cxZ m) 62 (body_ Tryd.prog 62) [.v (.imm xs), .v fv] h = some ((LV.v (AV.bool (leZ (Int.ofNat 0) x1_2)), x1_2h)) :=
  blk_by (scr := ⟨fun _ => none, fun _ _ => none, fun x y => match x, y with | 1, 2 => some (LV.v (AV.int Go.IntKind.i64 x1_2), x1_2h) | _, _ => none, false⟩) (tA k0 (tR ((LV.v (AV.bool (leZ (Int.ofNat 0) x1_2)), x1_2h)))) (by kernel_rfl)

theorem w71_0 {m : Int} {xs : List (List AV)} {fv : AV} {h : Heap} {r : LV × Heap} (k0 : (blk (cxZ m)) 71 (at_ Tryd.prog 71 2) [LV.v (AV.imm xs), LV.v fv, LV.v (AV.int IntKind.i64 (Int.ofNat (List.length xs))), LV.v (AV.int IntKind.i64 (Int.ofNat 0))] h = some r) :
    blk (cxZ m) 71 (body_ Tryd.prog 71) [.v (.imm xs), .v fv] h = some r :=
  blk_by (scr := ⟨fun _ => none, fun _ _ => none, fun _ _ => none, false⟩) (tA t1 (k0)) (by kernel_rfl)

theorem w71_2_0 {m : Int} {xs : List (List AV)} {fv : AV} {n : Int} {i : Nat} {h : Heap} {x4_3_0 : List (List AV)} {x4_5 : Bool} {x4_5h : Heap} (k0 : ltZ (Int.ofNat i) n = true) (k1 : ixA (AV.imm xs) (Int.ofNat i) 1 = some [AV.imm x4_3_0]) (k2 : callV (cxZ m) (blk (cxZ m)) fv [LV.v (AV.imm x4_3_0)] h = some (LV.v (AV.bool x4_5), x4_5h)) (k3 : x4_5 = true) :
    blk (cxZ m) 71 (at_ Tryd.prog 71 2) [.v (.imm xs), .v fv, .v (.int .i64 n), .v (.int .i64 i)] h = some ((LV.v (AV.int IntKind.i64 (Int.ofNat i)), x4_5h)) :=
  blk_by (scr := ⟨fun x => match x with | 9 => some true | 16 => some true | _ => none, fun x y => match x, y with | 4, 3 => some (LV.v (AV.snap [(AV.imm x4_3_0)])) | _, _ => none, fun x y => match x, y with | 4, 5 => some (LV.v (AV.bool x4_5), x4_5h) | _, _ => none, false⟩) (tA (tS k0) (tA (tA t0 (tA tN (k1))) (tA k2 (tA (tS k3) (tR ((LV.v (AV.int IntKind.i64 (Int.ofNat i)), x4_5h))))))) (by kernel_rfl)

theorem w71_2_1 {m : Int} {xs : List (List AV)} {fv : AV} {n : Int} {i : Nat} {h : Heap} {x4_3_0 : List (List AV)} {x4_5 : Bool} {x4_5h : Heap} {r : LV × Heap} (k0 : ltZ (Int.ofNat i) n = true) (k1 : ixA (AV.imm xs) (Int.ofNat i) 1 = some [AV.imm x4_3_0]) (k2 : callV (cxZ m) (blk (cxZ m)) fv [LV.v (AV.imm x4_3_0)] h = some (LV.v (AV.bool x4_5), x4_5h)) (k3 : x4_5 = false) (k4 : (blk (cxZ m)) 71 (at_ Tryd.prog 71 2) [LV.v (AV.imm xs), LV.v fv, LV.v (AV.int IntKind.i64 n), LV.v (AV.int IntKind.i64 (IntKind.wrap IntKind.i64 (Int.ofNat (Nat.succ i))))] x4_5h = some r) :
    blk (cxZ m) 71 (at_ Tryd.prog 71 2) [.v (.imm xs), .v fv, .v (.int .i64 n), .v (.int .i64 i)] h = some r :=
  blk_by (scr := ⟨fun x => match x with | 9 => some true | 16 => some false | _ => none, fun x y => match x, y with | 4, 3 => some (LV.v (AV.snap [(AV.imm x4_3_0)])) | _, _ => none, fun x y => match x, y with | 4, 5 => some (LV.v (AV.bool x4_5), x4_5h) | _, _ => none, false⟩) (tA (tS k0) (tA (tA t0 (tA tN (k1))) (tA k2 (tA (tS k3) (tA t1 (k4)))))) (by kernel_rfl)

theorem w71_2_2 {m : Int} {xs : List (List AV)} {fv : AV} {n : Int} {i : Nat} {h : Heap} (k0 : ltZ (Int.ofNat i) n = false) :
    blk (cxZ m) 71 (at_ Tryd.prog 71 2) [.v (.imm xs), .v fv, .v (.int .i64 n), .v (.int .i64 i)] h = some ((LV.v (AV.int IntKind.i64 (Int.negSucc 0)), h)) :=
  blk_by (scr := ⟨fun x => match x with | 9 => some false | _ => none, fun _ _ => none, fun _ _ => none, false⟩) (tA (tS k0) (tR ((LV.v (AV.int IntKind.i64 (Int.negSucc 0)), h)))) (by kernel_rfl)

theorem w63_0 {m : Int} {x : AV} {C : Nat} {h : Heap} {x1_1 : AV} {x1_2 : Bool} {x1_2h : Heap} (k0 : ldP h (AV.ptr C 0) 1 false = some x1_1) (k1 : callF (cxZ m) (blk (cxZ m)) 64 [LV.v x, LV.v x1_1] h = some (LV.v (AV.bool x1_2), x1_2h)) :
    blk (cxZ m) 63 (body_ Tryd.prog 63) [.v x, .v (.ptr C 0)] h = some ((LV.v (AV.bool !x1_2), x1_2h)) :=
  blk_by (scr := ⟨fun _ => none, fun _ _ => none, fun x y => match x, y with | 1, 1 => some (LV.v x1_1, Heap.nil) | 1, 2 => some (LV.v (AV.bool x1_2), x1_2h) | _, _ => none, false⟩) (tA t1 (tA tN (tA t0 (tA k0 (tA k1 (tR ((LV.v (AV.bool !x1_2), x1_2h)))))))) (by kernel_rfl)

theorem w64_0 {m : Int} {x y : AV} {h : Heap} {x1_1 : Int} {x1_3 : Int} (k0 : lnS x = some x1_1) (k1 : lnS y = some x1_3) (k2 : (!eqZ x1_1 x1_3) = true) :
    blk (cxZ m) 64 (body_ Tryd.prog 64) [.v x, .v y] h = some ((LV.v (AV.bool false), h)) :=
  blk_by (scr := ⟨fun x => match x with | 10 => some true | _ => none, fun x y => match x, y with | 1, 1 => some (LV.v (AV.int Go.IntKind.i64 x1_1)) | 1, 3 => some (LV.v (AV.int Go.IntKind.i64 x1_3)) | _, _ => none, fun _ _ => none, false⟩) (tA k0 (tA k1 (tA (tS k2) (tR ((LV.v (AV.bool false), h)))))) (by kernel_rfl)

theorem w64_1 {m : Int} {x y : AV} {h : Heap} {x1_1 : Int} {x1_3 : Int} {x3_1 : Int} {r : LV × Heap} (k0 : lnS x = some x1_1) (k1 : lnS y = some x1_3) (k2 : (!eqZ x1_1 x1_3) = false) (k3 : lnS x = some x3_1) (k4 : (blk (cxZ m)) 64 (at_ Tryd.prog 64 4) [LV.v x, LV.v y, LV.v (AV.int IntKind.i64 x3_1), LV.v (AV.int IntKind.i64 (Int.ofNat 0))] h = some r) :
    blk (cxZ m) 64 (body_ Tryd.prog 64) [.v x, .v y] h = some r :=
  blk_by (scr := ⟨fun x => match x with | 10 => some false | _ => none, fun x y => match x, y with | 1, 1 => some (LV.v (AV.int Go.IntKind.i64 x1_1)) | 1, 3 => some (LV.v (AV.int Go.IntKind.i64 x1_3)) | 3, 1 => some (LV.v (AV.int Go.IntKind.i64 x3_1)) | _, _ => none, fun _ _ => none, false⟩) (tA k0 (tA k1 (tA (tS k2) (tA k3 (tA t1 (k4)))))) (by kernel_rfl)

theorem w64_4_0 {m : Int} {x y : AV} {n : Int} {i : Nat} {h : Heap} {x6_2_0 : Int} {x6_6_0 : Int} (k0 : ltZ (Int.ofNat i) n = true) (k1 : ixA x (Int.ofNat i) 1 = some [AV.int IntKind.i64 x6_2_0]) (k2 : ixA y (Int.ofNat i) 1 = some [AV.int IntKind.i64 x6_6_0]) (k3 : (!eqZ x6_2_0 x6_6_0) = true) :
    blk (cxZ m) 64 (at_ Tryd.prog 64 4) [.v x, .v y, .v (.int .i64 n), .v (.int .i64 i)] h = some ((LV.v (AV.bool false), h)) :=
  blk_by (scr := ⟨fun x => match x with | 14 => some true | 24 => some true | _ => none, fun x y => match x, y with | 6, 2 => some (LV.v (AV.snap [(AV.int Go.IntKind.i64 x6_2_0)])) | 6, 6 => some (LV.v (AV.snap [(AV.int Go.IntKind.i64 x6_6_0)])) | _, _ => none, fun _ _ => none, false⟩) (tA (tS k0) (tA (tA t0 (tA tN (k1))) (tA (tA t0 (tA tN (k2))) (tA (tS k3) (tR ((LV.v (AV.bool false), h))))))) (by kernel_rfl)

theorem w64_4_1 {m : Int} {x y : AV} {n : Int} {i : Nat} {h : Heap} {x6_2_0 : Int} {x6_6_0 : Int} {r : LV × Heap} (k0 : ltZ (Int.ofNat i) n = true) (k1 : ixA x (Int.ofNat i) 1 = some [AV.int IntKind.i64 x6_2_0]) (k2 : ixA y (Int.ofNat i) 1 = some [AV.int IntKind.i64 x6_6_0]) (k3 : (!eqZ x6_2_0 x6_6_0) = false) (k4 : (blk (cxZ m)) 64 (at_ Tryd.prog 64 4) [LV.v x, LV.v y, LV.v (AV.int IntKind.i64 n), LV.v (AV.int IntKind.i64 (IntKind.wrap IntKind.i64 (Int.ofNat (Nat.succ i))))] h = some r) :
    blk (cxZ m) 64 (at_ Tryd.prog 64 4) [.v x, .v y, .v (.int .i64 n), .v (.int .i64 i)] h = some r :=
  blk_by (scr := ⟨fun x => match x with | 14 => some true | 24 => some false | _ => none, fun x y => match x, y with | 6, 2 => some (LV.v (AV.snap [(AV.int Go.IntKind.i64 x6_2_0)])) | 6, 6 => some (LV.v (AV.snap [(AV.int Go.IntKind.i64 x6_6_0)])) | _, _ => none, fun _ _ => none, false⟩) (tA (tS k0) (tA (tA t0 (tA tN (k1))) (tA (tA t0 (tA tN (k2))) (tA (tS k3) (tA t1 (k4)))))) (by kernel_rfl)

theorem w64_4_2 {m : Int} {x y : AV} {n : Int} {i : Nat} {h : Heap} (k0 : ltZ (Int.ofNat i) n = false) :
    blk (cxZ m) 64 (at_ Tryd.prog 64 4) [.v x, .v y, .v (.int .i64 n), .v (.int .i64 i)] h = some ((LV.v (AV.bool true), h)) :=
  blk_by (scr := ⟨fun x => match x with | 14 => some false | _ => none, fun _ _ => none, fun _ _ => none, false⟩) (tA (tS k0) (tR ((LV.v (AV.bool true), h)))) (by kernel_rfl)

end Go.Proofs.YtjelldpjopdimaaDoor
