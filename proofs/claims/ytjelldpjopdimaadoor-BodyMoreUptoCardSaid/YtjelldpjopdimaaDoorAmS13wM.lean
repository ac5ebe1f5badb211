/-
  Ways through texts, one by one (printed by a program of this repo).
-/
import Derived.Test.YtjelldpjopdimaaDoorAmS13S
import Derived.KernelRfl

namespace Go.Proofs.YtjelldpjopdimaaDoor
open Go Go.Proofs.Am

theorem w10_0 {m : Int} {xs : List (List AV)} {h : Heap} {r : LV × Heap} (k0 : (blk (cxZ m)) 10 (at_ Tryd.prog 10 3) [LV.v (AV.imm xs), LV.ow 9 [], LV.v (AV.int IntKind.i64 (Int.ofNat 0))] h = some r) :
    blk (cxZ m) 10 (body_ Tryd.prog 10) [.v (.imm xs)] h = some r :=
  blk_by (scr := ⟨fun _ => none, fun _ _ => none, fun _ _ => none, false⟩) (tA t1 (k0)) (by kernel_rfl)

theorem w10_3_0 {m : Int} {xs out : List (List AV)} {i : Nat} {h : Heap} {x5_2_0 : Int} {x5_2_1 : Int} {x5_2_2 : Int} {x5_2_3 : Int} {x5_2_4 : Int} {x5_2_5 : List (List AV)} {x5_2_6 : List (List AV)} {x5_2_7 : List (List AV)} {x5_2_8 : Bool} {x6_3 : List (List AV)} {x7_2 : List (List AV)} {x7_2h : Heap} {x8_2 : List (List AV)} {x8_2h : Heap} {x9_3 : List (List AV)} {r : LV × Heap} (k0 : ltZ (Int.ofNat i) (Int.ofNat (List.length xs)) = true) (k1 : ixA (AV.imm xs) (Int.ofNat i) 9 = some [AV.int IntKind.i64 x5_2_0, AV.int IntKind.i64 x5_2_1, AV.int IntKind.i64 x5_2_2, AV.int IntKind.u64 x5_2_3, AV.int IntKind.i64 x5_2_4, AV.imm x5_2_5, AV.imm x5_2_6, AV.imm x5_2_7, AV.bool x5_2_8]) (k2 : apL (LV.ow 1 []) 1 8 x5_2_5 = some (LV.ow 1 x6_3)) (k3 : callF (cxZ m) (blk (cxZ m)) 10 [LV.v (AV.imm x5_2_6)] h = some (LV.v (AV.imm x7_2), x7_2h)) (k4 : callF (cxZ m) (blk (cxZ m)) 10 [LV.v (AV.imm x5_2_7)] x7_2h = some (LV.v (AV.imm x8_2), x8_2h)) (k5 : apL (LV.ow 9 out) 9 120 [[AV.int IntKind.i64 x5_2_0, AV.int IntKind.i64 x5_2_1, AV.int IntKind.i64 x5_2_2, AV.int IntKind.u64 x5_2_3, AV.int IntKind.i64 x5_2_4, AV.imm x6_3, AV.imm x7_2, AV.imm x8_2, AV.bool x5_2_8]] = some (LV.ow 9 x9_3)) (k6 : (blk (cxZ m)) 10 (at_ Tryd.prog 10 3) [LV.v (AV.imm xs), LV.ow 9 x9_3, LV.v (AV.int IntKind.i64 (IntKind.wrap IntKind.i64 (Int.ofNat (Nat.succ i))))] x8_2h = some r) :
    blk (cxZ m) 10 (at_ Tryd.prog 10 3) [.v (.imm xs), .ow 9 out, .v (.int .i64 i)] h = some r :=
  blk_by (scr := ⟨fun x => match x with | 9 => some true | _ => none, fun x y => match x, y with | 5, 2 => some (LV.v (AV.snap [(AV.int Go.IntKind.i64 x5_2_0), (AV.int Go.IntKind.i64 x5_2_1), (AV.int Go.IntKind.i64 x5_2_2), (AV.int Go.IntKind.u64 x5_2_3), (AV.int Go.IntKind.i64 x5_2_4), (AV.imm x5_2_5), (AV.imm x5_2_6), (AV.imm x5_2_7), (AV.bool x5_2_8)])) | 6, 3 => some (LV.ow 1 x6_3) | 9, 3 => some (LV.ow 9 x9_3) | _, _ => none, fun x y => match x, y with | 7, 2 => some (LV.v (AV.imm x7_2), x7_2h) | 8, 2 => some (LV.v (AV.imm x8_2), x8_2h) | _, _ => none, false⟩) (tA (tS k0) (tA (tA t0 (tA tN (k1))) (tA t0 (tA t0 (tA t1 (tA k2 (tA k3 (tA k4 (tA t0 (tA t0 (tA t1 (tA k5 (tA t1 (k6)))))))))))))) (by kernel_rfl)

theorem w10_3_1 {m : Int} {xs out : List (List AV)} {i : Nat} {h : Heap} (k0 : ltZ (Int.ofNat i) (Int.ofNat (List.length xs)) = false) :
    blk (cxZ m) 10 (at_ Tryd.prog 10 3) [.v (.imm xs), .ow 9 out, .v (.int .i64 i)] h = some ((LV.v (AV.imm out), h)) :=
  blk_by (scr := ⟨fun x => match x with | 9 => some false | _ => none, fun _ _ => none, fun _ _ => none, false⟩) (tA (tS k0) (tR ((LV.v (AV.imm out), h)))) (by kernel_rfl)

end Go.Proofs.YtjelldpjopdimaaDoor
