/-
  What both tell of functions and globals.
-/
import Derived.Test.YtmgjnbhofkchmaaGreatDoorAmSYb
import Derived.KernelRfl
import Derived.Test.YtmgjnbhofkchmaaGreatDoorAmMod
import Derived.Test.YtmgjnbhofkchmaaGreatDoorAmSYq
import Derived.Test.YtmgjnbhofkchmaaGreatDoorAmRowX
/-
  Ways through texts, one by one (printed by a program of this repo).
-/
namespace Go.Proofs.YtmgjnbhofkchmaaGreatDoor
open Go Go.Proofs.Am

theorem s24_0 (m : Int) (xs : List (List AV)) (h : Heap) (x1_1_r0 : Int) (x1_1_r1 : Int) (x1_1h : Heap) (k0 : cA m 48 [LV.v (AV.imm xs)] h = some (LV.tup [aI x1_1_r0, aI x1_1_r1], x1_1h)) :
    blk (cxZ m) 13 (body_ Tryz.prog 13) [.v (.imm xs)] h = some ((LV.v (AV.bool (leZ x1_1_r0 (Int.ofNat 2000))), x1_1h)) :=
  blk_via (scr := ⟨fun _ => none, fun _ _ => none, fun x y => match x, y with | 1, 1 => some (LV.tup [(aI x1_1_r0), (aI x1_1_r1)], x1_1h) | _, _ => none, false⟩) (p := cA m 48 [LV.v (AV.imm xs)] h = some (LV.tup [aI x1_1_r0, aI x1_1_r1], x1_1h) ∧ some (LV.v (AV.bool (leZ x1_1_r0 (Int.ofNat 2000))), x1_1h) = some ((LV.v (AV.bool (leZ x1_1_r0 (Int.ofNat 2000))), x1_1h))) (by kernel_rfl) ⟨k0, rfl⟩

theorem s25_0 (m : Int) (o a b : Int) (v : Int) (t : Int) (l bd el : List (List AV)) (q : Bool) (h : Heap) :
    blk (cxZ m) 14 (body_ Tryz.prog 14) [.v (.agg [.int .i64 o, .int .i64 a, .int .i64 b, .int .u64 v, .int .i64 t, .imm l, .imm bd, .imm el, .bool q])] h = some ((LV.v (AV.imm [[aI o, aI a, aI b, AV.int IntKind.u64 v, aI t, AV.imm l, AV.imm bd, AV.imm el, AV.bool q]]), h)) :=
  blk_via (scr := ⟨fun _ => none, fun _ _ => none, fun _ _ => none, false⟩) (p := some (LV.v (AV.imm [[aI o, aI a, aI b, AV.int IntKind.u64 v, aI t, AV.imm l, AV.imm bd, AV.imm el, AV.bool q]]), h) = some ((LV.v (AV.imm [[aI o, aI a, aI b, AV.int IntKind.u64 v, aI t, AV.imm l, AV.imm bd, AV.imm el, AV.bool q]]), h))) (by kernel_rfl) rfl

theorem s26_0 (m : Int) (ty im fu ta me gl ex el da cu : List (List AV)) (st : Int) (k : Int) (h : Heap) (r : LV × Heap) (k0 : (blk (cxZ m)) 17 (at_ Tryz.prog 17 3) [LV.v (aI k), LV.ow 8 [], LV.v (AV.imm im), LV.v (aI (Int.ofNat (List.length im))), LV.v (aI (Int.ofNat 0))] h = some r) :
    blk (cxZ m) 17 (body_ Tryz.prog 17) [.v (.agg [.imm ty, .imm im, .imm fu, .imm ta, .imm me, .imm gl, .imm ex, .int .i64 st, .imm el, .imm da, .imm cu]), .v (.int .i64 k)] h = some r :=
  blk_via (scr := ⟨fun _ => none, fun _ _ => none, fun _ _ => none, false⟩) (p := true = true ∧ (blk (cxZ m)) 17 (at_ Tryz.prog 17 3) [LV.v (aI k), LV.ow 8 [], LV.v (AV.imm im), LV.v (aI (Int.ofNat (List.length im))), LV.v (aI (Int.ofNat 0))] h = some r) (by kernel_rfl) ⟨rfl, k0⟩

theorem s26_3_0 (m : Int) (k n : Int) (out xs : List (List AV)) (i : Nat) (h : Heap) (x4_0_0 : ByteArray) (x4_0_1 : ByteArray) (x4_0_2 : Int) (x4_0_3 : Int) (x4_0_4 : Bool) (x4_0_5 : Int) (x4_0_6 : Int) (x4_0_7 : Bool) (x6_3 : List (List AV)) (r : LV × Heap) (k0 : ltZ (Int.ofNat i) n = true) (k1 : ixA (AV.imm xs) (Int.ofNat i) 8 = some [AV.str x4_0_0, AV.str x4_0_1, aI x4_0_2, aI x4_0_3, AV.bool x4_0_4, aI x4_0_5, aI x4_0_6, AV.bool x4_0_7]) (k2 : eqZ x4_0_2 k = true) (k3 : leZ (Int.ofNat 0) k = true) (k4 : leZ k (Int.ofNat 3) = true) (k5 : apL (LV.ow 8 out) 8 80 [[AV.str x4_0_0, AV.str x4_0_1, aI x4_0_2, aI x4_0_3, AV.bool x4_0_4, aI x4_0_5, aI x4_0_6, AV.bool x4_0_7]] = some (LV.ow 8 x6_3)) (k6 : (blk (cxZ m)) 17 (at_ Tryz.prog 17 3) [LV.v (aI k), LV.ow 8 x6_3, LV.v (AV.imm xs), LV.v (aI n), LV.v (aI (IntKind.wrap IntKind.i64 (Int.ofNat (Nat.succ i))))] h = some r) :
    blk (cxZ m) 17 (at_ Tryz.prog 17 3) [.v (.int .i64 k), .ow 8 out, .v (.imm xs), .v (.int .i64 n), .v (.int .i64 (Int.ofNat i))] h = some r :=
  blk_via (scr := ⟨fun x => match x with | 12 => some true | 19 => some true | 23 => some true | 26 => some true | _ => none, fun x y => match x, y with | 4, 0 => some (LV.v (AV.snap [(AV.str x4_0_0), (AV.str x4_0_1), (aI x4_0_2), (aI x4_0_3), (AV.bool x4_0_4), (aI x4_0_5), (aI x4_0_6), (AV.bool x4_0_7)])) | 6, 3 => some (LV.ow 8 x6_3) | _, _ => none, fun _ _ => none, false⟩) (p := some (ltZ (Int.ofNat i) n) = some true ∧ (false = false ∧ (none : Option Nat) = none ∧ ixA (AV.imm xs) (Int.ofNat i) 8 = some [AV.str x4_0_0, AV.str x4_0_1, aI x4_0_2, aI x4_0_3, AV.bool x4_0_4, aI x4_0_5, aI x4_0_6, AV.bool x4_0_7]) ∧ some (eqZ x4_0_2 k) = some true ∧ some true = some true ∧ some true = some true ∧ some (leZ (Int.ofNat 0) k) = some true ∧ some true = some true ∧ some true = some true ∧ some (leZ k (Int.ofNat 3)) = some true ∧ false = false ∧ true = true ∧ apL (LV.ow 8 out) 8 80 [[AV.str x4_0_0, AV.str x4_0_1, aI x4_0_2, aI x4_0_3, AV.bool x4_0_4, aI x4_0_5, aI x4_0_6, AV.bool x4_0_7]] = some (LV.ow 8 x6_3) ∧ true = true ∧ (blk (cxZ m)) 17 (at_ Tryz.prog 17 3) [LV.v (aI k), LV.ow 8 x6_3, LV.v (AV.imm xs), LV.v (aI n), LV.v (aI (IntKind.wrap IntKind.i64 (Int.ofNat (Nat.succ i))))] h = some r) (by kernel_rfl) ⟨congrArg some k0, ⟨⟨rfl, ⟨rfl, k1⟩⟩, ⟨congrArg some k2, ⟨rfl, ⟨rfl, ⟨congrArg some k3, ⟨rfl, ⟨rfl, ⟨congrArg some k4, ⟨rfl, ⟨rfl, ⟨k5, ⟨rfl, k6⟩⟩⟩⟩⟩⟩⟩⟩⟩⟩⟩⟩⟩

theorem s26_3_1 (m : Int) (k n : Int) (out xs : List (List AV)) (i : Nat) (h : Heap) (x4_0_0 : ByteArray) (x4_0_1 : ByteArray) (x4_0_2 : Int) (x4_0_3 : Int) (x4_0_4 : Bool) (x4_0_5 : Int) (x4_0_6 : Int) (x4_0_7 : Bool) (r : LV × Heap) (k0 : ltZ (Int.ofNat i) n = true) (k1 : ixA (AV.imm xs) (Int.ofNat i) 8 = some [AV.str x4_0_0, AV.str x4_0_1, aI x4_0_2, aI x4_0_3, AV.bool x4_0_4, aI x4_0_5, aI x4_0_6, AV.bool x4_0_7]) (k2 : eqZ x4_0_2 k = true) (k3 : leZ (Int.ofNat 0) k = true) (k4 : leZ k (Int.ofNat 3) = false) (k5 : (blk (cxZ m)) 17 (at_ Tryz.prog 17 3) [LV.v (aI k), LV.ow 8 out, LV.v (AV.imm xs), LV.v (aI n), LV.v (aI (IntKind.wrap IntKind.i64 (Int.ofNat (Nat.succ i))))] h = some r) :
    blk (cxZ m) 17 (at_ Tryz.prog 17 3) [.v (.int .i64 k), .ow 8 out, .v (.imm xs), .v (.int .i64 n), .v (.int .i64 (Int.ofNat i))] h = some r :=
  blk_via (scr := ⟨fun x => match x with | 12 => some true | 19 => some true | 23 => some true | 26 => some false | _ => none, fun x y => match x, y with | 4, 0 => some (LV.v (AV.snap [(AV.str x4_0_0), (AV.str x4_0_1), (aI x4_0_2), (aI x4_0_3), (AV.bool x4_0_4), (aI x4_0_5), (aI x4_0_6), (AV.bool x4_0_7)])) | _, _ => none, fun _ _ => none, false⟩) (p := some (ltZ (Int.ofNat i) n) = some true ∧ (false = false ∧ (none : Option Nat) = none ∧ ixA (AV.imm xs) (Int.ofNat i) 8 = some [AV.str x4_0_0, AV.str x4_0_1, aI x4_0_2, aI x4_0_3, AV.bool x4_0_4, aI x4_0_5, aI x4_0_6, AV.bool x4_0_7]) ∧ some (eqZ x4_0_2 k) = some true ∧ some true = some true ∧ some true = some true ∧ some (leZ (Int.ofNat 0) k) = some true ∧ some true = some true ∧ some true = some true ∧ some (leZ k (Int.ofNat 3)) = some false ∧ true = true ∧ (blk (cxZ m)) 17 (at_ Tryz.prog 17 3) [LV.v (aI k), LV.ow 8 out, LV.v (AV.imm xs), LV.v (aI n), LV.v (aI (IntKind.wrap IntKind.i64 (Int.ofNat (Nat.succ i))))] h = some r) (by kernel_rfl) ⟨congrArg some k0, ⟨⟨rfl, ⟨rfl, k1⟩⟩, ⟨congrArg some k2, ⟨rfl, ⟨rfl, ⟨congrArg some k3, ⟨rfl, ⟨rfl, ⟨congrArg some k4, ⟨rfl, k5⟩⟩⟩⟩⟩⟩⟩⟩⟩⟩

theorem s26_3_2 (m : Int) (k n : Int) (out xs : List (List AV)) (i : Nat) (h : Heap) (x4_0_0 : ByteArray) (x4_0_1 : ByteArray) (x4_0_2 : Int) (x4_0_3 : Int) (x4_0_4 : Bool) (x4_0_5 : Int) (x4_0_6 : Int) (x4_0_7 : Bool) (r : LV × Heap) (k0 : ltZ (Int.ofNat i) n = true) (k1 : ixA (AV.imm xs) (Int.ofNat i) 8 = some [AV.str x4_0_0, AV.str x4_0_1, aI x4_0_2, aI x4_0_3, AV.bool x4_0_4, aI x4_0_5, aI x4_0_6, AV.bool x4_0_7]) (k2 : eqZ x4_0_2 k = true) (k3 : leZ (Int.ofNat 0) k = false) (k4 : (blk (cxZ m)) 17 (at_ Tryz.prog 17 3) [LV.v (aI k), LV.ow 8 out, LV.v (AV.imm xs), LV.v (aI n), LV.v (aI (IntKind.wrap IntKind.i64 (Int.ofNat (Nat.succ i))))] h = some r) :
    blk (cxZ m) 17 (at_ Tryz.prog 17 3) [.v (.int .i64 k), .ow 8 out, .v (.imm xs), .v (.int .i64 n), .v (.int .i64 (Int.ofNat i))] h = some r :=
  blk_via (scr := ⟨fun x => match x with | 12 => some true | 19 => some true | 23 => some false | _ => none, fun x y => match x, y with | 4, 0 => some (LV.v (AV.snap [(AV.str x4_0_0), (AV.str x4_0_1), (aI x4_0_2), (aI x4_0_3), (AV.bool x4_0_4), (aI x4_0_5), (aI x4_0_6), (AV.bool x4_0_7)])) | _, _ => none, fun _ _ => none, false⟩) (p := some (ltZ (Int.ofNat i) n) = some true ∧ (false = false ∧ (none : Option Nat) = none ∧ ixA (AV.imm xs) (Int.ofNat i) 8 = some [AV.str x4_0_0, AV.str x4_0_1, aI x4_0_2, aI x4_0_3, AV.bool x4_0_4, aI x4_0_5, aI x4_0_6, AV.bool x4_0_7]) ∧ some (eqZ x4_0_2 k) = some true ∧ some true = some true ∧ some true = some true ∧ some (leZ (Int.ofNat 0) k) = some false ∧ some false = some false ∧ some false = some false ∧ true = true ∧ (blk (cxZ m)) 17 (at_ Tryz.prog 17 3) [LV.v (aI k), LV.ow 8 out, LV.v (AV.imm xs), LV.v (aI n), LV.v (aI (IntKind.wrap IntKind.i64 (Int.ofNat (Nat.succ i))))] h = some r) (by kernel_rfl) ⟨congrArg some k0, ⟨⟨rfl, ⟨rfl, k1⟩⟩, ⟨congrArg some k2, ⟨rfl, ⟨rfl, ⟨congrArg some k3, ⟨rfl, ⟨rfl, ⟨rfl, k4⟩⟩⟩⟩⟩⟩⟩⟩⟩

theorem s26_3_3 (m : Int) (k n : Int) (out xs : List (List AV)) (i : Nat) (h : Heap) (x4_0_0 : ByteArray) (x4_0_1 : ByteArray) (x4_0_2 : Int) (x4_0_3 : Int) (x4_0_4 : Bool) (x4_0_5 : Int) (x4_0_6 : Int) (x4_0_7 : Bool) (r : LV × Heap) (k0 : ltZ (Int.ofNat i) n = true) (k1 : ixA (AV.imm xs) (Int.ofNat i) 8 = some [AV.str x4_0_0, AV.str x4_0_1, aI x4_0_2, aI x4_0_3, AV.bool x4_0_4, aI x4_0_5, aI x4_0_6, AV.bool x4_0_7]) (k2 : eqZ x4_0_2 k = false) (k3 : (blk (cxZ m)) 17 (at_ Tryz.prog 17 3) [LV.v (aI k), LV.ow 8 out, LV.v (AV.imm xs), LV.v (aI n), LV.v (aI (IntKind.wrap IntKind.i64 (Int.ofNat (Nat.succ i))))] h = some r) :
    blk (cxZ m) 17 (at_ Tryz.prog 17 3) [.v (.int .i64 k), .ow 8 out, .v (.imm xs), .v (.int .i64 n), .v (.int .i64 (Int.ofNat i))] h = some r :=
  blk_via (scr := ⟨fun x => match x with | 12 => some true | 19 => some false | _ => none, fun x y => match x, y with | 4, 0 => some (LV.v (AV.snap [(AV.str x4_0_0), (AV.str x4_0_1), (aI x4_0_2), (aI x4_0_3), (AV.bool x4_0_4), (aI x4_0_5), (aI x4_0_6), (AV.bool x4_0_7)])) | _, _ => none, fun _ _ => none, false⟩) (p := some (ltZ (Int.ofNat i) n) = some true ∧ (false = false ∧ (none : Option Nat) = none ∧ ixA (AV.imm xs) (Int.ofNat i) 8 = some [AV.str x4_0_0, AV.str x4_0_1, aI x4_0_2, aI x4_0_3, AV.bool x4_0_4, aI x4_0_5, aI x4_0_6, AV.bool x4_0_7]) ∧ some (eqZ x4_0_2 k) = some false ∧ some false = some false ∧ some false = some false ∧ true = true ∧ (blk (cxZ m)) 17 (at_ Tryz.prog 17 3) [LV.v (aI k), LV.ow 8 out, LV.v (AV.imm xs), LV.v (aI n), LV.v (aI (IntKind.wrap IntKind.i64 (Int.ofNat (Nat.succ i))))] h = some r) (by kernel_rfl) ⟨congrArg some k0, ⟨⟨rfl, ⟨rfl, k1⟩⟩, ⟨congrArg some k2, ⟨rfl, ⟨rfl, ⟨rfl, k3⟩⟩⟩⟩⟩⟩

theorem s26_3_4 (m : Int) (k n : Int) (out xs : List (List AV)) (i : Nat) (h : Heap) (k0 : ltZ (Int.ofNat i) n = false) :
    blk (cxZ m) 17 (at_ Tryz.prog 17 3) [.v (.int .i64 k), .ow 8 out, .v (.imm xs), .v (.int .i64 n), .v (.int .i64 (Int.ofNat i))] h = some ((LV.v (AV.imm out), h)) :=
  blk_via (scr := ⟨fun x => match x with | 12 => some false | _ => none, fun _ _ => none, fun _ _ => none, false⟩) (p := some (ltZ (Int.ofNat i) n) = some false ∧ some (LV.v (AV.imm out), h) = some ((LV.v (AV.imm out), h))) (by kernel_rfl) ⟨congrArg some k0, rfl⟩

theorem s27_0 (m : Int) (ty im fu ta me gl ex el da cu : List (List AV)) (st : Int) (k : Int) (h : Heap) (k0 : eqZ k (Int.ofNat 0) = true) :
    blk (cxZ m) 49 (body_ Tryz.prog 49) [.v (.agg [.imm ty, .imm im, .imm fu, .imm ta, .imm me, .imm gl, .imm ex, .int .i64 st, .imm el, .imm da, .imm cu]), .v (.int .i64 k)] h = some ((LV.v (aI (Int.ofNat (List.length fu))), h)) :=
  blk_via (scr := ⟨fun x => match x with | 6 => some true | _ => none, fun _ _ => none, fun _ _ => none, false⟩) (p := some (eqZ k (Int.ofNat 0)) = some true ∧ some (LV.v (aI (Int.ofNat (List.length fu))), h) = some ((LV.v (aI (Int.ofNat (List.length fu))), h))) (by kernel_rfl) ⟨congrArg some k0, rfl⟩

theorem s27_1 (m : Int) (ty im fu ta me gl ex el da cu : List (List AV)) (st : Int) (k : Int) (h : Heap) (k0 : eqZ k (Int.ofNat 0) = false) (k1 : eqZ k (Int.ofNat 1) = true) :
    blk (cxZ m) 49 (body_ Tryz.prog 49) [.v (.agg [.imm ty, .imm im, .imm fu, .imm ta, .imm me, .imm gl, .imm ex, .int .i64 st, .imm el, .imm da, .imm cu]), .v (.int .i64 k)] h = some ((LV.v (aI (Int.ofNat (List.length ta))), h)) :=
  blk_via (scr := ⟨fun x => match x with | 6 => some false | 11 => some true | _ => none, fun _ _ => none, fun _ _ => none, false⟩) (p := some (eqZ k (Int.ofNat 0)) = some false ∧ some (eqZ k (Int.ofNat 1)) = some true ∧ some (LV.v (aI (Int.ofNat (List.length ta))), h) = some ((LV.v (aI (Int.ofNat (List.length ta))), h))) (by kernel_rfl) ⟨congrArg some k0, ⟨congrArg some k1, rfl⟩⟩

theorem s27_2 (m : Int) (ty im fu ta me gl ex el da cu : List (List AV)) (st : Int) (k : Int) (h : Heap) (k0 : eqZ k (Int.ofNat 0) = false) (k1 : eqZ k (Int.ofNat 1) = false) (k2 : eqZ k (Int.ofNat 2) = true) :
    blk (cxZ m) 49 (body_ Tryz.prog 49) [.v (.agg [.imm ty, .imm im, .imm fu, .imm ta, .imm me, .imm gl, .imm ex, .int .i64 st, .imm el, .imm da, .imm cu]), .v (.int .i64 k)] h = some ((LV.v (aI (Int.ofNat (List.length me))), h)) :=
  blk_via (scr := ⟨fun x => match x with | 6 => some false | 11 => some false | 16 => some true | _ => none, fun _ _ => none, fun _ _ => none, false⟩) (p := some (eqZ k (Int.ofNat 0)) = some false ∧ some (eqZ k (Int.ofNat 1)) = some false ∧ some (eqZ k (Int.ofNat 2)) = some true ∧ some (LV.v (aI (Int.ofNat (List.length me))), h) = some ((LV.v (aI (Int.ofNat (List.length me))), h))) (by kernel_rfl) ⟨congrArg some k0, ⟨congrArg some k1, ⟨congrArg some k2, rfl⟩⟩⟩

theorem s27_3 (m : Int) (ty im fu ta me gl ex el da cu : List (List AV)) (st : Int) (k : Int) (h : Heap) (k0 : eqZ k (Int.ofNat 0) = false) (k1 : eqZ k (Int.ofNat 1) = false) (k2 : eqZ k (Int.ofNat 2) = false) (k3 : eqZ k (Int.ofNat 3) = true) :
    blk (cxZ m) 49 (body_ Tryz.prog 49) [.v (.agg [.imm ty, .imm im, .imm fu, .imm ta, .imm me, .imm gl, .imm ex, .int .i64 st, .imm el, .imm da, .imm cu]), .v (.int .i64 k)] h = some ((LV.v (aI (Int.ofNat (List.length gl))), h)) :=
  blk_via (scr := ⟨fun x => match x with | 6 => some false | 11 => some false | 16 => some false | 21 => some true | _ => none, fun _ _ => none, fun _ _ => none, false⟩) (p := some (eqZ k (Int.ofNat 0)) = some false ∧ some (eqZ k (Int.ofNat 1)) = some false ∧ some (eqZ k (Int.ofNat 2)) = some false ∧ some (eqZ k (Int.ofNat 3)) = some true ∧ some (LV.v (aI (Int.ofNat (List.length gl))), h) = some ((LV.v (aI (Int.ofNat (List.length gl))), h))) (by kernel_rfl) ⟨congrArg some k0, ⟨congrArg some k1, ⟨congrArg some k2, ⟨congrArg some k3, rfl⟩⟩⟩⟩

theorem s27_4 (m : Int) (ty im fu ta me gl ex el da cu : List (List AV)) (st : Int) (k : Int) (h : Heap) (k0 : eqZ k (Int.ofNat 0) = false) (k1 : eqZ k (Int.ofNat 1) = false) (k2 : eqZ k (Int.ofNat 2) = false) (k3 : eqZ k (Int.ofNat 3) = false) :
    blk (cxZ m) 49 (body_ Tryz.prog 49) [.v (.agg [.imm ty, .imm im, .imm fu, .imm ta, .imm me, .imm gl, .imm ex, .int .i64 st, .imm el, .imm da, .imm cu]), .v (.int .i64 k)] h = some ((LV.v (aI (Int.ofNat 0)), h)) :=
  blk_via (scr := ⟨fun x => match x with | 6 => some false | 11 => some false | 16 => some false | 21 => some false | _ => none, fun _ _ => none, fun _ _ => none, false⟩) (p := some (eqZ k (Int.ofNat 0)) = some false ∧ some (eqZ k (Int.ofNat 1)) = some false ∧ some (eqZ k (Int.ofNat 2)) = some false ∧ some (eqZ k (Int.ofNat 3)) = some false ∧ some (LV.v (aI (Int.ofNat 0)), h) = some ((LV.v (aI (Int.ofNat 0)), h))) (by kernel_rfl) ⟨congrArg some k0, ⟨congrArg some k1, ⟨congrArg some k2, ⟨congrArg some k3, rfl⟩⟩⟩⟩

theorem s11_0 (m : Int) (ty im fu ta me gl ex el da cu : List (List AV)) (st : Int) (k : Int) (h : Heap) (x1_2 : List (List AV)) (x1_2h : Heap) (x1_6 : Int) (x1_6h : Heap) (k0 : cA m 17 [LV.v (AV.agg [AV.imm ty, AV.imm im, AV.imm fu, AV.imm ta, AV.imm me, AV.imm gl, AV.imm ex, aI st, AV.imm el, AV.imm da, AV.imm cu]), LV.v (aI k)] h = some (LV.v (AV.imm x1_2), x1_2h)) (k1 : cA m 49 [LV.v (AV.agg [AV.imm ty, AV.imm im, AV.imm fu, AV.imm ta, AV.imm me, AV.imm gl, AV.imm ex, aI st, AV.imm el, AV.imm da, AV.imm cu]), LV.v (aI k)] x1_2h = some (LV.v (aI x1_6), x1_6h)) :
    blk (cxZ m) 16 (body_ Tryz.prog 16) [.v (.agg [.imm ty, .imm im, .imm fu, .imm ta, .imm me, .imm gl, .imm ex, .int .i64 st, .imm el, .imm da, .imm cu]), .v (.int .i64 k)] h = some ((LV.v (aI (IntKind.wrap IntKind.i64 (Int.ofNat (List.length x1_2) + x1_6))), x1_6h)) :=
  blk_via (scr := ⟨fun _ => none, fun _ _ => none, fun x y => match x, y with | 1, 2 => some (LV.v (AV.imm x1_2), x1_2h) | 1, 6 => some (LV.v (aI x1_6), x1_6h) | _, _ => none, false⟩) (p := cA m 17 [LV.v (AV.agg [AV.imm ty, AV.imm im, AV.imm fu, AV.imm ta, AV.imm me, AV.imm gl, AV.imm ex, aI st, AV.imm el, AV.imm da, AV.imm cu]), LV.v (aI k)] h = some (LV.v (AV.imm x1_2), x1_2h) ∧ cA m 49 [LV.v (AV.agg [AV.imm ty, AV.imm im, AV.imm fu, AV.imm ta, AV.imm me, AV.imm gl, AV.imm ex, aI st, AV.imm el, AV.imm da, AV.imm cu]), LV.v (aI k)] x1_2h = some (LV.v (aI x1_6), x1_6h) ∧ some (LV.v (aI (IntKind.wrap IntKind.i64 (Int.ofNat (List.length x1_2) + x1_6))), x1_6h) = some ((LV.v (aI (IntKind.wrap IntKind.i64 (Int.ofNat (List.length x1_2) + x1_6))), x1_6h))) (by kernel_rfl) ⟨k0, ⟨k1, rfl⟩⟩

theorem s15_4_1 (m : Int) (xs ys : List (List AV)) (i : Nat) (h : Heap) (x6_2_0 : Int) (x6_6_0 : Int) (r : LV × Heap) (k0 : ltZ (Int.ofNat i) (Int.ofNat (List.length xs)) = true) (k1 : ixA (AV.imm xs) (Int.ofNat i) 1 = some [aI x6_2_0]) (k2 : ixA (AV.imm ys) (Int.ofNat i) 1 = some [aI x6_6_0]) (k3 : (!eqZ x6_2_0 x6_6_0) = false) (k4 : (blk (cxZ m)) 42 (at_ Tryz.prog 42 4) [LV.v (AV.imm xs), LV.v (AV.imm ys), LV.v (aI (IntKind.wrap IntKind.i64 (Int.ofNat (Nat.succ i))))] h = some r) :
    blk (cxZ m) 42 (at_ Tryz.prog 42 4) [.v (.imm xs), .v (.imm ys), .v (.int .i64 (Int.ofNat i))] h = some r :=
  blk_via (scr := ⟨fun x => match x with | 14 => some true | 25 => some false | _ => none, fun x y => match x, y with | 6, 2 => some (LV.v (AV.snap [(aI x6_2_0)])) | 6, 6 => some (LV.v (AV.snap [(aI x6_6_0)])) | _, _ => none, fun _ _ => none, false⟩) (p := some (ltZ (Int.ofNat i) (Int.ofNat (List.length xs))) = some true ∧ (false = false ∧ (none : Option Nat) = none ∧ ixA (AV.imm xs) (Int.ofNat i) 1 = some [aI x6_2_0]) ∧ (false = false ∧ (none : Option Nat) = none ∧ ixA (AV.imm ys) (Int.ofNat i) 1 = some [aI x6_6_0]) ∧ (some !eqZ x6_2_0 x6_6_0) = some false ∧ true = true ∧ (blk (cxZ m)) 42 (at_ Tryz.prog 42 4) [LV.v (AV.imm xs), LV.v (AV.imm ys), LV.v (aI (IntKind.wrap IntKind.i64 (Int.ofNat (Nat.succ i))))] h = some r) (by kernel_rfl) ⟨congrArg some k0, ⟨⟨rfl, ⟨rfl, k1⟩⟩, ⟨⟨rfl, ⟨rfl, k2⟩⟩, ⟨congrArg some k3, ⟨rfl, k4⟩⟩⟩⟩⟩

theorem s15_4_2 (m : Int) (xs ys : List (List AV)) (i : Nat) (h : Heap) (k0 : ltZ (Int.ofNat i) (Int.ofNat (List.length xs)) = false) :
    blk (cxZ m) 42 (at_ Tryz.prog 42 4) [.v (.imm xs), .v (.imm ys), .v (.int .i64 (Int.ofNat i))] h = some ((LV.v (AV.bool true), h)) :=
  blk_via (scr := ⟨fun x => match x with | 14 => some false | _ => none, fun _ _ => none, fun _ _ => none, false⟩) (p := some (ltZ (Int.ofNat i) (Int.ofNat (List.length xs))) = some false ∧ some (LV.v (AV.bool true), h) = some ((LV.v (AV.bool true), h))) (by kernel_rfl) ⟨congrArg some k0, rfl⟩

end Go.Proofs.YtmgjnbhofkchmaaGreatDoor

/-
  What the spaces of a module are: the program's and the document's, as the machine has them.
-/
namespace Go.Proofs.YtmgjnbhofkchmaaGreatDoor
open Go Go.RowKit Go.Proofs.Am

abbrev eM (M : Mdl) : LV := .v (.agg M.enc)
noncomputable abbrev CALL (m : Int) (f : Nat) (xs : List LV) (h : Heap) := cA m f xs h
/-- The imports of a kind. -/
def kindB (k : Int) (x : Imp) : Bool := eqZ x.k k && leZ (Int.ofNat 0) k && leZ k (Int.ofNat 3)
def impK (M : Mdl) (k : Int) : List Imp := M.im.filter (kindB k)
def ownK (M : Mdl) (k : Int) : Nat :=
  if k = 0 then M.fu.length else if k = 1 then M.ta.length else if k = 2 then M.me.length else if k = 3 then M.gl.length else 0

/-- Lists short enough for a law. -/
structure Small (M : Mdl) : Prop where
  fit : M.Fit
  ty : M.ty.length ≤ 200
  im : M.im.length ≤ 200
  fu : M.fu.length ≤ 200
  gl : M.gl.length ≤ 200
theorem Small.ta {M : Mdl} (h : Small M) : M.ta.length * 24 ≤ 140737488351232 := h.fit.2.2.2.1.1
theorem Small.me {M : Mdl} (h : Small M) : M.me.length * 24 ≤ 140737488351232 := h.fit.2.2.2.2.1.1
theorem Small.own {M : Mdl} (h : Small M) (k : Int) : ownK M k * 24 ≤ 140737488351232 := by
  have := h.ta; have := h.me; have := h.fu; have := h.gl
  unfold ownK
  repeat' split
  all_goals omega

theorem loop26 (m : Int) (k : Int) (im : List Imp) (hi : im.length ≤ 200) (h : Heap) : ∀ (d i : Nat), i + d = im.length → ∀ out : List Imp, out.length ≤ i →
    blk (cxZ m) 17 (at_ Tryz.prog 17 3) [.v (.int .i64 k), .ow 8 (out.map Imp.enc), .v (.imm (im.map Imp.enc)), .v (.int .i64 (Int.ofNat im.length)), .v (.int .i64 (Int.ofNat i))] h
      = some (.v (.imm ((out ++ (im.drop i).filter (kindB k)).map Imp.enc)), h)
  | 0, i, hd, out, ho => by
    obtain rfl : i = im.length := by omega
    rw [List.drop_length, List.filter_nil, List.append_nil]
    exact s26_3_4 m k _ _ _ _ h (ltZ_f (Int.le_refl _))
  | d + 1, i, hd, out, ho => by
    have hlt : i < im.length := by omega
    have hx : im[i]? = some im[i] := List.getElem?_eq_getElem hlt
    generalize im[i] = x at hx
    have k0 : ltZ (Int.ofNat i) (Int.ofNat im.length) = true := ltZ_t (by rw [ofN, ofN]; omega)
    have k1 : ixA (.imm (im.map Imp.enc)) (Int.ofNat i) 8 = some (Imp.enc x) := ix_map hx x.enc_len
    have hw := wrapS (n := i) (by omega)
    rw [drop_get hx]
    cases e1 : eqZ x.k k with
    | false =>
      have hb : kindB k x = false := by simp only [kindB, e1, Bool.false_and]
      rw [List.filter_cons_of_neg (by rw [hb]; simp)]
      refine s26_3_3 (k0 := k0) (k1 := k1) (k2 := e1) (k3 := ?_) ..
      rw [hw]
      exact loop26 m k im hi h d (i + 1) (by omega) out (by omega)
    | true =>
      cases e2 : leZ (Int.ofNat 0) k with
      | false =>
        have hb : kindB k x = false := by simp only [kindB, e2, Bool.and_false, Bool.false_and]
        rw [List.filter_cons_of_neg (by rw [hb]; simp)]
        refine s26_3_2 (k0 := k0) (k1 := k1) (k2 := e1) (k3 := e2) (k4 := ?_) ..
        rw [hw]
        exact loop26 m k im hi h d (i + 1) (by omega) out (by omega)
      | true =>
        cases e3 : leZ k (Int.ofNat 3) with
        | false =>
          have hb : kindB k x = false := by simp only [kindB, e3, Bool.and_false]
          rw [List.filter_cons_of_neg (by rw [hb]; simp)]
          refine s26_3_1 (k0 := k0) (k1 := k1) (k2 := e1) (k3 := e2) (k4 := e3) (k5 := ?_) ..
          rw [hw]
          exact loop26 m k im hi h d (i + 1) (by omega) out (by omega)
        | true =>
          have hb : kindB k x = true := by simp only [kindB, e1, e2, e3, Bool.and_self]
          rw [List.filter_cons_of_pos hb]
          have k5 : apL (.ow 8 (out.map Imp.enc)) 8 80 [Imp.enc x] = some (.ow 8 ((out ++ [x]).map Imp.enc)) := by
            rw [ap_owned (fit_one x.enc_len) (by simp; omega) (by decide), List.map_append]
            rfl
          refine s26_3_0 (k0 := k0) (k1 := k1) (k2 := e1) (k3 := e2) (k4 := e3) (k5 := k5) (k6 := ?_) ..
          rw [hw, ← list_snoc out x ((im.drop (i + 1)).filter (kindB k))]
          exact loop26 m k im hi h d (i + 1) (by omega) (out ++ [x]) (by simp; omega)
theorem t26 (m : Int) {M : Mdl} (hM : Small M) (k : Int) (h : Heap) : CALL m 17 [eM M, .v (.int .i64 k)] h = some (.v (.imm ((impK M k).map Imp.enc)), h) := by
  refine callZ rfl (by kernel_rfl) (by kernel_rfl) (s26_0 (k0 := ?_) ..)
  have := loop26 m k M.im hM.im h M.im.length 0 (by omega) [] (Nat.le_refl _)
  rw [List.drop_zero, List.nil_append] at this
  rw [List.length_map]
  exact this
theorem impK_len {M : Mdl} (hM : Small M) (k : Int) : (impK M k).length ≤ 200 := Nat.le_trans (List.length_filter_le _ _) hM.im

theorem t27 (m : Int) (M : Mdl) (k : Int) (h : Heap) : CALL m 49 [eM M, .v (.int .i64 k)] h = some (.v (.int .i64 (Int.ofNat (ownK M k))), h) := by
  refine callZ rfl (by kernel_rfl) (by kernel_rfl) ?_
  unfold ownK
  by_cases h0 : k = 0
  · rw [if_pos h0]
    refine (s27_0 (k0 := eqZ_t h0) ..).trans ?_
    rw [List.length_map]
  rw [if_neg h0]
  by_cases h1 : k = 1
  · rw [if_pos h1]
    refine (s27_1 (k0 := eqZ_f h0) (k1 := eqZ_t h1) ..).trans ?_
    rw [List.length_map]
  rw [if_neg h1]
  by_cases h2 : k = 2
  · rw [if_pos h2]
    refine (s27_2 (k0 := eqZ_f h0) (k1 := eqZ_f h1) (k2 := eqZ_t h2) ..).trans ?_
    rw [List.length_map]
  rw [if_neg h2]
  by_cases h3 : k = 3
  · rw [if_pos h3]
    refine (s27_3 (k0 := eqZ_f h0) (k1 := eqZ_f h1) (k2 := eqZ_f h2) (k3 := eqZ_t h3) ..).trans ?_
    rw [List.length_map]
  rw [if_neg h3]
  exact s27_4 (k0 := eqZ_f h0) (k1 := eqZ_f h1) (k2 := eqZ_f h2) (k3 := eqZ_f h3) ..
theorem t11 (m : Int) {M : Mdl} (hM : Small M) (k : Int) (h : Heap) : CALL m 16 [eM M, .v (.int .i64 k)] h = some (.v (.int .i64 (Int.ofNat ((impK M k).length + ownK M k))), h) := by
  refine callZ rfl (by kernel_rfl) (by kernel_rfl) ((s11_0 (k0 := t26 m hM k h) (k1 := t27 m M k h) ..).trans ?_)
  have h1 := impK_len hM k
  have h2 := hM.own k
  rw [List.length_map, wrapI (by unfold InZ; simp only [ofN]; omega)]
  rfl
end Go.Proofs.YtmgjnbhofkchmaaGreatDoor

/-
  Ways through texts, one by one (printed by a program of this repo).
-/
namespace Go.Proofs.YtmgjnbhofkchmaaGreatDoor
open Go Go.Proofs.Am

end Go.Proofs.YtmgjnbhofkchmaaGreatDoor

/-
  The document's spaces, and what both tell of functions and globals.
-/
namespace Go.Proofs.YtmgjnbhofkchmaaGreatDoor
open Go Go.RowKit Go.Proofs.Am

end Go.Proofs.YtmgjnbhofkchmaaGreatDoor


namespace Go.Proofs.YtmgjnbhofkchmaaGreatDoor
open Go Go.RowKit Go.Proofs.Am

theorem ix_int {l : List Int} {i : Nat} {z : Int} (h : l[i]? = some z) : ixA (.imm (encN l)) (Int.ofNat i) 1 = some [.int .i64 z] := ix_map (f := fun x => [AV.int .i64 x]) h rfl
theorem loop15 (m : Int) (l : List Int) (hl : l.length < 9223372036854775807) (h : Heap) : ∀ (d i : Nat), i + d = l.length →
    blk (cxZ m) 42 (at_ Tryz.prog 42 4) [.v (.imm (encN l)), .v (.imm (encN l)), .v (.int .i64 (Int.ofNat i))] h = some (.v (.bool true), h)
  | 0, i, hd => s15_4_2 (k0 := ltZ_f (by rw [encN_len, ofN, ofN]; omega)) ..
  | d + 1, i, hd => by
    have hlt : i < l.length := by omega
    have k1 := ix_int (List.getElem?_eq_getElem hlt)
    refine s15_4_1 (k0 := ltZ_t (by rw [encN_len, ofN, ofN]; omega)) (k1 := k1) (k2 := k1) (k3 := by rw [eqZ_t rfl]; rfl) (k4 := ?_) ..
    rw [wrapS (by omega)]
    exact loop15 m l hl h d (i + 1) (by omega)
/-- The types' numbers of all functions. -/
def rawL (M : Mdl) : List Int := (impK M 0).map Imp.t ++ M.fu.map MFn.t
/-- A function's type. -/
def tyOf (M : Mdl) (t : Int) : Option FTy := bif ltZ t (Int.ofNat 0) then none else M.ty[t.toNat]?
def fT (M : Mdl) (i : Int) : Option Int := bif ltZ i (Int.ofNat 0) then none else (rawL M)[i.toNat]?
/-- A type's number, where there is one. -/
def numT (M : Mdl) (t : Int) : Int := match tyOf M t with | some _ => t | none => -1
def numOf (M : Mdl) (i : Int) : Int := match fT M i with | some t => numT M t | none => -1
theorem ge_none {A : Type} {l : List A} {i : Int} {n : Nat} (hn : l.length = n) (h : leZ (Int.ofNat n) i = true) : l[i.toNat]? = none := by
  have := (leZ_i h).2 rfl
  rw [ofN] at this
  rw [List.getElem?_eq_none]
  omega
theorem lt_some {A : Type} {l : List A} {i : Int} {n : Nat} (hn : l.length = n) (h0 : ltZ i (Int.ofNat 0) = false) (h : leZ (Int.ofNat n) i = false) : ∃ x, l[i.toNat]? = some x ∧ 0 ≤ i := by
  have h1 := leZ_i h
  have h2 := ltZ_i h0
  simp only [ofN, Bool.false_eq_true, iff_false] at h1 h2
  exact ⟨_, List.getElem?_eq_getElem (by omega), by omega⟩
theorem ty_ans {M : Mdl} (hM : Small M) {t : Int} {y : FTy} (h : tyOf M t = some y) : ltZ t (Int.ofNat 0) = false ∧ leZ (Int.ofNat (M.ty.map FTy.enc).length) t = false ∧ ixA (.imm (M.ty.map FTy.enc)) t 2 = some y.enc ∧ y.Fit := by
  unfold tyOf at h
  cases h0 : ltZ t (Int.ofNat 0) with
  | true => rw [h0] at h; cases h
  | false =>
    rw [h0, cond_false] at h
    have h2 := ltZ_i h0
    simp only [ofN, Bool.false_eq_true, iff_false] at h2
    refine ⟨rfl, ?_, ix_mapZ (by omega) h y.enc_len, hM.fit.1.2 _ (List.mem_of_getElem? h)⟩
    have := (List.getElem?_eq_some_iff.1 h).1
    exact leZ_f (by rw [List.length_map, ofN]; omega)
theorem ty_none {M : Mdl} {t : Int} (h : tyOf M t = none) : ltZ t (Int.ofNat 0) = true ∨ (ltZ t (Int.ofNat 0) = false ∧ leZ (Int.ofNat (M.ty.map FTy.enc).length) t = true) := by
  unfold tyOf at h
  cases h0 : ltZ t (Int.ofNat 0) with
  | true => exact .inl rfl
  | false =>
    refine .inr ⟨rfl, ?_⟩
    rw [h0, cond_false, List.getElem?_eq_none_iff] at h
    have h2 := ltZ_i h0
    simp only [ofN, Bool.false_eq_true, iff_false] at h2
    exact leZ_t (by rw [List.length_map, ofN]; omega)

end Go.Proofs.YtmgjnbhofkchmaaGreatDoor
