/-
  What the parts of Same come to.
-/
import Derived.Test.YtmgjnbhofkchmaaGreatDoorAmSYb
import Derived.KernelRfl
import Derived.Test.YtmgjnbhofkchmaaGreatDoorAmMod
import Derived.Test.YtmgjnbhofkchmaaGreatDoorAmSYz
/-
  Ways through texts, one by one (printed by a program of this repo).
-/
namespace Go.Proofs.YtmgjnbhofkchmaaGreatDoor
open Go Go.Proofs.Am

theorem s30_0 (m : Int) (xs ys : List (List AV)) (fv : AV) (h : Heap) (k0 : (!eqZ (Int.ofNat (List.length xs)) (Int.ofNat (List.length ys))) = true) :
    blk (cxZ m) 23 (body_ Tryz.prog 23) [.v (.imm xs), .v (.imm ys), .v fv] h = some ((LV.v (AV.bool false), h)) :=
  blk_via (scr := ⟨fun x => match x with | 14 => some true | _ => none, fun _ _ => none, fun _ _ => none, false⟩) (p := (some !eqZ (Int.ofNat (List.length xs)) (Int.ofNat (List.length ys))) = some true ∧ some (LV.v (AV.bool false), h) = some ((LV.v (AV.bool false), h))) (by kernel_rfl) ⟨congrArg some k0, rfl⟩

theorem s30_1 (m : Int) (xs ys : List (List AV)) (fv : AV) (h : Heap) (r : LV × Heap) (k0 : (!eqZ (Int.ofNat (List.length xs)) (Int.ofNat (List.length ys))) = false) (k1 : (blk (cxZ m)) 23 (at_ Tryz.prog 23 4) [LV.v (AV.imm ys), LV.v fv, LV.v (AV.imm xs), LV.v (aI (Int.ofNat (List.length xs))), LV.v (aI (Int.ofNat 0))] h = some r) :
    blk (cxZ m) 23 (body_ Tryz.prog 23) [.v (.imm xs), .v (.imm ys), .v fv] h = some r :=
  blk_via (scr := ⟨fun x => match x with | 14 => some false | _ => none, fun _ _ => none, fun _ _ => none, false⟩) (p := (some !eqZ (Int.ofNat (List.length xs)) (Int.ofNat (List.length ys))) = some false ∧ true = true ∧ (blk (cxZ m)) 23 (at_ Tryz.prog 23 4) [LV.v (AV.imm ys), LV.v fv, LV.v (AV.imm xs), LV.v (aI (Int.ofNat (List.length xs))), LV.v (aI (Int.ofNat 0))] h = some r) (by kernel_rfl) ⟨congrArg some k0, ⟨rfl, k1⟩⟩

theorem s30_4_0 (m : Int) (xs ys : List (List AV)) (fv : AV) (n : Int) (i : Nat) (h : Heap) (x5_1_0 : List (List AV)) (x5_1_1 : List (List AV)) (x6_2_0 : List (List AV)) (x6_2_1 : List (List AV)) (x7_3 : Bool) (x7_3h : Heap) (k0 : ltZ (Int.ofNat i) n = true) (k1 : ixA (AV.imm xs) (Int.ofNat i) 2 = some [AV.imm x5_1_0, AV.imm x5_1_1]) (k2 : ixA (AV.imm ys) (Int.ofNat i) 2 = some [AV.imm x6_2_0, AV.imm x6_2_1]) (k3 : callV (cxZ m) (blk (cxZ m)) fv [LV.v (AV.agg [AV.imm x5_1_0, AV.imm x5_1_1]), LV.v (AV.agg [AV.imm x6_2_0, AV.imm x6_2_1])] h = some (LV.v (AV.bool x7_3), x7_3h)) (k4 : (!x7_3) = true) :
    blk (cxZ m) 23 (at_ Tryz.prog 23 4) [.v (.imm ys), .v fv, .v (.imm xs), .v (.int .i64 n), .v (.int .i64 (Int.ofNat i))] h = some ((LV.v (AV.bool false), x7_3h)) :=
  blk_via (scr := ⟨fun x => match x with | 18 => some true | 30 => some true | _ => none, fun x y => match x, y with | 5, 1 => some (LV.v (AV.snap [(AV.imm x5_1_0), (AV.imm x5_1_1)])) | 6, 2 => some (LV.v (AV.snap [(AV.imm x6_2_0), (AV.imm x6_2_1)])) | _, _ => none, fun x y => match x, y with | 7, 3 => some (LV.v (AV.bool x7_3), x7_3h) | _, _ => none, false⟩) (p := some (ltZ (Int.ofNat i) n) = some true ∧ (false = false ∧ (none : Option Nat) = none ∧ ixA (AV.imm xs) (Int.ofNat i) 2 = some [AV.imm x5_1_0, AV.imm x5_1_1]) ∧ (false = false ∧ (none : Option Nat) = none ∧ ixA (AV.imm ys) (Int.ofNat i) 2 = some [AV.imm x6_2_0, AV.imm x6_2_1]) ∧ callV (cxZ m) (blk (cxZ m)) fv [LV.v (AV.agg [AV.imm x5_1_0, AV.imm x5_1_1]), LV.v (AV.agg [AV.imm x6_2_0, AV.imm x6_2_1])] h = some (LV.v (AV.bool x7_3), x7_3h) ∧ (some !x7_3) = some true ∧ some (LV.v (AV.bool false), x7_3h) = some ((LV.v (AV.bool false), x7_3h))) (by kernel_rfl) ⟨congrArg some k0, ⟨⟨rfl, ⟨rfl, k1⟩⟩, ⟨⟨rfl, ⟨rfl, k2⟩⟩, ⟨k3, ⟨congrArg some k4, rfl⟩⟩⟩⟩⟩

theorem s30_4_1 (m : Int) (xs ys : List (List AV)) (fv : AV) (n : Int) (i : Nat) (h : Heap) (x5_1_0 : List (List AV)) (x5_1_1 : List (List AV)) (x6_2_0 : List (List AV)) (x6_2_1 : List (List AV)) (x7_3 : Bool) (x7_3h : Heap) (r : LV × Heap) (k0 : ltZ (Int.ofNat i) n = true) (k1 : ixA (AV.imm xs) (Int.ofNat i) 2 = some [AV.imm x5_1_0, AV.imm x5_1_1]) (k2 : ixA (AV.imm ys) (Int.ofNat i) 2 = some [AV.imm x6_2_0, AV.imm x6_2_1]) (k3 : callV (cxZ m) (blk (cxZ m)) fv [LV.v (AV.agg [AV.imm x5_1_0, AV.imm x5_1_1]), LV.v (AV.agg [AV.imm x6_2_0, AV.imm x6_2_1])] h = some (LV.v (AV.bool x7_3), x7_3h)) (k4 : (!x7_3) = false) (k5 : (blk (cxZ m)) 23 (at_ Tryz.prog 23 4) [LV.v (AV.imm ys), LV.v fv, LV.v (AV.imm xs), LV.v (aI n), LV.v (aI (IntKind.wrap IntKind.i64 (Int.ofNat (Nat.succ i))))] x7_3h = some r) :
    blk (cxZ m) 23 (at_ Tryz.prog 23 4) [.v (.imm ys), .v fv, .v (.imm xs), .v (.int .i64 n), .v (.int .i64 (Int.ofNat i))] h = some r :=
  blk_via (scr := ⟨fun x => match x with | 18 => some true | 30 => some false | _ => none, fun x y => match x, y with | 5, 1 => some (LV.v (AV.snap [(AV.imm x5_1_0), (AV.imm x5_1_1)])) | 6, 2 => some (LV.v (AV.snap [(AV.imm x6_2_0), (AV.imm x6_2_1)])) | _, _ => none, fun x y => match x, y with | 7, 3 => some (LV.v (AV.bool x7_3), x7_3h) | _, _ => none, false⟩) (p := some (ltZ (Int.ofNat i) n) = some true ∧ (false = false ∧ (none : Option Nat) = none ∧ ixA (AV.imm xs) (Int.ofNat i) 2 = some [AV.imm x5_1_0, AV.imm x5_1_1]) ∧ (false = false ∧ (none : Option Nat) = none ∧ ixA (AV.imm ys) (Int.ofNat i) 2 = some [AV.imm x6_2_0, AV.imm x6_2_1]) ∧ callV (cxZ m) (blk (cxZ m)) fv [LV.v (AV.agg [AV.imm x5_1_0, AV.imm x5_1_1]), LV.v (AV.agg [AV.imm x6_2_0, AV.imm x6_2_1])] h = some (LV.v (AV.bool x7_3), x7_3h) ∧ (some !x7_3) = some false ∧ true = true ∧ (blk (cxZ m)) 23 (at_ Tryz.prog 23 4) [LV.v (AV.imm ys), LV.v fv, LV.v (AV.imm xs), LV.v (aI n), LV.v (aI (IntKind.wrap IntKind.i64 (Int.ofNat (Nat.succ i))))] x7_3h = some r) (by kernel_rfl) ⟨congrArg some k0, ⟨⟨rfl, ⟨rfl, k1⟩⟩, ⟨⟨rfl, ⟨rfl, k2⟩⟩, ⟨k3, ⟨congrArg some k4, ⟨rfl, k5⟩⟩⟩⟩⟩⟩

theorem s30_4_2 (m : Int) (xs ys : List (List AV)) (fv : AV) (n : Int) (i : Nat) (h : Heap) (k0 : ltZ (Int.ofNat i) n = false) :
    blk (cxZ m) 23 (at_ Tryz.prog 23 4) [.v (.imm ys), .v fv, .v (.imm xs), .v (.int .i64 n), .v (.int .i64 (Int.ofNat i))] h = some ((LV.v (AV.bool true), h)) :=
  blk_via (scr := ⟨fun x => match x with | 18 => some false | _ => none, fun _ _ => none, fun _ _ => none, false⟩) (p := some (ltZ (Int.ofNat i) n) = some false ∧ some (LV.v (AV.bool true), h) = some ((LV.v (AV.bool true), h))) (by kernel_rfl) ⟨congrArg some k0, rfl⟩

theorem s35_0 (m : Int) (xs ys : List (List AV)) (fv : AV) (h : Heap) (k0 : (!eqZ (Int.ofNat (List.length xs)) (Int.ofNat (List.length ys))) = true) :
    blk (cxZ m) 28 (body_ Tryz.prog 28) [.v (.imm xs), .v (.imm ys), .v fv] h = some ((LV.v (AV.bool false), h)) :=
  blk_via (scr := ⟨fun x => match x with | 14 => some true | _ => none, fun _ _ => none, fun _ _ => none, false⟩) (p := (some !eqZ (Int.ofNat (List.length xs)) (Int.ofNat (List.length ys))) = some true ∧ some (LV.v (AV.bool false), h) = some ((LV.v (AV.bool false), h))) (by kernel_rfl) ⟨congrArg some k0, rfl⟩

theorem s35_1 (m : Int) (xs ys : List (List AV)) (fv : AV) (h : Heap) (r : LV × Heap) (k0 : (!eqZ (Int.ofNat (List.length xs)) (Int.ofNat (List.length ys))) = false) (k1 : (blk (cxZ m)) 28 (at_ Tryz.prog 28 4) [LV.v (AV.imm ys), LV.v fv, LV.v (AV.imm xs), LV.v (aI (Int.ofNat (List.length xs))), LV.v (aI (Int.ofNat 0))] h = some r) :
    blk (cxZ m) 28 (body_ Tryz.prog 28) [.v (.imm xs), .v (.imm ys), .v fv] h = some r :=
  blk_via (scr := ⟨fun x => match x with | 14 => some false | _ => none, fun _ _ => none, fun _ _ => none, false⟩) (p := (some !eqZ (Int.ofNat (List.length xs)) (Int.ofNat (List.length ys))) = some false ∧ true = true ∧ (blk (cxZ m)) 28 (at_ Tryz.prog 28 4) [LV.v (AV.imm ys), LV.v fv, LV.v (AV.imm xs), LV.v (aI (Int.ofNat (List.length xs))), LV.v (aI (Int.ofNat 0))] h = some r) (by kernel_rfl) ⟨congrArg some k0, ⟨rfl, k1⟩⟩

theorem s35_4_0 (m : Int) (xs ys : List (List AV)) (fv : AV) (n : Int) (i : Nat) (h : Heap) (x5_1_0 : Int) (x5_1_1 : List (List AV)) (x5_1_2 : List (List AV)) (x6_2_0 : Int) (x6_2_1 : List (List AV)) (x6_2_2 : List (List AV)) (x7_3 : Bool) (x7_3h : Heap) (k0 : ltZ (Int.ofNat i) n = true) (k1 : ixA (AV.imm xs) (Int.ofNat i) 3 = some [aI x5_1_0, AV.imm x5_1_1, AV.imm x5_1_2]) (k2 : ixA (AV.imm ys) (Int.ofNat i) 3 = some [aI x6_2_0, AV.imm x6_2_1, AV.imm x6_2_2]) (k3 : callV (cxZ m) (blk (cxZ m)) fv [LV.v (AV.agg [aI x5_1_0, AV.imm x5_1_1, AV.imm x5_1_2]), LV.v (AV.agg [aI x6_2_0, AV.imm x6_2_1, AV.imm x6_2_2])] h = some (LV.v (AV.bool x7_3), x7_3h)) (k4 : (!x7_3) = true) :
    blk (cxZ m) 28 (at_ Tryz.prog 28 4) [.v (.imm ys), .v fv, .v (.imm xs), .v (.int .i64 n), .v (.int .i64 (Int.ofNat i))] h = some ((LV.v (AV.bool false), x7_3h)) :=
  blk_via (scr := ⟨fun x => match x with | 18 => some true | 30 => some true | _ => none, fun x y => match x, y with | 5, 1 => some (LV.v (AV.snap [(aI x5_1_0), (AV.imm x5_1_1), (AV.imm x5_1_2)])) | 6, 2 => some (LV.v (AV.snap [(aI x6_2_0), (AV.imm x6_2_1), (AV.imm x6_2_2)])) | _, _ => none, fun x y => match x, y with | 7, 3 => some (LV.v (AV.bool x7_3), x7_3h) | _, _ => none, false⟩) (p := some (ltZ (Int.ofNat i) n) = some true ∧ (false = false ∧ (none : Option Nat) = none ∧ ixA (AV.imm xs) (Int.ofNat i) 3 = some [aI x5_1_0, AV.imm x5_1_1, AV.imm x5_1_2]) ∧ (false = false ∧ (none : Option Nat) = none ∧ ixA (AV.imm ys) (Int.ofNat i) 3 = some [aI x6_2_0, AV.imm x6_2_1, AV.imm x6_2_2]) ∧ callV (cxZ m) (blk (cxZ m)) fv [LV.v (AV.agg [aI x5_1_0, AV.imm x5_1_1, AV.imm x5_1_2]), LV.v (AV.agg [aI x6_2_0, AV.imm x6_2_1, AV.imm x6_2_2])] h = some (LV.v (AV.bool x7_3), x7_3h) ∧ (some !x7_3) = some true ∧ some (LV.v (AV.bool false), x7_3h) = some ((LV.v (AV.bool false), x7_3h))) (by kernel_rfl) ⟨congrArg some k0, ⟨⟨rfl, ⟨rfl, k1⟩⟩, ⟨⟨rfl, ⟨rfl, k2⟩⟩, ⟨k3, ⟨congrArg some k4, rfl⟩⟩⟩⟩⟩

theorem s35_4_1 (m : Int) (xs ys : List (List AV)) (fv : AV) (n : Int) (i : Nat) (h : Heap) (x5_1_0 : Int) (x5_1_1 : List (List AV)) (x5_1_2 : List (List AV)) (x6_2_0 : Int) (x6_2_1 : List (List AV)) (x6_2_2 : List (List AV)) (x7_3 : Bool) (x7_3h : Heap) (r : LV × Heap) (k0 : ltZ (Int.ofNat i) n = true) (k1 : ixA (AV.imm xs) (Int.ofNat i) 3 = some [aI x5_1_0, AV.imm x5_1_1, AV.imm x5_1_2]) (k2 : ixA (AV.imm ys) (Int.ofNat i) 3 = some [aI x6_2_0, AV.imm x6_2_1, AV.imm x6_2_2]) (k3 : callV (cxZ m) (blk (cxZ m)) fv [LV.v (AV.agg [aI x5_1_0, AV.imm x5_1_1, AV.imm x5_1_2]), LV.v (AV.agg [aI x6_2_0, AV.imm x6_2_1, AV.imm x6_2_2])] h = some (LV.v (AV.bool x7_3), x7_3h)) (k4 : (!x7_3) = false) (k5 : (blk (cxZ m)) 28 (at_ Tryz.prog 28 4) [LV.v (AV.imm ys), LV.v fv, LV.v (AV.imm xs), LV.v (aI n), LV.v (aI (IntKind.wrap IntKind.i64 (Int.ofNat (Nat.succ i))))] x7_3h = some r) :
    blk (cxZ m) 28 (at_ Tryz.prog 28 4) [.v (.imm ys), .v fv, .v (.imm xs), .v (.int .i64 n), .v (.int .i64 (Int.ofNat i))] h = some r :=
  blk_via (scr := ⟨fun x => match x with | 18 => some true | 30 => some false | _ => none, fun x y => match x, y with | 5, 1 => some (LV.v (AV.snap [(aI x5_1_0), (AV.imm x5_1_1), (AV.imm x5_1_2)])) | 6, 2 => some (LV.v (AV.snap [(aI x6_2_0), (AV.imm x6_2_1), (AV.imm x6_2_2)])) | _, _ => none, fun x y => match x, y with | 7, 3 => some (LV.v (AV.bool x7_3), x7_3h) | _, _ => none, false⟩) (p := some (ltZ (Int.ofNat i) n) = some true ∧ (false = false ∧ (none : Option Nat) = none ∧ ixA (AV.imm xs) (Int.ofNat i) 3 = some [aI x5_1_0, AV.imm x5_1_1, AV.imm x5_1_2]) ∧ (false = false ∧ (none : Option Nat) = none ∧ ixA (AV.imm ys) (Int.ofNat i) 3 = some [aI x6_2_0, AV.imm x6_2_1, AV.imm x6_2_2]) ∧ callV (cxZ m) (blk (cxZ m)) fv [LV.v (AV.agg [aI x5_1_0, AV.imm x5_1_1, AV.imm x5_1_2]), LV.v (AV.agg [aI x6_2_0, AV.imm x6_2_1, AV.imm x6_2_2])] h = some (LV.v (AV.bool x7_3), x7_3h) ∧ (some !x7_3) = some false ∧ true = true ∧ (blk (cxZ m)) 28 (at_ Tryz.prog 28 4) [LV.v (AV.imm ys), LV.v fv, LV.v (AV.imm xs), LV.v (aI n), LV.v (aI (IntKind.wrap IntKind.i64 (Int.ofNat (Nat.succ i))))] x7_3h = some r) (by kernel_rfl) ⟨congrArg some k0, ⟨⟨rfl, ⟨rfl, k1⟩⟩, ⟨⟨rfl, ⟨rfl, k2⟩⟩, ⟨k3, ⟨congrArg some k4, ⟨rfl, k5⟩⟩⟩⟩⟩⟩

theorem s35_4_2 (m : Int) (xs ys : List (List AV)) (fv : AV) (n : Int) (i : Nat) (h : Heap) (k0 : ltZ (Int.ofNat i) n = false) :
    blk (cxZ m) 28 (at_ Tryz.prog 28 4) [.v (.imm ys), .v fv, .v (.imm xs), .v (.int .i64 n), .v (.int .i64 (Int.ofNat i))] h = some ((LV.v (AV.bool true), h)) :=
  blk_via (scr := ⟨fun x => match x with | 18 => some false | _ => none, fun _ _ => none, fun _ _ => none, false⟩) (p := some (ltZ (Int.ofNat i) n) = some false ∧ some (LV.v (AV.bool true), h) = some ((LV.v (AV.bool true), h))) (by kernel_rfl) ⟨congrArg some k0, rfl⟩

theorem s38_0 (m : Int) (xs ys : List (List AV)) (fv : AV) (h : Heap) (k0 : (!eqZ (Int.ofNat (List.length xs)) (Int.ofNat (List.length ys))) = true) :
    blk (cxZ m) 31 (body_ Tryz.prog 31) [.v (.imm xs), .v (.imm ys), .v fv] h = some ((LV.v (AV.bool false), h)) :=
  blk_via (scr := ⟨fun x => match x with | 14 => some true | _ => none, fun _ _ => none, fun _ _ => none, false⟩) (p := (some !eqZ (Int.ofNat (List.length xs)) (Int.ofNat (List.length ys))) = some true ∧ some (LV.v (AV.bool false), h) = some ((LV.v (AV.bool false), h))) (by kernel_rfl) ⟨congrArg some k0, rfl⟩

theorem s38_1 (m : Int) (xs ys : List (List AV)) (fv : AV) (h : Heap) (r : LV × Heap) (k0 : (!eqZ (Int.ofNat (List.length xs)) (Int.ofNat (List.length ys))) = false) (k1 : (blk (cxZ m)) 31 (at_ Tryz.prog 31 4) [LV.v (AV.imm ys), LV.v fv, LV.v (AV.imm xs), LV.v (aI (Int.ofNat (List.length xs))), LV.v (aI (Int.ofNat 0))] h = some r) :
    blk (cxZ m) 31 (body_ Tryz.prog 31) [.v (.imm xs), .v (.imm ys), .v fv] h = some r :=
  blk_via (scr := ⟨fun x => match x with | 14 => some false | _ => none, fun _ _ => none, fun _ _ => none, false⟩) (p := (some !eqZ (Int.ofNat (List.length xs)) (Int.ofNat (List.length ys))) = some false ∧ true = true ∧ (blk (cxZ m)) 31 (at_ Tryz.prog 31 4) [LV.v (AV.imm ys), LV.v fv, LV.v (AV.imm xs), LV.v (aI (Int.ofNat (List.length xs))), LV.v (aI (Int.ofNat 0))] h = some r) (by kernel_rfl) ⟨congrArg some k0, ⟨rfl, k1⟩⟩

theorem s38_4_0 (m : Int) (xs ys : List (List AV)) (fv : AV) (n : Int) (i : Nat) (h : Heap) (x5_1_0 : Int) (x5_1_1 : Int) (x5_1_2 : Int) (x5_1_3 : Int) (x5_1_4 : Int) (x5_1_5 : List (List AV)) (x5_1_6 : List (List AV)) (x5_1_7 : List (List AV)) (x5_1_8 : Bool) (x6_2_0 : Int) (x6_2_1 : Int) (x6_2_2 : Int) (x6_2_3 : Int) (x6_2_4 : Int) (x6_2_5 : List (List AV)) (x6_2_6 : List (List AV)) (x6_2_7 : List (List AV)) (x6_2_8 : Bool) (x7_3 : Bool) (x7_3h : Heap) (k0 : ltZ (Int.ofNat i) n = true) (k1 : ixA (AV.imm xs) (Int.ofNat i) 9 = some [aI x5_1_0, aI x5_1_1, aI x5_1_2, AV.int IntKind.u64 x5_1_3, aI x5_1_4, AV.imm x5_1_5, AV.imm x5_1_6, AV.imm x5_1_7, AV.bool x5_1_8]) (k2 : ixA (AV.imm ys) (Int.ofNat i) 9 = some [aI x6_2_0, aI x6_2_1, aI x6_2_2, AV.int IntKind.u64 x6_2_3, aI x6_2_4, AV.imm x6_2_5, AV.imm x6_2_6, AV.imm x6_2_7, AV.bool x6_2_8]) (k3 : callV (cxZ m) (blk (cxZ m)) fv [LV.v (AV.agg [aI x5_1_0, aI x5_1_1, aI x5_1_2, AV.int IntKind.u64 x5_1_3, aI x5_1_4, AV.imm x5_1_5, AV.imm x5_1_6, AV.imm x5_1_7, AV.bool x5_1_8]), LV.v (AV.agg [aI x6_2_0, aI x6_2_1, aI x6_2_2, AV.int IntKind.u64 x6_2_3, aI x6_2_4, AV.imm x6_2_5, AV.imm x6_2_6, AV.imm x6_2_7, AV.bool x6_2_8])] h = some (LV.v (AV.bool x7_3), x7_3h)) (k4 : (!x7_3) = true) :
    blk (cxZ m) 31 (at_ Tryz.prog 31 4) [.v (.imm ys), .v fv, .v (.imm xs), .v (.int .i64 n), .v (.int .i64 (Int.ofNat i))] h = some ((LV.v (AV.bool false), x7_3h)) :=
  blk_via (scr := ⟨fun x => match x with | 18 => some true | 30 => some true | _ => none, fun x y => match x, y with | 5, 1 => some (LV.v (AV.snap [(aI x5_1_0), (aI x5_1_1), (aI x5_1_2), (AV.int Go.IntKind.u64 x5_1_3), (aI x5_1_4), (AV.imm x5_1_5), (AV.imm x5_1_6), (AV.imm x5_1_7), (AV.bool x5_1_8)])) | 6, 2 => some (LV.v (AV.snap [(aI x6_2_0), (aI x6_2_1), (aI x6_2_2), (AV.int Go.IntKind.u64 x6_2_3), (aI x6_2_4), (AV.imm x6_2_5), (AV.imm x6_2_6), (AV.imm x6_2_7), (AV.bool x6_2_8)])) | _, _ => none, fun x y => match x, y with | 7, 3 => some (LV.v (AV.bool x7_3), x7_3h) | _, _ => none, false⟩) (p := some (ltZ (Int.ofNat i) n) = some true ∧ (false = false ∧ (none : Option Nat) = none ∧ ixA (AV.imm xs) (Int.ofNat i) 9 = some [aI x5_1_0, aI x5_1_1, aI x5_1_2, AV.int IntKind.u64 x5_1_3, aI x5_1_4, AV.imm x5_1_5, AV.imm x5_1_6, AV.imm x5_1_7, AV.bool x5_1_8]) ∧ (false = false ∧ (none : Option Nat) = none ∧ ixA (AV.imm ys) (Int.ofNat i) 9 = some [aI x6_2_0, aI x6_2_1, aI x6_2_2, AV.int IntKind.u64 x6_2_3, aI x6_2_4, AV.imm x6_2_5, AV.imm x6_2_6, AV.imm x6_2_7, AV.bool x6_2_8]) ∧ callV (cxZ m) (blk (cxZ m)) fv [LV.v (AV.agg [aI x5_1_0, aI x5_1_1, aI x5_1_2, AV.int IntKind.u64 x5_1_3, aI x5_1_4, AV.imm x5_1_5, AV.imm x5_1_6, AV.imm x5_1_7, AV.bool x5_1_8]), LV.v (AV.agg [aI x6_2_0, aI x6_2_1, aI x6_2_2, AV.int IntKind.u64 x6_2_3, aI x6_2_4, AV.imm x6_2_5, AV.imm x6_2_6, AV.imm x6_2_7, AV.bool x6_2_8])] h = some (LV.v (AV.bool x7_3), x7_3h) ∧ (some !x7_3) = some true ∧ some (LV.v (AV.bool false), x7_3h) = some ((LV.v (AV.bool false), x7_3h))) (by kernel_rfl) ⟨congrArg some k0, ⟨⟨rfl, ⟨rfl, k1⟩⟩, ⟨⟨rfl, ⟨rfl, k2⟩⟩, ⟨k3, ⟨congrArg some k4, rfl⟩⟩⟩⟩⟩

theorem s38_4_1 (m : Int) (xs ys : List (List AV)) (fv : AV) (n : Int) (i : Nat) (h : Heap) (x5_1_0 : Int) (x5_1_1 : Int) (x5_1_2 : Int) (x5_1_3 : Int) (x5_1_4 : Int) (x5_1_5 : List (List AV)) (x5_1_6 : List (List AV)) (x5_1_7 : List (List AV)) (x5_1_8 : Bool) (x6_2_0 : Int) (x6_2_1 : Int) (x6_2_2 : Int) (x6_2_3 : Int) (x6_2_4 : Int) (x6_2_5 : List (List AV)) (x6_2_6 : List (List AV)) (x6_2_7 : List (List AV)) (x6_2_8 : Bool) (x7_3 : Bool) (x7_3h : Heap) (r : LV × Heap) (k0 : ltZ (Int.ofNat i) n = true) (k1 : ixA (AV.imm xs) (Int.ofNat i) 9 = some [aI x5_1_0, aI x5_1_1, aI x5_1_2, AV.int IntKind.u64 x5_1_3, aI x5_1_4, AV.imm x5_1_5, AV.imm x5_1_6, AV.imm x5_1_7, AV.bool x5_1_8]) (k2 : ixA (AV.imm ys) (Int.ofNat i) 9 = some [aI x6_2_0, aI x6_2_1, aI x6_2_2, AV.int IntKind.u64 x6_2_3, aI x6_2_4, AV.imm x6_2_5, AV.imm x6_2_6, AV.imm x6_2_7, AV.bool x6_2_8]) (k3 : callV (cxZ m) (blk (cxZ m)) fv [LV.v (AV.agg [aI x5_1_0, aI x5_1_1, aI x5_1_2, AV.int IntKind.u64 x5_1_3, aI x5_1_4, AV.imm x5_1_5, AV.imm x5_1_6, AV.imm x5_1_7, AV.bool x5_1_8]), LV.v (AV.agg [aI x6_2_0, aI x6_2_1, aI x6_2_2, AV.int IntKind.u64 x6_2_3, aI x6_2_4, AV.imm x6_2_5, AV.imm x6_2_6, AV.imm x6_2_7, AV.bool x6_2_8])] h = some (LV.v (AV.bool x7_3), x7_3h)) (k4 : (!x7_3) = false) (k5 : (blk (cxZ m)) 31 (at_ Tryz.prog 31 4) [LV.v (AV.imm ys), LV.v fv, LV.v (AV.imm xs), LV.v (aI n), LV.v (aI (IntKind.wrap IntKind.i64 (Int.ofNat (Nat.succ i))))] x7_3h = some r) :
    blk (cxZ m) 31 (at_ Tryz.prog 31 4) [.v (.imm ys), .v fv, .v (.imm xs), .v (.int .i64 n), .v (.int .i64 (Int.ofNat i))] h = some r :=
  blk_via (scr := ⟨fun x => match x with | 18 => some true | 30 => some false | _ => none, fun x y => match x, y with | 5, 1 => some (LV.v (AV.snap [(aI x5_1_0), (aI x5_1_1), (aI x5_1_2), (AV.int Go.IntKind.u64 x5_1_3), (aI x5_1_4), (AV.imm x5_1_5), (AV.imm x5_1_6), (AV.imm x5_1_7), (AV.bool x5_1_8)])) | 6, 2 => some (LV.v (AV.snap [(aI x6_2_0), (aI x6_2_1), (aI x6_2_2), (AV.int Go.IntKind.u64 x6_2_3), (aI x6_2_4), (AV.imm x6_2_5), (AV.imm x6_2_6), (AV.imm x6_2_7), (AV.bool x6_2_8)])) | _, _ => none, fun x y => match x, y with | 7, 3 => some (LV.v (AV.bool x7_3), x7_3h) | _, _ => none, false⟩) (p := some (ltZ (Int.ofNat i) n) = some true ∧ (false = false ∧ (none : Option Nat) = none ∧ ixA (AV.imm xs) (Int.ofNat i) 9 = some [aI x5_1_0, aI x5_1_1, aI x5_1_2, AV.int IntKind.u64 x5_1_3, aI x5_1_4, AV.imm x5_1_5, AV.imm x5_1_6, AV.imm x5_1_7, AV.bool x5_1_8]) ∧ (false = false ∧ (none : Option Nat) = none ∧ ixA (AV.imm ys) (Int.ofNat i) 9 = some [aI x6_2_0, aI x6_2_1, aI x6_2_2, AV.int IntKind.u64 x6_2_3, aI x6_2_4, AV.imm x6_2_5, AV.imm x6_2_6, AV.imm x6_2_7, AV.bool x6_2_8]) ∧ callV (cxZ m) (blk (cxZ m)) fv [LV.v (AV.agg [aI x5_1_0, aI x5_1_1, aI x5_1_2, AV.int IntKind.u64 x5_1_3, aI x5_1_4, AV.imm x5_1_5, AV.imm x5_1_6, AV.imm x5_1_7, AV.bool x5_1_8]), LV.v (AV.agg [aI x6_2_0, aI x6_2_1, aI x6_2_2, AV.int IntKind.u64 x6_2_3, aI x6_2_4, AV.imm x6_2_5, AV.imm x6_2_6, AV.imm x6_2_7, AV.bool x6_2_8])] h = some (LV.v (AV.bool x7_3), x7_3h) ∧ (some !x7_3) = some false ∧ true = true ∧ (blk (cxZ m)) 31 (at_ Tryz.prog 31 4) [LV.v (AV.imm ys), LV.v fv, LV.v (AV.imm xs), LV.v (aI n), LV.v (aI (IntKind.wrap IntKind.i64 (Int.ofNat (Nat.succ i))))] x7_3h = some r) (by kernel_rfl) ⟨congrArg some k0, ⟨⟨rfl, ⟨rfl, k1⟩⟩, ⟨⟨rfl, ⟨rfl, k2⟩⟩, ⟨k3, ⟨congrArg some k4, ⟨rfl, k5⟩⟩⟩⟩⟩⟩

theorem s38_4_2 (m : Int) (xs ys : List (List AV)) (fv : AV) (n : Int) (i : Nat) (h : Heap) (k0 : ltZ (Int.ofNat i) n = false) :
    blk (cxZ m) 31 (at_ Tryz.prog 31 4) [.v (.imm ys), .v fv, .v (.imm xs), .v (.int .i64 n), .v (.int .i64 (Int.ofNat i))] h = some ((LV.v (AV.bool true), h)) :=
  blk_via (scr := ⟨fun x => match x with | 18 => some false | _ => none, fun _ _ => none, fun _ _ => none, false⟩) (p := some (ltZ (Int.ofNat i) n) = some false ∧ some (LV.v (AV.bool true), h) = some ((LV.v (AV.bool true), h))) (by kernel_rfl) ⟨congrArg some k0, rfl⟩

theorem s40_0 (m : Int) (xs ys : List (List AV)) (fv : AV) (h : Heap) (k0 : (!eqZ (Int.ofNat (List.length xs)) (Int.ofNat (List.length ys))) = true) :
    blk (cxZ m) 33 (body_ Tryz.prog 33) [.v (.imm xs), .v (.imm ys), .v fv] h = some ((LV.v (AV.bool false), h)) :=
  blk_via (scr := ⟨fun x => match x with | 14 => some true | _ => none, fun _ _ => none, fun _ _ => none, false⟩) (p := (some !eqZ (Int.ofNat (List.length xs)) (Int.ofNat (List.length ys))) = some true ∧ some (LV.v (AV.bool false), h) = some ((LV.v (AV.bool false), h))) (by kernel_rfl) ⟨congrArg some k0, rfl⟩

theorem s40_1 (m : Int) (xs ys : List (List AV)) (fv : AV) (h : Heap) (r : LV × Heap) (k0 : (!eqZ (Int.ofNat (List.length xs)) (Int.ofNat (List.length ys))) = false) (k1 : (blk (cxZ m)) 33 (at_ Tryz.prog 33 4) [LV.v (AV.imm ys), LV.v fv, LV.v (AV.imm xs), LV.v (aI (Int.ofNat (List.length xs))), LV.v (aI (Int.ofNat 0))] h = some r) :
    blk (cxZ m) 33 (body_ Tryz.prog 33) [.v (.imm xs), .v (.imm ys), .v fv] h = some r :=
  blk_via (scr := ⟨fun x => match x with | 14 => some false | _ => none, fun _ _ => none, fun _ _ => none, false⟩) (p := (some !eqZ (Int.ofNat (List.length xs)) (Int.ofNat (List.length ys))) = some false ∧ true = true ∧ (blk (cxZ m)) 33 (at_ Tryz.prog 33 4) [LV.v (AV.imm ys), LV.v fv, LV.v (AV.imm xs), LV.v (aI (Int.ofNat (List.length xs))), LV.v (aI (Int.ofNat 0))] h = some r) (by kernel_rfl) ⟨congrArg some k0, ⟨rfl, k1⟩⟩

theorem s40_4_0 (m : Int) (xs ys : List (List AV)) (fv : AV) (n : Int) (i : Nat) (h : Heap) (x5_1_0 : Int) (x5_1_1 : Bool) (x5_1_2 : Int) (x5_1_3 : Int) (x5_1_4 : Int) (x5_1_5 : Int) (x5_1_6 : Int) (x5_1_7 : List (List AV)) (x5_1_8 : List (List AV)) (x5_1_9 : List (List AV)) (x5_1_10 : Bool) (x6_2_0 : Int) (x6_2_1 : Bool) (x6_2_2 : Int) (x6_2_3 : Int) (x6_2_4 : Int) (x6_2_5 : Int) (x6_2_6 : Int) (x6_2_7 : List (List AV)) (x6_2_8 : List (List AV)) (x6_2_9 : List (List AV)) (x6_2_10 : Bool) (x7_3 : Bool) (x7_3h : Heap) (k0 : ltZ (Int.ofNat i) n = true) (k1 : ixA (AV.imm xs) (Int.ofNat i) 11 = some [aI x5_1_0, AV.bool x5_1_1, aI x5_1_2, aI x5_1_3, aI x5_1_4, AV.int IntKind.u64 x5_1_5, aI x5_1_6, AV.imm x5_1_7, AV.imm x5_1_8, AV.imm x5_1_9, AV.bool x5_1_10]) (k2 : ixA (AV.imm ys) (Int.ofNat i) 11 = some [aI x6_2_0, AV.bool x6_2_1, aI x6_2_2, aI x6_2_3, aI x6_2_4, AV.int IntKind.u64 x6_2_5, aI x6_2_6, AV.imm x6_2_7, AV.imm x6_2_8, AV.imm x6_2_9, AV.bool x6_2_10]) (k3 : callV (cxZ m) (blk (cxZ m)) fv [LV.v (AV.agg [aI x5_1_0, AV.bool x5_1_1, aI x5_1_2, aI x5_1_3, aI x5_1_4, AV.int IntKind.u64 x5_1_5, aI x5_1_6, AV.imm x5_1_7, AV.imm x5_1_8, AV.imm x5_1_9, AV.bool x5_1_10]), LV.v (AV.agg [aI x6_2_0, AV.bool x6_2_1, aI x6_2_2, aI x6_2_3, aI x6_2_4, AV.int IntKind.u64 x6_2_5, aI x6_2_6, AV.imm x6_2_7, AV.imm x6_2_8, AV.imm x6_2_9, AV.bool x6_2_10])] h = some (LV.v (AV.bool x7_3), x7_3h)) (k4 : (!x7_3) = true) :
    blk (cxZ m) 33 (at_ Tryz.prog 33 4) [.v (.imm ys), .v fv, .v (.imm xs), .v (.int .i64 n), .v (.int .i64 (Int.ofNat i))] h = some ((LV.v (AV.bool false), x7_3h)) :=
  blk_via (scr := ⟨fun x => match x with | 18 => some true | 30 => some true | _ => none, fun x y => match x, y with | 5, 1 => some (LV.v (AV.snap [(aI x5_1_0), (AV.bool x5_1_1), (aI x5_1_2), (aI x5_1_3), (aI x5_1_4), (AV.int Go.IntKind.u64 x5_1_5), (aI x5_1_6), (AV.imm x5_1_7), (AV.imm x5_1_8), (AV.imm x5_1_9), (AV.bool x5_1_10)])) | 6, 2 => some (LV.v (AV.snap [(aI x6_2_0), (AV.bool x6_2_1), (aI x6_2_2), (aI x6_2_3), (aI x6_2_4), (AV.int Go.IntKind.u64 x6_2_5), (aI x6_2_6), (AV.imm x6_2_7), (AV.imm x6_2_8), (AV.imm x6_2_9), (AV.bool x6_2_10)])) | _, _ => none, fun x y => match x, y with | 7, 3 => some (LV.v (AV.bool x7_3), x7_3h) | _, _ => none, false⟩) (p := some (ltZ (Int.ofNat i) n) = some true ∧ (false = false ∧ (none : Option Nat) = none ∧ ixA (AV.imm xs) (Int.ofNat i) 11 = some [aI x5_1_0, AV.bool x5_1_1, aI x5_1_2, aI x5_1_3, aI x5_1_4, AV.int IntKind.u64 x5_1_5, aI x5_1_6, AV.imm x5_1_7, AV.imm x5_1_8, AV.imm x5_1_9, AV.bool x5_1_10]) ∧ (false = false ∧ (none : Option Nat) = none ∧ ixA (AV.imm ys) (Int.ofNat i) 11 = some [aI x6_2_0, AV.bool x6_2_1, aI x6_2_2, aI x6_2_3, aI x6_2_4, AV.int IntKind.u64 x6_2_5, aI x6_2_6, AV.imm x6_2_7, AV.imm x6_2_8, AV.imm x6_2_9, AV.bool x6_2_10]) ∧ callV (cxZ m) (blk (cxZ m)) fv [LV.v (AV.agg [aI x5_1_0, AV.bool x5_1_1, aI x5_1_2, aI x5_1_3, aI x5_1_4, AV.int IntKind.u64 x5_1_5, aI x5_1_6, AV.imm x5_1_7, AV.imm x5_1_8, AV.imm x5_1_9, AV.bool x5_1_10]), LV.v (AV.agg [aI x6_2_0, AV.bool x6_2_1, aI x6_2_2, aI x6_2_3, aI x6_2_4, AV.int IntKind.u64 x6_2_5, aI x6_2_6, AV.imm x6_2_7, AV.imm x6_2_8, AV.imm x6_2_9, AV.bool x6_2_10])] h = some (LV.v (AV.bool x7_3), x7_3h) ∧ (some !x7_3) = some true ∧ some (LV.v (AV.bool false), x7_3h) = some ((LV.v (AV.bool false), x7_3h))) (by kernel_rfl) ⟨congrArg some k0, ⟨⟨rfl, ⟨rfl, k1⟩⟩, ⟨⟨rfl, ⟨rfl, k2⟩⟩, ⟨k3, ⟨congrArg some k4, rfl⟩⟩⟩⟩⟩

theorem s40_4_1 (m : Int) (xs ys : List (List AV)) (fv : AV) (n : Int) (i : Nat) (h : Heap) (x5_1_0 : Int) (x5_1_1 : Bool) (x5_1_2 : Int) (x5_1_3 : Int) (x5_1_4 : Int) (x5_1_5 : Int) (x5_1_6 : Int) (x5_1_7 : List (List AV)) (x5_1_8 : List (List AV)) (x5_1_9 : List (List AV)) (x5_1_10 : Bool) (x6_2_0 : Int) (x6_2_1 : Bool) (x6_2_2 : Int) (x6_2_3 : Int) (x6_2_4 : Int) (x6_2_5 : Int) (x6_2_6 : Int) (x6_2_7 : List (List AV)) (x6_2_8 : List (List AV)) (x6_2_9 : List (List AV)) (x6_2_10 : Bool) (x7_3 : Bool) (x7_3h : Heap) (r : LV × Heap) (k0 : ltZ (Int.ofNat i) n = true) (k1 : ixA (AV.imm xs) (Int.ofNat i) 11 = some [aI x5_1_0, AV.bool x5_1_1, aI x5_1_2, aI x5_1_3, aI x5_1_4, AV.int IntKind.u64 x5_1_5, aI x5_1_6, AV.imm x5_1_7, AV.imm x5_1_8, AV.imm x5_1_9, AV.bool x5_1_10]) (k2 : ixA (AV.imm ys) (Int.ofNat i) 11 = some [aI x6_2_0, AV.bool x6_2_1, aI x6_2_2, aI x6_2_3, aI x6_2_4, AV.int IntKind.u64 x6_2_5, aI x6_2_6, AV.imm x6_2_7, AV.imm x6_2_8, AV.imm x6_2_9, AV.bool x6_2_10]) (k3 : callV (cxZ m) (blk (cxZ m)) fv [LV.v (AV.agg [aI x5_1_0, AV.bool x5_1_1, aI x5_1_2, aI x5_1_3, aI x5_1_4, AV.int IntKind.u64 x5_1_5, aI x5_1_6, AV.imm x5_1_7, AV.imm x5_1_8, AV.imm x5_1_9, AV.bool x5_1_10]), LV.v (AV.agg [aI x6_2_0, AV.bool x6_2_1, aI x6_2_2, aI x6_2_3, aI x6_2_4, AV.int IntKind.u64 x6_2_5, aI x6_2_6, AV.imm x6_2_7, AV.imm x6_2_8, AV.imm x6_2_9, AV.bool x6_2_10])] h = some (LV.v (AV.bool x7_3), x7_3h)) (k4 : (!x7_3) = false) (k5 : (blk (cxZ m)) 33 (at_ Tryz.prog 33 4) [LV.v (AV.imm ys), LV.v fv, LV.v (AV.imm xs), LV.v (aI n), LV.v (aI (IntKind.wrap IntKind.i64 (Int.ofNat (Nat.succ i))))] x7_3h = some r) :
    blk (cxZ m) 33 (at_ Tryz.prog 33 4) [.v (.imm ys), .v fv, .v (.imm xs), .v (.int .i64 n), .v (.int .i64 (Int.ofNat i))] h = some r :=
  blk_via (scr := ⟨fun x => match x with | 18 => some true | 30 => some false | _ => none, fun x y => match x, y with | 5, 1 => some (LV.v (AV.snap [(aI x5_1_0), (AV.bool x5_1_1), (aI x5_1_2), (aI x5_1_3), (aI x5_1_4), (AV.int Go.IntKind.u64 x5_1_5), (aI x5_1_6), (AV.imm x5_1_7), (AV.imm x5_1_8), (AV.imm x5_1_9), (AV.bool x5_1_10)])) | 6, 2 => some (LV.v (AV.snap [(aI x6_2_0), (AV.bool x6_2_1), (aI x6_2_2), (aI x6_2_3), (aI x6_2_4), (AV.int Go.IntKind.u64 x6_2_5), (aI x6_2_6), (AV.imm x6_2_7), (AV.imm x6_2_8), (AV.imm x6_2_9), (AV.bool x6_2_10)])) | _, _ => none, fun x y => match x, y with | 7, 3 => some (LV.v (AV.bool x7_3), x7_3h) | _, _ => none, false⟩) (p := some (ltZ (Int.ofNat i) n) = some true ∧ (false = false ∧ (none : Option Nat) = none ∧ ixA (AV.imm xs) (Int.ofNat i) 11 = some [aI x5_1_0, AV.bool x5_1_1, aI x5_1_2, aI x5_1_3, aI x5_1_4, AV.int IntKind.u64 x5_1_5, aI x5_1_6, AV.imm x5_1_7, AV.imm x5_1_8, AV.imm x5_1_9, AV.bool x5_1_10]) ∧ (false = false ∧ (none : Option Nat) = none ∧ ixA (AV.imm ys) (Int.ofNat i) 11 = some [aI x6_2_0, AV.bool x6_2_1, aI x6_2_2, aI x6_2_3, aI x6_2_4, AV.int IntKind.u64 x6_2_5, aI x6_2_6, AV.imm x6_2_7, AV.imm x6_2_8, AV.imm x6_2_9, AV.bool x6_2_10]) ∧ callV (cxZ m) (blk (cxZ m)) fv [LV.v (AV.agg [aI x5_1_0, AV.bool x5_1_1, aI x5_1_2, aI x5_1_3, aI x5_1_4, AV.int IntKind.u64 x5_1_5, aI x5_1_6, AV.imm x5_1_7, AV.imm x5_1_8, AV.imm x5_1_9, AV.bool x5_1_10]), LV.v (AV.agg [aI x6_2_0, AV.bool x6_2_1, aI x6_2_2, aI x6_2_3, aI x6_2_4, AV.int IntKind.u64 x6_2_5, aI x6_2_6, AV.imm x6_2_7, AV.imm x6_2_8, AV.imm x6_2_9, AV.bool x6_2_10])] h = some (LV.v (AV.bool x7_3), x7_3h) ∧ (some !x7_3) = some false ∧ true = true ∧ (blk (cxZ m)) 33 (at_ Tryz.prog 33 4) [LV.v (AV.imm ys), LV.v fv, LV.v (AV.imm xs), LV.v (aI n), LV.v (aI (IntKind.wrap IntKind.i64 (Int.ofNat (Nat.succ i))))] x7_3h = some r) (by kernel_rfl) ⟨congrArg some k0, ⟨⟨rfl, ⟨rfl, k1⟩⟩, ⟨⟨rfl, ⟨rfl, k2⟩⟩, ⟨k3, ⟨congrArg some k4, ⟨rfl, k5⟩⟩⟩⟩⟩⟩

theorem s40_4_2 (m : Int) (xs ys : List (List AV)) (fv : AV) (n : Int) (i : Nat) (h : Heap) (k0 : ltZ (Int.ofNat i) n = false) :
    blk (cxZ m) 33 (at_ Tryz.prog 33 4) [.v (.imm ys), .v fv, .v (.imm xs), .v (.int .i64 n), .v (.int .i64 (Int.ofNat i))] h = some ((LV.v (AV.bool true), h)) :=
  blk_via (scr := ⟨fun x => match x with | 18 => some false | _ => none, fun _ _ => none, fun _ _ => none, false⟩) (p := some (ltZ (Int.ofNat i) n) = some false ∧ some (LV.v (AV.bool true), h) = some ((LV.v (AV.bool true), h))) (by kernel_rfl) ⟨congrArg some k0, rfl⟩

theorem s42_0 (m : Int) (xs ys : List (List AV)) (fv : AV) (h : Heap) (k0 : (!eqZ (Int.ofNat (List.length xs)) (Int.ofNat (List.length ys))) = true) :
    blk (cxZ m) 35 (body_ Tryz.prog 35) [.v (.imm xs), .v (.imm ys), .v fv] h = some ((LV.v (AV.bool false), h)) :=
  blk_via (scr := ⟨fun x => match x with | 14 => some true | _ => none, fun _ _ => none, fun _ _ => none, false⟩) (p := (some !eqZ (Int.ofNat (List.length xs)) (Int.ofNat (List.length ys))) = some true ∧ some (LV.v (AV.bool false), h) = some ((LV.v (AV.bool false), h))) (by kernel_rfl) ⟨congrArg some k0, rfl⟩

theorem s42_1 (m : Int) (xs ys : List (List AV)) (fv : AV) (h : Heap) (r : LV × Heap) (k0 : (!eqZ (Int.ofNat (List.length xs)) (Int.ofNat (List.length ys))) = false) (k1 : (blk (cxZ m)) 35 (at_ Tryz.prog 35 4) [LV.v (AV.imm ys), LV.v fv, LV.v (AV.imm xs), LV.v (aI (Int.ofNat (List.length xs))), LV.v (aI (Int.ofNat 0))] h = some r) :
    blk (cxZ m) 35 (body_ Tryz.prog 35) [.v (.imm xs), .v (.imm ys), .v fv] h = some r :=
  blk_via (scr := ⟨fun x => match x with | 14 => some false | _ => none, fun _ _ => none, fun _ _ => none, false⟩) (p := (some !eqZ (Int.ofNat (List.length xs)) (Int.ofNat (List.length ys))) = some false ∧ true = true ∧ (blk (cxZ m)) 35 (at_ Tryz.prog 35 4) [LV.v (AV.imm ys), LV.v fv, LV.v (AV.imm xs), LV.v (aI (Int.ofNat (List.length xs))), LV.v (aI (Int.ofNat 0))] h = some r) (by kernel_rfl) ⟨congrArg some k0, ⟨rfl, k1⟩⟩

theorem s42_4_0 (m : Int) (xs ys : List (List AV)) (fv : AV) (n : Int) (i : Nat) (h : Heap) (x5_1_0 : Int) (x5_1_1 : Int) (x5_1_2 : Int) (x5_1_3 : Int) (x5_1_4 : Int) (x5_1_5 : List (List AV)) (x5_1_6 : List (List AV)) (x5_1_7 : List (List AV)) (x5_1_8 : Bool) (x5_1_9 : List (List AV)) (x6_2_0 : Int) (x6_2_1 : Int) (x6_2_2 : Int) (x6_2_3 : Int) (x6_2_4 : Int) (x6_2_5 : List (List AV)) (x6_2_6 : List (List AV)) (x6_2_7 : List (List AV)) (x6_2_8 : Bool) (x6_2_9 : List (List AV)) (x7_3 : Bool) (x7_3h : Heap) (k0 : ltZ (Int.ofNat i) n = true) (k1 : ixA (AV.imm xs) (Int.ofNat i) 10 = some [aI x5_1_0, aI x5_1_1, aI x5_1_2, AV.int IntKind.u64 x5_1_3, aI x5_1_4, AV.imm x5_1_5, AV.imm x5_1_6, AV.imm x5_1_7, AV.bool x5_1_8, AV.imm x5_1_9]) (k2 : ixA (AV.imm ys) (Int.ofNat i) 10 = some [aI x6_2_0, aI x6_2_1, aI x6_2_2, AV.int IntKind.u64 x6_2_3, aI x6_2_4, AV.imm x6_2_5, AV.imm x6_2_6, AV.imm x6_2_7, AV.bool x6_2_8, AV.imm x6_2_9]) (k3 : callV (cxZ m) (blk (cxZ m)) fv [LV.v (AV.agg [aI x5_1_0, aI x5_1_1, aI x5_1_2, AV.int IntKind.u64 x5_1_3, aI x5_1_4, AV.imm x5_1_5, AV.imm x5_1_6, AV.imm x5_1_7, AV.bool x5_1_8, AV.imm x5_1_9]), LV.v (AV.agg [aI x6_2_0, aI x6_2_1, aI x6_2_2, AV.int IntKind.u64 x6_2_3, aI x6_2_4, AV.imm x6_2_5, AV.imm x6_2_6, AV.imm x6_2_7, AV.bool x6_2_8, AV.imm x6_2_9])] h = some (LV.v (AV.bool x7_3), x7_3h)) (k4 : (!x7_3) = true) :
    blk (cxZ m) 35 (at_ Tryz.prog 35 4) [.v (.imm ys), .v fv, .v (.imm xs), .v (.int .i64 n), .v (.int .i64 (Int.ofNat i))] h = some ((LV.v (AV.bool false), x7_3h)) :=
  blk_via (scr := ⟨fun x => match x with | 18 => some true | 30 => some true | _ => none, fun x y => match x, y with | 5, 1 => some (LV.v (AV.snap [(aI x5_1_0), (aI x5_1_1), (aI x5_1_2), (AV.int Go.IntKind.u64 x5_1_3), (aI x5_1_4), (AV.imm x5_1_5), (AV.imm x5_1_6), (AV.imm x5_1_7), (AV.bool x5_1_8), (AV.imm x5_1_9)])) | 6, 2 => some (LV.v (AV.snap [(aI x6_2_0), (aI x6_2_1), (aI x6_2_2), (AV.int Go.IntKind.u64 x6_2_3), (aI x6_2_4), (AV.imm x6_2_5), (AV.imm x6_2_6), (AV.imm x6_2_7), (AV.bool x6_2_8), (AV.imm x6_2_9)])) | _, _ => none, fun x y => match x, y with | 7, 3 => some (LV.v (AV.bool x7_3), x7_3h) | _, _ => none, false⟩) (p := some (ltZ (Int.ofNat i) n) = some true ∧ (false = false ∧ (none : Option Nat) = none ∧ ixA (AV.imm xs) (Int.ofNat i) 10 = some [aI x5_1_0, aI x5_1_1, aI x5_1_2, AV.int IntKind.u64 x5_1_3, aI x5_1_4, AV.imm x5_1_5, AV.imm x5_1_6, AV.imm x5_1_7, AV.bool x5_1_8, AV.imm x5_1_9]) ∧ (false = false ∧ (none : Option Nat) = none ∧ ixA (AV.imm ys) (Int.ofNat i) 10 = some [aI x6_2_0, aI x6_2_1, aI x6_2_2, AV.int IntKind.u64 x6_2_3, aI x6_2_4, AV.imm x6_2_5, AV.imm x6_2_6, AV.imm x6_2_7, AV.bool x6_2_8, AV.imm x6_2_9]) ∧ callV (cxZ m) (blk (cxZ m)) fv [LV.v (AV.agg [aI x5_1_0, aI x5_1_1, aI x5_1_2, AV.int IntKind.u64 x5_1_3, aI x5_1_4, AV.imm x5_1_5, AV.imm x5_1_6, AV.imm x5_1_7, AV.bool x5_1_8, AV.imm x5_1_9]), LV.v (AV.agg [aI x6_2_0, aI x6_2_1, aI x6_2_2, AV.int IntKind.u64 x6_2_3, aI x6_2_4, AV.imm x6_2_5, AV.imm x6_2_6, AV.imm x6_2_7, AV.bool x6_2_8, AV.imm x6_2_9])] h = some (LV.v (AV.bool x7_3), x7_3h) ∧ (some !x7_3) = some true ∧ some (LV.v (AV.bool false), x7_3h) = some ((LV.v (AV.bool false), x7_3h))) (by kernel_rfl) ⟨congrArg some k0, ⟨⟨rfl, ⟨rfl, k1⟩⟩, ⟨⟨rfl, ⟨rfl, k2⟩⟩, ⟨k3, ⟨congrArg some k4, rfl⟩⟩⟩⟩⟩

theorem s42_4_1 (m : Int) (xs ys : List (List AV)) (fv : AV) (n : Int) (i : Nat) (h : Heap) (x5_1_0 : Int) (x5_1_1 : Int) (x5_1_2 : Int) (x5_1_3 : Int) (x5_1_4 : Int) (x5_1_5 : List (List AV)) (x5_1_6 : List (List AV)) (x5_1_7 : List (List AV)) (x5_1_8 : Bool) (x5_1_9 : List (List AV)) (x6_2_0 : Int) (x6_2_1 : Int) (x6_2_2 : Int) (x6_2_3 : Int) (x6_2_4 : Int) (x6_2_5 : List (List AV)) (x6_2_6 : List (List AV)) (x6_2_7 : List (List AV)) (x6_2_8 : Bool) (x6_2_9 : List (List AV)) (x7_3 : Bool) (x7_3h : Heap) (r : LV × Heap) (k0 : ltZ (Int.ofNat i) n = true) (k1 : ixA (AV.imm xs) (Int.ofNat i) 10 = some [aI x5_1_0, aI x5_1_1, aI x5_1_2, AV.int IntKind.u64 x5_1_3, aI x5_1_4, AV.imm x5_1_5, AV.imm x5_1_6, AV.imm x5_1_7, AV.bool x5_1_8, AV.imm x5_1_9]) (k2 : ixA (AV.imm ys) (Int.ofNat i) 10 = some [aI x6_2_0, aI x6_2_1, aI x6_2_2, AV.int IntKind.u64 x6_2_3, aI x6_2_4, AV.imm x6_2_5, AV.imm x6_2_6, AV.imm x6_2_7, AV.bool x6_2_8, AV.imm x6_2_9]) (k3 : callV (cxZ m) (blk (cxZ m)) fv [LV.v (AV.agg [aI x5_1_0, aI x5_1_1, aI x5_1_2, AV.int IntKind.u64 x5_1_3, aI x5_1_4, AV.imm x5_1_5, AV.imm x5_1_6, AV.imm x5_1_7, AV.bool x5_1_8, AV.imm x5_1_9]), LV.v (AV.agg [aI x6_2_0, aI x6_2_1, aI x6_2_2, AV.int IntKind.u64 x6_2_3, aI x6_2_4, AV.imm x6_2_5, AV.imm x6_2_6, AV.imm x6_2_7, AV.bool x6_2_8, AV.imm x6_2_9])] h = some (LV.v (AV.bool x7_3), x7_3h)) (k4 : (!x7_3) = false) (k5 : (blk (cxZ m)) 35 (at_ Tryz.prog 35 4) [LV.v (AV.imm ys), LV.v fv, LV.v (AV.imm xs), LV.v (aI n), LV.v (aI (IntKind.wrap IntKind.i64 (Int.ofNat (Nat.succ i))))] x7_3h = some r) :
    blk (cxZ m) 35 (at_ Tryz.prog 35 4) [.v (.imm ys), .v fv, .v (.imm xs), .v (.int .i64 n), .v (.int .i64 (Int.ofNat i))] h = some r :=
  blk_via (scr := ⟨fun x => match x with | 18 => some true | 30 => some false | _ => none, fun x y => match x, y with | 5, 1 => some (LV.v (AV.snap [(aI x5_1_0), (aI x5_1_1), (aI x5_1_2), (AV.int Go.IntKind.u64 x5_1_3), (aI x5_1_4), (AV.imm x5_1_5), (AV.imm x5_1_6), (AV.imm x5_1_7), (AV.bool x5_1_8), (AV.imm x5_1_9)])) | 6, 2 => some (LV.v (AV.snap [(aI x6_2_0), (aI x6_2_1), (aI x6_2_2), (AV.int Go.IntKind.u64 x6_2_3), (aI x6_2_4), (AV.imm x6_2_5), (AV.imm x6_2_6), (AV.imm x6_2_7), (AV.bool x6_2_8), (AV.imm x6_2_9)])) | _, _ => none, fun x y => match x, y with | 7, 3 => some (LV.v (AV.bool x7_3), x7_3h) | _, _ => none, false⟩) (p := some (ltZ (Int.ofNat i) n) = some true ∧ (false = false ∧ (none : Option Nat) = none ∧ ixA (AV.imm xs) (Int.ofNat i) 10 = some [aI x5_1_0, aI x5_1_1, aI x5_1_2, AV.int IntKind.u64 x5_1_3, aI x5_1_4, AV.imm x5_1_5, AV.imm x5_1_6, AV.imm x5_1_7, AV.bool x5_1_8, AV.imm x5_1_9]) ∧ (false = false ∧ (none : Option Nat) = none ∧ ixA (AV.imm ys) (Int.ofNat i) 10 = some [aI x6_2_0, aI x6_2_1, aI x6_2_2, AV.int IntKind.u64 x6_2_3, aI x6_2_4, AV.imm x6_2_5, AV.imm x6_2_6, AV.imm x6_2_7, AV.bool x6_2_8, AV.imm x6_2_9]) ∧ callV (cxZ m) (blk (cxZ m)) fv [LV.v (AV.agg [aI x5_1_0, aI x5_1_1, aI x5_1_2, AV.int IntKind.u64 x5_1_3, aI x5_1_4, AV.imm x5_1_5, AV.imm x5_1_6, AV.imm x5_1_7, AV.bool x5_1_8, AV.imm x5_1_9]), LV.v (AV.agg [aI x6_2_0, aI x6_2_1, aI x6_2_2, AV.int IntKind.u64 x6_2_3, aI x6_2_4, AV.imm x6_2_5, AV.imm x6_2_6, AV.imm x6_2_7, AV.bool x6_2_8, AV.imm x6_2_9])] h = some (LV.v (AV.bool x7_3), x7_3h) ∧ (some !x7_3) = some false ∧ true = true ∧ (blk (cxZ m)) 35 (at_ Tryz.prog 35 4) [LV.v (AV.imm ys), LV.v fv, LV.v (AV.imm xs), LV.v (aI n), LV.v (aI (IntKind.wrap IntKind.i64 (Int.ofNat (Nat.succ i))))] x7_3h = some r) (by kernel_rfl) ⟨congrArg some k0, ⟨⟨rfl, ⟨rfl, k1⟩⟩, ⟨⟨rfl, ⟨rfl, k2⟩⟩, ⟨k3, ⟨congrArg some k4, ⟨rfl, k5⟩⟩⟩⟩⟩⟩

theorem s42_4_2 (m : Int) (xs ys : List (List AV)) (fv : AV) (n : Int) (i : Nat) (h : Heap) (k0 : ltZ (Int.ofNat i) n = false) :
    blk (cxZ m) 35 (at_ Tryz.prog 35 4) [.v (.imm ys), .v fv, .v (.imm xs), .v (.int .i64 n), .v (.int .i64 (Int.ofNat i))] h = some ((LV.v (AV.bool true), h)) :=
  blk_via (scr := ⟨fun x => match x with | 18 => some false | _ => none, fun _ _ => none, fun _ _ => none, false⟩) (p := some (ltZ (Int.ofNat i) n) = some false ∧ some (LV.v (AV.bool true), h) = some ((LV.v (AV.bool true), h))) (by kernel_rfl) ⟨congrArg some k0, rfl⟩

theorem s44_0 (m : Int) (xs ys : List (List AV)) (fv : AV) (h : Heap) (k0 : (!eqZ (Int.ofNat (List.length xs)) (Int.ofNat (List.length ys))) = true) :
    blk (cxZ m) 37 (body_ Tryz.prog 37) [.v (.imm xs), .v (.imm ys), .v fv] h = some ((LV.v (AV.bool false), h)) :=
  blk_via (scr := ⟨fun x => match x with | 14 => some true | _ => none, fun _ _ => none, fun _ _ => none, false⟩) (p := (some !eqZ (Int.ofNat (List.length xs)) (Int.ofNat (List.length ys))) = some true ∧ some (LV.v (AV.bool false), h) = some ((LV.v (AV.bool false), h))) (by kernel_rfl) ⟨congrArg some k0, rfl⟩

theorem s44_1 (m : Int) (xs ys : List (List AV)) (fv : AV) (h : Heap) (r : LV × Heap) (k0 : (!eqZ (Int.ofNat (List.length xs)) (Int.ofNat (List.length ys))) = false) (k1 : (blk (cxZ m)) 37 (at_ Tryz.prog 37 4) [LV.v (AV.imm ys), LV.v fv, LV.v (AV.imm xs), LV.v (aI (Int.ofNat (List.length xs))), LV.v (aI (Int.ofNat 0))] h = some r) :
    blk (cxZ m) 37 (body_ Tryz.prog 37) [.v (.imm xs), .v (.imm ys), .v fv] h = some r :=
  blk_via (scr := ⟨fun x => match x with | 14 => some false | _ => none, fun _ _ => none, fun _ _ => none, false⟩) (p := (some !eqZ (Int.ofNat (List.length xs)) (Int.ofNat (List.length ys))) = some false ∧ true = true ∧ (blk (cxZ m)) 37 (at_ Tryz.prog 37 4) [LV.v (AV.imm ys), LV.v fv, LV.v (AV.imm xs), LV.v (aI (Int.ofNat (List.length xs))), LV.v (aI (Int.ofNat 0))] h = some r) (by kernel_rfl) ⟨congrArg some k0, ⟨rfl, k1⟩⟩

theorem s44_4_0 (m : Int) (xs ys : List (List AV)) (fv : AV) (n : Int) (i : Nat) (h : Heap) (x5_1_0 : Int) (x5_1_1 : Int) (x5_1_2 : Int) (x5_1_3 : Int) (x5_1_4 : Int) (x5_1_5 : List (List AV)) (x5_1_6 : List (List AV)) (x5_1_7 : List (List AV)) (x5_1_8 : Bool) (x5_1_9 : List (List AV)) (x6_2_0 : Int) (x6_2_1 : Int) (x6_2_2 : Int) (x6_2_3 : Int) (x6_2_4 : Int) (x6_2_5 : List (List AV)) (x6_2_6 : List (List AV)) (x6_2_7 : List (List AV)) (x6_2_8 : Bool) (x6_2_9 : List (List AV)) (x7_3 : Bool) (x7_3h : Heap) (k0 : ltZ (Int.ofNat i) n = true) (k1 : ixA (AV.imm xs) (Int.ofNat i) 10 = some [aI x5_1_0, aI x5_1_1, aI x5_1_2, AV.int IntKind.u64 x5_1_3, aI x5_1_4, AV.imm x5_1_5, AV.imm x5_1_6, AV.imm x5_1_7, AV.bool x5_1_8, AV.imm x5_1_9]) (k2 : ixA (AV.imm ys) (Int.ofNat i) 10 = some [aI x6_2_0, aI x6_2_1, aI x6_2_2, AV.int IntKind.u64 x6_2_3, aI x6_2_4, AV.imm x6_2_5, AV.imm x6_2_6, AV.imm x6_2_7, AV.bool x6_2_8, AV.imm x6_2_9]) (k3 : callV (cxZ m) (blk (cxZ m)) fv [LV.v (AV.agg [aI x5_1_0, aI x5_1_1, aI x5_1_2, AV.int IntKind.u64 x5_1_3, aI x5_1_4, AV.imm x5_1_5, AV.imm x5_1_6, AV.imm x5_1_7, AV.bool x5_1_8, AV.imm x5_1_9]), LV.v (AV.agg [aI x6_2_0, aI x6_2_1, aI x6_2_2, AV.int IntKind.u64 x6_2_3, aI x6_2_4, AV.imm x6_2_5, AV.imm x6_2_6, AV.imm x6_2_7, AV.bool x6_2_8, AV.imm x6_2_9])] h = some (LV.v (AV.bool x7_3), x7_3h)) (k4 : (!x7_3) = true) :
    blk (cxZ m) 37 (at_ Tryz.prog 37 4) [.v (.imm ys), .v fv, .v (.imm xs), .v (.int .i64 n), .v (.int .i64 (Int.ofNat i))] h = some ((LV.v (AV.bool false), x7_3h)) :=
  blk_via (scr := ⟨fun x => match x with | 18 => some true | 30 => some true | _ => none, fun x y => match x, y with | 5, 1 => some (LV.v (AV.snap [(aI x5_1_0), (aI x5_1_1), (aI x5_1_2), (AV.int Go.IntKind.u64 x5_1_3), (aI x5_1_4), (AV.imm x5_1_5), (AV.imm x5_1_6), (AV.imm x5_1_7), (AV.bool x5_1_8), (AV.imm x5_1_9)])) | 6, 2 => some (LV.v (AV.snap [(aI x6_2_0), (aI x6_2_1), (aI x6_2_2), (AV.int Go.IntKind.u64 x6_2_3), (aI x6_2_4), (AV.imm x6_2_5), (AV.imm x6_2_6), (AV.imm x6_2_7), (AV.bool x6_2_8), (AV.imm x6_2_9)])) | _, _ => none, fun x y => match x, y with | 7, 3 => some (LV.v (AV.bool x7_3), x7_3h) | _, _ => none, false⟩) (p := some (ltZ (Int.ofNat i) n) = some true ∧ (false = false ∧ (none : Option Nat) = none ∧ ixA (AV.imm xs) (Int.ofNat i) 10 = some [aI x5_1_0, aI x5_1_1, aI x5_1_2, AV.int IntKind.u64 x5_1_3, aI x5_1_4, AV.imm x5_1_5, AV.imm x5_1_6, AV.imm x5_1_7, AV.bool x5_1_8, AV.imm x5_1_9]) ∧ (false = false ∧ (none : Option Nat) = none ∧ ixA (AV.imm ys) (Int.ofNat i) 10 = some [aI x6_2_0, aI x6_2_1, aI x6_2_2, AV.int IntKind.u64 x6_2_3, aI x6_2_4, AV.imm x6_2_5, AV.imm x6_2_6, AV.imm x6_2_7, AV.bool x6_2_8, AV.imm x6_2_9]) ∧ callV (cxZ m) (blk (cxZ m)) fv [LV.v (AV.agg [aI x5_1_0, aI x5_1_1, aI x5_1_2, AV.int IntKind.u64 x5_1_3, aI x5_1_4, AV.imm x5_1_5, AV.imm x5_1_6, AV.imm x5_1_7, AV.bool x5_1_8, AV.imm x5_1_9]), LV.v (AV.agg [aI x6_2_0, aI x6_2_1, aI x6_2_2, AV.int IntKind.u64 x6_2_3, aI x6_2_4, AV.imm x6_2_5, AV.imm x6_2_6, AV.imm x6_2_7, AV.bool x6_2_8, AV.imm x6_2_9])] h = some (LV.v (AV.bool x7_3), x7_3h) ∧ (some !x7_3) = some true ∧ some (LV.v (AV.bool false), x7_3h) = some ((LV.v (AV.bool false), x7_3h))) (by kernel_rfl) ⟨congrArg some k0, ⟨⟨rfl, ⟨rfl, k1⟩⟩, ⟨⟨rfl, ⟨rfl, k2⟩⟩, ⟨k3, ⟨congrArg some k4, rfl⟩⟩⟩⟩⟩

theorem s44_4_1 (m : Int) (xs ys : List (List AV)) (fv : AV) (n : Int) (i : Nat) (h : Heap) (x5_1_0 : Int) (x5_1_1 : Int) (x5_1_2 : Int) (x5_1_3 : Int) (x5_1_4 : Int) (x5_1_5 : List (List AV)) (x5_1_6 : List (List AV)) (x5_1_7 : List (List AV)) (x5_1_8 : Bool) (x5_1_9 : List (List AV)) (x6_2_0 : Int) (x6_2_1 : Int) (x6_2_2 : Int) (x6_2_3 : Int) (x6_2_4 : Int) (x6_2_5 : List (List AV)) (x6_2_6 : List (List AV)) (x6_2_7 : List (List AV)) (x6_2_8 : Bool) (x6_2_9 : List (List AV)) (x7_3 : Bool) (x7_3h : Heap) (r : LV × Heap) (k0 : ltZ (Int.ofNat i) n = true) (k1 : ixA (AV.imm xs) (Int.ofNat i) 10 = some [aI x5_1_0, aI x5_1_1, aI x5_1_2, AV.int IntKind.u64 x5_1_3, aI x5_1_4, AV.imm x5_1_5, AV.imm x5_1_6, AV.imm x5_1_7, AV.bool x5_1_8, AV.imm x5_1_9]) (k2 : ixA (AV.imm ys) (Int.ofNat i) 10 = some [aI x6_2_0, aI x6_2_1, aI x6_2_2, AV.int IntKind.u64 x6_2_3, aI x6_2_4, AV.imm x6_2_5, AV.imm x6_2_6, AV.imm x6_2_7, AV.bool x6_2_8, AV.imm x6_2_9]) (k3 : callV (cxZ m) (blk (cxZ m)) fv [LV.v (AV.agg [aI x5_1_0, aI x5_1_1, aI x5_1_2, AV.int IntKind.u64 x5_1_3, aI x5_1_4, AV.imm x5_1_5, AV.imm x5_1_6, AV.imm x5_1_7, AV.bool x5_1_8, AV.imm x5_1_9]), LV.v (AV.agg [aI x6_2_0, aI x6_2_1, aI x6_2_2, AV.int IntKind.u64 x6_2_3, aI x6_2_4, AV.imm x6_2_5, AV.imm x6_2_6, AV.imm x6_2_7, AV.bool x6_2_8, AV.imm x6_2_9])] h = some (LV.v (AV.bool x7_3), x7_3h)) (k4 : (!x7_3) = false) (k5 : (blk (cxZ m)) 37 (at_ Tryz.prog 37 4) [LV.v (AV.imm ys), LV.v fv, LV.v (AV.imm xs), LV.v (aI n), LV.v (aI (IntKind.wrap IntKind.i64 (Int.ofNat (Nat.succ i))))] x7_3h = some r) :
    blk (cxZ m) 37 (at_ Tryz.prog 37 4) [.v (.imm ys), .v fv, .v (.imm xs), .v (.int .i64 n), .v (.int .i64 (Int.ofNat i))] h = some r :=
  blk_via (scr := ⟨fun x => match x with | 18 => some true | 30 => some false | _ => none, fun x y => match x, y with | 5, 1 => some (LV.v (AV.snap [(aI x5_1_0), (aI x5_1_1), (aI x5_1_2), (AV.int Go.IntKind.u64 x5_1_3), (aI x5_1_4), (AV.imm x5_1_5), (AV.imm x5_1_6), (AV.imm x5_1_7), (AV.bool x5_1_8), (AV.imm x5_1_9)])) | 6, 2 => some (LV.v (AV.snap [(aI x6_2_0), (aI x6_2_1), (aI x6_2_2), (AV.int Go.IntKind.u64 x6_2_3), (aI x6_2_4), (AV.imm x6_2_5), (AV.imm x6_2_6), (AV.imm x6_2_7), (AV.bool x6_2_8), (AV.imm x6_2_9)])) | _, _ => none, fun x y => match x, y with | 7, 3 => some (LV.v (AV.bool x7_3), x7_3h) | _, _ => none, false⟩) (p := some (ltZ (Int.ofNat i) n) = some true ∧ (false = false ∧ (none : Option Nat) = none ∧ ixA (AV.imm xs) (Int.ofNat i) 10 = some [aI x5_1_0, aI x5_1_1, aI x5_1_2, AV.int IntKind.u64 x5_1_3, aI x5_1_4, AV.imm x5_1_5, AV.imm x5_1_6, AV.imm x5_1_7, AV.bool x5_1_8, AV.imm x5_1_9]) ∧ (false = false ∧ (none : Option Nat) = none ∧ ixA (AV.imm ys) (Int.ofNat i) 10 = some [aI x6_2_0, aI x6_2_1, aI x6_2_2, AV.int IntKind.u64 x6_2_3, aI x6_2_4, AV.imm x6_2_5, AV.imm x6_2_6, AV.imm x6_2_7, AV.bool x6_2_8, AV.imm x6_2_9]) ∧ callV (cxZ m) (blk (cxZ m)) fv [LV.v (AV.agg [aI x5_1_0, aI x5_1_1, aI x5_1_2, AV.int IntKind.u64 x5_1_3, aI x5_1_4, AV.imm x5_1_5, AV.imm x5_1_6, AV.imm x5_1_7, AV.bool x5_1_8, AV.imm x5_1_9]), LV.v (AV.agg [aI x6_2_0, aI x6_2_1, aI x6_2_2, AV.int IntKind.u64 x6_2_3, aI x6_2_4, AV.imm x6_2_5, AV.imm x6_2_6, AV.imm x6_2_7, AV.bool x6_2_8, AV.imm x6_2_9])] h = some (LV.v (AV.bool x7_3), x7_3h) ∧ (some !x7_3) = some false ∧ true = true ∧ (blk (cxZ m)) 37 (at_ Tryz.prog 37 4) [LV.v (AV.imm ys), LV.v fv, LV.v (AV.imm xs), LV.v (aI n), LV.v (aI (IntKind.wrap IntKind.i64 (Int.ofNat (Nat.succ i))))] x7_3h = some r) (by kernel_rfl) ⟨congrArg some k0, ⟨⟨rfl, ⟨rfl, k1⟩⟩, ⟨⟨rfl, ⟨rfl, k2⟩⟩, ⟨k3, ⟨congrArg some k4, ⟨rfl, k5⟩⟩⟩⟩⟩⟩

theorem s44_4_2 (m : Int) (xs ys : List (List AV)) (fv : AV) (n : Int) (i : Nat) (h : Heap) (k0 : ltZ (Int.ofNat i) n = false) :
    blk (cxZ m) 37 (at_ Tryz.prog 37 4) [.v (.imm ys), .v fv, .v (.imm xs), .v (.int .i64 n), .v (.int .i64 (Int.ofNat i))] h = some ((LV.v (AV.bool true), h)) :=
  blk_via (scr := ⟨fun x => match x with | 18 => some false | _ => none, fun _ _ => none, fun _ _ => none, false⟩) (p := some (ltZ (Int.ofNat i) n) = some false ∧ some (LV.v (AV.bool true), h) = some ((LV.v (AV.bool true), h))) (by kernel_rfl) ⟨congrArg some k0, rfl⟩

theorem s47_0 (m : Int) (xs ys : List (List AV)) (fv : AV) (h : Heap) (k0 : (!eqZ (Int.ofNat (List.length xs)) (Int.ofNat (List.length ys))) = true) :
    blk (cxZ m) 40 (body_ Tryz.prog 40) [.v (.imm xs), .v (.imm ys), .v fv] h = some ((LV.v (AV.bool false), h)) :=
  blk_via (scr := ⟨fun x => match x with | 14 => some true | _ => none, fun _ _ => none, fun _ _ => none, false⟩) (p := (some !eqZ (Int.ofNat (List.length xs)) (Int.ofNat (List.length ys))) = some true ∧ some (LV.v (AV.bool false), h) = some ((LV.v (AV.bool false), h))) (by kernel_rfl) ⟨congrArg some k0, rfl⟩

theorem s47_1 (m : Int) (xs ys : List (List AV)) (fv : AV) (h : Heap) (r : LV × Heap) (k0 : (!eqZ (Int.ofNat (List.length xs)) (Int.ofNat (List.length ys))) = false) (k1 : (blk (cxZ m)) 40 (at_ Tryz.prog 40 4) [LV.v (AV.imm ys), LV.v fv, LV.v (AV.imm xs), LV.v (aI (Int.ofNat (List.length xs))), LV.v (aI (Int.ofNat 0))] h = some r) :
    blk (cxZ m) 40 (body_ Tryz.prog 40) [.v (.imm xs), .v (.imm ys), .v fv] h = some r :=
  blk_via (scr := ⟨fun x => match x with | 14 => some false | _ => none, fun _ _ => none, fun _ _ => none, false⟩) (p := (some !eqZ (Int.ofNat (List.length xs)) (Int.ofNat (List.length ys))) = some false ∧ true = true ∧ (blk (cxZ m)) 40 (at_ Tryz.prog 40 4) [LV.v (AV.imm ys), LV.v fv, LV.v (AV.imm xs), LV.v (aI (Int.ofNat (List.length xs))), LV.v (aI (Int.ofNat 0))] h = some r) (by kernel_rfl) ⟨congrArg some k0, ⟨rfl, k1⟩⟩

theorem s47_4_0 (m : Int) (xs ys : List (List AV)) (fv : AV) (n : Int) (i : Nat) (h : Heap) (x5_1_0 : ByteArray) (x5_1_1 : List (List AV)) (x6_2_0 : ByteArray) (x6_2_1 : List (List AV)) (x7_3 : Bool) (x7_3h : Heap) (k0 : ltZ (Int.ofNat i) n = true) (k1 : ixA (AV.imm xs) (Int.ofNat i) 2 = some [AV.str x5_1_0, AV.imm x5_1_1]) (k2 : ixA (AV.imm ys) (Int.ofNat i) 2 = some [AV.str x6_2_0, AV.imm x6_2_1]) (k3 : callV (cxZ m) (blk (cxZ m)) fv [LV.v (AV.agg [AV.str x5_1_0, AV.imm x5_1_1]), LV.v (AV.agg [AV.str x6_2_0, AV.imm x6_2_1])] h = some (LV.v (AV.bool x7_3), x7_3h)) (k4 : (!x7_3) = true) :
    blk (cxZ m) 40 (at_ Tryz.prog 40 4) [.v (.imm ys), .v fv, .v (.imm xs), .v (.int .i64 n), .v (.int .i64 (Int.ofNat i))] h = some ((LV.v (AV.bool false), x7_3h)) :=
  blk_via (scr := ⟨fun x => match x with | 18 => some true | 30 => some true | _ => none, fun x y => match x, y with | 5, 1 => some (LV.v (AV.snap [(AV.str x5_1_0), (AV.imm x5_1_1)])) | 6, 2 => some (LV.v (AV.snap [(AV.str x6_2_0), (AV.imm x6_2_1)])) | _, _ => none, fun x y => match x, y with | 7, 3 => some (LV.v (AV.bool x7_3), x7_3h) | _, _ => none, false⟩) (p := some (ltZ (Int.ofNat i) n) = some true ∧ (false = false ∧ (none : Option Nat) = none ∧ ixA (AV.imm xs) (Int.ofNat i) 2 = some [AV.str x5_1_0, AV.imm x5_1_1]) ∧ (false = false ∧ (none : Option Nat) = none ∧ ixA (AV.imm ys) (Int.ofNat i) 2 = some [AV.str x6_2_0, AV.imm x6_2_1]) ∧ callV (cxZ m) (blk (cxZ m)) fv [LV.v (AV.agg [AV.str x5_1_0, AV.imm x5_1_1]), LV.v (AV.agg [AV.str x6_2_0, AV.imm x6_2_1])] h = some (LV.v (AV.bool x7_3), x7_3h) ∧ (some !x7_3) = some true ∧ some (LV.v (AV.bool false), x7_3h) = some ((LV.v (AV.bool false), x7_3h))) (by kernel_rfl) ⟨congrArg some k0, ⟨⟨rfl, ⟨rfl, k1⟩⟩, ⟨⟨rfl, ⟨rfl, k2⟩⟩, ⟨k3, ⟨congrArg some k4, rfl⟩⟩⟩⟩⟩

theorem s47_4_1 (m : Int) (xs ys : List (List AV)) (fv : AV) (n : Int) (i : Nat) (h : Heap) (x5_1_0 : ByteArray) (x5_1_1 : List (List AV)) (x6_2_0 : ByteArray) (x6_2_1 : List (List AV)) (x7_3 : Bool) (x7_3h : Heap) (r : LV × Heap) (k0 : ltZ (Int.ofNat i) n = true) (k1 : ixA (AV.imm xs) (Int.ofNat i) 2 = some [AV.str x5_1_0, AV.imm x5_1_1]) (k2 : ixA (AV.imm ys) (Int.ofNat i) 2 = some [AV.str x6_2_0, AV.imm x6_2_1]) (k3 : callV (cxZ m) (blk (cxZ m)) fv [LV.v (AV.agg [AV.str x5_1_0, AV.imm x5_1_1]), LV.v (AV.agg [AV.str x6_2_0, AV.imm x6_2_1])] h = some (LV.v (AV.bool x7_3), x7_3h)) (k4 : (!x7_3) = false) (k5 : (blk (cxZ m)) 40 (at_ Tryz.prog 40 4) [LV.v (AV.imm ys), LV.v fv, LV.v (AV.imm xs), LV.v (aI n), LV.v (aI (IntKind.wrap IntKind.i64 (Int.ofNat (Nat.succ i))))] x7_3h = some r) :
    blk (cxZ m) 40 (at_ Tryz.prog 40 4) [.v (.imm ys), .v fv, .v (.imm xs), .v (.int .i64 n), .v (.int .i64 (Int.ofNat i))] h = some r :=
  blk_via (scr := ⟨fun x => match x with | 18 => some true | 30 => some false | _ => none, fun x y => match x, y with | 5, 1 => some (LV.v (AV.snap [(AV.str x5_1_0), (AV.imm x5_1_1)])) | 6, 2 => some (LV.v (AV.snap [(AV.str x6_2_0), (AV.imm x6_2_1)])) | _, _ => none, fun x y => match x, y with | 7, 3 => some (LV.v (AV.bool x7_3), x7_3h) | _, _ => none, false⟩) (p := some (ltZ (Int.ofNat i) n) = some true ∧ (false = false ∧ (none : Option Nat) = none ∧ ixA (AV.imm xs) (Int.ofNat i) 2 = some [AV.str x5_1_0, AV.imm x5_1_1]) ∧ (false = false ∧ (none : Option Nat) = none ∧ ixA (AV.imm ys) (Int.ofNat i) 2 = some [AV.str x6_2_0, AV.imm x6_2_1]) ∧ callV (cxZ m) (blk (cxZ m)) fv [LV.v (AV.agg [AV.str x5_1_0, AV.imm x5_1_1]), LV.v (AV.agg [AV.str x6_2_0, AV.imm x6_2_1])] h = some (LV.v (AV.bool x7_3), x7_3h) ∧ (some !x7_3) = some false ∧ true = true ∧ (blk (cxZ m)) 40 (at_ Tryz.prog 40 4) [LV.v (AV.imm ys), LV.v fv, LV.v (AV.imm xs), LV.v (aI n), LV.v (aI (IntKind.wrap IntKind.i64 (Int.ofNat (Nat.succ i))))] x7_3h = some r) (by kernel_rfl) ⟨congrArg some k0, ⟨⟨rfl, ⟨rfl, k1⟩⟩, ⟨⟨rfl, ⟨rfl, k2⟩⟩, ⟨k3, ⟨congrArg some k4, ⟨rfl, k5⟩⟩⟩⟩⟩⟩

theorem s47_4_2 (m : Int) (xs ys : List (List AV)) (fv : AV) (n : Int) (i : Nat) (h : Heap) (k0 : ltZ (Int.ofNat i) n = false) :
    blk (cxZ m) 40 (at_ Tryz.prog 40 4) [.v (.imm ys), .v fv, .v (.imm xs), .v (.int .i64 n), .v (.int .i64 (Int.ofNat i))] h = some ((LV.v (AV.bool true), h)) :=
  blk_via (scr := ⟨fun x => match x with | 18 => some false | _ => none, fun _ _ => none, fun _ _ => none, false⟩) (p := some (ltZ (Int.ofNat i) n) = some false ∧ some (LV.v (AV.bool true), h) = some ((LV.v (AV.bool true), h))) (by kernel_rfl) ⟨congrArg some k0, rfl⟩

end Go.Proofs.YtmgjnbhofkchmaaGreatDoor

/-
  Ways through texts, one by one (printed by a program of this repo).
-/
namespace Go.Proofs.YtmgjnbhofkchmaaGreatDoor
open Go Go.Proofs.Am

theorem s32_0 (m : Int) (xs ys : List (List AV)) (h : Heap) (k0 : (!eqZ (Int.ofNat (List.length xs)) (Int.ofNat (List.length ys))) = true) :
    blk (cxZ m) 25 (body_ Tryz.prog 25) [.v (.imm xs), .v (.imm ys)] h = some ((LV.v (AV.bool false), h)) :=
  blk_via (scr := ⟨fun x => match x with | 10 => some true | _ => none, fun _ _ => none, fun _ _ => none, false⟩) (p := (some !eqZ (Int.ofNat (List.length xs)) (Int.ofNat (List.length ys))) = some true ∧ some (LV.v (AV.bool false), h) = some ((LV.v (AV.bool false), h))) (by kernel_rfl) ⟨congrArg some k0, rfl⟩

theorem s32_1 (m : Int) (xs ys : List (List AV)) (h : Heap) (r : LV × Heap) (k0 : (!eqZ (Int.ofNat (List.length xs)) (Int.ofNat (List.length ys))) = false) (k1 : (blk (cxZ m)) 25 (at_ Tryz.prog 25 4) [LV.v (AV.imm xs), LV.v (AV.imm ys), LV.v (aI (Int.ofNat (List.length xs))), LV.v (aI (Int.ofNat 0))] h = some r) :
    blk (cxZ m) 25 (body_ Tryz.prog 25) [.v (.imm xs), .v (.imm ys)] h = some r :=
  blk_via (scr := ⟨fun x => match x with | 10 => some false | _ => none, fun _ _ => none, fun _ _ => none, false⟩) (p := (some !eqZ (Int.ofNat (List.length xs)) (Int.ofNat (List.length ys))) = some false ∧ true = true ∧ (blk (cxZ m)) 25 (at_ Tryz.prog 25 4) [LV.v (AV.imm xs), LV.v (AV.imm ys), LV.v (aI (Int.ofNat (List.length xs))), LV.v (aI (Int.ofNat 0))] h = some r) (by kernel_rfl) ⟨congrArg some k0, ⟨rfl, k1⟩⟩

theorem s32_4_0 (m : Int) (xs ys : List (List AV)) (n : Int) (i : Nat) (h : Heap) (x6_2_0 : ByteArray) (x6_2_1 : ByteArray) (x6_2_2 : Int) (x6_2_3 : Int) (x6_2_4 : Bool) (x6_2_5 : Int) (x6_2_6 : Int) (x6_2_7 : Bool) (x6_6_0 : ByteArray) (x6_6_1 : ByteArray) (x6_6_2 : Int) (x6_6_3 : Int) (x6_6_4 : Bool) (x6_6_5 : Int) (x6_6_6 : Int) (x6_6_7 : Bool) (k0 : ltZ (Int.ofNat i) n = true) (k1 : ixA (AV.imm xs) (Int.ofNat i) 8 = some [AV.str x6_2_0, AV.str x6_2_1, aI x6_2_2, aI x6_2_3, AV.bool x6_2_4, aI x6_2_5, aI x6_2_6, AV.bool x6_2_7]) (k2 : ixA (AV.imm ys) (Int.ofNat i) 8 = some [AV.str x6_6_0, AV.str x6_6_1, aI x6_6_2, aI x6_6_3, AV.bool x6_6_4, aI x6_6_5, aI x6_6_6, AV.bool x6_6_7]) (k3 : (!(x6_2_0 == x6_6_0 && (x6_2_1 == x6_6_1 && (x6_2_2 == x6_6_2 && (x6_2_3 == x6_6_3 && (x6_2_4 == x6_6_4 && (x6_2_5 == x6_6_5 && (x6_2_6 == x6_6_6 && (x6_2_7 == x6_6_7 && true)) && true))))))) = true) :
    blk (cxZ m) 25 (at_ Tryz.prog 25 4) [.v (.imm xs), .v (.imm ys), .v (.int .i64 n), .v (.int .i64 (Int.ofNat i))] h = some ((LV.v (AV.bool false), h)) :=
  blk_via (scr := ⟨fun x => match x with | 14 => some true | 24 => some true | _ => none, fun x y => match x, y with | 6, 2 => some (LV.v (AV.snap [(AV.str x6_2_0), (AV.str x6_2_1), (aI x6_2_2), (aI x6_2_3), (AV.bool x6_2_4), (aI x6_2_5), (aI x6_2_6), (AV.bool x6_2_7)])) | 6, 6 => some (LV.v (AV.snap [(AV.str x6_6_0), (AV.str x6_6_1), (aI x6_6_2), (aI x6_6_3), (AV.bool x6_6_4), (aI x6_6_5), (aI x6_6_6), (AV.bool x6_6_7)])) | _, _ => none, fun _ _ => none, false⟩) (p := some (ltZ (Int.ofNat i) n) = some true ∧ (false = false ∧ (none : Option Nat) = none ∧ ixA (AV.imm xs) (Int.ofNat i) 8 = some [AV.str x6_2_0, AV.str x6_2_1, aI x6_2_2, aI x6_2_3, AV.bool x6_2_4, aI x6_2_5, aI x6_2_6, AV.bool x6_2_7]) ∧ (false = false ∧ (none : Option Nat) = none ∧ ixA (AV.imm ys) (Int.ofNat i) 8 = some [AV.str x6_6_0, AV.str x6_6_1, aI x6_6_2, aI x6_6_3, AV.bool x6_6_4, aI x6_6_5, aI x6_6_6, AV.bool x6_6_7]) ∧ (some !(x6_2_0 == x6_6_0 && (x6_2_1 == x6_6_1 && (x6_2_2 == x6_6_2 && (x6_2_3 == x6_6_3 && (x6_2_4 == x6_6_4 && (x6_2_5 == x6_6_5 && (x6_2_6 == x6_6_6 && (x6_2_7 == x6_6_7 && true)) && true))))))) = some true ∧ some (LV.v (AV.bool false), h) = some ((LV.v (AV.bool false), h))) (by kernel_rfl) ⟨congrArg some k0, ⟨⟨rfl, ⟨rfl, k1⟩⟩, ⟨⟨rfl, ⟨rfl, k2⟩⟩, ⟨congrArg some k3, rfl⟩⟩⟩⟩

theorem s32_4_1 (m : Int) (xs ys : List (List AV)) (n : Int) (i : Nat) (h : Heap) (x6_2_0 : ByteArray) (x6_2_1 : ByteArray) (x6_2_2 : Int) (x6_2_3 : Int) (x6_2_4 : Bool) (x6_2_5 : Int) (x6_2_6 : Int) (x6_2_7 : Bool) (x6_6_0 : ByteArray) (x6_6_1 : ByteArray) (x6_6_2 : Int) (x6_6_3 : Int) (x6_6_4 : Bool) (x6_6_5 : Int) (x6_6_6 : Int) (x6_6_7 : Bool) (r : LV × Heap) (k0 : ltZ (Int.ofNat i) n = true) (k1 : ixA (AV.imm xs) (Int.ofNat i) 8 = some [AV.str x6_2_0, AV.str x6_2_1, aI x6_2_2, aI x6_2_3, AV.bool x6_2_4, aI x6_2_5, aI x6_2_6, AV.bool x6_2_7]) (k2 : ixA (AV.imm ys) (Int.ofNat i) 8 = some [AV.str x6_6_0, AV.str x6_6_1, aI x6_6_2, aI x6_6_3, AV.bool x6_6_4, aI x6_6_5, aI x6_6_6, AV.bool x6_6_7]) (k3 : (!(x6_2_0 == x6_6_0 && (x6_2_1 == x6_6_1 && (x6_2_2 == x6_6_2 && (x6_2_3 == x6_6_3 && (x6_2_4 == x6_6_4 && (x6_2_5 == x6_6_5 && (x6_2_6 == x6_6_6 && (x6_2_7 == x6_6_7 && true)) && true))))))) = false) (k4 : (blk (cxZ m)) 25 (at_ Tryz.prog 25 4) [LV.v (AV.imm xs), LV.v (AV.imm ys), LV.v (aI n), LV.v (aI (IntKind.wrap IntKind.i64 (Int.ofNat (Nat.succ i))))] h = some r) :
    blk (cxZ m) 25 (at_ Tryz.prog 25 4) [.v (.imm xs), .v (.imm ys), .v (.int .i64 n), .v (.int .i64 (Int.ofNat i))] h = some r :=
  blk_via (scr := ⟨fun x => match x with | 14 => some true | 24 => some false | _ => none, fun x y => match x, y with | 6, 2 => some (LV.v (AV.snap [(AV.str x6_2_0), (AV.str x6_2_1), (aI x6_2_2), (aI x6_2_3), (AV.bool x6_2_4), (aI x6_2_5), (aI x6_2_6), (AV.bool x6_2_7)])) | 6, 6 => some (LV.v (AV.snap [(AV.str x6_6_0), (AV.str x6_6_1), (aI x6_6_2), (aI x6_6_3), (AV.bool x6_6_4), (aI x6_6_5), (aI x6_6_6), (AV.bool x6_6_7)])) | _, _ => none, fun _ _ => none, false⟩) (p := some (ltZ (Int.ofNat i) n) = some true ∧ (false = false ∧ (none : Option Nat) = none ∧ ixA (AV.imm xs) (Int.ofNat i) 8 = some [AV.str x6_2_0, AV.str x6_2_1, aI x6_2_2, aI x6_2_3, AV.bool x6_2_4, aI x6_2_5, aI x6_2_6, AV.bool x6_2_7]) ∧ (false = false ∧ (none : Option Nat) = none ∧ ixA (AV.imm ys) (Int.ofNat i) 8 = some [AV.str x6_6_0, AV.str x6_6_1, aI x6_6_2, aI x6_6_3, AV.bool x6_6_4, aI x6_6_5, aI x6_6_6, AV.bool x6_6_7]) ∧ (some !(x6_2_0 == x6_6_0 && (x6_2_1 == x6_6_1 && (x6_2_2 == x6_6_2 && (x6_2_3 == x6_6_3 && (x6_2_4 == x6_6_4 && (x6_2_5 == x6_6_5 && (x6_2_6 == x6_6_6 && (x6_2_7 == x6_6_7 && true)) && true))))))) = some false ∧ true = true ∧ (blk (cxZ m)) 25 (at_ Tryz.prog 25 4) [LV.v (AV.imm xs), LV.v (AV.imm ys), LV.v (aI n), LV.v (aI (IntKind.wrap IntKind.i64 (Int.ofNat (Nat.succ i))))] h = some r) (by kernel_rfl) ⟨congrArg some k0, ⟨⟨rfl, ⟨rfl, k1⟩⟩, ⟨⟨rfl, ⟨rfl, k2⟩⟩, ⟨congrArg some k3, ⟨rfl, k4⟩⟩⟩⟩⟩

theorem s32_4_2 (m : Int) (xs ys : List (List AV)) (n : Int) (i : Nat) (h : Heap) (k0 : ltZ (Int.ofNat i) n = false) :
    blk (cxZ m) 25 (at_ Tryz.prog 25 4) [.v (.imm xs), .v (.imm ys), .v (.int .i64 n), .v (.int .i64 (Int.ofNat i))] h = some ((LV.v (AV.bool true), h)) :=
  blk_via (scr := ⟨fun x => match x with | 14 => some false | _ => none, fun _ _ => none, fun _ _ => none, false⟩) (p := some (ltZ (Int.ofNat i) n) = some false ∧ some (LV.v (AV.bool true), h) = some ((LV.v (AV.bool true), h))) (by kernel_rfl) ⟨congrArg some k0, rfl⟩

theorem s33_0 (m : Int) (xs ys : List (List AV)) (h : Heap) (k0 : (!eqZ (Int.ofNat (List.length xs)) (Int.ofNat (List.length ys))) = true) :
    blk (cxZ m) 26 (body_ Tryz.prog 26) [.v (.imm xs), .v (.imm ys)] h = some ((LV.v (AV.bool false), h)) :=
  blk_via (scr := ⟨fun x => match x with | 10 => some true | _ => none, fun _ _ => none, fun _ _ => none, false⟩) (p := (some !eqZ (Int.ofNat (List.length xs)) (Int.ofNat (List.length ys))) = some true ∧ some (LV.v (AV.bool false), h) = some ((LV.v (AV.bool false), h))) (by kernel_rfl) ⟨congrArg some k0, rfl⟩

theorem s33_1 (m : Int) (xs ys : List (List AV)) (h : Heap) (r : LV × Heap) (k0 : (!eqZ (Int.ofNat (List.length xs)) (Int.ofNat (List.length ys))) = false) (k1 : (blk (cxZ m)) 26 (at_ Tryz.prog 26 4) [LV.v (AV.imm xs), LV.v (AV.imm ys), LV.v (aI (Int.ofNat (List.length xs))), LV.v (aI (Int.ofNat 0))] h = some r) :
    blk (cxZ m) 26 (body_ Tryz.prog 26) [.v (.imm xs), .v (.imm ys)] h = some r :=
  blk_via (scr := ⟨fun x => match x with | 10 => some false | _ => none, fun _ _ => none, fun _ _ => none, false⟩) (p := (some !eqZ (Int.ofNat (List.length xs)) (Int.ofNat (List.length ys))) = some false ∧ true = true ∧ (blk (cxZ m)) 26 (at_ Tryz.prog 26 4) [LV.v (AV.imm xs), LV.v (AV.imm ys), LV.v (aI (Int.ofNat (List.length xs))), LV.v (aI (Int.ofNat 0))] h = some r) (by kernel_rfl) ⟨congrArg some k0, ⟨rfl, k1⟩⟩

theorem s33_4_0 (m : Int) (xs ys : List (List AV)) (n : Int) (i : Nat) (h : Heap) (x6_2_0 : Int) (x6_2_1 : Int) (x6_2_2 : Bool) (x6_6_0 : Int) (x6_6_1 : Int) (x6_6_2 : Bool) (k0 : ltZ (Int.ofNat i) n = true) (k1 : ixA (AV.imm xs) (Int.ofNat i) 3 = some [aI x6_2_0, aI x6_2_1, AV.bool x6_2_2]) (k2 : ixA (AV.imm ys) (Int.ofNat i) 3 = some [aI x6_6_0, aI x6_6_1, AV.bool x6_6_2]) (k3 : (!(x6_2_0 == x6_6_0 && (x6_2_1 == x6_6_1 && (x6_2_2 == x6_6_2 && true)))) = true) :
    blk (cxZ m) 26 (at_ Tryz.prog 26 4) [.v (.imm xs), .v (.imm ys), .v (.int .i64 n), .v (.int .i64 (Int.ofNat i))] h = some ((LV.v (AV.bool false), h)) :=
  blk_via (scr := ⟨fun x => match x with | 14 => some true | 24 => some true | _ => none, fun x y => match x, y with | 6, 2 => some (LV.v (AV.snap [(aI x6_2_0), (aI x6_2_1), (AV.bool x6_2_2)])) | 6, 6 => some (LV.v (AV.snap [(aI x6_6_0), (aI x6_6_1), (AV.bool x6_6_2)])) | _, _ => none, fun _ _ => none, false⟩) (p := some (ltZ (Int.ofNat i) n) = some true ∧ (false = false ∧ (none : Option Nat) = none ∧ ixA (AV.imm xs) (Int.ofNat i) 3 = some [aI x6_2_0, aI x6_2_1, AV.bool x6_2_2]) ∧ (false = false ∧ (none : Option Nat) = none ∧ ixA (AV.imm ys) (Int.ofNat i) 3 = some [aI x6_6_0, aI x6_6_1, AV.bool x6_6_2]) ∧ (some !(x6_2_0 == x6_6_0 && (x6_2_1 == x6_6_1 && (x6_2_2 == x6_6_2 && true)))) = some true ∧ some (LV.v (AV.bool false), h) = some ((LV.v (AV.bool false), h))) (by kernel_rfl) ⟨congrArg some k0, ⟨⟨rfl, ⟨rfl, k1⟩⟩, ⟨⟨rfl, ⟨rfl, k2⟩⟩, ⟨congrArg some k3, rfl⟩⟩⟩⟩

theorem s33_4_1 (m : Int) (xs ys : List (List AV)) (n : Int) (i : Nat) (h : Heap) (x6_2_0 : Int) (x6_2_1 : Int) (x6_2_2 : Bool) (x6_6_0 : Int) (x6_6_1 : Int) (x6_6_2 : Bool) (r : LV × Heap) (k0 : ltZ (Int.ofNat i) n = true) (k1 : ixA (AV.imm xs) (Int.ofNat i) 3 = some [aI x6_2_0, aI x6_2_1, AV.bool x6_2_2]) (k2 : ixA (AV.imm ys) (Int.ofNat i) 3 = some [aI x6_6_0, aI x6_6_1, AV.bool x6_6_2]) (k3 : (!(x6_2_0 == x6_6_0 && (x6_2_1 == x6_6_1 && (x6_2_2 == x6_6_2 && true)))) = false) (k4 : (blk (cxZ m)) 26 (at_ Tryz.prog 26 4) [LV.v (AV.imm xs), LV.v (AV.imm ys), LV.v (aI n), LV.v (aI (IntKind.wrap IntKind.i64 (Int.ofNat (Nat.succ i))))] h = some r) :
    blk (cxZ m) 26 (at_ Tryz.prog 26 4) [.v (.imm xs), .v (.imm ys), .v (.int .i64 n), .v (.int .i64 (Int.ofNat i))] h = some r :=
  blk_via (scr := ⟨fun x => match x with | 14 => some true | 24 => some false | _ => none, fun x y => match x, y with | 6, 2 => some (LV.v (AV.snap [(aI x6_2_0), (aI x6_2_1), (AV.bool x6_2_2)])) | 6, 6 => some (LV.v (AV.snap [(aI x6_6_0), (aI x6_6_1), (AV.bool x6_6_2)])) | _, _ => none, fun _ _ => none, false⟩) (p := some (ltZ (Int.ofNat i) n) = some true ∧ (false = false ∧ (none : Option Nat) = none ∧ ixA (AV.imm xs) (Int.ofNat i) 3 = some [aI x6_2_0, aI x6_2_1, AV.bool x6_2_2]) ∧ (false = false ∧ (none : Option Nat) = none ∧ ixA (AV.imm ys) (Int.ofNat i) 3 = some [aI x6_6_0, aI x6_6_1, AV.bool x6_6_2]) ∧ (some !(x6_2_0 == x6_6_0 && (x6_2_1 == x6_6_1 && (x6_2_2 == x6_6_2 && true)))) = some false ∧ true = true ∧ (blk (cxZ m)) 26 (at_ Tryz.prog 26 4) [LV.v (AV.imm xs), LV.v (AV.imm ys), LV.v (aI n), LV.v (aI (IntKind.wrap IntKind.i64 (Int.ofNat (Nat.succ i))))] h = some r) (by kernel_rfl) ⟨congrArg some k0, ⟨⟨rfl, ⟨rfl, k1⟩⟩, ⟨⟨rfl, ⟨rfl, k2⟩⟩, ⟨congrArg some k3, ⟨rfl, k4⟩⟩⟩⟩⟩

theorem s33_4_2 (m : Int) (xs ys : List (List AV)) (n : Int) (i : Nat) (h : Heap) (k0 : ltZ (Int.ofNat i) n = false) :
    blk (cxZ m) 26 (at_ Tryz.prog 26 4) [.v (.imm xs), .v (.imm ys), .v (.int .i64 n), .v (.int .i64 (Int.ofNat i))] h = some ((LV.v (AV.bool true), h)) :=
  blk_via (scr := ⟨fun x => match x with | 14 => some false | _ => none, fun _ _ => none, fun _ _ => none, false⟩) (p := some (ltZ (Int.ofNat i) n) = some false ∧ some (LV.v (AV.bool true), h) = some ((LV.v (AV.bool true), h))) (by kernel_rfl) ⟨congrArg some k0, rfl⟩

theorem s34_0 (m : Int) (xs ys : List (List AV)) (h : Heap) (k0 : (!eqZ (Int.ofNat (List.length xs)) (Int.ofNat (List.length ys))) = true) :
    blk (cxZ m) 27 (body_ Tryz.prog 27) [.v (.imm xs), .v (.imm ys)] h = some ((LV.v (AV.bool false), h)) :=
  blk_via (scr := ⟨fun x => match x with | 10 => some true | _ => none, fun _ _ => none, fun _ _ => none, false⟩) (p := (some !eqZ (Int.ofNat (List.length xs)) (Int.ofNat (List.length ys))) = some true ∧ some (LV.v (AV.bool false), h) = some ((LV.v (AV.bool false), h))) (by kernel_rfl) ⟨congrArg some k0, rfl⟩

theorem s34_1 (m : Int) (xs ys : List (List AV)) (h : Heap) (r : LV × Heap) (k0 : (!eqZ (Int.ofNat (List.length xs)) (Int.ofNat (List.length ys))) = false) (k1 : (blk (cxZ m)) 27 (at_ Tryz.prog 27 4) [LV.v (AV.imm xs), LV.v (AV.imm ys), LV.v (aI (Int.ofNat (List.length xs))), LV.v (aI (Int.ofNat 0))] h = some r) :
    blk (cxZ m) 27 (body_ Tryz.prog 27) [.v (.imm xs), .v (.imm ys)] h = some r :=
  blk_via (scr := ⟨fun x => match x with | 10 => some false | _ => none, fun _ _ => none, fun _ _ => none, false⟩) (p := (some !eqZ (Int.ofNat (List.length xs)) (Int.ofNat (List.length ys))) = some false ∧ true = true ∧ (blk (cxZ m)) 27 (at_ Tryz.prog 27 4) [LV.v (AV.imm xs), LV.v (AV.imm ys), LV.v (aI (Int.ofNat (List.length xs))), LV.v (aI (Int.ofNat 0))] h = some r) (by kernel_rfl) ⟨congrArg some k0, ⟨rfl, k1⟩⟩

theorem s34_4_0 (m : Int) (xs ys : List (List AV)) (n : Int) (i : Nat) (h : Heap) (x6_2_0 : ByteArray) (x6_2_1 : Int) (x6_2_2 : Int) (x6_6_0 : ByteArray) (x6_6_1 : Int) (x6_6_2 : Int) (k0 : ltZ (Int.ofNat i) n = true) (k1 : ixA (AV.imm xs) (Int.ofNat i) 3 = some [AV.str x6_2_0, aI x6_2_1, aI x6_2_2]) (k2 : ixA (AV.imm ys) (Int.ofNat i) 3 = some [AV.str x6_6_0, aI x6_6_1, aI x6_6_2]) (k3 : (!(x6_2_0 == x6_6_0 && (x6_2_1 == x6_6_1 && (x6_2_2 == x6_6_2 && true)))) = true) :
    blk (cxZ m) 27 (at_ Tryz.prog 27 4) [.v (.imm xs), .v (.imm ys), .v (.int .i64 n), .v (.int .i64 (Int.ofNat i))] h = some ((LV.v (AV.bool false), h)) :=
  blk_via (scr := ⟨fun x => match x with | 14 => some true | 24 => some true | _ => none, fun x y => match x, y with | 6, 2 => some (LV.v (AV.snap [(AV.str x6_2_0), (aI x6_2_1), (aI x6_2_2)])) | 6, 6 => some (LV.v (AV.snap [(AV.str x6_6_0), (aI x6_6_1), (aI x6_6_2)])) | _, _ => none, fun _ _ => none, false⟩) (p := some (ltZ (Int.ofNat i) n) = some true ∧ (false = false ∧ (none : Option Nat) = none ∧ ixA (AV.imm xs) (Int.ofNat i) 3 = some [AV.str x6_2_0, aI x6_2_1, aI x6_2_2]) ∧ (false = false ∧ (none : Option Nat) = none ∧ ixA (AV.imm ys) (Int.ofNat i) 3 = some [AV.str x6_6_0, aI x6_6_1, aI x6_6_2]) ∧ (some !(x6_2_0 == x6_6_0 && (x6_2_1 == x6_6_1 && (x6_2_2 == x6_6_2 && true)))) = some true ∧ some (LV.v (AV.bool false), h) = some ((LV.v (AV.bool false), h))) (by kernel_rfl) ⟨congrArg some k0, ⟨⟨rfl, ⟨rfl, k1⟩⟩, ⟨⟨rfl, ⟨rfl, k2⟩⟩, ⟨congrArg some k3, rfl⟩⟩⟩⟩

theorem s34_4_1 (m : Int) (xs ys : List (List AV)) (n : Int) (i : Nat) (h : Heap) (x6_2_0 : ByteArray) (x6_2_1 : Int) (x6_2_2 : Int) (x6_6_0 : ByteArray) (x6_6_1 : Int) (x6_6_2 : Int) (r : LV × Heap) (k0 : ltZ (Int.ofNat i) n = true) (k1 : ixA (AV.imm xs) (Int.ofNat i) 3 = some [AV.str x6_2_0, aI x6_2_1, aI x6_2_2]) (k2 : ixA (AV.imm ys) (Int.ofNat i) 3 = some [AV.str x6_6_0, aI x6_6_1, aI x6_6_2]) (k3 : (!(x6_2_0 == x6_6_0 && (x6_2_1 == x6_6_1 && (x6_2_2 == x6_6_2 && true)))) = false) (k4 : (blk (cxZ m)) 27 (at_ Tryz.prog 27 4) [LV.v (AV.imm xs), LV.v (AV.imm ys), LV.v (aI n), LV.v (aI (IntKind.wrap IntKind.i64 (Int.ofNat (Nat.succ i))))] h = some r) :
    blk (cxZ m) 27 (at_ Tryz.prog 27 4) [.v (.imm xs), .v (.imm ys), .v (.int .i64 n), .v (.int .i64 (Int.ofNat i))] h = some r :=
  blk_via (scr := ⟨fun x => match x with | 14 => some true | 24 => some false | _ => none, fun x y => match x, y with | 6, 2 => some (LV.v (AV.snap [(AV.str x6_2_0), (aI x6_2_1), (aI x6_2_2)])) | 6, 6 => some (LV.v (AV.snap [(AV.str x6_6_0), (aI x6_6_1), (aI x6_6_2)])) | _, _ => none, fun _ _ => none, false⟩) (p := some (ltZ (Int.ofNat i) n) = some true ∧ (false = false ∧ (none : Option Nat) = none ∧ ixA (AV.imm xs) (Int.ofNat i) 3 = some [AV.str x6_2_0, aI x6_2_1, aI x6_2_2]) ∧ (false = false ∧ (none : Option Nat) = none ∧ ixA (AV.imm ys) (Int.ofNat i) 3 = some [AV.str x6_6_0, aI x6_6_1, aI x6_6_2]) ∧ (some !(x6_2_0 == x6_6_0 && (x6_2_1 == x6_6_1 && (x6_2_2 == x6_6_2 && true)))) = some false ∧ true = true ∧ (blk (cxZ m)) 27 (at_ Tryz.prog 27 4) [LV.v (AV.imm xs), LV.v (AV.imm ys), LV.v (aI n), LV.v (aI (IntKind.wrap IntKind.i64 (Int.ofNat (Nat.succ i))))] h = some r) (by kernel_rfl) ⟨congrArg some k0, ⟨⟨rfl, ⟨rfl, k1⟩⟩, ⟨⟨rfl, ⟨rfl, k2⟩⟩, ⟨congrArg some k3, ⟨rfl, k4⟩⟩⟩⟩⟩

theorem s34_4_2 (m : Int) (xs ys : List (List AV)) (n : Int) (i : Nat) (h : Heap) (k0 : ltZ (Int.ofNat i) n = false) :
    blk (cxZ m) 27 (at_ Tryz.prog 27 4) [.v (.imm xs), .v (.imm ys), .v (.int .i64 n), .v (.int .i64 (Int.ofNat i))] h = some ((LV.v (AV.bool true), h)) :=
  blk_via (scr := ⟨fun x => match x with | 14 => some false | _ => none, fun _ _ => none, fun _ _ => none, false⟩) (p := some (ltZ (Int.ofNat i) n) = some false ∧ some (LV.v (AV.bool true), h) = some ((LV.v (AV.bool true), h))) (by kernel_rfl) ⟨congrArg some k0, rfl⟩

theorem s37_0 (m : Int) (xs ys : List (List AV)) (h : Heap) (k0 : (!eqZ (Int.ofNat (List.length xs)) (Int.ofNat (List.length ys))) = true) :
    blk (cxZ m) 30 (body_ Tryz.prog 30) [.v (.imm xs), .v (.imm ys)] h = some ((LV.v (AV.bool false), h)) :=
  blk_via (scr := ⟨fun x => match x with | 10 => some true | _ => none, fun _ _ => none, fun _ _ => none, false⟩) (p := (some !eqZ (Int.ofNat (List.length xs)) (Int.ofNat (List.length ys))) = some true ∧ some (LV.v (AV.bool false), h) = some ((LV.v (AV.bool false), h))) (by kernel_rfl) ⟨congrArg some k0, rfl⟩

theorem s37_1 (m : Int) (xs ys : List (List AV)) (h : Heap) (r : LV × Heap) (k0 : (!eqZ (Int.ofNat (List.length xs)) (Int.ofNat (List.length ys))) = false) (k1 : (blk (cxZ m)) 30 (at_ Tryz.prog 30 4) [LV.v (AV.imm xs), LV.v (AV.imm ys), LV.v (aI (Int.ofNat (List.length xs))), LV.v (aI (Int.ofNat 0))] h = some r) :
    blk (cxZ m) 30 (body_ Tryz.prog 30) [.v (.imm xs), .v (.imm ys)] h = some r :=
  blk_via (scr := ⟨fun x => match x with | 10 => some false | _ => none, fun _ _ => none, fun _ _ => none, false⟩) (p := (some !eqZ (Int.ofNat (List.length xs)) (Int.ofNat (List.length ys))) = some false ∧ true = true ∧ (blk (cxZ m)) 30 (at_ Tryz.prog 30 4) [LV.v (AV.imm xs), LV.v (AV.imm ys), LV.v (aI (Int.ofNat (List.length xs))), LV.v (aI (Int.ofNat 0))] h = some r) (by kernel_rfl) ⟨congrArg some k0, ⟨rfl, k1⟩⟩

theorem s37_4_0 (m : Int) (xs ys : List (List AV)) (n : Int) (i : Nat) (h : Heap) (x6_2_0 : Int) (x6_6_0 : Int) (k0 : ltZ (Int.ofNat i) n = true) (k1 : ixA (AV.imm xs) (Int.ofNat i) 1 = some [aI x6_2_0]) (k2 : ixA (AV.imm ys) (Int.ofNat i) 1 = some [aI x6_6_0]) (k3 : (!eqZ x6_2_0 x6_6_0) = true) :
    blk (cxZ m) 30 (at_ Tryz.prog 30 4) [.v (.imm xs), .v (.imm ys), .v (.int .i64 n), .v (.int .i64 (Int.ofNat i))] h = some ((LV.v (AV.bool false), h)) :=
  blk_via (scr := ⟨fun x => match x with | 14 => some true | 24 => some true | _ => none, fun x y => match x, y with | 6, 2 => some (LV.v (AV.snap [(aI x6_2_0)])) | 6, 6 => some (LV.v (AV.snap [(aI x6_6_0)])) | _, _ => none, fun _ _ => none, false⟩) (p := some (ltZ (Int.ofNat i) n) = some true ∧ (false = false ∧ (none : Option Nat) = none ∧ ixA (AV.imm xs) (Int.ofNat i) 1 = some [aI x6_2_0]) ∧ (false = false ∧ (none : Option Nat) = none ∧ ixA (AV.imm ys) (Int.ofNat i) 1 = some [aI x6_6_0]) ∧ (some !eqZ x6_2_0 x6_6_0) = some true ∧ some (LV.v (AV.bool false), h) = some ((LV.v (AV.bool false), h))) (by kernel_rfl) ⟨congrArg some k0, ⟨⟨rfl, ⟨rfl, k1⟩⟩, ⟨⟨rfl, ⟨rfl, k2⟩⟩, ⟨congrArg some k3, rfl⟩⟩⟩⟩

theorem s37_4_1 (m : Int) (xs ys : List (List AV)) (n : Int) (i : Nat) (h : Heap) (x6_2_0 : Int) (x6_6_0 : Int) (r : LV × Heap) (k0 : ltZ (Int.ofNat i) n = true) (k1 : ixA (AV.imm xs) (Int.ofNat i) 1 = some [aI x6_2_0]) (k2 : ixA (AV.imm ys) (Int.ofNat i) 1 = some [aI x6_6_0]) (k3 : (!eqZ x6_2_0 x6_6_0) = false) (k4 : (blk (cxZ m)) 30 (at_ Tryz.prog 30 4) [LV.v (AV.imm xs), LV.v (AV.imm ys), LV.v (aI n), LV.v (aI (IntKind.wrap IntKind.i64 (Int.ofNat (Nat.succ i))))] h = some r) :
    blk (cxZ m) 30 (at_ Tryz.prog 30 4) [.v (.imm xs), .v (.imm ys), .v (.int .i64 n), .v (.int .i64 (Int.ofNat i))] h = some r :=
  blk_via (scr := ⟨fun x => match x with | 14 => some true | 24 => some false | _ => none, fun x y => match x, y with | 6, 2 => some (LV.v (AV.snap [(aI x6_2_0)])) | 6, 6 => some (LV.v (AV.snap [(aI x6_6_0)])) | _, _ => none, fun _ _ => none, false⟩) (p := some (ltZ (Int.ofNat i) n) = some true ∧ (false = false ∧ (none : Option Nat) = none ∧ ixA (AV.imm xs) (Int.ofNat i) 1 = some [aI x6_2_0]) ∧ (false = false ∧ (none : Option Nat) = none ∧ ixA (AV.imm ys) (Int.ofNat i) 1 = some [aI x6_6_0]) ∧ (some !eqZ x6_2_0 x6_6_0) = some false ∧ true = true ∧ (blk (cxZ m)) 30 (at_ Tryz.prog 30 4) [LV.v (AV.imm xs), LV.v (AV.imm ys), LV.v (aI n), LV.v (aI (IntKind.wrap IntKind.i64 (Int.ofNat (Nat.succ i))))] h = some r) (by kernel_rfl) ⟨congrArg some k0, ⟨⟨rfl, ⟨rfl, k1⟩⟩, ⟨⟨rfl, ⟨rfl, k2⟩⟩, ⟨congrArg some k3, ⟨rfl, k4⟩⟩⟩⟩⟩

theorem s37_4_2 (m : Int) (xs ys : List (List AV)) (n : Int) (i : Nat) (h : Heap) (k0 : ltZ (Int.ofNat i) n = false) :
    blk (cxZ m) 30 (at_ Tryz.prog 30 4) [.v (.imm xs), .v (.imm ys), .v (.int .i64 n), .v (.int .i64 (Int.ofNat i))] h = some ((LV.v (AV.bool true), h)) :=
  blk_via (scr := ⟨fun x => match x with | 14 => some false | _ => none, fun _ _ => none, fun _ _ => none, false⟩) (p := some (ltZ (Int.ofNat i) n) = some false ∧ some (LV.v (AV.bool true), h) = some ((LV.v (AV.bool true), h))) (by kernel_rfl) ⟨congrArg some k0, rfl⟩

theorem s46_0 (m : Int) (xs ys : List (List AV)) (h : Heap) (k0 : (!eqZ (Int.ofNat (List.length xs)) (Int.ofNat (List.length ys))) = true) :
    blk (cxZ m) 39 (body_ Tryz.prog 39) [.v (.imm xs), .v (.imm ys)] h = some ((LV.v (AV.bool false), h)) :=
  blk_via (scr := ⟨fun x => match x with | 10 => some true | _ => none, fun _ _ => none, fun _ _ => none, false⟩) (p := (some !eqZ (Int.ofNat (List.length xs)) (Int.ofNat (List.length ys))) = some true ∧ some (LV.v (AV.bool false), h) = some ((LV.v (AV.bool false), h))) (by kernel_rfl) ⟨congrArg some k0, rfl⟩

theorem s46_1 (m : Int) (xs ys : List (List AV)) (h : Heap) (r : LV × Heap) (k0 : (!eqZ (Int.ofNat (List.length xs)) (Int.ofNat (List.length ys))) = false) (k1 : (blk (cxZ m)) 39 (at_ Tryz.prog 39 4) [LV.v (AV.imm xs), LV.v (AV.imm ys), LV.v (aI (Int.ofNat (List.length xs))), LV.v (aI (Int.ofNat 0))] h = some r) :
    blk (cxZ m) 39 (body_ Tryz.prog 39) [.v (.imm xs), .v (.imm ys)] h = some r :=
  blk_via (scr := ⟨fun x => match x with | 10 => some false | _ => none, fun _ _ => none, fun _ _ => none, false⟩) (p := (some !eqZ (Int.ofNat (List.length xs)) (Int.ofNat (List.length ys))) = some false ∧ true = true ∧ (blk (cxZ m)) 39 (at_ Tryz.prog 39 4) [LV.v (AV.imm xs), LV.v (AV.imm ys), LV.v (aI (Int.ofNat (List.length xs))), LV.v (aI (Int.ofNat 0))] h = some r) (by kernel_rfl) ⟨congrArg some k0, ⟨rfl, k1⟩⟩

theorem s46_4_0 (m : Int) (xs ys : List (List AV)) (n : Int) (i : Nat) (h : Heap) (x6_2_0 : Int) (x6_6_0 : Int) (k0 : ltZ (Int.ofNat i) n = true) (k1 : ixA (AV.imm xs) (Int.ofNat i) 1 = some [AV.int IntKind.u8 x6_2_0]) (k2 : ixA (AV.imm ys) (Int.ofNat i) 1 = some [AV.int IntKind.u8 x6_6_0]) (k3 : (!eqZ x6_2_0 x6_6_0) = true) :
    blk (cxZ m) 39 (at_ Tryz.prog 39 4) [.v (.imm xs), .v (.imm ys), .v (.int .i64 n), .v (.int .i64 (Int.ofNat i))] h = some ((LV.v (AV.bool false), h)) :=
  blk_via (scr := ⟨fun x => match x with | 14 => some true | 24 => some true | _ => none, fun x y => match x, y with | 6, 2 => some (LV.v (AV.snap [(AV.int Go.IntKind.u8 x6_2_0)])) | 6, 6 => some (LV.v (AV.snap [(AV.int Go.IntKind.u8 x6_6_0)])) | _, _ => none, fun _ _ => none, false⟩) (p := some (ltZ (Int.ofNat i) n) = some true ∧ (false = false ∧ (none : Option Nat) = none ∧ ixA (AV.imm xs) (Int.ofNat i) 1 = some [AV.int IntKind.u8 x6_2_0]) ∧ (false = false ∧ (none : Option Nat) = none ∧ ixA (AV.imm ys) (Int.ofNat i) 1 = some [AV.int IntKind.u8 x6_6_0]) ∧ (some !eqZ x6_2_0 x6_6_0) = some true ∧ some (LV.v (AV.bool false), h) = some ((LV.v (AV.bool false), h))) (by kernel_rfl) ⟨congrArg some k0, ⟨⟨rfl, ⟨rfl, k1⟩⟩, ⟨⟨rfl, ⟨rfl, k2⟩⟩, ⟨congrArg some k3, rfl⟩⟩⟩⟩

theorem s46_4_1 (m : Int) (xs ys : List (List AV)) (n : Int) (i : Nat) (h : Heap) (x6_2_0 : Int) (x6_6_0 : Int) (r : LV × Heap) (k0 : ltZ (Int.ofNat i) n = true) (k1 : ixA (AV.imm xs) (Int.ofNat i) 1 = some [AV.int IntKind.u8 x6_2_0]) (k2 : ixA (AV.imm ys) (Int.ofNat i) 1 = some [AV.int IntKind.u8 x6_6_0]) (k3 : (!eqZ x6_2_0 x6_6_0) = false) (k4 : (blk (cxZ m)) 39 (at_ Tryz.prog 39 4) [LV.v (AV.imm xs), LV.v (AV.imm ys), LV.v (aI n), LV.v (aI (IntKind.wrap IntKind.i64 (Int.ofNat (Nat.succ i))))] h = some r) :
    blk (cxZ m) 39 (at_ Tryz.prog 39 4) [.v (.imm xs), .v (.imm ys), .v (.int .i64 n), .v (.int .i64 (Int.ofNat i))] h = some r :=
  blk_via (scr := ⟨fun x => match x with | 14 => some true | 24 => some false | _ => none, fun x y => match x, y with | 6, 2 => some (LV.v (AV.snap [(AV.int Go.IntKind.u8 x6_2_0)])) | 6, 6 => some (LV.v (AV.snap [(AV.int Go.IntKind.u8 x6_6_0)])) | _, _ => none, fun _ _ => none, false⟩) (p := some (ltZ (Int.ofNat i) n) = some true ∧ (false = false ∧ (none : Option Nat) = none ∧ ixA (AV.imm xs) (Int.ofNat i) 1 = some [AV.int IntKind.u8 x6_2_0]) ∧ (false = false ∧ (none : Option Nat) = none ∧ ixA (AV.imm ys) (Int.ofNat i) 1 = some [AV.int IntKind.u8 x6_6_0]) ∧ (some !eqZ x6_2_0 x6_6_0) = some false ∧ true = true ∧ (blk (cxZ m)) 39 (at_ Tryz.prog 39 4) [LV.v (AV.imm xs), LV.v (AV.imm ys), LV.v (aI n), LV.v (aI (IntKind.wrap IntKind.i64 (Int.ofNat (Nat.succ i))))] h = some r) (by kernel_rfl) ⟨congrArg some k0, ⟨⟨rfl, ⟨rfl, k1⟩⟩, ⟨⟨rfl, ⟨rfl, k2⟩⟩, ⟨congrArg some k3, ⟨rfl, k4⟩⟩⟩⟩⟩

theorem s46_4_2 (m : Int) (xs ys : List (List AV)) (n : Int) (i : Nat) (h : Heap) (k0 : ltZ (Int.ofNat i) n = false) :
    blk (cxZ m) 39 (at_ Tryz.prog 39 4) [.v (.imm xs), .v (.imm ys), .v (.int .i64 n), .v (.int .i64 (Int.ofNat i))] h = some ((LV.v (AV.bool true), h)) :=
  blk_via (scr := ⟨fun x => match x with | 14 => some false | _ => none, fun _ _ => none, fun _ _ => none, false⟩) (p := some (ltZ (Int.ofNat i) n) = some false ∧ some (LV.v (AV.bool true), h) = some ((LV.v (AV.bool true), h))) (by kernel_rfl) ⟨congrArg some k0, rfl⟩

end Go.Proofs.YtmgjnbhofkchmaaGreatDoor

/-
  Ways through texts, one by one (printed by a program of this repo).
-/
namespace Go.Proofs.YtmgjnbhofkchmaaGreatDoor
open Go Go.Proofs.Am

theorem s31_0 (m : Int) (p1 : List (List AV)) (r1 : List (List AV)) (p2 : List (List AV)) (r2 : List (List AV)) (h : Heap) (x1_4 : Bool) (x1_4h : Heap) (x1_10 : Bool) (x1_10h : Heap) (k0 : cA m 30 [LV.v (AV.imm p1), LV.v (AV.imm p2)] h = some (LV.v (AV.bool x1_4), x1_4h)) (k1 : x1_4 = true) (k2 : cA m 30 [LV.v (AV.imm r1), LV.v (AV.imm r2)] x1_4h = some (LV.v (AV.bool x1_10), x1_10h)) :
    blk (cxZ m) 24 (body_ Tryz.prog 24) [.v (.agg [.imm p1, .imm r1]), .v (.agg [.imm p2, .imm r2])] h = some ((LV.v (AV.bool x1_10), x1_10h)) :=
  blk_via (scr := ⟨fun x => match x with | 10 => some true | _ => none, fun _ _ => none, fun x y => match x, y with | 1, 4 => some (LV.v (AV.bool x1_4), x1_4h) | 1, 10 => some (LV.v (AV.bool x1_10), x1_10h) | _, _ => none, false⟩) (p := cA m 30 [LV.v (AV.imm p1), LV.v (AV.imm p2)] h = some (LV.v (AV.bool x1_4), x1_4h) ∧ some x1_4 = some true ∧ some true = some true ∧ some true = some true ∧ some true = some true ∧ some true = some true ∧ cA m 30 [LV.v (AV.imm r1), LV.v (AV.imm r2)] x1_4h = some (LV.v (AV.bool x1_10), x1_10h) ∧ some true = some true ∧ some (LV.v (AV.bool x1_10), x1_10h) = some ((LV.v (AV.bool x1_10), x1_10h))) (by kernel_rfl) ⟨k0, ⟨congrArg some k1, ⟨rfl, ⟨rfl, ⟨rfl, ⟨rfl, ⟨k2, ⟨rfl, rfl⟩⟩⟩⟩⟩⟩⟩⟩

theorem s31_1 (m : Int) (p1 : List (List AV)) (r1 : List (List AV)) (p2 : List (List AV)) (r2 : List (List AV)) (h : Heap) (x1_4 : Bool) (x1_4h : Heap) (k0 : cA m 30 [LV.v (AV.imm p1), LV.v (AV.imm p2)] h = some (LV.v (AV.bool x1_4), x1_4h)) (k1 : x1_4 = false) :
    blk (cxZ m) 24 (body_ Tryz.prog 24) [.v (.agg [.imm p1, .imm r1]), .v (.agg [.imm p2, .imm r2])] h = some ((LV.v (AV.bool false), x1_4h)) :=
  blk_via (scr := ⟨fun x => match x with | 10 => some false | _ => none, fun _ _ => none, fun x y => match x, y with | 1, 4 => some (LV.v (AV.bool x1_4), x1_4h) | _, _ => none, false⟩) (p := cA m 30 [LV.v (AV.imm p1), LV.v (AV.imm p2)] h = some (LV.v (AV.bool x1_4), x1_4h) ∧ some x1_4 = some false ∧ some false = some false ∧ some false = some false ∧ some false = some false ∧ some false = some false ∧ some false = some false ∧ some (LV.v (AV.bool false), x1_4h) = some ((LV.v (AV.bool false), x1_4h))) (by kernel_rfl) ⟨k0, ⟨congrArg some k1, ⟨rfl, ⟨rfl, ⟨rfl, ⟨rfl, ⟨rfl, rfl⟩⟩⟩⟩⟩⟩⟩

theorem s36_0 (m : Int) (t1 : Int) (l1 : List (List AV)) (b1 : List (List AV)) (t2 : Int) (l2 : List (List AV)) (b2 : List (List AV)) (h : Heap) (x1_10 : Bool) (x1_10h : Heap) (x1_17 : Bool) (x1_17h : Heap) (k0 : eqZ t1 t2 = true) (k1 : cA m 30 [LV.v (AV.imm l1), LV.v (AV.imm l2)] h = some (LV.v (AV.bool x1_10), x1_10h)) (k2 : x1_10 = true) (k3 : cA m 31 [LV.v (AV.imm b1), LV.v (AV.imm b2), LV.v (AV.fn 32 [] [])] x1_10h = some (LV.v (AV.bool x1_17), x1_17h)) :
    blk (cxZ m) 29 (body_ Tryz.prog 29) [.v (.agg [.int .i64 t1, .imm l1, .imm b1]), .v (.agg [.int .i64 t2, .imm l2, .imm b2])] h = some ((LV.v (AV.bool x1_17), x1_17h)) :=
  blk_via (scr := ⟨fun x => match x with | 10 => some true | 17 => some true | _ => none, fun _ _ => none, fun x y => match x, y with | 1, 10 => some (LV.v (AV.bool x1_10), x1_10h) | 1, 17 => some (LV.v (AV.bool x1_17), x1_17h) | _, _ => none, false⟩) (p := some (eqZ t1 t2) = some true ∧ some true = some true ∧ some true = some true ∧ some true = some true ∧ some true = some true ∧ cA m 30 [LV.v (AV.imm l1), LV.v (AV.imm l2)] h = some (LV.v (AV.bool x1_10), x1_10h) ∧ some true = some true ∧ some x1_10 = some true ∧ some true = some true ∧ some true = some true ∧ some true = some true ∧ some true = some true ∧ cA m 31 [LV.v (AV.imm b1), LV.v (AV.imm b2), LV.v (AV.fn 32 [] [])] x1_10h = some (LV.v (AV.bool x1_17), x1_17h) ∧ some true = some true ∧ some (LV.v (AV.bool x1_17), x1_17h) = some ((LV.v (AV.bool x1_17), x1_17h))) (by kernel_rfl) ⟨congrArg some k0, ⟨rfl, ⟨rfl, ⟨rfl, ⟨rfl, ⟨k1, ⟨rfl, ⟨congrArg some k2, ⟨rfl, ⟨rfl, ⟨rfl, ⟨rfl, ⟨k3, ⟨rfl, rfl⟩⟩⟩⟩⟩⟩⟩⟩⟩⟩⟩⟩⟩⟩

theorem s36_1 (m : Int) (t1 : Int) (l1 : List (List AV)) (b1 : List (List AV)) (t2 : Int) (l2 : List (List AV)) (b2 : List (List AV)) (h : Heap) (x1_10 : Bool) (x1_10h : Heap) (k0 : eqZ t1 t2 = true) (k1 : cA m 30 [LV.v (AV.imm l1), LV.v (AV.imm l2)] h = some (LV.v (AV.bool x1_10), x1_10h)) (k2 : x1_10 = false) :
    blk (cxZ m) 29 (body_ Tryz.prog 29) [.v (.agg [.int .i64 t1, .imm l1, .imm b1]), .v (.agg [.int .i64 t2, .imm l2, .imm b2])] h = some ((LV.v (AV.bool false), x1_10h)) :=
  blk_via (scr := ⟨fun x => match x with | 10 => some true | 17 => some false | _ => none, fun _ _ => none, fun x y => match x, y with | 1, 10 => some (LV.v (AV.bool x1_10), x1_10h) | _, _ => none, false⟩) (p := some (eqZ t1 t2) = some true ∧ some true = some true ∧ some true = some true ∧ some true = some true ∧ some true = some true ∧ cA m 30 [LV.v (AV.imm l1), LV.v (AV.imm l2)] h = some (LV.v (AV.bool x1_10), x1_10h) ∧ some true = some true ∧ some x1_10 = some false ∧ some false = some false ∧ some false = some false ∧ some false = some false ∧ some false = some false ∧ some false = some false ∧ some (LV.v (AV.bool false), x1_10h) = some ((LV.v (AV.bool false), x1_10h))) (by kernel_rfl) ⟨congrArg some k0, ⟨rfl, ⟨rfl, ⟨rfl, ⟨rfl, ⟨k1, ⟨rfl, ⟨congrArg some k2, ⟨rfl, ⟨rfl, ⟨rfl, ⟨rfl, ⟨rfl, rfl⟩⟩⟩⟩⟩⟩⟩⟩⟩⟩⟩⟩⟩

theorem s36_2 (m : Int) (t1 : Int) (l1 : List (List AV)) (b1 : List (List AV)) (t2 : Int) (l2 : List (List AV)) (b2 : List (List AV)) (h : Heap) (k0 : eqZ t1 t2 = false) :
    blk (cxZ m) 29 (body_ Tryz.prog 29) [.v (.agg [.int .i64 t1, .imm l1, .imm b1]), .v (.agg [.int .i64 t2, .imm l2, .imm b2])] h = some ((LV.v (AV.bool false), h)) :=
  blk_via (scr := ⟨fun x => match x with | 10 => some false | _ => none, fun _ _ => none, fun _ _ => none, false⟩) (p := some (eqZ t1 t2) = some false ∧ some false = some false ∧ some false = some false ∧ some false = some false ∧ some false = some false ∧ some false = some false ∧ some (LV.v (AV.bool false), h) = some ((LV.v (AV.bool false), h))) (by kernel_rfl) ⟨congrArg some k0, ⟨rfl, ⟨rfl, ⟨rfl, ⟨rfl, ⟨rfl, rfl⟩⟩⟩⟩⟩⟩

theorem s39_0 (m : Int) (o1 : Int) (a1 : Int) (b1 : Int) (v1 : Int) (t1 : Int) (l1 : List (List AV)) (bd1 : List (List AV)) (el1 : List (List AV)) (q1 : Bool) (o2 : Int) (a2 : Int) (b2 : Int) (v2 : Int) (t2 : Int) (l2 : List (List AV)) (bd2 : List (List AV)) (el2 : List (List AV)) (q2 : Bool) (h : Heap) (x1_45 : Bool) (x1_45h : Heap) (x1_52 : Bool) (x1_52h : Heap) (x1_59 : Bool) (x1_59h : Heap) (k0 : eqZ o1 o2 = true) (k1 : eqZ a1 a2 = true) (k2 : eqZ b1 b2 = true) (k3 : eqZ v1 v2 = true) (k4 : eqZ t1 t2 = true) (k5 : (q1 == q2) = true) (k6 : cA m 30 [LV.v (AV.imm l1), LV.v (AV.imm l2)] h = some (LV.v (AV.bool x1_45), x1_45h)) (k7 : x1_45 = true) (k8 : cA m 31 [LV.v (AV.imm bd1), LV.v (AV.imm bd2), LV.v (AV.fn 32 [] [])] x1_45h = some (LV.v (AV.bool x1_52), x1_52h)) (k9 : x1_52 = true) (k10 : cA m 31 [LV.v (AV.imm el1), LV.v (AV.imm el2), LV.v (AV.fn 32 [] [])] x1_52h = some (LV.v (AV.bool x1_59), x1_59h)) :
    blk (cxZ m) 32 (body_ Tryz.prog 32) [.v (.agg [.int .i64 o1, .int .i64 a1, .int .i64 b1, .int .u64 v1, .int .i64 t1, .imm l1, .imm bd1, .imm el1, .bool q1]), .v (.agg [.int .i64 o2, .int .i64 a2, .int .i64 b2, .int .u64 v2, .int .i64 t2, .imm l2, .imm bd2, .imm el2, .bool q2])] h = some ((LV.v (AV.bool x1_59), x1_59h)) :=
  blk_via (scr := ⟨fun x => match x with | 10 => some true | 17 => some true | 24 => some true | 31 => some true | 38 => some true | 45 => some true | 52 => some true | 59 => some true | _ => none, fun _ _ => none, fun x y => match x, y with | 1, 45 => some (LV.v (AV.bool x1_45), x1_45h) | 1, 52 => some (LV.v (AV.bool x1_52), x1_52h) | 1, 59 => some (LV.v (AV.bool x1_59), x1_59h) | _, _ => none, false⟩) (p := some (eqZ o1 o2) = some true ∧ some true = some true ∧ some true = some true ∧ some true = some true ∧ some true = some true ∧ some true = some true ∧ some (eqZ a1 a2) = some true ∧ some true = some true ∧ some true = some true ∧ some true = some true ∧ some true = some true ∧ some true = some true ∧ some (eqZ b1 b2) = some true ∧ some true = some true ∧ some true = some true ∧ some true = some true ∧ some true = some true ∧ some true = some true ∧ some (eqZ v1 v2) = some true ∧ some true = some true ∧ some true = some true ∧ some true = some true ∧ some true = some true ∧ some true = some true ∧ some (eqZ t1 t2) = some true ∧ some true = some true ∧ some true = some true ∧ some true = some true ∧ some true = some true ∧ some true = some true ∧ some (q1 == q2) = some true ∧ some true = some true ∧ some true = some true ∧ some true = some true ∧ some true = some true ∧ cA m 30 [LV.v (AV.imm l1), LV.v (AV.imm l2)] h = some (LV.v (AV.bool x1_45), x1_45h) ∧ some true = some true ∧ some x1_45 = some true ∧ some true = some true ∧ some true = some true ∧ some true = some true ∧ some true = some true ∧ cA m 31 [LV.v (AV.imm bd1), LV.v (AV.imm bd2), LV.v (AV.fn 32 [] [])] x1_45h = some (LV.v (AV.bool x1_52), x1_52h) ∧ some true = some true ∧ some x1_52 = some true ∧ some true = some true ∧ some true = some true ∧ some true = some true ∧ some true = some true ∧ cA m 31 [LV.v (AV.imm el1), LV.v (AV.imm el2), LV.v (AV.fn 32 [] [])] x1_52h = some (LV.v (AV.bool x1_59), x1_59h) ∧ some true = some true ∧ some (LV.v (AV.bool x1_59), x1_59h) = some ((LV.v (AV.bool x1_59), x1_59h))) (by kernel_rfl) ⟨congrArg some k0, ⟨rfl, ⟨rfl, ⟨rfl, ⟨rfl, ⟨rfl, ⟨congrArg some k1, ⟨rfl, ⟨rfl, ⟨rfl, ⟨rfl, ⟨rfl, ⟨congrArg some k2, ⟨rfl, ⟨rfl, ⟨rfl, ⟨rfl, ⟨rfl, ⟨congrArg some k3, ⟨rfl, ⟨rfl, ⟨rfl, ⟨rfl, ⟨rfl, ⟨congrArg some k4, ⟨rfl, ⟨rfl, ⟨rfl, ⟨rfl, ⟨rfl, ⟨congrArg some k5, ⟨rfl, ⟨rfl, ⟨rfl, ⟨rfl, ⟨k6, ⟨rfl, ⟨congrArg some k7, ⟨rfl, ⟨rfl, ⟨rfl, ⟨rfl, ⟨k8, ⟨rfl, ⟨congrArg some k9, ⟨rfl, ⟨rfl, ⟨rfl, ⟨rfl, ⟨k10, ⟨rfl, rfl⟩⟩⟩⟩⟩⟩⟩⟩⟩⟩⟩⟩⟩⟩⟩⟩⟩⟩⟩⟩⟩⟩⟩⟩⟩⟩⟩⟩⟩⟩⟩⟩⟩⟩⟩⟩⟩⟩⟩⟩⟩⟩⟩⟩⟩⟩⟩⟩⟩⟩⟩

theorem s39_1 (m : Int) (o1 : Int) (a1 : Int) (b1 : Int) (v1 : Int) (t1 : Int) (l1 : List (List AV)) (bd1 : List (List AV)) (el1 : List (List AV)) (q1 : Bool) (o2 : Int) (a2 : Int) (b2 : Int) (v2 : Int) (t2 : Int) (l2 : List (List AV)) (bd2 : List (List AV)) (el2 : List (List AV)) (q2 : Bool) (h : Heap) (x1_45 : Bool) (x1_45h : Heap) (x1_52 : Bool) (x1_52h : Heap) (k0 : eqZ o1 o2 = true) (k1 : eqZ a1 a2 = true) (k2 : eqZ b1 b2 = true) (k3 : eqZ v1 v2 = true) (k4 : eqZ t1 t2 = true) (k5 : (q1 == q2) = true) (k6 : cA m 30 [LV.v (AV.imm l1), LV.v (AV.imm l2)] h = some (LV.v (AV.bool x1_45), x1_45h)) (k7 : x1_45 = true) (k8 : cA m 31 [LV.v (AV.imm bd1), LV.v (AV.imm bd2), LV.v (AV.fn 32 [] [])] x1_45h = some (LV.v (AV.bool x1_52), x1_52h)) (k9 : x1_52 = false) :
    blk (cxZ m) 32 (body_ Tryz.prog 32) [.v (.agg [.int .i64 o1, .int .i64 a1, .int .i64 b1, .int .u64 v1, .int .i64 t1, .imm l1, .imm bd1, .imm el1, .bool q1]), .v (.agg [.int .i64 o2, .int .i64 a2, .int .i64 b2, .int .u64 v2, .int .i64 t2, .imm l2, .imm bd2, .imm el2, .bool q2])] h = some ((LV.v (AV.bool false), x1_52h)) :=
  blk_via (scr := ⟨fun x => match x with | 10 => some true | 17 => some true | 24 => some true | 31 => some true | 38 => some true | 45 => some true | 52 => some true | 59 => some false | _ => none, fun _ _ => none, fun x y => match x, y with | 1, 45 => some (LV.v (AV.bool x1_45), x1_45h) | 1, 52 => some (LV.v (AV.bool x1_52), x1_52h) | _, _ => none, false⟩) (p := some (eqZ o1 o2) = some true ∧ some true = some true ∧ some true = some true ∧ some true = some true ∧ some true = some true ∧ some true = some true ∧ some (eqZ a1 a2) = some true ∧ some true = some true ∧ some true = some true ∧ some true = some true ∧ some true = some true ∧ some true = some true ∧ some (eqZ b1 b2) = some true ∧ some true = some true ∧ some true = some true ∧ some true = some true ∧ some true = some true ∧ some true = some true ∧ some (eqZ v1 v2) = some true ∧ some true = some true ∧ some true = some true ∧ some true = some true ∧ some true = some true ∧ some true = some true ∧ some (eqZ t1 t2) = some true ∧ some true = some true ∧ some true = some true ∧ some true = some true ∧ some true = some true ∧ some true = some true ∧ some (q1 == q2) = some true ∧ some true = some true ∧ some true = some true ∧ some true = some true ∧ some true = some true ∧ cA m 30 [LV.v (AV.imm l1), LV.v (AV.imm l2)] h = some (LV.v (AV.bool x1_45), x1_45h) ∧ some true = some true ∧ some x1_45 = some true ∧ some true = some true ∧ some true = some true ∧ some true = some true ∧ some true = some true ∧ cA m 31 [LV.v (AV.imm bd1), LV.v (AV.imm bd2), LV.v (AV.fn 32 [] [])] x1_45h = some (LV.v (AV.bool x1_52), x1_52h) ∧ some true = some true ∧ some x1_52 = some false ∧ some false = some false ∧ some false = some false ∧ some false = some false ∧ some false = some false ∧ some false = some false ∧ some (LV.v (AV.bool false), x1_52h) = some ((LV.v (AV.bool false), x1_52h))) (by kernel_rfl) ⟨congrArg some k0, ⟨rfl, ⟨rfl, ⟨rfl, ⟨rfl, ⟨rfl, ⟨congrArg some k1, ⟨rfl, ⟨rfl, ⟨rfl, ⟨rfl, ⟨rfl, ⟨congrArg some k2, ⟨rfl, ⟨rfl, ⟨rfl, ⟨rfl, ⟨rfl, ⟨congrArg some k3, ⟨rfl, ⟨rfl, ⟨rfl, ⟨rfl, ⟨rfl, ⟨congrArg some k4, ⟨rfl, ⟨rfl, ⟨rfl, ⟨rfl, ⟨rfl, ⟨congrArg some k5, ⟨rfl, ⟨rfl, ⟨rfl, ⟨rfl, ⟨k6, ⟨rfl, ⟨congrArg some k7, ⟨rfl, ⟨rfl, ⟨rfl, ⟨rfl, ⟨k8, ⟨rfl, ⟨congrArg some k9, ⟨rfl, ⟨rfl, ⟨rfl, ⟨rfl, ⟨rfl, rfl⟩⟩⟩⟩⟩⟩⟩⟩⟩⟩⟩⟩⟩⟩⟩⟩⟩⟩⟩⟩⟩⟩⟩⟩⟩⟩⟩⟩⟩⟩⟩⟩⟩⟩⟩⟩⟩⟩⟩⟩⟩⟩⟩⟩⟩⟩⟩⟩⟩⟩

theorem s39_2 (m : Int) (o1 : Int) (a1 : Int) (b1 : Int) (v1 : Int) (t1 : Int) (l1 : List (List AV)) (bd1 : List (List AV)) (el1 : List (List AV)) (q1 : Bool) (o2 : Int) (a2 : Int) (b2 : Int) (v2 : Int) (t2 : Int) (l2 : List (List AV)) (bd2 : List (List AV)) (el2 : List (List AV)) (q2 : Bool) (h : Heap) (x1_45 : Bool) (x1_45h : Heap) (k0 : eqZ o1 o2 = true) (k1 : eqZ a1 a2 = true) (k2 : eqZ b1 b2 = true) (k3 : eqZ v1 v2 = true) (k4 : eqZ t1 t2 = true) (k5 : (q1 == q2) = true) (k6 : cA m 30 [LV.v (AV.imm l1), LV.v (AV.imm l2)] h = some (LV.v (AV.bool x1_45), x1_45h)) (k7 : x1_45 = false) :
    blk (cxZ m) 32 (body_ Tryz.prog 32) [.v (.agg [.int .i64 o1, .int .i64 a1, .int .i64 b1, .int .u64 v1, .int .i64 t1, .imm l1, .imm bd1, .imm el1, .bool q1]), .v (.agg [.int .i64 o2, .int .i64 a2, .int .i64 b2, .int .u64 v2, .int .i64 t2, .imm l2, .imm bd2, .imm el2, .bool q2])] h = some ((LV.v (AV.bool false), x1_45h)) :=
  blk_via (scr := ⟨fun x => match x with | 10 => some true | 17 => some true | 24 => some true | 31 => some true | 38 => some true | 45 => some true | 52 => some false | _ => none, fun _ _ => none, fun x y => match x, y with | 1, 45 => some (LV.v (AV.bool x1_45), x1_45h) | _, _ => none, false⟩) (p := some (eqZ o1 o2) = some true ∧ some true = some true ∧ some true = some true ∧ some true = some true ∧ some true = some true ∧ some true = some true ∧ some (eqZ a1 a2) = some true ∧ some true = some true ∧ some true = some true ∧ some true = some true ∧ some true = some true ∧ some true = some true ∧ some (eqZ b1 b2) = some true ∧ some true = some true ∧ some true = some true ∧ some true = some true ∧ some true = some true ∧ some true = some true ∧ some (eqZ v1 v2) = some true ∧ some true = some true ∧ some true = some true ∧ some true = some true ∧ some true = some true ∧ some true = some true ∧ some (eqZ t1 t2) = some true ∧ some true = some true ∧ some true = some true ∧ some true = some true ∧ some true = some true ∧ some true = some true ∧ some (q1 == q2) = some true ∧ some true = some true ∧ some true = some true ∧ some true = some true ∧ some true = some true ∧ cA m 30 [LV.v (AV.imm l1), LV.v (AV.imm l2)] h = some (LV.v (AV.bool x1_45), x1_45h) ∧ some true = some true ∧ some x1_45 = some false ∧ some false = some false ∧ some false = some false ∧ some false = some false ∧ some false = some false ∧ some false = some false ∧ some (LV.v (AV.bool false), x1_45h) = some ((LV.v (AV.bool false), x1_45h))) (by kernel_rfl) ⟨congrArg some k0, ⟨rfl, ⟨rfl, ⟨rfl, ⟨rfl, ⟨rfl, ⟨congrArg some k1, ⟨rfl, ⟨rfl, ⟨rfl, ⟨rfl, ⟨rfl, ⟨congrArg some k2, ⟨rfl, ⟨rfl, ⟨rfl, ⟨rfl, ⟨rfl, ⟨congrArg some k3, ⟨rfl, ⟨rfl, ⟨rfl, ⟨rfl, ⟨rfl, ⟨congrArg some k4, ⟨rfl, ⟨rfl, ⟨rfl, ⟨rfl, ⟨rfl, ⟨congrArg some k5, ⟨rfl, ⟨rfl, ⟨rfl, ⟨rfl, ⟨k6, ⟨rfl, ⟨congrArg some k7, ⟨rfl, ⟨rfl, ⟨rfl, ⟨rfl, ⟨rfl, rfl⟩⟩⟩⟩⟩⟩⟩⟩⟩⟩⟩⟩⟩⟩⟩⟩⟩⟩⟩⟩⟩⟩⟩⟩⟩⟩⟩⟩⟩⟩⟩⟩⟩⟩⟩⟩⟩⟩⟩⟩⟩⟩⟩

theorem s39_3 (m : Int) (o1 : Int) (a1 : Int) (b1 : Int) (v1 : Int) (t1 : Int) (l1 : List (List AV)) (bd1 : List (List AV)) (el1 : List (List AV)) (q1 : Bool) (o2 : Int) (a2 : Int) (b2 : Int) (v2 : Int) (t2 : Int) (l2 : List (List AV)) (bd2 : List (List AV)) (el2 : List (List AV)) (q2 : Bool) (h : Heap) (k0 : eqZ o1 o2 = true) (k1 : eqZ a1 a2 = true) (k2 : eqZ b1 b2 = true) (k3 : eqZ v1 v2 = true) (k4 : eqZ t1 t2 = true) (k5 : (q1 == q2) = false) :
    blk (cxZ m) 32 (body_ Tryz.prog 32) [.v (.agg [.int .i64 o1, .int .i64 a1, .int .i64 b1, .int .u64 v1, .int .i64 t1, .imm l1, .imm bd1, .imm el1, .bool q1]), .v (.agg [.int .i64 o2, .int .i64 a2, .int .i64 b2, .int .u64 v2, .int .i64 t2, .imm l2, .imm bd2, .imm el2, .bool q2])] h = some ((LV.v (AV.bool false), h)) :=
  blk_via (scr := ⟨fun x => match x with | 10 => some true | 17 => some true | 24 => some true | 31 => some true | 38 => some true | 45 => some false | _ => none, fun _ _ => none, fun _ _ => none, false⟩) (p := some (eqZ o1 o2) = some true ∧ some true = some true ∧ some true = some true ∧ some true = some true ∧ some true = some true ∧ some true = some true ∧ some (eqZ a1 a2) = some true ∧ some true = some true ∧ some true = some true ∧ some true = some true ∧ some true = some true ∧ some true = some true ∧ some (eqZ b1 b2) = some true ∧ some true = some true ∧ some true = some true ∧ some true = some true ∧ some true = some true ∧ some true = some true ∧ some (eqZ v1 v2) = some true ∧ some true = some true ∧ some true = some true ∧ some true = some true ∧ some true = some true ∧ some true = some true ∧ some (eqZ t1 t2) = some true ∧ some true = some true ∧ some true = some true ∧ some true = some true ∧ some true = some true ∧ some true = some true ∧ some (q1 == q2) = some false ∧ some false = some false ∧ some false = some false ∧ some false = some false ∧ some false = some false ∧ some false = some false ∧ some (LV.v (AV.bool false), h) = some ((LV.v (AV.bool false), h))) (by kernel_rfl) ⟨congrArg some k0, ⟨rfl, ⟨rfl, ⟨rfl, ⟨rfl, ⟨rfl, ⟨congrArg some k1, ⟨rfl, ⟨rfl, ⟨rfl, ⟨rfl, ⟨rfl, ⟨congrArg some k2, ⟨rfl, ⟨rfl, ⟨rfl, ⟨rfl, ⟨rfl, ⟨congrArg some k3, ⟨rfl, ⟨rfl, ⟨rfl, ⟨rfl, ⟨rfl, ⟨congrArg some k4, ⟨rfl, ⟨rfl, ⟨rfl, ⟨rfl, ⟨rfl, ⟨congrArg some k5, ⟨rfl, ⟨rfl, ⟨rfl, ⟨rfl, ⟨rfl, rfl⟩⟩⟩⟩⟩⟩⟩⟩⟩⟩⟩⟩⟩⟩⟩⟩⟩⟩⟩⟩⟩⟩⟩⟩⟩⟩⟩⟩⟩⟩⟩⟩⟩⟩⟩⟩

theorem s39_4 (m : Int) (o1 : Int) (a1 : Int) (b1 : Int) (v1 : Int) (t1 : Int) (l1 : List (List AV)) (bd1 : List (List AV)) (el1 : List (List AV)) (q1 : Bool) (o2 : Int) (a2 : Int) (b2 : Int) (v2 : Int) (t2 : Int) (l2 : List (List AV)) (bd2 : List (List AV)) (el2 : List (List AV)) (q2 : Bool) (h : Heap) (k0 : eqZ o1 o2 = true) (k1 : eqZ a1 a2 = true) (k2 : eqZ b1 b2 = true) (k3 : eqZ v1 v2 = true) (k4 : eqZ t1 t2 = false) :
    blk (cxZ m) 32 (body_ Tryz.prog 32) [.v (.agg [.int .i64 o1, .int .i64 a1, .int .i64 b1, .int .u64 v1, .int .i64 t1, .imm l1, .imm bd1, .imm el1, .bool q1]), .v (.agg [.int .i64 o2, .int .i64 a2, .int .i64 b2, .int .u64 v2, .int .i64 t2, .imm l2, .imm bd2, .imm el2, .bool q2])] h = some ((LV.v (AV.bool false), h)) :=
  blk_via (scr := ⟨fun x => match x with | 10 => some true | 17 => some true | 24 => some true | 31 => some true | 38 => some false | _ => none, fun _ _ => none, fun _ _ => none, false⟩) (p := some (eqZ o1 o2) = some true ∧ some true = some true ∧ some true = some true ∧ some true = some true ∧ some true = some true ∧ some true = some true ∧ some (eqZ a1 a2) = some true ∧ some true = some true ∧ some true = some true ∧ some true = some true ∧ some true = some true ∧ some true = some true ∧ some (eqZ b1 b2) = some true ∧ some true = some true ∧ some true = some true ∧ some true = some true ∧ some true = some true ∧ some true = some true ∧ some (eqZ v1 v2) = some true ∧ some true = some true ∧ some true = some true ∧ some true = some true ∧ some true = some true ∧ some true = some true ∧ some (eqZ t1 t2) = some false ∧ some false = some false ∧ some false = some false ∧ some false = some false ∧ some false = some false ∧ some false = some false ∧ some (LV.v (AV.bool false), h) = some ((LV.v (AV.bool false), h))) (by kernel_rfl) ⟨congrArg some k0, ⟨rfl, ⟨rfl, ⟨rfl, ⟨rfl, ⟨rfl, ⟨congrArg some k1, ⟨rfl, ⟨rfl, ⟨rfl, ⟨rfl, ⟨rfl, ⟨congrArg some k2, ⟨rfl, ⟨rfl, ⟨rfl, ⟨rfl, ⟨rfl, ⟨congrArg some k3, ⟨rfl, ⟨rfl, ⟨rfl, ⟨rfl, ⟨rfl, ⟨congrArg some k4, ⟨rfl, ⟨rfl, ⟨rfl, ⟨rfl, ⟨rfl, rfl⟩⟩⟩⟩⟩⟩⟩⟩⟩⟩⟩⟩⟩⟩⟩⟩⟩⟩⟩⟩⟩⟩⟩⟩⟩⟩⟩⟩⟩⟩

theorem s39_5 (m : Int) (o1 : Int) (a1 : Int) (b1 : Int) (v1 : Int) (t1 : Int) (l1 : List (List AV)) (bd1 : List (List AV)) (el1 : List (List AV)) (q1 : Bool) (o2 : Int) (a2 : Int) (b2 : Int) (v2 : Int) (t2 : Int) (l2 : List (List AV)) (bd2 : List (List AV)) (el2 : List (List AV)) (q2 : Bool) (h : Heap) (k0 : eqZ o1 o2 = true) (k1 : eqZ a1 a2 = true) (k2 : eqZ b1 b2 = true) (k3 : eqZ v1 v2 = false) :
    blk (cxZ m) 32 (body_ Tryz.prog 32) [.v (.agg [.int .i64 o1, .int .i64 a1, .int .i64 b1, .int .u64 v1, .int .i64 t1, .imm l1, .imm bd1, .imm el1, .bool q1]), .v (.agg [.int .i64 o2, .int .i64 a2, .int .i64 b2, .int .u64 v2, .int .i64 t2, .imm l2, .imm bd2, .imm el2, .bool q2])] h = some ((LV.v (AV.bool false), h)) :=
  blk_via (scr := ⟨fun x => match x with | 10 => some true | 17 => some true | 24 => some true | 31 => some false | _ => none, fun _ _ => none, fun _ _ => none, false⟩) (p := some (eqZ o1 o2) = some true ∧ some true = some true ∧ some true = some true ∧ some true = some true ∧ some true = some true ∧ some true = some true ∧ some (eqZ a1 a2) = some true ∧ some true = some true ∧ some true = some true ∧ some true = some true ∧ some true = some true ∧ some true = some true ∧ some (eqZ b1 b2) = some true ∧ some true = some true ∧ some true = some true ∧ some true = some true ∧ some true = some true ∧ some true = some true ∧ some (eqZ v1 v2) = some false ∧ some false = some false ∧ some false = some false ∧ some false = some false ∧ some false = some false ∧ some false = some false ∧ some (LV.v (AV.bool false), h) = some ((LV.v (AV.bool false), h))) (by kernel_rfl) ⟨congrArg some k0, ⟨rfl, ⟨rfl, ⟨rfl, ⟨rfl, ⟨rfl, ⟨congrArg some k1, ⟨rfl, ⟨rfl, ⟨rfl, ⟨rfl, ⟨rfl, ⟨congrArg some k2, ⟨rfl, ⟨rfl, ⟨rfl, ⟨rfl, ⟨rfl, ⟨congrArg some k3, ⟨rfl, ⟨rfl, ⟨rfl, ⟨rfl, ⟨rfl, rfl⟩⟩⟩⟩⟩⟩⟩⟩⟩⟩⟩⟩⟩⟩⟩⟩⟩⟩⟩⟩⟩⟩⟩⟩

theorem s39_6 (m : Int) (o1 : Int) (a1 : Int) (b1 : Int) (v1 : Int) (t1 : Int) (l1 : List (List AV)) (bd1 : List (List AV)) (el1 : List (List AV)) (q1 : Bool) (o2 : Int) (a2 : Int) (b2 : Int) (v2 : Int) (t2 : Int) (l2 : List (List AV)) (bd2 : List (List AV)) (el2 : List (List AV)) (q2 : Bool) (h : Heap) (k0 : eqZ o1 o2 = true) (k1 : eqZ a1 a2 = true) (k2 : eqZ b1 b2 = false) :
    blk (cxZ m) 32 (body_ Tryz.prog 32) [.v (.agg [.int .i64 o1, .int .i64 a1, .int .i64 b1, .int .u64 v1, .int .i64 t1, .imm l1, .imm bd1, .imm el1, .bool q1]), .v (.agg [.int .i64 o2, .int .i64 a2, .int .i64 b2, .int .u64 v2, .int .i64 t2, .imm l2, .imm bd2, .imm el2, .bool q2])] h = some ((LV.v (AV.bool false), h)) :=
  blk_via (scr := ⟨fun x => match x with | 10 => some true | 17 => some true | 24 => some false | _ => none, fun _ _ => none, fun _ _ => none, false⟩) (p := some (eqZ o1 o2) = some true ∧ some true = some true ∧ some true = some true ∧ some true = some true ∧ some true = some true ∧ some true = some true ∧ some (eqZ a1 a2) = some true ∧ some true = some true ∧ some true = some true ∧ some true = some true ∧ some true = some true ∧ some true = some true ∧ some (eqZ b1 b2) = some false ∧ some false = some false ∧ some false = some false ∧ some false = some false ∧ some false = some false ∧ some false = some false ∧ some (LV.v (AV.bool false), h) = some ((LV.v (AV.bool false), h))) (by kernel_rfl) ⟨congrArg some k0, ⟨rfl, ⟨rfl, ⟨rfl, ⟨rfl, ⟨rfl, ⟨congrArg some k1, ⟨rfl, ⟨rfl, ⟨rfl, ⟨rfl, ⟨rfl, ⟨congrArg some k2, ⟨rfl, ⟨rfl, ⟨rfl, ⟨rfl, ⟨rfl, rfl⟩⟩⟩⟩⟩⟩⟩⟩⟩⟩⟩⟩⟩⟩⟩⟩⟩⟩

theorem s39_7 (m : Int) (o1 : Int) (a1 : Int) (b1 : Int) (v1 : Int) (t1 : Int) (l1 : List (List AV)) (bd1 : List (List AV)) (el1 : List (List AV)) (q1 : Bool) (o2 : Int) (a2 : Int) (b2 : Int) (v2 : Int) (t2 : Int) (l2 : List (List AV)) (bd2 : List (List AV)) (el2 : List (List AV)) (q2 : Bool) (h : Heap) (k0 : eqZ o1 o2 = true) (k1 : eqZ a1 a2 = false) :
    blk (cxZ m) 32 (body_ Tryz.prog 32) [.v (.agg [.int .i64 o1, .int .i64 a1, .int .i64 b1, .int .u64 v1, .int .i64 t1, .imm l1, .imm bd1, .imm el1, .bool q1]), .v (.agg [.int .i64 o2, .int .i64 a2, .int .i64 b2, .int .u64 v2, .int .i64 t2, .imm l2, .imm bd2, .imm el2, .bool q2])] h = some ((LV.v (AV.bool false), h)) :=
  blk_via (scr := ⟨fun x => match x with | 10 => some true | 17 => some false | _ => none, fun _ _ => none, fun _ _ => none, false⟩) (p := some (eqZ o1 o2) = some true ∧ some true = some true ∧ some true = some true ∧ some true = some true ∧ some true = some true ∧ some true = some true ∧ some (eqZ a1 a2) = some false ∧ some false = some false ∧ some false = some false ∧ some false = some false ∧ some false = some false ∧ some false = some false ∧ some (LV.v (AV.bool false), h) = some ((LV.v (AV.bool false), h))) (by kernel_rfl) ⟨congrArg some k0, ⟨rfl, ⟨rfl, ⟨rfl, ⟨rfl, ⟨rfl, ⟨congrArg some k1, ⟨rfl, ⟨rfl, ⟨rfl, ⟨rfl, ⟨rfl, rfl⟩⟩⟩⟩⟩⟩⟩⟩⟩⟩⟩⟩

theorem s39_8 (m : Int) (o1 : Int) (a1 : Int) (b1 : Int) (v1 : Int) (t1 : Int) (l1 : List (List AV)) (bd1 : List (List AV)) (el1 : List (List AV)) (q1 : Bool) (o2 : Int) (a2 : Int) (b2 : Int) (v2 : Int) (t2 : Int) (l2 : List (List AV)) (bd2 : List (List AV)) (el2 : List (List AV)) (q2 : Bool) (h : Heap) (k0 : eqZ o1 o2 = false) :
    blk (cxZ m) 32 (body_ Tryz.prog 32) [.v (.agg [.int .i64 o1, .int .i64 a1, .int .i64 b1, .int .u64 v1, .int .i64 t1, .imm l1, .imm bd1, .imm el1, .bool q1]), .v (.agg [.int .i64 o2, .int .i64 a2, .int .i64 b2, .int .u64 v2, .int .i64 t2, .imm l2, .imm bd2, .imm el2, .bool q2])] h = some ((LV.v (AV.bool false), h)) :=
  blk_via (scr := ⟨fun x => match x with | 10 => some false | _ => none, fun _ _ => none, fun _ _ => none, false⟩) (p := some (eqZ o1 o2) = some false ∧ some false = some false ∧ some false = some false ∧ some false = some false ∧ some false = some false ∧ some false = some false ∧ some (LV.v (AV.bool false), h) = some ((LV.v (AV.bool false), h))) (by kernel_rfl) ⟨congrArg some k0, ⟨rfl, ⟨rfl, ⟨rfl, ⟨rfl, ⟨rfl, rfl⟩⟩⟩⟩⟩⟩

theorem s41_0 (m : Int) (gt1 : Int) (gm1 : Bool) (o1 : Int) (a1 : Int) (b1 : Int) (v1 : Int) (t1 : Int) (l1 : List (List AV)) (bd1 : List (List AV)) (el1 : List (List AV)) (q1 : Bool) (gt2 : Int) (gm2 : Bool) (o2 : Int) (a2 : Int) (b2 : Int) (v2 : Int) (t2 : Int) (l2 : List (List AV)) (bd2 : List (List AV)) (el2 : List (List AV)) (q2 : Bool) (h : Heap) (x1_17 : Bool) (x1_17h : Heap) (k0 : eqZ gt1 gt2 = true) (k1 : (gm1 == gm2) = true) (k2 : cA m 32 [LV.v (AV.agg [aI o1, aI a1, aI b1, AV.int IntKind.u64 v1, aI t1, AV.imm l1, AV.imm bd1, AV.imm el1, AV.bool q1]), LV.v (AV.agg [aI o2, aI a2, aI b2, AV.int IntKind.u64 v2, aI t2, AV.imm l2, AV.imm bd2, AV.imm el2, AV.bool q2])] h = some (LV.v (AV.bool x1_17), x1_17h)) :
    blk (cxZ m) 34 (body_ Tryz.prog 34) [.v (.agg [.int .i64 gt1, .bool gm1, .int .i64 o1, .int .i64 a1, .int .i64 b1, .int .u64 v1, .int .i64 t1, .imm l1, .imm bd1, .imm el1, .bool q1]), .v (.agg [.int .i64 gt2, .bool gm2, .int .i64 o2, .int .i64 a2, .int .i64 b2, .int .u64 v2, .int .i64 t2, .imm l2, .imm bd2, .imm el2, .bool q2])] h = some ((LV.v (AV.bool x1_17), x1_17h)) :=
  blk_via (scr := ⟨fun x => match x with | 10 => some true | 17 => some true | _ => none, fun _ _ => none, fun x y => match x, y with | 1, 17 => some (LV.v (AV.bool x1_17), x1_17h) | _, _ => none, false⟩) (p := some (eqZ gt1 gt2) = some true ∧ some true = some true ∧ some true = some true ∧ some true = some true ∧ some true = some true ∧ some true = some true ∧ some (gm1 == gm2) = some true ∧ some true = some true ∧ some true = some true ∧ some true = some true ∧ some true = some true ∧ cA m 32 [LV.v (AV.agg [aI o1, aI a1, aI b1, AV.int IntKind.u64 v1, aI t1, AV.imm l1, AV.imm bd1, AV.imm el1, AV.bool q1]), LV.v (AV.agg [aI o2, aI a2, aI b2, AV.int IntKind.u64 v2, aI t2, AV.imm l2, AV.imm bd2, AV.imm el2, AV.bool q2])] h = some (LV.v (AV.bool x1_17), x1_17h) ∧ some true = some true ∧ some (LV.v (AV.bool x1_17), x1_17h) = some ((LV.v (AV.bool x1_17), x1_17h))) (by kernel_rfl) ⟨congrArg some k0, ⟨rfl, ⟨rfl, ⟨rfl, ⟨rfl, ⟨rfl, ⟨congrArg some k1, ⟨rfl, ⟨rfl, ⟨rfl, ⟨rfl, ⟨k2, ⟨rfl, rfl⟩⟩⟩⟩⟩⟩⟩⟩⟩⟩⟩⟩⟩

theorem s41_1 (m : Int) (gt1 : Int) (gm1 : Bool) (o1 : Int) (a1 : Int) (b1 : Int) (v1 : Int) (t1 : Int) (l1 : List (List AV)) (bd1 : List (List AV)) (el1 : List (List AV)) (q1 : Bool) (gt2 : Int) (gm2 : Bool) (o2 : Int) (a2 : Int) (b2 : Int) (v2 : Int) (t2 : Int) (l2 : List (List AV)) (bd2 : List (List AV)) (el2 : List (List AV)) (q2 : Bool) (h : Heap) (k0 : eqZ gt1 gt2 = true) (k1 : (gm1 == gm2) = false) :
    blk (cxZ m) 34 (body_ Tryz.prog 34) [.v (.agg [.int .i64 gt1, .bool gm1, .int .i64 o1, .int .i64 a1, .int .i64 b1, .int .u64 v1, .int .i64 t1, .imm l1, .imm bd1, .imm el1, .bool q1]), .v (.agg [.int .i64 gt2, .bool gm2, .int .i64 o2, .int .i64 a2, .int .i64 b2, .int .u64 v2, .int .i64 t2, .imm l2, .imm bd2, .imm el2, .bool q2])] h = some ((LV.v (AV.bool false), h)) :=
  blk_via (scr := ⟨fun x => match x with | 10 => some true | 17 => some false | _ => none, fun _ _ => none, fun _ _ => none, false⟩) (p := some (eqZ gt1 gt2) = some true ∧ some true = some true ∧ some true = some true ∧ some true = some true ∧ some true = some true ∧ some true = some true ∧ some (gm1 == gm2) = some false ∧ some false = some false ∧ some false = some false ∧ some false = some false ∧ some false = some false ∧ some false = some false ∧ some (LV.v (AV.bool false), h) = some ((LV.v (AV.bool false), h))) (by kernel_rfl) ⟨congrArg some k0, ⟨rfl, ⟨rfl, ⟨rfl, ⟨rfl, ⟨rfl, ⟨congrArg some k1, ⟨rfl, ⟨rfl, ⟨rfl, ⟨rfl, ⟨rfl, rfl⟩⟩⟩⟩⟩⟩⟩⟩⟩⟩⟩⟩

theorem s41_2 (m : Int) (gt1 : Int) (gm1 : Bool) (o1 : Int) (a1 : Int) (b1 : Int) (v1 : Int) (t1 : Int) (l1 : List (List AV)) (bd1 : List (List AV)) (el1 : List (List AV)) (q1 : Bool) (gt2 : Int) (gm2 : Bool) (o2 : Int) (a2 : Int) (b2 : Int) (v2 : Int) (t2 : Int) (l2 : List (List AV)) (bd2 : List (List AV)) (el2 : List (List AV)) (q2 : Bool) (h : Heap) (k0 : eqZ gt1 gt2 = false) :
    blk (cxZ m) 34 (body_ Tryz.prog 34) [.v (.agg [.int .i64 gt1, .bool gm1, .int .i64 o1, .int .i64 a1, .int .i64 b1, .int .u64 v1, .int .i64 t1, .imm l1, .imm bd1, .imm el1, .bool q1]), .v (.agg [.int .i64 gt2, .bool gm2, .int .i64 o2, .int .i64 a2, .int .i64 b2, .int .u64 v2, .int .i64 t2, .imm l2, .imm bd2, .imm el2, .bool q2])] h = some ((LV.v (AV.bool false), h)) :=
  blk_via (scr := ⟨fun x => match x with | 10 => some false | _ => none, fun _ _ => none, fun _ _ => none, false⟩) (p := some (eqZ gt1 gt2) = some false ∧ some false = some false ∧ some false = some false ∧ some false = some false ∧ some false = some false ∧ some false = some false ∧ some (LV.v (AV.bool false), h) = some ((LV.v (AV.bool false), h))) (by kernel_rfl) ⟨congrArg some k0, ⟨rfl, ⟨rfl, ⟨rfl, ⟨rfl, ⟨rfl, rfl⟩⟩⟩⟩⟩⟩

theorem s43_0 (m : Int) (o1 : Int) (a1 : Int) (b1 : Int) (v1 : Int) (t1 : Int) (l1 : List (List AV)) (bd1 : List (List AV)) (el1 : List (List AV)) (q1 : Bool) (f1 : List (List AV)) (o2 : Int) (a2 : Int) (b2 : Int) (v2 : Int) (t2 : Int) (l2 : List (List AV)) (bd2 : List (List AV)) (el2 : List (List AV)) (q2 : Bool) (f2 : List (List AV)) (h : Heap) (x1_4 : Bool) (x1_4h : Heap) (x1_10 : Bool) (x1_10h : Heap) (k0 : cA m 32 [LV.v (AV.agg [aI o1, aI a1, aI b1, AV.int IntKind.u64 v1, aI t1, AV.imm l1, AV.imm bd1, AV.imm el1, AV.bool q1]), LV.v (AV.agg [aI o2, aI a2, aI b2, AV.int IntKind.u64 v2, aI t2, AV.imm l2, AV.imm bd2, AV.imm el2, AV.bool q2])] h = some (LV.v (AV.bool x1_4), x1_4h)) (k1 : x1_4 = true) (k2 : cA m 30 [LV.v (AV.imm f1), LV.v (AV.imm f2)] x1_4h = some (LV.v (AV.bool x1_10), x1_10h)) :
    blk (cxZ m) 36 (body_ Tryz.prog 36) [.v (.agg [.int .i64 o1, .int .i64 a1, .int .i64 b1, .int .u64 v1, .int .i64 t1, .imm l1, .imm bd1, .imm el1, .bool q1, .imm f1]), .v (.agg [.int .i64 o2, .int .i64 a2, .int .i64 b2, .int .u64 v2, .int .i64 t2, .imm l2, .imm bd2, .imm el2, .bool q2, .imm f2])] h = some ((LV.v (AV.bool x1_10), x1_10h)) :=
  blk_via (scr := ⟨fun x => match x with | 10 => some true | _ => none, fun _ _ => none, fun x y => match x, y with | 1, 4 => some (LV.v (AV.bool x1_4), x1_4h) | 1, 10 => some (LV.v (AV.bool x1_10), x1_10h) | _, _ => none, false⟩) (p := cA m 32 [LV.v (AV.agg [aI o1, aI a1, aI b1, AV.int IntKind.u64 v1, aI t1, AV.imm l1, AV.imm bd1, AV.imm el1, AV.bool q1]), LV.v (AV.agg [aI o2, aI a2, aI b2, AV.int IntKind.u64 v2, aI t2, AV.imm l2, AV.imm bd2, AV.imm el2, AV.bool q2])] h = some (LV.v (AV.bool x1_4), x1_4h) ∧ some x1_4 = some true ∧ some true = some true ∧ some true = some true ∧ some true = some true ∧ some true = some true ∧ cA m 30 [LV.v (AV.imm f1), LV.v (AV.imm f2)] x1_4h = some (LV.v (AV.bool x1_10), x1_10h) ∧ some true = some true ∧ some (LV.v (AV.bool x1_10), x1_10h) = some ((LV.v (AV.bool x1_10), x1_10h))) (by kernel_rfl) ⟨k0, ⟨congrArg some k1, ⟨rfl, ⟨rfl, ⟨rfl, ⟨rfl, ⟨k2, ⟨rfl, rfl⟩⟩⟩⟩⟩⟩⟩⟩

theorem s43_1 (m : Int) (o1 : Int) (a1 : Int) (b1 : Int) (v1 : Int) (t1 : Int) (l1 : List (List AV)) (bd1 : List (List AV)) (el1 : List (List AV)) (q1 : Bool) (f1 : List (List AV)) (o2 : Int) (a2 : Int) (b2 : Int) (v2 : Int) (t2 : Int) (l2 : List (List AV)) (bd2 : List (List AV)) (el2 : List (List AV)) (q2 : Bool) (f2 : List (List AV)) (h : Heap) (x1_4 : Bool) (x1_4h : Heap) (k0 : cA m 32 [LV.v (AV.agg [aI o1, aI a1, aI b1, AV.int IntKind.u64 v1, aI t1, AV.imm l1, AV.imm bd1, AV.imm el1, AV.bool q1]), LV.v (AV.agg [aI o2, aI a2, aI b2, AV.int IntKind.u64 v2, aI t2, AV.imm l2, AV.imm bd2, AV.imm el2, AV.bool q2])] h = some (LV.v (AV.bool x1_4), x1_4h)) (k1 : x1_4 = false) :
    blk (cxZ m) 36 (body_ Tryz.prog 36) [.v (.agg [.int .i64 o1, .int .i64 a1, .int .i64 b1, .int .u64 v1, .int .i64 t1, .imm l1, .imm bd1, .imm el1, .bool q1, .imm f1]), .v (.agg [.int .i64 o2, .int .i64 a2, .int .i64 b2, .int .u64 v2, .int .i64 t2, .imm l2, .imm bd2, .imm el2, .bool q2, .imm f2])] h = some ((LV.v (AV.bool false), x1_4h)) :=
  blk_via (scr := ⟨fun x => match x with | 10 => some false | _ => none, fun _ _ => none, fun x y => match x, y with | 1, 4 => some (LV.v (AV.bool x1_4), x1_4h) | _, _ => none, false⟩) (p := cA m 32 [LV.v (AV.agg [aI o1, aI a1, aI b1, AV.int IntKind.u64 v1, aI t1, AV.imm l1, AV.imm bd1, AV.imm el1, AV.bool q1]), LV.v (AV.agg [aI o2, aI a2, aI b2, AV.int IntKind.u64 v2, aI t2, AV.imm l2, AV.imm bd2, AV.imm el2, AV.bool q2])] h = some (LV.v (AV.bool x1_4), x1_4h) ∧ some x1_4 = some false ∧ some false = some false ∧ some false = some false ∧ some false = some false ∧ some false = some false ∧ some false = some false ∧ some (LV.v (AV.bool false), x1_4h) = some ((LV.v (AV.bool false), x1_4h))) (by kernel_rfl) ⟨k0, ⟨congrArg some k1, ⟨rfl, ⟨rfl, ⟨rfl, ⟨rfl, ⟨rfl, rfl⟩⟩⟩⟩⟩⟩⟩

theorem s45_0 (m : Int) (o1 : Int) (a1 : Int) (b1 : Int) (v1 : Int) (t1 : Int) (l1 : List (List AV)) (bd1 : List (List AV)) (el1 : List (List AV)) (q1 : Bool) (y1 : List (List AV)) (o2 : Int) (a2 : Int) (b2 : Int) (v2 : Int) (t2 : Int) (l2 : List (List AV)) (bd2 : List (List AV)) (el2 : List (List AV)) (q2 : Bool) (y2 : List (List AV)) (h : Heap) (x1_4 : Bool) (x1_4h : Heap) (x1_10 : Bool) (x1_10h : Heap) (k0 : cA m 32 [LV.v (AV.agg [aI o1, aI a1, aI b1, AV.int IntKind.u64 v1, aI t1, AV.imm l1, AV.imm bd1, AV.imm el1, AV.bool q1]), LV.v (AV.agg [aI o2, aI a2, aI b2, AV.int IntKind.u64 v2, aI t2, AV.imm l2, AV.imm bd2, AV.imm el2, AV.bool q2])] h = some (LV.v (AV.bool x1_4), x1_4h)) (k1 : x1_4 = true) (k2 : cA m 39 [LV.v (AV.imm y1), LV.v (AV.imm y2)] x1_4h = some (LV.v (AV.bool x1_10), x1_10h)) :
    blk (cxZ m) 38 (body_ Tryz.prog 38) [.v (.agg [.int .i64 o1, .int .i64 a1, .int .i64 b1, .int .u64 v1, .int .i64 t1, .imm l1, .imm bd1, .imm el1, .bool q1, .imm y1]), .v (.agg [.int .i64 o2, .int .i64 a2, .int .i64 b2, .int .u64 v2, .int .i64 t2, .imm l2, .imm bd2, .imm el2, .bool q2, .imm y2])] h = some ((LV.v (AV.bool x1_10), x1_10h)) :=
  blk_via (scr := ⟨fun x => match x with | 10 => some true | _ => none, fun _ _ => none, fun x y => match x, y with | 1, 4 => some (LV.v (AV.bool x1_4), x1_4h) | 1, 10 => some (LV.v (AV.bool x1_10), x1_10h) | _, _ => none, false⟩) (p := cA m 32 [LV.v (AV.agg [aI o1, aI a1, aI b1, AV.int IntKind.u64 v1, aI t1, AV.imm l1, AV.imm bd1, AV.imm el1, AV.bool q1]), LV.v (AV.agg [aI o2, aI a2, aI b2, AV.int IntKind.u64 v2, aI t2, AV.imm l2, AV.imm bd2, AV.imm el2, AV.bool q2])] h = some (LV.v (AV.bool x1_4), x1_4h) ∧ some x1_4 = some true ∧ some true = some true ∧ some true = some true ∧ some true = some true ∧ some true = some true ∧ cA m 39 [LV.v (AV.imm y1), LV.v (AV.imm y2)] x1_4h = some (LV.v (AV.bool x1_10), x1_10h) ∧ some true = some true ∧ some (LV.v (AV.bool x1_10), x1_10h) = some ((LV.v (AV.bool x1_10), x1_10h))) (by kernel_rfl) ⟨k0, ⟨congrArg some k1, ⟨rfl, ⟨rfl, ⟨rfl, ⟨rfl, ⟨k2, ⟨rfl, rfl⟩⟩⟩⟩⟩⟩⟩⟩

theorem s45_1 (m : Int) (o1 : Int) (a1 : Int) (b1 : Int) (v1 : Int) (t1 : Int) (l1 : List (List AV)) (bd1 : List (List AV)) (el1 : List (List AV)) (q1 : Bool) (y1 : List (List AV)) (o2 : Int) (a2 : Int) (b2 : Int) (v2 : Int) (t2 : Int) (l2 : List (List AV)) (bd2 : List (List AV)) (el2 : List (List AV)) (q2 : Bool) (y2 : List (List AV)) (h : Heap) (x1_4 : Bool) (x1_4h : Heap) (k0 : cA m 32 [LV.v (AV.agg [aI o1, aI a1, aI b1, AV.int IntKind.u64 v1, aI t1, AV.imm l1, AV.imm bd1, AV.imm el1, AV.bool q1]), LV.v (AV.agg [aI o2, aI a2, aI b2, AV.int IntKind.u64 v2, aI t2, AV.imm l2, AV.imm bd2, AV.imm el2, AV.bool q2])] h = some (LV.v (AV.bool x1_4), x1_4h)) (k1 : x1_4 = false) :
    blk (cxZ m) 38 (body_ Tryz.prog 38) [.v (.agg [.int .i64 o1, .int .i64 a1, .int .i64 b1, .int .u64 v1, .int .i64 t1, .imm l1, .imm bd1, .imm el1, .bool q1, .imm y1]), .v (.agg [.int .i64 o2, .int .i64 a2, .int .i64 b2, .int .u64 v2, .int .i64 t2, .imm l2, .imm bd2, .imm el2, .bool q2, .imm y2])] h = some ((LV.v (AV.bool false), x1_4h)) :=
  blk_via (scr := ⟨fun x => match x with | 10 => some false | _ => none, fun _ _ => none, fun x y => match x, y with | 1, 4 => some (LV.v (AV.bool x1_4), x1_4h) | _, _ => none, false⟩) (p := cA m 32 [LV.v (AV.agg [aI o1, aI a1, aI b1, AV.int IntKind.u64 v1, aI t1, AV.imm l1, AV.imm bd1, AV.imm el1, AV.bool q1]), LV.v (AV.agg [aI o2, aI a2, aI b2, AV.int IntKind.u64 v2, aI t2, AV.imm l2, AV.imm bd2, AV.imm el2, AV.bool q2])] h = some (LV.v (AV.bool x1_4), x1_4h) ∧ some x1_4 = some false ∧ some false = some false ∧ some false = some false ∧ some false = some false ∧ some false = some false ∧ some false = some false ∧ some (LV.v (AV.bool false), x1_4h) = some ((LV.v (AV.bool false), x1_4h))) (by kernel_rfl) ⟨k0, ⟨congrArg some k1, ⟨rfl, ⟨rfl, ⟨rfl, ⟨rfl, ⟨rfl, rfl⟩⟩⟩⟩⟩⟩⟩

theorem s48_0 (m : Int) (na1 : ByteArray) (y1 : List (List AV)) (na2 : ByteArray) (y2 : List (List AV)) (h : Heap) (x1_10 : Bool) (x1_10h : Heap) (k0 : (ByteArray.toList na1 == ByteArray.toList na2) = true) (k1 : cA m 39 [LV.v (AV.imm y1), LV.v (AV.imm y2)] h = some (LV.v (AV.bool x1_10), x1_10h)) :
    blk (cxZ m) 41 (body_ Tryz.prog 41) [.v (.agg [.str na1, .imm y1]), .v (.agg [.str na2, .imm y2])] h = some ((LV.v (AV.bool x1_10), x1_10h)) :=
  blk_via (scr := ⟨fun x => match x with | 10 => some true | _ => none, fun _ _ => none, fun x y => match x, y with | 1, 10 => some (LV.v (AV.bool x1_10), x1_10h) | _, _ => none, false⟩) (p := some (ByteArray.toList na1 == ByteArray.toList na2) = some true ∧ some true = some true ∧ some true = some true ∧ some true = some true ∧ some true = some true ∧ cA m 39 [LV.v (AV.imm y1), LV.v (AV.imm y2)] h = some (LV.v (AV.bool x1_10), x1_10h) ∧ some true = some true ∧ some (LV.v (AV.bool x1_10), x1_10h) = some ((LV.v (AV.bool x1_10), x1_10h))) (by kernel_rfl) ⟨congrArg some k0, ⟨rfl, ⟨rfl, ⟨rfl, ⟨rfl, ⟨k1, ⟨rfl, rfl⟩⟩⟩⟩⟩⟩⟩

theorem s48_1 (m : Int) (na1 : ByteArray) (y1 : List (List AV)) (na2 : ByteArray) (y2 : List (List AV)) (h : Heap) (k0 : (ByteArray.toList na1 == ByteArray.toList na2) = false) :
    blk (cxZ m) 41 (body_ Tryz.prog 41) [.v (.agg [.str na1, .imm y1]), .v (.agg [.str na2, .imm y2])] h = some ((LV.v (AV.bool false), h)) :=
  blk_via (scr := ⟨fun x => match x with | 10 => some false | _ => none, fun _ _ => none, fun _ _ => none, false⟩) (p := some (ByteArray.toList na1 == ByteArray.toList na2) = some false ∧ some false = some false ∧ some false = some false ∧ some false = some false ∧ some false = some false ∧ some false = some false ∧ some (LV.v (AV.bool false), h) = some ((LV.v (AV.bool false), h))) (by kernel_rfl) ⟨congrArg some k0, ⟨rfl, ⟨rfl, ⟨rfl, ⟨rfl, ⟨rfl, rfl⟩⟩⟩⟩⟩⟩

end Go.Proofs.YtmgjnbhofkchmaaGreatDoor


namespace Go.Proofs.YtmgjnbhofkchmaaGreatDoor
open Go Go.RowKit Go.Proofs.Am
theorem allZ_nil {A : Type} {E : A → A → Bool} (l : List A) : allZ E [] l = true := by cases l <;> rfl
theorem len_ne {n k : Nat} (h : Nat.beq n k = false) : (!eqZ (Int.ofNat n) (Int.ofNat k)) = true := by
  rw [eqZ_f]; rfl
  intro e
  have : n = k := by simp only [ofN] at e; omega
  rw [this, Nat.beq_refl] at h; cases h
theorem len_eq {n k : Nat} (h : Nat.beq n k = true) : (!eqZ (Int.ofNat n) (Int.ofNat k)) = false := by
  rw [Nat.eq_of_beq_eq_true h, eqZ_t rfl]; rfl

theorem loop32 (m : Int) (xs ys : List Imp) (hl : xs.length < 9223372036854775807) (he : xs.length = ys.length) (h : Heap) : ∀ (d i : Nat), i + d = xs.length →
    blk (cxZ m) 25 (at_ Tryz.prog 25 4) [.v (.imm (xs.map Imp.enc)), .v (.imm (ys.map Imp.enc)), .v (.int .i64 (Int.ofNat xs.length)), .v (.int .i64 (Int.ofNat i))] h = some (.v (.bool (allZ Imp.same (xs.drop i) (ys.drop i))), h)
  | 0, i, hd => by
    obtain rfl : i = xs.length := by omega
    rw [List.drop_length, allZ_nil]
    exact s32_4_2 (k0 := ltZ_f (Int.le_refl _)) ..
  | d + 1, i, hd => by
    have hi : i < xs.length := by omega
    have hj : i < ys.length := by omega
    have hx : xs[i]? = some xs[i] := List.getElem?_eq_getElem hi
    have hy : ys[i]? = some ys[i] := List.getElem?_eq_getElem hj
    generalize xs[i] = x at hx
    generalize ys[i] = y at hy
    have k0 : ltZ (Int.ofNat i) (Int.ofNat xs.length) = true := ltZ_t (by rw [ofN, ofN]; omega)
    have k1 : ixA (.imm (xs.map Imp.enc)) (Int.ofNat i) 8 = some (Imp.enc x) := ix_map (f := Imp.enc) hx (Imp.enc_len _)
    have k2 : ixA (.imm (ys.map Imp.enc)) (Int.ofNat i) 8 = some (Imp.enc y) := ix_map (f := Imp.enc) hy (Imp.enc_len _)
    rw [allZ_drop hx hy]
    cases e : Imp.same x y with
    | false => exact s32_4_0 (k0 := k0) (k1 := k1) (k2 := k2) (k3 := by show (!Imp.same x y) = true; rw [e]; rfl) ..
    | true =>
      refine s32_4_1 (k0 := k0) (k1 := k1) (k2 := k2) (k3 := by show (!Imp.same x y) = false; rw [e]; rfl) (k4 := ?_) ..
      rw [wrapS (by omega), Bool.true_and]
      exact loop32 m xs ys hl he h d (i + 1) (by omega)
theorem t32 (m : Int) (xs ys : List Imp) (hl : xs.length < 9223372036854775807) (h : Heap) : CALL m 25 [.v (.imm (xs.map Imp.enc)), .v (.imm (ys.map Imp.enc))] h = some (.v (.bool (eqL Imp.same xs ys)), h) := by
  refine callZ rfl (by kernel_rfl) (by kernel_rfl) ?_
  have l1 : (xs.map Imp.enc).length = xs.length := by simp []
  have l2 : (ys.map Imp.enc).length = ys.length := by simp []
  unfold eqL
  cases e : Nat.beq xs.length ys.length with
  | false => exact s32_0 (k0 := by rw [l1, l2]; exact len_ne e) ..
  | true =>
    refine s32_1 (k0 := by rw [l1, l2]; exact len_eq e) (k1 := ?_) ..
    rw [l1, Bool.true_and]
    exact loop32 m xs ys hl (Nat.eq_of_beq_eq_true e) h xs.length 0 (by omega)

theorem loop33 (m : Int) (xs ys : List Lim) (hl : xs.length < 9223372036854775807) (he : xs.length = ys.length) (h : Heap) : ∀ (d i : Nat), i + d = xs.length →
    blk (cxZ m) 26 (at_ Tryz.prog 26 4) [.v (.imm (xs.map Lim.enc)), .v (.imm (ys.map Lim.enc)), .v (.int .i64 (Int.ofNat xs.length)), .v (.int .i64 (Int.ofNat i))] h = some (.v (.bool (allZ Lim.same (xs.drop i) (ys.drop i))), h)
  | 0, i, hd => by
    obtain rfl : i = xs.length := by omega
    rw [List.drop_length, allZ_nil]
    exact s33_4_2 (k0 := ltZ_f (Int.le_refl _)) ..
  | d + 1, i, hd => by
    have hi : i < xs.length := by omega
    have hj : i < ys.length := by omega
    have hx : xs[i]? = some xs[i] := List.getElem?_eq_getElem hi
    have hy : ys[i]? = some ys[i] := List.getElem?_eq_getElem hj
    generalize xs[i] = x at hx
    generalize ys[i] = y at hy
    have k0 : ltZ (Int.ofNat i) (Int.ofNat xs.length) = true := ltZ_t (by rw [ofN, ofN]; omega)
    have k1 : ixA (.imm (xs.map Lim.enc)) (Int.ofNat i) 3 = some (Lim.enc x) := ix_map (f := Lim.enc) hx (Lim.enc_len _)
    have k2 : ixA (.imm (ys.map Lim.enc)) (Int.ofNat i) 3 = some (Lim.enc y) := ix_map (f := Lim.enc) hy (Lim.enc_len _)
    rw [allZ_drop hx hy]
    cases e : Lim.same x y with
    | false => exact s33_4_0 (k0 := k0) (k1 := k1) (k2 := k2) (k3 := by show (!Lim.same x y) = true; rw [e]; rfl) ..
    | true =>
      refine s33_4_1 (k0 := k0) (k1 := k1) (k2 := k2) (k3 := by show (!Lim.same x y) = false; rw [e]; rfl) (k4 := ?_) ..
      rw [wrapS (by omega), Bool.true_and]
      exact loop33 m xs ys hl he h d (i + 1) (by omega)
theorem t33 (m : Int) (xs ys : List Lim) (hl : xs.length < 9223372036854775807) (h : Heap) : CALL m 26 [.v (.imm (xs.map Lim.enc)), .v (.imm (ys.map Lim.enc))] h = some (.v (.bool (eqL Lim.same xs ys)), h) := by
  refine callZ rfl (by kernel_rfl) (by kernel_rfl) ?_
  have l1 : (xs.map Lim.enc).length = xs.length := by simp []
  have l2 : (ys.map Lim.enc).length = ys.length := by simp []
  unfold eqL
  cases e : Nat.beq xs.length ys.length with
  | false => exact s33_0 (k0 := by rw [l1, l2]; exact len_ne e) ..
  | true =>
    refine s33_1 (k0 := by rw [l1, l2]; exact len_eq e) (k1 := ?_) ..
    rw [l1, Bool.true_and]
    exact loop33 m xs ys hl (Nat.eq_of_beq_eq_true e) h xs.length 0 (by omega)

theorem loop34 (m : Int) (xs ys : List Exq) (hl : xs.length < 9223372036854775807) (he : xs.length = ys.length) (h : Heap) : ∀ (d i : Nat), i + d = xs.length →
    blk (cxZ m) 27 (at_ Tryz.prog 27 4) [.v (.imm (xs.map Exq.enc)), .v (.imm (ys.map Exq.enc)), .v (.int .i64 (Int.ofNat xs.length)), .v (.int .i64 (Int.ofNat i))] h = some (.v (.bool (allZ Exq.same (xs.drop i) (ys.drop i))), h)
  | 0, i, hd => by
    obtain rfl : i = xs.length := by omega
    rw [List.drop_length, allZ_nil]
    exact s34_4_2 (k0 := ltZ_f (Int.le_refl _)) ..
  | d + 1, i, hd => by
    have hi : i < xs.length := by omega
    have hj : i < ys.length := by omega
    have hx : xs[i]? = some xs[i] := List.getElem?_eq_getElem hi
    have hy : ys[i]? = some ys[i] := List.getElem?_eq_getElem hj
    generalize xs[i] = x at hx
    generalize ys[i] = y at hy
    have k0 : ltZ (Int.ofNat i) (Int.ofNat xs.length) = true := ltZ_t (by rw [ofN, ofN]; omega)
    have k1 : ixA (.imm (xs.map Exq.enc)) (Int.ofNat i) 3 = some (Exq.enc x) := ix_map (f := Exq.enc) hx (Exq.enc_len _)
    have k2 : ixA (.imm (ys.map Exq.enc)) (Int.ofNat i) 3 = some (Exq.enc y) := ix_map (f := Exq.enc) hy (Exq.enc_len _)
    rw [allZ_drop hx hy]
    cases e : Exq.same x y with
    | false => exact s34_4_0 (k0 := k0) (k1 := k1) (k2 := k2) (k3 := by show (!Exq.same x y) = true; rw [e]; rfl) ..
    | true =>
      refine s34_4_1 (k0 := k0) (k1 := k1) (k2 := k2) (k3 := by show (!Exq.same x y) = false; rw [e]; rfl) (k4 := ?_) ..
      rw [wrapS (by omega), Bool.true_and]
      exact loop34 m xs ys hl he h d (i + 1) (by omega)
theorem t34 (m : Int) (xs ys : List Exq) (hl : xs.length < 9223372036854775807) (h : Heap) : CALL m 27 [.v (.imm (xs.map Exq.enc)), .v (.imm (ys.map Exq.enc))] h = some (.v (.bool (eqL Exq.same xs ys)), h) := by
  refine callZ rfl (by kernel_rfl) (by kernel_rfl) ?_
  have l1 : (xs.map Exq.enc).length = xs.length := by simp []
  have l2 : (ys.map Exq.enc).length = ys.length := by simp []
  unfold eqL
  cases e : Nat.beq xs.length ys.length with
  | false => exact s34_0 (k0 := by rw [l1, l2]; exact len_ne e) ..
  | true =>
    refine s34_1 (k0 := by rw [l1, l2]; exact len_eq e) (k1 := ?_) ..
    rw [l1, Bool.true_and]
    exact loop34 m xs ys hl (Nat.eq_of_beq_eq_true e) h xs.length 0 (by omega)

theorem loop37 (m : Int) (xs ys : List Int) (hl : xs.length < 9223372036854775807) (he : xs.length = ys.length) (h : Heap) : ∀ (d i : Nat), i + d = xs.length →
    blk (cxZ m) 30 (at_ Tryz.prog 30 4) [.v (.imm (encN xs)), .v (.imm (encN ys)), .v (.int .i64 (Int.ofNat xs.length)), .v (.int .i64 (Int.ofNat i))] h = some (.v (.bool (allZ zE (xs.drop i) (ys.drop i))), h)
  | 0, i, hd => by
    obtain rfl : i = xs.length := by omega
    rw [List.drop_length, allZ_nil]
    exact s37_4_2 (k0 := ltZ_f (Int.le_refl _)) ..
  | d + 1, i, hd => by
    have hi : i < xs.length := by omega
    have hj : i < ys.length := by omega
    have hx : xs[i]? = some xs[i] := List.getElem?_eq_getElem hi
    have hy : ys[i]? = some ys[i] := List.getElem?_eq_getElem hj
    generalize xs[i] = x at hx
    generalize ys[i] = y at hy
    have k0 : ltZ (Int.ofNat i) (Int.ofNat xs.length) = true := ltZ_t (by rw [ofN, ofN]; omega)
    have k1 : ixA (.imm (encN xs)) (Int.ofNat i) 1 = some ((fun z : Int => [AV.int .i64 z]) x) := ix_map (f := (fun z : Int => [AV.int .i64 z])) hx rfl
    have k2 : ixA (.imm (encN ys)) (Int.ofNat i) 1 = some ((fun z : Int => [AV.int .i64 z]) y) := ix_map (f := (fun z : Int => [AV.int .i64 z])) hy rfl
    rw [allZ_drop hx hy]
    cases e : zE x y with
    | false => exact s37_4_0 (k0 := k0) (k1 := k1) (k2 := k2) (k3 := by rw [eqZ_eq]; show (!zE x y) = true; rw [e]; rfl) ..
    | true =>
      refine s37_4_1 (k0 := k0) (k1 := k1) (k2 := k2) (k3 := by rw [eqZ_eq]; show (!zE x y) = false; rw [e]; rfl) (k4 := ?_) ..
      rw [wrapS (by omega), Bool.true_and]
      exact loop37 m xs ys hl he h d (i + 1) (by omega)
theorem t37 (m : Int) (xs ys : List Int) (hl : xs.length < 9223372036854775807) (h : Heap) : CALL m 30 [.v (.imm (encN xs)), .v (.imm (encN ys))] h = some (.v (.bool (zeqL xs ys)), h) := by
  refine callZ rfl (by kernel_rfl) (by kernel_rfl) ?_
  have l1 : (encN xs).length = xs.length := by simp [encN]
  have l2 : (encN ys).length = ys.length := by simp [encN]
  unfold zeqL eqL
  cases e : Nat.beq xs.length ys.length with
  | false => exact s37_0 (k0 := by rw [l1, l2]; exact len_ne e) ..
  | true =>
    refine s37_1 (k0 := by rw [l1, l2]; exact len_eq e) (k1 := ?_) ..
    rw [l1, Bool.true_and]
    exact loop37 m xs ys hl (Nat.eq_of_beq_eq_true e) h xs.length 0 (by omega)

theorem loop46 (m : Int) (xs ys : List Int) (hl : xs.length < 9223372036854775807) (he : xs.length = ys.length) (h : Heap) : ∀ (d i : Nat), i + d = xs.length →
    blk (cxZ m) 39 (at_ Tryz.prog 39 4) [.v (.imm (encB xs)), .v (.imm (encB ys)), .v (.int .i64 (Int.ofNat xs.length)), .v (.int .i64 (Int.ofNat i))] h = some (.v (.bool (allZ zE (xs.drop i) (ys.drop i))), h)
  | 0, i, hd => by
    obtain rfl : i = xs.length := by omega
    rw [List.drop_length, allZ_nil]
    exact s46_4_2 (k0 := ltZ_f (Int.le_refl _)) ..
  | d + 1, i, hd => by
    have hi : i < xs.length := by omega
    have hj : i < ys.length := by omega
    have hx : xs[i]? = some xs[i] := List.getElem?_eq_getElem hi
    have hy : ys[i]? = some ys[i] := List.getElem?_eq_getElem hj
    generalize xs[i] = x at hx
    generalize ys[i] = y at hy
    have k0 : ltZ (Int.ofNat i) (Int.ofNat xs.length) = true := ltZ_t (by rw [ofN, ofN]; omega)
    have k1 : ixA (.imm (encB xs)) (Int.ofNat i) 1 = some ((fun z : Int => [AV.int .u8 z]) x) := ix_map (f := (fun z : Int => [AV.int .u8 z])) hx rfl
    have k2 : ixA (.imm (encB ys)) (Int.ofNat i) 1 = some ((fun z : Int => [AV.int .u8 z]) y) := ix_map (f := (fun z : Int => [AV.int .u8 z])) hy rfl
    rw [allZ_drop hx hy]
    cases e : zE x y with
    | false => exact s46_4_0 (k0 := k0) (k1 := k1) (k2 := k2) (k3 := by rw [eqZ_eq]; show (!zE x y) = true; rw [e]; rfl) ..
    | true =>
      refine s46_4_1 (k0 := k0) (k1 := k1) (k2 := k2) (k3 := by rw [eqZ_eq]; show (!zE x y) = false; rw [e]; rfl) (k4 := ?_) ..
      rw [wrapS (by omega), Bool.true_and]
      exact loop46 m xs ys hl he h d (i + 1) (by omega)
theorem t46 (m : Int) (xs ys : List Int) (hl : xs.length < 9223372036854775807) (h : Heap) : CALL m 39 [.v (.imm (encB xs)), .v (.imm (encB ys))] h = some (.v (.bool (zeqL xs ys)), h) := by
  refine callZ rfl (by kernel_rfl) (by kernel_rfl) ?_
  have l1 : (encB xs).length = xs.length := by simp [encB]
  have l2 : (encB ys).length = ys.length := by simp [encB]
  unfold zeqL eqL
  cases e : Nat.beq xs.length ys.length with
  | false => exact s46_0 (k0 := by rw [l1, l2]; exact len_ne e) ..
  | true =>
    refine s46_1 (k0 := by rw [l1, l2]; exact len_eq e) (k1 := ?_) ..
    rw [l1, Bool.true_and]
    exact loop46 m xs ys hl (Nat.eq_of_beq_eq_true e) h xs.length 0 (by omega)

theorem t31 (m : Int) (x y : FTy) (hx : x.p.length < 9223372036854775807 ∧ x.r.length < 9223372036854775807) (h : Heap) : CALL m 24 [.v (.agg (FTy.enc x)), .v (.agg (FTy.enc y))] h = some (.v (.bool (FTy.same x y)), h) := by
  refine callZ rfl (by kernel_rfl) (by kernel_rfl) ?_
  unfold FTy.same
  have c0 := t37 m x.p y.p hx.1 h
  cases e0 : zeqL x.p y.p with
  | false => rw [e0] at c0; exact s31_1 (k0 := c0) (k1 := rfl) ..
  | true =>
    rw [e0] at c0
    rw [Bool.true_and]
    have c1 := t37 m x.r y.r hx.2 h
    exact s31_0 (k0 := c0) (k1 := rfl) (k2 := c1) ..

theorem t48 (m : Int) (x y : Cus) (hx : x.b.length < 9223372036854775807) (h : Heap) : CALL m 41 [.v (.agg (Cus.enc x)), .v (.agg (Cus.enc y))] h = some (.v (.bool (Cus.same x y)), h) := by
  refine callZ rfl (by kernel_rfl) (by kernel_rfl) ?_
  unfold Cus.same
  cases e0 : (x.n.toList == y.n.toList) with
  | false => exact s48_1 (k0 := e0) ..
  | true =>
    rw [Bool.true_and]
    have c1 := t46 m x.b y.b hx h
    exact s48_0 (k0 := e0) (k1 := c1) ..

theorem loop38 (m : Int) (xs ys : List Ins) (hl : xs.length < 9223372036854775807) (he : xs.length = ys.length) (hE : ∀ x, x ∈ xs → ∀ (y : Ins) (h : Heap), CALL m 32 [.v (.agg (encI x)), .v (.agg (encI y))] h = some (.v (.bool (sI x y)), h)) (h : Heap) : ∀ (d i : Nat), i + d = xs.length →
    blk (cxZ m) 31 (at_ Tryz.prog 31 4) [.v (.imm (encIs ys)), .v (.fn 32 [] []), .v (.imm (encIs xs)), .v (.int .i64 (Int.ofNat xs.length)), .v (.int .i64 (Int.ofNat i))] h = some (.v (.bool (allZ sI (xs.drop i) (ys.drop i))), h)
  | 0, i, hd => by
    obtain rfl : i = xs.length := by omega
    rw [List.drop_length, allZ_nil]
    exact s38_4_2 (k0 := ltZ_f (Int.le_refl _)) ..
  | d + 1, i, hd => by
    have hi : i < xs.length := by omega
    have hj : i < ys.length := by omega
    have hx : xs[i]? = some xs[i] := List.getElem?_eq_getElem hi
    have hy : ys[i]? = some ys[i] := List.getElem?_eq_getElem hj
    have hm : xs[i] ∈ xs := List.getElem_mem hi
    generalize xs[i] = x at hx hm
    generalize ys[i] = y at hy
    have k0 : ltZ (Int.ofNat i) (Int.ofNat xs.length) = true := ltZ_t (by rw [ofN, ofN]; omega)
    have k1 : ixA (.imm (encIs xs)) (Int.ofNat i) 9 = some (encI x) := by rw [encIs_map]; exact ix_map (f := encI) hx (encI_len _)
    have k2 : ixA (.imm (encIs ys)) (Int.ofNat i) 9 = some (encI y) := by rw [encIs_map]; exact ix_map (f := encI) hy (encI_len _)
    have k3 := hE x hm y h
    rw [allZ_drop hx hy]
    cases e : sI x y with
    | false => rw [e] at k3; obtain ⟨o1, a1, b1, v1, t1, l1, bd1, el1, q1⟩ := x; obtain ⟨o2, a2, b2, v2, t2, l2, bd2, el2, q2⟩ := y; exact s38_4_0 (k0 := k0) (k1 := k1) (k2 := k2) (k3 := callV_fn.trans k3) (k4 := rfl) ..
    | true =>
      have ih := loop38 m xs ys hl he hE h d (i + 1) (by omega)
      rw [e] at k3
      obtain ⟨o1, a1, b1, v1, t1, l1, bd1, el1, q1⟩ := x; obtain ⟨o2, a2, b2, v2, t2, l2, bd2, el2, q2⟩ := y; refine s38_4_1 (k0 := k0) (k1 := k1) (k2 := k2) (k3 := callV_fn.trans k3) (k4 := rfl) (k5 := ?_) ..
      rw [wrapS (by omega), Bool.true_and]
      exact ih
theorem t38 (m : Int) (xs ys : List Ins) (hl : xs.length < 9223372036854775807) (hE : ∀ x, x ∈ xs → ∀ (y : Ins) (h : Heap), CALL m 32 [.v (.agg (encI x)), .v (.agg (encI y))] h = some (.v (.bool (sI x y)), h)) (h : Heap) : CALL m 31 [.v (.imm (encIs xs)), .v (.imm (encIs ys)), .v (.fn 32 [] [])] h = some (.v (.bool (eqL sI xs ys)), h) := by
  refine callZ rfl (by kernel_rfl) (by kernel_rfl) ?_
  have l1 : (encIs xs).length = xs.length := by simp [encIs_len]
  have l2 : (encIs ys).length = ys.length := by simp [encIs_len]
  unfold eqL
  cases e : Nat.beq xs.length ys.length with
  | false => exact s38_0 (k0 := by rw [l1, l2]; exact len_ne e) ..
  | true =>
    refine s38_1 (k0 := by rw [l1, l2]; exact len_eq e) (k1 := ?_) ..
    rw [l1, Bool.true_and]
    exact loop38 m xs ys hl (Nat.eq_of_beq_eq_true e) hE h xs.length 0 (by omega)

theorem t39 (m : Int) {x : Ins} (hx : FitZ x) : ∀ (y : Ins) (h : Heap), CALL m 32 [.v (.agg (encI x)), .v (.agg (encI y))] h = some (.v (.bool (sI x y)), h) := by
  induction hx with
  | mk o a b v t l bd el q ho ha hb hv ht hl hbd hel h1 h2 i1 i2 =>
    intro y h
    obtain ⟨o', a', b', v', t', l', bd', el', q'⟩ := y
    rw [sI_eq]
    refine callZ rfl (by kernel_rfl) (by kernel_rfl) ?_
    have c6 := t37 m l l' (hl.lt (by decide)) h
    have c7 := t38 m bd bd' (FitL.lt (n := 120) (F := FitZ) ⟨hbd, h1⟩ (by decide)) i1 h
    have c8 := t38 m el el' (FitL.lt (n := 120) (F := FitZ) ⟨hel, h2⟩ (by decide)) i2 h
    cases e0 : (o == o') with
    | false => exact s39_8 (k0 := (eqZ_eq _ _).trans e0) ..
    | true =>
      rw [Bool.true_and]
      cases e1 : (a == a') with
      | false => exact s39_7 (k0 := (eqZ_eq _ _).trans e0) (k1 := (eqZ_eq _ _).trans e1) ..
      | true =>
        rw [Bool.true_and]
        cases e2 : (b == b') with
        | false => exact s39_6 (k0 := (eqZ_eq _ _).trans e0) (k1 := (eqZ_eq _ _).trans e1) (k2 := (eqZ_eq _ _).trans e2) ..
        | true =>
          rw [Bool.true_and]
          cases e3 : (v == v') with
          | false => exact s39_5 (k0 := (eqZ_eq _ _).trans e0) (k1 := (eqZ_eq _ _).trans e1) (k2 := (eqZ_eq _ _).trans e2) (k3 := (eqZ_eq _ _).trans e3) ..
          | true =>
            rw [Bool.true_and]
            cases e4 : (t == t') with
            | false => exact s39_4 (k0 := (eqZ_eq _ _).trans e0) (k1 := (eqZ_eq _ _).trans e1) (k2 := (eqZ_eq _ _).trans e2) (k3 := (eqZ_eq _ _).trans e3) (k4 := (eqZ_eq _ _).trans e4) ..
            | true =>
              rw [Bool.true_and]
              cases e5 : (q == q') with
              | false => exact s39_3 (k0 := (eqZ_eq _ _).trans e0) (k1 := (eqZ_eq _ _).trans e1) (k2 := (eqZ_eq _ _).trans e2) (k3 := (eqZ_eq _ _).trans e3) (k4 := (eqZ_eq _ _).trans e4) (k5 := e5) ..
              | true =>
                rw [Bool.true_and]
                cases e6 : zeqL l l' with
                | false => rw [e6] at c6; exact s39_2 (k0 := (eqZ_eq _ _).trans e0) (k1 := (eqZ_eq _ _).trans e1) (k2 := (eqZ_eq _ _).trans e2) (k3 := (eqZ_eq _ _).trans e3) (k4 := (eqZ_eq _ _).trans e4) (k5 := e5) (k6 := c6) (k7 := rfl) ..
                | true =>
                  rw [e6] at c6
                  rw [Bool.true_and]
                  cases e7 : eqL sI bd bd' with
                  | false => rw [e7] at c7; exact s39_1 (k0 := (eqZ_eq _ _).trans e0) (k1 := (eqZ_eq _ _).trans e1) (k2 := (eqZ_eq _ _).trans e2) (k3 := (eqZ_eq _ _).trans e3) (k4 := (eqZ_eq _ _).trans e4) (k5 := e5) (k6 := c6) (k7 := rfl) (k8 := c7) (k9 := rfl) ..
                  | true =>
                    rw [e7] at c7
                    rw [Bool.true_and]
                    exact s39_0 (k0 := (eqZ_eq _ _).trans e0) (k1 := (eqZ_eq _ _).trans e1) (k2 := (eqZ_eq _ _).trans e2) (k3 := (eqZ_eq _ _).trans e3) (k4 := (eqZ_eq _ _).trans e4) (k5 := e5) (k6 := c6) (k7 := rfl) (k8 := c7) (k9 := rfl) (k10 := c8) ..

theorem t36 (m : Int) (x y : MFn) (hx : x.Fit) (h : Heap) : CALL m 29 [.v (.agg (MFn.enc x)), .v (.agg (MFn.enc y))] h = some (.v (.bool (MFn.same x y)), h) := by
  refine callZ rfl (by kernel_rfl) (by kernel_rfl) ?_
  unfold MFn.same
  cases e0 : (x.t == y.t) with
  | false => exact s36_2 (k0 := (eqZ_eq _ _).trans e0) ..
  | true =>
    rw [Bool.true_and]
    have c1 := t37 m x.l y.l (hx.2.1.lt (by decide)) h
    cases e1 : zeqL x.l y.l with
    | false => rw [e1] at c1; exact s36_1 (k0 := (eqZ_eq _ _).trans e0) (k1 := c1) (k2 := rfl) ..
    | true =>
      rw [e1] at c1
      rw [Bool.true_and]
      have c2 := t38 m x.b y.b (hx.2.2.lt (by decide)) (fun z hz y h => t39 m (hx.2.2.2 z hz) y h) h
      exact s36_0 (k0 := (eqZ_eq _ _).trans e0) (k1 := c1) (k2 := rfl) (k3 := c2) ..

theorem t41 (m : Int) (x y : Glo) (hx : x.Fit) (h : Heap) : CALL m 34 [.v (.agg (Glo.enc x)), .v (.agg (Glo.enc y))] h = some (.v (.bool (Glo.same x y)), h) := by
  refine callZ rfl (by kernel_rfl) (by kernel_rfl) ?_
  unfold Glo.same
  cases e0 : (x.t == y.t) with
  | false => obtain ⟨gt1, gm1, ⟨o1, a1, b1, v1, t1, l1, bd1, el1, q1⟩⟩ := x; obtain ⟨gt2, gm2, ⟨o2, a2, b2, v2, t2, l2, bd2, el2, q2⟩⟩ := y; exact s41_2 (k0 := (eqZ_eq _ _).trans e0) ..
  | true =>
    rw [Bool.true_and]
    cases e1 : (x.mu == y.mu) with
    | false => obtain ⟨gt1, gm1, ⟨o1, a1, b1, v1, t1, l1, bd1, el1, q1⟩⟩ := x; obtain ⟨gt2, gm2, ⟨o2, a2, b2, v2, t2, l2, bd2, el2, q2⟩⟩ := y; exact s41_1 (k0 := (eqZ_eq _ _).trans e0) (k1 := e1) ..
    | true =>
      rw [Bool.true_and]
      have c2 := t39 m hx.2 y.i h
      obtain ⟨gt1, gm1, ⟨o1, a1, b1, v1, t1, l1, bd1, el1, q1⟩⟩ := x; obtain ⟨gt2, gm2, ⟨o2, a2, b2, v2, t2, l2, bd2, el2, q2⟩⟩ := y; exact s41_0 (k0 := (eqZ_eq _ _).trans e0) (k1 := e1) (k2 := c2) ..

theorem t43 (m : Int) (x y : Ele) (hx : x.Fit) (h : Heap) : CALL m 36 [.v (.agg (Ele.enc x)), .v (.agg (Ele.enc y))] h = some (.v (.bool (Ele.same x y)), h) := by
  refine callZ rfl (by kernel_rfl) (by kernel_rfl) ?_
  unfold Ele.same
  have c0 := t39 m hx.1 y.o h
  cases e0 : sI x.o y.o with
  | false => rw [e0] at c0; obtain ⟨⟨o1, a1, b1, v1, t1, l1, bd1, el1, q1⟩, f1⟩ := x; obtain ⟨⟨o2, a2, b2, v2, t2, l2, bd2, el2, q2⟩, f2⟩ := y; exact s43_1 (k0 := c0) (k1 := rfl) ..
  | true =>
    rw [e0] at c0
    rw [Bool.true_and]
    have c1 := t37 m x.f y.f (hx.2.lt (by decide)) h
    obtain ⟨⟨o1, a1, b1, v1, t1, l1, bd1, el1, q1⟩, f1⟩ := x; obtain ⟨⟨o2, a2, b2, v2, t2, l2, bd2, el2, q2⟩, f2⟩ := y; exact s43_0 (k0 := c0) (k1 := rfl) (k2 := c1) ..

theorem t45 (m : Int) (x y : Dat) (hx : x.Fit) (h : Heap) : CALL m 38 [.v (.agg (Dat.enc x)), .v (.agg (Dat.enc y))] h = some (.v (.bool (Dat.same x y)), h) := by
  refine callZ rfl (by kernel_rfl) (by kernel_rfl) ?_
  unfold Dat.same
  have c0 := t39 m hx.1 y.o h
  cases e0 : sI x.o y.o with
  | false => rw [e0] at c0; obtain ⟨⟨o1, a1, b1, v1, t1, l1, bd1, el1, q1⟩, f1⟩ := x; obtain ⟨⟨o2, a2, b2, v2, t2, l2, bd2, el2, q2⟩, f2⟩ := y; exact s45_1 (k0 := c0) (k1 := rfl) ..
  | true =>
    rw [e0] at c0
    rw [Bool.true_and]
    have c1 := t46 m x.b y.b (hx.2.lt (by decide)) h
    obtain ⟨⟨o1, a1, b1, v1, t1, l1, bd1, el1, q1⟩, f1⟩ := x; obtain ⟨⟨o2, a2, b2, v2, t2, l2, bd2, el2, q2⟩, f2⟩ := y; exact s45_0 (k0 := c0) (k1 := rfl) (k2 := c1) ..

theorem loop30 (m : Int) (xs ys : List FTy) (hl : xs.length < 9223372036854775807) (he : xs.length = ys.length) (hE : ∀ x, x ∈ xs → ∀ (y : FTy) (h : Heap), CALL m 24 [.v (.agg (FTy.enc x)), .v (.agg (FTy.enc y))] h = some (.v (.bool (FTy.same x y)), h)) (h : Heap) : ∀ (d i : Nat), i + d = xs.length →
    blk (cxZ m) 23 (at_ Tryz.prog 23 4) [.v (.imm (ys.map FTy.enc)), .v (.fn 24 [] []), .v (.imm (xs.map FTy.enc)), .v (.int .i64 (Int.ofNat xs.length)), .v (.int .i64 (Int.ofNat i))] h = some (.v (.bool (allZ FTy.same (xs.drop i) (ys.drop i))), h)
  | 0, i, hd => by
    obtain rfl : i = xs.length := by omega
    rw [List.drop_length, allZ_nil]
    exact s30_4_2 (k0 := ltZ_f (Int.le_refl _)) ..
  | d + 1, i, hd => by
    have hi : i < xs.length := by omega
    have hj : i < ys.length := by omega
    have hx : xs[i]? = some xs[i] := List.getElem?_eq_getElem hi
    have hy : ys[i]? = some ys[i] := List.getElem?_eq_getElem hj
    have hm : xs[i] ∈ xs := List.getElem_mem hi
    generalize xs[i] = x at hx hm
    generalize ys[i] = y at hy
    have k0 : ltZ (Int.ofNat i) (Int.ofNat xs.length) = true := ltZ_t (by rw [ofN, ofN]; omega)
    have k1 : ixA (.imm (xs.map FTy.enc)) (Int.ofNat i) 2 = some (FTy.enc x) := by exact ix_map (f := FTy.enc) hx (FTy.enc_len _)
    have k2 : ixA (.imm (ys.map FTy.enc)) (Int.ofNat i) 2 = some (FTy.enc y) := by exact ix_map (f := FTy.enc) hy (FTy.enc_len _)
    have k3 := hE x hm y h
    rw [allZ_drop hx hy]
    cases e : FTy.same x y with
    | false => rw [e] at k3; exact s30_4_0 (k0 := k0) (k1 := k1) (k2 := k2) (k3 := callV_fn.trans k3) (k4 := rfl) ..
    | true =>
      have ih := loop30 m xs ys hl he hE h d (i + 1) (by omega)
      rw [e] at k3
      refine s30_4_1 (k0 := k0) (k1 := k1) (k2 := k2) (k3 := callV_fn.trans k3) (k4 := rfl) (k5 := ?_) ..
      rw [wrapS (by omega), Bool.true_and]
      exact ih
theorem t30 (m : Int) (xs ys : List FTy) (hl : xs.length < 9223372036854775807) (hE : ∀ x, x ∈ xs → ∀ (y : FTy) (h : Heap), CALL m 24 [.v (.agg (FTy.enc x)), .v (.agg (FTy.enc y))] h = some (.v (.bool (FTy.same x y)), h)) (h : Heap) : CALL m 23 [.v (.imm (xs.map FTy.enc)), .v (.imm (ys.map FTy.enc)), .v (.fn 24 [] [])] h = some (.v (.bool (eqL FTy.same xs ys)), h) := by
  refine callZ rfl (by kernel_rfl) (by kernel_rfl) ?_
  have l1 : (xs.map FTy.enc).length = xs.length := by simp
  have l2 : (ys.map FTy.enc).length = ys.length := by simp
  unfold eqL
  cases e : Nat.beq xs.length ys.length with
  | false => exact s30_0 (k0 := by rw [l1, l2]; exact len_ne e) ..
  | true =>
    refine s30_1 (k0 := by rw [l1, l2]; exact len_eq e) (k1 := ?_) ..
    rw [l1, Bool.true_and]
    exact loop30 m xs ys hl (Nat.eq_of_beq_eq_true e) hE h xs.length 0 (by omega)

theorem loop35 (m : Int) (xs ys : List MFn) (hl : xs.length < 9223372036854775807) (he : xs.length = ys.length) (hE : ∀ x, x ∈ xs → ∀ (y : MFn) (h : Heap), CALL m 29 [.v (.agg (MFn.enc x)), .v (.agg (MFn.enc y))] h = some (.v (.bool (MFn.same x y)), h)) (h : Heap) : ∀ (d i : Nat), i + d = xs.length →
    blk (cxZ m) 28 (at_ Tryz.prog 28 4) [.v (.imm (ys.map MFn.enc)), .v (.fn 29 [] []), .v (.imm (xs.map MFn.enc)), .v (.int .i64 (Int.ofNat xs.length)), .v (.int .i64 (Int.ofNat i))] h = some (.v (.bool (allZ MFn.same (xs.drop i) (ys.drop i))), h)
  | 0, i, hd => by
    obtain rfl : i = xs.length := by omega
    rw [List.drop_length, allZ_nil]
    exact s35_4_2 (k0 := ltZ_f (Int.le_refl _)) ..
  | d + 1, i, hd => by
    have hi : i < xs.length := by omega
    have hj : i < ys.length := by omega
    have hx : xs[i]? = some xs[i] := List.getElem?_eq_getElem hi
    have hy : ys[i]? = some ys[i] := List.getElem?_eq_getElem hj
    have hm : xs[i] ∈ xs := List.getElem_mem hi
    generalize xs[i] = x at hx hm
    generalize ys[i] = y at hy
    have k0 : ltZ (Int.ofNat i) (Int.ofNat xs.length) = true := ltZ_t (by rw [ofN, ofN]; omega)
    have k1 : ixA (.imm (xs.map MFn.enc)) (Int.ofNat i) 3 = some (MFn.enc x) := by exact ix_map (f := MFn.enc) hx (MFn.enc_len _)
    have k2 : ixA (.imm (ys.map MFn.enc)) (Int.ofNat i) 3 = some (MFn.enc y) := by exact ix_map (f := MFn.enc) hy (MFn.enc_len _)
    have k3 := hE x hm y h
    rw [allZ_drop hx hy]
    cases e : MFn.same x y with
    | false => rw [e] at k3; exact s35_4_0 (k0 := k0) (k1 := k1) (k2 := k2) (k3 := callV_fn.trans k3) (k4 := rfl) ..
    | true =>
      have ih := loop35 m xs ys hl he hE h d (i + 1) (by omega)
      rw [e] at k3
      refine s35_4_1 (k0 := k0) (k1 := k1) (k2 := k2) (k3 := callV_fn.trans k3) (k4 := rfl) (k5 := ?_) ..
      rw [wrapS (by omega), Bool.true_and]
      exact ih
theorem t35 (m : Int) (xs ys : List MFn) (hl : xs.length < 9223372036854775807) (hE : ∀ x, x ∈ xs → ∀ (y : MFn) (h : Heap), CALL m 29 [.v (.agg (MFn.enc x)), .v (.agg (MFn.enc y))] h = some (.v (.bool (MFn.same x y)), h)) (h : Heap) : CALL m 28 [.v (.imm (xs.map MFn.enc)), .v (.imm (ys.map MFn.enc)), .v (.fn 29 [] [])] h = some (.v (.bool (eqL MFn.same xs ys)), h) := by
  refine callZ rfl (by kernel_rfl) (by kernel_rfl) ?_
  have l1 : (xs.map MFn.enc).length = xs.length := by simp
  have l2 : (ys.map MFn.enc).length = ys.length := by simp
  unfold eqL
  cases e : Nat.beq xs.length ys.length with
  | false => exact s35_0 (k0 := by rw [l1, l2]; exact len_ne e) ..
  | true =>
    refine s35_1 (k0 := by rw [l1, l2]; exact len_eq e) (k1 := ?_) ..
    rw [l1, Bool.true_and]
    exact loop35 m xs ys hl (Nat.eq_of_beq_eq_true e) hE h xs.length 0 (by omega)

theorem loop40 (m : Int) (xs ys : List Glo) (hl : xs.length < 9223372036854775807) (he : xs.length = ys.length) (hE : ∀ x, x ∈ xs → ∀ (y : Glo) (h : Heap), CALL m 34 [.v (.agg (Glo.enc x)), .v (.agg (Glo.enc y))] h = some (.v (.bool (Glo.same x y)), h)) (h : Heap) : ∀ (d i : Nat), i + d = xs.length →
    blk (cxZ m) 33 (at_ Tryz.prog 33 4) [.v (.imm (ys.map Glo.enc)), .v (.fn 34 [] []), .v (.imm (xs.map Glo.enc)), .v (.int .i64 (Int.ofNat xs.length)), .v (.int .i64 (Int.ofNat i))] h = some (.v (.bool (allZ Glo.same (xs.drop i) (ys.drop i))), h)
  | 0, i, hd => by
    obtain rfl : i = xs.length := by omega
    rw [List.drop_length, allZ_nil]
    exact s40_4_2 (k0 := ltZ_f (Int.le_refl _)) ..
  | d + 1, i, hd => by
    have hi : i < xs.length := by omega
    have hj : i < ys.length := by omega
    have hx : xs[i]? = some xs[i] := List.getElem?_eq_getElem hi
    have hy : ys[i]? = some ys[i] := List.getElem?_eq_getElem hj
    have hm : xs[i] ∈ xs := List.getElem_mem hi
    generalize xs[i] = x at hx hm
    generalize ys[i] = y at hy
    have k0 : ltZ (Int.ofNat i) (Int.ofNat xs.length) = true := ltZ_t (by rw [ofN, ofN]; omega)
    have k1 : ixA (.imm (xs.map Glo.enc)) (Int.ofNat i) 11 = some (Glo.enc x) := by exact ix_map (f := Glo.enc) hx (Glo.enc_len _)
    have k2 : ixA (.imm (ys.map Glo.enc)) (Int.ofNat i) 11 = some (Glo.enc y) := by exact ix_map (f := Glo.enc) hy (Glo.enc_len _)
    have k3 := hE x hm y h
    rw [allZ_drop hx hy]
    cases e : Glo.same x y with
    | false => rw [e] at k3; obtain ⟨gt1, gm1, ⟨o1, a1, b1, v1, t1, l1, bd1, el1, q1⟩⟩ := x; obtain ⟨gt2, gm2, ⟨o2, a2, b2, v2, t2, l2, bd2, el2, q2⟩⟩ := y; exact s40_4_0 (k0 := k0) (k1 := k1) (k2 := k2) (k3 := callV_fn.trans k3) (k4 := rfl) ..
    | true =>
      have ih := loop40 m xs ys hl he hE h d (i + 1) (by omega)
      rw [e] at k3
      obtain ⟨gt1, gm1, ⟨o1, a1, b1, v1, t1, l1, bd1, el1, q1⟩⟩ := x; obtain ⟨gt2, gm2, ⟨o2, a2, b2, v2, t2, l2, bd2, el2, q2⟩⟩ := y; refine s40_4_1 (k0 := k0) (k1 := k1) (k2 := k2) (k3 := callV_fn.trans k3) (k4 := rfl) (k5 := ?_) ..
      rw [wrapS (by omega), Bool.true_and]
      exact ih
theorem t40 (m : Int) (xs ys : List Glo) (hl : xs.length < 9223372036854775807) (hE : ∀ x, x ∈ xs → ∀ (y : Glo) (h : Heap), CALL m 34 [.v (.agg (Glo.enc x)), .v (.agg (Glo.enc y))] h = some (.v (.bool (Glo.same x y)), h)) (h : Heap) : CALL m 33 [.v (.imm (xs.map Glo.enc)), .v (.imm (ys.map Glo.enc)), .v (.fn 34 [] [])] h = some (.v (.bool (eqL Glo.same xs ys)), h) := by
  refine callZ rfl (by kernel_rfl) (by kernel_rfl) ?_
  have l1 : (xs.map Glo.enc).length = xs.length := by simp
  have l2 : (ys.map Glo.enc).length = ys.length := by simp
  unfold eqL
  cases e : Nat.beq xs.length ys.length with
  | false => exact s40_0 (k0 := by rw [l1, l2]; exact len_ne e) ..
  | true =>
    refine s40_1 (k0 := by rw [l1, l2]; exact len_eq e) (k1 := ?_) ..
    rw [l1, Bool.true_and]
    exact loop40 m xs ys hl (Nat.eq_of_beq_eq_true e) hE h xs.length 0 (by omega)

theorem loop42 (m : Int) (xs ys : List Ele) (hl : xs.length < 9223372036854775807) (he : xs.length = ys.length) (hE : ∀ x, x ∈ xs → ∀ (y : Ele) (h : Heap), CALL m 36 [.v (.agg (Ele.enc x)), .v (.agg (Ele.enc y))] h = some (.v (.bool (Ele.same x y)), h)) (h : Heap) : ∀ (d i : Nat), i + d = xs.length →
    blk (cxZ m) 35 (at_ Tryz.prog 35 4) [.v (.imm (ys.map Ele.enc)), .v (.fn 36 [] []), .v (.imm (xs.map Ele.enc)), .v (.int .i64 (Int.ofNat xs.length)), .v (.int .i64 (Int.ofNat i))] h = some (.v (.bool (allZ Ele.same (xs.drop i) (ys.drop i))), h)
  | 0, i, hd => by
    obtain rfl : i = xs.length := by omega
    rw [List.drop_length, allZ_nil]
    exact s42_4_2 (k0 := ltZ_f (Int.le_refl _)) ..
  | d + 1, i, hd => by
    have hi : i < xs.length := by omega
    have hj : i < ys.length := by omega
    have hx : xs[i]? = some xs[i] := List.getElem?_eq_getElem hi
    have hy : ys[i]? = some ys[i] := List.getElem?_eq_getElem hj
    have hm : xs[i] ∈ xs := List.getElem_mem hi
    generalize xs[i] = x at hx hm
    generalize ys[i] = y at hy
    have k0 : ltZ (Int.ofNat i) (Int.ofNat xs.length) = true := ltZ_t (by rw [ofN, ofN]; omega)
    have k1 : ixA (.imm (xs.map Ele.enc)) (Int.ofNat i) 10 = some (Ele.enc x) := by exact ix_map (f := Ele.enc) hx (Ele.enc_len _)
    have k2 : ixA (.imm (ys.map Ele.enc)) (Int.ofNat i) 10 = some (Ele.enc y) := by exact ix_map (f := Ele.enc) hy (Ele.enc_len _)
    have k3 := hE x hm y h
    rw [allZ_drop hx hy]
    cases e : Ele.same x y with
    | false => rw [e] at k3; obtain ⟨⟨o1, a1, b1, v1, t1, l1, bd1, el1, q1⟩, f1⟩ := x; obtain ⟨⟨o2, a2, b2, v2, t2, l2, bd2, el2, q2⟩, f2⟩ := y; exact s42_4_0 (k0 := k0) (k1 := k1) (k2 := k2) (k3 := callV_fn.trans k3) (k4 := rfl) ..
    | true =>
      have ih := loop42 m xs ys hl he hE h d (i + 1) (by omega)
      rw [e] at k3
      obtain ⟨⟨o1, a1, b1, v1, t1, l1, bd1, el1, q1⟩, f1⟩ := x; obtain ⟨⟨o2, a2, b2, v2, t2, l2, bd2, el2, q2⟩, f2⟩ := y; refine s42_4_1 (k0 := k0) (k1 := k1) (k2 := k2) (k3 := callV_fn.trans k3) (k4 := rfl) (k5 := ?_) ..
      rw [wrapS (by omega), Bool.true_and]
      exact ih
theorem t42 (m : Int) (xs ys : List Ele) (hl : xs.length < 9223372036854775807) (hE : ∀ x, x ∈ xs → ∀ (y : Ele) (h : Heap), CALL m 36 [.v (.agg (Ele.enc x)), .v (.agg (Ele.enc y))] h = some (.v (.bool (Ele.same x y)), h)) (h : Heap) : CALL m 35 [.v (.imm (xs.map Ele.enc)), .v (.imm (ys.map Ele.enc)), .v (.fn 36 [] [])] h = some (.v (.bool (eqL Ele.same xs ys)), h) := by
  refine callZ rfl (by kernel_rfl) (by kernel_rfl) ?_
  have l1 : (xs.map Ele.enc).length = xs.length := by simp
  have l2 : (ys.map Ele.enc).length = ys.length := by simp
  unfold eqL
  cases e : Nat.beq xs.length ys.length with
  | false => exact s42_0 (k0 := by rw [l1, l2]; exact len_ne e) ..
  | true =>
    refine s42_1 (k0 := by rw [l1, l2]; exact len_eq e) (k1 := ?_) ..
    rw [l1, Bool.true_and]
    exact loop42 m xs ys hl (Nat.eq_of_beq_eq_true e) hE h xs.length 0 (by omega)

theorem loop44 (m : Int) (xs ys : List Dat) (hl : xs.length < 9223372036854775807) (he : xs.length = ys.length) (hE : ∀ x, x ∈ xs → ∀ (y : Dat) (h : Heap), CALL m 38 [.v (.agg (Dat.enc x)), .v (.agg (Dat.enc y))] h = some (.v (.bool (Dat.same x y)), h)) (h : Heap) : ∀ (d i : Nat), i + d = xs.length →
    blk (cxZ m) 37 (at_ Tryz.prog 37 4) [.v (.imm (ys.map Dat.enc)), .v (.fn 38 [] []), .v (.imm (xs.map Dat.enc)), .v (.int .i64 (Int.ofNat xs.length)), .v (.int .i64 (Int.ofNat i))] h = some (.v (.bool (allZ Dat.same (xs.drop i) (ys.drop i))), h)
  | 0, i, hd => by
    obtain rfl : i = xs.length := by omega
    rw [List.drop_length, allZ_nil]
    exact s44_4_2 (k0 := ltZ_f (Int.le_refl _)) ..
  | d + 1, i, hd => by
    have hi : i < xs.length := by omega
    have hj : i < ys.length := by omega
    have hx : xs[i]? = some xs[i] := List.getElem?_eq_getElem hi
    have hy : ys[i]? = some ys[i] := List.getElem?_eq_getElem hj
    have hm : xs[i] ∈ xs := List.getElem_mem hi
    generalize xs[i] = x at hx hm
    generalize ys[i] = y at hy
    have k0 : ltZ (Int.ofNat i) (Int.ofNat xs.length) = true := ltZ_t (by rw [ofN, ofN]; omega)
    have k1 : ixA (.imm (xs.map Dat.enc)) (Int.ofNat i) 10 = some (Dat.enc x) := by exact ix_map (f := Dat.enc) hx (Dat.enc_len _)
    have k2 : ixA (.imm (ys.map Dat.enc)) (Int.ofNat i) 10 = some (Dat.enc y) := by exact ix_map (f := Dat.enc) hy (Dat.enc_len _)
    have k3 := hE x hm y h
    rw [allZ_drop hx hy]
    cases e : Dat.same x y with
    | false => rw [e] at k3; obtain ⟨⟨o1, a1, b1, v1, t1, l1, bd1, el1, q1⟩, f1⟩ := x; obtain ⟨⟨o2, a2, b2, v2, t2, l2, bd2, el2, q2⟩, f2⟩ := y; exact s44_4_0 (k0 := k0) (k1 := k1) (k2 := k2) (k3 := callV_fn.trans k3) (k4 := rfl) ..
    | true =>
      have ih := loop44 m xs ys hl he hE h d (i + 1) (by omega)
      rw [e] at k3
      obtain ⟨⟨o1, a1, b1, v1, t1, l1, bd1, el1, q1⟩, f1⟩ := x; obtain ⟨⟨o2, a2, b2, v2, t2, l2, bd2, el2, q2⟩, f2⟩ := y; refine s44_4_1 (k0 := k0) (k1 := k1) (k2 := k2) (k3 := callV_fn.trans k3) (k4 := rfl) (k5 := ?_) ..
      rw [wrapS (by omega), Bool.true_and]
      exact ih
theorem t44 (m : Int) (xs ys : List Dat) (hl : xs.length < 9223372036854775807) (hE : ∀ x, x ∈ xs → ∀ (y : Dat) (h : Heap), CALL m 38 [.v (.agg (Dat.enc x)), .v (.agg (Dat.enc y))] h = some (.v (.bool (Dat.same x y)), h)) (h : Heap) : CALL m 37 [.v (.imm (xs.map Dat.enc)), .v (.imm (ys.map Dat.enc)), .v (.fn 38 [] [])] h = some (.v (.bool (eqL Dat.same xs ys)), h) := by
  refine callZ rfl (by kernel_rfl) (by kernel_rfl) ?_
  have l1 : (xs.map Dat.enc).length = xs.length := by simp
  have l2 : (ys.map Dat.enc).length = ys.length := by simp
  unfold eqL
  cases e : Nat.beq xs.length ys.length with
  | false => exact s44_0 (k0 := by rw [l1, l2]; exact len_ne e) ..
  | true =>
    refine s44_1 (k0 := by rw [l1, l2]; exact len_eq e) (k1 := ?_) ..
    rw [l1, Bool.true_and]
    exact loop44 m xs ys hl (Nat.eq_of_beq_eq_true e) hE h xs.length 0 (by omega)

theorem loop47 (m : Int) (xs ys : List Cus) (hl : xs.length < 9223372036854775807) (he : xs.length = ys.length) (hE : ∀ x, x ∈ xs → ∀ (y : Cus) (h : Heap), CALL m 41 [.v (.agg (Cus.enc x)), .v (.agg (Cus.enc y))] h = some (.v (.bool (Cus.same x y)), h)) (h : Heap) : ∀ (d i : Nat), i + d = xs.length →
    blk (cxZ m) 40 (at_ Tryz.prog 40 4) [.v (.imm (ys.map Cus.enc)), .v (.fn 41 [] []), .v (.imm (xs.map Cus.enc)), .v (.int .i64 (Int.ofNat xs.length)), .v (.int .i64 (Int.ofNat i))] h = some (.v (.bool (allZ Cus.same (xs.drop i) (ys.drop i))), h)
  | 0, i, hd => by
    obtain rfl : i = xs.length := by omega
    rw [List.drop_length, allZ_nil]
    exact s47_4_2 (k0 := ltZ_f (Int.le_refl _)) ..
  | d + 1, i, hd => by
    have hi : i < xs.length := by omega
    have hj : i < ys.length := by omega
    have hx : xs[i]? = some xs[i] := List.getElem?_eq_getElem hi
    have hy : ys[i]? = some ys[i] := List.getElem?_eq_getElem hj
    have hm : xs[i] ∈ xs := List.getElem_mem hi
    generalize xs[i] = x at hx hm
    generalize ys[i] = y at hy
    have k0 : ltZ (Int.ofNat i) (Int.ofNat xs.length) = true := ltZ_t (by rw [ofN, ofN]; omega)
    have k1 : ixA (.imm (xs.map Cus.enc)) (Int.ofNat i) 2 = some (Cus.enc x) := by exact ix_map (f := Cus.enc) hx (Cus.enc_len _)
    have k2 : ixA (.imm (ys.map Cus.enc)) (Int.ofNat i) 2 = some (Cus.enc y) := by exact ix_map (f := Cus.enc) hy (Cus.enc_len _)
    have k3 := hE x hm y h
    rw [allZ_drop hx hy]
    cases e : Cus.same x y with
    | false => rw [e] at k3; exact s47_4_0 (k0 := k0) (k1 := k1) (k2 := k2) (k3 := callV_fn.trans k3) (k4 := rfl) ..
    | true =>
      have ih := loop47 m xs ys hl he hE h d (i + 1) (by omega)
      rw [e] at k3
      refine s47_4_1 (k0 := k0) (k1 := k1) (k2 := k2) (k3 := callV_fn.trans k3) (k4 := rfl) (k5 := ?_) ..
      rw [wrapS (by omega), Bool.true_and]
      exact ih
theorem t47 (m : Int) (xs ys : List Cus) (hl : xs.length < 9223372036854775807) (hE : ∀ x, x ∈ xs → ∀ (y : Cus) (h : Heap), CALL m 41 [.v (.agg (Cus.enc x)), .v (.agg (Cus.enc y))] h = some (.v (.bool (Cus.same x y)), h)) (h : Heap) : CALL m 40 [.v (.imm (xs.map Cus.enc)), .v (.imm (ys.map Cus.enc)), .v (.fn 41 [] [])] h = some (.v (.bool (eqL Cus.same xs ys)), h) := by
  refine callZ rfl (by kernel_rfl) (by kernel_rfl) ?_
  have l1 : (xs.map Cus.enc).length = xs.length := by simp
  have l2 : (ys.map Cus.enc).length = ys.length := by simp
  unfold eqL
  cases e : Nat.beq xs.length ys.length with
  | false => exact s47_0 (k0 := by rw [l1, l2]; exact len_ne e) ..
  | true =>
    refine s47_1 (k0 := by rw [l1, l2]; exact len_eq e) (k1 := ?_) ..
    rw [l1, Bool.true_and]
    exact loop47 m xs ys hl (Nat.eq_of_beq_eq_true e) hE h xs.length 0 (by omega)
end Go.Proofs.YtmgjnbhofkchmaaGreatDoor
