/-
  Small tells something, whatever the module.
-/
import Derived.Test.YtmgjnbhofkchmaaDoorAmS05f
import Derived.KernelRfl
import Derived.Test.YtmgjnbhofkchmaaDoorAmMod
import Derived.Test.YtmgjnbhofkchmaaDoorAmS05x
import Derived.Test.YtmgjnbhofkchmaaDoorAmS05R
/-
  Ways through texts, one by one (printed by a program of this repo).
-/
namespace Go.Proofs.YtmgjnbhofkchmaaDoor
open Go Go.Proofs.Am

theorem s51_0 (m : Int) (ty im fu ta me gl ex el da cu : List (List AV)) (st : Int) (h : Heap) (x1_2 : Bool) (x1_2h : Heap) (k0 : callF (cxZ m) (blk (cxZ m)) 61 [LV.v (AV.imm im), LV.v (AV.fn 62 [] [])] h = some (LV.v (AV.bool x1_2), x1_2h)) (k1 : x1_2 = true) :
    blk (cxZ m) 51 (body_ Tryd.prog 51) [.v (.agg [.imm ty, .imm im, .imm fu, .imm ta, .imm me, .imm gl, .imm ex, .int .i64 st, .imm el, .imm da, .imm cu])] h = some ((LV.v (AV.bool false), x1_2h)) :=
  blk_via (scr := ⟨fun x => match x with | 8 => some true | _ => none, fun _ _ => none, fun x y => match x, y with | 1, 2 => some (LV.v (AV.bool x1_2), x1_2h) | _, _ => none, false⟩) (p := callF (cxZ m) (blk (cxZ m)) 61 [LV.v (AV.imm im), LV.v (AV.fn 62 [] [])] h = some (LV.v (AV.bool x1_2), x1_2h) ∧ some x1_2 = some true ∧ some true = some true ∧ some true = some true ∧ some true = some true ∧ some (LV.v (AV.bool false), x1_2h) = some ((LV.v (AV.bool false), x1_2h))) (by kernel_rfl) ⟨k0, ⟨congrArg some k1, ⟨rfl, ⟨rfl, ⟨rfl, rfl⟩⟩⟩⟩⟩

theorem s51_1 (m : Int) (ty im fu ta me gl ex el da cu : List (List AV)) (st : Int) (h : Heap) (x1_2 : Bool) (x1_2h : Heap) (x2_4 : Bool) (x2_4h : Heap) (x3_5 : Bool) (x3_5h : Heap) (k0 : callF (cxZ m) (blk (cxZ m)) 61 [LV.v (AV.imm im), LV.v (AV.fn 62 [] [])] h = some (LV.v (AV.bool x1_2), x1_2h)) (k1 : x1_2 = false) (k2 : callF (cxZ m) (blk (cxZ m)) 63 [LV.v (AV.imm ex), LV.v (AV.fn 64 [] [])] x1_2h = some (LV.v (AV.bool x2_4), x2_4h)) (k3 : (!x2_4) = true) (k4 : callF (cxZ m) (blk (cxZ m)) 65 [LV.v (AV.imm cu), LV.v (AV.fn 66 [] [])] x2_4h = some (LV.v (AV.bool x3_5), x3_5h)) :
    blk (cxZ m) 51 (body_ Tryd.prog 51) [.v (.agg [.imm ty, .imm im, .imm fu, .imm ta, .imm me, .imm gl, .imm ex, .int .i64 st, .imm el, .imm da, .imm cu])] h = some ((LV.v (AV.bool !x3_5), x3_5h)) :=
  blk_via (scr := ⟨fun x => match x with | 8 => some false | 15 => some true | _ => none, fun _ _ => none, fun x y => match x, y with | 1, 2 => some (LV.v (AV.bool x1_2), x1_2h) | 2, 4 => some (LV.v (AV.bool x2_4), x2_4h) | 3, 5 => some (LV.v (AV.bool x3_5), x3_5h) | _, _ => none, false⟩) (p := callF (cxZ m) (blk (cxZ m)) 61 [LV.v (AV.imm im), LV.v (AV.fn 62 [] [])] h = some (LV.v (AV.bool x1_2), x1_2h) ∧ some x1_2 = some false ∧ some false = some false ∧ some false = some false ∧ callF (cxZ m) (blk (cxZ m)) 63 [LV.v (AV.imm ex), LV.v (AV.fn 64 [] [])] x1_2h = some (LV.v (AV.bool x2_4), x2_4h) ∧ some false = some false ∧ (some !x2_4) = some true ∧ some true = some true ∧ some true = some true ∧ callF (cxZ m) (blk (cxZ m)) 65 [LV.v (AV.imm cu), LV.v (AV.fn 66 [] [])] x2_4h = some (LV.v (AV.bool x3_5), x3_5h) ∧ some true = some true ∧ some true = some true ∧ some (LV.v (AV.bool !x3_5), x3_5h) = some ((LV.v (AV.bool !x3_5), x3_5h))) (by kernel_rfl) ⟨k0, ⟨congrArg some k1, ⟨rfl, ⟨rfl, ⟨k2, ⟨rfl, ⟨congrArg some k3, ⟨rfl, ⟨rfl, ⟨k4, ⟨rfl, ⟨rfl, rfl⟩⟩⟩⟩⟩⟩⟩⟩⟩⟩⟩⟩

theorem s51_2 (m : Int) (ty im fu ta me gl ex el da cu : List (List AV)) (st : Int) (h : Heap) (x1_2 : Bool) (x1_2h : Heap) (x2_4 : Bool) (x2_4h : Heap) (k0 : callF (cxZ m) (blk (cxZ m)) 61 [LV.v (AV.imm im), LV.v (AV.fn 62 [] [])] h = some (LV.v (AV.bool x1_2), x1_2h)) (k1 : x1_2 = false) (k2 : callF (cxZ m) (blk (cxZ m)) 63 [LV.v (AV.imm ex), LV.v (AV.fn 64 [] [])] x1_2h = some (LV.v (AV.bool x2_4), x2_4h)) (k3 : (!x2_4) = false) :
    blk (cxZ m) 51 (body_ Tryd.prog 51) [.v (.agg [.imm ty, .imm im, .imm fu, .imm ta, .imm me, .imm gl, .imm ex, .int .i64 st, .imm el, .imm da, .imm cu])] h = some ((LV.v (AV.bool false), x2_4h)) :=
  blk_via (scr := ⟨fun x => match x with | 8 => some false | 15 => some false | _ => none, fun _ _ => none, fun x y => match x, y with | 1, 2 => some (LV.v (AV.bool x1_2), x1_2h) | 2, 4 => some (LV.v (AV.bool x2_4), x2_4h) | _, _ => none, false⟩) (p := callF (cxZ m) (blk (cxZ m)) 61 [LV.v (AV.imm im), LV.v (AV.fn 62 [] [])] h = some (LV.v (AV.bool x1_2), x1_2h) ∧ some x1_2 = some false ∧ some false = some false ∧ some false = some false ∧ callF (cxZ m) (blk (cxZ m)) 63 [LV.v (AV.imm ex), LV.v (AV.fn 64 [] [])] x1_2h = some (LV.v (AV.bool x2_4), x2_4h) ∧ some false = some false ∧ (some !x2_4) = some false ∧ some false = some false ∧ some false = some false ∧ some false = some false ∧ some false = some false ∧ some (LV.v (AV.bool false), x2_4h) = some ((LV.v (AV.bool false), x2_4h))) (by kernel_rfl) ⟨k0, ⟨congrArg some k1, ⟨rfl, ⟨rfl, ⟨k2, ⟨rfl, ⟨congrArg some k3, ⟨rfl, ⟨rfl, ⟨rfl, ⟨rfl, rfl⟩⟩⟩⟩⟩⟩⟩⟩⟩⟩⟩

theorem s52_0 (m : Int) (ty im fu ta me gl ex el da cu : List (List AV)) (st : Int) (h : Heap) (x1_2 : Bool) (x1_2h : Heap) (x2_5 : Bool) (x2_5h : Heap) (k0 : callF (cxZ m) (blk (cxZ m)) 67 [LV.v (AV.imm el), LV.v (AV.fn 68 [] [])] h = some (LV.v (AV.bool x1_2), x1_2h)) (k1 : (!x1_2) = true) (k2 : callF (cxZ m) (blk (cxZ m)) 69 [LV.v (AV.imm da), LV.v (AV.fn 70 [] [])] x1_2h = some (LV.v (AV.bool x2_5), x2_5h)) :
    blk (cxZ m) 52 (body_ Tryd.prog 52) [.v (.agg [.imm ty, .imm im, .imm fu, .imm ta, .imm me, .imm gl, .imm ex, .int .i64 st, .imm el, .imm da, .imm cu])] h = some ((LV.v (AV.bool !x2_5), x2_5h)) :=
  blk_via (scr := ⟨fun x => match x with | 9 => some true | _ => none, fun _ _ => none, fun x y => match x, y with | 1, 2 => some (LV.v (AV.bool x1_2), x1_2h) | 2, 5 => some (LV.v (AV.bool x2_5), x2_5h) | _, _ => none, false⟩) (p := callF (cxZ m) (blk (cxZ m)) 67 [LV.v (AV.imm el), LV.v (AV.fn 68 [] [])] h = some (LV.v (AV.bool x1_2), x1_2h) ∧ (some !x1_2) = some true ∧ some true = some true ∧ some true = some true ∧ callF (cxZ m) (blk (cxZ m)) 69 [LV.v (AV.imm da), LV.v (AV.fn 70 [] [])] x1_2h = some (LV.v (AV.bool x2_5), x2_5h) ∧ some true = some true ∧ some true = some true ∧ some (LV.v (AV.bool !x2_5), x2_5h) = some ((LV.v (AV.bool !x2_5), x2_5h))) (by kernel_rfl) ⟨k0, ⟨congrArg some k1, ⟨rfl, ⟨rfl, ⟨k2, ⟨rfl, ⟨rfl, rfl⟩⟩⟩⟩⟩⟩⟩

theorem s52_1 (m : Int) (ty im fu ta me gl ex el da cu : List (List AV)) (st : Int) (h : Heap) (x1_2 : Bool) (x1_2h : Heap) (k0 : callF (cxZ m) (blk (cxZ m)) 67 [LV.v (AV.imm el), LV.v (AV.fn 68 [] [])] h = some (LV.v (AV.bool x1_2), x1_2h)) (k1 : (!x1_2) = false) :
    blk (cxZ m) 52 (body_ Tryd.prog 52) [.v (.agg [.imm ty, .imm im, .imm fu, .imm ta, .imm me, .imm gl, .imm ex, .int .i64 st, .imm el, .imm da, .imm cu])] h = some ((LV.v (AV.bool false), x1_2h)) :=
  blk_via (scr := ⟨fun x => match x with | 9 => some false | _ => none, fun _ _ => none, fun x y => match x, y with | 1, 2 => some (LV.v (AV.bool x1_2), x1_2h) | _, _ => none, false⟩) (p := callF (cxZ m) (blk (cxZ m)) 67 [LV.v (AV.imm el), LV.v (AV.fn 68 [] [])] h = some (LV.v (AV.bool x1_2), x1_2h) ∧ (some !x1_2) = some false ∧ some false = some false ∧ some false = some false ∧ some false = some false ∧ some false = some false ∧ some (LV.v (AV.bool false), x1_2h) = some ((LV.v (AV.bool false), x1_2h))) (by kernel_rfl) ⟨k0, ⟨congrArg some k1, ⟨rfl, ⟨rfl, ⟨rfl, ⟨rfl, rfl⟩⟩⟩⟩⟩⟩

theorem s61_0 (m : Int) (xs : List (List AV)) (fv : AV) (h : Heap) (x1_2 : Int) (x1_2h : Heap) (k0 : callF (cxZ m) (blk (cxZ m)) 77 [LV.v (AV.imm xs), LV.v fv] h = some (LV.v (AV.int IntKind.i64 x1_2), x1_2h)) :
    blk (cxZ m) 61 (body_ Tryd.prog 61) [.v (.imm xs), .v fv] h = some ((LV.v (AV.bool (leZ (Int.ofNat 0) x1_2)), x1_2h)) :=
  blk_via (scr := ⟨fun _ => none, fun _ _ => none, fun x y => match x, y with | 1, 2 => some (LV.v (AV.int Go.IntKind.i64 x1_2), x1_2h) | _, _ => none, false⟩) (p := callF (cxZ m) (blk (cxZ m)) 77 [LV.v (AV.imm xs), LV.v fv] h = some (LV.v (AV.int IntKind.i64 x1_2), x1_2h) ∧ some (LV.v (AV.bool (leZ (Int.ofNat 0) x1_2)), x1_2h) = some ((LV.v (AV.bool (leZ (Int.ofNat 0) x1_2)), x1_2h))) (by kernel_rfl) ⟨k0, rfl⟩

theorem s63_0 (m : Int) (xs : List (List AV)) (fv : AV) (h : Heap) (x1_2 : Int) (x1_2h : Heap) (k0 : callF (cxZ m) (blk (cxZ m)) 78 [LV.v (AV.imm xs), LV.v fv] h = some (LV.v (AV.int IntKind.i64 x1_2), x1_2h)) :
    blk (cxZ m) 63 (body_ Tryd.prog 63) [.v (.imm xs), .v fv] h = some ((LV.v (AV.bool (leZ (Int.ofNat 0) x1_2)), x1_2h)) :=
  blk_via (scr := ⟨fun _ => none, fun _ _ => none, fun x y => match x, y with | 1, 2 => some (LV.v (AV.int Go.IntKind.i64 x1_2), x1_2h) | _, _ => none, false⟩) (p := callF (cxZ m) (blk (cxZ m)) 78 [LV.v (AV.imm xs), LV.v fv] h = some (LV.v (AV.int IntKind.i64 x1_2), x1_2h) ∧ some (LV.v (AV.bool (leZ (Int.ofNat 0) x1_2)), x1_2h) = some ((LV.v (AV.bool (leZ (Int.ofNat 0) x1_2)), x1_2h))) (by kernel_rfl) ⟨k0, rfl⟩

theorem s65_0 (m : Int) (xs : List (List AV)) (fv : AV) (h : Heap) (x1_2 : Int) (x1_2h : Heap) (k0 : callF (cxZ m) (blk (cxZ m)) 79 [LV.v (AV.imm xs), LV.v fv] h = some (LV.v (AV.int IntKind.i64 x1_2), x1_2h)) :
    blk (cxZ m) 65 (body_ Tryd.prog 65) [.v (.imm xs), .v fv] h = some ((LV.v (AV.bool (leZ (Int.ofNat 0) x1_2)), x1_2h)) :=
  blk_via (scr := ⟨fun _ => none, fun _ _ => none, fun x y => match x, y with | 1, 2 => some (LV.v (AV.int Go.IntKind.i64 x1_2), x1_2h) | _, _ => none, false⟩) (p := callF (cxZ m) (blk (cxZ m)) 79 [LV.v (AV.imm xs), LV.v fv] h = some (LV.v (AV.int IntKind.i64 x1_2), x1_2h) ∧ some (LV.v (AV.bool (leZ (Int.ofNat 0) x1_2)), x1_2h) = some ((LV.v (AV.bool (leZ (Int.ofNat 0) x1_2)), x1_2h))) (by kernel_rfl) ⟨k0, rfl⟩

theorem s67_0 (m : Int) (xs : List (List AV)) (fv : AV) (h : Heap) (x1_2 : Int) (x1_2h : Heap) (k0 : callF (cxZ m) (blk (cxZ m)) 80 [LV.v (AV.imm xs), LV.v fv] h = some (LV.v (AV.int IntKind.i64 x1_2), x1_2h)) :
    blk (cxZ m) 67 (body_ Tryd.prog 67) [.v (.imm xs), .v fv] h = some ((LV.v (AV.bool (leZ (Int.ofNat 0) x1_2)), x1_2h)) :=
  blk_via (scr := ⟨fun _ => none, fun _ _ => none, fun x y => match x, y with | 1, 2 => some (LV.v (AV.int Go.IntKind.i64 x1_2), x1_2h) | _, _ => none, false⟩) (p := callF (cxZ m) (blk (cxZ m)) 80 [LV.v (AV.imm xs), LV.v fv] h = some (LV.v (AV.int IntKind.i64 x1_2), x1_2h) ∧ some (LV.v (AV.bool (leZ (Int.ofNat 0) x1_2)), x1_2h) = some ((LV.v (AV.bool (leZ (Int.ofNat 0) x1_2)), x1_2h))) (by kernel_rfl) ⟨k0, rfl⟩

theorem s69_0 (m : Int) (xs : List (List AV)) (fv : AV) (h : Heap) (x1_2 : Int) (x1_2h : Heap) (k0 : callF (cxZ m) (blk (cxZ m)) 81 [LV.v (AV.imm xs), LV.v fv] h = some (LV.v (AV.int IntKind.i64 x1_2), x1_2h)) :
    blk (cxZ m) 69 (body_ Tryd.prog 69) [.v (.imm xs), .v fv] h = some ((LV.v (AV.bool (leZ (Int.ofNat 0) x1_2)), x1_2h)) :=
  blk_via (scr := ⟨fun _ => none, fun _ _ => none, fun x y => match x, y with | 1, 2 => some (LV.v (AV.int Go.IntKind.i64 x1_2), x1_2h) | _, _ => none, false⟩) (p := callF (cxZ m) (blk (cxZ m)) 81 [LV.v (AV.imm xs), LV.v fv] h = some (LV.v (AV.int IntKind.i64 x1_2), x1_2h) ∧ some (LV.v (AV.bool (leZ (Int.ofNat 0) x1_2)), x1_2h) = some ((LV.v (AV.bool (leZ (Int.ofNat 0) x1_2)), x1_2h))) (by kernel_rfl) ⟨k0, rfl⟩

theorem s77_0 (m : Int) (xs : List (List AV)) (fv : AV) (h : Heap) (r : LV × Heap) (k0 : (blk (cxZ m)) 77 (at_ Tryd.prog 77 2) [LV.v (AV.imm xs), LV.v fv, LV.v (AV.int IntKind.i64 (Int.ofNat (List.length xs))), LV.v (AV.int IntKind.i64 (Int.ofNat 0))] h = some r) :
    blk (cxZ m) 77 (body_ Tryd.prog 77) [.v (.imm xs), .v fv] h = some r :=
  blk_via (scr := ⟨fun _ => none, fun _ _ => none, fun _ _ => none, false⟩) (p := true = true ∧ (blk (cxZ m)) 77 (at_ Tryd.prog 77 2) [LV.v (AV.imm xs), LV.v fv, LV.v (AV.int IntKind.i64 (Int.ofNat (List.length xs))), LV.v (AV.int IntKind.i64 (Int.ofNat 0))] h = some r) (by kernel_rfl) ⟨rfl, k0⟩

theorem s77_2_0 (m : Int) (xs : List (List AV)) (fv : AV) (n : Int) (i : Nat) (h : Heap) (x4_3_0 : ByteArray) (x4_3_1 : ByteArray) (x4_3_2 : Int) (x4_3_3 : Int) (x4_3_4 : Bool) (x4_3_5 : Int) (x4_3_6 : Int) (x4_3_7 : Bool) (x4_5 : Bool) (x4_5h : Heap) (k0 : ltZ (Int.ofNat i) n = true) (k1 : ixA (AV.imm xs) (Int.ofNat i) 8 = some [AV.str x4_3_0, AV.str x4_3_1, AV.int IntKind.i64 x4_3_2, AV.int IntKind.i64 x4_3_3, AV.bool x4_3_4, AV.int IntKind.i64 x4_3_5, AV.int IntKind.i64 x4_3_6, AV.bool x4_3_7]) (k2 : callV (cxZ m) (blk (cxZ m)) fv [LV.v (AV.agg [AV.str x4_3_0, AV.str x4_3_1, AV.int IntKind.i64 x4_3_2, AV.int IntKind.i64 x4_3_3, AV.bool x4_3_4, AV.int IntKind.i64 x4_3_5, AV.int IntKind.i64 x4_3_6, AV.bool x4_3_7])] h = some (LV.v (AV.bool x4_5), x4_5h)) (k3 : x4_5 = true) :
    blk (cxZ m) 77 (at_ Tryd.prog 77 2) [.v (.imm xs), .v fv, .v (.int .i64 n), .v (.int .i64 (Int.ofNat i))] h = some ((LV.v (AV.int IntKind.i64 (Int.ofNat i)), x4_5h)) :=
  blk_via (scr := ⟨fun x => match x with | 9 => some true | 16 => some true | _ => none, fun x y => match x, y with | 4, 3 => some (LV.v (AV.snap [(AV.str x4_3_0), (AV.str x4_3_1), (AV.int Go.IntKind.i64 x4_3_2), (AV.int Go.IntKind.i64 x4_3_3), (AV.bool x4_3_4), (AV.int Go.IntKind.i64 x4_3_5), (AV.int Go.IntKind.i64 x4_3_6), (AV.bool x4_3_7)])) | _, _ => none, fun x y => match x, y with | 4, 5 => some (LV.v (AV.bool x4_5), x4_5h) | _, _ => none, false⟩) (p := some (ltZ (Int.ofNat i) n) = some true ∧ (false = false ∧ (none : Option Nat) = none ∧ ixA (AV.imm xs) (Int.ofNat i) 8 = some [AV.str x4_3_0, AV.str x4_3_1, AV.int IntKind.i64 x4_3_2, AV.int IntKind.i64 x4_3_3, AV.bool x4_3_4, AV.int IntKind.i64 x4_3_5, AV.int IntKind.i64 x4_3_6, AV.bool x4_3_7]) ∧ callV (cxZ m) (blk (cxZ m)) fv [LV.v (AV.agg [AV.str x4_3_0, AV.str x4_3_1, AV.int IntKind.i64 x4_3_2, AV.int IntKind.i64 x4_3_3, AV.bool x4_3_4, AV.int IntKind.i64 x4_3_5, AV.int IntKind.i64 x4_3_6, AV.bool x4_3_7])] h = some (LV.v (AV.bool x4_5), x4_5h) ∧ some x4_5 = some true ∧ some (LV.v (AV.int IntKind.i64 (Int.ofNat i)), x4_5h) = some ((LV.v (AV.int IntKind.i64 (Int.ofNat i)), x4_5h))) (by kernel_rfl) ⟨congrArg some k0, ⟨⟨rfl, ⟨rfl, k1⟩⟩, ⟨k2, ⟨congrArg some k3, rfl⟩⟩⟩⟩

theorem s77_2_1 (m : Int) (xs : List (List AV)) (fv : AV) (n : Int) (i : Nat) (h : Heap) (x4_3_0 : ByteArray) (x4_3_1 : ByteArray) (x4_3_2 : Int) (x4_3_3 : Int) (x4_3_4 : Bool) (x4_3_5 : Int) (x4_3_6 : Int) (x4_3_7 : Bool) (x4_5 : Bool) (x4_5h : Heap) (r : LV × Heap) (k0 : ltZ (Int.ofNat i) n = true) (k1 : ixA (AV.imm xs) (Int.ofNat i) 8 = some [AV.str x4_3_0, AV.str x4_3_1, AV.int IntKind.i64 x4_3_2, AV.int IntKind.i64 x4_3_3, AV.bool x4_3_4, AV.int IntKind.i64 x4_3_5, AV.int IntKind.i64 x4_3_6, AV.bool x4_3_7]) (k2 : callV (cxZ m) (blk (cxZ m)) fv [LV.v (AV.agg [AV.str x4_3_0, AV.str x4_3_1, AV.int IntKind.i64 x4_3_2, AV.int IntKind.i64 x4_3_3, AV.bool x4_3_4, AV.int IntKind.i64 x4_3_5, AV.int IntKind.i64 x4_3_6, AV.bool x4_3_7])] h = some (LV.v (AV.bool x4_5), x4_5h)) (k3 : x4_5 = false) (k4 : (blk (cxZ m)) 77 (at_ Tryd.prog 77 2) [LV.v (AV.imm xs), LV.v fv, LV.v (AV.int IntKind.i64 n), LV.v (AV.int IntKind.i64 (IntKind.wrap IntKind.i64 (Int.ofNat (Nat.succ i))))] x4_5h = some r) :
    blk (cxZ m) 77 (at_ Tryd.prog 77 2) [.v (.imm xs), .v fv, .v (.int .i64 n), .v (.int .i64 (Int.ofNat i))] h = some r :=
  blk_via (scr := ⟨fun x => match x with | 9 => some true | 16 => some false | _ => none, fun x y => match x, y with | 4, 3 => some (LV.v (AV.snap [(AV.str x4_3_0), (AV.str x4_3_1), (AV.int Go.IntKind.i64 x4_3_2), (AV.int Go.IntKind.i64 x4_3_3), (AV.bool x4_3_4), (AV.int Go.IntKind.i64 x4_3_5), (AV.int Go.IntKind.i64 x4_3_6), (AV.bool x4_3_7)])) | _, _ => none, fun x y => match x, y with | 4, 5 => some (LV.v (AV.bool x4_5), x4_5h) | _, _ => none, false⟩) (p := some (ltZ (Int.ofNat i) n) = some true ∧ (false = false ∧ (none : Option Nat) = none ∧ ixA (AV.imm xs) (Int.ofNat i) 8 = some [AV.str x4_3_0, AV.str x4_3_1, AV.int IntKind.i64 x4_3_2, AV.int IntKind.i64 x4_3_3, AV.bool x4_3_4, AV.int IntKind.i64 x4_3_5, AV.int IntKind.i64 x4_3_6, AV.bool x4_3_7]) ∧ callV (cxZ m) (blk (cxZ m)) fv [LV.v (AV.agg [AV.str x4_3_0, AV.str x4_3_1, AV.int IntKind.i64 x4_3_2, AV.int IntKind.i64 x4_3_3, AV.bool x4_3_4, AV.int IntKind.i64 x4_3_5, AV.int IntKind.i64 x4_3_6, AV.bool x4_3_7])] h = some (LV.v (AV.bool x4_5), x4_5h) ∧ some x4_5 = some false ∧ true = true ∧ (blk (cxZ m)) 77 (at_ Tryd.prog 77 2) [LV.v (AV.imm xs), LV.v fv, LV.v (AV.int IntKind.i64 n), LV.v (AV.int IntKind.i64 (IntKind.wrap IntKind.i64 (Int.ofNat (Nat.succ i))))] x4_5h = some r) (by kernel_rfl) ⟨congrArg some k0, ⟨⟨rfl, ⟨rfl, k1⟩⟩, ⟨k2, ⟨congrArg some k3, ⟨rfl, k4⟩⟩⟩⟩⟩

theorem s77_2_2 (m : Int) (xs : List (List AV)) (fv : AV) (n : Int) (i : Nat) (h : Heap) (k0 : ltZ (Int.ofNat i) n = false) :
    blk (cxZ m) 77 (at_ Tryd.prog 77 2) [.v (.imm xs), .v fv, .v (.int .i64 n), .v (.int .i64 (Int.ofNat i))] h = some ((LV.v (AV.int IntKind.i64 (Int.negSucc 0)), h)) :=
  blk_via (scr := ⟨fun x => match x with | 9 => some false | _ => none, fun _ _ => none, fun _ _ => none, false⟩) (p := some (ltZ (Int.ofNat i) n) = some false ∧ some (LV.v (AV.int IntKind.i64 (Int.negSucc 0)), h) = some ((LV.v (AV.int IntKind.i64 (Int.negSucc 0)), h))) (by kernel_rfl) ⟨congrArg some k0, rfl⟩

theorem s78_0 (m : Int) (xs : List (List AV)) (fv : AV) (h : Heap) (r : LV × Heap) (k0 : (blk (cxZ m)) 78 (at_ Tryd.prog 78 2) [LV.v (AV.imm xs), LV.v fv, LV.v (AV.int IntKind.i64 (Int.ofNat (List.length xs))), LV.v (AV.int IntKind.i64 (Int.ofNat 0))] h = some r) :
    blk (cxZ m) 78 (body_ Tryd.prog 78) [.v (.imm xs), .v fv] h = some r :=
  blk_via (scr := ⟨fun _ => none, fun _ _ => none, fun _ _ => none, false⟩) (p := true = true ∧ (blk (cxZ m)) 78 (at_ Tryd.prog 78 2) [LV.v (AV.imm xs), LV.v fv, LV.v (AV.int IntKind.i64 (Int.ofNat (List.length xs))), LV.v (AV.int IntKind.i64 (Int.ofNat 0))] h = some r) (by kernel_rfl) ⟨rfl, k0⟩

theorem s78_2_0 (m : Int) (xs : List (List AV)) (fv : AV) (n : Int) (i : Nat) (h : Heap) (x4_3_0 : ByteArray) (x4_3_1 : Int) (x4_3_2 : Int) (x4_5 : Bool) (x4_5h : Heap) (k0 : ltZ (Int.ofNat i) n = true) (k1 : ixA (AV.imm xs) (Int.ofNat i) 3 = some [AV.str x4_3_0, AV.int IntKind.i64 x4_3_1, AV.int IntKind.i64 x4_3_2]) (k2 : callV (cxZ m) (blk (cxZ m)) fv [LV.v (AV.agg [AV.str x4_3_0, AV.int IntKind.i64 x4_3_1, AV.int IntKind.i64 x4_3_2])] h = some (LV.v (AV.bool x4_5), x4_5h)) (k3 : x4_5 = true) :
    blk (cxZ m) 78 (at_ Tryd.prog 78 2) [.v (.imm xs), .v fv, .v (.int .i64 n), .v (.int .i64 (Int.ofNat i))] h = some ((LV.v (AV.int IntKind.i64 (Int.ofNat i)), x4_5h)) :=
  blk_via (scr := ⟨fun x => match x with | 9 => some true | 16 => some true | _ => none, fun x y => match x, y with | 4, 3 => some (LV.v (AV.snap [(AV.str x4_3_0), (AV.int Go.IntKind.i64 x4_3_1), (AV.int Go.IntKind.i64 x4_3_2)])) | _, _ => none, fun x y => match x, y with | 4, 5 => some (LV.v (AV.bool x4_5), x4_5h) | _, _ => none, false⟩) (p := some (ltZ (Int.ofNat i) n) = some true ∧ (false = false ∧ (none : Option Nat) = none ∧ ixA (AV.imm xs) (Int.ofNat i) 3 = some [AV.str x4_3_0, AV.int IntKind.i64 x4_3_1, AV.int IntKind.i64 x4_3_2]) ∧ callV (cxZ m) (blk (cxZ m)) fv [LV.v (AV.agg [AV.str x4_3_0, AV.int IntKind.i64 x4_3_1, AV.int IntKind.i64 x4_3_2])] h = some (LV.v (AV.bool x4_5), x4_5h) ∧ some x4_5 = some true ∧ some (LV.v (AV.int IntKind.i64 (Int.ofNat i)), x4_5h) = some ((LV.v (AV.int IntKind.i64 (Int.ofNat i)), x4_5h))) (by kernel_rfl) ⟨congrArg some k0, ⟨⟨rfl, ⟨rfl, k1⟩⟩, ⟨k2, ⟨congrArg some k3, rfl⟩⟩⟩⟩

theorem s78_2_1 (m : Int) (xs : List (List AV)) (fv : AV) (n : Int) (i : Nat) (h : Heap) (x4_3_0 : ByteArray) (x4_3_1 : Int) (x4_3_2 : Int) (x4_5 : Bool) (x4_5h : Heap) (r : LV × Heap) (k0 : ltZ (Int.ofNat i) n = true) (k1 : ixA (AV.imm xs) (Int.ofNat i) 3 = some [AV.str x4_3_0, AV.int IntKind.i64 x4_3_1, AV.int IntKind.i64 x4_3_2]) (k2 : callV (cxZ m) (blk (cxZ m)) fv [LV.v (AV.agg [AV.str x4_3_0, AV.int IntKind.i64 x4_3_1, AV.int IntKind.i64 x4_3_2])] h = some (LV.v (AV.bool x4_5), x4_5h)) (k3 : x4_5 = false) (k4 : (blk (cxZ m)) 78 (at_ Tryd.prog 78 2) [LV.v (AV.imm xs), LV.v fv, LV.v (AV.int IntKind.i64 n), LV.v (AV.int IntKind.i64 (IntKind.wrap IntKind.i64 (Int.ofNat (Nat.succ i))))] x4_5h = some r) :
    blk (cxZ m) 78 (at_ Tryd.prog 78 2) [.v (.imm xs), .v fv, .v (.int .i64 n), .v (.int .i64 (Int.ofNat i))] h = some r :=
  blk_via (scr := ⟨fun x => match x with | 9 => some true | 16 => some false | _ => none, fun x y => match x, y with | 4, 3 => some (LV.v (AV.snap [(AV.str x4_3_0), (AV.int Go.IntKind.i64 x4_3_1), (AV.int Go.IntKind.i64 x4_3_2)])) | _, _ => none, fun x y => match x, y with | 4, 5 => some (LV.v (AV.bool x4_5), x4_5h) | _, _ => none, false⟩) (p := some (ltZ (Int.ofNat i) n) = some true ∧ (false = false ∧ (none : Option Nat) = none ∧ ixA (AV.imm xs) (Int.ofNat i) 3 = some [AV.str x4_3_0, AV.int IntKind.i64 x4_3_1, AV.int IntKind.i64 x4_3_2]) ∧ callV (cxZ m) (blk (cxZ m)) fv [LV.v (AV.agg [AV.str x4_3_0, AV.int IntKind.i64 x4_3_1, AV.int IntKind.i64 x4_3_2])] h = some (LV.v (AV.bool x4_5), x4_5h) ∧ some x4_5 = some false ∧ true = true ∧ (blk (cxZ m)) 78 (at_ Tryd.prog 78 2) [LV.v (AV.imm xs), LV.v fv, LV.v (AV.int IntKind.i64 n), LV.v (AV.int IntKind.i64 (IntKind.wrap IntKind.i64 (Int.ofNat (Nat.succ i))))] x4_5h = some r) (by kernel_rfl) ⟨congrArg some k0, ⟨⟨rfl, ⟨rfl, k1⟩⟩, ⟨k2, ⟨congrArg some k3, ⟨rfl, k4⟩⟩⟩⟩⟩

theorem s78_2_2 (m : Int) (xs : List (List AV)) (fv : AV) (n : Int) (i : Nat) (h : Heap) (k0 : ltZ (Int.ofNat i) n = false) :
    blk (cxZ m) 78 (at_ Tryd.prog 78 2) [.v (.imm xs), .v fv, .v (.int .i64 n), .v (.int .i64 (Int.ofNat i))] h = some ((LV.v (AV.int IntKind.i64 (Int.negSucc 0)), h)) :=
  blk_via (scr := ⟨fun x => match x with | 9 => some false | _ => none, fun _ _ => none, fun _ _ => none, false⟩) (p := some (ltZ (Int.ofNat i) n) = some false ∧ some (LV.v (AV.int IntKind.i64 (Int.negSucc 0)), h) = some ((LV.v (AV.int IntKind.i64 (Int.negSucc 0)), h))) (by kernel_rfl) ⟨congrArg some k0, rfl⟩

theorem s79_0 (m : Int) (xs : List (List AV)) (fv : AV) (h : Heap) (r : LV × Heap) (k0 : (blk (cxZ m)) 79 (at_ Tryd.prog 79 2) [LV.v (AV.imm xs), LV.v fv, LV.v (AV.int IntKind.i64 (Int.ofNat (List.length xs))), LV.v (AV.int IntKind.i64 (Int.ofNat 0))] h = some r) :
    blk (cxZ m) 79 (body_ Tryd.prog 79) [.v (.imm xs), .v fv] h = some r :=
  blk_via (scr := ⟨fun _ => none, fun _ _ => none, fun _ _ => none, false⟩) (p := true = true ∧ (blk (cxZ m)) 79 (at_ Tryd.prog 79 2) [LV.v (AV.imm xs), LV.v fv, LV.v (AV.int IntKind.i64 (Int.ofNat (List.length xs))), LV.v (AV.int IntKind.i64 (Int.ofNat 0))] h = some r) (by kernel_rfl) ⟨rfl, k0⟩

theorem s79_2_0 (m : Int) (xs : List (List AV)) (fv : AV) (n : Int) (i : Nat) (h : Heap) (x4_3_0 : ByteArray) (x4_3_1 : List (List AV)) (x4_5 : Bool) (x4_5h : Heap) (k0 : ltZ (Int.ofNat i) n = true) (k1 : ixA (AV.imm xs) (Int.ofNat i) 2 = some [AV.str x4_3_0, AV.imm x4_3_1]) (k2 : callV (cxZ m) (blk (cxZ m)) fv [LV.v (AV.agg [AV.str x4_3_0, AV.imm x4_3_1])] h = some (LV.v (AV.bool x4_5), x4_5h)) (k3 : x4_5 = true) :
    blk (cxZ m) 79 (at_ Tryd.prog 79 2) [.v (.imm xs), .v fv, .v (.int .i64 n), .v (.int .i64 (Int.ofNat i))] h = some ((LV.v (AV.int IntKind.i64 (Int.ofNat i)), x4_5h)) :=
  blk_via (scr := ⟨fun x => match x with | 9 => some true | 16 => some true | _ => none, fun x y => match x, y with | 4, 3 => some (LV.v (AV.snap [(AV.str x4_3_0), (AV.imm x4_3_1)])) | _, _ => none, fun x y => match x, y with | 4, 5 => some (LV.v (AV.bool x4_5), x4_5h) | _, _ => none, false⟩) (p := some (ltZ (Int.ofNat i) n) = some true ∧ (false = false ∧ (none : Option Nat) = none ∧ ixA (AV.imm xs) (Int.ofNat i) 2 = some [AV.str x4_3_0, AV.imm x4_3_1]) ∧ callV (cxZ m) (blk (cxZ m)) fv [LV.v (AV.agg [AV.str x4_3_0, AV.imm x4_3_1])] h = some (LV.v (AV.bool x4_5), x4_5h) ∧ some x4_5 = some true ∧ some (LV.v (AV.int IntKind.i64 (Int.ofNat i)), x4_5h) = some ((LV.v (AV.int IntKind.i64 (Int.ofNat i)), x4_5h))) (by kernel_rfl) ⟨congrArg some k0, ⟨⟨rfl, ⟨rfl, k1⟩⟩, ⟨k2, ⟨congrArg some k3, rfl⟩⟩⟩⟩

theorem s79_2_1 (m : Int) (xs : List (List AV)) (fv : AV) (n : Int) (i : Nat) (h : Heap) (x4_3_0 : ByteArray) (x4_3_1 : List (List AV)) (x4_5 : Bool) (x4_5h : Heap) (r : LV × Heap) (k0 : ltZ (Int.ofNat i) n = true) (k1 : ixA (AV.imm xs) (Int.ofNat i) 2 = some [AV.str x4_3_0, AV.imm x4_3_1]) (k2 : callV (cxZ m) (blk (cxZ m)) fv [LV.v (AV.agg [AV.str x4_3_0, AV.imm x4_3_1])] h = some (LV.v (AV.bool x4_5), x4_5h)) (k3 : x4_5 = false) (k4 : (blk (cxZ m)) 79 (at_ Tryd.prog 79 2) [LV.v (AV.imm xs), LV.v fv, LV.v (AV.int IntKind.i64 n), LV.v (AV.int IntKind.i64 (IntKind.wrap IntKind.i64 (Int.ofNat (Nat.succ i))))] x4_5h = some r) :
    blk (cxZ m) 79 (at_ Tryd.prog 79 2) [.v (.imm xs), .v fv, .v (.int .i64 n), .v (.int .i64 (Int.ofNat i))] h = some r :=
  blk_via (scr := ⟨fun x => match x with | 9 => some true | 16 => some false | _ => none, fun x y => match x, y with | 4, 3 => some (LV.v (AV.snap [(AV.str x4_3_0), (AV.imm x4_3_1)])) | _, _ => none, fun x y => match x, y with | 4, 5 => some (LV.v (AV.bool x4_5), x4_5h) | _, _ => none, false⟩) (p := some (ltZ (Int.ofNat i) n) = some true ∧ (false = false ∧ (none : Option Nat) = none ∧ ixA (AV.imm xs) (Int.ofNat i) 2 = some [AV.str x4_3_0, AV.imm x4_3_1]) ∧ callV (cxZ m) (blk (cxZ m)) fv [LV.v (AV.agg [AV.str x4_3_0, AV.imm x4_3_1])] h = some (LV.v (AV.bool x4_5), x4_5h) ∧ some x4_5 = some false ∧ true = true ∧ (blk (cxZ m)) 79 (at_ Tryd.prog 79 2) [LV.v (AV.imm xs), LV.v fv, LV.v (AV.int IntKind.i64 n), LV.v (AV.int IntKind.i64 (IntKind.wrap IntKind.i64 (Int.ofNat (Nat.succ i))))] x4_5h = some r) (by kernel_rfl) ⟨congrArg some k0, ⟨⟨rfl, ⟨rfl, k1⟩⟩, ⟨k2, ⟨congrArg some k3, ⟨rfl, k4⟩⟩⟩⟩⟩

theorem s79_2_2 (m : Int) (xs : List (List AV)) (fv : AV) (n : Int) (i : Nat) (h : Heap) (k0 : ltZ (Int.ofNat i) n = false) :
    blk (cxZ m) 79 (at_ Tryd.prog 79 2) [.v (.imm xs), .v fv, .v (.int .i64 n), .v (.int .i64 (Int.ofNat i))] h = some ((LV.v (AV.int IntKind.i64 (Int.negSucc 0)), h)) :=
  blk_via (scr := ⟨fun x => match x with | 9 => some false | _ => none, fun _ _ => none, fun _ _ => none, false⟩) (p := some (ltZ (Int.ofNat i) n) = some false ∧ some (LV.v (AV.int IntKind.i64 (Int.negSucc 0)), h) = some ((LV.v (AV.int IntKind.i64 (Int.negSucc 0)), h))) (by kernel_rfl) ⟨congrArg some k0, rfl⟩

theorem s80_0 (m : Int) (xs : List (List AV)) (fv : AV) (h : Heap) (r : LV × Heap) (k0 : (blk (cxZ m)) 80 (at_ Tryd.prog 80 2) [LV.v (AV.imm xs), LV.v fv, LV.v (AV.int IntKind.i64 (Int.ofNat (List.length xs))), LV.v (AV.int IntKind.i64 (Int.ofNat 0))] h = some r) :
    blk (cxZ m) 80 (body_ Tryd.prog 80) [.v (.imm xs), .v fv] h = some r :=
  blk_via (scr := ⟨fun _ => none, fun _ _ => none, fun _ _ => none, false⟩) (p := true = true ∧ (blk (cxZ m)) 80 (at_ Tryd.prog 80 2) [LV.v (AV.imm xs), LV.v fv, LV.v (AV.int IntKind.i64 (Int.ofNat (List.length xs))), LV.v (AV.int IntKind.i64 (Int.ofNat 0))] h = some r) (by kernel_rfl) ⟨rfl, k0⟩

theorem s80_2_0 (m : Int) (xs : List (List AV)) (fv : AV) (n : Int) (i : Nat) (h : Heap) (x4_3_0 : Int) (x4_3_1 : Int) (x4_3_2 : Int) (x4_3_3 : Int) (x4_3_4 : Int) (x4_3_5 : List (List AV)) (x4_3_6 : List (List AV)) (x4_3_7 : List (List AV)) (x4_3_8 : Bool) (x4_3_9 : List (List AV)) (x4_5 : Bool) (x4_5h : Heap) (k0 : ltZ (Int.ofNat i) n = true) (k1 : ixA (AV.imm xs) (Int.ofNat i) 10 = some [AV.int IntKind.i64 x4_3_0, AV.int IntKind.i64 x4_3_1, AV.int IntKind.i64 x4_3_2, AV.int IntKind.u64 x4_3_3, AV.int IntKind.i64 x4_3_4, AV.imm x4_3_5, AV.imm x4_3_6, AV.imm x4_3_7, AV.bool x4_3_8, AV.imm x4_3_9]) (k2 : callV (cxZ m) (blk (cxZ m)) fv [LV.v (AV.agg [AV.int IntKind.i64 x4_3_0, AV.int IntKind.i64 x4_3_1, AV.int IntKind.i64 x4_3_2, AV.int IntKind.u64 x4_3_3, AV.int IntKind.i64 x4_3_4, AV.imm x4_3_5, AV.imm x4_3_6, AV.imm x4_3_7, AV.bool x4_3_8, AV.imm x4_3_9])] h = some (LV.v (AV.bool x4_5), x4_5h)) (k3 : x4_5 = true) :
    blk (cxZ m) 80 (at_ Tryd.prog 80 2) [.v (.imm xs), .v fv, .v (.int .i64 n), .v (.int .i64 (Int.ofNat i))] h = some ((LV.v (AV.int IntKind.i64 (Int.ofNat i)), x4_5h)) :=
  blk_via (scr := ⟨fun x => match x with | 9 => some true | 16 => some true | _ => none, fun x y => match x, y with | 4, 3 => some (LV.v (AV.snap [(AV.int Go.IntKind.i64 x4_3_0), (AV.int Go.IntKind.i64 x4_3_1), (AV.int Go.IntKind.i64 x4_3_2), (AV.int Go.IntKind.u64 x4_3_3), (AV.int Go.IntKind.i64 x4_3_4), (AV.imm x4_3_5), (AV.imm x4_3_6), (AV.imm x4_3_7), (AV.bool x4_3_8), (AV.imm x4_3_9)])) | _, _ => none, fun x y => match x, y with | 4, 5 => some (LV.v (AV.bool x4_5), x4_5h) | _, _ => none, false⟩) (p := some (ltZ (Int.ofNat i) n) = some true ∧ (false = false ∧ (none : Option Nat) = none ∧ ixA (AV.imm xs) (Int.ofNat i) 10 = some [AV.int IntKind.i64 x4_3_0, AV.int IntKind.i64 x4_3_1, AV.int IntKind.i64 x4_3_2, AV.int IntKind.u64 x4_3_3, AV.int IntKind.i64 x4_3_4, AV.imm x4_3_5, AV.imm x4_3_6, AV.imm x4_3_7, AV.bool x4_3_8, AV.imm x4_3_9]) ∧ callV (cxZ m) (blk (cxZ m)) fv [LV.v (AV.agg [AV.int IntKind.i64 x4_3_0, AV.int IntKind.i64 x4_3_1, AV.int IntKind.i64 x4_3_2, AV.int IntKind.u64 x4_3_3, AV.int IntKind.i64 x4_3_4, AV.imm x4_3_5, AV.imm x4_3_6, AV.imm x4_3_7, AV.bool x4_3_8, AV.imm x4_3_9])] h = some (LV.v (AV.bool x4_5), x4_5h) ∧ some x4_5 = some true ∧ some (LV.v (AV.int IntKind.i64 (Int.ofNat i)), x4_5h) = some ((LV.v (AV.int IntKind.i64 (Int.ofNat i)), x4_5h))) (by kernel_rfl) ⟨congrArg some k0, ⟨⟨rfl, ⟨rfl, k1⟩⟩, ⟨k2, ⟨congrArg some k3, rfl⟩⟩⟩⟩

theorem s80_2_1 (m : Int) (xs : List (List AV)) (fv : AV) (n : Int) (i : Nat) (h : Heap) (x4_3_0 : Int) (x4_3_1 : Int) (x4_3_2 : Int) (x4_3_3 : Int) (x4_3_4 : Int) (x4_3_5 : List (List AV)) (x4_3_6 : List (List AV)) (x4_3_7 : List (List AV)) (x4_3_8 : Bool) (x4_3_9 : List (List AV)) (x4_5 : Bool) (x4_5h : Heap) (r : LV × Heap) (k0 : ltZ (Int.ofNat i) n = true) (k1 : ixA (AV.imm xs) (Int.ofNat i) 10 = some [AV.int IntKind.i64 x4_3_0, AV.int IntKind.i64 x4_3_1, AV.int IntKind.i64 x4_3_2, AV.int IntKind.u64 x4_3_3, AV.int IntKind.i64 x4_3_4, AV.imm x4_3_5, AV.imm x4_3_6, AV.imm x4_3_7, AV.bool x4_3_8, AV.imm x4_3_9]) (k2 : callV (cxZ m) (blk (cxZ m)) fv [LV.v (AV.agg [AV.int IntKind.i64 x4_3_0, AV.int IntKind.i64 x4_3_1, AV.int IntKind.i64 x4_3_2, AV.int IntKind.u64 x4_3_3, AV.int IntKind.i64 x4_3_4, AV.imm x4_3_5, AV.imm x4_3_6, AV.imm x4_3_7, AV.bool x4_3_8, AV.imm x4_3_9])] h = some (LV.v (AV.bool x4_5), x4_5h)) (k3 : x4_5 = false) (k4 : (blk (cxZ m)) 80 (at_ Tryd.prog 80 2) [LV.v (AV.imm xs), LV.v fv, LV.v (AV.int IntKind.i64 n), LV.v (AV.int IntKind.i64 (IntKind.wrap IntKind.i64 (Int.ofNat (Nat.succ i))))] x4_5h = some r) :
    blk (cxZ m) 80 (at_ Tryd.prog 80 2) [.v (.imm xs), .v fv, .v (.int .i64 n), .v (.int .i64 (Int.ofNat i))] h = some r :=
  blk_via (scr := ⟨fun x => match x with | 9 => some true | 16 => some false | _ => none, fun x y => match x, y with | 4, 3 => some (LV.v (AV.snap [(AV.int Go.IntKind.i64 x4_3_0), (AV.int Go.IntKind.i64 x4_3_1), (AV.int Go.IntKind.i64 x4_3_2), (AV.int Go.IntKind.u64 x4_3_3), (AV.int Go.IntKind.i64 x4_3_4), (AV.imm x4_3_5), (AV.imm x4_3_6), (AV.imm x4_3_7), (AV.bool x4_3_8), (AV.imm x4_3_9)])) | _, _ => none, fun x y => match x, y with | 4, 5 => some (LV.v (AV.bool x4_5), x4_5h) | _, _ => none, false⟩) (p := some (ltZ (Int.ofNat i) n) = some true ∧ (false = false ∧ (none : Option Nat) = none ∧ ixA (AV.imm xs) (Int.ofNat i) 10 = some [AV.int IntKind.i64 x4_3_0, AV.int IntKind.i64 x4_3_1, AV.int IntKind.i64 x4_3_2, AV.int IntKind.u64 x4_3_3, AV.int IntKind.i64 x4_3_4, AV.imm x4_3_5, AV.imm x4_3_6, AV.imm x4_3_7, AV.bool x4_3_8, AV.imm x4_3_9]) ∧ callV (cxZ m) (blk (cxZ m)) fv [LV.v (AV.agg [AV.int IntKind.i64 x4_3_0, AV.int IntKind.i64 x4_3_1, AV.int IntKind.i64 x4_3_2, AV.int IntKind.u64 x4_3_3, AV.int IntKind.i64 x4_3_4, AV.imm x4_3_5, AV.imm x4_3_6, AV.imm x4_3_7, AV.bool x4_3_8, AV.imm x4_3_9])] h = some (LV.v (AV.bool x4_5), x4_5h) ∧ some x4_5 = some false ∧ true = true ∧ (blk (cxZ m)) 80 (at_ Tryd.prog 80 2) [LV.v (AV.imm xs), LV.v fv, LV.v (AV.int IntKind.i64 n), LV.v (AV.int IntKind.i64 (IntKind.wrap IntKind.i64 (Int.ofNat (Nat.succ i))))] x4_5h = some r) (by kernel_rfl) ⟨congrArg some k0, ⟨⟨rfl, ⟨rfl, k1⟩⟩, ⟨k2, ⟨congrArg some k3, ⟨rfl, k4⟩⟩⟩⟩⟩

theorem s80_2_2 (m : Int) (xs : List (List AV)) (fv : AV) (n : Int) (i : Nat) (h : Heap) (k0 : ltZ (Int.ofNat i) n = false) :
    blk (cxZ m) 80 (at_ Tryd.prog 80 2) [.v (.imm xs), .v fv, .v (.int .i64 n), .v (.int .i64 (Int.ofNat i))] h = some ((LV.v (AV.int IntKind.i64 (Int.negSucc 0)), h)) :=
  blk_via (scr := ⟨fun x => match x with | 9 => some false | _ => none, fun _ _ => none, fun _ _ => none, false⟩) (p := some (ltZ (Int.ofNat i) n) = some false ∧ some (LV.v (AV.int IntKind.i64 (Int.negSucc 0)), h) = some ((LV.v (AV.int IntKind.i64 (Int.negSucc 0)), h))) (by kernel_rfl) ⟨congrArg some k0, rfl⟩

theorem s81_0 (m : Int) (xs : List (List AV)) (fv : AV) (h : Heap) (r : LV × Heap) (k0 : (blk (cxZ m)) 81 (at_ Tryd.prog 81 2) [LV.v (AV.imm xs), LV.v fv, LV.v (AV.int IntKind.i64 (Int.ofNat (List.length xs))), LV.v (AV.int IntKind.i64 (Int.ofNat 0))] h = some r) :
    blk (cxZ m) 81 (body_ Tryd.prog 81) [.v (.imm xs), .v fv] h = some r :=
  blk_via (scr := ⟨fun _ => none, fun _ _ => none, fun _ _ => none, false⟩) (p := true = true ∧ (blk (cxZ m)) 81 (at_ Tryd.prog 81 2) [LV.v (AV.imm xs), LV.v fv, LV.v (AV.int IntKind.i64 (Int.ofNat (List.length xs))), LV.v (AV.int IntKind.i64 (Int.ofNat 0))] h = some r) (by kernel_rfl) ⟨rfl, k0⟩

theorem s81_2_0 (m : Int) (xs : List (List AV)) (fv : AV) (n : Int) (i : Nat) (h : Heap) (x4_3_0 : Int) (x4_3_1 : Int) (x4_3_2 : Int) (x4_3_3 : Int) (x4_3_4 : Int) (x4_3_5 : List (List AV)) (x4_3_6 : List (List AV)) (x4_3_7 : List (List AV)) (x4_3_8 : Bool) (x4_3_9 : List (List AV)) (x4_5 : Bool) (x4_5h : Heap) (k0 : ltZ (Int.ofNat i) n = true) (k1 : ixA (AV.imm xs) (Int.ofNat i) 10 = some [AV.int IntKind.i64 x4_3_0, AV.int IntKind.i64 x4_3_1, AV.int IntKind.i64 x4_3_2, AV.int IntKind.u64 x4_3_3, AV.int IntKind.i64 x4_3_4, AV.imm x4_3_5, AV.imm x4_3_6, AV.imm x4_3_7, AV.bool x4_3_8, AV.imm x4_3_9]) (k2 : callV (cxZ m) (blk (cxZ m)) fv [LV.v (AV.agg [AV.int IntKind.i64 x4_3_0, AV.int IntKind.i64 x4_3_1, AV.int IntKind.i64 x4_3_2, AV.int IntKind.u64 x4_3_3, AV.int IntKind.i64 x4_3_4, AV.imm x4_3_5, AV.imm x4_3_6, AV.imm x4_3_7, AV.bool x4_3_8, AV.imm x4_3_9])] h = some (LV.v (AV.bool x4_5), x4_5h)) (k3 : x4_5 = true) :
    blk (cxZ m) 81 (at_ Tryd.prog 81 2) [.v (.imm xs), .v fv, .v (.int .i64 n), .v (.int .i64 (Int.ofNat i))] h = some ((LV.v (AV.int IntKind.i64 (Int.ofNat i)), x4_5h)) :=
  blk_via (scr := ⟨fun x => match x with | 9 => some true | 16 => some true | _ => none, fun x y => match x, y with | 4, 3 => some (LV.v (AV.snap [(AV.int Go.IntKind.i64 x4_3_0), (AV.int Go.IntKind.i64 x4_3_1), (AV.int Go.IntKind.i64 x4_3_2), (AV.int Go.IntKind.u64 x4_3_3), (AV.int Go.IntKind.i64 x4_3_4), (AV.imm x4_3_5), (AV.imm x4_3_6), (AV.imm x4_3_7), (AV.bool x4_3_8), (AV.imm x4_3_9)])) | _, _ => none, fun x y => match x, y with | 4, 5 => some (LV.v (AV.bool x4_5), x4_5h) | _, _ => none, false⟩) (p := some (ltZ (Int.ofNat i) n) = some true ∧ (false = false ∧ (none : Option Nat) = none ∧ ixA (AV.imm xs) (Int.ofNat i) 10 = some [AV.int IntKind.i64 x4_3_0, AV.int IntKind.i64 x4_3_1, AV.int IntKind.i64 x4_3_2, AV.int IntKind.u64 x4_3_3, AV.int IntKind.i64 x4_3_4, AV.imm x4_3_5, AV.imm x4_3_6, AV.imm x4_3_7, AV.bool x4_3_8, AV.imm x4_3_9]) ∧ callV (cxZ m) (blk (cxZ m)) fv [LV.v (AV.agg [AV.int IntKind.i64 x4_3_0, AV.int IntKind.i64 x4_3_1, AV.int IntKind.i64 x4_3_2, AV.int IntKind.u64 x4_3_3, AV.int IntKind.i64 x4_3_4, AV.imm x4_3_5, AV.imm x4_3_6, AV.imm x4_3_7, AV.bool x4_3_8, AV.imm x4_3_9])] h = some (LV.v (AV.bool x4_5), x4_5h) ∧ some x4_5 = some true ∧ some (LV.v (AV.int IntKind.i64 (Int.ofNat i)), x4_5h) = some ((LV.v (AV.int IntKind.i64 (Int.ofNat i)), x4_5h))) (by kernel_rfl) ⟨congrArg some k0, ⟨⟨rfl, ⟨rfl, k1⟩⟩, ⟨k2, ⟨congrArg some k3, rfl⟩⟩⟩⟩

theorem s81_2_1 (m : Int) (xs : List (List AV)) (fv : AV) (n : Int) (i : Nat) (h : Heap) (x4_3_0 : Int) (x4_3_1 : Int) (x4_3_2 : Int) (x4_3_3 : Int) (x4_3_4 : Int) (x4_3_5 : List (List AV)) (x4_3_6 : List (List AV)) (x4_3_7 : List (List AV)) (x4_3_8 : Bool) (x4_3_9 : List (List AV)) (x4_5 : Bool) (x4_5h : Heap) (r : LV × Heap) (k0 : ltZ (Int.ofNat i) n = true) (k1 : ixA (AV.imm xs) (Int.ofNat i) 10 = some [AV.int IntKind.i64 x4_3_0, AV.int IntKind.i64 x4_3_1, AV.int IntKind.i64 x4_3_2, AV.int IntKind.u64 x4_3_3, AV.int IntKind.i64 x4_3_4, AV.imm x4_3_5, AV.imm x4_3_6, AV.imm x4_3_7, AV.bool x4_3_8, AV.imm x4_3_9]) (k2 : callV (cxZ m) (blk (cxZ m)) fv [LV.v (AV.agg [AV.int IntKind.i64 x4_3_0, AV.int IntKind.i64 x4_3_1, AV.int IntKind.i64 x4_3_2, AV.int IntKind.u64 x4_3_3, AV.int IntKind.i64 x4_3_4, AV.imm x4_3_5, AV.imm x4_3_6, AV.imm x4_3_7, AV.bool x4_3_8, AV.imm x4_3_9])] h = some (LV.v (AV.bool x4_5), x4_5h)) (k3 : x4_5 = false) (k4 : (blk (cxZ m)) 81 (at_ Tryd.prog 81 2) [LV.v (AV.imm xs), LV.v fv, LV.v (AV.int IntKind.i64 n), LV.v (AV.int IntKind.i64 (IntKind.wrap IntKind.i64 (Int.ofNat (Nat.succ i))))] x4_5h = some r) :
    blk (cxZ m) 81 (at_ Tryd.prog 81 2) [.v (.imm xs), .v fv, .v (.int .i64 n), .v (.int .i64 (Int.ofNat i))] h = some r :=
  blk_via (scr := ⟨fun x => match x with | 9 => some true | 16 => some false | _ => none, fun x y => match x, y with | 4, 3 => some (LV.v (AV.snap [(AV.int Go.IntKind.i64 x4_3_0), (AV.int Go.IntKind.i64 x4_3_1), (AV.int Go.IntKind.i64 x4_3_2), (AV.int Go.IntKind.u64 x4_3_3), (AV.int Go.IntKind.i64 x4_3_4), (AV.imm x4_3_5), (AV.imm x4_3_6), (AV.imm x4_3_7), (AV.bool x4_3_8), (AV.imm x4_3_9)])) | _, _ => none, fun x y => match x, y with | 4, 5 => some (LV.v (AV.bool x4_5), x4_5h) | _, _ => none, false⟩) (p := some (ltZ (Int.ofNat i) n) = some true ∧ (false = false ∧ (none : Option Nat) = none ∧ ixA (AV.imm xs) (Int.ofNat i) 10 = some [AV.int IntKind.i64 x4_3_0, AV.int IntKind.i64 x4_3_1, AV.int IntKind.i64 x4_3_2, AV.int IntKind.u64 x4_3_3, AV.int IntKind.i64 x4_3_4, AV.imm x4_3_5, AV.imm x4_3_6, AV.imm x4_3_7, AV.bool x4_3_8, AV.imm x4_3_9]) ∧ callV (cxZ m) (blk (cxZ m)) fv [LV.v (AV.agg [AV.int IntKind.i64 x4_3_0, AV.int IntKind.i64 x4_3_1, AV.int IntKind.i64 x4_3_2, AV.int IntKind.u64 x4_3_3, AV.int IntKind.i64 x4_3_4, AV.imm x4_3_5, AV.imm x4_3_6, AV.imm x4_3_7, AV.bool x4_3_8, AV.imm x4_3_9])] h = some (LV.v (AV.bool x4_5), x4_5h) ∧ some x4_5 = some false ∧ true = true ∧ (blk (cxZ m)) 81 (at_ Tryd.prog 81 2) [LV.v (AV.imm xs), LV.v fv, LV.v (AV.int IntKind.i64 n), LV.v (AV.int IntKind.i64 (IntKind.wrap IntKind.i64 (Int.ofNat (Nat.succ i))))] x4_5h = some r) (by kernel_rfl) ⟨congrArg some k0, ⟨⟨rfl, ⟨rfl, k1⟩⟩, ⟨k2, ⟨congrArg some k3, ⟨rfl, k4⟩⟩⟩⟩⟩

theorem s81_2_2 (m : Int) (xs : List (List AV)) (fv : AV) (n : Int) (i : Nat) (h : Heap) (k0 : ltZ (Int.ofNat i) n = false) :
    blk (cxZ m) 81 (at_ Tryd.prog 81 2) [.v (.imm xs), .v fv, .v (.int .i64 n), .v (.int .i64 (Int.ofNat i))] h = some ((LV.v (AV.int IntKind.i64 (Int.negSucc 0)), h)) :=
  blk_via (scr := ⟨fun x => match x with | 9 => some false | _ => none, fun _ _ => none, fun _ _ => none, false⟩) (p := some (ltZ (Int.ofNat i) n) = some false ∧ some (LV.v (AV.int IntKind.i64 (Int.negSucc 0)), h) = some ((LV.v (AV.int IntKind.i64 (Int.negSucc 0)), h))) (by kernel_rfl) ⟨congrArg some k0, rfl⟩

theorem s62_0 (m : Int) (mo : ByteArray) (na : ByteArray) (k : Int) (t : Int) (mu : Bool) (lo : Int) (hi : Int) (has : Bool) (h : Heap) (k0 : ltZ (Int.ofNat 64) (Int.ofNat (ByteArray.size mo)) = true) :
    blk (cxZ m) 62 (body_ Tryd.prog 62) [.v (.agg [.str mo, .str na, .int .i64 k, .int .i64 t, .bool mu, .int .i64 lo, .int .i64 hi, .bool has])] h = some ((LV.v (AV.bool true), h)) :=
  blk_via (scr := ⟨fun x => match x with | 7 => some true | _ => none, fun _ _ => none, fun _ _ => none, false⟩) (p := some (ltZ (Int.ofNat 64) (Int.ofNat (ByteArray.size mo))) = some true ∧ some true = some true ∧ some true = some true ∧ some true = some true ∧ some true = some true ∧ some (LV.v (AV.bool true), h) = some ((LV.v (AV.bool true), h))) (by kernel_rfl) ⟨congrArg some k0, ⟨rfl, ⟨rfl, ⟨rfl, ⟨rfl, rfl⟩⟩⟩⟩⟩

theorem s62_1 (m : Int) (mo : ByteArray) (na : ByteArray) (k : Int) (t : Int) (mu : Bool) (lo : Int) (hi : Int) (has : Bool) (h : Heap) (k0 : ltZ (Int.ofNat 64) (Int.ofNat (ByteArray.size mo)) = false) :
    blk (cxZ m) 62 (body_ Tryd.prog 62) [.v (.agg [.str mo, .str na, .int .i64 k, .int .i64 t, .bool mu, .int .i64 lo, .int .i64 hi, .bool has])] h = some ((LV.v (AV.bool (ltZ (Int.ofNat 64) (Int.ofNat (ByteArray.size na)))), h)) :=
  blk_via (scr := ⟨fun x => match x with | 7 => some false | _ => none, fun _ _ => none, fun _ _ => none, false⟩) (p := some (ltZ (Int.ofNat 64) (Int.ofNat (ByteArray.size mo))) = some false ∧ some false = some false ∧ some false = some false ∧ some false = some false ∧ some false = some false ∧ some (LV.v (AV.bool (ltZ (Int.ofNat 64) (Int.ofNat (ByteArray.size na)))), h) = some ((LV.v (AV.bool (ltZ (Int.ofNat 64) (Int.ofNat (ByteArray.size na)))), h))) (by kernel_rfl) ⟨congrArg some k0, ⟨rfl, ⟨rfl, ⟨rfl, ⟨rfl, rfl⟩⟩⟩⟩⟩

theorem s64_0 (m : Int) (na : ByteArray) (k : Int) (x : Int) (h : Heap) :
    blk (cxZ m) 64 (body_ Tryd.prog 64) [.v (.agg [.str na, .int .i64 k, .int .i64 x])] h = some ((LV.v (AV.bool (ltZ (Int.ofNat 64) (Int.ofNat (ByteArray.size na)))), h)) :=
  blk_via (scr := ⟨fun _ => none, fun _ _ => none, fun _ _ => none, false⟩) (p := some (LV.v (AV.bool (ltZ (Int.ofNat 64) (Int.ofNat (ByteArray.size na)))), h) = some ((LV.v (AV.bool (ltZ (Int.ofNat 64) (Int.ofNat (ByteArray.size na)))), h))) (by kernel_rfl) rfl

theorem s66_0 (m : Int) (na : ByteArray) (y : List (List AV)) (h : Heap) (k0 : ltZ (Int.ofNat 64) (Int.ofNat (ByteArray.size na)) = true) :
    blk (cxZ m) 66 (body_ Tryd.prog 66) [.v (.agg [.str na, .imm y])] h = some ((LV.v (AV.bool true), h)) :=
  blk_via (scr := ⟨fun x => match x with | 7 => some true | _ => none, fun _ _ => none, fun _ _ => none, false⟩) (p := some (ltZ (Int.ofNat 64) (Int.ofNat (ByteArray.size na))) = some true ∧ some true = some true ∧ some true = some true ∧ some true = some true ∧ some true = some true ∧ some (LV.v (AV.bool true), h) = some ((LV.v (AV.bool true), h))) (by kernel_rfl) ⟨congrArg some k0, ⟨rfl, ⟨rfl, ⟨rfl, ⟨rfl, rfl⟩⟩⟩⟩⟩

theorem s66_1 (m : Int) (na : ByteArray) (y : List (List AV)) (h : Heap) (k0 : ltZ (Int.ofNat 64) (Int.ofNat (ByteArray.size na)) = false) :
    blk (cxZ m) 66 (body_ Tryd.prog 66) [.v (.agg [.str na, .imm y])] h = some ((LV.v (AV.bool (ltZ (Int.ofNat 4096) (Int.ofNat (List.length y)))), h)) :=
  blk_via (scr := ⟨fun x => match x with | 7 => some false | _ => none, fun _ _ => none, fun _ _ => none, false⟩) (p := some (ltZ (Int.ofNat 64) (Int.ofNat (ByteArray.size na))) = some false ∧ some false = some false ∧ some false = some false ∧ some false = some false ∧ some false = some false ∧ some (LV.v (AV.bool (ltZ (Int.ofNat 4096) (Int.ofNat (List.length y)))), h) = some ((LV.v (AV.bool (ltZ (Int.ofNat 4096) (Int.ofNat (List.length y)))), h))) (by kernel_rfl) ⟨congrArg some k0, ⟨rfl, ⟨rfl, ⟨rfl, ⟨rfl, rfl⟩⟩⟩⟩⟩

theorem s68_0 (m : Int) (o : Int) (a : Int) (b : Int) (v : Int) (t : Int) (l : List (List AV)) (bd : List (List AV)) (el : List (List AV)) (q : Bool) (f : List (List AV)) (h : Heap) (k0 : ltZ (Int.ofNat 64) (Int.ofNat (List.length f)) = true) :
    blk (cxZ m) 68 (body_ Tryd.prog 68) [.v (.agg [.int .i64 o, .int .i64 a, .int .i64 b, .int .u64 v, .int .i64 t, .imm l, .imm bd, .imm el, .bool q, .imm f])] h = some ((LV.v (AV.bool true), h)) :=
  blk_via (scr := ⟨fun x => match x with | 7 => some true | _ => none, fun _ _ => none, fun _ _ => none, false⟩) (p := some (ltZ (Int.ofNat 64) (Int.ofNat (List.length f))) = some true ∧ some true = some true ∧ some true = some true ∧ some true = some true ∧ some true = some true ∧ some true = some true ∧ some (LV.v (AV.bool true), h) = some ((LV.v (AV.bool true), h))) (by kernel_rfl) ⟨congrArg some k0, ⟨rfl, ⟨rfl, ⟨rfl, ⟨rfl, ⟨rfl, rfl⟩⟩⟩⟩⟩⟩

theorem s68_1 (m : Int) (o : Int) (a : Int) (b : Int) (v : Int) (t : Int) (l : List (List AV)) (bd : List (List AV)) (el : List (List AV)) (q : Bool) (f : List (List AV)) (h : Heap) (x1_8 : Bool) (x1_8h : Heap) (k0 : ltZ (Int.ofNat 64) (Int.ofNat (List.length f)) = false) (k1 : callF (cxZ m) (blk (cxZ m)) 50 [LV.v (AV.imm [[AV.int IntKind.i64 o, AV.int IntKind.i64 a, AV.int IntKind.i64 b, AV.int IntKind.u64 v, AV.int IntKind.i64 t, AV.imm l, AV.imm bd, AV.imm el, AV.bool q]])] h = some (LV.v (AV.bool x1_8), x1_8h)) :
    blk (cxZ m) 68 (body_ Tryd.prog 68) [.v (.agg [.int .i64 o, .int .i64 a, .int .i64 b, .int .u64 v, .int .i64 t, .imm l, .imm bd, .imm el, .bool q, .imm f])] h = some ((LV.v (AV.bool !x1_8), x1_8h)) :=
  blk_via (scr := ⟨fun x => match x with | 7 => some false | _ => none, fun _ _ => none, fun x y => match x, y with | 1, 8 => some (LV.v (AV.bool x1_8), x1_8h) | _, _ => none, false⟩) (p := some (ltZ (Int.ofNat 64) (Int.ofNat (List.length f))) = some false ∧ some false = some false ∧ some false = some false ∧ some false = some false ∧ callF (cxZ m) (blk (cxZ m)) 50 [LV.v (AV.imm [[AV.int IntKind.i64 o, AV.int IntKind.i64 a, AV.int IntKind.i64 b, AV.int IntKind.u64 v, AV.int IntKind.i64 t, AV.imm l, AV.imm bd, AV.imm el, AV.bool q]])] h = some (LV.v (AV.bool x1_8), x1_8h) ∧ some false = some false ∧ some false = some false ∧ some (LV.v (AV.bool !x1_8), x1_8h) = some ((LV.v (AV.bool !x1_8), x1_8h))) (by kernel_rfl) ⟨congrArg some k0, ⟨rfl, ⟨rfl, ⟨rfl, ⟨k1, ⟨rfl, ⟨rfl, rfl⟩⟩⟩⟩⟩⟩⟩

theorem s70_0 (m : Int) (o : Int) (a : Int) (b : Int) (v : Int) (t : Int) (l : List (List AV)) (bd : List (List AV)) (el : List (List AV)) (q : Bool) (y : List (List AV)) (h : Heap) (k0 : ltZ (Int.ofNat 4096) (Int.ofNat (List.length y)) = true) :
    blk (cxZ m) 70 (body_ Tryd.prog 70) [.v (.agg [.int .i64 o, .int .i64 a, .int .i64 b, .int .u64 v, .int .i64 t, .imm l, .imm bd, .imm el, .bool q, .imm y])] h = some ((LV.v (AV.bool true), h)) :=
  blk_via (scr := ⟨fun x => match x with | 7 => some true | _ => none, fun _ _ => none, fun _ _ => none, false⟩) (p := some (ltZ (Int.ofNat 4096) (Int.ofNat (List.length y))) = some true ∧ some true = some true ∧ some true = some true ∧ some true = some true ∧ some true = some true ∧ some true = some true ∧ some (LV.v (AV.bool true), h) = some ((LV.v (AV.bool true), h))) (by kernel_rfl) ⟨congrArg some k0, ⟨rfl, ⟨rfl, ⟨rfl, ⟨rfl, ⟨rfl, rfl⟩⟩⟩⟩⟩⟩

theorem s70_1 (m : Int) (o : Int) (a : Int) (b : Int) (v : Int) (t : Int) (l : List (List AV)) (bd : List (List AV)) (el : List (List AV)) (q : Bool) (y : List (List AV)) (h : Heap) (x1_8 : Bool) (x1_8h : Heap) (k0 : ltZ (Int.ofNat 4096) (Int.ofNat (List.length y)) = false) (k1 : callF (cxZ m) (blk (cxZ m)) 50 [LV.v (AV.imm [[AV.int IntKind.i64 o, AV.int IntKind.i64 a, AV.int IntKind.i64 b, AV.int IntKind.u64 v, AV.int IntKind.i64 t, AV.imm l, AV.imm bd, AV.imm el, AV.bool q]])] h = some (LV.v (AV.bool x1_8), x1_8h)) :
    blk (cxZ m) 70 (body_ Tryd.prog 70) [.v (.agg [.int .i64 o, .int .i64 a, .int .i64 b, .int .u64 v, .int .i64 t, .imm l, .imm bd, .imm el, .bool q, .imm y])] h = some ((LV.v (AV.bool !x1_8), x1_8h)) :=
  blk_via (scr := ⟨fun x => match x with | 7 => some false | _ => none, fun _ _ => none, fun x y => match x, y with | 1, 8 => some (LV.v (AV.bool x1_8), x1_8h) | _, _ => none, false⟩) (p := some (ltZ (Int.ofNat 4096) (Int.ofNat (List.length y))) = some false ∧ some false = some false ∧ some false = some false ∧ some false = some false ∧ callF (cxZ m) (blk (cxZ m)) 50 [LV.v (AV.imm [[AV.int IntKind.i64 o, AV.int IntKind.i64 a, AV.int IntKind.i64 b, AV.int IntKind.u64 v, AV.int IntKind.i64 t, AV.imm l, AV.imm bd, AV.imm el, AV.bool q]])] h = some (LV.v (AV.bool x1_8), x1_8h) ∧ some false = some false ∧ some false = some false ∧ some (LV.v (AV.bool !x1_8), x1_8h) = some ((LV.v (AV.bool !x1_8), x1_8h))) (by kernel_rfl) ⟨congrArg some k0, ⟨rfl, ⟨rfl, ⟨rfl, ⟨k1, ⟨rfl, ⟨rfl, rfl⟩⟩⟩⟩⟩⟩⟩

theorem s60_0 (m : Int) (xs : List (List AV)) (h : Heap) (x1_1 : Bool) (x1_1h : Heap) (k0 : callF (cxZ m) (blk (cxZ m)) 21 [LV.v (AV.imm xs), LV.v (AV.fn 76 [] [])] h = some (LV.v (AV.bool x1_1), x1_1h)) :
    blk (cxZ m) 60 (body_ Tryd.prog 60) [.v (.imm xs)] h = some ((LV.v (AV.bool !x1_1), x1_1h)) :=
  blk_via (scr := ⟨fun _ => none, fun _ _ => none, fun x y => match x, y with | 1, 1 => some (LV.v (AV.bool x1_1), x1_1h) | _, _ => none, false⟩) (p := callF (cxZ m) (blk (cxZ m)) 21 [LV.v (AV.imm xs), LV.v (AV.fn 76 [] [])] h = some (LV.v (AV.bool x1_1), x1_1h) ∧ some (LV.v (AV.bool !x1_1), x1_1h) = some ((LV.v (AV.bool !x1_1), x1_1h))) (by kernel_rfl) ⟨k0, rfl⟩

theorem s76_0 (m : Int) (o : Int) (a : Int) (b : Int) (v : Int) (t : Int) (l : List (List AV)) (bd : List (List AV)) (el : List (List AV)) (q : Bool) (h : Heap) (k0 : ltZ (Int.ofNat 64) (Int.ofNat (List.length l)) = true) :
    blk (cxZ m) 76 (body_ Tryd.prog 76) [.v (.agg [.int .i64 o, .int .i64 a, .int .i64 b, .int .u64 v, .int .i64 t, .imm l, .imm bd, .imm el, .bool q])] h = some ((LV.v (AV.bool true), h)) :=
  blk_via (scr := ⟨fun x => match x with | 7 => some true | _ => none, fun _ _ => none, fun _ _ => none, false⟩) (p := some (ltZ (Int.ofNat 64) (Int.ofNat (List.length l))) = some true ∧ some true = some true ∧ some true = some true ∧ some true = some true ∧ some true = some true ∧ some (LV.v (AV.bool true), h) = some ((LV.v (AV.bool true), h))) (by kernel_rfl) ⟨congrArg some k0, ⟨rfl, ⟨rfl, ⟨rfl, ⟨rfl, rfl⟩⟩⟩⟩⟩

theorem s76_1 (m : Int) (o : Int) (a : Int) (b : Int) (v : Int) (t : Int) (l : List (List AV)) (bd : List (List AV)) (el : List (List AV)) (q : Bool) (h : Heap) (x1_7 : Bool) (x1_7h : Heap) (k0 : ltZ (Int.ofNat 64) (Int.ofNat (List.length l)) = false) (k1 : callF (cxZ m) (blk (cxZ m)) 60 [LV.v (AV.imm bd)] h = some (LV.v (AV.bool x1_7), x1_7h)) (k2 : (!x1_7) = true) :
    blk (cxZ m) 76 (body_ Tryd.prog 76) [.v (.agg [.int .i64 o, .int .i64 a, .int .i64 b, .int .u64 v, .int .i64 t, .imm l, .imm bd, .imm el, .bool q])] h = some ((LV.v (AV.bool true), x1_7h)) :=
  blk_via (scr := ⟨fun x => match x with | 7 => some false | 13 => some true | _ => none, fun _ _ => none, fun x y => match x, y with | 1, 7 => some (LV.v (AV.bool x1_7), x1_7h) | _, _ => none, false⟩) (p := some (ltZ (Int.ofNat 64) (Int.ofNat (List.length l))) = some false ∧ some false = some false ∧ some false = some false ∧ callF (cxZ m) (blk (cxZ m)) 60 [LV.v (AV.imm bd)] h = some (LV.v (AV.bool x1_7), x1_7h) ∧ some false = some false ∧ some false = some false ∧ (some !x1_7) = some true ∧ some true = some true ∧ some true = some true ∧ some true = some true ∧ some true = some true ∧ some (LV.v (AV.bool true), x1_7h) = some ((LV.v (AV.bool true), x1_7h))) (by kernel_rfl) ⟨congrArg some k0, ⟨rfl, ⟨rfl, ⟨k1, ⟨rfl, ⟨rfl, ⟨congrArg some k2, ⟨rfl, ⟨rfl, ⟨rfl, ⟨rfl, rfl⟩⟩⟩⟩⟩⟩⟩⟩⟩⟩⟩

theorem s76_2 (m : Int) (o : Int) (a : Int) (b : Int) (v : Int) (t : Int) (l : List (List AV)) (bd : List (List AV)) (el : List (List AV)) (q : Bool) (h : Heap) (x1_7 : Bool) (x1_7h : Heap) (x1_13 : Bool) (x1_13h : Heap) (k0 : ltZ (Int.ofNat 64) (Int.ofNat (List.length l)) = false) (k1 : callF (cxZ m) (blk (cxZ m)) 60 [LV.v (AV.imm bd)] h = some (LV.v (AV.bool x1_7), x1_7h)) (k2 : (!x1_7) = false) (k3 : callF (cxZ m) (blk (cxZ m)) 60 [LV.v (AV.imm el)] x1_7h = some (LV.v (AV.bool x1_13), x1_13h)) :
    blk (cxZ m) 76 (body_ Tryd.prog 76) [.v (.agg [.int .i64 o, .int .i64 a, .int .i64 b, .int .u64 v, .int .i64 t, .imm l, .imm bd, .imm el, .bool q])] h = some ((LV.v (AV.bool !x1_13), x1_13h)) :=
  blk_via (scr := ⟨fun x => match x with | 7 => some false | 13 => some false | _ => none, fun _ _ => none, fun x y => match x, y with | 1, 7 => some (LV.v (AV.bool x1_7), x1_7h) | 1, 13 => some (LV.v (AV.bool x1_13), x1_13h) | _, _ => none, false⟩) (p := some (ltZ (Int.ofNat 64) (Int.ofNat (List.length l))) = some false ∧ some false = some false ∧ some false = some false ∧ callF (cxZ m) (blk (cxZ m)) 60 [LV.v (AV.imm bd)] h = some (LV.v (AV.bool x1_7), x1_7h) ∧ some false = some false ∧ some false = some false ∧ (some !x1_7) = some false ∧ some false = some false ∧ some false = some false ∧ callF (cxZ m) (blk (cxZ m)) 60 [LV.v (AV.imm el)] x1_7h = some (LV.v (AV.bool x1_13), x1_13h) ∧ some false = some false ∧ some false = some false ∧ some (LV.v (AV.bool !x1_13), x1_13h) = some ((LV.v (AV.bool !x1_13), x1_13h))) (by kernel_rfl) ⟨congrArg some k0, ⟨rfl, ⟨rfl, ⟨k1, ⟨rfl, ⟨rfl, ⟨congrArg some k2, ⟨rfl, ⟨rfl, ⟨k3, ⟨rfl, ⟨rfl, rfl⟩⟩⟩⟩⟩⟩⟩⟩⟩⟩⟩⟩

theorem s50_0 (m : Int) (xs : List (List AV)) (h : Heap) (x1_1_r0 : Int) (x1_1_r1 : Int) (x1_1h : Heap) (x2_8 : Bool) (x2_8h : Heap) (k0 : callF (cxZ m) (blk (cxZ m)) 8 [LV.v (AV.imm xs)] h = some (LV.tup [AV.int IntKind.i64 x1_1_r0, AV.int IntKind.i64 x1_1_r1], x1_1h)) (k1 : leZ x1_1_r0 (Int.ofNat 512) = true) (k2 : leZ x1_1_r1 (Int.ofNat 32) = true) (k3 : callF (cxZ m) (blk (cxZ m)) 60 [LV.v (AV.imm xs)] x1_1h = some (LV.v (AV.bool x2_8), x2_8h)) :
    blk (cxZ m) 50 (body_ Tryd.prog 50) [.v (.imm xs)] h = some ((LV.v (AV.bool x2_8), x2_8h)) :=
  blk_via (scr := ⟨fun x => match x with | 12 => some true | 16 => some true | _ => none, fun _ _ => none, fun x y => match x, y with | 1, 1 => some (LV.tup [(AV.int Go.IntKind.i64 x1_1_r0), (AV.int Go.IntKind.i64 x1_1_r1)], x1_1h) | 2, 8 => some (LV.v (AV.bool x2_8), x2_8h) | _, _ => none, false⟩) (p := callF (cxZ m) (blk (cxZ m)) 8 [LV.v (AV.imm xs)] h = some (LV.tup [AV.int IntKind.i64 x1_1_r0, AV.int IntKind.i64 x1_1_r1], x1_1h) ∧ some (leZ x1_1_r0 (Int.ofNat 512)) = some true ∧ some true = some true ∧ some true = some true ∧ some (leZ x1_1_r1 (Int.ofNat 32)) = some true ∧ some true = some true ∧ callF (cxZ m) (blk (cxZ m)) 60 [LV.v (AV.imm xs)] x1_1h = some (LV.v (AV.bool x2_8), x2_8h) ∧ some true = some true ∧ some (LV.v (AV.bool x2_8), x2_8h) = some ((LV.v (AV.bool x2_8), x2_8h))) (by kernel_rfl) ⟨k0, ⟨congrArg some k1, ⟨rfl, ⟨rfl, ⟨congrArg some k2, ⟨rfl, ⟨k3, ⟨rfl, rfl⟩⟩⟩⟩⟩⟩⟩⟩

theorem s50_1 (m : Int) (xs : List (List AV)) (h : Heap) (x1_1_r0 : Int) (x1_1_r1 : Int) (x1_1h : Heap) (k0 : callF (cxZ m) (blk (cxZ m)) 8 [LV.v (AV.imm xs)] h = some (LV.tup [AV.int IntKind.i64 x1_1_r0, AV.int IntKind.i64 x1_1_r1], x1_1h)) (k1 : leZ x1_1_r0 (Int.ofNat 512) = true) (k2 : leZ x1_1_r1 (Int.ofNat 32) = false) :
    blk (cxZ m) 50 (body_ Tryd.prog 50) [.v (.imm xs)] h = some ((LV.v (AV.bool false), x1_1h)) :=
  blk_via (scr := ⟨fun x => match x with | 12 => some true | 16 => some false | _ => none, fun _ _ => none, fun x y => match x, y with | 1, 1 => some (LV.tup [(AV.int Go.IntKind.i64 x1_1_r0), (AV.int Go.IntKind.i64 x1_1_r1)], x1_1h) | _, _ => none, false⟩) (p := callF (cxZ m) (blk (cxZ m)) 8 [LV.v (AV.imm xs)] h = some (LV.tup [AV.int IntKind.i64 x1_1_r0, AV.int IntKind.i64 x1_1_r1], x1_1h) ∧ some (leZ x1_1_r0 (Int.ofNat 512)) = some true ∧ some true = some true ∧ some true = some true ∧ some (leZ x1_1_r1 (Int.ofNat 32)) = some false ∧ some false = some false ∧ some false = some false ∧ some (LV.v (AV.bool false), x1_1h) = some ((LV.v (AV.bool false), x1_1h))) (by kernel_rfl) ⟨k0, ⟨congrArg some k1, ⟨rfl, ⟨rfl, ⟨congrArg some k2, ⟨rfl, ⟨rfl, rfl⟩⟩⟩⟩⟩⟩⟩

theorem s50_2 (m : Int) (xs : List (List AV)) (h : Heap) (x1_1_r0 : Int) (x1_1_r1 : Int) (x1_1h : Heap) (k0 : callF (cxZ m) (blk (cxZ m)) 8 [LV.v (AV.imm xs)] h = some (LV.tup [AV.int IntKind.i64 x1_1_r0, AV.int IntKind.i64 x1_1_r1], x1_1h)) (k1 : leZ x1_1_r0 (Int.ofNat 512) = false) :
    blk (cxZ m) 50 (body_ Tryd.prog 50) [.v (.imm xs)] h = some ((LV.v (AV.bool false), x1_1h)) :=
  blk_via (scr := ⟨fun x => match x with | 12 => some false | _ => none, fun _ _ => none, fun x y => match x, y with | 1, 1 => some (LV.tup [(AV.int Go.IntKind.i64 x1_1_r0), (AV.int Go.IntKind.i64 x1_1_r1)], x1_1h) | _, _ => none, false⟩) (p := callF (cxZ m) (blk (cxZ m)) 8 [LV.v (AV.imm xs)] h = some (LV.tup [AV.int IntKind.i64 x1_1_r0, AV.int IntKind.i64 x1_1_r1], x1_1h) ∧ some (leZ x1_1_r0 (Int.ofNat 512)) = some false ∧ some false = some false ∧ some false = some false ∧ some (LV.v (AV.bool false), x1_1h) = some ((LV.v (AV.bool false), x1_1h))) (by kernel_rfl) ⟨k0, ⟨congrArg some k1, ⟨rfl, ⟨rfl, rfl⟩⟩⟩⟩

end Go.Proofs.YtmgjnbhofkchmaaDoor

/-
  Ways through texts, one by one (printed by a program of this repo).
-/
namespace Go.Proofs.YtmgjnbhofkchmaaDoor
open Go Go.Proofs.Am

theorem s19_0 (m : Int) (ty im fu ta me gl ex el da cu : List (List AV)) (st : Int) (h : Heap) (x1_1 : Bool) (x1_1h : Heap) (k0 : callF (cxZ m) (blk (cxZ m)) 49 [LV.v (AV.agg [AV.imm ty, AV.imm im, AV.imm fu, AV.imm ta, AV.imm me, AV.imm gl, AV.imm ex, AV.int IntKind.i64 st, AV.imm el, AV.imm da, AV.imm cu])] h = some (LV.v (AV.bool x1_1), x1_1h)) (k1 : (!x1_1) = true) :
    blk (cxZ m) 19 (body_ Tryd.prog 19) [.v (.agg [.imm ty, .imm im, .imm fu, .imm ta, .imm me, .imm gl, .imm ex, .int .i64 st, .imm el, .imm da, .imm cu])] h = some ((LV.v (AV.bool false), x1_1h)) :=
  blk_via (scr := ⟨fun x => match x with | 11 => some true | _ => none, fun _ _ => none, fun x y => match x, y with | 1, 1 => some (LV.v (AV.bool x1_1), x1_1h) | _, _ => none, false⟩) (p := callF (cxZ m) (blk (cxZ m)) 49 [LV.v (AV.agg [AV.imm ty, AV.imm im, AV.imm fu, AV.imm ta, AV.imm me, AV.imm gl, AV.imm ex, AV.int IntKind.i64 st, AV.imm el, AV.imm da, AV.imm cu])] h = some (LV.v (AV.bool x1_1), x1_1h) ∧ (some !x1_1) = some true ∧ some (LV.v (AV.bool false), x1_1h) = some ((LV.v (AV.bool false), x1_1h))) (by kernel_rfl) ⟨k0, ⟨congrArg some k1, rfl⟩⟩

theorem s19_1 (m : Int) (ty im fu ta me gl ex el da cu : List (List AV)) (st : Int) (h : Heap) (x1_1 : Bool) (x1_1h : Heap) (r : LV × Heap) (k0 : callF (cxZ m) (blk (cxZ m)) 49 [LV.v (AV.agg [AV.imm ty, AV.imm im, AV.imm fu, AV.imm ta, AV.imm me, AV.imm gl, AV.imm ex, AV.int IntKind.i64 st, AV.imm el, AV.imm da, AV.imm cu])] h = some (LV.v (AV.bool x1_1), x1_1h)) (k1 : (!x1_1) = false) (k2 : (blk (cxZ m)) 19 (at_ Tryd.prog 19 4) [LV.lp 0 0, LV.v (AV.imm ty), LV.v (AV.int IntKind.i64 (Int.ofNat (List.length ty))), LV.v (AV.int IntKind.i64 (Int.ofNat 0)), LV.v (AV.imm ty), LV.v (AV.imm im), LV.v (AV.imm fu), LV.v (AV.imm ta), LV.v (AV.imm me), LV.v (AV.imm gl), LV.v (AV.imm ex), LV.v (AV.int IntKind.i64 st), LV.v (AV.imm el), LV.v (AV.imm da), LV.v (AV.imm cu)] x1_1h = some r) :
    blk (cxZ m) 19 (body_ Tryd.prog 19) [.v (.agg [.imm ty, .imm im, .imm fu, .imm ta, .imm me, .imm gl, .imm ex, .int .i64 st, .imm el, .imm da, .imm cu])] h = some r :=
  blk_via (scr := ⟨fun x => match x with | 11 => some false | _ => none, fun _ _ => none, fun x y => match x, y with | 1, 1 => some (LV.v (AV.bool x1_1), x1_1h) | _, _ => none, false⟩) (p := callF (cxZ m) (blk (cxZ m)) 49 [LV.v (AV.agg [AV.imm ty, AV.imm im, AV.imm fu, AV.imm ta, AV.imm me, AV.imm gl, AV.imm ex, AV.int IntKind.i64 st, AV.imm el, AV.imm da, AV.imm cu])] h = some (LV.v (AV.bool x1_1), x1_1h) ∧ (some !x1_1) = some false ∧ true = true ∧ (blk (cxZ m)) 19 (at_ Tryd.prog 19 4) [LV.lp 0 0, LV.v (AV.imm ty), LV.v (AV.int IntKind.i64 (Int.ofNat (List.length ty))), LV.v (AV.int IntKind.i64 (Int.ofNat 0)), LV.v (AV.imm ty), LV.v (AV.imm im), LV.v (AV.imm fu), LV.v (AV.imm ta), LV.v (AV.imm me), LV.v (AV.imm gl), LV.v (AV.imm ex), LV.v (AV.int IntKind.i64 st), LV.v (AV.imm el), LV.v (AV.imm da), LV.v (AV.imm cu)] x1_1h = some r) (by kernel_rfl) ⟨k0, ⟨congrArg some k1, ⟨rfl, k2⟩⟩⟩

theorem s19_4_0 (m : Int) (xs : List (List AV)) (n : Int) (i : Nat) (ty im fu ta me gl ex el da cu : List (List AV)) (st : Int) (h : Heap) (x5_0_0 : List (List AV)) (x5_0_1 : List (List AV)) (k0 : ltZ (Int.ofNat i) n = true) (k1 : ixA (AV.imm xs) (Int.ofNat i) 2 = some [AV.imm x5_0_0, AV.imm x5_0_1]) (k2 : ltZ (Int.ofNat 64) (Int.ofNat (List.length x5_0_0)) = true) :
    blk (cxZ m) 19 (at_ Tryd.prog 19 4) [.lp 0 0, .v (.imm xs), .v (.int .i64 n), .v (.int .i64 (Int.ofNat i)), .v (.imm ty), .v (.imm im), .v (.imm fu), .v (.imm ta), .v (.imm me), .v (.imm gl), .v (.imm ex), .v (.int .i64 st), .v (.imm el), .v (.imm da), .v (.imm cu)] h = some ((LV.v (AV.bool false), h)) :=
  blk_via (scr := ⟨fun x => match x with | 16 => some true | 23 => some true | _ => none, fun x y => match x, y with | 5, 0 => some (LV.v (AV.snap [(AV.imm x5_0_0), (AV.imm x5_0_1)])) | _, _ => none, fun _ _ => none, false⟩) (p := some (ltZ (Int.ofNat i) n) = some true ∧ (false = false ∧ (none : Option Nat) = none ∧ ixA (AV.imm xs) (Int.ofNat i) 2 = some [AV.imm x5_0_0, AV.imm x5_0_1]) ∧ some (ltZ (Int.ofNat 64) (Int.ofNat (List.length x5_0_0))) = some true ∧ some true = some true ∧ some true = some true ∧ some true = some true ∧ some true = some true ∧ some (LV.v (AV.bool false), h) = some ((LV.v (AV.bool false), h))) (by kernel_rfl) ⟨congrArg some k0, ⟨⟨rfl, ⟨rfl, k1⟩⟩, ⟨congrArg some k2, ⟨rfl, ⟨rfl, ⟨rfl, ⟨rfl, rfl⟩⟩⟩⟩⟩⟩⟩

theorem s19_4_1 (m : Int) (xs : List (List AV)) (n : Int) (i : Nat) (ty im fu ta me gl ex el da cu : List (List AV)) (st : Int) (h : Heap) (x5_0_0 : List (List AV)) (x5_0_1 : List (List AV)) (k0 : ltZ (Int.ofNat i) n = true) (k1 : ixA (AV.imm xs) (Int.ofNat i) 2 = some [AV.imm x5_0_0, AV.imm x5_0_1]) (k2 : ltZ (Int.ofNat 64) (Int.ofNat (List.length x5_0_0)) = false) (k3 : ltZ (Int.ofNat 64) (Int.ofNat (List.length x5_0_1)) = true) :
    blk (cxZ m) 19 (at_ Tryd.prog 19 4) [.lp 0 0, .v (.imm xs), .v (.int .i64 n), .v (.int .i64 (Int.ofNat i)), .v (.imm ty), .v (.imm im), .v (.imm fu), .v (.imm ta), .v (.imm me), .v (.imm gl), .v (.imm ex), .v (.int .i64 st), .v (.imm el), .v (.imm da), .v (.imm cu)] h = some ((LV.v (AV.bool false), h)) :=
  blk_via (scr := ⟨fun x => match x with | 16 => some true | 23 => some false | 28 => some true | _ => none, fun x y => match x, y with | 5, 0 => some (LV.v (AV.snap [(AV.imm x5_0_0), (AV.imm x5_0_1)])) | _, _ => none, fun _ _ => none, false⟩) (p := some (ltZ (Int.ofNat i) n) = some true ∧ (false = false ∧ (none : Option Nat) = none ∧ ixA (AV.imm xs) (Int.ofNat i) 2 = some [AV.imm x5_0_0, AV.imm x5_0_1]) ∧ some (ltZ (Int.ofNat 64) (Int.ofNat (List.length x5_0_0))) = some false ∧ some false = some false ∧ some false = some false ∧ some false = some false ∧ some false = some false ∧ some (ltZ (Int.ofNat 64) (Int.ofNat (List.length x5_0_1))) = some true ∧ some (LV.v (AV.bool false), h) = some ((LV.v (AV.bool false), h))) (by kernel_rfl) ⟨congrArg some k0, ⟨⟨rfl, ⟨rfl, k1⟩⟩, ⟨congrArg some k2, ⟨rfl, ⟨rfl, ⟨rfl, ⟨rfl, ⟨congrArg some k3, rfl⟩⟩⟩⟩⟩⟩⟩⟩

theorem s19_4_2 (m : Int) (xs : List (List AV)) (n : Int) (i : Nat) (ty im fu ta me gl ex el da cu : List (List AV)) (st : Int) (h : Heap) (x5_0_0 : List (List AV)) (x5_0_1 : List (List AV)) (r : LV × Heap) (k0 : ltZ (Int.ofNat i) n = true) (k1 : ixA (AV.imm xs) (Int.ofNat i) 2 = some [AV.imm x5_0_0, AV.imm x5_0_1]) (k2 : ltZ (Int.ofNat 64) (Int.ofNat (List.length x5_0_0)) = false) (k3 : ltZ (Int.ofNat 64) (Int.ofNat (List.length x5_0_1)) = false) (k4 : (blk (cxZ m)) 19 (at_ Tryd.prog 19 4) [LV.lp 0 0, LV.v (AV.imm xs), LV.v (AV.int IntKind.i64 n), LV.v (AV.int IntKind.i64 (IntKind.wrap IntKind.i64 (Int.ofNat (Nat.succ i)))), LV.v (AV.imm ty), LV.v (AV.imm im), LV.v (AV.imm fu), LV.v (AV.imm ta), LV.v (AV.imm me), LV.v (AV.imm gl), LV.v (AV.imm ex), LV.v (AV.int IntKind.i64 st), LV.v (AV.imm el), LV.v (AV.imm da), LV.v (AV.imm cu)] h = some r) :
    blk (cxZ m) 19 (at_ Tryd.prog 19 4) [.lp 0 0, .v (.imm xs), .v (.int .i64 n), .v (.int .i64 (Int.ofNat i)), .v (.imm ty), .v (.imm im), .v (.imm fu), .v (.imm ta), .v (.imm me), .v (.imm gl), .v (.imm ex), .v (.int .i64 st), .v (.imm el), .v (.imm da), .v (.imm cu)] h = some r :=
  blk_via (scr := ⟨fun x => match x with | 16 => some true | 23 => some false | 28 => some false | _ => none, fun x y => match x, y with | 5, 0 => some (LV.v (AV.snap [(AV.imm x5_0_0), (AV.imm x5_0_1)])) | _, _ => none, fun _ _ => none, false⟩) (p := some (ltZ (Int.ofNat i) n) = some true ∧ (false = false ∧ (none : Option Nat) = none ∧ ixA (AV.imm xs) (Int.ofNat i) 2 = some [AV.imm x5_0_0, AV.imm x5_0_1]) ∧ some (ltZ (Int.ofNat 64) (Int.ofNat (List.length x5_0_0))) = some false ∧ some false = some false ∧ some false = some false ∧ some false = some false ∧ some false = some false ∧ some (ltZ (Int.ofNat 64) (Int.ofNat (List.length x5_0_1))) = some false ∧ true = true ∧ (blk (cxZ m)) 19 (at_ Tryd.prog 19 4) [LV.lp 0 0, LV.v (AV.imm xs), LV.v (AV.int IntKind.i64 n), LV.v (AV.int IntKind.i64 (IntKind.wrap IntKind.i64 (Int.ofNat (Nat.succ i)))), LV.v (AV.imm ty), LV.v (AV.imm im), LV.v (AV.imm fu), LV.v (AV.imm ta), LV.v (AV.imm me), LV.v (AV.imm gl), LV.v (AV.imm ex), LV.v (AV.int IntKind.i64 st), LV.v (AV.imm el), LV.v (AV.imm da), LV.v (AV.imm cu)] h = some r) (by kernel_rfl) ⟨congrArg some k0, ⟨⟨rfl, ⟨rfl, k1⟩⟩, ⟨congrArg some k2, ⟨rfl, ⟨rfl, ⟨rfl, ⟨rfl, ⟨congrArg some k3, ⟨rfl, k4⟩⟩⟩⟩⟩⟩⟩⟩⟩

theorem s19_4_3 (m : Int) (xs : List (List AV)) (n : Int) (i : Nat) (ty im fu ta me gl ex el da cu : List (List AV)) (st : Int) (h : Heap) (r : LV × Heap) (k0 : ltZ (Int.ofNat i) n = false) (k1 : (blk (cxZ m)) 19 (at_ Tryd.prog 19 10) [LV.lp 0 0, LV.v (AV.imm fu), LV.v (AV.int IntKind.i64 (Int.ofNat (List.length fu))), LV.v (AV.int IntKind.i64 (Int.ofNat 0)), LV.v (AV.imm ty), LV.v (AV.imm im), LV.v (AV.imm fu), LV.v (AV.imm ta), LV.v (AV.imm me), LV.v (AV.imm gl), LV.v (AV.imm ex), LV.v (AV.int IntKind.i64 st), LV.v (AV.imm el), LV.v (AV.imm da), LV.v (AV.imm cu)] h = some r) :
    blk (cxZ m) 19 (at_ Tryd.prog 19 4) [.lp 0 0, .v (.imm xs), .v (.int .i64 n), .v (.int .i64 (Int.ofNat i)), .v (.imm ty), .v (.imm im), .v (.imm fu), .v (.imm ta), .v (.imm me), .v (.imm gl), .v (.imm ex), .v (.int .i64 st), .v (.imm el), .v (.imm da), .v (.imm cu)] h = some r :=
  blk_via (scr := ⟨fun x => match x with | 16 => some false | _ => none, fun _ _ => none, fun _ _ => none, false⟩) (p := some (ltZ (Int.ofNat i) n) = some false ∧ true = true ∧ (blk (cxZ m)) 19 (at_ Tryd.prog 19 10) [LV.lp 0 0, LV.v (AV.imm fu), LV.v (AV.int IntKind.i64 (Int.ofNat (List.length fu))), LV.v (AV.int IntKind.i64 (Int.ofNat 0)), LV.v (AV.imm ty), LV.v (AV.imm im), LV.v (AV.imm fu), LV.v (AV.imm ta), LV.v (AV.imm me), LV.v (AV.imm gl), LV.v (AV.imm ex), LV.v (AV.int IntKind.i64 st), LV.v (AV.imm el), LV.v (AV.imm da), LV.v (AV.imm cu)] h = some r) (by kernel_rfl) ⟨congrArg some k0, ⟨rfl, k1⟩⟩

theorem s19_10_0 (m : Int) (xs : List (List AV)) (n : Int) (i : Nat) (ty im fu ta me gl ex el da cu : List (List AV)) (st : Int) (h : Heap) (x11_0_0 : Int) (x11_0_1 : List (List AV)) (x11_0_2 : List (List AV)) (k0 : ltZ (Int.ofNat i) n = true) (k1 : ixA (AV.imm xs) (Int.ofNat i) 3 = some [AV.int IntKind.i64 x11_0_0, AV.imm x11_0_1, AV.imm x11_0_2]) (k2 : ltZ (Int.ofNat 64) (Int.ofNat (List.length x11_0_1)) = true) :
    blk (cxZ m) 19 (at_ Tryd.prog 19 10) [.lp 0 0, .v (.imm xs), .v (.int .i64 n), .v (.int .i64 (Int.ofNat i)), .v (.imm ty), .v (.imm im), .v (.imm fu), .v (.imm ta), .v (.imm me), .v (.imm gl), .v (.imm ex), .v (.int .i64 st), .v (.imm el), .v (.imm da), .v (.imm cu)] h = some ((LV.v (AV.bool false), h)) :=
  blk_via (scr := ⟨fun x => match x with | 34 => some true | 41 => some true | _ => none, fun x y => match x, y with | 11, 0 => some (LV.v (AV.snap [(AV.int Go.IntKind.i64 x11_0_0), (AV.imm x11_0_1), (AV.imm x11_0_2)])) | _, _ => none, fun _ _ => none, false⟩) (p := some (ltZ (Int.ofNat i) n) = some true ∧ (false = false ∧ (none : Option Nat) = none ∧ ixA (AV.imm xs) (Int.ofNat i) 3 = some [AV.int IntKind.i64 x11_0_0, AV.imm x11_0_1, AV.imm x11_0_2]) ∧ some (ltZ (Int.ofNat 64) (Int.ofNat (List.length x11_0_1))) = some true ∧ some true = some true ∧ some true = some true ∧ some true = some true ∧ some true = some true ∧ some (LV.v (AV.bool false), h) = some ((LV.v (AV.bool false), h))) (by kernel_rfl) ⟨congrArg some k0, ⟨⟨rfl, ⟨rfl, k1⟩⟩, ⟨congrArg some k2, ⟨rfl, ⟨rfl, ⟨rfl, ⟨rfl, rfl⟩⟩⟩⟩⟩⟩⟩

theorem s19_10_1 (m : Int) (xs : List (List AV)) (n : Int) (i : Nat) (ty im fu ta me gl ex el da cu : List (List AV)) (st : Int) (h : Heap) (x11_0_0 : Int) (x11_0_1 : List (List AV)) (x11_0_2 : List (List AV)) (x12_7 : Bool) (x12_7h : Heap) (k0 : ltZ (Int.ofNat i) n = true) (k1 : ixA (AV.imm xs) (Int.ofNat i) 3 = some [AV.int IntKind.i64 x11_0_0, AV.imm x11_0_1, AV.imm x11_0_2]) (k2 : ltZ (Int.ofNat 64) (Int.ofNat (List.length x11_0_1)) = false) (k3 : callF (cxZ m) (blk (cxZ m)) 50 [LV.v (AV.imm x11_0_2)] h = some (LV.v (AV.bool x12_7), x12_7h)) (k4 : (!x12_7) = true) :
    blk (cxZ m) 19 (at_ Tryd.prog 19 10) [.lp 0 0, .v (.imm xs), .v (.int .i64 n), .v (.int .i64 (Int.ofNat i)), .v (.imm ty), .v (.imm im), .v (.imm fu), .v (.imm ta), .v (.imm me), .v (.imm gl), .v (.imm ex), .v (.int .i64 st), .v (.imm el), .v (.imm da), .v (.imm cu)] h = some ((LV.v (AV.bool false), x12_7h)) :=
  blk_via (scr := ⟨fun x => match x with | 34 => some true | 41 => some false | 46 => some true | _ => none, fun x y => match x, y with | 11, 0 => some (LV.v (AV.snap [(AV.int Go.IntKind.i64 x11_0_0), (AV.imm x11_0_1), (AV.imm x11_0_2)])) | _, _ => none, fun x y => match x, y with | 12, 7 => some (LV.v (AV.bool x12_7), x12_7h) | _, _ => none, false⟩) (p := some (ltZ (Int.ofNat i) n) = some true ∧ (false = false ∧ (none : Option Nat) = none ∧ ixA (AV.imm xs) (Int.ofNat i) 3 = some [AV.int IntKind.i64 x11_0_0, AV.imm x11_0_1, AV.imm x11_0_2]) ∧ some (ltZ (Int.ofNat 64) (Int.ofNat (List.length x11_0_1))) = some false ∧ some false = some false ∧ some false = some false ∧ callF (cxZ m) (blk (cxZ m)) 50 [LV.v (AV.imm x11_0_2)] h = some (LV.v (AV.bool x12_7), x12_7h) ∧ some false = some false ∧ some false = some false ∧ (some !x12_7) = some true ∧ some (LV.v (AV.bool false), x12_7h) = some ((LV.v (AV.bool false), x12_7h))) (by kernel_rfl) ⟨congrArg some k0, ⟨⟨rfl, ⟨rfl, k1⟩⟩, ⟨congrArg some k2, ⟨rfl, ⟨rfl, ⟨k3, ⟨rfl, ⟨rfl, ⟨congrArg some k4, rfl⟩⟩⟩⟩⟩⟩⟩⟩⟩

theorem s19_10_2 (m : Int) (xs : List (List AV)) (n : Int) (i : Nat) (ty im fu ta me gl ex el da cu : List (List AV)) (st : Int) (h : Heap) (x11_0_0 : Int) (x11_0_1 : List (List AV)) (x11_0_2 : List (List AV)) (x12_7 : Bool) (x12_7h : Heap) (r : LV × Heap) (k0 : ltZ (Int.ofNat i) n = true) (k1 : ixA (AV.imm xs) (Int.ofNat i) 3 = some [AV.int IntKind.i64 x11_0_0, AV.imm x11_0_1, AV.imm x11_0_2]) (k2 : ltZ (Int.ofNat 64) (Int.ofNat (List.length x11_0_1)) = false) (k3 : callF (cxZ m) (blk (cxZ m)) 50 [LV.v (AV.imm x11_0_2)] h = some (LV.v (AV.bool x12_7), x12_7h)) (k4 : (!x12_7) = false) (k5 : (blk (cxZ m)) 19 (at_ Tryd.prog 19 10) [LV.lp 0 0, LV.v (AV.imm xs), LV.v (AV.int IntKind.i64 n), LV.v (AV.int IntKind.i64 (IntKind.wrap IntKind.i64 (Int.ofNat (Nat.succ i)))), LV.v (AV.imm ty), LV.v (AV.imm im), LV.v (AV.imm fu), LV.v (AV.imm ta), LV.v (AV.imm me), LV.v (AV.imm gl), LV.v (AV.imm ex), LV.v (AV.int IntKind.i64 st), LV.v (AV.imm el), LV.v (AV.imm da), LV.v (AV.imm cu)] x12_7h = some r) :
    blk (cxZ m) 19 (at_ Tryd.prog 19 10) [.lp 0 0, .v (.imm xs), .v (.int .i64 n), .v (.int .i64 (Int.ofNat i)), .v (.imm ty), .v (.imm im), .v (.imm fu), .v (.imm ta), .v (.imm me), .v (.imm gl), .v (.imm ex), .v (.int .i64 st), .v (.imm el), .v (.imm da), .v (.imm cu)] h = some r :=
  blk_via (scr := ⟨fun x => match x with | 34 => some true | 41 => some false | 46 => some false | _ => none, fun x y => match x, y with | 11, 0 => some (LV.v (AV.snap [(AV.int Go.IntKind.i64 x11_0_0), (AV.imm x11_0_1), (AV.imm x11_0_2)])) | _, _ => none, fun x y => match x, y with | 12, 7 => some (LV.v (AV.bool x12_7), x12_7h) | _, _ => none, false⟩) (p := some (ltZ (Int.ofNat i) n) = some true ∧ (false = false ∧ (none : Option Nat) = none ∧ ixA (AV.imm xs) (Int.ofNat i) 3 = some [AV.int IntKind.i64 x11_0_0, AV.imm x11_0_1, AV.imm x11_0_2]) ∧ some (ltZ (Int.ofNat 64) (Int.ofNat (List.length x11_0_1))) = some false ∧ some false = some false ∧ some false = some false ∧ callF (cxZ m) (blk (cxZ m)) 50 [LV.v (AV.imm x11_0_2)] h = some (LV.v (AV.bool x12_7), x12_7h) ∧ some false = some false ∧ some false = some false ∧ (some !x12_7) = some false ∧ true = true ∧ (blk (cxZ m)) 19 (at_ Tryd.prog 19 10) [LV.lp 0 0, LV.v (AV.imm xs), LV.v (AV.int IntKind.i64 n), LV.v (AV.int IntKind.i64 (IntKind.wrap IntKind.i64 (Int.ofNat (Nat.succ i)))), LV.v (AV.imm ty), LV.v (AV.imm im), LV.v (AV.imm fu), LV.v (AV.imm ta), LV.v (AV.imm me), LV.v (AV.imm gl), LV.v (AV.imm ex), LV.v (AV.int IntKind.i64 st), LV.v (AV.imm el), LV.v (AV.imm da), LV.v (AV.imm cu)] x12_7h = some r) (by kernel_rfl) ⟨congrArg some k0, ⟨⟨rfl, ⟨rfl, k1⟩⟩, ⟨congrArg some k2, ⟨rfl, ⟨rfl, ⟨k3, ⟨rfl, ⟨rfl, ⟨congrArg some k4, ⟨rfl, k5⟩⟩⟩⟩⟩⟩⟩⟩⟩⟩

theorem s19_10_3 (m : Int) (xs : List (List AV)) (n : Int) (i : Nat) (ty im fu ta me gl ex el da cu : List (List AV)) (st : Int) (h : Heap) (r : LV × Heap) (k0 : ltZ (Int.ofNat i) n = false) (k1 : (blk (cxZ m)) 19 (at_ Tryd.prog 19 16) [LV.lp 0 0, LV.v (AV.imm gl), LV.v (AV.int IntKind.i64 (Int.ofNat (List.length gl))), LV.v (AV.int IntKind.i64 (Int.ofNat 0)), LV.v (AV.imm ty), LV.v (AV.imm im), LV.v (AV.imm fu), LV.v (AV.imm ta), LV.v (AV.imm me), LV.v (AV.imm gl), LV.v (AV.imm ex), LV.v (AV.int IntKind.i64 st), LV.v (AV.imm el), LV.v (AV.imm da), LV.v (AV.imm cu)] h = some r) :
    blk (cxZ m) 19 (at_ Tryd.prog 19 10) [.lp 0 0, .v (.imm xs), .v (.int .i64 n), .v (.int .i64 (Int.ofNat i)), .v (.imm ty), .v (.imm im), .v (.imm fu), .v (.imm ta), .v (.imm me), .v (.imm gl), .v (.imm ex), .v (.int .i64 st), .v (.imm el), .v (.imm da), .v (.imm cu)] h = some r :=
  blk_via (scr := ⟨fun x => match x with | 34 => some false | _ => none, fun _ _ => none, fun _ _ => none, false⟩) (p := some (ltZ (Int.ofNat i) n) = some false ∧ true = true ∧ (blk (cxZ m)) 19 (at_ Tryd.prog 19 16) [LV.lp 0 0, LV.v (AV.imm gl), LV.v (AV.int IntKind.i64 (Int.ofNat (List.length gl))), LV.v (AV.int IntKind.i64 (Int.ofNat 0)), LV.v (AV.imm ty), LV.v (AV.imm im), LV.v (AV.imm fu), LV.v (AV.imm ta), LV.v (AV.imm me), LV.v (AV.imm gl), LV.v (AV.imm ex), LV.v (AV.int IntKind.i64 st), LV.v (AV.imm el), LV.v (AV.imm da), LV.v (AV.imm cu)] h = some r) (by kernel_rfl) ⟨congrArg some k0, ⟨rfl, k1⟩⟩

theorem s19_16_0 (m : Int) (xs : List (List AV)) (n : Int) (i : Nat) (ty im fu ta me gl ex el da cu : List (List AV)) (st : Int) (h : Heap) (x17_0_0 : Int) (x17_0_1 : Bool) (x17_0_2 : Int) (x17_0_3 : Int) (x17_0_4 : Int) (x17_0_5 : Int) (x17_0_6 : Int) (x17_0_7 : List (List AV)) (x17_0_8 : List (List AV)) (x17_0_9 : List (List AV)) (x17_0_10 : Bool) (x18_3 : Bool) (x18_3h : Heap) (k0 : ltZ (Int.ofNat i) n = true) (k1 : ixA (AV.imm xs) (Int.ofNat i) 11 = some [AV.int IntKind.i64 x17_0_0, AV.bool x17_0_1, AV.int IntKind.i64 x17_0_2, AV.int IntKind.i64 x17_0_3, AV.int IntKind.i64 x17_0_4, AV.int IntKind.u64 x17_0_5, AV.int IntKind.i64 x17_0_6, AV.imm x17_0_7, AV.imm x17_0_8, AV.imm x17_0_9, AV.bool x17_0_10]) (k2 : callF (cxZ m) (blk (cxZ m)) 50 [LV.v (AV.imm [[AV.int IntKind.i64 x17_0_2, AV.int IntKind.i64 x17_0_3, AV.int IntKind.i64 x17_0_4, AV.int IntKind.u64 x17_0_5, AV.int IntKind.i64 x17_0_6, AV.imm x17_0_7, AV.imm x17_0_8, AV.imm x17_0_9, AV.bool x17_0_10]])] h = some (LV.v (AV.bool x18_3), x18_3h)) (k3 : (!x18_3) = true) :
    blk (cxZ m) 19 (at_ Tryd.prog 19 16) [.lp 0 0, .v (.imm xs), .v (.int .i64 n), .v (.int .i64 (Int.ofNat i)), .v (.imm ty), .v (.imm im), .v (.imm fu), .v (.imm ta), .v (.imm me), .v (.imm gl), .v (.imm ex), .v (.int .i64 st), .v (.imm el), .v (.imm da), .v (.imm cu)] h = some ((LV.v (AV.bool false), x18_3h)) :=
  blk_via (scr := ⟨fun x => match x with | 52 => some true | 59 => some true | _ => none, fun x y => match x, y with | 17, 0 => some (LV.v (AV.snap [(AV.int Go.IntKind.i64 x17_0_0), (AV.bool x17_0_1), (AV.int Go.IntKind.i64 x17_0_2), (AV.int Go.IntKind.i64 x17_0_3), (AV.int Go.IntKind.i64 x17_0_4), (AV.int Go.IntKind.u64 x17_0_5), (AV.int Go.IntKind.i64 x17_0_6), (AV.imm x17_0_7), (AV.imm x17_0_8), (AV.imm x17_0_9), (AV.bool x17_0_10)])) | _, _ => none, fun x y => match x, y with | 18, 3 => some (LV.v (AV.bool x18_3), x18_3h) | _, _ => none, false⟩) (p := some (ltZ (Int.ofNat i) n) = some true ∧ (false = false ∧ (none : Option Nat) = none ∧ ixA (AV.imm xs) (Int.ofNat i) 11 = some [AV.int IntKind.i64 x17_0_0, AV.bool x17_0_1, AV.int IntKind.i64 x17_0_2, AV.int IntKind.i64 x17_0_3, AV.int IntKind.i64 x17_0_4, AV.int IntKind.u64 x17_0_5, AV.int IntKind.i64 x17_0_6, AV.imm x17_0_7, AV.imm x17_0_8, AV.imm x17_0_9, AV.bool x17_0_10]) ∧ callF (cxZ m) (blk (cxZ m)) 50 [LV.v (AV.imm [[AV.int IntKind.i64 x17_0_2, AV.int IntKind.i64 x17_0_3, AV.int IntKind.i64 x17_0_4, AV.int IntKind.u64 x17_0_5, AV.int IntKind.i64 x17_0_6, AV.imm x17_0_7, AV.imm x17_0_8, AV.imm x17_0_9, AV.bool x17_0_10]])] h = some (LV.v (AV.bool x18_3), x18_3h) ∧ (some !x18_3) = some true ∧ some (LV.v (AV.bool false), x18_3h) = some ((LV.v (AV.bool false), x18_3h))) (by kernel_rfl) ⟨congrArg some k0, ⟨⟨rfl, ⟨rfl, k1⟩⟩, ⟨k2, ⟨congrArg some k3, rfl⟩⟩⟩⟩

theorem s19_16_1 (m : Int) (xs : List (List AV)) (n : Int) (i : Nat) (ty im fu ta me gl ex el da cu : List (List AV)) (st : Int) (h : Heap) (x17_0_0 : Int) (x17_0_1 : Bool) (x17_0_2 : Int) (x17_0_3 : Int) (x17_0_4 : Int) (x17_0_5 : Int) (x17_0_6 : Int) (x17_0_7 : List (List AV)) (x17_0_8 : List (List AV)) (x17_0_9 : List (List AV)) (x17_0_10 : Bool) (x18_3 : Bool) (x18_3h : Heap) (r : LV × Heap) (k0 : ltZ (Int.ofNat i) n = true) (k1 : ixA (AV.imm xs) (Int.ofNat i) 11 = some [AV.int IntKind.i64 x17_0_0, AV.bool x17_0_1, AV.int IntKind.i64 x17_0_2, AV.int IntKind.i64 x17_0_3, AV.int IntKind.i64 x17_0_4, AV.int IntKind.u64 x17_0_5, AV.int IntKind.i64 x17_0_6, AV.imm x17_0_7, AV.imm x17_0_8, AV.imm x17_0_9, AV.bool x17_0_10]) (k2 : callF (cxZ m) (blk (cxZ m)) 50 [LV.v (AV.imm [[AV.int IntKind.i64 x17_0_2, AV.int IntKind.i64 x17_0_3, AV.int IntKind.i64 x17_0_4, AV.int IntKind.u64 x17_0_5, AV.int IntKind.i64 x17_0_6, AV.imm x17_0_7, AV.imm x17_0_8, AV.imm x17_0_9, AV.bool x17_0_10]])] h = some (LV.v (AV.bool x18_3), x18_3h)) (k3 : (!x18_3) = false) (k4 : (blk (cxZ m)) 19 (at_ Tryd.prog 19 16) [LV.lp 0 0, LV.v (AV.imm xs), LV.v (AV.int IntKind.i64 n), LV.v (AV.int IntKind.i64 (IntKind.wrap IntKind.i64 (Int.ofNat (Nat.succ i)))), LV.v (AV.imm ty), LV.v (AV.imm im), LV.v (AV.imm fu), LV.v (AV.imm ta), LV.v (AV.imm me), LV.v (AV.imm gl), LV.v (AV.imm ex), LV.v (AV.int IntKind.i64 st), LV.v (AV.imm el), LV.v (AV.imm da), LV.v (AV.imm cu)] x18_3h = some r) :
    blk (cxZ m) 19 (at_ Tryd.prog 19 16) [.lp 0 0, .v (.imm xs), .v (.int .i64 n), .v (.int .i64 (Int.ofNat i)), .v (.imm ty), .v (.imm im), .v (.imm fu), .v (.imm ta), .v (.imm me), .v (.imm gl), .v (.imm ex), .v (.int .i64 st), .v (.imm el), .v (.imm da), .v (.imm cu)] h = some r :=
  blk_via (scr := ⟨fun x => match x with | 52 => some true | 59 => some false | _ => none, fun x y => match x, y with | 17, 0 => some (LV.v (AV.snap [(AV.int Go.IntKind.i64 x17_0_0), (AV.bool x17_0_1), (AV.int Go.IntKind.i64 x17_0_2), (AV.int Go.IntKind.i64 x17_0_3), (AV.int Go.IntKind.i64 x17_0_4), (AV.int Go.IntKind.u64 x17_0_5), (AV.int Go.IntKind.i64 x17_0_6), (AV.imm x17_0_7), (AV.imm x17_0_8), (AV.imm x17_0_9), (AV.bool x17_0_10)])) | _, _ => none, fun x y => match x, y with | 18, 3 => some (LV.v (AV.bool x18_3), x18_3h) | _, _ => none, false⟩) (p := some (ltZ (Int.ofNat i) n) = some true ∧ (false = false ∧ (none : Option Nat) = none ∧ ixA (AV.imm xs) (Int.ofNat i) 11 = some [AV.int IntKind.i64 x17_0_0, AV.bool x17_0_1, AV.int IntKind.i64 x17_0_2, AV.int IntKind.i64 x17_0_3, AV.int IntKind.i64 x17_0_4, AV.int IntKind.u64 x17_0_5, AV.int IntKind.i64 x17_0_6, AV.imm x17_0_7, AV.imm x17_0_8, AV.imm x17_0_9, AV.bool x17_0_10]) ∧ callF (cxZ m) (blk (cxZ m)) 50 [LV.v (AV.imm [[AV.int IntKind.i64 x17_0_2, AV.int IntKind.i64 x17_0_3, AV.int IntKind.i64 x17_0_4, AV.int IntKind.u64 x17_0_5, AV.int IntKind.i64 x17_0_6, AV.imm x17_0_7, AV.imm x17_0_8, AV.imm x17_0_9, AV.bool x17_0_10]])] h = some (LV.v (AV.bool x18_3), x18_3h) ∧ (some !x18_3) = some false ∧ true = true ∧ (blk (cxZ m)) 19 (at_ Tryd.prog 19 16) [LV.lp 0 0, LV.v (AV.imm xs), LV.v (AV.int IntKind.i64 n), LV.v (AV.int IntKind.i64 (IntKind.wrap IntKind.i64 (Int.ofNat (Nat.succ i)))), LV.v (AV.imm ty), LV.v (AV.imm im), LV.v (AV.imm fu), LV.v (AV.imm ta), LV.v (AV.imm me), LV.v (AV.imm gl), LV.v (AV.imm ex), LV.v (AV.int IntKind.i64 st), LV.v (AV.imm el), LV.v (AV.imm da), LV.v (AV.imm cu)] x18_3h = some r) (by kernel_rfl) ⟨congrArg some k0, ⟨⟨rfl, ⟨rfl, k1⟩⟩, ⟨k2, ⟨congrArg some k3, ⟨rfl, k4⟩⟩⟩⟩⟩

theorem s19_16_2 (m : Int) (xs : List (List AV)) (n : Int) (i : Nat) (ty im fu ta me gl ex el da cu : List (List AV)) (st : Int) (h : Heap) (x21_1 : Bool) (x21_1h : Heap) (x21_4 : Bool) (x21_4h : Heap) (k0 : ltZ (Int.ofNat i) n = false) (k1 : callF (cxZ m) (blk (cxZ m)) 51 [LV.v (AV.agg [AV.imm ty, AV.imm im, AV.imm fu, AV.imm ta, AV.imm me, AV.imm gl, AV.imm ex, AV.int IntKind.i64 st, AV.imm el, AV.imm da, AV.imm cu])] h = some (LV.v (AV.bool x21_1), x21_1h)) (k2 : x21_1 = true) (k3 : callF (cxZ m) (blk (cxZ m)) 52 [LV.v (AV.agg [AV.imm ty, AV.imm im, AV.imm fu, AV.imm ta, AV.imm me, AV.imm gl, AV.imm ex, AV.int IntKind.i64 st, AV.imm el, AV.imm da, AV.imm cu])] x21_1h = some (LV.v (AV.bool x21_4), x21_4h)) :
    blk (cxZ m) 19 (at_ Tryd.prog 19 16) [.lp 0 0, .v (.imm xs), .v (.int .i64 n), .v (.int .i64 (Int.ofNat i)), .v (.imm ty), .v (.imm im), .v (.imm fu), .v (.imm ta), .v (.imm me), .v (.imm gl), .v (.imm ex), .v (.int .i64 st), .v (.imm el), .v (.imm da), .v (.imm cu)] h = some ((LV.v (AV.bool x21_4), x21_4h)) :=
  blk_via (scr := ⟨fun x => match x with | 52 => some false | 63 => some true | _ => none, fun _ _ => none, fun x y => match x, y with | 21, 1 => some (LV.v (AV.bool x21_1), x21_1h) | 21, 4 => some (LV.v (AV.bool x21_4), x21_4h) | _, _ => none, false⟩) (p := some (ltZ (Int.ofNat i) n) = some false ∧ callF (cxZ m) (blk (cxZ m)) 51 [LV.v (AV.agg [AV.imm ty, AV.imm im, AV.imm fu, AV.imm ta, AV.imm me, AV.imm gl, AV.imm ex, AV.int IntKind.i64 st, AV.imm el, AV.imm da, AV.imm cu])] h = some (LV.v (AV.bool x21_1), x21_1h) ∧ some x21_1 = some true ∧ some true = some true ∧ callF (cxZ m) (blk (cxZ m)) 52 [LV.v (AV.agg [AV.imm ty, AV.imm im, AV.imm fu, AV.imm ta, AV.imm me, AV.imm gl, AV.imm ex, AV.int IntKind.i64 st, AV.imm el, AV.imm da, AV.imm cu])] x21_1h = some (LV.v (AV.bool x21_4), x21_4h) ∧ some true = some true ∧ some (LV.v (AV.bool x21_4), x21_4h) = some ((LV.v (AV.bool x21_4), x21_4h))) (by kernel_rfl) ⟨congrArg some k0, ⟨k1, ⟨congrArg some k2, ⟨rfl, ⟨k3, ⟨rfl, rfl⟩⟩⟩⟩⟩⟩

theorem s19_16_3 (m : Int) (xs : List (List AV)) (n : Int) (i : Nat) (ty im fu ta me gl ex el da cu : List (List AV)) (st : Int) (h : Heap) (x21_1 : Bool) (x21_1h : Heap) (k0 : ltZ (Int.ofNat i) n = false) (k1 : callF (cxZ m) (blk (cxZ m)) 51 [LV.v (AV.agg [AV.imm ty, AV.imm im, AV.imm fu, AV.imm ta, AV.imm me, AV.imm gl, AV.imm ex, AV.int IntKind.i64 st, AV.imm el, AV.imm da, AV.imm cu])] h = some (LV.v (AV.bool x21_1), x21_1h)) (k2 : x21_1 = false) :
    blk (cxZ m) 19 (at_ Tryd.prog 19 16) [.lp 0 0, .v (.imm xs), .v (.int .i64 n), .v (.int .i64 (Int.ofNat i)), .v (.imm ty), .v (.imm im), .v (.imm fu), .v (.imm ta), .v (.imm me), .v (.imm gl), .v (.imm ex), .v (.int .i64 st), .v (.imm el), .v (.imm da), .v (.imm cu)] h = some ((LV.v (AV.bool false), x21_1h)) :=
  blk_via (scr := ⟨fun x => match x with | 52 => some false | 63 => some false | _ => none, fun _ _ => none, fun x y => match x, y with | 21, 1 => some (LV.v (AV.bool x21_1), x21_1h) | _, _ => none, false⟩) (p := some (ltZ (Int.ofNat i) n) = some false ∧ callF (cxZ m) (blk (cxZ m)) 51 [LV.v (AV.agg [AV.imm ty, AV.imm im, AV.imm fu, AV.imm ta, AV.imm me, AV.imm gl, AV.imm ex, AV.int IntKind.i64 st, AV.imm el, AV.imm da, AV.imm cu])] h = some (LV.v (AV.bool x21_1), x21_1h) ∧ some x21_1 = some false ∧ some false = some false ∧ some false = some false ∧ some (LV.v (AV.bool false), x21_1h) = some ((LV.v (AV.bool false), x21_1h))) (by kernel_rfl) ⟨congrArg some k0, ⟨k1, ⟨congrArg some k2, ⟨rfl, ⟨rfl, rfl⟩⟩⟩⟩⟩

end Go.Proofs.YtmgjnbhofkchmaaDoor


namespace Go.Proofs.YtmgjnbhofkchmaaDoor
open Go Go.RowKit Go.Proofs.Am
/-- A call tells a truth value, and does nothing else. -/
def TB (m : Int) (f : Nat) (xs : List LV) : Prop := ∃ q : Bool, ∀ h, CALL m f xs h = some (.v (.bool q), h)

theorem ix53 (m : Int) (xs : List Ins) (hl : xs.length < 9223372036854775807) (hE : ∀ x, x ∈ xs → TB m 76 [.v (.agg (encI x))]) : ∀ (d i : Nat), i + d = xs.length →
    ∃ z : Int, ∀ h, blk (cxZ m) 53 (at_ Tryd.prog 53 2) [.v (.imm (encIs xs)), .v (.fn 76 [] []), .v (.int .i64 (Int.ofNat xs.length)), .v (.int .i64 (Int.ofNat i))] h = some (.v (.int .i64 z), h)
  | 0, i, hd => ⟨_, fun h => s53_2_2 (k0 := ltZ_f (by rw [ofN, ofN]; omega)) ..⟩
  | d + 1, i, hd => by
    have hi : i < xs.length := by omega
    have hx : xs[i]? = some xs[i] := List.getElem?_eq_getElem hi
    have hm : xs[i] ∈ xs := List.getElem_mem hi
    generalize xs[i] = x at hx hm
    have k0 : ltZ (Int.ofNat i) (Int.ofNat xs.length) = true := ltZ_t (by rw [ofN, ofN]; omega)
    have k1 : ixA (.imm (encIs xs)) (Int.ofNat i) 9 = some (encI x) := by rw [encIs_map]; exact ix_map (f := encI) hx (encI_len _)
    obtain ⟨r, hr⟩ := hE x hm
    obtain ⟨z, hz⟩ := ix53 m xs hl hE d (i + 1) (by omega)
    obtain ⟨o, a, b, v, t, l, bd, el, q⟩ := x; cases r with
    | true => exact ⟨_, fun h => s53_2_0 (k0 := k0) (k1 := k1) (k2 := callV_fn.trans (hr h)) (k3 := rfl) ..⟩
    | false => exact ⟨z, fun h => s53_2_1 (k0 := k0) (k1 := k1) (k2 := callV_fn.trans (hr h)) (k3 := rfl) (k4 := by rw [wrapS (by omega)]; exact hz h) ..⟩
theorem t21 (m : Int) (xs : List Ins) (hl : xs.length < 9223372036854775807) (hE : ∀ x, x ∈ xs → TB m 76 [.v (.agg (encI x))]) : TB m 21 [.v (.imm (encIs xs)), .v (.fn 76 [] [])] := by
  obtain ⟨z, hz⟩ := ix53 m xs hl hE xs.length 0 (by omega)
  have l1 : (encIs xs).length = xs.length := by simp [encIs_len]
  have c : ∀ h, CALL m 53 [.v (.imm (encIs xs)), .v (.fn 76 [] [])] h = some (.v (.int .i64 z), h) := fun h => callZ rfl (by kernel_rfl) (by kernel_rfl) (s53_0 (k0 := by rw [l1]; exact hz h) ..)
  exact ⟨_, fun h => callZ rfl (by kernel_rfl) (by kernel_rfl) (s21_0 (k0 := c h) ..)⟩

theorem t60_of (m : Int) (l : List Ins) (hl : l.length < 9223372036854775807) (hE : ∀ x, x ∈ l → TB m 76 [.v (.agg (encI x))]) : TB m 60 [.v (.imm (encIs l))] := by
  obtain ⟨q, hq⟩ := t21 m l hl hE
  exact ⟨_, fun h => callZ rfl (by kernel_rfl) (by kernel_rfl) (s60_0 (k0 := hq h) ..)⟩
theorem t76 (m : Int) {x : Ins} (hx : FitZ x) : TB m 76 [.v (.agg (encI x))] := by
  induction hx with
  | mk o a b v t l bd el q ho ha hb hv ht hl hbd hel h1 h2 i1 i2 =>
    obtain ⟨q1, c1⟩ := t60_of m bd (FitL.lt (n := 120) (F := FitZ) ⟨hbd, h1⟩ (by decide)) i1
    obtain ⟨q2, c2⟩ := t60_of m el (FitL.lt (n := 120) (F := FitZ) ⟨hel, h2⟩ (by decide)) i2
    cases e : ltZ (Int.ofNat 64) (Int.ofNat (encN l).length) with
    | true => exact ⟨_, fun h => callZ rfl (by kernel_rfl) (by kernel_rfl) (s76_0 (k0 := e) ..)⟩
    | false =>
      cases q1 with
      | false => exact ⟨_, fun h => callZ rfl (by kernel_rfl) (by kernel_rfl) (s76_1 (k0 := e) (k1 := c1 h) (k2 := rfl) ..)⟩
      | true => exact ⟨_, fun h => callZ rfl (by kernel_rfl) (by kernel_rfl) (s76_2 (k0 := e) (k1 := c1 h) (k2 := rfl) (k3 := c2 h) ..)⟩
theorem t60 (m : Int) (l : List Ins) (hl : FitL 120 FitZ l) : TB m 60 [.v (.imm (encIs l))] := t60_of m l (hl.lt (by decide)) fun x hx => t76 m (hl.2 x hx)
theorem t50 (m : Int) (l : List Ins) (hl : FitL 120 FitZ l) : TB m 50 [.v (.imm (encIs l))] := by
  have c := count8 m l (hl.len (by decide)) fun x hx => (hl.2 x hx).fit
  obtain ⟨q, hq⟩ := t60 m l hl
  cases e : leZ (WC (cL l)) (Int.ofNat 512) with
  | false => exact ⟨_, fun h => callZ rfl (by kernel_rfl) (by kernel_rfl) (s50_2 (k0 := c h) (k1 := e) ..)⟩
  | true =>
    cases e2 : leZ (dL (bB m) l) (Int.ofNat 32) with
    | false => exact ⟨_, fun h => callZ rfl (by kernel_rfl) (by kernel_rfl) (s50_1 (k0 := c h) (k1 := e) (k2 := e2) ..)⟩
    | true => exact ⟨_, fun h => callZ rfl (by kernel_rfl) (by kernel_rfl) (s50_0 (k0 := c h) (k1 := e) (k2 := e2) (k3 := hq h) ..)⟩
theorem t50_one (m : Int) {x : Ins} (hx : FitZ x) : TB m 50 [.v (.imm [encI x])] :=
  t50 m [x] ⟨Nat.le_of_ble_eq_true (show Nat.ble (1 * 120) reachBytes = true from rfl), fun y hy => by rw [List.mem_singleton] at hy; rw [hy]; exact hx⟩
theorem t62 (m : Int) (x : Imp) : TB m 62 [.v (.agg x.enc)] := by
  cases e : ltZ (Int.ofNat 64) (Int.ofNat x.m.size) with
  | true => exact ⟨_, fun h => callZ rfl (by kernel_rfl) (by kernel_rfl) (s62_0 (k0 := e) ..)⟩
  | false => exact ⟨_, fun h => callZ rfl (by kernel_rfl) (by kernel_rfl) (s62_1 (k0 := e) ..)⟩
theorem t64 (m : Int) (x : Exq) : TB m 64 [.v (.agg x.enc)] := ⟨_, fun h => callZ rfl (by kernel_rfl) (by kernel_rfl) (s64_0 ..)⟩
theorem t66 (m : Int) (x : Cus) : TB m 66 [.v (.agg x.enc)] := by
  cases e : ltZ (Int.ofNat 64) (Int.ofNat x.n.size) with
  | true => exact ⟨_, fun h => callZ rfl (by kernel_rfl) (by kernel_rfl) (s66_0 (k0 := e) ..)⟩
  | false => exact ⟨_, fun h => callZ rfl (by kernel_rfl) (by kernel_rfl) (s66_1 (k0 := e) ..)⟩
theorem t68 (m : Int) {x : Ele} (hx : x.Fit) : TB m 68 [.v (.agg x.enc)] := by
  obtain ⟨q, hq⟩ := t50_one m hx.1
  obtain ⟨⟨o, a, b, v, t, l, bd, el, r⟩, f⟩ := x
  cases e : ltZ (Int.ofNat 64) (Int.ofNat (encN f).length) with
  | true => exact ⟨_, fun h => callZ rfl (by kernel_rfl) (by kernel_rfl) (s68_0 (k0 := e) ..)⟩
  | false => exact ⟨_, fun h => callZ rfl (by kernel_rfl) (by kernel_rfl) (s68_1 (k0 := e) (k1 := hq h) ..)⟩
theorem t70 (m : Int) {x : Dat} (hx : x.Fit) : TB m 70 [.v (.agg x.enc)] := by
  obtain ⟨q, hq⟩ := t50_one m hx.1
  obtain ⟨⟨o, a, b, v, t, l, bd, el, r⟩, f⟩ := x
  cases e : ltZ (Int.ofNat 4096) (Int.ofNat (encB f).length) with
  | true => exact ⟨_, fun h => callZ rfl (by kernel_rfl) (by kernel_rfl) (s70_0 (k0 := e) ..)⟩
  | false => exact ⟨_, fun h => callZ rfl (by kernel_rfl) (by kernel_rfl) (s70_1 (k0 := e) (k1 := hq h) ..)⟩

theorem ix77 (m : Int) (xs : List Imp) (hl : xs.length < 9223372036854775807) (hE : ∀ x, x ∈ xs → TB m 62 [.v (.agg (Imp.enc x))]) : ∀ (d i : Nat), i + d = xs.length →
    ∃ z : Int, ∀ h, blk (cxZ m) 77 (at_ Tryd.prog 77 2) [.v (.imm (xs.map Imp.enc)), .v (.fn 62 [] []), .v (.int .i64 (Int.ofNat xs.length)), .v (.int .i64 (Int.ofNat i))] h = some (.v (.int .i64 z), h)
  | 0, i, hd => ⟨_, fun h => s77_2_2 (k0 := ltZ_f (by rw [ofN, ofN]; omega)) ..⟩
  | d + 1, i, hd => by
    have hi : i < xs.length := by omega
    have hx : xs[i]? = some xs[i] := List.getElem?_eq_getElem hi
    have hm : xs[i] ∈ xs := List.getElem_mem hi
    generalize xs[i] = x at hx hm
    have k0 : ltZ (Int.ofNat i) (Int.ofNat xs.length) = true := ltZ_t (by rw [ofN, ofN]; omega)
    have k1 : ixA (.imm (xs.map Imp.enc)) (Int.ofNat i) 8 = some (Imp.enc x) := by exact ix_map (f := Imp.enc) hx (Imp.enc_len _)
    obtain ⟨r, hr⟩ := hE x hm
    obtain ⟨z, hz⟩ := ix77 m xs hl hE d (i + 1) (by omega)
    cases r with
    | true => exact ⟨_, fun h => s77_2_0 (k0 := k0) (k1 := k1) (k2 := callV_fn.trans (hr h)) (k3 := rfl) ..⟩
    | false => exact ⟨z, fun h => s77_2_1 (k0 := k0) (k1 := k1) (k2 := callV_fn.trans (hr h)) (k3 := rfl) (k4 := by rw [wrapS (by omega)]; exact hz h) ..⟩
theorem t61 (m : Int) (xs : List Imp) (hl : xs.length < 9223372036854775807) (hE : ∀ x, x ∈ xs → TB m 62 [.v (.agg (Imp.enc x))]) : TB m 61 [.v (.imm (xs.map Imp.enc)), .v (.fn 62 [] [])] := by
  obtain ⟨z, hz⟩ := ix77 m xs hl hE xs.length 0 (by omega)
  have l1 : (xs.map Imp.enc).length = xs.length := by simp
  have c : ∀ h, CALL m 77 [.v (.imm (xs.map Imp.enc)), .v (.fn 62 [] [])] h = some (.v (.int .i64 z), h) := fun h => callZ rfl (by kernel_rfl) (by kernel_rfl) (s77_0 (k0 := by rw [l1]; exact hz h) ..)
  exact ⟨_, fun h => callZ rfl (by kernel_rfl) (by kernel_rfl) (s61_0 (k0 := c h) ..)⟩

theorem ix78 (m : Int) (xs : List Exq) (hl : xs.length < 9223372036854775807) (hE : ∀ x, x ∈ xs → TB m 64 [.v (.agg (Exq.enc x))]) : ∀ (d i : Nat), i + d = xs.length →
    ∃ z : Int, ∀ h, blk (cxZ m) 78 (at_ Tryd.prog 78 2) [.v (.imm (xs.map Exq.enc)), .v (.fn 64 [] []), .v (.int .i64 (Int.ofNat xs.length)), .v (.int .i64 (Int.ofNat i))] h = some (.v (.int .i64 z), h)
  | 0, i, hd => ⟨_, fun h => s78_2_2 (k0 := ltZ_f (by rw [ofN, ofN]; omega)) ..⟩
  | d + 1, i, hd => by
    have hi : i < xs.length := by omega
    have hx : xs[i]? = some xs[i] := List.getElem?_eq_getElem hi
    have hm : xs[i] ∈ xs := List.getElem_mem hi
    generalize xs[i] = x at hx hm
    have k0 : ltZ (Int.ofNat i) (Int.ofNat xs.length) = true := ltZ_t (by rw [ofN, ofN]; omega)
    have k1 : ixA (.imm (xs.map Exq.enc)) (Int.ofNat i) 3 = some (Exq.enc x) := by exact ix_map (f := Exq.enc) hx (Exq.enc_len _)
    obtain ⟨r, hr⟩ := hE x hm
    obtain ⟨z, hz⟩ := ix78 m xs hl hE d (i + 1) (by omega)
    cases r with
    | true => exact ⟨_, fun h => s78_2_0 (k0 := k0) (k1 := k1) (k2 := callV_fn.trans (hr h)) (k3 := rfl) ..⟩
    | false => exact ⟨z, fun h => s78_2_1 (k0 := k0) (k1 := k1) (k2 := callV_fn.trans (hr h)) (k3 := rfl) (k4 := by rw [wrapS (by omega)]; exact hz h) ..⟩
theorem t63 (m : Int) (xs : List Exq) (hl : xs.length < 9223372036854775807) (hE : ∀ x, x ∈ xs → TB m 64 [.v (.agg (Exq.enc x))]) : TB m 63 [.v (.imm (xs.map Exq.enc)), .v (.fn 64 [] [])] := by
  obtain ⟨z, hz⟩ := ix78 m xs hl hE xs.length 0 (by omega)
  have l1 : (xs.map Exq.enc).length = xs.length := by simp
  have c : ∀ h, CALL m 78 [.v (.imm (xs.map Exq.enc)), .v (.fn 64 [] [])] h = some (.v (.int .i64 z), h) := fun h => callZ rfl (by kernel_rfl) (by kernel_rfl) (s78_0 (k0 := by rw [l1]; exact hz h) ..)
  exact ⟨_, fun h => callZ rfl (by kernel_rfl) (by kernel_rfl) (s63_0 (k0 := c h) ..)⟩

theorem ix79 (m : Int) (xs : List Cus) (hl : xs.length < 9223372036854775807) (hE : ∀ x, x ∈ xs → TB m 66 [.v (.agg (Cus.enc x))]) : ∀ (d i : Nat), i + d = xs.length →
    ∃ z : Int, ∀ h, blk (cxZ m) 79 (at_ Tryd.prog 79 2) [.v (.imm (xs.map Cus.enc)), .v (.fn 66 [] []), .v (.int .i64 (Int.ofNat xs.length)), .v (.int .i64 (Int.ofNat i))] h = some (.v (.int .i64 z), h)
  | 0, i, hd => ⟨_, fun h => s79_2_2 (k0 := ltZ_f (by rw [ofN, ofN]; omega)) ..⟩
  | d + 1, i, hd => by
    have hi : i < xs.length := by omega
    have hx : xs[i]? = some xs[i] := List.getElem?_eq_getElem hi
    have hm : xs[i] ∈ xs := List.getElem_mem hi
    generalize xs[i] = x at hx hm
    have k0 : ltZ (Int.ofNat i) (Int.ofNat xs.length) = true := ltZ_t (by rw [ofN, ofN]; omega)
    have k1 : ixA (.imm (xs.map Cus.enc)) (Int.ofNat i) 2 = some (Cus.enc x) := by exact ix_map (f := Cus.enc) hx (Cus.enc_len _)
    obtain ⟨r, hr⟩ := hE x hm
    obtain ⟨z, hz⟩ := ix79 m xs hl hE d (i + 1) (by omega)
    cases r with
    | true => exact ⟨_, fun h => s79_2_0 (k0 := k0) (k1 := k1) (k2 := callV_fn.trans (hr h)) (k3 := rfl) ..⟩
    | false => exact ⟨z, fun h => s79_2_1 (k0 := k0) (k1 := k1) (k2 := callV_fn.trans (hr h)) (k3 := rfl) (k4 := by rw [wrapS (by omega)]; exact hz h) ..⟩
theorem t65 (m : Int) (xs : List Cus) (hl : xs.length < 9223372036854775807) (hE : ∀ x, x ∈ xs → TB m 66 [.v (.agg (Cus.enc x))]) : TB m 65 [.v (.imm (xs.map Cus.enc)), .v (.fn 66 [] [])] := by
  obtain ⟨z, hz⟩ := ix79 m xs hl hE xs.length 0 (by omega)
  have l1 : (xs.map Cus.enc).length = xs.length := by simp
  have c : ∀ h, CALL m 79 [.v (.imm (xs.map Cus.enc)), .v (.fn 66 [] [])] h = some (.v (.int .i64 z), h) := fun h => callZ rfl (by kernel_rfl) (by kernel_rfl) (s79_0 (k0 := by rw [l1]; exact hz h) ..)
  exact ⟨_, fun h => callZ rfl (by kernel_rfl) (by kernel_rfl) (s65_0 (k0 := c h) ..)⟩

theorem ix80 (m : Int) (xs : List Ele) (hl : xs.length < 9223372036854775807) (hE : ∀ x, x ∈ xs → TB m 68 [.v (.agg (Ele.enc x))]) : ∀ (d i : Nat), i + d = xs.length →
    ∃ z : Int, ∀ h, blk (cxZ m) 80 (at_ Tryd.prog 80 2) [.v (.imm (xs.map Ele.enc)), .v (.fn 68 [] []), .v (.int .i64 (Int.ofNat xs.length)), .v (.int .i64 (Int.ofNat i))] h = some (.v (.int .i64 z), h)
  | 0, i, hd => ⟨_, fun h => s80_2_2 (k0 := ltZ_f (by rw [ofN, ofN]; omega)) ..⟩
  | d + 1, i, hd => by
    have hi : i < xs.length := by omega
    have hx : xs[i]? = some xs[i] := List.getElem?_eq_getElem hi
    have hm : xs[i] ∈ xs := List.getElem_mem hi
    generalize xs[i] = x at hx hm
    have k0 : ltZ (Int.ofNat i) (Int.ofNat xs.length) = true := ltZ_t (by rw [ofN, ofN]; omega)
    have k1 : ixA (.imm (xs.map Ele.enc)) (Int.ofNat i) 10 = some (Ele.enc x) := by exact ix_map (f := Ele.enc) hx (Ele.enc_len _)
    obtain ⟨r, hr⟩ := hE x hm
    obtain ⟨z, hz⟩ := ix80 m xs hl hE d (i + 1) (by omega)
    obtain ⟨⟨o, a, b, v, t, l, bd, el, q⟩, f⟩ := x; cases r with
    | true => exact ⟨_, fun h => s80_2_0 (k0 := k0) (k1 := k1) (k2 := callV_fn.trans (hr h)) (k3 := rfl) ..⟩
    | false => exact ⟨z, fun h => s80_2_1 (k0 := k0) (k1 := k1) (k2 := callV_fn.trans (hr h)) (k3 := rfl) (k4 := by rw [wrapS (by omega)]; exact hz h) ..⟩
theorem t67 (m : Int) (xs : List Ele) (hl : xs.length < 9223372036854775807) (hE : ∀ x, x ∈ xs → TB m 68 [.v (.agg (Ele.enc x))]) : TB m 67 [.v (.imm (xs.map Ele.enc)), .v (.fn 68 [] [])] := by
  obtain ⟨z, hz⟩ := ix80 m xs hl hE xs.length 0 (by omega)
  have l1 : (xs.map Ele.enc).length = xs.length := by simp
  have c : ∀ h, CALL m 80 [.v (.imm (xs.map Ele.enc)), .v (.fn 68 [] [])] h = some (.v (.int .i64 z), h) := fun h => callZ rfl (by kernel_rfl) (by kernel_rfl) (s80_0 (k0 := by rw [l1]; exact hz h) ..)
  exact ⟨_, fun h => callZ rfl (by kernel_rfl) (by kernel_rfl) (s67_0 (k0 := c h) ..)⟩

theorem ix81 (m : Int) (xs : List Dat) (hl : xs.length < 9223372036854775807) (hE : ∀ x, x ∈ xs → TB m 70 [.v (.agg (Dat.enc x))]) : ∀ (d i : Nat), i + d = xs.length →
    ∃ z : Int, ∀ h, blk (cxZ m) 81 (at_ Tryd.prog 81 2) [.v (.imm (xs.map Dat.enc)), .v (.fn 70 [] []), .v (.int .i64 (Int.ofNat xs.length)), .v (.int .i64 (Int.ofNat i))] h = some (.v (.int .i64 z), h)
  | 0, i, hd => ⟨_, fun h => s81_2_2 (k0 := ltZ_f (by rw [ofN, ofN]; omega)) ..⟩
  | d + 1, i, hd => by
    have hi : i < xs.length := by omega
    have hx : xs[i]? = some xs[i] := List.getElem?_eq_getElem hi
    have hm : xs[i] ∈ xs := List.getElem_mem hi
    generalize xs[i] = x at hx hm
    have k0 : ltZ (Int.ofNat i) (Int.ofNat xs.length) = true := ltZ_t (by rw [ofN, ofN]; omega)
    have k1 : ixA (.imm (xs.map Dat.enc)) (Int.ofNat i) 10 = some (Dat.enc x) := by exact ix_map (f := Dat.enc) hx (Dat.enc_len _)
    obtain ⟨r, hr⟩ := hE x hm
    obtain ⟨z, hz⟩ := ix81 m xs hl hE d (i + 1) (by omega)
    obtain ⟨⟨o, a, b, v, t, l, bd, el, q⟩, f⟩ := x; cases r with
    | true => exact ⟨_, fun h => s81_2_0 (k0 := k0) (k1 := k1) (k2 := callV_fn.trans (hr h)) (k3 := rfl) ..⟩
    | false => exact ⟨z, fun h => s81_2_1 (k0 := k0) (k1 := k1) (k2 := callV_fn.trans (hr h)) (k3 := rfl) (k4 := by rw [wrapS (by omega)]; exact hz h) ..⟩
theorem t69 (m : Int) (xs : List Dat) (hl : xs.length < 9223372036854775807) (hE : ∀ x, x ∈ xs → TB m 70 [.v (.agg (Dat.enc x))]) : TB m 69 [.v (.imm (xs.map Dat.enc)), .v (.fn 70 [] [])] := by
  obtain ⟨z, hz⟩ := ix81 m xs hl hE xs.length 0 (by omega)
  have l1 : (xs.map Dat.enc).length = xs.length := by simp
  have c : ∀ h, CALL m 81 [.v (.imm (xs.map Dat.enc)), .v (.fn 70 [] [])] h = some (.v (.int .i64 z), h) := fun h => callZ rfl (by kernel_rfl) (by kernel_rfl) (s81_0 (k0 := by rw [l1]; exact hz h) ..)
  exact ⟨_, fun h => callZ rfl (by kernel_rfl) (by kernel_rfl) (s69_0 (k0 := c h) ..)⟩

theorem t49 (m : Int) (M : Mdl) : TB m 49 [eM M] := by
  cases e : leZ (Int.ofNat (M.ty.map FTy.enc).length) (Int.ofNat 64) with
  | true => exact ⟨_, fun h => callZ rfl (by kernel_rfl) (by kernel_rfl) (s49_0 (k0 := e) ..)⟩
  | false => exact ⟨_, fun h => callZ rfl (by kernel_rfl) (by kernel_rfl) (s49_1 (k0 := e) ..)⟩

theorem t51 (m : Int) {M : Mdl} (hM : M.Fit) : TB m 51 [eM M] := by
  obtain ⟨q1, c1⟩ := t61 m M.im (hM.2.1.lt (by decide)) fun x _ => t62 m x
  obtain ⟨q2, c2⟩ := t63 m M.ex (hM.2.2.2.2.2.2.1.lt (by decide)) fun x _ => t64 m x
  obtain ⟨q3, c3⟩ := t65 m M.cu (hM.2.2.2.2.2.2.2.2.2.2.lt (by decide)) fun x _ => t66 m x
  cases q1 with
  | true => exact ⟨_, fun h => callZ rfl (by kernel_rfl) (by kernel_rfl) (s51_0 (k0 := c1 h) (k1 := rfl) ..)⟩
  | false =>
    cases q2 with
    | true => exact ⟨_, fun h => callZ rfl (by kernel_rfl) (by kernel_rfl) (s51_2 (k0 := c1 h) (k1 := rfl) (k2 := c2 h) (k3 := rfl) ..)⟩
    | false => exact ⟨_, fun h => callZ rfl (by kernel_rfl) (by kernel_rfl) (s51_1 (k0 := c1 h) (k1 := rfl) (k2 := c2 h) (k3 := rfl) (k4 := c3 h) ..)⟩
theorem t52 (m : Int) {M : Mdl} (hM : M.Fit) : TB m 52 [eM M] := by
  obtain ⟨q1, c1⟩ := t67 m M.el (hM.2.2.2.2.2.2.2.2.1.lt (by decide)) fun x hx => t68 m (hM.2.2.2.2.2.2.2.2.1.2 x hx)
  obtain ⟨q2, c2⟩ := t69 m M.da (hM.2.2.2.2.2.2.2.2.2.1.lt (by decide)) fun x hx => t70 m (hM.2.2.2.2.2.2.2.2.2.1.2 x hx)
  cases q1 with
  | true => exact ⟨_, fun h => callZ rfl (by kernel_rfl) (by kernel_rfl) (s52_1 (k0 := c1 h) (k1 := rfl) ..)⟩
  | false => exact ⟨_, fun h => callZ rfl (by kernel_rfl) (by kernel_rfl) (s52_0 (k0 := c1 h) (k1 := rfl) (k2 := c2 h) ..)⟩

theorem loop19_16 (m : Int) {M : Mdl} (hM : M.Fit) : ∀ (d i : Nat), i + d = M.gl.length → ∃ q : Bool, ∀ h, blk (cxZ m) 19 (at_ Tryd.prog 19 16) [.lp 0 0, .v (.imm (M.gl.map Glo.enc)), .v (.int .i64 (Int.ofNat M.gl.length)), .v (.int .i64 (Int.ofNat i)), .v (.imm (M.ty.map FTy.enc)), .v (.imm (M.im.map Imp.enc)), .v (.imm (M.fu.map MFn.enc)), .v (.imm (M.ta.map Lim.enc)), .v (.imm (M.me.map Lim.enc)), .v (.imm (M.gl.map Glo.enc)), .v (.imm (M.ex.map Exq.enc)), .v (.int .i64 M.st), .v (.imm (M.el.map Ele.enc)), .v (.imm (M.da.map Dat.enc)), .v (.imm (M.cu.map Cus.enc))] h = some (.v (.bool q), h)
  | 0, i, hd => by
    obtain ⟨q1, c1⟩ := t51 m hM
    obtain ⟨q2, c2⟩ := t52 m hM
    have k0 : ltZ (Int.ofNat i) (Int.ofNat M.gl.length) = false := ltZ_f (by rw [ofN, ofN]; omega)
    cases q1 with
    | true => exact ⟨_, fun h => s19_16_2 (k0 := k0) (k1 := c1 h) (k2 := rfl) (k3 := c2 h) ..⟩
    | false => exact ⟨_, fun h => s19_16_3 (k0 := k0) (k1 := c1 h) (k2 := rfl) ..⟩
  | d + 1, i, hd => by
    have hi : i < M.gl.length := by omega
    have hx : M.gl[i]? = some M.gl[i] := List.getElem?_eq_getElem hi
    have hm : M.gl[i] ∈ M.gl := List.getElem_mem hi
    generalize M.gl[i] = x at hx hm
    have hb := hM.2.2.2.2.2.1.1
    rw [reach_eq] at hb
    have hf := hM.2.2.2.2.2.1.2 x hm
    have k0 : ltZ (Int.ofNat i) (Int.ofNat M.gl.length) = true := ltZ_t (by rw [ofN, ofN]; omega)
    have k1 : ixA (.imm (M.gl.map Glo.enc)) (Int.ofNat i) 11 = some (Glo.enc x) := ix_map (f := Glo.enc) hx (Glo.enc_len _)
    obtain ⟨q, hq⟩ := loop19_16 m hM d (i + 1) (by omega)
    obtain ⟨q2, c2⟩ := t50_one m hf.2
    obtain ⟨gt, gm, ⟨o, a, b, v, t, l, bd, el, r⟩⟩ := x
    cases q2 with
    | false => exact ⟨_, fun h => s19_16_0 (k0 := k0) (k1 := k1) (k2 := c2 h) (k3 := rfl) ..⟩
    | true => exact ⟨q, fun h => s19_16_1 (k0 := k0) (k1 := k1) (k2 := c2 h) (k3 := rfl) (k4 := by rw [wrapS (by omega)]; exact hq h) ..⟩

theorem loop19_10 (m : Int) {M : Mdl} (hM : M.Fit) : ∀ (d i : Nat), i + d = M.fu.length → ∃ q : Bool, ∀ h, blk (cxZ m) 19 (at_ Tryd.prog 19 10) [.lp 0 0, .v (.imm (M.fu.map MFn.enc)), .v (.int .i64 (Int.ofNat M.fu.length)), .v (.int .i64 (Int.ofNat i)), .v (.imm (M.ty.map FTy.enc)), .v (.imm (M.im.map Imp.enc)), .v (.imm (M.fu.map MFn.enc)), .v (.imm (M.ta.map Lim.enc)), .v (.imm (M.me.map Lim.enc)), .v (.imm (M.gl.map Glo.enc)), .v (.imm (M.ex.map Exq.enc)), .v (.int .i64 M.st), .v (.imm (M.el.map Ele.enc)), .v (.imm (M.da.map Dat.enc)), .v (.imm (M.cu.map Cus.enc))] h = some (.v (.bool q), h)
  | 0, i, hd => by
    have k0 : ltZ (Int.ofNat i) (Int.ofNat M.fu.length) = false := ltZ_f (by rw [ofN, ofN]; omega)
    obtain ⟨q, hq⟩ := loop19_16 m hM M.gl.length 0 (by omega)
    exact ⟨q, fun h => s19_10_3 (k0 := k0) (k1 := by rw [List.length_map]; exact hq h) ..⟩
  | d + 1, i, hd => by
    have hi : i < M.fu.length := by omega
    have hx : M.fu[i]? = some M.fu[i] := List.getElem?_eq_getElem hi
    have hm : M.fu[i] ∈ M.fu := List.getElem_mem hi
    generalize M.fu[i] = x at hx hm
    have hb := hM.2.2.1.1
    rw [reach_eq] at hb
    have hf := hM.2.2.1.2 x hm
    have k0 : ltZ (Int.ofNat i) (Int.ofNat M.fu.length) = true := ltZ_t (by rw [ofN, ofN]; omega)
    have k1 : ixA (.imm (M.fu.map MFn.enc)) (Int.ofNat i) 3 = some (MFn.enc x) := ix_map (f := MFn.enc) hx (MFn.enc_len _)
    obtain ⟨q, hq⟩ := loop19_10 m hM d (i + 1) (by omega)
    obtain ⟨q2, c2⟩ := t50 m x.b hf.2.2
    cases e1 : ltZ (Int.ofNat 64) (Int.ofNat (encN x.l).length) with
    | true => exact ⟨_, fun h => s19_10_0 (k0 := k0) (k1 := k1) (k2 := e1) ..⟩
    | false =>
      cases q2 with
      | false => exact ⟨_, fun h => s19_10_1 (k0 := k0) (k1 := k1) (k2 := e1) (k3 := c2 h) (k4 := rfl) ..⟩
      | true => exact ⟨q, fun h => s19_10_2 (k0 := k0) (k1 := k1) (k2 := e1) (k3 := c2 h) (k4 := rfl) (k5 := by rw [wrapS (by omega)]; exact hq h) ..⟩

theorem loop19_4 (m : Int) {M : Mdl} (hM : M.Fit) : ∀ (d i : Nat), i + d = M.ty.length → ∃ q : Bool, ∀ h, blk (cxZ m) 19 (at_ Tryd.prog 19 4) [.lp 0 0, .v (.imm (M.ty.map FTy.enc)), .v (.int .i64 (Int.ofNat M.ty.length)), .v (.int .i64 (Int.ofNat i)), .v (.imm (M.ty.map FTy.enc)), .v (.imm (M.im.map Imp.enc)), .v (.imm (M.fu.map MFn.enc)), .v (.imm (M.ta.map Lim.enc)), .v (.imm (M.me.map Lim.enc)), .v (.imm (M.gl.map Glo.enc)), .v (.imm (M.ex.map Exq.enc)), .v (.int .i64 M.st), .v (.imm (M.el.map Ele.enc)), .v (.imm (M.da.map Dat.enc)), .v (.imm (M.cu.map Cus.enc))] h = some (.v (.bool q), h)
  | 0, i, hd => by
    have k0 : ltZ (Int.ofNat i) (Int.ofNat M.ty.length) = false := ltZ_f (by rw [ofN, ofN]; omega)
    obtain ⟨q, hq⟩ := loop19_10 m hM M.fu.length 0 (by omega)
    exact ⟨q, fun h => s19_4_3 (k0 := k0) (k1 := by rw [List.length_map]; exact hq h) ..⟩
  | d + 1, i, hd => by
    have hi : i < M.ty.length := by omega
    have hx : M.ty[i]? = some M.ty[i] := List.getElem?_eq_getElem hi
    have hm : M.ty[i] ∈ M.ty := List.getElem_mem hi
    generalize M.ty[i] = x at hx hm
    have hb := hM.1.1
    rw [reach_eq] at hb
    have hf := hM.1.2 x hm
    have k0 : ltZ (Int.ofNat i) (Int.ofNat M.ty.length) = true := ltZ_t (by rw [ofN, ofN]; omega)
    have k1 : ixA (.imm (M.ty.map FTy.enc)) (Int.ofNat i) 2 = some (FTy.enc x) := ix_map (f := FTy.enc) hx (FTy.enc_len _)
    obtain ⟨q, hq⟩ := loop19_4 m hM d (i + 1) (by omega)
    cases e1 : ltZ (Int.ofNat 64) (Int.ofNat (encN x.p).length) with
    | true => exact ⟨_, fun h => s19_4_0 (k0 := k0) (k1 := k1) (k2 := e1) ..⟩
    | false =>
      cases e2 : ltZ (Int.ofNat 64) (Int.ofNat (encN x.r).length) with
      | true => exact ⟨_, fun h => s19_4_1 (k0 := k0) (k1 := k1) (k2 := e1) (k3 := e2) ..⟩
      | false => exact ⟨q, fun h => s19_4_2 (k0 := k0) (k1 := k1) (k2 := e1) (k3 := e2) (k4 := by rw [wrapS (by omega)]; exact hq h) ..⟩

theorem t19 (m : Int) {M : Mdl} (hM : M.Fit) : TB m 19 [eM M] := by
  obtain ⟨q1, c1⟩ := t49 m M
  cases q1 with
  | false => exact ⟨_, fun h => callZ rfl (by kernel_rfl) (by kernel_rfl) (s19_0 (k0 := c1 h) (k1 := rfl) ..)⟩
  | true =>
    obtain ⟨q, hq⟩ := loop19_4 m hM M.ty.length 0 (by omega)
    exact ⟨q, fun h => callZ rfl (by kernel_rfl) (by kernel_rfl) (s19_1 (k0 := c1 h) (k1 := rfl) (k2 := by rw [List.length_map]; exact hq h) ..)⟩
end Go.Proofs.YtmgjnbhofkchmaaDoor
