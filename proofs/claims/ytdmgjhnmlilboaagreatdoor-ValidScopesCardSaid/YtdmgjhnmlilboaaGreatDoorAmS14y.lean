/-
  The document's spaces, and what both tell of functions and globals.
-/
import Derived.Test.YtdmgjhnmlilboaaGreatDoorAmS14b
import Derived.KernelRfl
import Derived.Test.YtdmgjhnmlilboaaGreatDoorAmS14x
/-
  Ways through texts, one by one (printed by a program of this repo).
-/
namespace Go.Proofs.YtdmgjhnmlilboaaGreatDoor
open Go Go.Proofs.Am
theorem s14_0 (m : Int) (ty im fu ta me gl ex el da cu : List (List AV)) (st : Int) (i : Int) (h : Heap) (x1_1 : List (List AV)) (x1_1h : Heap) (k0 : callF (cxZ m) (blk (cxZ m)) 17 [LV.v (AV.agg [AV.imm ty, AV.imm im, AV.imm fu, AV.imm ta, AV.imm me, AV.imm gl, AV.imm ex, AV.int IntKind.i64 st, AV.imm el, AV.imm da, AV.imm cu]), LV.v (AV.int IntKind.i64 (Int.ofNat 0))] h = some (LV.v (AV.imm x1_1), x1_1h)) (k1 : ltZ i (Int.ofNat 0) = true) :
    blk (cxZ m) 18 (body_ Tryz.prog 18) [.v (.agg [.imm ty, .imm im, .imm fu, .imm ta, .imm me, .imm gl, .imm ex, .int .i64 st, .imm el, .imm da, .imm cu]), .v (.int .i64 i)] h = some ((LV.v (AV.int IntKind.i64 (Int.negSucc 0)), x1_1h)) :=
  blk_via (scr := ⟨fun x => match x with | 11 => some true | _ => none, fun _ _ => none, fun x y => match x, y with | 1, 1 => some (LV.v (AV.imm x1_1), x1_1h) | _, _ => none, false⟩) (p := callF (cxZ m) (blk (cxZ m)) 17 [LV.v (AV.agg [AV.imm ty, AV.imm im, AV.imm fu, AV.imm ta, AV.imm me, AV.imm gl, AV.imm ex, AV.int IntKind.i64 st, AV.imm el, AV.imm da, AV.imm cu]), LV.v (AV.int IntKind.i64 (Int.ofNat 0))] h = some (LV.v (AV.imm x1_1), x1_1h) ∧ some (ltZ i (Int.ofNat 0)) = some true ∧ some true = some true ∧ some true = some true ∧ some true = some true ∧ some true = some true ∧ some (LV.v (AV.int IntKind.i64 (Int.negSucc 0)), x1_1h) = some ((LV.v (AV.int IntKind.i64 (Int.negSucc 0)), x1_1h))) (by kernel_rfl) ⟨k0, ⟨congrArg some k1, ⟨rfl, ⟨rfl, ⟨rfl, ⟨rfl, rfl⟩⟩⟩⟩⟩⟩

theorem s14_1 (m : Int) (ty im fu ta me gl ex el da cu : List (List AV)) (st : Int) (i : Int) (h : Heap) (x1_1 : List (List AV)) (x1_1h : Heap) (k0 : callF (cxZ m) (blk (cxZ m)) 17 [LV.v (AV.agg [AV.imm ty, AV.imm im, AV.imm fu, AV.imm ta, AV.imm me, AV.imm gl, AV.imm ex, AV.int IntKind.i64 st, AV.imm el, AV.imm da, AV.imm cu]), LV.v (AV.int IntKind.i64 (Int.ofNat 0))] h = some (LV.v (AV.imm x1_1), x1_1h)) (k1 : ltZ i (Int.ofNat 0) = false) (k2 : leZ (Int.ofNat (List.length x1_1)) i = true) :
    blk (cxZ m) 18 (body_ Tryz.prog 18) [.v (.agg [.imm ty, .imm im, .imm fu, .imm ta, .imm me, .imm gl, .imm ex, .int .i64 st, .imm el, .imm da, .imm cu]), .v (.int .i64 i)] h = some ((LV.v (AV.int IntKind.i64 (Int.negSucc 0)), x1_1h)) :=
  blk_via (scr := ⟨fun x => match x with | 11 => some false | 16 => some true | _ => none, fun _ _ => none, fun x y => match x, y with | 1, 1 => some (LV.v (AV.imm x1_1), x1_1h) | _, _ => none, false⟩) (p := callF (cxZ m) (blk (cxZ m)) 17 [LV.v (AV.agg [AV.imm ty, AV.imm im, AV.imm fu, AV.imm ta, AV.imm me, AV.imm gl, AV.imm ex, AV.int IntKind.i64 st, AV.imm el, AV.imm da, AV.imm cu]), LV.v (AV.int IntKind.i64 (Int.ofNat 0))] h = some (LV.v (AV.imm x1_1), x1_1h) ∧ some (ltZ i (Int.ofNat 0)) = some false ∧ some false = some false ∧ some false = some false ∧ some false = some false ∧ some false = some false ∧ some (leZ (Int.ofNat (List.length x1_1)) i) = some true ∧ some (LV.v (AV.int IntKind.i64 (Int.negSucc 0)), x1_1h) = some ((LV.v (AV.int IntKind.i64 (Int.negSucc 0)), x1_1h))) (by kernel_rfl) ⟨k0, ⟨congrArg some k1, ⟨rfl, ⟨rfl, ⟨rfl, ⟨rfl, ⟨congrArg some k2, rfl⟩⟩⟩⟩⟩⟩⟩

theorem s14_2 (m : Int) (ty im fu ta me gl ex el da cu : List (List AV)) (st : Int) (i : Int) (h : Heap) (x1_1 : List (List AV)) (x1_1h : Heap) (x5_2_0 : Int) (x6_4_0 : Int) (x6_6_0 : ByteArray) (x6_6_1 : ByteArray) (x6_6_2 : Int) (x6_6_3 : Int) (x6_6_4 : Bool) (x6_6_5 : Int) (x6_6_6 : Int) (x6_6_7 : Bool) (k0 : callF (cxZ m) (blk (cxZ m)) 17 [LV.v (AV.agg [AV.imm ty, AV.imm im, AV.imm fu, AV.imm ta, AV.imm me, AV.imm gl, AV.imm ex, AV.int IntKind.i64 st, AV.imm el, AV.imm da, AV.imm cu]), LV.v (AV.int IntKind.i64 (Int.ofNat 0))] h = some (LV.v (AV.imm x1_1), x1_1h)) (k1 : ltZ i (Int.ofNat 0) = false) (k2 : leZ (Int.ofNat (List.length x1_1)) i = false) (k3 : ixA (AV.imm x1_1) i 1 = some [AV.int IntKind.i64 x5_2_0]) (k4 : leZ (Int.ofNat 0) x5_2_0 = true) (k5 : ixA (AV.imm x1_1) i 1 = some [AV.int IntKind.i64 x6_4_0]) (k6 : ixA (AV.imm im) x6_4_0 8 = some [AV.str x6_6_0, AV.str x6_6_1, AV.int IntKind.i64 x6_6_2, AV.int IntKind.i64 x6_6_3, AV.bool x6_6_4, AV.int IntKind.i64 x6_6_5, AV.int IntKind.i64 x6_6_6, AV.bool x6_6_7]) (k7 : ltZ x6_6_3 (Int.ofNat 0) = true) :
    blk (cxZ m) 18 (body_ Tryz.prog 18) [.v (.agg [.imm ty, .imm im, .imm fu, .imm ta, .imm me, .imm gl, .imm ex, .int .i64 st, .imm el, .imm da, .imm cu]), .v (.int .i64 i)] h = some ((LV.v (AV.int IntKind.i64 (Int.negSucc 0)), x1_1h)) :=
  blk_via (scr := ⟨fun x => match x with | 11 => some false | 16 => some false | 21 => some true | 43 => some true | _ => none, fun x y => match x, y with | 5, 2 => some (LV.v (AV.snap [(AV.int Go.IntKind.i64 x5_2_0)])) | 6, 4 => some (LV.v (AV.snap [(AV.int Go.IntKind.i64 x6_4_0)])) | 6, 6 => some (LV.v (AV.snap [(AV.str x6_6_0), (AV.str x6_6_1), (AV.int Go.IntKind.i64 x6_6_2), (AV.int Go.IntKind.i64 x6_6_3), (AV.bool x6_6_4), (AV.int Go.IntKind.i64 x6_6_5), (AV.int Go.IntKind.i64 x6_6_6), (AV.bool x6_6_7)])) | _, _ => none, fun x y => match x, y with | 1, 1 => some (LV.v (AV.imm x1_1), x1_1h) | _, _ => none, false⟩) (p := callF (cxZ m) (blk (cxZ m)) 17 [LV.v (AV.agg [AV.imm ty, AV.imm im, AV.imm fu, AV.imm ta, AV.imm me, AV.imm gl, AV.imm ex, AV.int IntKind.i64 st, AV.imm el, AV.imm da, AV.imm cu]), LV.v (AV.int IntKind.i64 (Int.ofNat 0))] h = some (LV.v (AV.imm x1_1), x1_1h) ∧ some (ltZ i (Int.ofNat 0)) = some false ∧ some false = some false ∧ some false = some false ∧ some false = some false ∧ some false = some false ∧ some (leZ (Int.ofNat (List.length x1_1)) i) = some false ∧ (false = false ∧ (none : Option Nat) = none ∧ ixA (AV.imm x1_1) i 1 = some [AV.int IntKind.i64 x5_2_0]) ∧ some (leZ (Int.ofNat 0) x5_2_0) = some true ∧ (false = false ∧ (none : Option Nat) = none ∧ ixA (AV.imm x1_1) i 1 = some [AV.int IntKind.i64 x6_4_0]) ∧ (false = false ∧ (none : Option Nat) = none ∧ ixA (AV.imm im) x6_4_0 8 = some [AV.str x6_6_0, AV.str x6_6_1, AV.int IntKind.i64 x6_6_2, AV.int IntKind.i64 x6_6_3, AV.bool x6_6_4, AV.int IntKind.i64 x6_6_5, AV.int IntKind.i64 x6_6_6, AV.bool x6_6_7]) ∧ some (ltZ x6_6_3 (Int.ofNat 0)) = some true ∧ some true = some true ∧ some true = some true ∧ some true = some true ∧ some true = some true ∧ some true = some true ∧ some (LV.v (AV.int IntKind.i64 (Int.negSucc 0)), x1_1h) = some ((LV.v (AV.int IntKind.i64 (Int.negSucc 0)), x1_1h))) (by kernel_rfl) ⟨k0, ⟨congrArg some k1, ⟨rfl, ⟨rfl, ⟨rfl, ⟨rfl, ⟨congrArg some k2, ⟨⟨rfl, ⟨rfl, k3⟩⟩, ⟨congrArg some k4, ⟨⟨rfl, ⟨rfl, k5⟩⟩, ⟨⟨rfl, ⟨rfl, k6⟩⟩, ⟨congrArg some k7, ⟨rfl, ⟨rfl, ⟨rfl, ⟨rfl, ⟨rfl, rfl⟩⟩⟩⟩⟩⟩⟩⟩⟩⟩⟩⟩⟩⟩⟩⟩⟩

theorem s14_3 (m : Int) (ty im fu ta me gl ex el da cu : List (List AV)) (st : Int) (i : Int) (h : Heap) (x1_1 : List (List AV)) (x1_1h : Heap) (x5_2_0 : Int) (x6_4_0 : Int) (x6_6_0 : ByteArray) (x6_6_1 : ByteArray) (x6_6_2 : Int) (x6_6_3 : Int) (x6_6_4 : Bool) (x6_6_5 : Int) (x6_6_6 : Int) (x6_6_7 : Bool) (k0 : callF (cxZ m) (blk (cxZ m)) 17 [LV.v (AV.agg [AV.imm ty, AV.imm im, AV.imm fu, AV.imm ta, AV.imm me, AV.imm gl, AV.imm ex, AV.int IntKind.i64 st, AV.imm el, AV.imm da, AV.imm cu]), LV.v (AV.int IntKind.i64 (Int.ofNat 0))] h = some (LV.v (AV.imm x1_1), x1_1h)) (k1 : ltZ i (Int.ofNat 0) = false) (k2 : leZ (Int.ofNat (List.length x1_1)) i = false) (k3 : ixA (AV.imm x1_1) i 1 = some [AV.int IntKind.i64 x5_2_0]) (k4 : leZ (Int.ofNat 0) x5_2_0 = true) (k5 : ixA (AV.imm x1_1) i 1 = some [AV.int IntKind.i64 x6_4_0]) (k6 : ixA (AV.imm im) x6_4_0 8 = some [AV.str x6_6_0, AV.str x6_6_1, AV.int IntKind.i64 x6_6_2, AV.int IntKind.i64 x6_6_3, AV.bool x6_6_4, AV.int IntKind.i64 x6_6_5, AV.int IntKind.i64 x6_6_6, AV.bool x6_6_7]) (k7 : ltZ x6_6_3 (Int.ofNat 0) = false) (k8 : leZ (Int.ofNat (List.length ty)) x6_6_3 = true) :
    blk (cxZ m) 18 (body_ Tryz.prog 18) [.v (.agg [.imm ty, .imm im, .imm fu, .imm ta, .imm me, .imm gl, .imm ex, .int .i64 st, .imm el, .imm da, .imm cu]), .v (.int .i64 i)] h = some ((LV.v (AV.int IntKind.i64 (Int.negSucc 0)), x1_1h)) :=
  blk_via (scr := ⟨fun x => match x with | 11 => some false | 16 => some false | 21 => some true | 43 => some false | 49 => some true | _ => none, fun x y => match x, y with | 5, 2 => some (LV.v (AV.snap [(AV.int Go.IntKind.i64 x5_2_0)])) | 6, 4 => some (LV.v (AV.snap [(AV.int Go.IntKind.i64 x6_4_0)])) | 6, 6 => some (LV.v (AV.snap [(AV.str x6_6_0), (AV.str x6_6_1), (AV.int Go.IntKind.i64 x6_6_2), (AV.int Go.IntKind.i64 x6_6_3), (AV.bool x6_6_4), (AV.int Go.IntKind.i64 x6_6_5), (AV.int Go.IntKind.i64 x6_6_6), (AV.bool x6_6_7)])) | _, _ => none, fun x y => match x, y with | 1, 1 => some (LV.v (AV.imm x1_1), x1_1h) | _, _ => none, false⟩) (p := callF (cxZ m) (blk (cxZ m)) 17 [LV.v (AV.agg [AV.imm ty, AV.imm im, AV.imm fu, AV.imm ta, AV.imm me, AV.imm gl, AV.imm ex, AV.int IntKind.i64 st, AV.imm el, AV.imm da, AV.imm cu]), LV.v (AV.int IntKind.i64 (Int.ofNat 0))] h = some (LV.v (AV.imm x1_1), x1_1h) ∧ some (ltZ i (Int.ofNat 0)) = some false ∧ some false = some false ∧ some false = some false ∧ some false = some false ∧ some false = some false ∧ some (leZ (Int.ofNat (List.length x1_1)) i) = some false ∧ (false = false ∧ (none : Option Nat) = none ∧ ixA (AV.imm x1_1) i 1 = some [AV.int IntKind.i64 x5_2_0]) ∧ some (leZ (Int.ofNat 0) x5_2_0) = some true ∧ (false = false ∧ (none : Option Nat) = none ∧ ixA (AV.imm x1_1) i 1 = some [AV.int IntKind.i64 x6_4_0]) ∧ (false = false ∧ (none : Option Nat) = none ∧ ixA (AV.imm im) x6_4_0 8 = some [AV.str x6_6_0, AV.str x6_6_1, AV.int IntKind.i64 x6_6_2, AV.int IntKind.i64 x6_6_3, AV.bool x6_6_4, AV.int IntKind.i64 x6_6_5, AV.int IntKind.i64 x6_6_6, AV.bool x6_6_7]) ∧ some (ltZ x6_6_3 (Int.ofNat 0)) = some false ∧ some false = some false ∧ some false = some false ∧ some false = some false ∧ some false = some false ∧ some false = some false ∧ some (leZ (Int.ofNat (List.length ty)) x6_6_3) = some true ∧ some (LV.v (AV.int IntKind.i64 (Int.negSucc 0)), x1_1h) = some ((LV.v (AV.int IntKind.i64 (Int.negSucc 0)), x1_1h))) (by kernel_rfl) ⟨k0, ⟨congrArg some k1, ⟨rfl, ⟨rfl, ⟨rfl, ⟨rfl, ⟨congrArg some k2, ⟨⟨rfl, ⟨rfl, k3⟩⟩, ⟨congrArg some k4, ⟨⟨rfl, ⟨rfl, k5⟩⟩, ⟨⟨rfl, ⟨rfl, k6⟩⟩, ⟨congrArg some k7, ⟨rfl, ⟨rfl, ⟨rfl, ⟨rfl, ⟨rfl, ⟨congrArg some k8, rfl⟩⟩⟩⟩⟩⟩⟩⟩⟩⟩⟩⟩⟩⟩⟩⟩⟩⟩

theorem s14_4 (m : Int) (ty im fu ta me gl ex el da cu : List (List AV)) (st : Int) (i : Int) (h : Heap) (x1_1 : List (List AV)) (x1_1h : Heap) (x5_2_0 : Int) (x6_4_0 : Int) (x6_6_0 : ByteArray) (x6_6_1 : ByteArray) (x6_6_2 : Int) (x6_6_3 : Int) (x6_6_4 : Bool) (x6_6_5 : Int) (x6_6_6 : Int) (x6_6_7 : Bool) (k0 : callF (cxZ m) (blk (cxZ m)) 17 [LV.v (AV.agg [AV.imm ty, AV.imm im, AV.imm fu, AV.imm ta, AV.imm me, AV.imm gl, AV.imm ex, AV.int IntKind.i64 st, AV.imm el, AV.imm da, AV.imm cu]), LV.v (AV.int IntKind.i64 (Int.ofNat 0))] h = some (LV.v (AV.imm x1_1), x1_1h)) (k1 : ltZ i (Int.ofNat 0) = false) (k2 : leZ (Int.ofNat (List.length x1_1)) i = false) (k3 : ixA (AV.imm x1_1) i 1 = some [AV.int IntKind.i64 x5_2_0]) (k4 : leZ (Int.ofNat 0) x5_2_0 = true) (k5 : ixA (AV.imm x1_1) i 1 = some [AV.int IntKind.i64 x6_4_0]) (k6 : ixA (AV.imm im) x6_4_0 8 = some [AV.str x6_6_0, AV.str x6_6_1, AV.int IntKind.i64 x6_6_2, AV.int IntKind.i64 x6_6_3, AV.bool x6_6_4, AV.int IntKind.i64 x6_6_5, AV.int IntKind.i64 x6_6_6, AV.bool x6_6_7]) (k7 : ltZ x6_6_3 (Int.ofNat 0) = false) (k8 : leZ (Int.ofNat (List.length ty)) x6_6_3 = false) :
    blk (cxZ m) 18 (body_ Tryz.prog 18) [.v (.agg [.imm ty, .imm im, .imm fu, .imm ta, .imm me, .imm gl, .imm ex, .int .i64 st, .imm el, .imm da, .imm cu]), .v (.int .i64 i)] h = some ((LV.v (AV.int IntKind.i64 x6_6_3), x1_1h)) :=
  blk_via (scr := ⟨fun x => match x with | 11 => some false | 16 => some false | 21 => some true | 43 => some false | 49 => some false | _ => none, fun x y => match x, y with | 5, 2 => some (LV.v (AV.snap [(AV.int Go.IntKind.i64 x5_2_0)])) | 6, 4 => some (LV.v (AV.snap [(AV.int Go.IntKind.i64 x6_4_0)])) | 6, 6 => some (LV.v (AV.snap [(AV.str x6_6_0), (AV.str x6_6_1), (AV.int Go.IntKind.i64 x6_6_2), (AV.int Go.IntKind.i64 x6_6_3), (AV.bool x6_6_4), (AV.int Go.IntKind.i64 x6_6_5), (AV.int Go.IntKind.i64 x6_6_6), (AV.bool x6_6_7)])) | _, _ => none, fun x y => match x, y with | 1, 1 => some (LV.v (AV.imm x1_1), x1_1h) | _, _ => none, false⟩) (p := callF (cxZ m) (blk (cxZ m)) 17 [LV.v (AV.agg [AV.imm ty, AV.imm im, AV.imm fu, AV.imm ta, AV.imm me, AV.imm gl, AV.imm ex, AV.int IntKind.i64 st, AV.imm el, AV.imm da, AV.imm cu]), LV.v (AV.int IntKind.i64 (Int.ofNat 0))] h = some (LV.v (AV.imm x1_1), x1_1h) ∧ some (ltZ i (Int.ofNat 0)) = some false ∧ some false = some false ∧ some false = some false ∧ some false = some false ∧ some false = some false ∧ some (leZ (Int.ofNat (List.length x1_1)) i) = some false ∧ (false = false ∧ (none : Option Nat) = none ∧ ixA (AV.imm x1_1) i 1 = some [AV.int IntKind.i64 x5_2_0]) ∧ some (leZ (Int.ofNat 0) x5_2_0) = some true ∧ (false = false ∧ (none : Option Nat) = none ∧ ixA (AV.imm x1_1) i 1 = some [AV.int IntKind.i64 x6_4_0]) ∧ (false = false ∧ (none : Option Nat) = none ∧ ixA (AV.imm im) x6_4_0 8 = some [AV.str x6_6_0, AV.str x6_6_1, AV.int IntKind.i64 x6_6_2, AV.int IntKind.i64 x6_6_3, AV.bool x6_6_4, AV.int IntKind.i64 x6_6_5, AV.int IntKind.i64 x6_6_6, AV.bool x6_6_7]) ∧ some (ltZ x6_6_3 (Int.ofNat 0)) = some false ∧ some false = some false ∧ some false = some false ∧ some false = some false ∧ some false = some false ∧ some false = some false ∧ some (leZ (Int.ofNat (List.length ty)) x6_6_3) = some false ∧ some (LV.v (AV.int IntKind.i64 x6_6_3), x1_1h) = some ((LV.v (AV.int IntKind.i64 x6_6_3), x1_1h))) (by kernel_rfl) ⟨k0, ⟨congrArg some k1, ⟨rfl, ⟨rfl, ⟨rfl, ⟨rfl, ⟨congrArg some k2, ⟨⟨rfl, ⟨rfl, k3⟩⟩, ⟨congrArg some k4, ⟨⟨rfl, ⟨rfl, k5⟩⟩, ⟨⟨rfl, ⟨rfl, k6⟩⟩, ⟨congrArg some k7, ⟨rfl, ⟨rfl, ⟨rfl, ⟨rfl, ⟨rfl, ⟨congrArg some k8, rfl⟩⟩⟩⟩⟩⟩⟩⟩⟩⟩⟩⟩⟩⟩⟩⟩⟩⟩

theorem s14_5 (m : Int) (ty im fu ta me gl ex el da cu : List (List AV)) (st : Int) (i : Int) (h : Heap) (x1_1 : List (List AV)) (x1_1h : Heap) (x5_2_0 : Int) (x7_4_0 : Int) (x7_7_0 : Int) (x7_7_1 : List (List AV)) (x7_7_2 : List (List AV)) (k0 : callF (cxZ m) (blk (cxZ m)) 17 [LV.v (AV.agg [AV.imm ty, AV.imm im, AV.imm fu, AV.imm ta, AV.imm me, AV.imm gl, AV.imm ex, AV.int IntKind.i64 st, AV.imm el, AV.imm da, AV.imm cu]), LV.v (AV.int IntKind.i64 (Int.ofNat 0))] h = some (LV.v (AV.imm x1_1), x1_1h)) (k1 : ltZ i (Int.ofNat 0) = false) (k2 : leZ (Int.ofNat (List.length x1_1)) i = false) (k3 : ixA (AV.imm x1_1) i 1 = some [AV.int IntKind.i64 x5_2_0]) (k4 : leZ (Int.ofNat 0) x5_2_0 = false) (k5 : ixA (AV.imm x1_1) i 1 = some [AV.int IntKind.i64 x7_4_0]) (k6 : ixA (AV.imm fu) (IntKind.wrap IntKind.i64 (Int.negSucc 0 - x7_4_0)) 3 = some [AV.int IntKind.i64 x7_7_0, AV.imm x7_7_1, AV.imm x7_7_2]) (k7 : ltZ x7_7_0 (Int.ofNat 0) = true) :
    blk (cxZ m) 18 (body_ Tryz.prog 18) [.v (.agg [.imm ty, .imm im, .imm fu, .imm ta, .imm me, .imm gl, .imm ex, .int .i64 st, .imm el, .imm da, .imm cu]), .v (.int .i64 i)] h = some ((LV.v (AV.int IntKind.i64 (Int.negSucc 0)), x1_1h)) :=
  blk_via (scr := ⟨fun x => match x with | 11 => some false | 16 => some false | 21 => some false | 43 => some true | _ => none, fun x y => match x, y with | 5, 2 => some (LV.v (AV.snap [(AV.int Go.IntKind.i64 x5_2_0)])) | 7, 4 => some (LV.v (AV.snap [(AV.int Go.IntKind.i64 x7_4_0)])) | 7, 7 => some (LV.v (AV.snap [(AV.int Go.IntKind.i64 x7_7_0), (AV.imm x7_7_1), (AV.imm x7_7_2)])) | _, _ => none, fun x y => match x, y with | 1, 1 => some (LV.v (AV.imm x1_1), x1_1h) | _, _ => none, false⟩) (p := callF (cxZ m) (blk (cxZ m)) 17 [LV.v (AV.agg [AV.imm ty, AV.imm im, AV.imm fu, AV.imm ta, AV.imm me, AV.imm gl, AV.imm ex, AV.int IntKind.i64 st, AV.imm el, AV.imm da, AV.imm cu]), LV.v (AV.int IntKind.i64 (Int.ofNat 0))] h = some (LV.v (AV.imm x1_1), x1_1h) ∧ some (ltZ i (Int.ofNat 0)) = some false ∧ some false = some false ∧ some false = some false ∧ some false = some false ∧ some false = some false ∧ some (leZ (Int.ofNat (List.length x1_1)) i) = some false ∧ (false = false ∧ (none : Option Nat) = none ∧ ixA (AV.imm x1_1) i 1 = some [AV.int IntKind.i64 x5_2_0]) ∧ some (leZ (Int.ofNat 0) x5_2_0) = some false ∧ (false = false ∧ (none : Option Nat) = none ∧ ixA (AV.imm x1_1) i 1 = some [AV.int IntKind.i64 x7_4_0]) ∧ (false = false ∧ (none : Option Nat) = none ∧ ixA (AV.imm fu) (IntKind.wrap IntKind.i64 (Int.negSucc 0 - x7_4_0)) 3 = some [AV.int IntKind.i64 x7_7_0, AV.imm x7_7_1, AV.imm x7_7_2]) ∧ some (ltZ x7_7_0 (Int.ofNat 0)) = some true ∧ some true = some true ∧ some true = some true ∧ some true = some true ∧ some true = some true ∧ some true = some true ∧ some (LV.v (AV.int IntKind.i64 (Int.negSucc 0)), x1_1h) = some ((LV.v (AV.int IntKind.i64 (Int.negSucc 0)), x1_1h))) (by kernel_rfl) ⟨k0, ⟨congrArg some k1, ⟨rfl, ⟨rfl, ⟨rfl, ⟨rfl, ⟨congrArg some k2, ⟨⟨rfl, ⟨rfl, k3⟩⟩, ⟨congrArg some k4, ⟨⟨rfl, ⟨rfl, k5⟩⟩, ⟨⟨rfl, ⟨rfl, k6⟩⟩, ⟨congrArg some k7, ⟨rfl, ⟨rfl, ⟨rfl, ⟨rfl, ⟨rfl, rfl⟩⟩⟩⟩⟩⟩⟩⟩⟩⟩⟩⟩⟩⟩⟩⟩⟩

theorem s14_6 (m : Int) (ty im fu ta me gl ex el da cu : List (List AV)) (st : Int) (i : Int) (h : Heap) (x1_1 : List (List AV)) (x1_1h : Heap) (x5_2_0 : Int) (x7_4_0 : Int) (x7_7_0 : Int) (x7_7_1 : List (List AV)) (x7_7_2 : List (List AV)) (k0 : callF (cxZ m) (blk (cxZ m)) 17 [LV.v (AV.agg [AV.imm ty, AV.imm im, AV.imm fu, AV.imm ta, AV.imm me, AV.imm gl, AV.imm ex, AV.int IntKind.i64 st, AV.imm el, AV.imm da, AV.imm cu]), LV.v (AV.int IntKind.i64 (Int.ofNat 0))] h = some (LV.v (AV.imm x1_1), x1_1h)) (k1 : ltZ i (Int.ofNat 0) = false) (k2 : leZ (Int.ofNat (List.length x1_1)) i = false) (k3 : ixA (AV.imm x1_1) i 1 = some [AV.int IntKind.i64 x5_2_0]) (k4 : leZ (Int.ofNat 0) x5_2_0 = false) (k5 : ixA (AV.imm x1_1) i 1 = some [AV.int IntKind.i64 x7_4_0]) (k6 : ixA (AV.imm fu) (IntKind.wrap IntKind.i64 (Int.negSucc 0 - x7_4_0)) 3 = some [AV.int IntKind.i64 x7_7_0, AV.imm x7_7_1, AV.imm x7_7_2]) (k7 : ltZ x7_7_0 (Int.ofNat 0) = false) (k8 : leZ (Int.ofNat (List.length ty)) x7_7_0 = true) :
    blk (cxZ m) 18 (body_ Tryz.prog 18) [.v (.agg [.imm ty, .imm im, .imm fu, .imm ta, .imm me, .imm gl, .imm ex, .int .i64 st, .imm el, .imm da, .imm cu]), .v (.int .i64 i)] h = some ((LV.v (AV.int IntKind.i64 (Int.negSucc 0)), x1_1h)) :=
  blk_via (scr := ⟨fun x => match x with | 11 => some false | 16 => some false | 21 => some false | 43 => some false | 49 => some true | _ => none, fun x y => match x, y with | 5, 2 => some (LV.v (AV.snap [(AV.int Go.IntKind.i64 x5_2_0)])) | 7, 4 => some (LV.v (AV.snap [(AV.int Go.IntKind.i64 x7_4_0)])) | 7, 7 => some (LV.v (AV.snap [(AV.int Go.IntKind.i64 x7_7_0), (AV.imm x7_7_1), (AV.imm x7_7_2)])) | _, _ => none, fun x y => match x, y with | 1, 1 => some (LV.v (AV.imm x1_1), x1_1h) | _, _ => none, false⟩) (p := callF (cxZ m) (blk (cxZ m)) 17 [LV.v (AV.agg [AV.imm ty, AV.imm im, AV.imm fu, AV.imm ta, AV.imm me, AV.imm gl, AV.imm ex, AV.int IntKind.i64 st, AV.imm el, AV.imm da, AV.imm cu]), LV.v (AV.int IntKind.i64 (Int.ofNat 0))] h = some (LV.v (AV.imm x1_1), x1_1h) ∧ some (ltZ i (Int.ofNat 0)) = some false ∧ some false = some false ∧ some false = some false ∧ some false = some false ∧ some false = some false ∧ some (leZ (Int.ofNat (List.length x1_1)) i) = some false ∧ (false = false ∧ (none : Option Nat) = none ∧ ixA (AV.imm x1_1) i 1 = some [AV.int IntKind.i64 x5_2_0]) ∧ some (leZ (Int.ofNat 0) x5_2_0) = some false ∧ (false = false ∧ (none : Option Nat) = none ∧ ixA (AV.imm x1_1) i 1 = some [AV.int IntKind.i64 x7_4_0]) ∧ (false = false ∧ (none : Option Nat) = none ∧ ixA (AV.imm fu) (IntKind.wrap IntKind.i64 (Int.negSucc 0 - x7_4_0)) 3 = some [AV.int IntKind.i64 x7_7_0, AV.imm x7_7_1, AV.imm x7_7_2]) ∧ some (ltZ x7_7_0 (Int.ofNat 0)) = some false ∧ some false = some false ∧ some false = some false ∧ some false = some false ∧ some false = some false ∧ some false = some false ∧ some (leZ (Int.ofNat (List.length ty)) x7_7_0) = some true ∧ some (LV.v (AV.int IntKind.i64 (Int.negSucc 0)), x1_1h) = some ((LV.v (AV.int IntKind.i64 (Int.negSucc 0)), x1_1h))) (by kernel_rfl) ⟨k0, ⟨congrArg some k1, ⟨rfl, ⟨rfl, ⟨rfl, ⟨rfl, ⟨congrArg some k2, ⟨⟨rfl, ⟨rfl, k3⟩⟩, ⟨congrArg some k4, ⟨⟨rfl, ⟨rfl, k5⟩⟩, ⟨⟨rfl, ⟨rfl, k6⟩⟩, ⟨congrArg some k7, ⟨rfl, ⟨rfl, ⟨rfl, ⟨rfl, ⟨rfl, ⟨congrArg some k8, rfl⟩⟩⟩⟩⟩⟩⟩⟩⟩⟩⟩⟩⟩⟩⟩⟩⟩⟩

theorem s14_7 (m : Int) (ty im fu ta me gl ex el da cu : List (List AV)) (st : Int) (i : Int) (h : Heap) (x1_1 : List (List AV)) (x1_1h : Heap) (x5_2_0 : Int) (x7_4_0 : Int) (x7_7_0 : Int) (x7_7_1 : List (List AV)) (x7_7_2 : List (List AV)) (k0 : callF (cxZ m) (blk (cxZ m)) 17 [LV.v (AV.agg [AV.imm ty, AV.imm im, AV.imm fu, AV.imm ta, AV.imm me, AV.imm gl, AV.imm ex, AV.int IntKind.i64 st, AV.imm el, AV.imm da, AV.imm cu]), LV.v (AV.int IntKind.i64 (Int.ofNat 0))] h = some (LV.v (AV.imm x1_1), x1_1h)) (k1 : ltZ i (Int.ofNat 0) = false) (k2 : leZ (Int.ofNat (List.length x1_1)) i = false) (k3 : ixA (AV.imm x1_1) i 1 = some [AV.int IntKind.i64 x5_2_0]) (k4 : leZ (Int.ofNat 0) x5_2_0 = false) (k5 : ixA (AV.imm x1_1) i 1 = some [AV.int IntKind.i64 x7_4_0]) (k6 : ixA (AV.imm fu) (IntKind.wrap IntKind.i64 (Int.negSucc 0 - x7_4_0)) 3 = some [AV.int IntKind.i64 x7_7_0, AV.imm x7_7_1, AV.imm x7_7_2]) (k7 : ltZ x7_7_0 (Int.ofNat 0) = false) (k8 : leZ (Int.ofNat (List.length ty)) x7_7_0 = false) :
    blk (cxZ m) 18 (body_ Tryz.prog 18) [.v (.agg [.imm ty, .imm im, .imm fu, .imm ta, .imm me, .imm gl, .imm ex, .int .i64 st, .imm el, .imm da, .imm cu]), .v (.int .i64 i)] h = some ((LV.v (AV.int IntKind.i64 x7_7_0), x1_1h)) :=
  blk_via (scr := ⟨fun x => match x with | 11 => some false | 16 => some false | 21 => some false | 43 => some false | 49 => some false | _ => none, fun x y => match x, y with | 5, 2 => some (LV.v (AV.snap [(AV.int Go.IntKind.i64 x5_2_0)])) | 7, 4 => some (LV.v (AV.snap [(AV.int Go.IntKind.i64 x7_4_0)])) | 7, 7 => some (LV.v (AV.snap [(AV.int Go.IntKind.i64 x7_7_0), (AV.imm x7_7_1), (AV.imm x7_7_2)])) | _, _ => none, fun x y => match x, y with | 1, 1 => some (LV.v (AV.imm x1_1), x1_1h) | _, _ => none, false⟩) (p := callF (cxZ m) (blk (cxZ m)) 17 [LV.v (AV.agg [AV.imm ty, AV.imm im, AV.imm fu, AV.imm ta, AV.imm me, AV.imm gl, AV.imm ex, AV.int IntKind.i64 st, AV.imm el, AV.imm da, AV.imm cu]), LV.v (AV.int IntKind.i64 (Int.ofNat 0))] h = some (LV.v (AV.imm x1_1), x1_1h) ∧ some (ltZ i (Int.ofNat 0)) = some false ∧ some false = some false ∧ some false = some false ∧ some false = some false ∧ some false = some false ∧ some (leZ (Int.ofNat (List.length x1_1)) i) = some false ∧ (false = false ∧ (none : Option Nat) = none ∧ ixA (AV.imm x1_1) i 1 = some [AV.int IntKind.i64 x5_2_0]) ∧ some (leZ (Int.ofNat 0) x5_2_0) = some false ∧ (false = false ∧ (none : Option Nat) = none ∧ ixA (AV.imm x1_1) i 1 = some [AV.int IntKind.i64 x7_4_0]) ∧ (false = false ∧ (none : Option Nat) = none ∧ ixA (AV.imm fu) (IntKind.wrap IntKind.i64 (Int.negSucc 0 - x7_4_0)) 3 = some [AV.int IntKind.i64 x7_7_0, AV.imm x7_7_1, AV.imm x7_7_2]) ∧ some (ltZ x7_7_0 (Int.ofNat 0)) = some false ∧ some false = some false ∧ some false = some false ∧ some false = some false ∧ some false = some false ∧ some false = some false ∧ some (leZ (Int.ofNat (List.length ty)) x7_7_0) = some false ∧ some (LV.v (AV.int IntKind.i64 x7_7_0), x1_1h) = some ((LV.v (AV.int IntKind.i64 x7_7_0), x1_1h))) (by kernel_rfl) ⟨k0, ⟨congrArg some k1, ⟨rfl, ⟨rfl, ⟨rfl, ⟨rfl, ⟨congrArg some k2, ⟨⟨rfl, ⟨rfl, k3⟩⟩, ⟨congrArg some k4, ⟨⟨rfl, ⟨rfl, k5⟩⟩, ⟨⟨rfl, ⟨rfl, k6⟩⟩, ⟨congrArg some k7, ⟨rfl, ⟨rfl, ⟨rfl, ⟨rfl, ⟨rfl, ⟨congrArg some k8, rfl⟩⟩⟩⟩⟩⟩⟩⟩⟩⟩⟩⟩⟩⟩⟩⟩⟩⟩

end Go.Proofs.YtdmgjhnmlilboaaGreatDoor


namespace Go.Proofs.YtdmgjhnmlilboaaGreatDoor
open Go Go.RowKit Go.Proofs.Am

/-- Numbers of the imports of a kind, from a place on. -/
def idx (k : Int) : Nat → List Imp → List Int
  | _, [] => []
  | i, x :: xs => bif eqZ x.k k then Int.ofNat i :: idx k (i + 1) xs else idx k (i + 1) xs
/-- -1 less each number below. -/
def minus : Nat → Nat → List Int
  | _, 0 => []
  | i, n + 1 => (-1 - (i : Int)) :: minus (i + 1) n
theorem minus_len : ∀ (n i : Nat), (minus i n).length = n
  | 0, _ => rfl
  | n + 1, i => by rw [minus, List.length_cons, minus_len n]
/-- The document's space. -/
def spaceK (M : Mdl) (k : Int) : List Int := bif leZ (Int.ofNat 0) k && leZ k (Int.ofNat 3) then idx k 0 M.im ++ minus 0 (ownK M k) else []

theorem loop12b (m : Int) (k : Int) (own : List (List AV)) (n : Nat) (hn : n * 24 ≤ 140737488351232) (hk : ixA (.imm own) k 1 = some [.int .i64 (Int.ofNat n)]) (h : Heap) : ∀ (d i : Nat), i + d = n → ∀ out : List Int, out.length ≤ 200 + i →
    blk (cxZ m) 17 (at_ Tryz.prog 17 11) [.v (.int .i64 k), .ow 1 (encN out), .v (.imm own), .v (.int .i64 (Int.ofNat i))] h = some (.v (.imm (encN (out ++ minus i d))), h)
  | 0, i, hd, out, ho => by
    obtain rfl : i = n := by omega
    rw [minus, List.append_nil]
    exact s12_11_1 (k0 := hk) (k1 := ltZ_f (Int.le_refl _)) ..
  | d + 1, i, hd, out, ho => by
    have k1 : ltZ (Int.ofNat i) (Int.ofNat n) = true := ltZ_t (by rw [ofN, ofN]; omega)
    have hw := wrapS (n := i) (by omega)
    have hz : IntKind.wrap .i64 (Int.negSucc 0 - Int.ofNat i) = -1 - (i : Int) := by
      rw [show (Int.negSucc 0 - Int.ofNat i) = -1 - (i : Int) from rfl]
      exact wrapI (by unfold InZ; omega)
    have k2 : apL (.ow 1 (encN out)) 1 8 [[.int .i64 (IntKind.wrap .i64 (Int.negSucc 0 - Int.ofNat i))]] = some (.ow 1 (encN (out ++ [-1 - (i : Int)]))) := by
      rw [hz]
      exact ap_int (by omega)
    refine s12_11_0 (k0 := hk) (k1 := k1) (k2 := k2) (k3 := ?_) ..
    rw [hw, minus, ← list_snoc out (-1 - (i : Int)) (minus (i + 1) d)]
    exact loop12b m k own n hn hk h d (i + 1) (by omega) _ (by simp; omega)

theorem own_ix {M : Mdl} {k : Int} (h1 : leZ (Int.ofNat 0) k = true) (h2 : leZ k (Int.ofNat 3) = true) :
    ixA (.imm [[.int .i64 (Int.ofNat M.fu.length)], [.int .i64 (Int.ofNat M.ta.length)], [.int .i64 (Int.ofNat M.me.length)], [.int .i64 (Int.ofNat M.gl.length)]]) k 1 = some [.int .i64 (Int.ofNat (ownK M k))] := by
  have a := (leZ_i h1).2 rfl
  have b := (leZ_i h2).2 rfl
  simp only [ofN] at a b
  have c : k = 0 ∨ k = 1 ∨ k = 2 ∨ k = 3 := by omega
  rcases c with rfl | rfl | rfl | rfl <;> rfl

theorem loop12a (m : Int) (k : Int) {M : Mdl} (hM : Small M) (h1 : leZ (Int.ofNat 0) k = true) (h2 : leZ k (Int.ofNat 3) = true) (h : Heap) : ∀ (d i : Nat), i + d = M.im.length → ∀ out : List Int, out.length ≤ i →
    blk (cxZ m) 17 (at_ Tryz.prog 17 5) [.v (.int .i64 k), .lp 0 0, .ow 1 (encN out), .v (.int .i64 (Int.ofNat i)), .v (.imm (M.ty.map FTy.enc)), .v (.imm (M.im.map Imp.enc)), .v (.imm (M.fu.map MFn.enc)), .v (.imm (M.ta.map Lim.enc)), .v (.imm (M.me.map Lim.enc)), .v (.imm (M.gl.map Glo.enc)), .v (.imm (M.ex.map Exq.enc)), .v (.int .i64 M.st), .v (.imm (M.el.map Ele.enc)), .v (.imm (M.da.map Dat.enc)), .v (.imm (M.cu.map Cus.enc))] h
      = some (.v (.imm (encN (out ++ (idx k i (M.im.drop i) ++ minus 0 (ownK M k))))), h)
  | 0, i, hd, out, ho => by
    obtain rfl : i = M.im.length := by omega
    rw [List.drop_length, idx, List.nil_append]
    refine s12_5_2 (k0 := ltZ_f (by rw [List.length_map]; exact Int.le_refl _)) (k1 := ?_) ..
    simp only [List.length_map]
    exact loop12b m k _ (ownK M k) (hM.own k) (own_ix h1 h2) h _ 0 (by omega) out (by have := hM.im; omega)
  | d + 1, i, hd, out, ho => by
    have := hM.im
    have hlt : i < M.im.length := by omega
    have hx : M.im[i]? = some M.im[i] := List.getElem?_eq_getElem hlt
    generalize M.im[i] = x at hx
    have k0 : ltZ (Int.ofNat i) (Int.ofNat (M.im.map Imp.enc).length) = true := ltZ_t (by rw [ofN, ofN, List.length_map]; omega)
    have k1 : ixA (.imm (M.im.map Imp.enc)) (Int.ofNat i) 8 = some (Imp.enc x) := ix_map hx x.enc_len
    have hw := wrapS (n := i) (by omega)
    rw [drop_get hx, idx]
    cases e1 : eqZ x.k k with
    | false =>
      refine s12_5_1 (k0 := k0) (k1 := k1) (k2 := e1) (k3 := ?_) ..
      rw [hw, cond_false]
      exact loop12a m k hM h1 h2 h d (i + 1) (by omega) out (by omega)
    | true =>
      have k3 : apL (.ow 1 (encN out)) 1 8 [[.int .i64 (Int.ofNat i)]] = some (.ow 1 (encN (out ++ [Int.ofNat i]))) := ap_int (by omega)
      refine s12_5_0 (k0 := k0) (k1 := k1) (k2 := e1) (k3 := k3) (k4 := ?_) ..
      rw [hw, cond_true, List.cons_append, ← list_snoc out (Int.ofNat i) (idx k (i + 1) (M.im.drop (i + 1)) ++ minus 0 (ownK M k))]
      exact loop12a m k hM h1 h2 h d (i + 1) (by omega) _ (by simp; omega)
theorem t12 (m : Int) {M : Mdl} (hM : Small M) (k : Int) (h : Heap) : CALL m 17 [eM M, .v (.int .i64 k)] h = some (.v (.imm (encN (spaceK M k))), h) := by
  refine callZ rfl (by kernel_rfl) (by kernel_rfl) ?_
  unfold spaceK
  cases h1 : leZ (Int.ofNat 0) k with
  | false =>
    rw [Bool.false_and, cond_false]
    exact s12_0 (k0 := by rw [leZ] at h1; simpa using h1) ..
  | true =>
    have g1 : ltZ k (Int.ofNat 0) = false := by rw [leZ] at h1; simpa using h1
    cases h2 : leZ k (Int.ofNat 3) with
    | false =>
      rw [Bool.and_false, cond_false]
      exact s12_1 (k0 := g1) (k1 := by rw [leZ] at h2; simpa using h2) ..
    | true =>
      have g2 : ltZ (Int.ofNat 3) k = false := by rw [leZ] at h2; simpa using h2
      rw [Bool.and_self, cond_true]
      refine s12_2 (k0 := g1) (k1 := g2) (k2 := ?_) ..
      have := loop12a m k hM h1 h2 h M.im.length 0 (by omega) [] (Nat.le_refl _)
      rw [List.drop_zero, List.nil_append] at this
      exact this
theorem idx_filter {k : Int} (h : leZ (Int.ofNat 0) k = true ∧ leZ k (Int.ofNat 3) = true) : ∀ (xs : List Imp) (i : Nat), (idx k i xs).length = (xs.filter (kindB k)).length
  | [], _ => rfl
  | x :: xs, i => by
    have ih := idx_filter h xs (i + 1)
    unfold idx
    cases e : eqZ x.k k with
    | true => rw [cond_true, List.filter_cons_of_pos (by simp only [kindB, e, h.1, h.2, Bool.and_self]), List.length_cons, List.length_cons, ih]
    | false => rw [cond_false, List.filter_cons_of_neg (by simp only [kindB, e, Bool.false_and]; simp), ih]
theorem filter_none {k : Int} (h : (leZ (Int.ofNat 0) k && leZ k (Int.ofNat 3)) = false) : ∀ xs : List Imp, xs.filter (kindB k) = []
  | [] => rfl
  | x :: xs => by rw [List.filter_cons_of_neg (by rw [kindB, Bool.and_assoc, h, Bool.and_false]; simp), filter_none h xs]
/-- Both tell as much. -/
theorem space_len (M : Mdl) (k : Int) : (spaceK M k).length = (impK M k).length + ownK M k := by
  unfold spaceK impK
  cases h : (leZ (Int.ofNat 0) k && leZ k (Int.ofNat 3)) with
  | true =>
    rw [Bool.and_eq_true] at h
    rw [cond_true, List.length_append, minus_len, idx_filter h]
  | false =>
    rw [cond_false, filter_none h]
    show 0 = 0 + ownK M k
    rw [Nat.zero_add]
    have : ¬ (0 ≤ k ∧ k ≤ 3) := by
      rintro ⟨a, b⟩
      rw [leZ_t (by rw [ofN]; omega), leZ_t (by rw [ofN]; omega)] at h
      cases h
    unfold ownK
    rw [if_neg (by omega), if_neg (by omega), if_neg (by omega), if_neg (by omega)]
end Go.Proofs.YtdmgjhnmlilboaaGreatDoor
