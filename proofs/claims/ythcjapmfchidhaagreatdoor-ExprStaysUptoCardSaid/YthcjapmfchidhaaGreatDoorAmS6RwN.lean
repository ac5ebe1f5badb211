/-
  Ways through texts, one by one (printed by a program of this repo).
-/
import Derived.Test.YthcjapmfchidhaaGreatDoorAmS6wJ
import Derived.KernelRfl
namespace Go.Proofs.YthcjapmfchidhaaGreatDoor
open Go Go.Proofs.Am
variable {m c d re i0 i1 i2 i3 i4 i5 i6 i7 i8 i9 i10 i11 i12 i13 i14 i15 i16 i17 i18 i19 i20 i21 i22 i23 : Int} {xs ty fu gl lo l0 l1 l2 l3 l4 l5 l6 l7 l8 l9 l10 l11 : LL} {h h0 h1 : Heap} {r : LV × Heap} {i : Nat} {tb mm b0 b1 b2 b3 : Bool}
theorem w7_0 (k0 : bA m 8 4 [vM xs, vI (.ofNat 0), vI (.ofNat 0), vI (.ofNat 0)] h = some r) :
  bB m 8 [vM xs] h = some r :=
 bY (qS [] [] [] []) (tA t1 (k0)) (by kernel_rfl)
theorem w7_4_0 (k0 : ltZ (.ofNat i) (.ofNat xs.length) = true) (k1 : ixA (aM xs) (.ofNat i) 9 = some (nC i6 i7 i8 i9 i10 l2 l0 l3 b0)) (k2 : cA m 8 [vM l0] h = some (LV.tup [aI i2, aI i0], h0)) (k3 : ixA (aM xs) (.ofNat i) 9 = some (nC i11 i12 i13 i14 i15 l4 l5 l1 b1)) (k4 : cA m 8 [vM l1] h0 = some (LV.tup [aI i3, aI i1], h1)) (k5 : ixA (aM xs) (.ofNat i) 9 = some (nC i4 i16 i17 i18 i19 l6 l7 l8 b2)) (k6 : leZ (.ofNat 2) i4 = true) (k7 : ixA (aM xs) (.ofNat i) 9 = some (nC i5 i20 i21 i22 i23 l9 l10 l11 b3)) (k8 : leZ i5 (.ofNat 4) = true) (k9 : ltZ d (IntKind.wrap .i64 (i0 + Int.ofNat 1)) = true) (k10 : ltZ (IntKind.wrap .i64 (i0 + Int.ofNat 1)) (IntKind.wrap .i64 (i1 + Int.ofNat 1)) = true) (k11 : bA m 8 4 [vM xs, vI (IntKind.wrap .i64 (IntKind.wrap .i64 (IntKind.wrap .i64 (c + Int.ofNat 1) + i2) + i3)), vI (IntKind.wrap .i64 (i1 + Int.ofNat 1)), vI (IntKind.wrap .i64 (.ofNat (Nat.succ i)))] h1 = some r) :
  bA m 8 4 [vM xs, vI c, vI d, vI i] h = some r :=
 bY (qS [14, 47, 54, 58, 64] [] [(6, 2, (LV.v (AV.snap (nC i6 i7 i8 i9 i10 l2 l0 l3 b0)))), (7, 2, (LV.v (AV.snap (nC i11 i12 i13 i14 i15 l4 l5 l1 b1)))), (9, 2, (LV.v (AV.snap (nC i4 i16 i17 i18 i19 l6 l7 l8 b2)))), (9, 9, (LV.v (AV.snap (nC i5 i20 i21 i22 i23 l9 l10 l11 b3))))] [(6, 5, LV.tup [aI i2, aI i0], h0), (7, 5, LV.tup [aI i3, aI i1], h1)]) (tZ k0 (tA (tA t0 (tA tN (k1))) (tA k2 (tA (tA t0 (tA tN (k3))) (tA k4 (tA (tA t0 (tA tN (k5))) (tZ k6 (uT2 (tA (tA t0 (tA tN (k7))) (uT4 (tZ k8 (tZ k9 (tZ k10 (tA t1 (k11))))))))))))))) (by kernel_rfl)
theorem w7_4_1 (k0 : ltZ (.ofNat i) (.ofNat xs.length) = true) (k1 : ixA (aM xs) (.ofNat i) 9 = some (nC i6 i7 i8 i9 i10 l2 l0 l3 b0)) (k2 : cA m 8 [vM l0] h = some (LV.tup [aI i1, aI i0], h0)) (k3 : ixA (aM xs) (.ofNat i) 9 = some (nC i11 i12 i13 i14 i15 l4 l5 l1 b1)) (k4 : cA m 8 [vM l1] h0 = some (LV.tup [aI i2, aI i3], h1)) (k5 : ixA (aM xs) (.ofNat i) 9 = some (nC i4 i16 i17 i18 i19 l6 l7 l8 b2)) (k6 : leZ (.ofNat 2) i4 = true) (k7 : ixA (aM xs) (.ofNat i) 9 = some (nC i5 i20 i21 i22 i23 l9 l10 l11 b3)) (k8 : leZ i5 (.ofNat 4) = true) (k9 : ltZ d (IntKind.wrap .i64 (i0 + Int.ofNat 1)) = true) (k10 : ltZ (IntKind.wrap .i64 (i0 + Int.ofNat 1)) (IntKind.wrap .i64 (i3 + Int.ofNat 1)) = false) (k11 : bA m 8 4 [vM xs, vI (IntKind.wrap .i64 (IntKind.wrap .i64 (IntKind.wrap .i64 (c + Int.ofNat 1) + i1) + i2)), vI (IntKind.wrap .i64 (i0 + Int.ofNat 1)), vI (IntKind.wrap .i64 (.ofNat (Nat.succ i)))] h1 = some r) :
  bA m 8 4 [vM xs, vI c, vI d, vI i] h = some r :=
 bY (qS [14, 47, 54, 58] [64] [(6, 2, (LV.v (AV.snap (nC i6 i7 i8 i9 i10 l2 l0 l3 b0)))), (7, 2, (LV.v (AV.snap (nC i11 i12 i13 i14 i15 l4 l5 l1 b1)))), (9, 2, (LV.v (AV.snap (nC i4 i16 i17 i18 i19 l6 l7 l8 b2)))), (9, 9, (LV.v (AV.snap (nC i5 i20 i21 i22 i23 l9 l10 l11 b3))))] [(6, 5, LV.tup [aI i1, aI i0], h0), (7, 5, LV.tup [aI i2, aI i3], h1)]) (tZ k0 (tA (tA t0 (tA tN (k1))) (tA k2 (tA (tA t0 (tA tN (k3))) (tA k4 (tA (tA t0 (tA tN (k5))) (tZ k6 (uT2 (tA (tA t0 (tA tN (k7))) (uT4 (tZ k8 (tZ k9 (tZ k10 (tA t1 (k11))))))))))))))) (by kernel_rfl)
theorem w7_4_2 (k0 : ltZ (.ofNat i) (.ofNat xs.length) = true) (k1 : ixA (aM xs) (.ofNat i) 9 = some (nC i6 i7 i8 i9 i10 l2 l0 l3 b0)) (k2 : cA m 8 [vM l0] h = some (LV.tup [aI i1, aI i2], h0)) (k3 : ixA (aM xs) (.ofNat i) 9 = some (nC i11 i12 i13 i14 i15 l4 l5 l1 b1)) (k4 : cA m 8 [vM l1] h0 = some (LV.tup [aI i3, aI i0], h1)) (k5 : ixA (aM xs) (.ofNat i) 9 = some (nC i4 i16 i17 i18 i19 l6 l7 l8 b2)) (k6 : leZ (.ofNat 2) i4 = true) (k7 : ixA (aM xs) (.ofNat i) 9 = some (nC i5 i20 i21 i22 i23 l9 l10 l11 b3)) (k8 : leZ i5 (.ofNat 4) = true) (k9 : ltZ d (IntKind.wrap .i64 (i2 + Int.ofNat 1)) = false) (k10 : ltZ d (IntKind.wrap .i64 (i0 + Int.ofNat 1)) = true) (k11 : bA m 8 4 [vM xs, vI (IntKind.wrap .i64 (IntKind.wrap .i64 (IntKind.wrap .i64 (c + Int.ofNat 1) + i1) + i3)), vI (IntKind.wrap .i64 (i0 + Int.ofNat 1)), vI (IntKind.wrap .i64 (.ofNat (Nat.succ i)))] h1 = some r) :
  bA m 8 4 [vM xs, vI c, vI d, vI i] h = some r :=
 bY (qS [14, 47, 54, 64] [58] [(6, 2, (LV.v (AV.snap (nC i6 i7 i8 i9 i10 l2 l0 l3 b0)))), (7, 2, (LV.v (AV.snap (nC i11 i12 i13 i14 i15 l4 l5 l1 b1)))), (9, 2, (LV.v (AV.snap (nC i4 i16 i17 i18 i19 l6 l7 l8 b2)))), (9, 9, (LV.v (AV.snap (nC i5 i20 i21 i22 i23 l9 l10 l11 b3))))] [(6, 5, LV.tup [aI i1, aI i2], h0), (7, 5, LV.tup [aI i3, aI i0], h1)]) (tZ k0 (tA (tA t0 (tA tN (k1))) (tA k2 (tA (tA t0 (tA tN (k3))) (tA k4 (tA (tA t0 (tA tN (k5))) (tZ k6 (uT2 (tA (tA t0 (tA tN (k7))) (uT4 (tZ k8 (tZ k9 (tZ k10 (tA t1 (k11))))))))))))))) (by kernel_rfl)
theorem w7_4_3 (k0 : ltZ (.ofNat i) (.ofNat xs.length) = true) (k1 : ixA (aM xs) (.ofNat i) 9 = some (nC i6 i7 i8 i9 i10 l2 l0 l3 b0)) (k2 : cA m 8 [vM l0] h = some (LV.tup [aI i0, aI i1], h0)) (k3 : ixA (aM xs) (.ofNat i) 9 = some (nC i11 i12 i13 i14 i15 l4 l5 l1 b1)) (k4 : cA m 8 [vM l1] h0 = some (LV.tup [aI i2, aI i3], h1)) (k5 : ixA (aM xs) (.ofNat i) 9 = some (nC i4 i16 i17 i18 i19 l6 l7 l8 b2)) (k6 : leZ (.ofNat 2) i4 = true) (k7 : ixA (aM xs) (.ofNat i) 9 = some (nC i5 i20 i21 i22 i23 l9 l10 l11 b3)) (k8 : leZ i5 (.ofNat 4) = true) (k9 : ltZ d (IntKind.wrap .i64 (i1 + Int.ofNat 1)) = false) (k10 : ltZ d (IntKind.wrap .i64 (i3 + Int.ofNat 1)) = false) (k11 : bA m 8 4 [vM xs, vI (IntKind.wrap .i64 (IntKind.wrap .i64 (IntKind.wrap .i64 (c + Int.ofNat 1) + i0) + i2)), vI d, vI (IntKind.wrap .i64 (.ofNat (Nat.succ i)))] h1 = some r) :
  bA m 8 4 [vM xs, vI c, vI d, vI i] h = some r :=
 bY (qS [14, 47, 54] [58, 64] [(6, 2, (LV.v (AV.snap (nC i6 i7 i8 i9 i10 l2 l0 l3 b0)))), (7, 2, (LV.v (AV.snap (nC i11 i12 i13 i14 i15 l4 l5 l1 b1)))), (9, 2, (LV.v (AV.snap (nC i4 i16 i17 i18 i19 l6 l7 l8 b2)))), (9, 9, (LV.v (AV.snap (nC i5 i20 i21 i22 i23 l9 l10 l11 b3))))] [(6, 5, LV.tup [aI i0, aI i1], h0), (7, 5, LV.tup [aI i2, aI i3], h1)]) (tZ k0 (tA (tA t0 (tA tN (k1))) (tA k2 (tA (tA t0 (tA tN (k3))) (tA k4 (tA (tA t0 (tA tN (k5))) (tZ k6 (uT2 (tA (tA t0 (tA tN (k7))) (uT4 (tZ k8 (tZ k9 (tZ k10 (tA t1 (k11))))))))))))))) (by kernel_rfl)
theorem w7_4_4 (k0 : ltZ (.ofNat i) (.ofNat xs.length) = true) (k1 : ixA (aM xs) (.ofNat i) 9 = some (nC i4 i5 i6 i7 i8 l2 l0 l3 b0)) (k2 : cA m 8 [vM l0] h = some (LV.tup [aI i0, aI i9], h0)) (k3 : ixA (aM xs) (.ofNat i) 9 = some (nC i10 i11 i12 i13 i14 l4 l5 l1 b1)) (k4 : cA m 8 [vM l1] h0 = some (LV.tup [aI i1, aI i15], h1)) (k5 : ixA (aM xs) (.ofNat i) 9 = some (nC i2 i16 i17 i18 i19 l6 l7 l8 b2)) (k6 : leZ (.ofNat 2) i2 = true) (k7 : ixA (aM xs) (.ofNat i) 9 = some (nC i3 i20 i21 i22 i23 l9 l10 l11 b3)) (k8 : leZ i3 (.ofNat 4) = false) (k9 : bA m 8 4 [vM xs, vI (IntKind.wrap .i64 (IntKind.wrap .i64 (IntKind.wrap .i64 (c + Int.ofNat 1) + i0) + i1)), vI d, vI (IntKind.wrap .i64 (.ofNat (Nat.succ i)))] h1 = some r) :
  bA m 8 4 [vM xs, vI c, vI d, vI i] h = some r :=
 bY (qS [14, 47] [54] [(6, 2, (LV.v (AV.snap (nC i4 i5 i6 i7 i8 l2 l0 l3 b0)))), (7, 2, (LV.v (AV.snap (nC i10 i11 i12 i13 i14 l4 l5 l1 b1)))), (9, 2, (LV.v (AV.snap (nC i2 i16 i17 i18 i19 l6 l7 l8 b2)))), (9, 9, (LV.v (AV.snap (nC i3 i20 i21 i22 i23 l9 l10 l11 b3))))] [(6, 5, LV.tup [aI i0, aI i9], h0), (7, 5, LV.tup [aI i1, aI i15], h1)]) (tZ k0 (tA (tA t0 (tA tN (k1))) (tA k2 (tA (tA t0 (tA tN (k3))) (tA k4 (tA (tA t0 (tA tN (k5))) (tZ k6 (uT2 (tA (tA t0 (tA tN (k7))) (uT4 (tZ k8 (tA t1 (k9))))))))))))) (by kernel_rfl)
theorem w7_4_5 (k0 : ltZ (.ofNat i) (.ofNat xs.length) = true) (k1 : ixA (aM xs) (.ofNat i) 9 = some (nC i3 i4 i5 i6 i7 l2 l0 l3 b0)) (k2 : cA m 8 [vM l0] h = some (LV.tup [aI i0, aI i8], h0)) (k3 : ixA (aM xs) (.ofNat i) 9 = some (nC i9 i10 i11 i12 i13 l4 l5 l1 b1)) (k4 : cA m 8 [vM l1] h0 = some (LV.tup [aI i1, aI i14], h1)) (k5 : ixA (aM xs) (.ofNat i) 9 = some (nC i2 i15 i16 i17 i18 l6 l7 l8 b2)) (k6 : leZ (.ofNat 2) i2 = false) (k7 : bA m 8 4 [vM xs, vI (IntKind.wrap .i64 (IntKind.wrap .i64 (IntKind.wrap .i64 (c + Int.ofNat 1) + i0) + i1)), vI d, vI (IntKind.wrap .i64 (.ofNat (Nat.succ i)))] h1 = some r) :
  bA m 8 4 [vM xs, vI c, vI d, vI i] h = some r :=
 bY (qS [14] [47] [(6, 2, (LV.v (AV.snap (nC i3 i4 i5 i6 i7 l2 l0 l3 b0)))), (7, 2, (LV.v (AV.snap (nC i9 i10 i11 i12 i13 l4 l5 l1 b1)))), (9, 2, (LV.v (AV.snap (nC i2 i15 i16 i17 i18 l6 l7 l8 b2))))] [(6, 5, LV.tup [aI i0, aI i8], h0), (7, 5, LV.tup [aI i1, aI i14], h1)]) (tZ k0 (tA (tA t0 (tA tN (k1))) (tA k2 (tA (tA t0 (tA tN (k3))) (tA k4 (tA (tA t0 (tA tN (k5))) (tZ k6 (uF6 (tA t1 (k7)))))))))) (by kernel_rfl)
theorem w7_4_6 (k0 : ltZ (.ofNat i) (.ofNat xs.length) = false) :
  bA m 8 4 [vM xs, vI c, vI d, vI i] h = some ((LV.tup [aI c, aI d], h)) :=
 bY (qS [] [14] [] []) (tZ k0 (tR ((LV.tup [aI c, aI d], h)))) (by kernel_rfl)
end Go.Proofs.YthcjapmfchidhaaGreatDoor
namespace Go.Proofs.YthcjapmfchidhaaGreatDoor
set_option maxRecDepth 100000
open Go Go.Proofs.Am
variable {m o a b v t ob ok gv bz i0 : Int} {bs : (LL)} {l bd el tk l0 l1 l2 l3 l4 : LL} {q sg : Bool} {on : ByteArray} {h h0 h1 h2 : Heap}
theorem p34_5_0 (k0 : eqZ ok (.ofNat 2) = true) (k1 : cA m 58 [vI t] h = some (LV.v (AV.int IntKind.u8 i0), h1)) (k2 : apL (LV.ow 1 bs) 1 1 [[AV.int IntKind.u8 i0]] = some (LV.ow 1 l3)) (k3 : cA m 20 [LV.ow 1 l3, vM bd] h1 = some (LV.ow 1 l1, h2)) (k4 : q = true) (k5 : apL (LV.ow 1 l1) 1 1 [[AV.int IntKind.u8 (.ofNat 5)]] = some (LV.ow 1 l4)) (k6 : cA m 20 [LV.ow 1 l4, vM el] h2 = some (LV.ow 1 l0, h0)) (k7 : apL (LV.ow 1 l0) 1 1 [[AV.int IntKind.u8 (.ofNat 11)]] = some (LV.ow 1 l2)) :
  bA m 34 5 [.ow 1 bs, .lp 0 0, .lp 1 0, vI o, vI a, vI b, .v (.int .u64 v), vI t, vM l, vM bd, vM el, vB q, vI ob, vS on, vI ok, vM tk, vI gv, vI bz, vB sg] h = some ((LV.ow 1 l2, h0)) :=
 bY (qS [1099998, 1099992] [] [(6, 5, (LV.ow 1 l3)), (8, 2, (LV.ow 1 l4)), (9, 2, (LV.ow 1 l2))] [(6, 3, LV.v (AV.int IntKind.u8 i0), h1), (6, 8, LV.ow 1 l1, h2), (8, 5, LV.ow 1 l0, h0)]) (tZ k0 (tA k1 (u02 (tA t1 (tA k2 (tA k3 (tZ k4 (u02 (tA t1 (tA k5 (tA k6 (u02 (tA t1 (tA k7 (tR ((LV.ow 1 l2, h0))))))))))))))))) (by kernel_rfl)
theorem p34_5_1 (k0 : eqZ ok (.ofNat 2) = true) (k1 : cA m 58 [vI t] h = some (LV.v (AV.int IntKind.u8 i0), h1)) (k2 : apL (LV.ow 1 bs) 1 1 [[AV.int IntKind.u8 i0]] = some (LV.ow 1 l2)) (k3 : cA m 20 [LV.ow 1 l2, vM bd] h1 = some (LV.ow 1 l0, h0)) (k4 : q = false) (k5 : apL (LV.ow 1 l0) 1 1 [[AV.int IntKind.u8 (.ofNat 11)]] = some (LV.ow 1 l1)) :
  bA m 34 5 [.ow 1 bs, .lp 0 0, .lp 1 0, vI o, vI a, vI b, .v (.int .u64 v), vI t, vM l, vM bd, vM el, vB q, vI ob, vS on, vI ok, vM tk, vI gv, vI bz, vB sg] h = some ((LV.ow 1 l1, h0)) :=
 bY (qS [1099998] [1099992] [(6, 5, (LV.ow 1 l2)), (9, 2, (LV.ow 1 l1))] [(6, 3, LV.v (AV.int IntKind.u8 i0), h1), (6, 8, LV.ow 1 l0, h0)]) (tZ k0 (tA k1 (u02 (tA t1 (tA k2 (tA k3 (tZ k4 (u02 (tA t1 (tA k5 (tR ((LV.ow 1 l1, h0))))))))))))) (by kernel_rfl)
theorem p34_5_2 (k0 : eqZ ok (.ofNat 2) = false) (k1 : eqZ ok (.ofNat 7) = true) (k2 : cA m 59 [LV.ow 1 bs, LV.ow 1 [[aI a], [aI b]]] h = some (LV.ow 1 l0, h0)) :
  bA m 34 5 [.ow 1 bs, .lp 0 0, .lp 1 0, vI o, vI a, vI b, .v (.int .u64 v), vI t, vM l, vM bd, vM el, vB q, vI ob, vS on, vI ok, vM tk, vI gv, vI bz, vB sg] h = some ((LV.ow 1 l0, h0)) :=
 bY (qS [50] [1099998] [] [(11, 6, LV.ow 1 l0, h0)]) (tZ k0 (tZ k1 (uT3 (tA k2 (tR ((LV.ow 1 l0, h0))))))) (by kernel_rfl)
theorem p34_5_3 (k0 : eqZ ok (.ofNat 2) = false) (k1 : eqZ ok (.ofNat 7) = false) (k2 : eqZ ok (.ofNat 8) = true) (k3 : cA m 59 [LV.ow 1 bs, LV.ow 1 [[aI a], [aI b]]] h = some (LV.ow 1 l0, h0)) :
  bA m 34 5 [.ow 1 bs, .lp 0 0, .lp 1 0, vI o, vI a, vI b, .v (.int .u64 v), vI t, vM l, vM bd, vM el, vB q, vI ob, vS on, vI ok, vM tk, vI gv, vI bz, vB sg] h = some ((LV.ow 1 l0, h0)) :=
 bY (qS [1099995] [1099998, 50] [] [(11, 6, LV.ow 1 l0, h0)]) (tZ k0 (tZ k1 (uF3 (tZ k2 (tA k3 (tR ((LV.ow 1 l0, h0)))))))) (by kernel_rfl)
theorem p34_5_4 (k0 : eqZ ok (.ofNat 2) = false) (k1 : eqZ ok (.ofNat 7) = false) (k2 : eqZ ok (.ofNat 8) = false) (k3 : eqZ ok (.ofNat 9) = true) (k4 : apL (LV.ow 1 bs) 1 1 [[AV.int IntKind.u8 (.ofNat 0)]] = some (LV.ow 1 l0)) :
  bA m 34 5 [.ow 1 bs, .lp 0 0, .lp 1 0, vI o, vI a, vI b, .v (.int .u64 v), vI t, vM l, vM bd, vM el, vB q, vI ob, vS on, vI ok, vM tk, vI gv, vI bz, vB sg] h = some ((LV.ow 1 l0, h)) :=
 bY (qS [1099992] [1099998, 50, 1099995] [(13, 2, (LV.ow 1 l0))] []) (tZ k0 (tZ k1 (uF3 (tZ k2 (tZ k3 (u02 (tA t1 (tA k4 (tR ((LV.ow 1 l0, h))))))))))) (by kernel_rfl)
theorem p34_5_5 (k0 : eqZ ok (.ofNat 2) = false) (k1 : eqZ ok (.ofNat 7) = false) (k2 : eqZ ok (.ofNat 8) = false) (k3 : eqZ ok (.ofNat 9) = false) (k4 : eqZ ok (.ofNat 10) = true) (k5 : eqZ gv (.ofNat 1) = true) (k6 : cA m 60 [vI (IntKind.wrap .i64 (IntKind.wrap IntKind.i32 (IntKind.wrap IntKind.u32 v)))] h = some (vM l0, h0)) (k7 : apL (LV.ow 1 bs) 1 1 l0 = some (LV.ow 1 l1)) :
  bA m 34 5 [.ow 1 bs, .lp 0 0, .lp 1 0, vI o, vI a, vI b, .v (.int .u64 v), vI t, vM l, vM bd, vM el, vB q, vI ob, vS on, vI ok, vM tk, vI gv, vI bz, vB sg] h = some ((LV.ow 1 l1, h0)) :=
 bY (qS [73, 1099989] [1099998, 50, 1099995, 1099992] [(15, 7, (LV.ow 1 l1))] [(15, 6, vM l0, h0)]) (tZ k0 (tZ k1 (uF3 (tZ k2 (tZ k3 (tZ k4 (uT3 (tZ k5 (tA k6 (u02 (tA t1 (tA k7 (tR ((LV.ow 1 l1, h0))))))))))))))) (by kernel_rfl)
theorem p34_5_6 (k0 : eqZ ok (.ofNat 2) = false) (k1 : eqZ ok (.ofNat 7) = false) (k2 : eqZ ok (.ofNat 8) = false) (k3 : eqZ ok (.ofNat 9) = false) (k4 : eqZ ok (.ofNat 10) = true) (k5 : eqZ gv (.ofNat 1) = false) (k6 : cA m 60 [vI (IntKind.wrap .i64 v)] h = some (vM l0, h0)) (k7 : apL (LV.ow 1 bs) 1 1 l0 = some (LV.ow 1 l1)) :
  bA m 34 5 [.ow 1 bs, .lp 0 0, .lp 1 0, vI o, vI a, vI b, .v (.int .u64 v), vI t, vM l, vM bd, vM el, vB q, vI ob, vS on, vI ok, vM tk, vI gv, vI bz, vB sg] h = some ((LV.ow 1 l1, h0)) :=
 bY (qS [73, 1099986] [1099998, 50, 1099995, 1099992, 1099989] [(17, 5, (LV.ow 1 l1))] [(17, 4, vM l0, h0)]) (tZ k0 (tZ k1 (uF3 (tZ k2 (tZ k3 (tZ k4 (uT3 (tZ k5 (tZ k4 (tA k6 (u02 (tA t1 (tA k7 (tR ((LV.ow 1 l1, h0)))))))))))))))) (by kernel_rfl)
theorem p34_5_15 (k0 : eqZ ok (.ofNat 2) = false) (k1 : eqZ ok (.ofNat 7) = false) (k2 : eqZ ok (.ofNat 8) = false) (k3 : eqZ ok (.ofNat 9) = false) (k4 : eqZ ok (.ofNat 10) = false) (k5 : eqZ o (.ofNat 14) = true) (k6 : cA m 59 [LV.ow 1 bs, LV.ow 1 [[aI (IntKind.wrap .i64 (Int.ofNat l.length - Int.ofNat 1))]]] h = some (LV.ow 1 l1, h1)) (k7 : cA m 59 [LV.ow 1 l1, vM l] h1 = some (LV.ow 1 l0, h0)) :
  bA m 34 5 [.ow 1 bs, .lp 0 0, .lp 1 0, vI o, vI a, vI b, .v (.int .u64 v), vI t, vM l, vM bd, vM el, vB q, vI ob, vS on, vI ok, vM tk, vI gv, vI bz, vB sg] h = some ((LV.ow 1 l0, h0)) :=
 bY (qS [1099983] [1099998, 50, 1099995, 1099992, 73, 1099986] [] [(19, 6, LV.ow 1 l1, h1), (19, 9, LV.ow 1 l0, h0)]) (tZ k0 (tZ k1 (uF3 (tZ k2 (tZ k3 (tZ k4 (uF3 (tZ k4 (tZ k5 (tA k6 (tA k7 (tR ((LV.ow 1 l0, h0)))))))))))))) (by kernel_rfl)
theorem p34_5_16 (k0 : eqZ ok (.ofNat 2) = false) (k1 : eqZ ok (.ofNat 7) = false) (k2 : eqZ ok (.ofNat 8) = false) (k3 : eqZ ok (.ofNat 9) = false) (k4 : eqZ ok (.ofNat 10) = false) (k5 : eqZ o (.ofNat 14) = false) (k6 : eqZ o (.ofNat 17) = true) (k7 : cA m 59 [LV.ow 1 bs, LV.ow 1 [[aI a]]] h = some (LV.ow 1 l0, h0)) (k8 : apL (LV.ow 1 l0) 1 1 [[AV.int IntKind.u8 (.ofNat 0)]] = some (LV.ow 1 l1)) :
  bA m 34 5 [.ow 1 bs, .lp 0 0, .lp 1 0, vI o, vI a, vI b, .v (.int .u64 v), vI t, vM l, vM bd, vM el, vB q, vI ob, vS on, vI ok, vM tk, vI gv, vI bz, vB sg] h = some ((LV.ow 1 l1, h0)) :=
 bY (qS [1099980] [1099998, 50, 1099995, 1099992, 73, 1099986, 1099983] [(21, 6, (LV.ow 1 l1))] [(21, 4, LV.ow 1 l0, h0)]) (tZ k0 (tZ k1 (uF3 (tZ k2 (tZ k3 (tZ k4 (uF3 (tZ k4 (tZ k5 (tZ k6 (tA k7 (u02 (tA t1 (tA k8 (tR ((LV.ow 1 l1, h0))))))))))))))))) (by kernel_rfl)
theorem p34_5_17 (k0 : eqZ ok (.ofNat 2) = false) (k1 : eqZ ok (.ofNat 7) = false) (k2 : eqZ ok (.ofNat 8) = false) (k3 : eqZ ok (.ofNat 9) = false) (k4 : eqZ ok (.ofNat 10) = false) (k5 : eqZ o (.ofNat 14) = false) (k6 : eqZ o (.ofNat 17) = false) (k7 : eqZ ok (.ofNat 4) = true) (k8 : cA m 59 [LV.ow 1 bs, LV.ow 1 [[aI a]]] h = some (LV.ow 1 l0, h0)) :
  bA m 34 5 [.ow 1 bs, .lp 0 0, .lp 1 0, vI o, vI a, vI b, .v (.int .u64 v), vI t, vM l, vM bd, vM el, vB q, vI ob, vS on, vI ok, vM tk, vI gv, vI bz, vB sg] h = some ((LV.ow 1 l0, h0)) :=
 bY (qS [125] [1099998, 50, 1099995, 1099992, 73, 1099986, 1099983, 1099980] [] [(23, 4, LV.ow 1 l0, h0)]) (tZ k0 (tZ k1 (uF3 (tZ k2 (tZ k3 (tZ k4 (uF3 (tZ k4 (tZ k5 (tZ k6 (tZ k7 (uT3 (tA k8 (tR ((LV.ow 1 l0, h0)))))))))))))))) (by kernel_rfl)
theorem p34_5_18 (k0 : eqZ ok (.ofNat 2) = false) (k1 : eqZ ok (.ofNat 7) = false) (k2 : eqZ ok (.ofNat 8) = false) (k3 : eqZ ok (.ofNat 9) = false) (k4 : eqZ ok (.ofNat 10) = false) (k5 : eqZ o (.ofNat 14) = false) (k6 : eqZ o (.ofNat 17) = false) (k7 : eqZ ok (.ofNat 4) = false) (k8 : eqZ ok (.ofNat 6) = true) (k9 : cA m 59 [LV.ow 1 bs, LV.ow 1 [[aI a]]] h = some (LV.ow 1 l0, h0)) :
  bA m 34 5 [.ow 1 bs, .lp 0 0, .lp 1 0, vI o, vI a, vI b, .v (.int .u64 v), vI t, vM l, vM bd, vM el, vB q, vI ob, vS on, vI ok, vM tk, vI gv, vI bz, vB sg] h = some ((LV.ow 1 l0, h0)) :=
 bY (qS [130] [1099998, 50, 1099995, 1099992, 73, 1099986, 1099983, 1099980, 125] [] [(23, 4, LV.ow 1 l0, h0)]) (tZ k0 (tZ k1 (uF3 (tZ k2 (tZ k3 (tZ k4 (uF3 (tZ k4 (tZ k5 (tZ k6 (tZ k7 (uF3 (tZ k8 (uT3 (tA k9 (tR ((LV.ow 1 l0, h0)))))))))))))))))) (by kernel_rfl)
theorem p34_5_19 (k0 : eqZ ok (.ofNat 2) = false) (k1 : eqZ ok (.ofNat 7) = false) (k2 : eqZ ok (.ofNat 8) = false) (k3 : eqZ ok (.ofNat 9) = false) (k4 : eqZ ok (.ofNat 10) = false) (k5 : eqZ o (.ofNat 14) = false) (k6 : eqZ o (.ofNat 17) = false) (k7 : eqZ ok (.ofNat 4) = false) (k8 : eqZ ok (.ofNat 6) = false) (k9 : eqZ o (.ofNat 12) = true) (k10 : cA m 59 [LV.ow 1 bs, LV.ow 1 [[aI a]]] h = some (LV.ow 1 l0, h0)) :
  bA m 34 5 [.ow 1 bs, .lp 0 0, .lp 1 0, vI o, vI a, vI b, .v (.int .u64 v), vI t, vM l, vM bd, vM el, vB q, vI ob, vS on, vI ok, vM tk, vI gv, vI bz, vB sg] h = some ((LV.ow 1 l0, h0)) :=
 bY (qS [135] [1099998, 50, 1099995, 1099992, 73, 1099986, 1099983, 1099980, 125, 130] [] [(23, 4, LV.ow 1 l0, h0)]) (tZ k0 (tZ k1 (uF3 (tZ k2 (tZ k3 (tZ k4 (uF3 (tZ k4 (tZ k5 (tZ k6 (tZ k7 (uF3 (tZ k8 (uF3 (tZ k9 (uT3 (tA k10 (tR ((LV.ow 1 l0, h0)))))))))))))))))))) (by kernel_rfl)
theorem p34_5_20 (k0 : eqZ ok (.ofNat 2) = false) (k1 : eqZ ok (.ofNat 7) = false) (k2 : eqZ ok (.ofNat 8) = false) (k3 : eqZ ok (.ofNat 9) = false) (k4 : eqZ ok (.ofNat 10) = false) (k5 : eqZ o (.ofNat 14) = false) (k6 : eqZ o (.ofNat 17) = false) (k7 : eqZ ok (.ofNat 4) = false) (k8 : eqZ ok (.ofNat 6) = false) (k9 : eqZ o (.ofNat 12) = false) (k10 : eqZ o (.ofNat 13) = true) (k11 : cA m 59 [LV.ow 1 bs, LV.ow 1 [[aI a]]] h = some (LV.ow 1 l0, h0)) :
  bA m 34 5 [.ow 1 bs, .lp 0 0, .lp 1 0, vI o, vI a, vI b, .v (.int .u64 v), vI t, vM l, vM bd, vM el, vB q, vI ob, vS on, vI ok, vM tk, vI gv, vI bz, vB sg] h = some ((LV.ow 1 l0, h0)) :=
 bY (qS [1099977] [1099998, 50, 1099995, 1099992, 73, 1099986, 1099983, 1099980, 125, 130, 135] [] [(23, 4, LV.ow 1 l0, h0)]) (tZ k0 (tZ k1 (uF3 (tZ k2 (tZ k3 (tZ k4 (uF3 (tZ k4 (tZ k5 (tZ k6 (tZ k7 (uF3 (tZ k8 (uF3 (tZ k9 (uF3 (tZ k10 (tA k11 (tR ((LV.ow 1 l0, h0))))))))))))))))))))) (by kernel_rfl)
theorem p34_5_21 (k0 : eqZ ok (.ofNat 2) = false) (k1 : eqZ ok (.ofNat 7) = false) (k2 : eqZ ok (.ofNat 8) = false) (k3 : eqZ ok (.ofNat 9) = false) (k4 : eqZ ok (.ofNat 10) = false) (k5 : eqZ o (.ofNat 14) = false) (k6 : eqZ o (.ofNat 17) = false) (k7 : eqZ ok (.ofNat 4) = false) (k8 : eqZ ok (.ofNat 6) = false) (k9 : eqZ o (.ofNat 12) = false) (k10 : eqZ o (.ofNat 13) = false) :
  bA m 34 5 [.ow 1 bs, .lp 0 0, .lp 1 0, vI o, vI a, vI b, .v (.int .u64 v), vI t, vM l, vM bd, vM el, vB q, vI ob, vS on, vI ok, vM tk, vI gv, vI bz, vB sg] h = some ((LV.ow 1 bs, h)) :=
 bY (qS [] [1099998, 50, 1099995, 1099992, 73, 1099986, 1099983, 1099980, 125, 130, 135, 1099977] [] []) (tZ k0 (tZ k1 (uF3 (tZ k2 (tZ k3 (tZ k4 (uF3 (tZ k4 (tZ k5 (tZ k6 (tZ k7 (uF3 (tZ k8 (uF3 (tZ k9 (uF3 (tZ k10 (tR ((LV.ow 1 bs, h)))))))))))))))))))) (by kernel_rfl)
end Go.Proofs.YthcjapmfchidhaaGreatDoor
namespace Go.Proofs.YthcjapmfchidhaaGreatDoor
set_option maxRecDepth 100000
open Go Go.Proofs.Am
variable {m n i0 i1 i2 i3 i4 : Int} {bs xs : (LL)} {h h0 h1 : Heap} {r : LV × Heap} {i : Nat} {l0 l1 l2 l3 : LL} {b0 : Bool}
theorem p20_0 (k0 : bA m 20 2 [LV.ow 1 bs, vM xs, vI (.ofNat xs.length), vI (.ofNat 0)] h = some r) :
  bB m 20 [.ow 1 bs, vM xs] h = some r :=
 bY (qS [] [] [] []) (tA t1 (k0)) (by kernel_rfl)
theorem p20n_0 (k0 : bA m 20 2 [LV.v AV.nilS, vM xs, vI (.ofNat xs.length), vI (.ofNat 0)] h = some r) :
  bB m 20 [.v .nilS, vM xs] h = some r :=
 bY (qS [] [] [] []) (tA t1 (k0)) (by kernel_rfl)
theorem p20_2_0 (k0 : ltZ (.ofNat i) n = true) (k1 : ixA (aM xs) (.ofNat i) 9 = some (nC i0 i1 i2 i3 i4 l1 l2 l3 b0)) (k2 : cA m 34 [LV.ow 1 bs, vG (nC i0 i1 i2 i3 i4 l1 l2 l3 b0)] h = some (LV.ow 1 l0, h0)) (k3 : bA m 20 2 [LV.ow 1 l0, vM xs, vI n, vI (IntKind.wrap .i64 (.ofNat (Nat.succ i)))] h0 = some r) :
  bA m 20 2 [.ow 1 bs, vM xs, vI n, vI (.ofNat i)] h = some r :=
 bY (qS [1099997] [] [(3, 0, (LV.v (AV.snap (nC i0 i1 i2 i3 i4 l1 l2 l3 b0))))] [(4, 2, LV.ow 1 l0, h0)]) (tZ k0 (tA (tA t0 (tA tN (k1))) (tA k2 (tA t1 (k3))))) (by kernel_rfl)
theorem p20_2_1 (k0 : ltZ (.ofNat i) n = false) :
  bA m 20 2 [.ow 1 bs, vM xs, vI n, vI (.ofNat i)] h = some ((LV.ow 1 bs, h)) :=
 bY (qS [] [1099997] [] []) (tZ k0 (tR ((LV.ow 1 bs, h)))) (by kernel_rfl)
theorem p20_2n_0 (k0 : ltZ (.ofNat i) n = true) (k1 : ixA (aM xs) (.ofNat i) 9 = some (nC i0 i1 i2 i3 i4 l1 l2 l3 b0)) (k2 : cA m 34 [LV.v AV.nilS, vG (nC i0 i1 i2 i3 i4 l1 l2 l3 b0)] h = some (LV.ow 1 l0, h0)) (k3 : bA m 20 2 [LV.ow 1 l0, vM xs, vI n, vI (IntKind.wrap .i64 (.ofNat (Nat.succ i)))] h0 = some r) :
  bA m 20 2 [.v .nilS, vM xs, vI n, vI (.ofNat i)] h = some r :=
 bY (qS [1099997] [] [(3, 0, (LV.v (AV.snap (nC i0 i1 i2 i3 i4 l1 l2 l3 b0))))] [(4, 2, LV.ow 1 l0, h0)]) (tZ k0 (tA (tA t0 (tA tN (k1))) (tA k2 (tA t1 (k3))))) (by kernel_rfl)
theorem p20_2n_1 (k0 : ltZ (.ofNat i) n = false) :
  bA m 20 2 [.v .nilS, vM xs, vI n, vI (.ofNat i)] h = some ((LV.v AV.nilS, h)) :=
 bY (qS [] [1099997] [] []) (tZ k0 (tR ((LV.v AV.nilS, h)))) (by kernel_rfl)
theorem p9_0 (k0 : cA m 19 [vM xs] h = some (vB b0, h0)) (k1 : (!b0) = true) :
  bB m 9 [vM xs] h = some ((LV.tup [aM [], AV.ifc 32 (aI (.ofNat 1))], h0)) :=
 bY (qS [1099994] [] [] [(1, 1, vB b0, h0)]) (tA k0 (tZ k1 (tR ((LV.tup [aM [], AV.ifc 32 (aI (.ofNat 1))], h0))))) (by kernel_rfl)
theorem p9_1 (k0 : cA m 19 [vM xs] h = some (vB b0, h1)) (k1 : (!b0) = false) (k2 : cA m 20 [LV.v AV.nilS, vM xs] h1 = some (LV.ow 1 l0, h0)) (k3 : apL (LV.ow 1 l0) 1 1 [[AV.int IntKind.u8 (.ofNat 11)]] = some (LV.ow 1 l1)) :
  bB m 9 [vM xs] h = some ((LV.tup [aM l1, AV.nilI], h0)) :=
 bY (qS [] [1099994] [(3, 3, (LV.ow 1 l1))] [(1, 1, vB b0, h1), (3, 1, LV.ow 1 l0, h0)]) (tA k0 (tZ k1 (tA k2 (u02 (tA t1 (tA k3 (tR ((LV.tup [aM l1, AV.nilI], h0))))))))) (by kernel_rfl)
end Go.Proofs.YthcjapmfchidhaaGreatDoor
namespace Go.Proofs.YthcjapmfchidhaaGreatDoor
set_option maxRecDepth 100000
open Go Go.Proofs.Am
variable {m o a b v t i i0 i1 i2 i3 i4 : Int} {l bd el l0 l1 l2 l3 l4 l5 : LL} {q b0 : Bool} {h h0 h1 h2 h3 : Heap} {r : LV × Heap} {out xs : (LL)}
end Go.Proofs.YthcjapmfchidhaaGreatDoor
namespace Go.Proofs.YthcjapmfchidhaaGreatDoor
set_option maxRecDepth 100000
open Go Go.Proofs.Am
variable {m b z i i0 i1 i2 i3 i4 i5 i6 i7 i8 i9 i10 i11 i12 i13 i14 : Int} {h h0 h1 h2 : Heap} {L : Nat} {xs : (LL)} {r : LV × Heap} {b0 b1 b2 b3 b4 : Bool} {l0 l1 l2 l3 l4 l5 l6 l7 l8 : LL} {v0 v1 : AV} {s0 : ByteArray}
theorem p7_0 (k0 : cA m 9 [vM [[aI (.ofNat 65), aI (.ofNat 0), aI (.ofNat 0), AV.int IntKind.u64 (.ofNat 4294967295), aI (.ofNat 0), aM [], aM [], aM [], aB false]]] h = some (LV.tup [aM l0, v0], h1)) (k1 : cA m 12 [vM [[AV.int IntKind.u8 (.ofNat 67)]], vI (.ofNat 0)] h1 = some (LV.tup [aM l1, aI i0, v1], h2)) (k2 : qE m v0 b1) (k3 : b1 = true) (k4 : cvA (Cx.P (cxZ m)) 26 9 (aM l0) = some (vS s0)) (k5 : (ByteArray.toList s0 == ByteArray.toList { data := #[65, 127, 11] }) = true) (k6 : cA m 18 [LV.v v1, vI (.ofNat 0), vI (.ofNat 3)] h2 = some (vB b0, h0)) :
  bB m 7 [] h = some ((vB b0, h0)) :=
 bY (qS [20, 25] [] [(3, 1, (vB b1)), (3, 4, (vS s0))] [(1, 2, LV.tup [aM l0, v0], h1), (2, 1, LV.tup [aM l1, aI i0, v1], h2), (3, 9, vB b0, h0)]) (tA k0 (tA k1 (tA k2 (tZ k3 (tA tT (tA k4 (uT2 (tZ k5 (tA tT (tA k6 (tA tT (tR ((vB b0, h0)))))))))))))) (by kernel_rfl)
end Go.Proofs.YthcjapmfchidhaaGreatDoor
namespace Go.Proofs.YthcjapmfchidhaaGreatDoor
set_option maxRecDepth 100000
open Go Go.Proofs.Am
variable {m p i0 i1 i2 i3 : Int} {xs bs : (LL)} {h h0 h1 h2 h3 h4 : Heap} {b0 b1 b2 : Bool} {l0 l1 : LL} {v0 : AV} {s0 s1 s2 : ByteArray}
end Go.Proofs.YthcjapmfchidhaaGreatDoor
namespace Go.Proofs.YthcjapmfchidhaaGreatDoor
set_option maxRecDepth 100000
open Go Go.Proofs.Am
variable {m o a b v t i0 : Int} {l bd el : LL} {q : Bool} {h h0 : Heap} {r : LV × Heap}
end Go.Proofs.YthcjapmfchidhaaGreatDoor
