/-
  What valid asks of imports, spaces, and of constants.
-/
import Derived.Test.YtoblgjmllmomhaaGreatDoorAmS15S
import Derived.KernelRfl
import Derived.Test.YtoblgjmllmomhaaGreatDoorAmSVzz
import Derived.Test.YtoblgjmllmomhaaGreatDoorAmSVI
import Derived.Test.YtoblgjmllmomhaaGreatDoorAmSVwC
import Derived.Test.YtoblgjmllmomhaaGreatDoorAmSVt
namespace Go.Proofs.YtoblgjmllmomhaaGreatDoor
set_option maxRecDepth 100000
open Go Go.Proofs.Am
variable {m st k t lo hi : Int} {ty im fu ta me gl ex el da cu : LL} {mo na : ByteArray} {mu has b0 b1 b2 b3 : Bool} {h h0 h1 h2 h3 : Heap}
theorem v64_0 (k0 : ltZ k (.ofNat 0) = true) :
  bB m 64 [mV ty im fu ta me gl ex st el da cu, vG [aS mo, aS na, aI k, aI t, aB mu, aI lo, aI hi, aB has]] h = some ((vF 56 (aI (.ofNat 4)), h)) :=
 bY (qS [9] [] [] []) (tZ k0 (uT3 (tR ((vF 56 (aI (.ofNat 4)), h))))) (by kernel_rfl)
theorem v64_1 (k0 : ltZ k (.ofNat 0) = false) (k1 : ltZ (.ofNat 3) k = true) :
  bB m 64 [mV ty im fu ta me gl ex st el da cu, vG [aS mo, aS na, aI k, aI t, aB mu, aI lo, aI hi, aB has]] h = some ((vF 56 (aI (.ofNat 4)), h)) :=
 bY (qS [1099993] [9] [] []) (tZ k0 (uF3 (tZ k1 (tR ((vF 56 (aI (.ofNat 4)), h)))))) (by kernel_rfl)
theorem v64_2 (k0 : ltZ k (.ofNat 0) = false) (k1 : ltZ (.ofNat 3) k = false) (k2 : eqZ k (.ofNat 0) = true) (k3 : cA m 69 [mV ty im fu ta me gl ex st el da cu, vI t] h = some (vB b0, h0)) (k4 : (!b0) = true) :
  bB m 64 [mV ty im fu ta me gl ex st el da cu, vG [aS mo, aS na, aI k, aI t, aB mu, aI lo, aI hi, aB has]] h = some ((vF 56 (aI (.ofNat 5)), h0)) :=
 bY (qS [19, 1099990] [9, 1099993] [] [(3, 7, vB b0, h0)]) (tZ k0 (uF3 (tZ k1 (tZ k2 (uT3 (tA k3 (uT2 (tZ k4 (tR ((vF 56 (aI (.ofNat 5)), h0))))))))))) (by kernel_rfl)
theorem v64_20 (k0 : ltZ k (.ofNat 0) = false) (k1 : ltZ (.ofNat 3) k = false) (k2 : eqZ k (.ofNat 0) = true) (k3 : cA m 69 [mV ty im fu ta me gl ex st el da cu, vI t] h = some (vB b0, h0)) (k4 : (!b0) = false) (k5 : eqZ k (.ofNat 3) = false) (k6 : eqZ k (.ofNat 1) = false) (k7 : eqZ k (.ofNat 2) = false) :
  bB m 64 [mV ty im fu ta me gl ex st el da cu, vG [aS mo, aS na, aI k, aI t, aB mu, aI lo, aI hi, aB has]] h = some ((LV.v AV.nilI, h0)) :=
 bY (qS [19] [9, 1099993, 1099990, 31, 45, 54] [] [(3, 7, vB b0, h0)]) (tZ k0 (uF3 (tZ k1 (tZ k2 (uT3 (tA k3 (uT2 (tZ k4 (tZ k5 (uF5 (tZ k6 (uF4 (tZ k7 (uF4 (tR ((LV.v AV.nilI, h0))))))))))))))))) (by kernel_rfl)
theorem v64_21 (k0 : ltZ k (.ofNat 0) = false) (k1 : ltZ (.ofNat 3) k = false) (k2 : eqZ k (.ofNat 0) = false) (k3 : eqZ k (.ofNat 3) = true) (k4 : cA m 63 [vI t] h = some (vB b0, h0)) (k5 : b0 = true) :
  bB m 64 [mV ty im fu ta me gl ex st el da cu, vG [aS mo, aS na, aI k, aI t, aB mu, aI lo, aI hi, aB has]] h = some ((vF 56 (aI (.ofNat 4)), h0)) :=
 bY (qS [31, 35] [9, 1099993, 19] [] [(5, 6, vB b0, h0)]) (tZ k0 (uF3 (tZ k1 (tZ k2 (uF5 (tZ k3 (uT2 (tA k4 (tA tT (tZ k5 (uT4 (tR ((vF 56 (aI (.ofNat 4)), h0)))))))))))))) (by kernel_rfl)
theorem v64_22 (k0 : ltZ k (.ofNat 0) = false) (k1 : ltZ (.ofNat 3) k = false) (k2 : eqZ k (.ofNat 0) = false) (k3 : eqZ k (.ofNat 3) = true) (k4 : cA m 63 [vI t] h = some (vB b0, h0)) (k5 : b0 = false) (k6 : mu = true) :
  bB m 64 [mV ty im fu ta me gl ex st el da cu, vG [aS mo, aS na, aI k, aI t, aB mu, aI lo, aI hi, aB has]] h = some ((vF 56 (aI (.ofNat 4)), h0)) :=
 bY (qS [31, 1099987] [9, 1099993, 19, 35] [] [(5, 6, vB b0, h0)]) (tZ k0 (uF3 (tZ k1 (tZ k2 (uF5 (tZ k3 (uT2 (tA k4 (tA tT (tZ k5 (tA tF (tA tT (tA tF (tA tT (tZ k6 (tR ((vF 56 (aI (.ofNat 4)), h0)))))))))))))))))) (by kernel_rfl)
theorem v64_30 (k0 : ltZ k (.ofNat 0) = false) (k1 : ltZ (.ofNat 3) k = false) (k2 : eqZ k (.ofNat 0) = false) (k3 : eqZ k (.ofNat 3) = true) (k4 : cA m 63 [vI t] h = some (vB b0, h0)) (k5 : b0 = false) (k6 : mu = false) (k7 : eqZ k (.ofNat 1) = false) (k8 : eqZ k (.ofNat 2) = false) :
  bB m 64 [mV ty im fu ta me gl ex st el da cu, vG [aS mo, aS na, aI k, aI t, aB mu, aI lo, aI hi, aB has]] h = some ((LV.v AV.nilI, h0)) :=
 bY (qS [31] [9, 1099993, 19, 35, 1099987, 45, 54] [] [(5, 6, vB b0, h0)]) (tZ k0 (uF3 (tZ k1 (tZ k2 (uF5 (tZ k3 (uT2 (tA k4 (tA tT (tZ k5 (tA tF (tA tT (tA tF (tA tT (tZ k6 (tZ k7 (uF4 (tZ k8 (uF4 (tR ((LV.v AV.nilI, h0)))))))))))))))))))))) (by kernel_rfl)
theorem v64_31 (k0 : ltZ k (.ofNat 0) = false) (k1 : ltZ (.ofNat 3) k = false) (k2 : eqZ k (.ofNat 0) = false) (k3 : eqZ k (.ofNat 3) = false) (k4 : eqZ k (.ofNat 1) = true) (k5 : cA m 67 [vG [aI lo, aI hi, aB has], vI (.ofNat 64)] h = some (vB b0, h0)) (k6 : (!b0) = true) :
  bB m 64 [mV ty im fu ta me gl ex st el da cu, vG [aS mo, aS na, aI k, aI t, aB mu, aI lo, aI hi, aB has]] h = some ((vF 56 (aI (.ofNat 7)), h0)) :=
 bY (qS [45, 1099983, 1099981] [9, 1099993, 19, 31] [] [(7, 6, vB b0, h0)]) (tZ k0 (uF3 (tZ k1 (tZ k2 (uF5 (tZ k3 (uF5 (tZ k4 (uT2 (tA k5 (uT2 (tZ k6 (tZ k6 (tR ((vF 56 (aI (.ofNat 7)), h0)))))))))))))))) (by kernel_rfl)
theorem v64_35 (k0 : ltZ k (.ofNat 0) = false) (k1 : ltZ (.ofNat 3) k = false) (k2 : eqZ k (.ofNat 0) = false) (k3 : eqZ k (.ofNat 3) = false) (k4 : eqZ k (.ofNat 1) = true) (k5 : cA m 67 [vG [aI lo, aI hi, aB has], vI (.ofNat 64)] h = some (vB b0, h0)) (k6 : (!b0) = false) (k7 : eqZ k (.ofNat 2) = false) :
  bB m 64 [mV ty im fu ta me gl ex st el da cu, vG [aS mo, aS na, aI k, aI t, aB mu, aI lo, aI hi, aB has]] h = some ((LV.v AV.nilI, h0)) :=
 bY (qS [45] [9, 1099993, 19, 31, 1099983, 54] [] [(7, 6, vB b0, h0)]) (tZ k0 (uF3 (tZ k1 (tZ k2 (uF5 (tZ k3 (uF5 (tZ k4 (uT2 (tA k5 (uT2 (tZ k6 (tZ k7 (uF4 (tR ((LV.v AV.nilI, h0))))))))))))))))) (by kernel_rfl)
theorem v64_36 (k0 : ltZ k (.ofNat 0) = false) (k1 : ltZ (.ofNat 3) k = false) (k2 : eqZ k (.ofNat 0) = false) (k3 : eqZ k (.ofNat 3) = false) (k4 : eqZ k (.ofNat 1) = false) (k5 : eqZ k (.ofNat 2) = true) (k6 : cA m 67 [vG [aI lo, aI hi, aB has], vI (.ofNat 16)] h = some (vB b0, h0)) (k7 : (!b0) = true) :
  bB m 64 [mV ty im fu ta me gl ex st el da cu, vG [aS mo, aS na, aI k, aI t, aB mu, aI lo, aI hi, aB has]] h = some ((vF 56 (aI (.ofNat 7)), h0)) :=
 bY (qS [54, 1099981] [9, 1099993, 19, 31, 45] [] [(8, 6, vB b0, h0)]) (tZ k0 (uF3 (tZ k1 (tZ k2 (uF5 (tZ k3 (uF5 (tZ k4 (uF4 (tZ k5 (uT2 (tA k6 (uT2 (tZ k7 (tR ((vF 56 (aI (.ofNat 7)), h0))))))))))))))))) (by kernel_rfl)
theorem v64_37 (k0 : ltZ k (.ofNat 0) = false) (k1 : ltZ (.ofNat 3) k = false) (k2 : eqZ k (.ofNat 0) = false) (k3 : eqZ k (.ofNat 3) = false) (k4 : eqZ k (.ofNat 1) = false) (k5 : eqZ k (.ofNat 2) = true) (k6 : cA m 67 [vG [aI lo, aI hi, aB has], vI (.ofNat 16)] h = some (vB b0, h0)) (k7 : (!b0) = false) :
  bB m 64 [mV ty im fu ta me gl ex st el da cu, vG [aS mo, aS na, aI k, aI t, aB mu, aI lo, aI hi, aB has]] h = some ((LV.v AV.nilI, h0)) :=
 bY (qS [54] [9, 1099993, 19, 31, 45, 1099981] [] [(8, 6, vB b0, h0)]) (tZ k0 (uF3 (tZ k1 (tZ k2 (uF5 (tZ k3 (uF5 (tZ k4 (uF4 (tZ k5 (uT2 (tA k6 (uT2 (tZ k7 (tR ((LV.v AV.nilI, h0))))))))))))))))) (by kernel_rfl)
end Go.Proofs.YtoblgjmllmomhaaGreatDoor
namespace Go.Proofs.YtoblgjmllmomhaaGreatDoor
set_option maxRecDepth 100000
open Go Go.Proofs.Am
variable {m st o a b v t w i0 i1 i2 i3 i4 : Int} {ty im fu ta me gl ex el da cu l bd eb l0 : LL} {q b0 b1 b2 b3 b4 b5 : Bool} {h h0 h1 h2 : Heap} {v0 v1 : AV} {s0 : ByteArray}
theorem v70_0 (k0 : (lookV o, h) = (LV.tup [AV.agg [aI i0, aS s0, aI i1, aM l0, aI i2, aI i3, aB b1], v0], h0)) (k1 : nE m v0 b0) (k2 : b0 = true) :
  bB m 70 [mV ty im fu ta me gl ex st el da cu, vG (nC o a b v t l bd eb q), vI w] h = some ((vF 56 (aI (.ofNat 4)), h0)) :=
 bY (qS [21] [] [(2, 1, (vB b0))] [(1, 2, LV.tup [AV.agg [aI i0, aS s0, aI i1, aM l0, aI i2, aI i3, aB b1], v0], h0)]) (tZ k0 (tA k1 (tZ k2 (uT4 (tR ((vF 56 (aI (.ofNat 4)), h0))))))) (by kernel_rfl)
theorem v70_1 (k0 : (lookV o, h) = (LV.tup [AV.agg [aI i0, aS s0, aI i1, aM l0, aI i2, aI i3, aB b2], v0], h1)) (k1 : nE m v0 b1) (k2 : b1 = false) (k3 : cA m 19 [vM [nC o a b v t l bd eb q]] h1 = some (vB b0, h0)) (k4 : (!b0) = true) :
  bB m 70 [mV ty im fu ta me gl ex st el da cu, vG (nC o a b v t l bd eb q), vI w] h = some ((vF 56 (aI (.ofNat 4)), h0)) :=
 bY (qS [1099991] [21] [(2, 1, (vB b1))] [(1, 2, LV.tup [AV.agg [aI i0, aS s0, aI i1, aM l0, aI i2, aI i3, aB b2], v0], h1), (2, 5, vB b0, h0)]) (tZ k0 (tA k1 (tZ k2 (uF2 (tA k3 (uF2 (tZ k4 (tR ((vF 56 (aI (.ofNat 4)), h0)))))))))) (by kernel_rfl)
theorem v70_2 (k0 : (lookV o, h) = (LV.tup [AV.agg [aI i2, aS s0, aI i0, aM l0, aI i1, aI i3, aB b2], v0], h1)) (k1 : nE m v0 b1) (k2 : b1 = false) (k3 : cA m 19 [vM [nC o a b v t l bd eb q]] h1 = some (vB b0, h0)) (k4 : (!b0) = false) (k5 : eqZ i0 (.ofNat 10) = true) (k6 : eqZ i1 w = true) :
  bB m 70 [mV ty im fu ta me gl ex st el da cu, vG (nC o a b v t l bd eb q), vI w] h = some ((LV.v AV.nilI, h0)) :=
 bY (qS [32, 1099988] [21, 1099991] [(2, 1, (vB b1))] [(1, 2, LV.tup [AV.agg [aI i2, aS s0, aI i0, aM l0, aI i1, aI i3, aB b2], v0], h1), (2, 5, vB b0, h0)]) (tZ k0 (tA k1 (tZ k2 (uF2 (tA k3 (uF2 (tZ k4 (tZ k5 (uT4 (tZ k6 (tR ((LV.v AV.nilI, h0))))))))))))) (by kernel_rfl)
theorem v70_3 (k0 : (lookV o, h) = (LV.tup [AV.agg [aI i2, aS s0, aI i0, aM l0, aI i1, aI i3, aB b2], v0], h1)) (k1 : nE m v0 b1) (k2 : b1 = false) (k3 : cA m 19 [vM [nC o a b v t l bd eb q]] h1 = some (vB b0, h0)) (k4 : (!b0) = false) (k5 : eqZ i0 (.ofNat 10) = true) (k6 : eqZ i1 w = false) (k7 : (!ByteArray.toList s0 == ByteArray.toList { data := #[103, 108, 111, 98, 97, 108, 46, 103, 101, 116] }) = true) :
  bB m 70 [mV ty im fu ta me gl ex st el da cu, vG (nC o a b v t l bd eb q), vI w] h = some ((vF 56 (aI (.ofNat 4)), h0)) :=
 bY (qS [32, 1099985] [21, 1099991, 1099988] [(2, 1, (vB b1))] [(1, 2, LV.tup [AV.agg [aI i2, aS s0, aI i0, aM l0, aI i1, aI i3, aB b2], v0], h1), (2, 5, vB b0, h0)]) (tZ k0 (tA k1 (tZ k2 (uF2 (tA k3 (uF2 (tZ k4 (tZ k5 (uT4 (tZ k6 (tZ k7 (tR ((vF 56 (aI (.ofNat 4)), h0)))))))))))))) (by kernel_rfl)
theorem v70_4 (k0 : (lookV o, h) = (LV.tup [AV.agg [aI i2, aS s0, aI i0, aM l0, aI i1, aI i3, aB b3], v0], h1)) (k1 : nE m v0 b1) (k2 : b1 = false) (k3 : cA m 19 [vM [nC o a b v t l bd eb q]] h1 = some (vB b0, h2)) (k4 : (!b0) = false) (k5 : eqZ i0 (.ofNat 10) = true) (k6 : eqZ i1 w = false) (k7 : (!ByteArray.toList s0 == ByteArray.toList { data := #[103, 108, 111, 98, 97, 108, 46, 103, 101, 116] }) = false) (k8 : cA m 112 [mV ty im fu ta me gl ex st el da cu, vI a] h2 = some (LV.tup [aI i4, aB b4, aB b5, v1], h0)) (k9 : nE m v1 b2) (k10 : b2 = true) :
  bB m 70 [mV ty im fu ta me gl ex st el da cu, vG (nC o a b v t l bd eb q), vI w] h = some ((vF 56 (aI (.ofNat 5)), h0)) :=
 bY (qS [32, 56] [21, 1099991, 1099988, 1099985] [(2, 1, (vB b1)), (9, 1, (vB b2))] [(1, 2, LV.tup [AV.agg [aI i2, aS s0, aI i0, aM l0, aI i1, aI i3, aB b3], v0], h1), (2, 5, vB b0, h2), (8, 4, LV.tup [aI i4, aB b4, aB b5, v1], h0)]) (tZ k0 (tA k1 (tZ k2 (uF2 (tA k3 (uF2 (tZ k4 (tZ k5 (uT4 (tZ k6 (tZ k7 (tA k8 (tA k9 (tZ k10 (uT2 (tR ((vF 56 (aI (.ofNat 5)), h0)))))))))))))))))) (by kernel_rfl)
theorem v70_5 (k0 : (lookV o, h) = (LV.tup [AV.agg [aI i2, aS s0, aI i0, aM l0, aI i1, aI i3, aB b4], v0], h1)) (k1 : nE m v0 b1) (k2 : b1 = false) (k3 : cA m 19 [vM [nC o a b v t l bd eb q]] h1 = some (vB b0, h2)) (k4 : (!b0) = false) (k5 : eqZ i0 (.ofNat 10) = true) (k6 : eqZ i1 w = false) (k7 : (!ByteArray.toList s0 == ByteArray.toList { data := #[103, 108, 111, 98, 97, 108, 46, 103, 101, 116] }) = false) (k8 : cA m 112 [mV ty im fu ta me gl ex st el da cu, vI a] h2 = some (LV.tup [aI i4, aB b5, aB b2, v1], h0)) (k9 : nE m v1 b3) (k10 : b3 = false) (k11 : (!b2) = true) :
  bB m 70 [mV ty im fu ta me gl ex st el da cu, vG (nC o a b v t l bd eb q), vI w] h = some ((vF 56 (aI (.ofNat 5)), h0)) :=
 bY (qS [32, 1099976] [21, 1099991, 1099988, 1099985, 56] [(2, 1, (vB b1)), (9, 1, (vB b3))] [(1, 2, LV.tup [AV.agg [aI i2, aS s0, aI i0, aM l0, aI i1, aI i3, aB b4], v0], h1), (2, 5, vB b0, h2), (8, 4, LV.tup [aI i4, aB b5, aB b2, v1], h0)]) (tZ k0 (tA k1 (tZ k2 (uF2 (tA k3 (uF2 (tZ k4 (tZ k5 (uT4 (tZ k6 (tZ k7 (tA k8 (tA k9 (tZ k10 (uF2 (tZ k11 (tR ((vF 56 (aI (.ofNat 5)), h0))))))))))))))))))) (by kernel_rfl)
theorem v70_6 (k0 : (lookV o, h) = (LV.tup [AV.agg [aI i3, aS s0, aI i0, aM l0, aI i1, aI i4, aB b4], v0], h1)) (k1 : nE m v0 b1) (k2 : b1 = false) (k3 : cA m 19 [vM [nC o a b v t l bd eb q]] h1 = some (vB b0, h2)) (k4 : (!b0) = false) (k5 : eqZ i0 (.ofNat 10) = true) (k6 : eqZ i1 w = false) (k7 : (!ByteArray.toList s0 == ByteArray.toList { data := #[103, 108, 111, 98, 97, 108, 46, 103, 101, 116] }) = false) (k8 : cA m 112 [mV ty im fu ta me gl ex st el da cu, vI a] h2 = some (LV.tup [aI i2, aB b5, aB b2, v1], h0)) (k9 : nE m v1 b3) (k10 : b3 = false) (k11 : (!b2) = false) (k12 : (!eqZ i2 w) = true) :
  bB m 70 [mV ty im fu ta me gl ex st el da cu, vG (nC o a b v t l bd eb q), vI w] h = some ((vF 56 (aI (.ofNat 4)), h0)) :=
 bY (qS [32, 1099973] [21, 1099991, 1099988, 1099985, 56, 1099976] [(2, 1, (vB b1)), (9, 1, (vB b3))] [(1, 2, LV.tup [AV.agg [aI i3, aS s0, aI i0, aM l0, aI i1, aI i4, aB b4], v0], h1), (2, 5, vB b0, h2), (8, 4, LV.tup [aI i2, aB b5, aB b2, v1], h0)]) (tZ k0 (tA k1 (tZ k2 (uF2 (tA k3 (uF2 (tZ k4 (tZ k5 (uT4 (tZ k6 (tZ k7 (tA k8 (tA k9 (tZ k10 (uF2 (tZ k11 (tZ k12 (tR ((vF 56 (aI (.ofNat 4)), h0)))))))))))))))))))) (by kernel_rfl)
theorem v70_7 (k0 : (lookV o, h) = (LV.tup [AV.agg [aI i3, aS s0, aI i0, aM l0, aI i1, aI i4, aB b4], v0], h1)) (k1 : nE m v0 b1) (k2 : b1 = false) (k3 : cA m 19 [vM [nC o a b v t l bd eb q]] h1 = some (vB b0, h2)) (k4 : (!b0) = false) (k5 : eqZ i0 (.ofNat 10) = true) (k6 : eqZ i1 w = false) (k7 : (!ByteArray.toList s0 == ByteArray.toList { data := #[103, 108, 111, 98, 97, 108, 46, 103, 101, 116] }) = false) (k8 : cA m 112 [mV ty im fu ta me gl ex st el da cu, vI a] h2 = some (LV.tup [aI i2, aB b5, aB b2, v1], h0)) (k9 : nE m v1 b3) (k10 : b3 = false) (k11 : (!b2) = false) (k12 : (!eqZ i2 w) = false) :
  bB m 70 [mV ty im fu ta me gl ex st el da cu, vG (nC o a b v t l bd eb q), vI w] h = some ((LV.v AV.nilI, h0)) :=
 bY (qS [32] [21, 1099991, 1099988, 1099985, 56, 1099976, 1099973] [(2, 1, (vB b1)), (9, 1, (vB b3))] [(1, 2, LV.tup [AV.agg [aI i3, aS s0, aI i0, aM l0, aI i1, aI i4, aB b4], v0], h1), (2, 5, vB b0, h2), (8, 4, LV.tup [aI i2, aB b5, aB b2, v1], h0)]) (tZ k0 (tA k1 (tZ k2 (uF2 (tA k3 (uF2 (tZ k4 (tZ k5 (uT4 (tZ k6 (tZ k7 (tA k8 (tA k9 (tZ k10 (uF2 (tZ k11 (tZ k12 (tR ((LV.v AV.nilI, h0)))))))))))))))))))) (by kernel_rfl)
theorem v70_8 (k0 : (lookV o, h) = (LV.tup [AV.agg [aI i1, aS s0, aI i0, aM l0, aI i2, aI i3, aB b2], v0], h1)) (k1 : nE m v0 b1) (k2 : b1 = false) (k3 : cA m 19 [vM [nC o a b v t l bd eb q]] h1 = some (vB b0, h0)) (k4 : (!b0) = false) (k5 : eqZ i0 (.ofNat 10) = false) (k6 : (!ByteArray.toList s0 == ByteArray.toList { data := #[103, 108, 111, 98, 97, 108, 46, 103, 101, 116] }) = true) :
  bB m 70 [mV ty im fu ta me gl ex st el da cu, vG (nC o a b v t l bd eb q), vI w] h = some ((vF 56 (aI (.ofNat 4)), h0)) :=
 bY (qS [1099985] [21, 1099991, 32] [(2, 1, (vB b1))] [(1, 2, LV.tup [AV.agg [aI i1, aS s0, aI i0, aM l0, aI i2, aI i3, aB b2], v0], h1), (2, 5, vB b0, h0)]) (tZ k0 (tA k1 (tZ k2 (uF2 (tA k3 (uF2 (tZ k4 (tZ k5 (uF4 (tZ k6 (tR ((vF 56 (aI (.ofNat 4)), h0))))))))))))) (by kernel_rfl)
theorem v70_9 (k0 : (lookV o, h) = (LV.tup [AV.agg [aI i1, aS s0, aI i0, aM l0, aI i2, aI i3, aB b3], v0], h1)) (k1 : nE m v0 b1) (k2 : b1 = false) (k3 : cA m 19 [vM [nC o a b v t l bd eb q]] h1 = some (vB b0, h2)) (k4 : (!b0) = false) (k5 : eqZ i0 (.ofNat 10) = false) (k6 : (!ByteArray.toList s0 == ByteArray.toList { data := #[103, 108, 111, 98, 97, 108, 46, 103, 101, 116] }) = false) (k7 : cA m 112 [mV ty im fu ta me gl ex st el da cu, vI a] h2 = some (LV.tup [aI i4, aB b4, aB b5, v1], h0)) (k8 : nE m v1 b2) (k9 : b2 = true) :
  bB m 70 [mV ty im fu ta me gl ex st el da cu, vG (nC o a b v t l bd eb q), vI w] h = some ((vF 56 (aI (.ofNat 5)), h0)) :=
 bY (qS [56] [21, 1099991, 32, 1099985] [(2, 1, (vB b1)), (9, 1, (vB b2))] [(1, 2, LV.tup [AV.agg [aI i1, aS s0, aI i0, aM l0, aI i2, aI i3, aB b3], v0], h1), (2, 5, vB b0, h2), (8, 4, LV.tup [aI i4, aB b4, aB b5, v1], h0)]) (tZ k0 (tA k1 (tZ k2 (uF2 (tA k3 (uF2 (tZ k4 (tZ k5 (uF4 (tZ k6 (tA k7 (tA k8 (tZ k9 (uT2 (tR ((vF 56 (aI (.ofNat 5)), h0))))))))))))))))) (by kernel_rfl)
theorem v70_10 (k0 : (lookV o, h) = (LV.tup [AV.agg [aI i1, aS s0, aI i0, aM l0, aI i2, aI i3, aB b4], v0], h1)) (k1 : nE m v0 b1) (k2 : b1 = false) (k3 : cA m 19 [vM [nC o a b v t l bd eb q]] h1 = some (vB b0, h2)) (k4 : (!b0) = false) (k5 : eqZ i0 (.ofNat 10) = false) (k6 : (!ByteArray.toList s0 == ByteArray.toList { data := #[103, 108, 111, 98, 97, 108, 46, 103, 101, 116] }) = false) (k7 : cA m 112 [mV ty im fu ta me gl ex st el da cu, vI a] h2 = some (LV.tup [aI i4, aB b5, aB b2, v1], h0)) (k8 : nE m v1 b3) (k9 : b3 = false) (k10 : (!b2) = true) :
  bB m 70 [mV ty im fu ta me gl ex st el da cu, vG (nC o a b v t l bd eb q), vI w] h = some ((vF 56 (aI (.ofNat 5)), h0)) :=
 bY (qS [1099976] [21, 1099991, 32, 1099985, 56] [(2, 1, (vB b1)), (9, 1, (vB b3))] [(1, 2, LV.tup [AV.agg [aI i1, aS s0, aI i0, aM l0, aI i2, aI i3, aB b4], v0], h1), (2, 5, vB b0, h2), (8, 4, LV.tup [aI i4, aB b5, aB b2, v1], h0)]) (tZ k0 (tA k1 (tZ k2 (uF2 (tA k3 (uF2 (tZ k4 (tZ k5 (uF4 (tZ k6 (tA k7 (tA k8 (tZ k9 (uF2 (tZ k10 (tR ((vF 56 (aI (.ofNat 5)), h0)))))))))))))))))) (by kernel_rfl)
theorem v70_11 (k0 : (lookV o, h) = (LV.tup [AV.agg [aI i2, aS s0, aI i0, aM l0, aI i3, aI i4, aB b4], v0], h1)) (k1 : nE m v0 b1) (k2 : b1 = false) (k3 : cA m 19 [vM [nC o a b v t l bd eb q]] h1 = some (vB b0, h2)) (k4 : (!b0) = false) (k5 : eqZ i0 (.ofNat 10) = false) (k6 : (!ByteArray.toList s0 == ByteArray.toList { data := #[103, 108, 111, 98, 97, 108, 46, 103, 101, 116] }) = false) (k7 : cA m 112 [mV ty im fu ta me gl ex st el da cu, vI a] h2 = some (LV.tup [aI i1, aB b5, aB b2, v1], h0)) (k8 : nE m v1 b3) (k9 : b3 = false) (k10 : (!b2) = false) (k11 : (!eqZ i1 w) = true) :
  bB m 70 [mV ty im fu ta me gl ex st el da cu, vG (nC o a b v t l bd eb q), vI w] h = some ((vF 56 (aI (.ofNat 4)), h0)) :=
 bY (qS [1099973] [21, 1099991, 32, 1099985, 56, 1099976] [(2, 1, (vB b1)), (9, 1, (vB b3))] [(1, 2, LV.tup [AV.agg [aI i2, aS s0, aI i0, aM l0, aI i3, aI i4, aB b4], v0], h1), (2, 5, vB b0, h2), (8, 4, LV.tup [aI i1, aB b5, aB b2, v1], h0)]) (tZ k0 (tA k1 (tZ k2 (uF2 (tA k3 (uF2 (tZ k4 (tZ k5 (uF4 (tZ k6 (tA k7 (tA k8 (tZ k9 (uF2 (tZ k10 (tZ k11 (tR ((vF 56 (aI (.ofNat 4)), h0))))))))))))))))))) (by kernel_rfl)
theorem v70_12 (k0 : (lookV o, h) = (LV.tup [AV.agg [aI i2, aS s0, aI i0, aM l0, aI i3, aI i4, aB b4], v0], h1)) (k1 : nE m v0 b1) (k2 : b1 = false) (k3 : cA m 19 [vM [nC o a b v t l bd eb q]] h1 = some (vB b0, h2)) (k4 : (!b0) = false) (k5 : eqZ i0 (.ofNat 10) = false) (k6 : (!ByteArray.toList s0 == ByteArray.toList { data := #[103, 108, 111, 98, 97, 108, 46, 103, 101, 116] }) = false) (k7 : cA m 112 [mV ty im fu ta me gl ex st el da cu, vI a] h2 = some (LV.tup [aI i1, aB b5, aB b2, v1], h0)) (k8 : nE m v1 b3) (k9 : b3 = false) (k10 : (!b2) = false) (k11 : (!eqZ i1 w) = false) :
  bB m 70 [mV ty im fu ta me gl ex st el da cu, vG (nC o a b v t l bd eb q), vI w] h = some ((LV.v AV.nilI, h0)) :=
 bY (qS [] [21, 1099991, 32, 1099985, 56, 1099976, 1099973] [(2, 1, (vB b1)), (9, 1, (vB b3))] [(1, 2, LV.tup [AV.agg [aI i2, aS s0, aI i0, aM l0, aI i3, aI i4, aB b4], v0], h1), (2, 5, vB b0, h2), (8, 4, LV.tup [aI i1, aB b5, aB b2, v1], h0)]) (tZ k0 (tA k1 (tZ k2 (uF2 (tA k3 (uF2 (tZ k4 (tZ k5 (uF4 (tZ k6 (tA k7 (tA k8 (tZ k9 (uF2 (tZ k10 (tZ k11 (tR ((LV.v AV.nilI, h0))))))))))))))))))) (by kernel_rfl)
end Go.Proofs.YtoblgjmllmomhaaGreatDoor
namespace Go.Proofs.YtoblgjmllmomhaaGreatDoor
set_option maxRecDepth 100000
open Go Go.RowKit Go.Proofs.Am
theorem t28 (m : Int) (l : List Int) (hl : FitL 8 InZ l) (h : Heap) : CALL m 37 [.v (.imm (encN l))] h = some (.v (.imm (encN l)), h) := by
 have hb : (intsB (encN l) && Nat.ble ((encN l).length * 8) 140737488355328) = true := by
  rw [Bool.and_eq_true]
  refine ⟨?_, Nat.ble_eq_true_of_le ?_⟩
  ·unfold intsB encN
   rw [List.all_map]
   exact List.all_eq_true.2 fun _ _ => rfl
  ·have := hl.1
   have e : reachBytes = 140737488351232 := rfl
   rw [encN_len]; omega
 refine (callF_ext (e := cloneE) rfl rfl (x := .v (.imm (encN l))) ?_)
 simp only [cloneE, hb, cond_true]
def errN : AV := .ifc 56 (.int .i64 (Int.ofNat 5))
def tyAns (M : Mdl) (i : Int) : LV :=
 match (fT M i).bind (tyOf M) with
 | some y => .tup [.agg y.enc, .nilI]
 | none => .tup [.agg [.imm [], .imm []], errN]
theorem t13 (m : Int) {M : Mdl} (hM : Small M) (i : Int) (h : Heap) : CALL m 73 [eM M, .v (.int .i64 i)] h = some (tyAns M i, h) := by
 refine callZ rfl (by kernel_rfl) (by kernel_rfl) ?_
 have c11 := t11 m hM 0 h
 have c26 := t26 m hM 0 h
 have l1 := impK_len hM 0
 have l2 := hM.fu
 have hlen : (rawL M).length = (impK M 0).length + ownK M 0 := by simp [rawL, ownK]
 unfold tyAns fT
 cases h0 : ltZ i (Int.ofNat 0) with
 | true => exact s13_0 (k0 := h0) ..
 | false =>
  rw [cond_false]
  cases h1 : leZ (Int.ofNat ((impK M 0).length + ownK M 0)) i with
  | true =>
   rw [ge_none hlen h1]
   exact s13_1 (k0 := h0) (k1 := c11) (k2 := h1) ..
  | false =>
   obtain ⟨t, ht, hi⟩ := lt_some hlen h0 h1
   have hu : i.toNat < (impK M 0).length + M.fu.length := by
    have := (List.getElem?_eq_some_iff.1 ht).1
    rw [hlen] at this
    exact this
   rw [ht, Option.bind_some]
   unfold rawL at ht
   by_cases hlt : i.toNat < (impK M 0).length
   ·have k4 : ltZ i (Int.ofNat ((impK M 0).map Imp.enc).length) = true := ltZ_t (by rw [List.length_map, ofN]; omega)
    rw [List.getElem?_append_left (by simpa using hlt), List.getElem?_map, Option.map_eq_some_iff] at ht
    obtain ⟨x, hx, rfl⟩ := ht
    have k5 : ixA (.imm ((impK M 0).map Imp.enc)) i 8 = some x.enc := ix_mapZ hi hx x.enc_len
    cases hy : tyOf M x.t with
    | none =>
     rcases ty_none hy with e1 | ⟨e1, e2⟩
     ·exact s13_2 (k0 := h0) (k1 := c11) (k2 := h1) (k3 := c26) (k4 := k4) (k5 := k5) (k6 := e1) ..
     ·exact s13_3 (k0 := h0) (k1 := c11) (k2 := h1) (k3 := c26) (k4 := k4) (k5 := k5) (k6 := e1) (k7 := e2) ..
    | some y =>
     obtain ⟨e1, e2, e3, e4⟩ := ty_ans hM hy
     exact s13_4 (k0 := h0) (k1 := c11) (k2 := h1) (k3 := c26) (k4 := k4) (k5 := k5) (k6 := e1) (k7 := e2) (k8 := e3) (k9 := t28 m _ e4.1 h) (k10 := e3) (k11 := t28 m _ e4.2 h) ..
   ·have k4 : ltZ i (Int.ofNat ((impK M 0).map Imp.enc).length) = false := ltZ_f (by rw [List.length_map, ofN]; omega)
    rw [List.getElem?_append_right (by simpa using hlt), List.getElem?_map, Option.map_eq_some_iff, List.length_map] at ht
    obtain ⟨x, hx, rfl⟩ := ht
    have e : IntKind.wrap .i64 (i - Int.ofNat ((impK M 0).map Imp.enc).length) = ((i.toNat - (impK M 0).length : Nat) : Int) := by
     rw [List.length_map, ofN, wrapI (by unfold InZ; omega)]; omega
    have k5 : ixA (.imm (M.fu.map MFn.enc)) (IntKind.wrap .i64 (i - Int.ofNat ((impK M 0).map Imp.enc).length)) 3 = some x.enc := by
     rw [e]
     exact ix_mapZ (by omega) (by rw [Int.toNat_natCast]; exact hx) x.enc_len
    cases hy : tyOf M x.t with
    | none =>
     rcases ty_none hy with e1 | ⟨e1, e2⟩
     ·exact s13_5 (k0 := h0) (k1 := c11) (k2 := h1) (k3 := c26) (k4 := k4) (k5 := k5) (k6 := e1) ..
     ·exact s13_6 (k0 := h0) (k1 := c11) (k2 := h1) (k3 := c26) (k4 := k4) (k5 := k5) (k6 := e1) (k7 := e2) ..
    | some y =>
     obtain ⟨e1, e2, e3, e4⟩ := ty_ans hM hy
     exact s13_7 (k0 := h0) (k1 := c11) (k2 := h1) (k3 := c26) (k4 := k4) (k5 := k5) (k6 := e1) (k7 := e2) (k8 := e3) (k9 := t28 m _ e4.1 h) (k10 := e3) (k11 := t28 m _ e4.2 h) ..
def gL (M : Mdl) : List (Int × Bool × Bool) := (impK M 3).map (fun x => (x.t, x.mu, true)) ++ M.gl.map (fun x => (x.t, x.mu, false))
def gT (M : Mdl) (i : Int) : Option (Int × Bool × Bool) := bif ltZ i (Int.ofNat 0) then none else (gL M)[i.toNat]?
def gAns (M : Mdl) (i : Int) : LV :=
 match gT M i with
 | some (t, q, far) => .tup [.int .i64 t, .bool q, .bool far, .nilI]
 | none => .tup [.int .i64 (Int.ofNat 0), .bool false, .bool false, errN]
theorem t16 (m : Int) {M : Mdl} (hM : Small M) (i : Int) (h : Heap) : CALL m 112 [eM M, .v (.int .i64 i)] h = some (gAns M i, h) := by
 refine callZ rfl (by kernel_rfl) (by kernel_rfl) ?_
 have c26 := t26 m hM 3 h
 have l1 := impK_len hM 3
 have l2 := hM.gl
 have hlen : (gL M).length = (impK M 3).length + M.gl.length := by simp [gL]
 have hw : IntKind.wrap .i64 (Int.ofNat (((impK M 3).map Imp.enc).length + (M.gl.map Glo.enc).length)) = Int.ofNat ((impK M 3).length + M.gl.length) := by
  rw [List.length_map, List.length_map]
  exact wrapI (by unfold InZ; rw [ofN]; omega)
 unfold gAns gT
 cases h0 : ltZ i (Int.ofNat 0) with
 | true => exact s16_0 (k0 := c26) (k1 := h0) ..
 | false =>
  rw [cond_false]
  cases h1 : leZ (Int.ofNat ((impK M 3).length + M.gl.length)) i with
  | true =>
   rw [ge_none hlen h1]
   exact s16_1 (k0 := c26) (k1 := h0) (k2 := by rw [hw]; exact h1) ..
  | false =>
   obtain ⟨t, ht, hi⟩ := lt_some hlen h0 h1
   rw [ht]
   have hu := (List.getElem?_eq_some_iff.1 ht).1
   rw [hlen] at hu
   unfold gL at ht
   by_cases hlt : i.toNat < (impK M 3).length
   ·have k4 : ltZ i (Int.ofNat ((impK M 3).map Imp.enc).length) = true := ltZ_t (by rw [List.length_map, ofN]; omega)
    rw [List.getElem?_append_left (by simpa using hlt), List.getElem?_map, Option.map_eq_some_iff] at ht
    obtain ⟨x, hx, rfl⟩ := ht
    have k5 : ixA (.imm ((impK M 3).map Imp.enc)) i 8 = some x.enc := ix_mapZ hi hx x.enc_len
    exact s16_2 (k0 := c26) (k1 := h0) (k2 := by rw [hw]; exact h1) (k3 := k4) (k4 := k5) (k5 := k5) ..
   ·have k4 : ltZ i (Int.ofNat ((impK M 3).map Imp.enc).length) = false := ltZ_f (by rw [List.length_map, ofN]; omega)
    rw [List.getElem?_append_right (by simpa using hlt), List.getElem?_map, Option.map_eq_some_iff, List.length_map] at ht
    obtain ⟨x, hx, rfl⟩ := ht
    have e : IntKind.wrap .i64 (i - Int.ofNat ((impK M 3).map Imp.enc).length) = ((i.toNat - (impK M 3).length : Nat) : Int) := by
     rw [List.length_map, ofN, wrapI (by unfold InZ; omega)]; omega
    have k5 : ixA (.imm (M.gl.map Glo.enc)) (IntKind.wrap .i64 (i - Int.ofNat ((impK M 3).map Imp.enc).length)) 11 = some x.enc := by
     rw [e]
     exact ix_mapZ (by omega) (by rw [Int.toNat_natCast]; exact hx) x.enc_len
    obtain ⟨t, q, ⟨o, a, b, v, tt, l, bd, el, qq⟩⟩ := x
    exact s16_3 (k0 := c26) (k1 := h0) (k2 := by rw [hw]; exact h1) (k3 := k4) (k4 := k5) ..
end Go.Proofs.YtoblgjmllmomhaaGreatDoor
namespace Go.Proofs.YtoblgjmllmomhaaGreatDoor
set_option maxRecDepth 100000
open Go Go.RowKit Go.Proofs.Am
section
variable {m : Int} {h : Heap}
def impE (M : Mdl) (x : Imp) : Option Int :=
 if x.k < 0 then some 4 else if 3 < x.k then some 4
 else if x.k = 0 then (if typB M x.t = true then none else some 5)
 else if x.k = 3 then (if odd x.t = true then some 4 else if x.mu = true then some 4 else none)
 else if x.k = 1 then (if limB x.l 64 = true then none else some 7)
 else if limB x.l 16 = true then none else some 7
theorem imp_Z (M : Mdl) (x : Imp) : callF (cxZ m) (blk (cxZ m)) 64 [eM M, .v (.agg x.enc)] h = some (.v (errA (impE M x)), h) := by
 have c1 := typ_Z (m := m) (h := h) M x.t
 have c2 := odd63_Z (m := m) (h := h) x.t
 have c3 := lim_Z (m := m) (h := h) x.l 64
 have c4 := lim_Z (m := m) (h := h) x.l 16
 obtain ⟨mo, na, k, t, mu, ⟨lo, hi, hs⟩⟩ := x
 unfold impE
 simp only at c1 c2 c3 c4 ⊢
 by_cases h0 : k < 0
 ·rw [if_pos h0]
  exact callF_of rfl rfl (by kernel_rfl) (v64_0 (k0 := ltZ_t (b := Int.ofNat 0) h0))
 rw [if_neg h0]
 have k0 : ltZ k (Int.ofNat 0) = false := ltZ_f (b := Int.ofNat 0) (Int.not_lt.1 h0)
 by_cases h3 : 3 < k
 ·rw [if_pos h3]
  exact callF_of rfl rfl (by kernel_rfl) (v64_1 (k0 := k0) (k1 := ltZ_t (a := Int.ofNat 3) h3))
 rw [if_neg h3]
 have k1 : ltZ (Int.ofNat 3) k = false := ltZ_f (a := Int.ofNat 3) (Int.not_lt.1 h3)
 by_cases e0 : k = 0
 ·rw [if_pos e0]
  subst e0
  cases q : typB M t with
  | false =>
   rw [q] at c1
   exact callF_of rfl rfl (by kernel_rfl) (v64_2 (k0 := k0) (k1 := k1) (k2 := rfl) (k3 := c1) (k4 := rfl))
  | true =>
   rw [q] at c1
   exact callF_of rfl rfl (by kernel_rfl) (v64_20 (k0 := k0) (k1 := k1) (k2 := rfl) (k3 := c1) (k4 := rfl) (k5 := rfl) (k6 := rfl) (k7 := rfl))
 rw [if_neg e0]
 have k2 : eqZ k (Int.ofNat 0) = false := eqZ_f (b := Int.ofNat 0) e0
 by_cases e3 : k = 3
 ·rw [if_pos e3]
  subst e3
  cases q : odd t with
  | true =>
   rw [q] at c2
   exact callF_of rfl rfl (by kernel_rfl) (v64_21 (k0 := k0) (k1 := k1) (k2 := k2) (k3 := rfl) (k4 := c2) (k5 := rfl))
  | false =>
   rw [q] at c2
   cases mu with
   | true => exact callF_of rfl rfl (by kernel_rfl) (v64_22 (k0 := k0) (k1 := k1) (k2 := k2) (k3 := rfl) (k4 := c2) (k5 := rfl) (k6 := rfl))
   | false => exact callF_of rfl rfl (by kernel_rfl) (v64_30 (k0 := k0) (k1 := k1) (k2 := k2) (k3 := rfl) (k4 := c2) (k5 := rfl) (k6 := rfl) (k7 := rfl) (k8 := rfl))
 rw [if_neg e3]
 have k3 : eqZ k (Int.ofNat 3) = false := eqZ_f (b := Int.ofNat 3) e3
 by_cases e1 : k = 1
 ·rw [if_pos e1]
  subst e1
  cases q : limB ⟨lo, hi, hs⟩ 64 with
  | false =>
   rw [q] at c3
   exact callF_of rfl rfl (by kernel_rfl) (v64_31 (k0 := k0) (k1 := k1) (k2 := k2) (k3 := k3) (k4 := rfl) (k5 := c3) (k6 := rfl))
  | true =>
   rw [q] at c3
   exact callF_of rfl rfl (by kernel_rfl) (v64_35 (k0 := k0) (k1 := k1) (k2 := k2) (k3 := k3) (k4 := rfl) (k5 := c3) (k6 := rfl) (k7 := rfl))
 rw [if_neg e1]
 have e2 : k = 2 := by omega
 subst e2
 cases q : limB ⟨lo, hi, hs⟩ 16 with
 | false =>
  rw [q] at c4
  exact callF_of rfl rfl (by kernel_rfl) (v64_36 (k0 := k0) (k1 := k1) (k2 := k2) (k3 := k3) (k4 := rfl) (k5 := rfl) (k6 := c4) (k7 := rfl))
 | true =>
  rw [q] at c4
  exact callF_of rfl rfl (by kernel_rfl) (v64_37 (k0 := k0) (k1 := k1) (k2 := k2) (k3 := k3) (k4 := rfl) (k5 := rfl) (k6 := c4) (k7 := rfl))
def spN (M : Mdl) (k : Int) : Nat := (impK M k).length + ownK M k
theorem sp_Z {M : Mdl} (hS : Small M) (k : Int) (h : Heap) : callF (cxZ m) (blk (cxZ m)) 36 [eM M, .v (.int .i64 k)] h = some (.v (.int .i64 (Int.ofNat (spN M k))), h) := t11 m hS k h
def funE (M : Mdl) (x : MFn) : Option Int := if typB M x.t = true then (if x.l.any odd = true then some 4 else none) else some 5
theorem spc14 {M : Mdl} (hM : Bk M) : ∀ (d i : Nat), i + d = M.fu.length →
  blk (cxZ m) 29 (at_ Tryz.prog 29 14) ([.lp 0 0, .v (.imm (M.fu.map MFn.enc)), .v (.int .i64 (Int.ofNat M.fu.length)), .v (.int .i64 (Int.ofNat i))] ++ mC M) h = some (.v (errA (firstE (funE M) (M.fu.drop i))), h)
 | 0, i, hi => by
  rw [List.drop_of_length_le (by omega)]
  exact v29_14_3 (k0 := ltZ_f (by rw [ofN, ofN]; omega))
 | d + 1, i, hi => by
  have hx : M.fu[i]? = some M.fu[i] := List.getElem?_eq_getElem (by omega)
  have hm := hM.fl M.fu[i] (List.getElem_mem _)
  have hfu := hM.fu
  have k0 : ltZ (Int.ofNat i) (Int.ofNat M.fu.length) = true := ltZ_t (by rw [ofN, ofN]; omega)
  rw [drop_get hx]
  have ih := spc14 hM d (i + 1) (by omega)
  generalize M.fu[i] = x at hx hm ⊢
  have k1 : ixA (.imm (M.fu.map MFn.enc)) (Int.ofNat i) 3 = some x.enc := ix_map hx x.enc_len
  have c1 := typ_Z (m := m) (h := h) M x.t
  have c2 := odds63_Z (m := m) (h := h) (l := x.l) (by omega)
  unfold firstE funE
  cases q : typB M x.t with
  | false =>
   rw [q] at c1
   exact v29_14_0 (k0 := k0) (k1 := k1) (k2 := c1) (k3 := rfl)
  | true =>
   rw [q] at c1
   cases q2 : x.l.any odd with
   | true =>
    rw [q2] at c2
    exact v29_14_1 (k0 := k0) (k1 := k1) (k2 := c1) (k3 := rfl) (k4 := c2) (k5 := rfl)
   | false =>
    rw [q2] at c2
    exact v29_14_2 (k0 := k0) (k1 := k1) (k2 := c1) (k3 := rfl) (k4 := c2) (k5 := rfl) (k6 := by rw [wrapS (by omega)]; exact ih)
def sp2E (M : Mdl) : Option Int :=
 if (M.ta.any fun x => !limB x 64) = true then some 7 else if (M.me.any fun x => !limB x 16) = true then some 7
 else if 1 < spN M 1 then some 6 else if 1 < spN M 2 then some 6 else firstE (funE M) M.fu
theorem spc2 {M : Mdl} (hM : Bk M) (hS : Small M) : ∀ (d i : Nat), i + d = M.im.length →
  blk (cxZ m) 29 (at_ Tryz.prog 29 2) ([.lp 0 0, .v (.imm (M.im.map Imp.enc)), .v (.int .i64 (Int.ofNat M.im.length)), .v (.int .i64 (Int.ofNat i))] ++ mC M) h = some (.v (errA (orE (firstE (impE M) (M.im.drop i)) (sp2E M))), h)
 | 0, i, hi => by
  rw [List.drop_of_length_le (by omega)]
  have k0 : ltZ (Int.ofNat i) (Int.ofNat M.im.length) = false := ltZ_f (by rw [ofN, ofN]; omega)
  have c1 := tabs_Z (m := m) (h := h) (l := M.ta) (by have := hM.ta; omega)
  have c2 := mems_Z (m := m) (h := h) (l := M.me) (by have := hM.me; omega)
  have c3 := sp_Z (m := m) hS 1 h
  have c4 := sp_Z (m := m) hS 2 h
  have c5 := spc14 (m := m) (h := h) hM M.fu.length 0 (by omega)
  unfold firstE orE sp2E
  simp only
  cases q1 : M.ta.any fun x => !limB x 64 with
  | true => rw [q1] at c1; exact v29_2_2 (k0 := k0) (k1 := c1) (k2 := rfl)
  | false =>
   rw [q1] at c1
   cases q2 : M.me.any fun x => !limB x 16 with
   | true => rw [q2] at c2; exact v29_2_3 (k0 := k0) (k1 := c1) (k2 := rfl) (k3 := c2) (k4 := rfl)
   | false =>
    rw [q2] at c2
    rw [if_neg (by decide), if_neg (by decide)]
    by_cases q3 : 1 < spN M 1
    ·rw [if_pos q3]
     exact v29_2_4 (k0 := k0) (k1 := c1) (k2 := rfl) (k3 := c2) (k4 := rfl) (k5 := c3) (k6 := ltZ_t (by rw [ofN, ofN]; omega))
    ·rw [if_neg q3]
     by_cases q4 : 1 < spN M 2
     ·rw [if_pos q4]
      exact v29_2_5 (k0 := k0) (k1 := c1) (k2 := rfl) (k3 := c2) (k4 := rfl) (k5 := c3) (k6 := ltZ_f (by rw [ofN, ofN]; omega)) (k7 := c4) (k8 := ltZ_t (by rw [ofN, ofN]; omega))
     ·rw [if_neg q4]
      exact v29_2_6 (k0 := k0) (k1 := c1) (k2 := rfl) (k3 := c2) (k4 := rfl) (k5 := c3) (k6 := ltZ_f (by rw [ofN, ofN]; omega)) (k7 := c4) (k8 := ltZ_f (by rw [ofN, ofN]; omega)) (k9 := by rw [List.length_map]; exact c5)
 | d + 1, i, hi => by
  have hx : M.im[i]? = some M.im[i] := List.getElem?_eq_getElem (by omega)
  have him := hM.im
  have k0 : ltZ (Int.ofNat i) (Int.ofNat M.im.length) = true := ltZ_t (by rw [ofN, ofN]; omega)
  rw [drop_get hx]
  have ih := spc2 hM hS d (i + 1) (by omega)
  generalize M.im[i] = x at hx ⊢
  have k1 : ixA (.imm (M.im.map Imp.enc)) (Int.ofNat i) 8 = some x.enc := ix_map hx x.enc_len
  have c1 := imp_Z (m := m) (h := h) M x
  have hq := err_neq (impE M x)
  rw [firstE]
  cases q : impE M x with
  | some c =>
   rw [q] at c1 hq
   obtain ⟨mo, na, k, t, mu, ⟨lo, hi, hs⟩⟩ := x
   exact v29_2_0 (k0 := k0) (k1 := k1) (k2 := c1) (k3 := hq) (k4 := rfl)
  | none =>
   rw [q] at c1 hq
   obtain ⟨mo, na, k, t, mu, ⟨lo, hi, hs⟩⟩ := x
   exact v29_2_1 (k0 := k0) (k1 := k1) (k2 := c1) (k3 := hq) (k4 := rfl) (k5 := by rw [wrapS (by omega)]; exact ih)
def spE (M : Mdl) : Option Int := orE (firstE (impE M) M.im) (sp2E M)
theorem spaces_Z {M : Mdl} (hM : Bk M) (hS : Small M) (h : Heap) : callF (cxZ m) (blk (cxZ m)) 29 [eM M] h = some (.v (errA (spE M)), h) := by
 have := spc2 (m := m) (h := h) hM hS M.im.length 0 (by omega)
 exact callF_of rfl rfl (by kernel_rfl) (v29_0 (k0 := by rw [List.length_map]; exact this))
def ggB (r : OpR) : Bool := r.nm.toList == (ByteArray.mk #[103, 108, 111, 98, 97, 108, 46, 103, 101, 116]).toList
def conG (M : Mdl) (a w : Int) : Option Int :=
 match gT M a with
 | some (k, _, far) => if far = true then (if k = w then none else some 4) else some 5
 | none => some 5
def conR (M : Mdl) (o a : Int) (x : Ins) (w : Int) : Option Int :=
 match opI o with
 | none => some 4
 | some r => if mayL opI [x] = true then (if r.kind = 10 ∧ r.gives = w then none else if ggB r = true then conG M a w else some 4) else some 4
def conE (M : Mdl) : Ins → Int → Option Int
 | .mk o a b v t l bd el q, w => conR M o a (.mk o a b v t l bd el q) w
theorem con_Z {M : Mdl} (hS : Small M) {x : Ins} (hx : cL [x] < 2 ^ 62) (w : Int) : callF (cxZ m) (blk (cxZ m)) 70 [eM M, .v (.agg (encI x)), .v (.int .i64 w)] h = some (.v (errA (conE M x w)), h) := by
 have cm := mayL_Z (m := m) hx h
 obtain ⟨o, a, b, v, t, l, bd, el, q⟩ := x
 unfold conE conR
 simp only
 cases hop : opI o with
 | none =>
  rcases look_cases o with ⟨_, _, _, hr, _⟩ | ⟨_, hno⟩
  ·rw [hop] at hr; cases hr
  obtain ⟨ob, nm, k, tk, gv, bz, sg, c, hlk⟩ := isNo_eq hno
  have hlk2 : (lookV o, h) = (LV.tup [opA ob nm k tk gv bz sg, errA (some c)], h) := by rw [hlk]; rfl
  exact callF_of rfl rfl (by kernel_rfl) (v70_0 (k0 := hlk2) (k1 := err_neq (some c)) (k2 := rfl))
 | some r =>
  have k0 : (lookV o, h) = (LV.tup [opA r.byte r.nm r.kind (encN r.takes) r.gives r.bytes r.sg, .nilI], h) := by
   have := opP_some hop
   unfold opI at *
   rw [this]
  have k1 := err_neq none
  simp only
  cases qm : mayL opI [.mk o a b v t l bd el q] with
  | false =>
   rw [qm] at cm
   exact callF_of rfl rfl (by kernel_rfl) (v70_1 (k0 := k0) (k1 := k1) (k2 := rfl) (k3 := cm) (k4 := rfl))
  | true =>
   rw [qm] at cm
   rw [if_pos rfl]
   have cg := t16 m hS a h
   unfold gAns at cg
   have hgg : (!ByteArray.toList r.nm == ByteArray.toList { data := #[103, 108, 111, 98, 97, 108, 46, 103, 101, 116] }) = !ggB r := rfl
   by_cases h10 : r.kind = 10
   ·have e10 := eqZ_t (b := Int.ofNat 10) h10
    by_cases hg : r.gives = w
    ·rw [if_pos ⟨h10, hg⟩]
     exact callF_of rfl rfl (by kernel_rfl) (v70_2 (k0 := k0) (k1 := k1) (k2 := rfl) (k3 := cm) (k4 := rfl) (k5 := e10) (k6 := eqZ_t hg))
    ·rw [if_neg (fun hh => hg hh.2)]
     have eg := eqZ_f hg
     cases qg : ggB r with
     | false =>
      rw [qg] at hgg
      exact callF_of rfl rfl (by kernel_rfl) (v70_3 (k0 := k0) (k1 := k1) (k2 := rfl) (k3 := cm) (k4 := rfl) (k5 := e10) (k6 := eg) (k7 := hgg))
     | true =>
      rw [qg] at hgg
      rw [if_pos rfl]
      unfold conG
      cases hgt : gT M a with
      | none =>
       rw [hgt] at cg
       exact callF_of rfl rfl (by kernel_rfl) (v70_4 (k0 := k0) (k1 := k1) (k2 := rfl) (k3 := cm) (k4 := rfl) (k5 := e10) (k6 := eg) (k7 := hgg) (k8 := cg) (k9 := err_neq (some 5)) (k10 := rfl))
      | some y =>
       obtain ⟨gk, gq, far⟩ := y
       rw [hgt] at cg
       simp only at cg ⊢
       cases far with
       | false => exact callF_of rfl rfl (by kernel_rfl) (v70_5 (k0 := k0) (k1 := k1) (k2 := rfl) (k3 := cm) (k4 := rfl) (k5 := e10) (k6 := eg) (k7 := hgg) (k8 := cg) (k9 := k1) (k10 := rfl) (k11 := rfl))
       | true =>
        rw [if_pos rfl]
        by_cases hk : gk = w
        ·rw [if_pos hk]
         exact callF_of rfl rfl (by kernel_rfl) (v70_7 (k0 := k0) (k1 := k1) (k2 := rfl) (k3 := cm) (k4 := rfl) (k5 := e10) (k6 := eg) (k7 := hgg) (k8 := cg) (k9 := k1) (k10 := rfl) (k11 := rfl) (k12 := congrArg not (eqZ_t hk)))
        ·rw [if_neg hk]
         exact callF_of rfl rfl (by kernel_rfl) (v70_6 (k0 := k0) (k1 := k1) (k2 := rfl) (k3 := cm) (k4 := rfl) (k5 := e10) (k6 := eg) (k7 := hgg) (k8 := cg) (k9 := k1) (k10 := rfl) (k11 := rfl) (k12 := congrArg not (eqZ_f hk)))
   ·have e10 := eqZ_f (b := Int.ofNat 10) h10
    rw [if_neg (fun hh => h10 hh.1)]
    cases qg : ggB r with
    | false =>
     rw [qg] at hgg
     exact callF_of rfl rfl (by kernel_rfl) (v70_8 (k0 := k0) (k1 := k1) (k2 := rfl) (k3 := cm) (k4 := rfl) (k5 := e10) (k6 := hgg))
    | true =>
     rw [qg] at hgg
     rw [if_pos rfl]
     unfold conG
     cases hgt : gT M a with
     | none =>
      rw [hgt] at cg
      exact callF_of rfl rfl (by kernel_rfl) (v70_9 (k0 := k0) (k1 := k1) (k2 := rfl) (k3 := cm) (k4 := rfl) (k5 := e10) (k6 := hgg) (k7 := cg) (k8 := err_neq (some 5)) (k9 := rfl))
     | some y =>
      obtain ⟨gk, gq, far⟩ := y
      rw [hgt] at cg
      simp only at cg ⊢
      cases far with
      | false => exact callF_of rfl rfl (by kernel_rfl) (v70_10 (k0 := k0) (k1 := k1) (k2 := rfl) (k3 := cm) (k4 := rfl) (k5 := e10) (k6 := hgg) (k7 := cg) (k8 := k1) (k9 := rfl) (k10 := rfl))
      | true =>
       rw [if_pos rfl]
       by_cases hk : gk = w
       ·rw [if_pos hk]
        exact callF_of rfl rfl (by kernel_rfl) (v70_12 (k0 := k0) (k1 := k1) (k2 := rfl) (k3 := cm) (k4 := rfl) (k5 := e10) (k6 := hgg) (k7 := cg) (k8 := k1) (k9 := rfl) (k10 := rfl) (k11 := congrArg not (eqZ_t hk)))
       ·rw [if_neg hk]
        exact callF_of rfl rfl (by kernel_rfl) (v70_11 (k0 := k0) (k1 := k1) (k2 := rfl) (k3 := cm) (k4 := rfl) (k5 := e10) (k6 := hgg) (k7 := cg) (k8 := k1) (k9 := rfl) (k10 := rfl) (k11 := congrArg not (eqZ_f hk)))
end
end Go.Proofs.YtoblgjmllmomhaaGreatDoor
