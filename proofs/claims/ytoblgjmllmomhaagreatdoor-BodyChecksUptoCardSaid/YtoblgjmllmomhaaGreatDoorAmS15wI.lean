/-
  Ways through texts, one by one (printed by a program of this repo).
-/
import Derived.Test.YtoblgjmllmomhaaGreatDoorAmS15S
import Derived.KernelRfl
namespace Go.Proofs.YtoblgjmllmomhaaGreatDoor
open Go Go.Proofs.Am
variable {m o a b v t n i0 i1 i2 i3 i4 : Int} {l bd el xs l0 l1 l2 : LL} {q b0 b1 b2 : Bool} {h h0 h1 h2 : Heap} {fv : AV} {r : LV × Heap} {i : Nat}
theorem w36_0 (k0 : eqZ a (.ofNat 0) = true) (k1 : eqZ b (.ofNat 0) = true) (k2 : eqZ v (.ofNat 0) = true) (k3 : eqZ t (.ofNat 0) = true) (k4 : eqZ (.ofNat l.length) (.ofNat 0) = true) (k5 : eqZ (.ofNat bd.length) (.ofNat 0) = true) (k6 : eqZ (.ofNat el.length) (.ofNat 0) = true) :
  bB m 84 [vG (nC o a b v t l bd el q)] h = some ((vB !q, h)) :=
 bY (qS [6, 11, 16, 21, 27, 33, 39] [] [] []) (tZ k0 (uT3 (tZ k1 (uT3 (tZ k2 (uT3 (tZ k3 (uT4 (tZ k4 (uT4 (tZ k5 (uT4 (tZ k6 (uT3 (tR ((vB !q, h))))))))))))))))) (by kernel_rfl)
theorem w36_1 (k0 : eqZ a (.ofNat 0) = true) (k1 : eqZ b (.ofNat 0) = true) (k2 : eqZ v (.ofNat 0) = true) (k3 : eqZ t (.ofNat 0) = true) (k4 : eqZ (.ofNat l.length) (.ofNat 0) = true) (k5 : eqZ (.ofNat bd.length) (.ofNat 0) = true) (k6 : eqZ (.ofNat el.length) (.ofNat 0) = false) :
  bB m 84 [vG (nC o a b v t l bd el q)] h = some ((vB false, h)) :=
 bY (qS [6, 11, 16, 21, 27, 33] [39] [] []) (tZ k0 (uT3 (tZ k1 (uT3 (tZ k2 (uT3 (tZ k3 (uT4 (tZ k4 (uT4 (tZ k5 (uT4 (tZ k6 (uF3 (tR ((vB false, h))))))))))))))))) (by kernel_rfl)
theorem w36_2 (k0 : eqZ a (.ofNat 0) = true) (k1 : eqZ b (.ofNat 0) = true) (k2 : eqZ v (.ofNat 0) = true) (k3 : eqZ t (.ofNat 0) = true) (k4 : eqZ (.ofNat l.length) (.ofNat 0) = true) (k5 : eqZ (.ofNat bd.length) (.ofNat 0) = false) :
  bB m 84 [vG (nC o a b v t l bd el q)] h = some ((vB false, h)) :=
 bY (qS [6, 11, 16, 21, 27] [33] [] []) (tZ k0 (uT3 (tZ k1 (uT3 (tZ k2 (uT3 (tZ k3 (uT4 (tZ k4 (uT4 (tZ k5 (uF4 (tR ((vB false, h))))))))))))))) (by kernel_rfl)
theorem w36_3 (k0 : eqZ a (.ofNat 0) = true) (k1 : eqZ b (.ofNat 0) = true) (k2 : eqZ v (.ofNat 0) = true) (k3 : eqZ t (.ofNat 0) = true) (k4 : eqZ (.ofNat l.length) (.ofNat 0) = false) :
  bB m 84 [vG (nC o a b v t l bd el q)] h = some ((vB false, h)) :=
 bY (qS [6, 11, 16, 21] [27] [] []) (tZ k0 (uT3 (tZ k1 (uT3 (tZ k2 (uT3 (tZ k3 (uT4 (tZ k4 (uF4 (tR ((vB false, h))))))))))))) (by kernel_rfl)
theorem w36_4 (k0 : eqZ a (.ofNat 0) = true) (k1 : eqZ b (.ofNat 0) = true) (k2 : eqZ v (.ofNat 0) = true) (k3 : eqZ t (.ofNat 0) = false) :
  bB m 84 [vG (nC o a b v t l bd el q)] h = some ((vB false, h)) :=
 bY (qS [6, 11, 16] [21] [] []) (tZ k0 (uT3 (tZ k1 (uT3 (tZ k2 (uT3 (tZ k3 (uF4 (tR ((vB false, h))))))))))) (by kernel_rfl)
theorem w36_5 (k0 : eqZ a (.ofNat 0) = true) (k1 : eqZ b (.ofNat 0) = true) (k2 : eqZ v (.ofNat 0) = false) :
  bB m 84 [vG (nC o a b v t l bd el q)] h = some ((vB false, h)) :=
 bY (qS [6, 11] [16] [] []) (tZ k0 (uT3 (tZ k1 (uT3 (tZ k2 (uF3 (tR ((vB false, h))))))))) (by kernel_rfl)
theorem w36_6 (k0 : eqZ a (.ofNat 0) = true) (k1 : eqZ b (.ofNat 0) = false) :
  bB m 84 [vG (nC o a b v t l bd el q)] h = some ((vB false, h)) :=
 bY (qS [6] [11] [] []) (tZ k0 (uT3 (tZ k1 (uF3 (tR ((vB false, h))))))) (by kernel_rfl)
theorem w36_7 (k0 : eqZ a (.ofNat 0) = false) :
  bB m 84 [vG (nC o a b v t l bd el q)] h = some ((vB false, h)) :=
 bY (qS [] [6] [] []) (tZ k0 (uF3 (tR ((vB false, h))))) (by kernel_rfl)
theorem w34_0 (k0 : leZ (.ofNat 0) n = true) :
  bB m 82 [vI n] h = some ((vB (leZ n (.ofNat 4294967295)), h)) :=
 bY (qS [5] [] [] []) (tZ k0 (uT2 (tR ((vB (leZ n (.ofNat 4294967295)), h))))) (by kernel_rfl)
theorem w34_1 (k0 : leZ (.ofNat 0) n = false) :
  bB m 82 [vI n] h = some ((vB false, h)) :=
 bY (qS [] [5] [] []) (tZ k0 (uF2 (tR ((vB false, h))))) (by kernel_rfl)
theorem w35_0 (k0 : cA m 82 [vI n] h = some (vB b0, h0)) :
  bB m 83 [vI n] h = some ((vB !b0, h0)) :=
 bY (qS [] [] [] [(1, 1, vB b0, h0)]) (tA k0 (tR ((vB !b0, h0)))) (by kernel_rfl)
theorem w33_0 (k0 : ltZ t (.ofNat 0) = true) :
  bB m 81 [vG (nC o a b v t l bd el q)] h = some ((vB false, h)) :=
 bY (qS [6] [] [] []) (tZ k0 (uT3 (tR ((vB false, h))))) (by kernel_rfl)
theorem w33_1 (k0 : ltZ t (.ofNat 0) = false) (k1 : ltZ (.ofNat 2) t = true) :
  bB m 81 [vG (nC o a b v t l bd el q)] h = some ((vB false, h)) :=
 bY (qS [11] [6] [] []) (tZ k0 (uF3 (tZ k1 (uT4 (tR ((vB false, h))))))) (by kernel_rfl)
theorem w33_2 (k0 : ltZ t (.ofNat 0) = false) (k1 : ltZ (.ofNat 2) t = false) (k2 : cA m 19 [vM bd] h = some (vB b0, h0)) (k3 : (!b0) = true) :
  bB m 81 [vG (nC o a b v t l bd el q)] h = some ((vB false, h0)) :=
 bY (qS [17] [6, 11] [] [(1, 11, vB b0, h0)]) (tZ k0 (uF3 (tZ k1 (uF2 (tA k2 (uF2 (tZ k3 (uT4 (tR ((vB false, h0))))))))))) (by kernel_rfl)
theorem w33_3 (k0 : ltZ t (.ofNat 0) = false) (k1 : ltZ (.ofNat 2) t = false) (k2 : cA m 19 [vM bd] h = some (vB b1, h1)) (k3 : (!b1) = false) (k4 : cA m 19 [vM el] h1 = some (vB b0, h0)) (k5 : (!b0) = true) :
  bB m 81 [vG (nC o a b v t l bd el q)] h = some ((vB false, h0)) :=
 bY (qS [22] [6, 11, 17] [] [(1, 11, vB b1, h1), (1, 17, vB b0, h0)]) (tZ k0 (uF3 (tZ k1 (uF2 (tA k2 (uF2 (tZ k3 (uF2 (tA k4 (uF2 (tZ k5 (tR ((vB false, h0)))))))))))))) (by kernel_rfl)
theorem w33_4 (k0 : ltZ t (.ofNat 0) = false) (k1 : ltZ (.ofNat 2) t = false) (k2 : cA m 19 [vM bd] h = some (vB b1, h1)) (k3 : (!b1) = false) (k4 : cA m 19 [vM el] h1 = some (vB b0, h0)) (k5 : (!b0) = false) (k6 : (!eqZ o (.ofNat 4)) = true) (k7 : q = true) :
  bB m 81 [vG (nC o a b v t l bd el q)] h = some ((vB false, h0)) :=
 bY (qS [26, 30] [6, 11, 17, 22] [] [(1, 11, vB b1, h1), (1, 17, vB b0, h0)]) (tZ k0 (uF3 (tZ k1 (uF2 (tA k2 (uF2 (tZ k3 (uF2 (tA k4 (uF2 (tZ k5 (tZ k6 (uT2 (tZ k7 (uT5 (tR ((vB false, h0)))))))))))))))))) (by kernel_rfl)
theorem w33_5 (k0 : ltZ t (.ofNat 0) = false) (k1 : ltZ (.ofNat 2) t = false) (k2 : cA m 19 [vM bd] h = some (vB b1, h1)) (k3 : (!b1) = false) (k4 : cA m 19 [vM el] h1 = some (vB b0, h0)) (k5 : (!b0) = false) (k6 : (!eqZ o (.ofNat 4)) = true) (k7 : q = false) (k8 : (!q) = true) (k9 : ltZ (.ofNat 0) (.ofNat el.length) = true) :
  bB m 81 [vG (nC o a b v t l bd el q)] h = some ((vB false, h0)) :=
 bY (qS [26, 34, 40] [6, 11, 17, 22, 30] [] [(1, 11, vB b1, h1), (1, 17, vB b0, h0)]) (tZ k0 (uF3 (tZ k1 (uF2 (tA k2 (uF2 (tZ k3 (uF2 (tA k4 (uF2 (tZ k5 (tZ k6 (uT2 (tZ k7 (uF3 (tZ k8 (uT3 (tA tF (tA tT (tA tF (tZ k9 (tR ((vB false, h0)))))))))))))))))))))))) (by kernel_rfl)
theorem w33_6 (k0 : ltZ t (.ofNat 0) = false) (k1 : ltZ (.ofNat 2) t = false) (k2 : cA m 19 [vM bd] h = some (vB b1, h1)) (k3 : (!b1) = false) (k4 : cA m 19 [vM el] h1 = some (vB b2, h2)) (k5 : (!b2) = false) (k6 : (!eqZ o (.ofNat 4)) = true) (k7 : q = false) (k8 : (!q) = true) (k9 : ltZ (.ofNat 0) (.ofNat el.length) = false) (k10 : cA m 84 [vG [aI o, aI a, aI b, AV.int IntKind.u64 v, aI (.ofNat 0), aM l, aM [], aM [], aB false]] h2 = some (vB b0, h0)) :
  bB m 81 [vG (nC o a b v t l bd el q)] h = some ((vB b0, h0)) :=
 bY (qS [26, 34] [6, 11, 17, 22, 30, 40] [] [(1, 11, vB b1, h1), (1, 17, vB b2, h2), (6, 1, vB b0, h0)]) (tZ k0 (uF3 (tZ k1 (uF2 (tA k2 (uF2 (tZ k3 (uF2 (tA k4 (uF2 (tZ k5 (tZ k6 (uT2 (tZ k7 (uF3 (tZ k8 (uT3 (tA tF (tA tT (tA tF (tZ k9 (tA k10 (tR ((vB b0, h0))))))))))))))))))))))))) (by kernel_rfl)
theorem w33_8 (k0 : ltZ t (.ofNat 0) = false) (k1 : ltZ (.ofNat 2) t = false) (k2 : cA m 19 [vM bd] h = some (vB b1, h1)) (k3 : (!b1) = false) (k4 : cA m 19 [vM el] h1 = some (vB b0, h0)) (k5 : (!b0) = false) (k6 : (!eqZ o (.ofNat 4)) = false) (k7 : (!q) = true) (k8 : ltZ (.ofNat 0) (.ofNat el.length) = true) :
  bB m 81 [vG (nC o a b v t l bd el q)] h = some ((vB false, h0)) :=
 bY (qS [34, 40] [6, 11, 17, 22, 26] [] [(1, 11, vB b1, h1), (1, 17, vB b0, h0)]) (tZ k0 (uF3 (tZ k1 (uF2 (tA k2 (uF2 (tZ k3 (uF2 (tA k4 (uF2 (tZ k5 (tZ k6 (uF2 (tZ k7 (uT4 (tZ k8 (tR ((vB false, h0))))))))))))))))))) (by kernel_rfl)
theorem w33_9 (k0 : ltZ t (.ofNat 0) = false) (k1 : ltZ (.ofNat 2) t = false) (k2 : cA m 19 [vM bd] h = some (vB b1, h1)) (k3 : (!b1) = false) (k4 : cA m 19 [vM el] h1 = some (vB b2, h2)) (k5 : (!b2) = false) (k6 : (!eqZ o (.ofNat 4)) = false) (k7 : (!q) = true) (k8 : ltZ (.ofNat 0) (.ofNat el.length) = false) (k9 : cA m 84 [vG [aI o, aI a, aI b, AV.int IntKind.u64 v, aI (.ofNat 0), aM l, aM [], aM [], aB false]] h2 = some (vB b0, h0)) :
  bB m 81 [vG (nC o a b v t l bd el q)] h = some ((vB b0, h0)) :=
 bY (qS [34] [6, 11, 17, 22, 26, 40] [] [(1, 11, vB b1, h1), (1, 17, vB b2, h2), (6, 1, vB b0, h0)]) (tZ k0 (uF3 (tZ k1 (uF2 (tA k2 (uF2 (tZ k3 (uF2 (tA k4 (uF2 (tZ k5 (tZ k6 (uF2 (tZ k7 (uT4 (tZ k8 (tA k9 (tR ((vB b0, h0)))))))))))))))))))) (by kernel_rfl)
theorem w33_10 (k0 : ltZ t (.ofNat 0) = false) (k1 : ltZ (.ofNat 2) t = false) (k2 : cA m 19 [vM bd] h = some (vB b1, h1)) (k3 : (!b1) = false) (k4 : cA m 19 [vM el] h1 = some (vB b2, h2)) (k5 : (!b2) = false) (k6 : (!eqZ o (.ofNat 4)) = false) (k7 : (!q) = false) (k8 : cA m 84 [vG [aI o, aI a, aI b, AV.int IntKind.u64 v, aI (.ofNat 0), aM l, aM [], aM [], aB false]] h2 = some (vB b0, h0)) :
  bB m 81 [vG (nC o a b v t l bd el q)] h = some ((vB b0, h0)) :=
 bY (qS [] [6, 11, 17, 22, 26, 34] [] [(1, 11, vB b1, h1), (1, 17, vB b2, h2), (6, 1, vB b0, h0)]) (tZ k0 (uF3 (tZ k1 (uF2 (tA k2 (uF2 (tZ k3 (uF2 (tA k4 (uF2 (tZ k5 (tZ k6 (uF2 (tZ k7 (uF4 (tA k8 (tR ((vB b0, h0))))))))))))))))))) (by kernel_rfl)
theorem w18_0 (k0 : cA m 44 [vG (nC o a b v t l bd el q)] h = some (vB b0, h0)) :
  bB m 43 [vG (nC o a b v t l bd el q)] h = some ((vB !b0, h0)) :=
 bY (qS [] [] [] [(1, 1, vB b0, h0)]) (tA k0 (tR ((vB !b0, h0)))) (by kernel_rfl)
theorem w13_0 (k0 : cA m 42 [vM xs, LV.v (AV.fn 43 [] [])] h = some (vB b0, h0)) :
  bB m 19 [vM xs] h = some ((vB !b0, h0)) :=
 bY (qS [] [] [] [(1, 1, vB b0, h0)]) (tA k0 (tR ((vB !b0, h0)))) (by kernel_rfl)
theorem w17_0 (k0 : cA m 79 [vM xs, LV.v fv] h = some (vI i0, h0)) :
  bB m 42 [vM xs, .v fv] h = some ((vB (leZ (.ofNat 0) i0), h0)) :=
 bY (qS [] [] [] [(1, 2, vI i0, h0)]) (tA k0 (tR ((vB (leZ (.ofNat 0) i0), h0)))) (by kernel_rfl)
theorem w31_0 (k0 : bA m 79 2 [vM xs, LV.v fv, vI (.ofNat xs.length), vI (.ofNat 0)] h = some r) :
  bB m 79 [vM xs, .v fv] h = some r :=
 bY (qS [] [] [] []) (tA t1 (k0)) (by kernel_rfl)
theorem w31_2_0 (k0 : ltZ (.ofNat i) n = true) (k1 : ixA (aM xs) (.ofNat i) 9 = some (nC i0 i1 i2 i3 i4 l0 l1 l2 b1)) (k2 : cV m fv [vG (nC i0 i1 i2 i3 i4 l0 l1 l2 b1)] h = some (vB b0, h0)) (k3 : b0 = true) :
  bA m 79 2 [vM xs, .v fv, vI n, vI i] h = some ((vI (.ofNat i), h0)) :=
 bY (qS [9, 16] [] [(4, 3, (LV.v (AV.snap (nC i0 i1 i2 i3 i4 l0 l1 l2 b1))))] [(4, 5, vB b0, h0)]) (tZ k0 (tA (tA t0 (tA tN (k1))) (tA k2 (tZ k3 (tR ((vI (.ofNat i), h0))))))) (by kernel_rfl)
theorem w31_2_1 (k0 : ltZ (.ofNat i) n = true) (k1 : ixA (aM xs) (.ofNat i) 9 = some (nC i0 i1 i2 i3 i4 l0 l1 l2 b1)) (k2 : cV m fv [vG (nC i0 i1 i2 i3 i4 l0 l1 l2 b1)] h = some (vB b0, h0)) (k3 : b0 = false) (k4 : bA m 79 2 [vM xs, LV.v fv, vI n, vI (IntKind.wrap .i64 (.ofNat (Nat.succ i)))] h0 = some r) :
  bA m 79 2 [vM xs, .v fv, vI n, vI i] h = some r :=
 bY (qS [9] [16] [(4, 3, (LV.v (AV.snap (nC i0 i1 i2 i3 i4 l0 l1 l2 b1))))] [(4, 5, vB b0, h0)]) (tZ k0 (tA (tA t0 (tA tN (k1))) (tA k2 (tZ k3 (tA t1 (k4)))))) (by kernel_rfl)
theorem w31_2_2 (k0 : ltZ (.ofNat i) n = false) :
  bA m 79 2 [vM xs, .v fv, vI n, vI i] h = some ((vI (Int.negSucc 0), h)) :=
 bY (qS [] [9] [] []) (tZ k0 (tR ((vI (Int.negSucc 0), h)))) (by kernel_rfl)
theorem w22_0 (k0 : cA m 86 [vM xs, LV.v fv] h = some (vI i0, h0)) :
  bB m 47 [vM xs, .v fv] h = some ((vB (leZ (.ofNat 0) i0), h0)) :=
 bY (qS [] [] [] [(1, 2, vI i0, h0)]) (tA k0 (tR ((vB (leZ (.ofNat 0) i0), h0)))) (by kernel_rfl)
theorem w38_0 (k0 : bA m 86 2 [vM xs, LV.v fv, vI (.ofNat xs.length), vI (.ofNat 0)] h = some r) :
  bB m 86 [vM xs, .v fv] h = some r :=
 bY (qS [] [] [] []) (tA t1 (k0)) (by kernel_rfl)
theorem w38_2_0 (k0 : ltZ (.ofNat i) n = true) (k1 : ixA (aM xs) (.ofNat i) 1 = some [aI i0]) (k2 : cV m fv [vI i0] h = some (vB b0, h0)) (k3 : b0 = true) :
  bA m 86 2 [vM xs, .v fv, vI n, vI i] h = some ((vI (.ofNat i), h0)) :=
 bY (qS [9, 16] [] [(4, 3, (LV.v (AV.snap [aI i0])))] [(4, 5, vB b0, h0)]) (tZ k0 (tA (tA t0 (tA tN (k1))) (tA k2 (tZ k3 (tR ((vI (.ofNat i), h0))))))) (by kernel_rfl)
theorem w38_2_1 (k0 : ltZ (.ofNat i) n = true) (k1 : ixA (aM xs) (.ofNat i) 1 = some [aI i0]) (k2 : cV m fv [vI i0] h = some (vB b0, h0)) (k3 : b0 = false) (k4 : bA m 86 2 [vM xs, LV.v fv, vI n, vI (IntKind.wrap .i64 (.ofNat (Nat.succ i)))] h0 = some r) :
  bA m 86 2 [vM xs, .v fv, vI n, vI i] h = some r :=
 bY (qS [9] [16] [(4, 3, (LV.v (AV.snap [aI i0])))] [(4, 5, vB b0, h0)]) (tZ k0 (tA (tA t0 (tA tN (k1))) (tA k2 (tZ k3 (tA t1 (k4)))))) (by kernel_rfl)
theorem w38_2_2 (k0 : ltZ (.ofNat i) n = false) :
  bA m 86 2 [vM xs, .v fv, vI n, vI i] h = some ((vI (Int.negSucc 0), h)) :=
 bY (qS [] [9] [] []) (tZ k0 (tR ((vI (Int.negSucc 0), h)))) (by kernel_rfl)
end Go.Proofs.YtoblgjmllmomhaaGreatDoor
namespace Go.Proofs.YtoblgjmllmomhaaGreatDoor
open Go Go.Proofs.Am
variable {m o a b v t i0 i1 i2 i3 : Int} {l bd el l0 : LL} {q b0 b1 b2 b3 b4 : Bool} {h h0 h1 h2 h3 : Heap} {v0 : AV} {s0 : ByteArray}
theorem w19_0 (k0 : (lookV o, h) = (LV.tup [AV.agg [aI i0, aS s0, aI i1, aM l0, aI i2, aI i3, aB b1], v0], h0)) (k1 : nE m v0 b0) (k2 : b0 = true) :
  bB m 44 [vG (nC o a b v t l bd el q)] h = some ((vB false, h0)) :=
 bY (qS [12] [] [(2, 1, (vB b0))] [(1, 2, LV.tup [AV.agg [aI i0, aS s0, aI i1, aM l0, aI i2, aI i3, aB b1], v0], h0)]) (tZ k0 (tA k1 (tZ k2 (tR ((vB false, h0)))))) (by kernel_rfl)
theorem w19_1 (k0 : (lookV o, h) = (LV.tup [AV.agg [aI i1, aS s0, aI i0, aM l0, aI i2, aI i3, aB b2], v0], h1)) (k1 : nE m v0 b1) (k2 : b1 = false) (k3 : eqZ i0 (.ofNat 2) = true) (k4 : cA m 81 [vG (nC o a b v t l bd el q)] h1 = some (vB b0, h0)) :
  bB m 44 [vG (nC o a b v t l bd el q)] h = some ((vB b0, h0)) :=
 bY (qS [13] [12] [(2, 1, (vB b1))] [(1, 2, LV.tup [AV.agg [aI i1, aS s0, aI i0, aM l0, aI i2, aI i3, aB b2], v0], h1), (5, 1, vB b0, h0)]) (tZ k0 (tA k1 (tZ k2 (tZ k3 (tA k4 (tR ((vB b0, h0)))))))) (by kernel_rfl)
theorem w19_2 (k0 : (lookV o, h) = (LV.tup [AV.agg [aI i2, aS s0, aI i0, aM l0, aI i1, aI i3, aB b1], v0], h0)) (k1 : nE m v0 b0) (k2 : b0 = false) (k3 : eqZ i0 (.ofNat 2) = false) (k4 : eqZ i0 (.ofNat 10) = true) (k5 : eqZ i1 (.ofNat 1) = true) (k6 : ltZ (.ofNat 4294967295) v = true) :
  bB m 44 [vG (nC o a b v t l bd el q)] h = some ((vB false, h0)) :=
 bY (qS [19, 26, 30] [12, 13] [(2, 1, (vB b0))] [(1, 2, LV.tup [AV.agg [aI i2, aS s0, aI i0, aM l0, aI i1, aI i3, aB b1], v0], h0)]) (tZ k0 (tA k1 (tZ k2 (tZ k3 (tZ k4 (tZ k5 (uT3 (tZ k6 (tR ((vB false, h0))))))))))) (by kernel_rfl)
theorem w19_3 (k0 : (lookV o, h) = (LV.tup [AV.agg [aI i2, aS s0, aI i0, aM l0, aI i1, aI i3, aB b2], v0], h1)) (k1 : nE m v0 b1) (k2 : b1 = false) (k3 : eqZ i0 (.ofNat 2) = false) (k4 : eqZ i0 (.ofNat 10) = true) (k5 : eqZ i1 (.ofNat 1) = true) (k6 : ltZ (.ofNat 4294967295) v = false) (k7 : cA m 84 [vG [aI o, aI a, aI b, AV.int IntKind.u64 (.ofNat 0), aI t, aM l, aM bd, aM el, aB q]] h1 = some (vB b0, h0)) :
  bB m 44 [vG (nC o a b v t l bd el q)] h = some ((vB b0, h0)) :=
 bY (qS [19, 26] [12, 13, 30] [(2, 1, (vB b1))] [(1, 2, LV.tup [AV.agg [aI i2, aS s0, aI i0, aM l0, aI i1, aI i3, aB b2], v0], h1), (22, 1, vB b0, h0)]) (tZ k0 (tA k1 (tZ k2 (tZ k3 (tZ k4 (tZ k5 (uT3 (tZ k6 (tA k7 (tR ((vB b0, h0)))))))))))) (by kernel_rfl)
theorem w19_4 (k0 : (lookV o, h) = (LV.tup [AV.agg [aI i2, aS s0, aI i0, aM l0, aI i1, aI i3, aB b2], v0], h1)) (k1 : nE m v0 b1) (k2 : b1 = false) (k3 : eqZ i0 (.ofNat 2) = false) (k4 : eqZ i0 (.ofNat 10) = true) (k5 : eqZ i1 (.ofNat 1) = false) (k6 : cA m 84 [vG [aI o, aI a, aI b, AV.int IntKind.u64 (.ofNat 0), aI t, aM l, aM bd, aM el, aB q]] h1 = some (vB b0, h0)) :
  bB m 44 [vG (nC o a b v t l bd el q)] h = some ((vB b0, h0)) :=
 bY (qS [19] [12, 13, 26] [(2, 1, (vB b1))] [(1, 2, LV.tup [AV.agg [aI i2, aS s0, aI i0, aM l0, aI i1, aI i3, aB b2], v0], h1), (22, 1, vB b0, h0)]) (tZ k0 (tA k1 (tZ k2 (tZ k3 (tZ k4 (tZ k5 (uF3 (tA k6 (tR ((vB b0, h0))))))))))) (by kernel_rfl)
theorem w19_5 (k0 : (lookV o, h) = (LV.tup [AV.agg [aI i1, aS s0, aI i0, aM l0, aI i2, aI i3, aB b2], v0], h1)) (k1 : nE m v0 b1) (k2 : b1 = false) (k3 : eqZ i0 (.ofNat 2) = false) (k4 : eqZ i0 (.ofNat 10) = false) (k5 : eqZ i0 (.ofNat 7) = true) (k6 : cA m 82 [vI a] h1 = some (vB b0, h0)) (k7 : (!b0) = true) :
  bB m 44 [vG (nC o a b v t l bd el q)] h = some ((vB false, h0)) :=
 bY (qS [36, 45] [12, 13, 19] [(2, 1, (vB b1))] [(1, 2, LV.tup [AV.agg [aI i1, aS s0, aI i0, aM l0, aI i2, aI i3, aB b2], v0], h1), (11, 2, vB b0, h0)]) (tZ k0 (tA k1 (tZ k2 (tZ k3 (tZ k4 (tZ k5 (uT3 (tA k6 (tZ k7 (uT4 (tR ((vB false, h0))))))))))))) (by kernel_rfl)
theorem w19_6 (k0 : (lookV o, h) = (LV.tup [AV.agg [aI i1, aS s0, aI i0, aM l0, aI i2, aI i3, aB b3], v0], h1)) (k1 : nE m v0 b2) (k2 : b2 = false) (k3 : eqZ i0 (.ofNat 2) = false) (k4 : eqZ i0 (.ofNat 10) = false) (k5 : eqZ i0 (.ofNat 7) = true) (k6 : cA m 82 [vI a] h1 = some (vB b1, h2)) (k7 : (!b1) = false) (k8 : cA m 82 [vI b] h2 = some (vB b0, h0)) (k9 : (!b0) = true) :
  bB m 44 [vG (nC o a b v t l bd el q)] h = some ((vB false, h0)) :=
 bY (qS [36, 50] [12, 13, 19, 45] [(2, 1, (vB b2))] [(1, 2, LV.tup [AV.agg [aI i1, aS s0, aI i0, aM l0, aI i2, aI i3, aB b3], v0], h1), (11, 2, vB b1, h2), (11, 7, vB b0, h0)]) (tZ k0 (tA k1 (tZ k2 (tZ k3 (tZ k4 (tZ k5 (uT3 (tA k6 (tZ k7 (uF2 (tA k8 (uF2 (tZ k9 (tR ((vB false, h0)))))))))))))))) (by kernel_rfl)
theorem w19_7 (k0 : (lookV o, h) = (LV.tup [AV.agg [aI i1, aS s0, aI i0, aM l0, aI i2, aI i3, aB b4], v0], h1)) (k1 : nE m v0 b3) (k2 : b3 = false) (k3 : eqZ i0 (.ofNat 2) = false) (k4 : eqZ i0 (.ofNat 10) = false) (k5 : eqZ i0 (.ofNat 7) = true) (k6 : cA m 82 [vI a] h1 = some (vB b1, h2)) (k7 : (!b1) = false) (k8 : cA m 82 [vI b] h2 = some (vB b2, h3)) (k9 : (!b2) = false) (k10 : cA m 84 [vG [aI o, aI (.ofNat 0), aI (.ofNat 0), AV.int IntKind.u64 v, aI t, aM l, aM bd, aM el, aB q]] h3 = some (vB b0, h0)) :
  bB m 44 [vG (nC o a b v t l bd el q)] h = some ((vB b0, h0)) :=
 bY (qS [36] [12, 13, 19, 45, 50] [(2, 1, (vB b3))] [(1, 2, LV.tup [AV.agg [aI i1, aS s0, aI i0, aM l0, aI i2, aI i3, aB b4], v0], h1), (11, 2, vB b1, h2), (11, 7, vB b2, h3), (22, 1, vB b0, h0)]) (tZ k0 (tA k1 (tZ k2 (tZ k3 (tZ k4 (tZ k5 (uT3 (tA k6 (tZ k7 (uF2 (tA k8 (uF2 (tZ k9 (tA k10 (tR ((vB b0, h0))))))))))))))))) (by kernel_rfl)
theorem w19_8 (k0 : (lookV o, h) = (LV.tup [AV.agg [aI i1, aS s0, aI i0, aM l0, aI i2, aI i3, aB b2], v0], h1)) (k1 : nE m v0 b1) (k2 : b1 = false) (k3 : eqZ i0 (.ofNat 2) = false) (k4 : eqZ i0 (.ofNat 10) = false) (k5 : eqZ i0 (.ofNat 7) = false) (k6 : eqZ i0 (.ofNat 8) = true) (k7 : cA m 82 [vI a] h1 = some (vB b0, h0)) (k8 : (!b0) = true) :
  bB m 44 [vG (nC o a b v t l bd el q)] h = some ((vB false, h0)) :=
 bY (qS [32, 45] [12, 13, 19, 36] [(2, 1, (vB b1))] [(1, 2, LV.tup [AV.agg [aI i1, aS s0, aI i0, aM l0, aI i2, aI i3, aB b2], v0], h1), (11, 2, vB b0, h0)]) (tZ k0 (tA k1 (tZ k2 (tZ k3 (tZ k4 (tZ k5 (uF3 (tZ k6 (tA k7 (tZ k8 (uT4 (tR ((vB false, h0)))))))))))))) (by kernel_rfl)
theorem w19_9 (k0 : (lookV o, h) = (LV.tup [AV.agg [aI i1, aS s0, aI i0, aM l0, aI i2, aI i3, aB b3], v0], h1)) (k1 : nE m v0 b2) (k2 : b2 = false) (k3 : eqZ i0 (.ofNat 2) = false) (k4 : eqZ i0 (.ofNat 10) = false) (k5 : eqZ i0 (.ofNat 7) = false) (k6 : eqZ i0 (.ofNat 8) = true) (k7 : cA m 82 [vI a] h1 = some (vB b1, h2)) (k8 : (!b1) = false) (k9 : cA m 82 [vI b] h2 = some (vB b0, h0)) (k10 : (!b0) = true) :
  bB m 44 [vG (nC o a b v t l bd el q)] h = some ((vB false, h0)) :=
 bY (qS [32, 50] [12, 13, 19, 36, 45] [(2, 1, (vB b2))] [(1, 2, LV.tup [AV.agg [aI i1, aS s0, aI i0, aM l0, aI i2, aI i3, aB b3], v0], h1), (11, 2, vB b1, h2), (11, 7, vB b0, h0)]) (tZ k0 (tA k1 (tZ k2 (tZ k3 (tZ k4 (tZ k5 (uF3 (tZ k6 (tA k7 (tZ k8 (uF2 (tA k9 (uF2 (tZ k10 (tR ((vB false, h0))))))))))))))))) (by kernel_rfl)
theorem w19_10 (k0 : (lookV o, h) = (LV.tup [AV.agg [aI i1, aS s0, aI i0, aM l0, aI i2, aI i3, aB b4], v0], h1)) (k1 : nE m v0 b3) (k2 : b3 = false) (k3 : eqZ i0 (.ofNat 2) = false) (k4 : eqZ i0 (.ofNat 10) = false) (k5 : eqZ i0 (.ofNat 7) = false) (k6 : eqZ i0 (.ofNat 8) = true) (k7 : cA m 82 [vI a] h1 = some (vB b1, h2)) (k8 : (!b1) = false) (k9 : cA m 82 [vI b] h2 = some (vB b2, h3)) (k10 : (!b2) = false) (k11 : cA m 84 [vG [aI o, aI (.ofNat 0), aI (.ofNat 0), AV.int IntKind.u64 v, aI t, aM l, aM bd, aM el, aB q]] h3 = some (vB b0, h0)) :
  bB m 44 [vG (nC o a b v t l bd el q)] h = some ((vB b0, h0)) :=
 bY (qS [32] [12, 13, 19, 36, 45, 50] [(2, 1, (vB b3))] [(1, 2, LV.tup [AV.agg [aI i1, aS s0, aI i0, aM l0, aI i2, aI i3, aB b4], v0], h1), (11, 2, vB b1, h2), (11, 7, vB b2, h3), (22, 1, vB b0, h0)]) (tZ k0 (tA k1 (tZ k2 (tZ k3 (tZ k4 (tZ k5 (uF3 (tZ k6 (tA k7 (tZ k8 (uF2 (tA k9 (uF2 (tZ k10 (tA k11 (tR ((vB b0, h0)))))))))))))))))) (by kernel_rfl)
theorem w19_11 (k0 : (lookV o, h) = (LV.tup [AV.agg [aI i1, aS s0, aI i0, aM l0, aI i2, aI i3, aB b1], v0], h0)) (k1 : nE m v0 b0) (k2 : b0 = false) (k3 : eqZ i0 (.ofNat 2) = false) (k4 : eqZ i0 (.ofNat 10) = false) (k5 : eqZ i0 (.ofNat 7) = false) (k6 : eqZ i0 (.ofNat 8) = false) (k7 : (ByteArray.toList s0 == ByteArray.toList { data := #[98, 114, 95, 116, 97, 98, 108, 101] }) = true) (k8 : eqZ (.ofNat l.length) (.ofNat 0) = true) :
  bB m 44 [vG (nC o a b v t l bd el q)] h = some ((vB false, h0)) :=
 bY (qS [53, 61] [12, 13, 19, 36, 32] [(2, 1, (vB b0))] [(1, 2, LV.tup [AV.agg [aI i1, aS s0, aI i0, aM l0, aI i2, aI i3, aB b1], v0], h0)]) (tZ k0 (tA k1 (tZ k2 (tZ k3 (tZ k4 (tZ k5 (uF3 (tZ k6 (tZ k7 (tZ k8 (uT3 (tR ((vB false, h0)))))))))))))) (by kernel_rfl)
theorem w19_12 (k0 : (lookV o, h) = (LV.tup [AV.agg [aI i1, aS s0, aI i0, aM l0, aI i2, aI i3, aB b2], v0], h1)) (k1 : nE m v0 b1) (k2 : b1 = false) (k3 : eqZ i0 (.ofNat 2) = false) (k4 : eqZ i0 (.ofNat 10) = false) (k5 : eqZ i0 (.ofNat 7) = false) (k6 : eqZ i0 (.ofNat 8) = false) (k7 : (ByteArray.toList s0 == ByteArray.toList { data := #[98, 114, 95, 116, 97, 98, 108, 101] }) = true) (k8 : eqZ (.ofNat l.length) (.ofNat 0) = false) (k9 : cA m 47 [vM l, LV.v (AV.fn 83 [] [])] h1 = some (vB b0, h0)) (k10 : b0 = true) :
  bB m 44 [vG (nC o a b v t l bd el q)] h = some ((vB false, h0)) :=
 bY (qS [53, 65] [12, 13, 19, 36, 32, 61] [(2, 1, (vB b1))] [(1, 2, LV.tup [AV.agg [aI i1, aS s0, aI i0, aM l0, aI i2, aI i3, aB b2], v0], h1), (15, 7, vB b0, h0)]) (tZ k0 (tA k1 (tZ k2 (tZ k3 (tZ k4 (tZ k5 (uF3 (tZ k6 (tZ k7 (tZ k8 (uF2 (tA k9 (tA tF (tZ k10 (tR ((vB false, h0))))))))))))))))) (by kernel_rfl)
theorem w19_13 (k0 : (lookV o, h) = (LV.tup [AV.agg [aI i1, aS s0, aI i0, aM l0, aI i2, aI i3, aB b3], v0], h1)) (k1 : nE m v0 b2) (k2 : b2 = false) (k3 : eqZ i0 (.ofNat 2) = false) (k4 : eqZ i0 (.ofNat 10) = false) (k5 : eqZ i0 (.ofNat 7) = false) (k6 : eqZ i0 (.ofNat 8) = false) (k7 : (ByteArray.toList s0 == ByteArray.toList { data := #[98, 114, 95, 116, 97, 98, 108, 101] }) = true) (k8 : eqZ (.ofNat l.length) (.ofNat 0) = false) (k9 : cA m 47 [vM l, LV.v (AV.fn 83 [] [])] h1 = some (vB b1, h2)) (k10 : b1 = false) (k11 : cA m 84 [vG (nC o a b v t [] bd el q)] h2 = some (vB b0, h0)) :
  bB m 44 [vG (nC o a b v t l bd el q)] h = some ((vB b0, h0)) :=
 bY (qS [53] [12, 13, 19, 36, 32, 61, 65] [(2, 1, (vB b2))] [(1, 2, LV.tup [AV.agg [aI i1, aS s0, aI i0, aM l0, aI i2, aI i3, aB b3], v0], h1), (15, 7, vB b1, h2), (22, 1, vB b0, h0)]) (tZ k0 (tA k1 (tZ k2 (tZ k3 (tZ k4 (tZ k5 (uF3 (tZ k6 (tZ k7 (tZ k8 (uF2 (tA k9 (tA tF (tZ k10 (tA k11 (tR ((vB b0, h0)))))))))))))))))) (by kernel_rfl)
theorem w19_14 (k0 : (lookV o, h) = (LV.tup [AV.agg [aI i1, aS s0, aI i0, aM l0, aI i2, aI i3, aB b2], v0], h1)) (k1 : nE m v0 b1) (k2 : b1 = false) (k3 : eqZ i0 (.ofNat 2) = false) (k4 : eqZ i0 (.ofNat 10) = false) (k5 : eqZ i0 (.ofNat 7) = false) (k6 : eqZ i0 (.ofNat 8) = false) (k7 : (ByteArray.toList s0 == ByteArray.toList { data := #[98, 114, 95, 116, 97, 98, 108, 101] }) = false) (k8 : eqZ i0 (.ofNat 4) = true) (k9 : cA m 82 [vI a] h1 = some (vB b0, h0)) (k10 : (!b0) = true) :
  bB m 44 [vG (nC o a b v t l bd el q)] h = some ((vB false, h0)) :=
 bY (qS [71, 89] [12, 13, 19, 36, 32, 53] [(2, 1, (vB b1))] [(1, 2, LV.tup [AV.agg [aI i1, aS s0, aI i0, aM l0, aI i2, aI i3, aB b2], v0], h1), (19, 2, vB b0, h0)]) (tZ k0 (tA k1 (tZ k2 (tZ k3 (tZ k4 (tZ k5 (uF3 (tZ k6 (tZ k7 (tZ k8 (uT3 (tA k9 (tZ k10 (tR ((vB false, h0)))))))))))))))) (by kernel_rfl)
theorem w19_15 (k0 : (lookV o, h) = (LV.tup [AV.agg [aI i1, aS s0, aI i0, aM l0, aI i2, aI i3, aB b3], v0], h1)) (k1 : nE m v0 b2) (k2 : b2 = false) (k3 : eqZ i0 (.ofNat 2) = false) (k4 : eqZ i0 (.ofNat 10) = false) (k5 : eqZ i0 (.ofNat 7) = false) (k6 : eqZ i0 (.ofNat 8) = false) (k7 : (ByteArray.toList s0 == ByteArray.toList { data := #[98, 114, 95, 116, 97, 98, 108, 101] }) = false) (k8 : eqZ i0 (.ofNat 4) = true) (k9 : cA m 82 [vI a] h1 = some (vB b1, h2)) (k10 : (!b1) = false) (k11 : cA m 84 [vG [aI o, aI (.ofNat 0), aI b, AV.int IntKind.u64 v, aI t, aM l, aM bd, aM el, aB q]] h2 = some (vB b0, h0)) :
  bB m 44 [vG (nC o a b v t l bd el q)] h = some ((vB b0, h0)) :=
 bY (qS [71] [12, 13, 19, 36, 32, 53, 89] [(2, 1, (vB b2))] [(1, 2, LV.tup [AV.agg [aI i1, aS s0, aI i0, aM l0, aI i2, aI i3, aB b3], v0], h1), (19, 2, vB b1, h2), (22, 1, vB b0, h0)]) (tZ k0 (tA k1 (tZ k2 (tZ k3 (tZ k4 (tZ k5 (uF3 (tZ k6 (tZ k7 (tZ k8 (uT3 (tA k9 (tZ k10 (tA k11 (tR ((vB b0, h0))))))))))))))))) (by kernel_rfl)
theorem w19_16 (k0 : (lookV o, h) = (LV.tup [AV.agg [aI i1, aS s0, aI i0, aM l0, aI i2, aI i3, aB b2], v0], h1)) (k1 : nE m v0 b1) (k2 : b1 = false) (k3 : eqZ i0 (.ofNat 2) = false) (k4 : eqZ i0 (.ofNat 10) = false) (k5 : eqZ i0 (.ofNat 7) = false) (k6 : eqZ i0 (.ofNat 8) = false) (k7 : (ByteArray.toList s0 == ByteArray.toList { data := #[98, 114, 95, 116, 97, 98, 108, 101] }) = false) (k8 : eqZ i0 (.ofNat 4) = false) (k9 : eqZ i0 (.ofNat 6) = true) (k10 : cA m 82 [vI a] h1 = some (vB b0, h0)) (k11 : (!b0) = true) :
  bB m 44 [vG (nC o a b v t l bd el q)] h = some ((vB false, h0)) :=
 bY (qS [76, 89] [12, 13, 19, 36, 32, 53, 71] [(2, 1, (vB b1))] [(1, 2, LV.tup [AV.agg [aI i1, aS s0, aI i0, aM l0, aI i2, aI i3, aB b2], v0], h1), (19, 2, vB b0, h0)]) (tZ k0 (tA k1 (tZ k2 (tZ k3 (tZ k4 (tZ k5 (uF3 (tZ k6 (tZ k7 (tZ k8 (uF3 (tZ k9 (uT5 (tA k10 (tZ k11 (tR ((vB false, h0)))))))))))))))))) (by kernel_rfl)
theorem w19_17 (k0 : (lookV o, h) = (LV.tup [AV.agg [aI i1, aS s0, aI i0, aM l0, aI i2, aI i3, aB b3], v0], h1)) (k1 : nE m v0 b2) (k2 : b2 = false) (k3 : eqZ i0 (.ofNat 2) = false) (k4 : eqZ i0 (.ofNat 10) = false) (k5 : eqZ i0 (.ofNat 7) = false) (k6 : eqZ i0 (.ofNat 8) = false) (k7 : (ByteArray.toList s0 == ByteArray.toList { data := #[98, 114, 95, 116, 97, 98, 108, 101] }) = false) (k8 : eqZ i0 (.ofNat 4) = false) (k9 : eqZ i0 (.ofNat 6) = true) (k10 : cA m 82 [vI a] h1 = some (vB b1, h2)) (k11 : (!b1) = false) (k12 : cA m 84 [vG [aI o, aI (.ofNat 0), aI b, AV.int IntKind.u64 v, aI t, aM l, aM bd, aM el, aB q]] h2 = some (vB b0, h0)) :
  bB m 44 [vG (nC o a b v t l bd el q)] h = some ((vB b0, h0)) :=
 bY (qS [76] [12, 13, 19, 36, 32, 53, 71, 89] [(2, 1, (vB b2))] [(1, 2, LV.tup [AV.agg [aI i1, aS s0, aI i0, aM l0, aI i2, aI i3, aB b3], v0], h1), (19, 2, vB b1, h2), (22, 1, vB b0, h0)]) (tZ k0 (tA k1 (tZ k2 (tZ k3 (tZ k4 (tZ k5 (uF3 (tZ k6 (tZ k7 (tZ k8 (uF3 (tZ k9 (uT5 (tA k10 (tZ k11 (tA k12 (tR ((vB b0, h0))))))))))))))))))) (by kernel_rfl)
theorem w19_18 (k0 : (lookV o, h) = (LV.tup [AV.agg [aI i1, aS s0, aI i0, aM l0, aI i2, aI i3, aB b2], v0], h1)) (k1 : nE m v0 b1) (k2 : b1 = false) (k3 : eqZ i0 (.ofNat 2) = false) (k4 : eqZ i0 (.ofNat 10) = false) (k5 : eqZ i0 (.ofNat 7) = false) (k6 : eqZ i0 (.ofNat 8) = false) (k7 : (ByteArray.toList s0 == ByteArray.toList { data := #[98, 114, 95, 116, 97, 98, 108, 101] }) = false) (k8 : eqZ i0 (.ofNat 4) = false) (k9 : eqZ i0 (.ofNat 6) = false) (k10 : eqZ i0 (.ofNat 3) = true) (k11 : (!ByteArray.toList s0 == ByteArray.toList { data := #[114, 101, 116, 117, 114, 110] }) = true) (k12 : cA m 82 [vI a] h1 = some (vB b0, h0)) (k13 : (!b0) = true) :
  bB m 44 [vG (nC o a b v t l bd el q)] h = some ((vB false, h0)) :=
 bY (qS [80, 67, 89] [12, 13, 19, 36, 32, 53, 71, 76] [(2, 1, (vB b1))] [(1, 2, LV.tup [AV.agg [aI i1, aS s0, aI i0, aM l0, aI i2, aI i3, aB b2], v0], h1), (19, 2, vB b0, h0)]) (tZ k0 (tA k1 (tZ k2 (tZ k3 (tZ k4 (tZ k5 (uF3 (tZ k6 (tZ k7 (tZ k8 (uF3 (tZ k9 (uF3 (tZ k10 (uT2 (tA tF (tA tT (tA tF (tZ k11 (tA k12 (tZ k13 (tR ((vB false, h0)))))))))))))))))))))))) (by kernel_rfl)
theorem w19_19 (k0 : (lookV o, h) = (LV.tup [AV.agg [aI i1, aS s0, aI i0, aM l0, aI i2, aI i3, aB b3], v0], h1)) (k1 : nE m v0 b2) (k2 : b2 = false) (k3 : eqZ i0 (.ofNat 2) = false) (k4 : eqZ i0 (.ofNat 10) = false) (k5 : eqZ i0 (.ofNat 7) = false) (k6 : eqZ i0 (.ofNat 8) = false) (k7 : (ByteArray.toList s0 == ByteArray.toList { data := #[98, 114, 95, 116, 97, 98, 108, 101] }) = false) (k8 : eqZ i0 (.ofNat 4) = false) (k9 : eqZ i0 (.ofNat 6) = false) (k10 : eqZ i0 (.ofNat 3) = true) (k11 : (!ByteArray.toList s0 == ByteArray.toList { data := #[114, 101, 116, 117, 114, 110] }) = true) (k12 : cA m 82 [vI a] h1 = some (vB b1, h2)) (k13 : (!b1) = false) (k14 : cA m 84 [vG [aI o, aI (.ofNat 0), aI b, AV.int IntKind.u64 v, aI t, aM l, aM bd, aM el, aB q]] h2 = some (vB b0, h0)) :
  bB m 44 [vG (nC o a b v t l bd el q)] h = some ((vB b0, h0)) :=
 bY (qS [80, 67] [12, 13, 19, 36, 32, 53, 71, 76, 89] [(2, 1, (vB b2))] [(1, 2, LV.tup [AV.agg [aI i1, aS s0, aI i0, aM l0, aI i2, aI i3, aB b3], v0], h1), (19, 2, vB b1, h2), (22, 1, vB b0, h0)]) (tZ k0 (tA k1 (tZ k2 (tZ k3 (tZ k4 (tZ k5 (uF3 (tZ k6 (tZ k7 (tZ k8 (uF3 (tZ k9 (uF3 (tZ k10 (uT2 (tA tF (tA tT (tA tF (tZ k11 (tA k12 (tZ k13 (tA k14 (tR ((vB b0, h0))))))))))))))))))))))))) (by kernel_rfl)
theorem w19_20 (k0 : (lookV o, h) = (LV.tup [AV.agg [aI i1, aS s0, aI i0, aM l0, aI i2, aI i3, aB b2], v0], h1)) (k1 : nE m v0 b1) (k2 : b1 = false) (k3 : eqZ i0 (.ofNat 2) = false) (k4 : eqZ i0 (.ofNat 10) = false) (k5 : eqZ i0 (.ofNat 7) = false) (k6 : eqZ i0 (.ofNat 8) = false) (k7 : (ByteArray.toList s0 == ByteArray.toList { data := #[98, 114, 95, 116, 97, 98, 108, 101] }) = false) (k8 : eqZ i0 (.ofNat 4) = false) (k9 : eqZ i0 (.ofNat 6) = false) (k10 : eqZ i0 (.ofNat 3) = true) (k11 : (!ByteArray.toList s0 == ByteArray.toList { data := #[114, 101, 116, 117, 114, 110] }) = false) (k12 : cA m 84 [vG (nC o a b v t l bd el q)] h1 = some (vB b0, h0)) :
  bB m 44 [vG (nC o a b v t l bd el q)] h = some ((vB b0, h0)) :=
 bY (qS [80] [12, 13, 19, 36, 32, 53, 71, 76, 67] [(2, 1, (vB b1))] [(1, 2, LV.tup [AV.agg [aI i1, aS s0, aI i0, aM l0, aI i2, aI i3, aB b2], v0], h1), (22, 1, vB b0, h0)]) (tZ k0 (tA k1 (tZ k2 (tZ k3 (tZ k4 (tZ k5 (uF3 (tZ k6 (tZ k7 (tZ k8 (uF3 (tZ k9 (uF3 (tZ k10 (uT2 (tA tF (tA tT (tA tF (tZ k11 (tA k12 (tR ((vB b0, h0))))))))))))))))))))))) (by kernel_rfl)
theorem w19_21 (k0 : (lookV o, h) = (LV.tup [AV.agg [aI i1, aS s0, aI i0, aM l0, aI i2, aI i3, aB b2], v0], h1)) (k1 : nE m v0 b1) (k2 : b1 = false) (k3 : eqZ i0 (.ofNat 2) = false) (k4 : eqZ i0 (.ofNat 10) = false) (k5 : eqZ i0 (.ofNat 7) = false) (k6 : eqZ i0 (.ofNat 8) = false) (k7 : (ByteArray.toList s0 == ByteArray.toList { data := #[98, 114, 95, 116, 97, 98, 108, 101] }) = false) (k8 : eqZ i0 (.ofNat 4) = false) (k9 : eqZ i0 (.ofNat 6) = false) (k10 : eqZ i0 (.ofNat 3) = false) (k11 : cA m 84 [vG (nC o a b v t l bd el q)] h1 = some (vB b0, h0)) :
  bB m 44 [vG (nC o a b v t l bd el q)] h = some ((vB b0, h0)) :=
 bY (qS [] [12, 13, 19, 36, 32, 53, 71, 76, 80] [(2, 1, (vB b1))] [(1, 2, LV.tup [AV.agg [aI i1, aS s0, aI i0, aM l0, aI i2, aI i3, aB b2], v0], h1), (22, 1, vB b0, h0)]) (tZ k0 (tA k1 (tZ k2 (tZ k3 (tZ k4 (tZ k5 (uF3 (tZ k6 (tZ k7 (tZ k8 (uF3 (tZ k9 (uF3 (tZ k10 (uF5 (tA k11 (tR ((vB b0, h0))))))))))))))))))) (by kernel_rfl)
end Go.Proofs.YtoblgjmllmomhaaGreatDoor
namespace Go.Proofs.YtoblgjmllmomhaaGreatDoor
open Go Go.Proofs.Am
variable {m re n gt o a b v t i0 i1 i2 i3 i4 i5 : Int} {ty fu gl lo xs ps rs l bd el l0 l1 l2 : LL} {tb mm gm q b0 b1 b2 : Bool} {h h0 h1 h2 : Heap} {fv : AV} {r : LV × Heap} {i : Nat}
theorem w14_0 (k0 : cA m 45 [vM ty, LV.v (AV.fn 46 [] [])] h = some (vB b1, h1)) (k1 : cA m 49 [vM gl, LV.v (AV.fn 50 [] [])] h1 = some (vB b2, h2)) (k2 : (!b1) = true) (k3 : (!b2) = true) (k4 : cA m 47 [vM lo, LV.v (AV.fn 48 [] [])] h2 = some (vB b0, h0)) (k5 : (!b0) = true) (k6 : leZ (.ofNat 0) re = true) :
  bB m 20 [vG [aM ty, aM fu, aM gl, aB tb, aB mm, aM lo, aI re]] h = some ((vB (leZ re (.ofNat 2)), h0)) :=
 bY (qS [13, 17, 23, 28] [] [] [(1, 2, vB b1, h1), (2, 2, vB b2, h2), (3, 9, vB b0, h0)]) (tA k0 (tA k1 (tZ k2 (uT2 (tZ k3 (uT2 (tA k4 (uT2 (tZ k5 (uT3 (tZ k6 (uT3 (tR ((vB (leZ re (.ofNat 2)), h0))))))))))))))) (by kernel_rfl)
theorem w14_1 (k0 : cA m 45 [vM ty, LV.v (AV.fn 46 [] [])] h = some (vB b1, h1)) (k1 : cA m 49 [vM gl, LV.v (AV.fn 50 [] [])] h1 = some (vB b2, h2)) (k2 : (!b1) = true) (k3 : (!b2) = true) (k4 : cA m 47 [vM lo, LV.v (AV.fn 48 [] [])] h2 = some (vB b0, h0)) (k5 : (!b0) = true) (k6 : leZ (.ofNat 0) re = false) :
  bB m 20 [vG [aM ty, aM fu, aM gl, aB tb, aB mm, aM lo, aI re]] h = some ((vB false, h0)) :=
 bY (qS [13, 17, 23] [28] [] [(1, 2, vB b1, h1), (2, 2, vB b2, h2), (3, 9, vB b0, h0)]) (tA k0 (tA k1 (tZ k2 (uT2 (tZ k3 (uT2 (tA k4 (uT2 (tZ k5 (uT3 (tZ k6 (uF3 (tR ((vB false, h0))))))))))))))) (by kernel_rfl)
theorem w14_2 (k0 : cA m 45 [vM ty, LV.v (AV.fn 46 [] [])] h = some (vB b1, h1)) (k1 : cA m 49 [vM gl, LV.v (AV.fn 50 [] [])] h1 = some (vB b2, h2)) (k2 : (!b1) = true) (k3 : (!b2) = true) (k4 : cA m 47 [vM lo, LV.v (AV.fn 48 [] [])] h2 = some (vB b0, h0)) (k5 : (!b0) = false) :
  bB m 20 [vG [aM ty, aM fu, aM gl, aB tb, aB mm, aM lo, aI re]] h = some ((vB false, h0)) :=
 bY (qS [13, 17] [23] [] [(1, 2, vB b1, h1), (2, 2, vB b2, h2), (3, 9, vB b0, h0)]) (tA k0 (tA k1 (tZ k2 (uT2 (tZ k3 (uT2 (tA k4 (uT2 (tZ k5 (uF3 (tR ((vB false, h0))))))))))))) (by kernel_rfl)
theorem w14_3 (k0 : cA m 45 [vM ty, LV.v (AV.fn 46 [] [])] h = some (vB b1, h1)) (k1 : cA m 49 [vM gl, LV.v (AV.fn 50 [] [])] h1 = some (vB b0, h0)) (k2 : (!b1) = true) (k3 : (!b0) = false) :
  bB m 20 [vG [aM ty, aM fu, aM gl, aB tb, aB mm, aM lo, aI re]] h = some ((vB false, h0)) :=
 bY (qS [13] [17] [] [(1, 2, vB b1, h1), (2, 2, vB b0, h0)]) (tA k0 (tA k1 (tZ k2 (uT2 (tZ k3 (uF4 (tR ((vB false, h0))))))))) (by kernel_rfl)
theorem w14_4 (k0 : cA m 45 [vM ty, LV.v (AV.fn 46 [] [])] h = some (vB b0, h1)) (k1 : cA m 49 [vM gl, LV.v (AV.fn 50 [] [])] h1 = some (vB b1, h0)) (k2 : (!b0) = false) :
  bB m 20 [vG [aM ty, aM fu, aM gl, aB tb, aB mm, aM lo, aI re]] h = some ((vB false, h0)) :=
 bY (qS [] [13] [] [(1, 2, vB b0, h1), (2, 2, vB b1, h0)]) (tA k0 (tA k1 (tZ k2 (uF2 (tR ((vB false, h0))))))) (by kernel_rfl)
theorem w20_0 (k0 : cA m 85 [vM xs, LV.v fv] h = some (vI i0, h0)) :
  bB m 45 [vM xs, .v fv] h = some ((vB (leZ (.ofNat 0) i0), h0)) :=
 bY (qS [] [] [] [(1, 2, vI i0, h0)]) (tA k0 (tR ((vB (leZ (.ofNat 0) i0), h0)))) (by kernel_rfl)
theorem w37_0 (k0 : bA m 85 2 [vM xs, LV.v fv, vI (.ofNat xs.length), vI (.ofNat 0)] h = some r) :
  bB m 85 [vM xs, .v fv] h = some r :=
 bY (qS [] [] [] []) (tA t1 (k0)) (by kernel_rfl)
theorem w37_2_0 (k0 : ltZ (.ofNat i) n = true) (k1 : ixA (aM xs) (.ofNat i) 2 = some [aM l0, aM l1]) (k2 : cV m fv [vG [aM l0, aM l1]] h = some (vB b0, h0)) (k3 : b0 = true) :
  bA m 85 2 [vM xs, .v fv, vI n, vI i] h = some ((vI (.ofNat i), h0)) :=
 bY (qS [9, 16] [] [(4, 3, (LV.v (AV.snap [aM l0, aM l1])))] [(4, 5, vB b0, h0)]) (tZ k0 (tA (tA t0 (tA tN (k1))) (tA k2 (tZ k3 (tR ((vI (.ofNat i), h0))))))) (by kernel_rfl)
theorem w37_2_1 (k0 : ltZ (.ofNat i) n = true) (k1 : ixA (aM xs) (.ofNat i) 2 = some [aM l0, aM l1]) (k2 : cV m fv [vG [aM l0, aM l1]] h = some (vB b0, h0)) (k3 : b0 = false) (k4 : bA m 85 2 [vM xs, LV.v fv, vI n, vI (IntKind.wrap .i64 (.ofNat (Nat.succ i)))] h0 = some r) :
  bA m 85 2 [vM xs, .v fv, vI n, vI i] h = some r :=
 bY (qS [9] [16] [(4, 3, (LV.v (AV.snap [aM l0, aM l1])))] [(4, 5, vB b0, h0)]) (tZ k0 (tA (tA t0 (tA tN (k1))) (tA k2 (tZ k3 (tA t1 (k4)))))) (by kernel_rfl)
theorem w37_2_2 (k0 : ltZ (.ofNat i) n = false) :
  bA m 85 2 [vM xs, .v fv, vI n, vI i] h = some ((vI (Int.negSucc 0), h)) :=
 bY (qS [] [9] [] []) (tZ k0 (tR ((vI (Int.negSucc 0), h)))) (by kernel_rfl)
theorem w24_0 (k0 : cA m 87 [vM xs, LV.v fv] h = some (vI i0, h0)) :
  bB m 49 [vM xs, .v fv] h = some ((vB (leZ (.ofNat 0) i0), h0)) :=
 bY (qS [] [] [] [(1, 2, vI i0, h0)]) (tA k0 (tR ((vB (leZ (.ofNat 0) i0), h0)))) (by kernel_rfl)
theorem w39_0 (k0 : bA m 87 2 [vM xs, LV.v fv, vI (.ofNat xs.length), vI (.ofNat 0)] h = some r) :
  bB m 87 [vM xs, .v fv] h = some r :=
 bY (qS [] [] [] []) (tA t1 (k0)) (by kernel_rfl)
theorem w39_2_0 (k0 : ltZ (.ofNat i) n = true) (k1 : ixA (aM xs) (.ofNat i) 11 = some ([aI i0, aB b1] ++ nC i1 i2 i3 i4 i5 l0 l1 l2 b2)) (k2 : cV m fv [vG ([aI i0, aB b1] ++ nC i1 i2 i3 i4 i5 l0 l1 l2 b2)] h = some (vB b0, h0)) (k3 : b0 = true) :
  bA m 87 2 [vM xs, .v fv, vI n, vI i] h = some ((vI (.ofNat i), h0)) :=
 bY (qS [9, 16] [] [(4, 3, (LV.v (AV.snap ([aI i0, aB b1] ++ nC i1 i2 i3 i4 i5 l0 l1 l2 b2))))] [(4, 5, vB b0, h0)]) (tZ k0 (tA (tA t0 (tA tN (k1))) (tA k2 (tZ k3 (tR ((vI (.ofNat i), h0))))))) (by kernel_rfl)
theorem w39_2_1 (k0 : ltZ (.ofNat i) n = true) (k1 : ixA (aM xs) (.ofNat i) 11 = some ([aI i0, aB b0] ++ nC i1 i2 i3 i4 i5 l0 l1 l2 b2)) (k2 : cV m fv [vG ([aI i0, aB b0] ++ nC i1 i2 i3 i4 i5 l0 l1 l2 b2)] h = some (vB b1, h0)) (k3 : b1 = false) (k4 : bA m 87 2 [vM xs, LV.v fv, vI n, vI (IntKind.wrap .i64 (.ofNat (Nat.succ i)))] h0 = some r) :
  bA m 87 2 [vM xs, .v fv, vI n, vI i] h = some r :=
 bY (qS [9] [16] [(4, 3, (LV.v (AV.snap ([aI i0, aB b0] ++ nC i1 i2 i3 i4 i5 l0 l1 l2 b2))))] [(4, 5, vB b1, h0)]) (tZ k0 (tA (tA t0 (tA tN (k1))) (tA k2 (tZ k3 (tA t1 (k4)))))) (by kernel_rfl)
theorem w39_2_2 (k0 : ltZ (.ofNat i) n = false) :
  bA m 87 2 [vM xs, .v fv, vI n, vI i] h = some ((vI (Int.negSucc 0), h)) :=
 bY (qS [] [9] [] []) (tZ k0 (tR ((vI (Int.negSucc 0), h)))) (by kernel_rfl)
theorem w21_0 (k0 : cA m 47 [vM ps, LV.v (AV.fn 48 [] [])] h = some (vB b0, h0)) (k1 : b0 = true) :
  bB m 46 [vG [aM ps, aM rs]] h = some ((vB true, h0)) :=
 bY (qS [6] [] [] [(1, 2, vB b0, h0)]) (tA k0 (tZ k1 (uT3 (tR ((vB true, h0)))))) (by kernel_rfl)
theorem w21_1 (k0 : cA m 47 [vM ps, LV.v (AV.fn 48 [] [])] h = some (vB b1, h1)) (k1 : b1 = false) (k2 : cA m 47 [vM rs, LV.v (AV.fn 48 [] [])] h1 = some (vB b0, h0)) :
  bB m 46 [vG [aM ps, aM rs]] h = some ((vB b0, h0)) :=
 bY (qS [] [6] [] [(1, 2, vB b1, h1), (1, 6, vB b0, h0)]) (tA k0 (tZ k1 (uF2 (tA k2 (tA tF (tR ((vB b0, h0)))))))) (by kernel_rfl)
theorem w23_0 (k0 : (!eqZ n (.ofNat 1)) = true) :
  bB m 48 [vI n] h = some ((vB !eqZ n (.ofNat 2), h)) :=
 bY (qS [5] [] [] []) (tZ k0 (uT2 (tR ((vB !eqZ n (.ofNat 2), h))))) (by kernel_rfl)
theorem w23_1 (k0 : (!eqZ n (.ofNat 1)) = false) :
  bB m 48 [vI n] h = some ((vB false, h)) :=
 bY (qS [] [5] [] []) (tZ k0 (uF2 (tR ((vB false, h))))) (by kernel_rfl)
theorem w25_0 (k0 : cA m 48 [vI gt] h = some (vB b0, h0)) :
  bB m 50 [vG ([aI gt, aB gm] ++ nC o a b v t l bd el q)] h = some ((vB b0, h0)) :=
 bY (qS [] [] [] [(1, 2, vB b0, h0)]) (tA k0 (tR ((vB b0, h0)))) (by kernel_rfl)
end Go.Proofs.YtoblgjmllmomhaaGreatDoor
