/-
  Ways through texts, one by one (printed by a program of this repo).
-/
import Derived.Test.YtoblgjmllmomhaaGreatDoorAmS15S
import Derived.KernelRfl
namespace Go.Proofs.YtoblgjmllmomhaaGreatDoor
set_option maxRecDepth 100000
open Go Go.Proofs.Am
variable {m st n i0 i1 i2 i3 : Int} {ty im fu ta me gl ex el da cu xs l0 l1 : LL} {h h0 h1 h2 h3 : Heap} {r : LV × Heap} {i : Nat} {v0 : AV} {s0 s1 : ByteArray} {b0 b1 b2 : Bool}
theorem v29_0 (k0 : bA m 29 2 ([LV.lp 0 0, vM im, vI (.ofNat im.length), vI (.ofNat 0)] ++ mL ty im fu ta me gl ex st el da cu) h = some r) :
  bB m 29 [mV ty im fu ta me gl ex st el da cu] h = some r :=
 bY (qS [] [] [] []) (tA t1 (k0)) (by kernel_rfl)
theorem v29_2_0 (k0 : ltZ (.ofNat i) n = true) (k1 : ixA (aM xs) (.ofNat i) 8 = some [aS s0, aS s1, aI i0, aI i1, aB b0, aI i2, aI i3, aB b1]) (k2 : cA m 64 [mV ty im fu ta me gl ex st el da cu, vG [aS s0, aS s1, aI i0, aI i1, aB b0, aI i2, aI i3, aB b1]] h = some (LV.v v0, h0)) (k3 : nE m v0 b2) (k4 : b2 = true) :
  bA m 29 2 ([.lp 0 0, vM xs, vI n, vI (.ofNat i)] ++ mL ty im fu ta me gl ex st el da cu) h = some ((LV.v v0, h0)) :=
 bY (qS [1099997, 1099987] [] [(3, 0, (LV.v (AV.snap [aS s0, aS s1, aI i0, aI i1, aB b0, aI i2, aI i3, aB b1]))), (5, 1, (vB b2))] [(4, 2, LV.v v0, h0)]) (tZ k0 (tA (tA t0 (tA tN (k1))) (tA k2 (tA k3 (tZ k4 (tR ((LV.v v0, h0)))))))) (by kernel_rfl)
theorem v29_2_1 (k0 : ltZ (.ofNat i) n = true) (k1 : ixA (aM xs) (.ofNat i) 8 = some [aS s0, aS s1, aI i0, aI i1, aB b0, aI i2, aI i3, aB b1]) (k2 : cA m 64 [mV ty im fu ta me gl ex st el da cu, vG [aS s0, aS s1, aI i0, aI i1, aB b0, aI i2, aI i3, aB b1]] h = some (LV.v v0, h0)) (k3 : nE m v0 b2) (k4 : b2 = false) (k5 : bA m 29 2 ([LV.lp 0 0, vM xs, vI n, vI (IntKind.wrap .i64 (.ofNat (Nat.succ i)))] ++ mL ty im fu ta me gl ex st el da cu) h0 = some r) :
  bA m 29 2 ([.lp 0 0, vM xs, vI n, vI (.ofNat i)] ++ mL ty im fu ta me gl ex st el da cu) h = some r :=
 bY (qS [1099997] [1099987] [(3, 0, (LV.v (AV.snap [aS s0, aS s1, aI i0, aI i1, aB b0, aI i2, aI i3, aB b1]))), (5, 1, (vB b2))] [(4, 2, LV.v v0, h0)]) (tZ k0 (tA (tA t0 (tA tN (k1))) (tA k2 (tA k3 (tZ k4 (tA t1 (k5))))))) (by kernel_rfl)
theorem v29_2_2 (k0 : ltZ (.ofNat i) n = false) (k1 : cA m 65 [vM ta, LV.v (AV.fn 66 [] [])] h = some (vB b0, h0)) (k2 : b0 = true) :
  bA m 29 2 ([.lp 0 0, vM xs, vI n, vI (.ofNat i)] ++ mL ty im fu ta me gl ex st el da cu) h = some ((vF 56 (aI (.ofNat 7)), h0)) :=
 bY (qS [29] [1099997] [] [(8, 3, vB b0, h0)]) (tZ k0 (tA k1 (tZ k2 (uT4 (tR ((vF 56 (aI (.ofNat 7)), h0))))))) (by kernel_rfl)
theorem v29_2_3 (k0 : ltZ (.ofNat i) n = false) (k1 : cA m 65 [vM ta, LV.v (AV.fn 66 [] [])] h = some (vB b1, h1)) (k2 : b1 = false) (k3 : cA m 65 [vM me, LV.v (AV.fn 68 [] [])] h1 = some (vB b0, h0)) (k4 : b0 = true) :
  bA m 29 2 ([.lp 0 0, vM xs, vI n, vI (.ofNat i)] ++ mL ty im fu ta me gl ex st el da cu) h = some ((vF 56 (aI (.ofNat 7)), h0)) :=
 bY (qS [1099990] [1099997, 29] [] [(8, 3, vB b1, h1), (9, 5, vB b0, h0)]) (tZ k0 (tA k1 (tZ k2 (uF3 (tA k3 (tA tF (tZ k4 (tR ((vF 56 (aI (.ofNat 7)), h0)))))))))) (by kernel_rfl)
theorem v29_2_4 (k0 : ltZ (.ofNat i) n = false) (k1 : cA m 65 [vM ta, LV.v (AV.fn 66 [] [])] h = some (vB b0, h1)) (k2 : b0 = false) (k3 : cA m 65 [vM me, LV.v (AV.fn 68 [] [])] h1 = some (vB b1, h2)) (k4 : b1 = false) (k5 : cA m 36 [mV ty im fu ta me gl ex st el da cu, vI (.ofNat 1)] h2 = some (vI i0, h0)) (k6 : ltZ (.ofNat 1) i0 = true) :
  bA m 29 2 ([.lp 0 0, vM xs, vI n, vI (.ofNat i)] ++ mL ty im fu ta me gl ex st el da cu) h = some ((vF 56 (aI (.ofNat 6)), h0)) :=
 bY (qS [40] [1099997, 29, 1099990] [] [(8, 3, vB b0, h1), (9, 5, vB b1, h2), (11, 2, vI i0, h0)]) (tZ k0 (tA k1 (tZ k2 (uF3 (tA k3 (tA tF (tZ k4 (tA k5 (tZ k6 (uT4 (tR ((vF 56 (aI (.ofNat 6)), h0))))))))))))) (by kernel_rfl)
theorem v29_2_5 (k0 : ltZ (.ofNat i) n = false) (k1 : cA m 65 [vM ta, LV.v (AV.fn 66 [] [])] h = some (vB b0, h1)) (k2 : b0 = false) (k3 : cA m 65 [vM me, LV.v (AV.fn 68 [] [])] h1 = some (vB b1, h2)) (k4 : b1 = false) (k5 : cA m 36 [mV ty im fu ta me gl ex st el da cu, vI (.ofNat 1)] h2 = some (vI i1, h3)) (k6 : ltZ (.ofNat 1) i1 = false) (k7 : cA m 36 [mV ty im fu ta me gl ex st el da cu, vI (.ofNat 2)] h3 = some (vI i0, h0)) (k8 : ltZ (.ofNat 1) i0 = true) :
  bA m 29 2 ([.lp 0 0, vM xs, vI n, vI (.ofNat i)] ++ mL ty im fu ta me gl ex st el da cu) h = some ((vF 56 (aI (.ofNat 6)), h0)) :=
 bY (qS [1099985] [1099997, 29, 1099990, 40] [] [(8, 3, vB b0, h1), (9, 5, vB b1, h2), (11, 2, vI i1, h3), (11, 7, vI i0, h0)]) (tZ k0 (tA k1 (tZ k2 (uF3 (tA k3 (tA tF (tZ k4 (tA k5 (tZ k6 (uF2 (tA k7 (uF2 (tZ k8 (tR ((vF 56 (aI (.ofNat 6)), h0)))))))))))))))) (by kernel_rfl)
theorem v29_2_6 (k0 : ltZ (.ofNat i) n = false) (k1 : cA m 65 [vM ta, LV.v (AV.fn 66 [] [])] h = some (vB b0, h0)) (k2 : b0 = false) (k3 : cA m 65 [vM me, LV.v (AV.fn 68 [] [])] h0 = some (vB b1, h1)) (k4 : b1 = false) (k5 : cA m 36 [mV ty im fu ta me gl ex st el da cu, vI (.ofNat 1)] h1 = some (vI i0, h2)) (k6 : ltZ (.ofNat 1) i0 = false) (k7 : cA m 36 [mV ty im fu ta me gl ex st el da cu, vI (.ofNat 2)] h2 = some (vI i1, h3)) (k8 : ltZ (.ofNat 1) i1 = false) (k9 : bA m 29 14 ([LV.lp 0 0, vM fu, vI (.ofNat fu.length), vI (.ofNat 0)] ++ mL ty im fu ta me gl ex st el da cu) h3 = some r) :
  bA m 29 2 ([.lp 0 0, vM xs, vI n, vI (.ofNat i)] ++ mL ty im fu ta me gl ex st el da cu) h = some r :=
 bY (qS [] [1099997, 29, 1099990, 40, 1099985] [] [(8, 3, vB b0, h0), (9, 5, vB b1, h1), (11, 2, vI i0, h2), (11, 7, vI i1, h3)]) (tZ k0 (tA k1 (tZ k2 (uF3 (tA k3 (tA tF (tZ k4 (tA k5 (tZ k6 (uF2 (tA k7 (uF2 (tZ k8 (tA t1 (k9))))))))))))))) (by kernel_rfl)
theorem v29_14_0 (k0 : ltZ (.ofNat i) n = true) (k1 : ixA (aM xs) (.ofNat i) 3 = some [aI i0, aM l0, aM l1]) (k2 : cA m 69 [mV ty im fu ta me gl ex st el da cu, vI i0] h = some (vB b0, h0)) (k3 : (!b0) = true) :
  bA m 29 14 ([.lp 0 0, vM xs, vI n, vI (.ofNat i)] ++ mL ty im fu ta me gl ex st el da cu) h = some ((vF 56 (aI (.ofNat 5)), h0)) :=
 bY (qS [1099997, 1099988] [] [(15, 0, (LV.v (AV.snap [aI i0, aM l0, aM l1])))] [(16, 3, vB b0, h0)]) (tZ k0 (tA (tA t0 (tA tN (k1))) (tA k2 (tZ k3 (tR ((vF 56 (aI (.ofNat 5)), h0))))))) (by kernel_rfl)
theorem v29_14_1 (k0 : ltZ (.ofNat i) n = true) (k1 : ixA (aM xs) (.ofNat i) 3 = some [aI i0, aM l0, aM l1]) (k2 : cA m 69 [mV ty im fu ta me gl ex st el da cu, vI i0] h = some (vB b1, h1)) (k3 : (!b1) = false) (k4 : cA m 47 [vM l0, LV.v (AV.fn 63 [] [])] h1 = some (vB b0, h0)) (k5 : b0 = true) :
  bA m 29 14 ([.lp 0 0, vM xs, vI n, vI (.ofNat i)] ++ mL ty im fu ta me gl ex st el da cu) h = some ((vF 56 (aI (.ofNat 4)), h0)) :=
 bY (qS [1099997, 1099985] [1099988] [(15, 0, (LV.v (AV.snap [aI i0, aM l0, aM l1])))] [(16, 3, vB b1, h1), (18, 2, vB b0, h0)]) (tZ k0 (tA (tA t0 (tA tN (k1))) (tA k2 (tZ k3 (tA k4 (tZ k5 (tR ((vF 56 (aI (.ofNat 4)), h0))))))))) (by kernel_rfl)
theorem v29_14_2 (k0 : ltZ (.ofNat i) n = true) (k1 : ixA (aM xs) (.ofNat i) 3 = some [aI i0, aM l0, aM l1]) (k2 : cA m 69 [mV ty im fu ta me gl ex st el da cu, vI i0] h = some (vB b0, h0)) (k3 : (!b0) = false) (k4 : cA m 47 [vM l0, LV.v (AV.fn 63 [] [])] h0 = some (vB b1, h1)) (k5 : b1 = false) (k6 : bA m 29 14 ([LV.lp 0 0, vM xs, vI n, vI (IntKind.wrap .i64 (.ofNat (Nat.succ i)))] ++ mL ty im fu ta me gl ex st el da cu) h1 = some r) :
  bA m 29 14 ([.lp 0 0, vM xs, vI n, vI (.ofNat i)] ++ mL ty im fu ta me gl ex st el da cu) h = some r :=
 bY (qS [1099997] [1099988, 1099985] [(15, 0, (LV.v (AV.snap [aI i0, aM l0, aM l1])))] [(16, 3, vB b0, h0), (18, 2, vB b1, h1)]) (tZ k0 (tA (tA t0 (tA tN (k1))) (tA k2 (tZ k3 (tA k4 (tZ k5 (tA t1 (k6)))))))) (by kernel_rfl)
theorem v29_14_3 (k0 : ltZ (.ofNat i) n = false) :
  bA m 29 14 ([.lp 0 0, vM xs, vI n, vI (.ofNat i)] ++ mL ty im fu ta me gl ex st el da cu) h = some ((LV.v AV.nilI, h)) :=
 bY (qS [] [1099997] [] []) (tZ k0 (tR ((LV.v AV.nilI, h)))) (by kernel_rfl)
end Go.Proofs.YtoblgjmllmomhaaGreatDoor
namespace Go.Proofs.YtoblgjmllmomhaaGreatDoor
set_option maxRecDepth 100000
open Go Go.Proofs.Am
variable {m st n lo hi mo k t : Int} {ty im fu ta me gl ex el da cu xs l0 l1 : LL} {h h0 h1 : Heap} {r : LV × Heap} {i : Nat} {has b0 b1 : Bool}
theorem v28_0 (k0 : cA m 62 [mV ty im fu ta me gl ex st el da cu] h = some (vB b0, h0)) (k1 : (!b0) = true) :
  bB m 28 [mV ty im fu ta me gl ex st el da cu] h = some ((vF 56 (aI (.ofNat 7)), h0)) :=
 bY (qS [8] [] [] [(1, 2, vB b0, h0)]) (tA k0 (tZ k1 (tR ((vF 56 (aI (.ofNat 7)), h0))))) (by kernel_rfl)
theorem v28_1 (k0 : cA m 62 [mV ty im fu ta me gl ex st el da cu] h = some (vB b0, h0)) (k1 : (!b0) = false) (k2 : bA m 28 4 [vM ty, vI (.ofNat ty.length), vI (.ofNat 0)] h0 = some r) :
  bB m 28 [mV ty im fu ta me gl ex st el da cu] h = some r :=
 bY (qS [] [8] [] [(1, 2, vB b0, h0)]) (tA k0 (tZ k1 (tA t1 (k2)))) (by kernel_rfl)
theorem v28_4_0 (k0 : ltZ (.ofNat i) n = true) (k1 : ixA (aM xs) (.ofNat i) 2 = some [aM l0, aM l1]) (k2 : cA m 47 [vM l0, LV.v (AV.fn 63 [] [])] h = some (vB b0, h0)) (k3 : b0 = true) :
  bA m 28 4 [vM xs, vI n, vI (.ofNat i)] h = some ((vF 56 (aI (.ofNat 4)), h0)) :=
 bY (qS [15, 21] [] [(5, 0, (LV.v (AV.snap [aM l0, aM l1])))] [(6, 2, vB b0, h0)]) (tZ k0 (tA (tA t0 (tA tN (k1))) (tA k2 (tZ k3 (uT3 (tR ((vF 56 (aI (.ofNat 4)), h0)))))))) (by kernel_rfl)
theorem v28_4_1 (k0 : ltZ (.ofNat i) n = true) (k1 : ixA (aM xs) (.ofNat i) 2 = some [aM l0, aM l1]) (k2 : cA m 47 [vM l0, LV.v (AV.fn 63 [] [])] h = some (vB b1, h1)) (k3 : b1 = false) (k4 : cA m 47 [vM l1, LV.v (AV.fn 63 [] [])] h1 = some (vB b0, h0)) (k5 : b0 = true) :
  bA m 28 4 [vM xs, vI n, vI (.ofNat i)] h = some ((vF 56 (aI (.ofNat 4)), h0)) :=
 bY (qS [15, 26] [21] [(5, 0, (LV.v (AV.snap [aM l0, aM l1])))] [(6, 2, vB b1, h1), (6, 6, vB b0, h0)]) (tZ k0 (tA (tA t0 (tA tN (k1))) (tA k2 (tZ k3 (uF2 (tA k4 (tA tF (tZ k5 (uT4 (tR ((vF 56 (aI (.ofNat 4)), h0)))))))))))) (by kernel_rfl)
theorem v28_4_2 (k0 : ltZ (.ofNat i) n = true) (k1 : ixA (aM xs) (.ofNat i) 2 = some [aM l1, aM l0]) (k2 : cA m 47 [vM l1, LV.v (AV.fn 63 [] [])] h = some (vB b1, h1)) (k3 : b1 = false) (k4 : cA m 47 [vM l0, LV.v (AV.fn 63 [] [])] h1 = some (vB b0, h0)) (k5 : b0 = false) (k6 : ltZ (.ofNat 1) (.ofNat l0.length) = true) :
  bA m 28 4 [vM xs, vI n, vI (.ofNat i)] h = some ((vF 56 (aI (.ofNat 4)), h0)) :=
 bY (qS [15, 31] [21, 26] [(5, 0, (LV.v (AV.snap [aM l1, aM l0])))] [(6, 2, vB b1, h1), (6, 6, vB b0, h0)]) (tZ k0 (tA (tA t0 (tA tN (k1))) (tA k2 (tZ k3 (uF2 (tA k4 (tA tF (tZ k5 (uF4 (tZ k6 (tR ((vF 56 (aI (.ofNat 4)), h0))))))))))))) (by kernel_rfl)
theorem v28_4_3 (k0 : ltZ (.ofNat i) n = true) (k1 : ixA (aM xs) (.ofNat i) 2 = some [aM l1, aM l0]) (k2 : cA m 47 [vM l1, LV.v (AV.fn 63 [] [])] h = some (vB b0, h0)) (k3 : b0 = false) (k4 : cA m 47 [vM l0, LV.v (AV.fn 63 [] [])] h0 = some (vB b1, h1)) (k5 : b1 = false) (k6 : ltZ (.ofNat 1) (.ofNat l0.length) = false) (k7 : bA m 28 4 [vM xs, vI n, vI (IntKind.wrap .i64 (.ofNat (Nat.succ i)))] h1 = some r) :
  bA m 28 4 [vM xs, vI n, vI (.ofNat i)] h = some r :=
 bY (qS [15] [21, 26, 31] [(5, 0, (LV.v (AV.snap [aM l1, aM l0])))] [(6, 2, vB b0, h0), (6, 6, vB b1, h1)]) (tZ k0 (tA (tA t0 (tA tN (k1))) (tA k2 (tZ k3 (uF2 (tA k4 (tA tF (tZ k5 (uF4 (tZ k6 (tA t1 (k7)))))))))))) (by kernel_rfl)
theorem v28_4_4 (k0 : ltZ (.ofNat i) n = false) :
  bA m 28 4 [vM xs, vI n, vI (.ofNat i)] h = some ((LV.v AV.nilI, h)) :=
 bY (qS [] [15] [] []) (tZ k0 (tR ((LV.v AV.nilI, h)))) (by kernel_rfl)
theorem v67_0 (k0 : leZ (.ofNat 0) lo = true) (k1 : leZ lo mo = true) (k2 : (!has) = true) :
  bB m 67 [vG [aI lo, aI hi, aB has], vI mo] h = some ((vB true, h)) :=
 bY (qS [8, 14, 18] [] [] []) (tZ k0 (uT4 (tZ k1 (uT3 (tZ k2 (uT8 (tR ((vB true, h))))))))) (by kernel_rfl)
theorem v67_1 (k0 : leZ (.ofNat 0) lo = true) (k1 : leZ lo mo = true) (k2 : (!has) = false) (k3 : leZ hi mo = true) :
  bB m 67 [vG [aI lo, aI hi, aB has], vI mo] h = some ((vB (leZ lo hi), h)) :=
 bY (qS [8, 14, 23] [18] [] []) (tZ k0 (uT4 (tZ k1 (uT3 (tZ k2 (uF4 (tZ k3 (uT4 (tA tF (uT2 (tA tF (tA tT (tR ((vB (leZ lo hi), h))))))))))))))) (by kernel_rfl)
theorem v67_2 (k0 : leZ (.ofNat 0) lo = true) (k1 : leZ lo mo = true) (k2 : (!has) = false) (k3 : leZ hi mo = false) :
  bB m 67 [vG [aI lo, aI hi, aB has], vI mo] h = some ((vB false, h)) :=
 bY (qS [8, 14] [18, 23] [] []) (tZ k0 (uT4 (tZ k1 (uT3 (tZ k2 (uF4 (tZ k3 (uF6 (tA tT (tA tF (tA tT (tR ((vB false, h)))))))))))))) (by kernel_rfl)
theorem v67_3 (k0 : leZ (.ofNat 0) lo = true) (k1 : leZ lo mo = false) :
  bB m 67 [vG [aI lo, aI hi, aB has], vI mo] h = some ((vB false, h)) :=
 bY (qS [8] [14] [] []) (tZ k0 (uT4 (tZ k1 (uF5 (tR ((vB false, h))))))) (by kernel_rfl)
theorem v67_4 (k0 : leZ (.ofNat 0) lo = false) :
  bB m 67 [vG [aI lo, aI hi, aB has], vI mo] h = some ((vB false, h)) :=
 bY (qS [] [8] [] []) (tZ k0 (uF4 (tR ((vB false, h))))) (by kernel_rfl)
theorem v66_0 (k0 : cA m 67 [vG [aI lo, aI hi, aB has], vI (.ofNat 64)] h = some (vB b0, h0)) :
  bB m 66 [vG [aI lo, aI hi, aB has]] h = some ((vB !b0, h0)) :=
 bY (qS [] [] [] [(1, 1, vB b0, h0)]) (tA k0 (tR ((vB !b0, h0)))) (by kernel_rfl)
theorem v68_0 (k0 : cA m 67 [vG [aI lo, aI hi, aB has], vI (.ofNat 16)] h = some (vB b0, h0)) :
  bB m 68 [vG [aI lo, aI hi, aB has]] h = some ((vB !b0, h0)) :=
 bY (qS [] [] [] [(1, 1, vB b0, h0)]) (tA k0 (tR ((vB !b0, h0)))) (by kernel_rfl)
theorem v69_0 (k0 : leZ (.ofNat 0) k = true) :
  bB m 69 [mV ty im fu ta me gl ex st el da cu, vI k] h = some ((vB (ltZ k (.ofNat ty.length)), h)) :=
 bY (qS [7] [] [] []) (tZ k0 (uT6 (tR ((vB (ltZ k (.ofNat ty.length)), h))))) (by kernel_rfl)
theorem v69_1 (k0 : leZ (.ofNat 0) k = false) :
  bB m 69 [mV ty im fu ta me gl ex st el da cu, vI k] h = some ((vB false, h)) :=
 bY (qS [] [7] [] []) (tZ k0 (uF6 (tR ((vB false, h))))) (by kernel_rfl)
theorem v63_0 (k0 : (!eqZ t (.ofNat 1)) = true) :
  bB m 63 [vI t] h = some ((vB !eqZ t (.ofNat 2), h)) :=
 bY (qS [5] [] [] []) (tZ k0 (uT2 (tR ((vB !eqZ t (.ofNat 2), h))))) (by kernel_rfl)
theorem v63_1 (k0 : (!eqZ t (.ofNat 1)) = false) :
  bB m 63 [vI t] h = some ((vB false, h)) :=
 bY (qS [] [5] [] []) (tZ k0 (uF2 (tR ((vB false, h))))) (by kernel_rfl)
end Go.Proofs.YtoblgjmllmomhaaGreatDoor
namespace Go.Proofs.YtoblgjmllmomhaaGreatDoor
set_option maxRecDepth 100000
open Go Go.Proofs.Am
variable {m n i0 i1 : Int} {xs : LL} {fv : AV} {h h0 : Heap} {r : LV × Heap} {i : Nat} {b0 b1 : Bool} {s0 : ByteArray}
theorem v65_0 (k0 : cA m 111 [vM xs, LV.v fv] h = some (vI i0, h0)) :
  bB m 65 [vM xs, .v fv] h = some ((vB (leZ (.ofNat 0) i0), h0)) :=
 bY (qS [] [] [] [(1, 2, vI i0, h0)]) (tA k0 (tR ((vB (leZ (.ofNat 0) i0), h0)))) (by kernel_rfl)
theorem v111_0 (k0 : bA m 111 2 [vM xs, LV.v fv, vI (.ofNat xs.length), vI (.ofNat 0)] h = some r) :
  bB m 111 [vM xs, .v fv] h = some r :=
 bY (qS [] [] [] []) (tA t1 (k0)) (by kernel_rfl)
theorem v111_2_0 (k0 : ltZ (.ofNat i) n = true) (k1 : ixA (aM xs) (.ofNat i) 3 = some [aI i0, aI i1, aB b1]) (k2 : cV m fv [vG [aI i0, aI i1, aB b1]] h = some (vB b0, h0)) (k3 : b0 = true) :
  bA m 111 2 [vM xs, .v fv, vI n, vI (.ofNat i)] h = some ((vI (.ofNat i), h0)) :=
 bY (qS [1099997, 1099989] [] [(4, 3, (LV.v (AV.snap [aI i0, aI i1, aB b1])))] [(4, 5, vB b0, h0)]) (tZ k0 (tA (tA t0 (tA tN (k1))) (tA k2 (tZ k3 (tR ((vI (.ofNat i), h0))))))) (by kernel_rfl)
theorem v111_2_1 (k0 : ltZ (.ofNat i) n = true) (k1 : ixA (aM xs) (.ofNat i) 3 = some [aI i0, aI i1, aB b1]) (k2 : cV m fv [vG [aI i0, aI i1, aB b1]] h = some (vB b0, h0)) (k3 : b0 = false) (k4 : bA m 111 2 [vM xs, LV.v fv, vI n, vI (IntKind.wrap .i64 (.ofNat (Nat.succ i)))] h0 = some r) :
  bA m 111 2 [vM xs, .v fv, vI n, vI (.ofNat i)] h = some r :=
 bY (qS [1099997] [1099989] [(4, 3, (LV.v (AV.snap [aI i0, aI i1, aB b1])))] [(4, 5, vB b0, h0)]) (tZ k0 (tA (tA t0 (tA tN (k1))) (tA k2 (tZ k3 (tA t1 (k4)))))) (by kernel_rfl)
theorem v111_2_2 (k0 : ltZ (.ofNat i) n = false) :
  bA m 111 2 [vM xs, .v fv, vI n, vI (.ofNat i)] h = some ((vI (Int.negSucc 0), h)) :=
 bY (qS [] [1099997] [] []) (tZ k0 (tR ((vI (Int.negSucc 0), h)))) (by kernel_rfl)
theorem v74_0 (k0 : cA m 115 [vM xs, LV.v fv] h = some (vI i0, h0)) :
  bB m 74 [vM xs, .v fv] h = some ((vB (leZ (.ofNat 0) i0), h0)) :=
 bY (qS [] [] [] [(1, 2, vI i0, h0)]) (tA k0 (tR ((vB (leZ (.ofNat 0) i0), h0)))) (by kernel_rfl)
theorem v115_0 (k0 : bA m 115 2 [vM xs, LV.v fv, vI (.ofNat xs.length), vI (.ofNat 0)] h = some r) :
  bB m 115 [vM xs, .v fv] h = some r :=
 bY (qS [] [] [] []) (tA t1 (k0)) (by kernel_rfl)
theorem v115_2_0 (k0 : ltZ (.ofNat i) n = true) (k1 : ixA (aM xs) (.ofNat i) 3 = some [aS s0, aI i0, aI i1]) (k2 : cV m fv [vG [aS s0, aI i0, aI i1]] h = some (vB b0, h0)) (k3 : b0 = true) :
  bA m 115 2 [vM xs, .v fv, vI n, vI (.ofNat i)] h = some ((vI (.ofNat i), h0)) :=
 bY (qS [1099997, 1099989] [] [(4, 3, (LV.v (AV.snap [aS s0, aI i0, aI i1])))] [(4, 5, vB b0, h0)]) (tZ k0 (tA (tA t0 (tA tN (k1))) (tA k2 (tZ k3 (tR ((vI (.ofNat i), h0))))))) (by kernel_rfl)
theorem v115_2_1 (k0 : ltZ (.ofNat i) n = true) (k1 : ixA (aM xs) (.ofNat i) 3 = some [aS s0, aI i0, aI i1]) (k2 : cV m fv [vG [aS s0, aI i0, aI i1]] h = some (vB b0, h0)) (k3 : b0 = false) (k4 : bA m 115 2 [vM xs, LV.v fv, vI n, vI (IntKind.wrap .i64 (.ofNat (Nat.succ i)))] h0 = some r) :
  bA m 115 2 [vM xs, .v fv, vI n, vI (.ofNat i)] h = some r :=
 bY (qS [1099997] [1099989] [(4, 3, (LV.v (AV.snap [aS s0, aI i0, aI i1])))] [(4, 5, vB b0, h0)]) (tZ k0 (tA (tA t0 (tA tN (k1))) (tA k2 (tZ k3 (tA t1 (k4)))))) (by kernel_rfl)
theorem v115_2_2 (k0 : ltZ (.ofNat i) n = false) :
  bA m 115 2 [vM xs, .v fv, vI n, vI (.ofNat i)] h = some ((vI (Int.negSucc 0), h)) :=
 bY (qS [] [1099997] [] []) (tZ k0 (tR ((vI (Int.negSucc 0), h)))) (by kernel_rfl)
end Go.Proofs.YtoblgjmllmomhaaGreatDoor
