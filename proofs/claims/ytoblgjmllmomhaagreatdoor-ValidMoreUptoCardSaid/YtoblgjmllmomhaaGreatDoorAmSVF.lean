/-
  Whether a module is small enough for a law to speak of it: something is told; and where it is, its lists are short.
-/
import Derived.Test.YtoblgjmllmomhaaGreatDoorAmS15S
import Derived.KernelRfl
import Derived.Test.YtoblgjmllmomhaaGreatDoorAmSVzz
namespace Go.Proofs.YtoblgjmllmomhaaGreatDoor
set_option maxRecDepth 100000
open Go Go.Proofs.Am
variable {m st i0 i1 i2 i3 i4 i5 i6 i7 i8 i9 : Int} {ty im fu ta me gl ex el da cu l0 l1 l2 l3 l4 l5 l6 l7 l8 : LL} {h h0 h1 : Heap} {r : LV × Heap} {qq b0 b1 b2 : Bool} {i : Nat}
theorem s10_0 (k0 : leZ (.ofNat ty.length) (.ofNat 200) = true) (k1 : leZ (.ofNat im.length) (.ofNat 200) = true) (k2 : leZ (.ofNat fu.length) (.ofNat 200) = true) (k3 : leZ (.ofNat gl.length) (.ofNat 200) = true) (k4 : leZ (.ofNat ex.length) (.ofNat 200) = true) (k5 : leZ (.ofNat el.length) (.ofNat 200) = true) (k6 : leZ (.ofNat da.length) (.ofNat 200) = true) (k7 : bA m 14 3 ([LV.lp 0 0, vB (leZ (.ofNat cu.length) (.ofNat 200)), vI (.ofNat 0)] ++ mL ty im fu ta me gl ex st el da cu) h = some r) :
  bB m 14 [mV ty im fu ta me gl ex st el da cu] h = some r :=
 bY (qS [12, 18, 24, 30, 36, 42, 48] [] [] []) (tZ k0 (uT4 (tZ k1 (uT4 (tZ k2 (uT4 (tZ k3 (uT4 (tZ k4 (uT4 (tZ k5 (uT4 (tZ k6 (uT4 (tA t1 (k7)))))))))))))))) (by kernel_rfl)
theorem s10_1 (k0 : leZ (.ofNat ty.length) (.ofNat 200) = true) (k1 : leZ (.ofNat im.length) (.ofNat 200) = true) (k2 : leZ (.ofNat fu.length) (.ofNat 200) = true) (k3 : leZ (.ofNat gl.length) (.ofNat 200) = true) (k4 : leZ (.ofNat ex.length) (.ofNat 200) = true) (k5 : leZ (.ofNat el.length) (.ofNat 200) = true) (k6 : leZ (.ofNat da.length) (.ofNat 200) = false) (k7 : bA m 14 3 ([LV.lp 0 0, vB false, vI (.ofNat 0)] ++ mL ty im fu ta me gl ex st el da cu) h = some r) :
  bB m 14 [mV ty im fu ta me gl ex st el da cu] h = some r :=
 bY (qS [12, 18, 24, 30, 36, 42] [48] [] []) (tZ k0 (uT4 (tZ k1 (uT4 (tZ k2 (uT4 (tZ k3 (uT4 (tZ k4 (uT4 (tZ k5 (uT4 (tZ k6 (uF4 (tA t1 (k7)))))))))))))))) (by kernel_rfl)
theorem s10_2 (k0 : leZ (.ofNat ty.length) (.ofNat 200) = true) (k1 : leZ (.ofNat im.length) (.ofNat 200) = true) (k2 : leZ (.ofNat fu.length) (.ofNat 200) = true) (k3 : leZ (.ofNat gl.length) (.ofNat 200) = true) (k4 : leZ (.ofNat ex.length) (.ofNat 200) = true) (k5 : leZ (.ofNat el.length) (.ofNat 200) = false) (k6 : bA m 14 3 ([LV.lp 0 0, vB false, vI (.ofNat 0)] ++ mL ty im fu ta me gl ex st el da cu) h = some r) :
  bB m 14 [mV ty im fu ta me gl ex st el da cu] h = some r :=
 bY (qS [12, 18, 24, 30, 36] [42] [] []) (tZ k0 (uT4 (tZ k1 (uT4 (tZ k2 (uT4 (tZ k3 (uT4 (tZ k4 (uT4 (tZ k5 (uF4 (tA t1 (k6)))))))))))))) (by kernel_rfl)
theorem s10_3 (k0 : leZ (.ofNat ty.length) (.ofNat 200) = true) (k1 : leZ (.ofNat im.length) (.ofNat 200) = true) (k2 : leZ (.ofNat fu.length) (.ofNat 200) = true) (k3 : leZ (.ofNat gl.length) (.ofNat 200) = true) (k4 : leZ (.ofNat ex.length) (.ofNat 200) = false) (k5 : bA m 14 3 ([LV.lp 0 0, vB false, vI (.ofNat 0)] ++ mL ty im fu ta me gl ex st el da cu) h = some r) :
  bB m 14 [mV ty im fu ta me gl ex st el da cu] h = some r :=
 bY (qS [12, 18, 24, 30] [36] [] []) (tZ k0 (uT4 (tZ k1 (uT4 (tZ k2 (uT4 (tZ k3 (uT4 (tZ k4 (uF4 (tA t1 (k5)))))))))))) (by kernel_rfl)
theorem s10_4 (k0 : leZ (.ofNat ty.length) (.ofNat 200) = true) (k1 : leZ (.ofNat im.length) (.ofNat 200) = true) (k2 : leZ (.ofNat fu.length) (.ofNat 200) = true) (k3 : leZ (.ofNat gl.length) (.ofNat 200) = false) (k4 : bA m 14 3 ([LV.lp 0 0, vB false, vI (.ofNat 0)] ++ mL ty im fu ta me gl ex st el da cu) h = some r) :
  bB m 14 [mV ty im fu ta me gl ex st el da cu] h = some r :=
 bY (qS [12, 18, 24] [30] [] []) (tZ k0 (uT4 (tZ k1 (uT4 (tZ k2 (uT4 (tZ k3 (uF4 (tA t1 (k4)))))))))) (by kernel_rfl)
theorem s10_5 (k0 : leZ (.ofNat ty.length) (.ofNat 200) = true) (k1 : leZ (.ofNat im.length) (.ofNat 200) = true) (k2 : leZ (.ofNat fu.length) (.ofNat 200) = false) (k3 : bA m 14 3 ([LV.lp 0 0, vB false, vI (.ofNat 0)] ++ mL ty im fu ta me gl ex st el da cu) h = some r) :
  bB m 14 [mV ty im fu ta me gl ex st el da cu] h = some r :=
 bY (qS [12, 18] [24] [] []) (tZ k0 (uT4 (tZ k1 (uT4 (tZ k2 (uF4 (tA t1 (k3)))))))) (by kernel_rfl)
theorem s10_6 (k0 : leZ (.ofNat ty.length) (.ofNat 200) = true) (k1 : leZ (.ofNat im.length) (.ofNat 200) = false) (k2 : bA m 14 3 ([LV.lp 0 0, vB false, vI (.ofNat 0)] ++ mL ty im fu ta me gl ex st el da cu) h = some r) :
  bB m 14 [mV ty im fu ta me gl ex st el da cu] h = some r :=
 bY (qS [12] [18] [] []) (tZ k0 (uT4 (tZ k1 (uF4 (tA t1 (k2)))))) (by kernel_rfl)
theorem s10_7 (k0 : leZ (.ofNat ty.length) (.ofNat 200) = false) (k1 : bA m 14 3 ([LV.lp 0 0, vB false, vI (.ofNat 0)] ++ mL ty im fu ta me gl ex st el da cu) h = some r) :
  bB m 14 [mV ty im fu ta me gl ex st el da cu] h = some r :=
 bY (qS [] [12] [] []) (tZ k0 (uF4 (tA t1 (k1)))) (by kernel_rfl)
theorem s10_3_0 (k0 : ltZ (.ofNat i) (.ofNat fu.length) = true) (k1 : qq = true) (k2 : ixA (aM fu) (.ofNat i) 3 = some [aI i0, aM l2, aM l0]) (k3 : cA m 26 [vM l0] h = some (vB b0, h0)) (k4 : b0 = true) (k5 : ixA (aM fu) (.ofNat i) 3 = some [aI i1, aM l1, aM l3]) (k6 : bA m 14 3 ([LV.lp 0 0, vB (leZ (.ofNat l1.length) (.ofNat 1000)), vI (IntKind.wrap .i64 (.ofNat (Nat.succ i)))] ++ mL ty im fu ta me gl ex st el da cu) h0 = some r) :
  bA m 14 3 ([.lp 0 0, vB qq, vI (.ofNat i)] ++ mL ty im fu ta me gl ex st el da cu) h = some r :=
 bY (qS [59, 1099998, 71] [] [(5, 3, (LV.v (AV.snap [aI i0, aM l2, aM l0]))), (5, 11, (LV.v (AV.snap [aI i1, aM l1, aM l3])))] [(5, 6, vB b0, h0)]) (tZ k0 (tA tT (tZ k1 (tA (tA t0 (tA tN (k2))) (tA k3 (tZ k4 (uT3 (tA (tA t0 (tA tN (k5))) (uT5 (tA t1 (k6))))))))))) (by kernel_rfl)
theorem s10_3_1 (k0 : ltZ (.ofNat i) (.ofNat fu.length) = true) (k1 : qq = true) (k2 : ixA (aM fu) (.ofNat i) 3 = some [aI i0, aM l1, aM l0]) (k3 : cA m 26 [vM l0] h = some (vB b0, h0)) (k4 : b0 = false) (k5 : bA m 14 3 ([LV.lp 0 0, vB false, vI (IntKind.wrap .i64 (.ofNat (Nat.succ i)))] ++ mL ty im fu ta me gl ex st el da cu) h0 = some r) :
  bA m 14 3 ([.lp 0 0, vB qq, vI (.ofNat i)] ++ mL ty im fu ta me gl ex st el da cu) h = some r :=
 bY (qS [59, 1099998] [71] [(5, 3, (LV.v (AV.snap [aI i0, aM l1, aM l0])))] [(5, 6, vB b0, h0)]) (tZ k0 (tA tT (tZ k1 (tA (tA t0 (tA tN (k2))) (tA k3 (tZ k4 (uF8 (tA t1 (k5))))))))) (by kernel_rfl)
theorem s10_3_2 (k0 : ltZ (.ofNat i) (.ofNat fu.length) = true) (k1 : qq = false) (k2 : bA m 14 7 ([LV.lp 0 0, vB qq, vI (.ofNat 0)] ++ mL ty im fu ta me gl ex st el da cu) h = some r) :
  bA m 14 3 ([.lp 0 0, vB qq, vI (.ofNat i)] ++ mL ty im fu ta me gl ex st el da cu) h = some r :=
 bY (qS [59] [1099998] [] []) (tZ k0 (tA tT (tZ k1 (tA t1 (k2))))) (by kernel_rfl)
theorem s10_3_3 (k0 : ltZ (.ofNat i) (.ofNat fu.length) = false) (k1 : bA m 14 7 ([LV.lp 0 0, vB qq, vI (.ofNat 0)] ++ mL ty im fu ta me gl ex st el da cu) h = some r) :
  bA m 14 3 ([.lp 0 0, vB qq, vI (.ofNat i)] ++ mL ty im fu ta me gl ex st el da cu) h = some r :=
 bY (qS [] [59] [] []) (tZ k0 (tA tF (tA t1 (k1)))) (by kernel_rfl)
theorem s10_7_0 (k0 : ltZ (.ofNat i) (.ofNat gl.length) = true) (k1 : qq = true) (k2 : ixA (aM gl) (.ofNat i) 11 = some ([aI i5, aB b1] ++ nC i0 i1 i2 i3 i4 l1 l2 l3 b2)) (k3 : cA m 27 [vG (nC i0 i1 i2 i3 i4 l1 l2 l3 b2)] h = some (vM l0, h0)) (k4 : cA m 26 [vM l0] h0 = some (vB b0, h1)) (k5 : bA m 14 7 ([LV.lp 0 0, vB b0, vI (IntKind.wrap .i64 (.ofNat (Nat.succ i)))] ++ mL ty im fu ta me gl ex st el da cu) h1 = some r) :
  bA m 14 7 ([.lp 0 0, vB qq, vI (.ofNat i)] ++ mL ty im fu ta me gl ex st el da cu) h = some r :=
 bY (qS [86, 1099998] [] [(9, 3, (LV.v (AV.snap ([aI i5, aB b1] ++ nC i0 i1 i2 i3 i4 l1 l2 l3 b2))))] [(9, 6, vM l0, h0), (9, 7, vB b0, h1)]) (tZ k0 (tA tT (tZ k1 (tA (tA t0 (tA tN (k2))) (tA k3 (tA k4 (tA t1 (k5)))))))) (by kernel_rfl)
theorem s10_7_1 (k0 : ltZ (.ofNat i) (.ofNat gl.length) = true) (k1 : qq = false) (k2 : bA m 14 11 ([LV.lp 0 0, vB qq, vI (.ofNat 0)] ++ mL ty im fu ta me gl ex st el da cu) h = some r) :
  bA m 14 7 ([.lp 0 0, vB qq, vI (.ofNat i)] ++ mL ty im fu ta me gl ex st el da cu) h = some r :=
 bY (qS [86] [1099998] [] []) (tZ k0 (tA tT (tZ k1 (tA t1 (k2))))) (by kernel_rfl)
theorem s10_7_2 (k0 : ltZ (.ofNat i) (.ofNat gl.length) = false) (k1 : bA m 14 11 ([LV.lp 0 0, vB qq, vI (.ofNat 0)] ++ mL ty im fu ta me gl ex st el da cu) h = some r) :
  bA m 14 7 ([.lp 0 0, vB qq, vI (.ofNat i)] ++ mL ty im fu ta me gl ex st el da cu) h = some r :=
 bY (qS [] [86] [] []) (tZ k0 (tA tF (tA t1 (k1)))) (by kernel_rfl)
theorem s10_11_0 (k0 : ltZ (.ofNat i) (.ofNat el.length) = true) (k1 : qq = true) (k2 : ixA (aM el) (.ofNat i) 10 = some [aI i0, aI i1, aI i2, AV.int IntKind.u64 i3, aI i4, aM l1, aM l2, aM l3, aB b1, aM l5]) (k3 : cA m 27 [vG (nC i0 i1 i2 i3 i4 l1 l2 l3 b1)] h = some (vM l0, h0)) (k4 : cA m 26 [vM l0] h0 = some (vB b0, h1)) (k5 : b0 = true) (k6 : ixA (aM el) (.ofNat i) 10 = some [aI i5, aI i6, aI i7, AV.int IntKind.u64 i8, aI i9, aM l6, aM l7, aM l8, aB b2, aM l4]) (k7 : bA m 14 11 ([LV.lp 0 0, vB (leZ (.ofNat l4.length) (.ofNat 1000)), vI (IntKind.wrap .i64 (.ofNat (Nat.succ i)))] ++ mL ty im fu ta me gl ex st el da cu) h1 = some r) :
  bA m 14 11 ([.lp 0 0, vB qq, vI (.ofNat i)] ++ mL ty im fu ta me gl ex st el da cu) h = some r :=
 bY (qS [104, 1099998, 117] [] [(13, 3, (LV.v (AV.snap [aI i0, aI i1, aI i2, AV.int IntKind.u64 i3, aI i4, aM l1, aM l2, aM l3, aB b1, aM l5]))), (13, 12, (LV.v (AV.snap [aI i5, aI i6, aI i7, AV.int IntKind.u64 i8, aI i9, aM l6, aM l7, aM l8, aB b2, aM l4])))] [(13, 6, vM l0, h0), (13, 7, vB b0, h1)]) (tZ k0 (tA tT (tZ k1 (tA (tA t0 (tA tN (k2))) (tA k3 (tA k4 (tZ k5 (uT3 (tA (tA t0 (tA tN (k6))) (uT5 (tA t1 (k7)))))))))))) (by kernel_rfl)
theorem s10_11_1 (k0 : ltZ (.ofNat i) (.ofNat el.length) = true) (k1 : qq = true) (k2 : ixA (aM el) (.ofNat i) 10 = some [aI i0, aI i1, aI i2, AV.int IntKind.u64 i3, aI i4, aM l1, aM l2, aM l3, aB b1, aM l4]) (k3 : cA m 27 [vG (nC i0 i1 i2 i3 i4 l1 l2 l3 b1)] h = some (vM l0, h0)) (k4 : cA m 26 [vM l0] h0 = some (vB b0, h1)) (k5 : b0 = false) (k6 : bA m 14 11 ([LV.lp 0 0, vB false, vI (IntKind.wrap .i64 (.ofNat (Nat.succ i)))] ++ mL ty im fu ta me gl ex st el da cu) h1 = some r) :
  bA m 14 11 ([.lp 0 0, vB qq, vI (.ofNat i)] ++ mL ty im fu ta me gl ex st el da cu) h = some r :=
 bY (qS [104, 1099998] [117] [(13, 3, (LV.v (AV.snap [aI i0, aI i1, aI i2, AV.int IntKind.u64 i3, aI i4, aM l1, aM l2, aM l3, aB b1, aM l4])))] [(13, 6, vM l0, h0), (13, 7, vB b0, h1)]) (tZ k0 (tA tT (tZ k1 (tA (tA t0 (tA tN (k2))) (tA k3 (tA k4 (tZ k5 (uF8 (tA t1 (k6)))))))))) (by kernel_rfl)
theorem s10_11_2 (k0 : ltZ (.ofNat i) (.ofNat el.length) = true) (k1 : qq = false) (k2 : bA m 14 15 ([LV.lp 0 0, vB qq, vI (.ofNat 0)] ++ mL ty im fu ta me gl ex st el da cu) h = some r) :
  bA m 14 11 ([.lp 0 0, vB qq, vI (.ofNat i)] ++ mL ty im fu ta me gl ex st el da cu) h = some r :=
 bY (qS [104] [1099998] [] []) (tZ k0 (tA tT (tZ k1 (tA t1 (k2))))) (by kernel_rfl)
theorem s10_11_3 (k0 : ltZ (.ofNat i) (.ofNat el.length) = false) (k1 : bA m 14 15 ([LV.lp 0 0, vB qq, vI (.ofNat 0)] ++ mL ty im fu ta me gl ex st el da cu) h = some r) :
  bA m 14 11 ([.lp 0 0, vB qq, vI (.ofNat i)] ++ mL ty im fu ta me gl ex st el da cu) h = some r :=
 bY (qS [] [104] [] []) (tZ k0 (tA tF (tA t1 (k1)))) (by kernel_rfl)
theorem s10_15_0 (k0 : ltZ (.ofNat i) (.ofNat da.length) = true) (k1 : qq = true) (k2 : ixA (aM da) (.ofNat i) 10 = some [aI i0, aI i1, aI i2, AV.int IntKind.u64 i3, aI i4, aM l1, aM l2, aM l3, aB b1, aM l5]) (k3 : cA m 27 [vG (nC i0 i1 i2 i3 i4 l1 l2 l3 b1)] h = some (vM l0, h0)) (k4 : cA m 26 [vM l0] h0 = some (vB b0, h1)) (k5 : b0 = true) (k6 : ixA (aM da) (.ofNat i) 10 = some [aI i5, aI i6, aI i7, AV.int IntKind.u64 i8, aI i9, aM l6, aM l7, aM l8, aB b2, aM l4]) (k7 : bA m 14 15 ([LV.lp 0 0, vB (leZ (.ofNat l4.length) (.ofNat 10000)), vI (IntKind.wrap .i64 (.ofNat (Nat.succ i)))] ++ mL ty im fu ta me gl ex st el da cu) h1 = some r) :
  bA m 14 15 ([.lp 0 0, vB qq, vI (.ofNat i)] ++ mL ty im fu ta me gl ex st el da cu) h = some r :=
 bY (qS [132, 1099998, 145] [] [(17, 3, (LV.v (AV.snap [aI i0, aI i1, aI i2, AV.int IntKind.u64 i3, aI i4, aM l1, aM l2, aM l3, aB b1, aM l5]))), (17, 12, (LV.v (AV.snap [aI i5, aI i6, aI i7, AV.int IntKind.u64 i8, aI i9, aM l6, aM l7, aM l8, aB b2, aM l4])))] [(17, 6, vM l0, h0), (17, 7, vB b0, h1)]) (tZ k0 (tA tT (tZ k1 (tA (tA t0 (tA tN (k2))) (tA k3 (tA k4 (tZ k5 (uT3 (tA (tA t0 (tA tN (k6))) (uT5 (tA t1 (k7)))))))))))) (by kernel_rfl)
theorem s10_15_1 (k0 : ltZ (.ofNat i) (.ofNat da.length) = true) (k1 : qq = true) (k2 : ixA (aM da) (.ofNat i) 10 = some [aI i0, aI i1, aI i2, AV.int IntKind.u64 i3, aI i4, aM l1, aM l2, aM l3, aB b1, aM l4]) (k3 : cA m 27 [vG (nC i0 i1 i2 i3 i4 l1 l2 l3 b1)] h = some (vM l0, h0)) (k4 : cA m 26 [vM l0] h0 = some (vB b0, h1)) (k5 : b0 = false) (k6 : bA m 14 15 ([LV.lp 0 0, vB false, vI (IntKind.wrap .i64 (.ofNat (Nat.succ i)))] ++ mL ty im fu ta me gl ex st el da cu) h1 = some r) :
  bA m 14 15 ([.lp 0 0, vB qq, vI (.ofNat i)] ++ mL ty im fu ta me gl ex st el da cu) h = some r :=
 bY (qS [132, 1099998] [145] [(17, 3, (LV.v (AV.snap [aI i0, aI i1, aI i2, AV.int IntKind.u64 i3, aI i4, aM l1, aM l2, aM l3, aB b1, aM l4])))] [(17, 6, vM l0, h0), (17, 7, vB b0, h1)]) (tZ k0 (tA tT (tZ k1 (tA (tA t0 (tA tN (k2))) (tA k3 (tA k4 (tZ k5 (uF8 (tA t1 (k6)))))))))) (by kernel_rfl)
theorem s10_15_2 (k0 : ltZ (.ofNat i) (.ofNat da.length) = true) (k1 : qq = false) :
  bA m 14 15 ([.lp 0 0, vB qq, vI (.ofNat i)] ++ mL ty im fu ta me gl ex st el da cu) h = some ((vB qq, h)) :=
 bY (qS [132] [1099998] [] []) (tZ k0 (tA tT (tZ k1 (tR ((vB qq, h)))))) (by kernel_rfl)
theorem s10_15_3 (k0 : ltZ (.ofNat i) (.ofNat da.length) = false) :
  bA m 14 15 ([.lp 0 0, vB qq, vI (.ofNat i)] ++ mL ty im fu ta me gl ex st el da cu) h = some ((vB qq, h)) :=
 bY (qS [] [132] [] []) (tZ k0 (tA tF (tR ((vB qq, h))))) (by kernel_rfl)
end Go.Proofs.YtoblgjmllmomhaaGreatDoor
namespace Go.Proofs.YtoblgjmllmomhaaGreatDoor
set_option maxRecDepth 100000
open Go Go.RowKit Go.Proofs.Am
theorem few24 (m : Int) (l : List Ins) (hl : FitL 120 FitZ l) : ∃ q : Bool, ∀ h, CALL m 26 [.v (.imm (encIs l))] h = some (.v (.bool q), h) := by
 obtain ⟨n, d, hc⟩ := count7 m l (hl.len (by decide)) fun x hx => (hl.2 x hx).fit
 exact ⟨_, fun h => callZ rfl (by kernel_rfl) (by kernel_rfl) (s24_0 (k0 := hc h) ..)⟩
theorem one25 (m : Int) (x : Ins) (h : Heap) : CALL m 27 [.v (.agg (encI x))] h = some (.v (.imm (encIs [x])), h) := by
 obtain ⟨o, a, b, v, t, l, bd, el, q⟩ := x
 exact callZ rfl (by kernel_rfl) (by kernel_rfl) (s25_0 ..)
theorem few25 (m : Int) {x : Ins} (hx : FitZ x) : ∃ q : Bool, ∀ h, CALL m 26 [.v (.imm (encIs [x]))] h = some (.v (.bool q), h) :=
 few24 m [x] ⟨Nat.le_of_ble_eq_true (show Nat.ble (1 * 120) reachBytes = true from rfl), fun y hy => by rw [List.mem_singleton] at hy; rw [hy]; exact hx⟩
abbrev S10 (M : Mdl) (q : Bool) (i : Nat) : List LV := [.lp 0 0, .v (.bool q), .v (.int .i64 (Int.ofNat i)), .v (.imm (M.ty.map FTy.enc)), .v (.imm (M.im.map Imp.enc)), .v (.imm (M.fu.map MFn.enc)), .v (.imm (M.ta.map Lim.enc)), .v (.imm (M.me.map Lim.enc)), .v (.imm (M.gl.map Glo.enc)), .v (.imm (M.ex.map Exq.enc)), .v (.int .i64 M.st), .v (.imm (M.el.map Ele.enc)), .v (.imm (M.da.map Dat.enc)), .v (.imm (M.cu.map Cus.enc))]
noncomputable abbrev B10 (m : Int) (r : Nat) (M : Mdl) (q : Bool) (i : Nat) (h : Heap) := blk (cxZ m) 14 (at_ Tryz.prog 14 r) (S10 M q i) h
def L10 (m : Int) (r : Nat) (M : Mdl) (q : Bool) (i : Nat) : Prop := ∃ q' : Bool, (q = false → q' = false) ∧ ∀ h, B10 m r M q i h = some (.v (.bool q'), h)
theorem L10.le {m : Int} {r r' : Nat} {M : Mdl} {q q1 : Bool} {i i' : Nat} (h : L10 m r M q i) (hq : q1 = false → q = false) (hb : ∀ h x, B10 m r M q i h = some x → B10 m r' M q1 i' h = some x) : L10 m r' M q1 i' := by
 obtain ⟨q', h1, h2⟩ := h
 exact ⟨q', fun e => h1 (hq e), fun h => hb h _ (h2 h)⟩
theorem loop10_15 (m : Int) {M : Mdl} (hM : M.Fit) : ∀ (d i : Nat), i + d = M.da.length → ∀ q : Bool, L10 m 15 M q i
 | 0, i, hd, q => ⟨q, id, fun h => s10_15_3 (k0 := ltZ_f (by rw [List.length_map, ofN, ofN]; omega)) ..⟩
 | d + 1, i, hd, false => ⟨false, id, fun h => s10_15_2 (k0 := ltZ_t (by rw [List.length_map, ofN, ofN]; omega)) (k1 := rfl) ..⟩
 | d + 1, i, hd, true => by
  have hlt : i < M.da.length := by omega
  have hx : M.da[i]? = some M.da[i] := List.getElem?_eq_getElem hlt
  generalize M.da[i] = x at hx
  have hf := hM.2.2.2.2.2.2.2.2.2.1.2 x (List.mem_of_getElem? hx)
  have hb := hM.2.2.2.2.2.2.2.2.2.1.1
  have hr : reachBytes = 140737488351232 := rfl
  have k0 : ltZ (Int.ofNat i) (Int.ofNat (M.da.map Dat.enc).length) = true := ltZ_t (by rw [List.length_map, ofN, ofN]; omega)
  have kx : ixA (.imm (M.da.map Dat.enc)) (Int.ofNat i) 10 = some x.enc := ix_map hx x.enc_len
  have hw := wrapS (n := i) (by omega)
  obtain ⟨gi, gf⟩ := x
  obtain ⟨q2, hq2⟩ := few25 m hf.1
  have c25 := one25 m gi
  obtain ⟨o, a, b, v, t, l, bd, el, qq⟩ := gi
  cases q2 with
  | true => exact (loop10_15 m hM d (i + 1) (by omega) _).le (fun e => by cases e) fun h y hy => s10_15_0 (k0 := k0) (k1 := rfl) (k2 := kx) (k3 := c25 h) (k4 := hq2 h) (k5 := rfl) (k6 := kx) (k7 := by rw [hw]; exact hy) ..
  | false => exact (loop10_15 m hM d (i + 1) (by omega) _).le (fun e => by cases e) fun h y hy => s10_15_1 (k0 := k0) (k1 := rfl) (k2 := kx) (k3 := c25 h) (k4 := hq2 h) (k5 := rfl) (k6 := by rw [hw]; exact hy) ..
theorem loop10_11 (m : Int) {M : Mdl} (hM : M.Fit) : ∀ (d i : Nat), i + d = M.el.length → ∀ q : Bool, L10 m 11 M q i
 | 0, i, hd, q => (loop10_15 m hM M.da.length 0 (by omega) q).le id fun h x hx => s10_11_3 (k0 := ltZ_f (by rw [List.length_map, ofN, ofN]; omega)) (k1 := hx) ..
 | d + 1, i, hd, false => (loop10_15 m hM M.da.length 0 (by omega) false).le id fun h x hx => s10_11_2 (k0 := ltZ_t (by rw [List.length_map, ofN, ofN]; omega)) (k1 := rfl) (k2 := hx) ..
 | d + 1, i, hd, true => by
  have hlt : i < M.el.length := by omega
  have hx : M.el[i]? = some M.el[i] := List.getElem?_eq_getElem hlt
  generalize M.el[i] = x at hx
  have hf := hM.2.2.2.2.2.2.2.2.1.2 x (List.mem_of_getElem? hx)
  have hb := hM.2.2.2.2.2.2.2.2.1.1
  have hr : reachBytes = 140737488351232 := rfl
  have k0 : ltZ (Int.ofNat i) (Int.ofNat (M.el.map Ele.enc).length) = true := ltZ_t (by rw [List.length_map, ofN, ofN]; omega)
  have kx : ixA (.imm (M.el.map Ele.enc)) (Int.ofNat i) 10 = some x.enc := ix_map hx x.enc_len
  have hw := wrapS (n := i) (by omega)
  obtain ⟨gi, gf⟩ := x
  obtain ⟨q2, hq2⟩ := few25 m hf.1
  have c25 := one25 m gi
  obtain ⟨o, a, b, v, t, l, bd, el, qq⟩ := gi
  cases q2 with
  | true => exact (loop10_11 m hM d (i + 1) (by omega) _).le (fun e => by cases e) fun h y hy => s10_11_0 (k0 := k0) (k1 := rfl) (k2 := kx) (k3 := c25 h) (k4 := hq2 h) (k5 := rfl) (k6 := kx) (k7 := by rw [hw]; exact hy) ..
  | false => exact (loop10_11 m hM d (i + 1) (by omega) _).le (fun e => by cases e) fun h y hy => s10_11_1 (k0 := k0) (k1 := rfl) (k2 := kx) (k3 := c25 h) (k4 := hq2 h) (k5 := rfl) (k6 := by rw [hw]; exact hy) ..
theorem loop10_7 (m : Int) {M : Mdl} (hM : M.Fit) : ∀ (d i : Nat), i + d = M.gl.length → ∀ q : Bool, L10 m 7 M q i
 | 0, i, hd, q => (loop10_11 m hM M.el.length 0 (by omega) q).le id fun h x hx => s10_7_2 (k0 := ltZ_f (by rw [List.length_map, ofN, ofN]; omega)) (k1 := hx) ..
 | d + 1, i, hd, false => (loop10_11 m hM M.el.length 0 (by omega) false).le id fun h x hx => s10_7_1 (k0 := ltZ_t (by rw [List.length_map, ofN, ofN]; omega)) (k1 := rfl) (k2 := hx) ..
 | d + 1, i, hd, true => by
  have hlt : i < M.gl.length := by omega
  have hx : M.gl[i]? = some M.gl[i] := List.getElem?_eq_getElem hlt
  generalize M.gl[i] = x at hx
  have hf := hM.2.2.2.2.2.1.2 x (List.mem_of_getElem? hx)
  have hb := hM.2.2.2.2.2.1.1
  have hr : reachBytes = 140737488351232 := rfl
  have k0 : ltZ (Int.ofNat i) (Int.ofNat (M.gl.map Glo.enc).length) = true := ltZ_t (by rw [List.length_map, ofN, ofN]; omega)
  have kx : ixA (.imm (M.gl.map Glo.enc)) (Int.ofNat i) 11 = some x.enc := ix_map hx x.enc_len
  have hw := wrapS (n := i) (by omega)
  obtain ⟨gt, gm, gi⟩ := x
  obtain ⟨q2, hq2⟩ := few25 m hf.2
  have c25 := one25 m gi
  obtain ⟨o, a, b, v, t, l, bd, el, qq⟩ := gi
  exact (loop10_7 m hM d (i + 1) (by omega) q2).le (fun e => by cases e) fun h y hy => s10_7_0 (k0 := k0) (k1 := rfl) (k2 := kx) (k3 := c25 h) (k4 := hq2 h) (k5 := by rw [hw]; exact hy) ..
def LocN (M : Mdl) : Prop := ∀ x, x ∈ M.fu → x.l.length ≤ 1000
theorem loop10_3 (m : Int) {M : Mdl} (hM : M.Fit) : ∀ (d i : Nat), i + d = M.fu.length → ∀ q : Bool, ∃ q' : Bool, (q = false → q' = false) ∧ (q' = true → ∀ x, x ∈ M.fu.drop i → x.l.length ≤ 1000) ∧ ∀ h, B10 m 3 M q i h = some (.v (.bool q'), h)
 | 0, i, hd, q => by
  obtain ⟨q', h1, h2⟩ := loop10_7 m hM M.gl.length 0 (by omega) q
  refine ⟨q', h1, fun _ x hx => ?_, fun h => s10_3_3 (k0 := ltZ_f (by rw [List.length_map, ofN, ofN]; omega)) (k1 := h2 h) ..⟩
  rw [List.drop_eq_nil_of_le (by omega)] at hx
  cases hx
 | d + 1, i, hd, false => by
  obtain ⟨q', h1, h2⟩ := loop10_7 m hM M.gl.length 0 (by omega) false
  exact ⟨q', h1, fun e => (by rw [h1 rfl] at e; cases e), fun h => s10_3_2 (k0 := ltZ_t (by rw [List.length_map, ofN, ofN]; omega)) (k1 := rfl) (k2 := h2 h) ..⟩
 | d + 1, i, hd, true => by
  have hlt : i < M.fu.length := by omega
  have hx : M.fu[i]? = some M.fu[i] := List.getElem?_eq_getElem hlt
  have hdr := drop_get hx
  generalize M.fu[i] = x at hx hdr
  have hf := hM.2.2.1.2 x (List.mem_of_getElem? hx)
  have hb := hM.2.2.1.1
  have hr : reachBytes = 140737488351232 := rfl
  have k0 : ltZ (Int.ofNat i) (Int.ofNat (M.fu.map MFn.enc).length) = true := ltZ_t (by rw [List.length_map, ofN, ofN]; omega)
  have kx : ixA (.imm (M.fu.map MFn.enc)) (Int.ofNat i) 3 = some x.enc := ix_map hx x.enc_len
  have hw := wrapS (n := i) (by omega)
  obtain ⟨q2, hq2⟩ := few24 m x.b hf.2.2
  cases q2 with
  | true =>
   obtain ⟨q', h1, h3, h2⟩ := loop10_3 m hM d (i + 1) (by omega) (leZ (Int.ofNat (encN x.l).length) (Int.ofNat 1000))
   refine ⟨q', fun e => (by cases e), fun e y hy => ?_, fun h => s10_3_0 (k0 := k0) (k1 := rfl) (k2 := kx) (k3 := hq2 h) (k4 := rfl) (k5 := kx) (k6 := by rw [hw]; exact h2 h) ..⟩
   rw [hdr, List.mem_cons] at hy
   rcases hy with rfl | hy
   ·cases e1 : leZ (Int.ofNat (encN y.l).length) (Int.ofNat 1000) with
    | false => rw [h1 e1] at e; cases e
    | true =>
     have := (leZ_i e1).2 rfl
     rw [encN_len, ofN, ofN] at this
     omega
   ·exact h3 e y hy
  | false =>
   obtain ⟨q', h1, h3, h2⟩ := loop10_3 m hM d (i + 1) (by omega) false
   exact ⟨q', fun e => (by cases e), fun e => (by rw [h1 rfl] at e; cases e), fun h => s10_3_1 (k0 := k0) (k1 := rfl) (k2 := kx) (k3 := hq2 h) (k4 := rfl) (k5 := by rw [hw]; exact h2 h) ..⟩
theorem t10 (m : Int) {M : Mdl} (hM : M.Fit) : ∃ q : Bool, (q = true → Small M ∧ LocN M) ∧ ∀ h, CALL m 14 [eM M] h = some (.v (.bool q), h) := by
 have lp := fun q => loop10_3 m hM M.fu.length 0 (by omega) q
 have fin : ∀ (q0 : Bool), (q0 = true → Small M) → (∀ h x, B10 m 3 M q0 0 h = some x → blk (cxZ m) 14 (body_ Tryz.prog 14) [eM M] h = some x) → ∃ q : Bool, (q = true → Small M ∧ LocN M) ∧ ∀ h, CALL m 14 [eM M] h = some (.v (.bool q), h) := by
  intro q0 h0 hb
  obtain ⟨q', h1, h3, h2⟩ := lp q0
  refine ⟨q', fun e => ?_, fun h => callZ rfl (by kernel_rfl) (by kernel_rfl) (hb h _ (h2 h))⟩
  cases q0 with
  | true => exact ⟨h0 rfl, fun x hx => h3 e x hx⟩
  | false => rw [h1 rfl] at e; cases e
 cases e0 : leZ (Int.ofNat (M.ty.map FTy.enc).length) (Int.ofNat 200) with
 | false => exact fin false (fun e => by cases e) fun h x hx => s10_7 (k0 := e0) (k1 := hx) ..
 | true =>
  cases e1 : leZ (Int.ofNat (M.im.map Imp.enc).length) (Int.ofNat 200) with
  | false => exact fin false (fun e => by cases e) fun h x hx => s10_6 (k0 := e0) (k1 := e1) (k2 := hx) ..
  | true =>
   cases e2 : leZ (Int.ofNat (M.fu.map MFn.enc).length) (Int.ofNat 200) with
   | false => exact fin false (fun e => by cases e) fun h x hx => s10_5 (k0 := e0) (k1 := e1) (k2 := e2) (k3 := hx) ..
   | true =>
    cases e3 : leZ (Int.ofNat (M.gl.map Glo.enc).length) (Int.ofNat 200) with
    | false => exact fin false (fun e => by cases e) fun h x hx => s10_4 (k0 := e0) (k1 := e1) (k2 := e2) (k3 := e3) (k4 := hx) ..
    | true =>
     cases e4 : leZ (Int.ofNat (M.ex.map Exq.enc).length) (Int.ofNat 200) with
     | false => exact fin false (fun e => by cases e) fun h x hx => s10_3 (k0 := e0) (k1 := e1) (k2 := e2) (k3 := e3) (k4 := e4) (k5 := hx) ..
     | true =>
      cases e5 : leZ (Int.ofNat (M.el.map Ele.enc).length) (Int.ofNat 200) with
      | false => exact fin false (fun e => by cases e) fun h x hx => s10_2 (k0 := e0) (k1 := e1) (k2 := e2) (k3 := e3) (k4 := e4) (k5 := e5) (k6 := hx) ..
      | true =>
       cases e6 : leZ (Int.ofNat (M.da.map Dat.enc).length) (Int.ofNat 200) with
       | false => exact fin false (fun e => by cases e) fun h x hx => s10_1 (k0 := e0) (k1 := e1) (k2 := e2) (k3 := e3) (k4 := e4) (k5 := e5) (k6 := e6) (k7 := hx) ..
       | true =>
        refine fin (leZ (Int.ofNat (M.cu.map Cus.enc).length) (Int.ofNat 200)) (fun e => ?_) fun h x hx => s10_0 (k0 := e0) (k1 := e1) (k2 := e2) (k3 := e3) (k4 := e4) (k5 := e5) (k6 := e6) (k7 := hx) ..
        have a := (leZ_i e0).2 rfl
        have b := (leZ_i e1).2 rfl
        have c := (leZ_i e2).2 rfl
        have d := (leZ_i e3).2 rfl
        simp only [List.length_map, ofN] at a b c d
        exact ⟨hM, by omega, by omega, by omega, by omega⟩
end Go.Proofs.YtoblgjmllmomhaaGreatDoor
