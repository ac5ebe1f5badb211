/-
  Ways through texts, one by one (printed by a program of this repo).
-/
import Derived.Test.YtoblgjmllmomhaaGreatDoorAmS15S
import Derived.KernelRfl
namespace Go.Proofs.YtoblgjmllmomhaaGreatDoor
set_option maxRecDepth 100000
open Go Go.Proofs.Am
variable {m t re i j i0 i1 i2 i3 i4 i5 : Int} {h h0 : Heap} {ty fu gl lo l0 l1 l2 l3 : LL} {tb mm k b0 b1 b2 : Bool} {r : LV × Heap}
theorem r57_0 (k0 : eqZ t (.ofNat 1) = true) :
  bB m 57 [vI t] h = some ((vB true, h)) :=
 bY (qS [5] [] [] []) (tZ k0 (uT2 (tR ((vB true, h))))) (by kernel_rfl)
theorem r57_1 (k0 : eqZ t (.ofNat 1) = false) :
  bB m 57 [vI t] h = some ((vB (eqZ t (.ofNat 2)), h)) :=
 bY (qS [] [5] [] []) (tZ k0 (uF2 (tR ((vB (eqZ t (.ofNat 2)), h))))) (by kernel_rfl)
theorem r24_0 (k0 : leZ (.ofNat 0) re = true) (k1 : bA m 24 3 [LV.lp 0 0, vB (leZ re (.ofNat 2)), vI (.ofNat 0), vM ty, vM fu, vM gl, vB tb, vB mm, vM lo, vI re] h = some r) :
  bB m 24 [vG [aM ty, aM fu, aM gl, aB tb, aB mm, aM lo, aI re]] h = some r :=
 bY (qS [12] [] [] []) (tZ k0 (uT3 (tA t1 (k1)))) (by kernel_rfl)
theorem r24_1 (k0 : leZ (.ofNat 0) re = false) (k1 : bA m 24 3 [LV.lp 0 0, vB false, vI (.ofNat 0), vM ty, vM fu, vM gl, vB tb, vB mm, vM lo, vI re] h = some r) :
  bB m 24 [vG [aM ty, aM fu, aM gl, aB tb, aB mm, aM lo, aI re]] h = some r :=
 bY (qS [] [12] [] []) (tZ k0 (uF3 (tA t1 (k1)))) (by kernel_rfl)
theorem r24_3_0 (k0 : ltZ i (.ofNat lo.length) = true) (k1 : k = true) (k2 : ixA (aM lo) i 1 = some [aI i0]) (k3 : cA m 57 [vI i0] h = some (vB b0, h0)) (k4 : bA m 24 3 [LV.lp 0 0, vB b0, vI (IntKind.wrap .i64 (i + Int.ofNat 1)), vM ty, vM fu, vM gl, vB tb, vB mm, vM lo, vI re] h0 = some r) :
  bA m 24 3 [.lp 0 0, vB k, vI i, vM ty, vM fu, vM gl, vB tb, vB mm, vM lo, vI re] h = some r :=
 bY (qS [1099998, 25] [] [(5, 5, (LV.v (AV.snap [aI i0])))] [(5, 7, vB b0, h0)]) (tZ k0 (tZ k1 (uT3 (tA (tA t0 (tA tN (k2))) (uT2 (tA k3 (tA tT (tA t1 (k4))))))))) (by kernel_rfl)
theorem r24_3_1 (k0 : ltZ i (.ofNat lo.length) = true) (k1 : k = false) (k2 : bA m 24 3 [LV.lp 0 0, vB false, vI (IntKind.wrap .i64 (i + Int.ofNat 1)), vM ty, vM fu, vM gl, vB tb, vB mm, vM lo, vI re] h = some r) :
  bA m 24 3 [.lp 0 0, vB k, vI i, vM ty, vM fu, vM gl, vB tb, vB mm, vM lo, vI re] h = some r :=
 bY (qS [1099998] [25] [] []) (tZ k0 (tZ k1 (uF6 (tA t1 (k2))))) (by kernel_rfl)
theorem r24_3_2 (k0 : ltZ i (.ofNat lo.length) = false) (k1 : bA m 24 7 [LV.lp 0 0, vB k, vI (.ofNat 0), vM ty, vM fu, vM gl, vB tb, vB mm, vM lo, vI re] h = some r) :
  bA m 24 3 [.lp 0 0, vB k, vI i, vM ty, vM fu, vM gl, vB tb, vB mm, vM lo, vI re] h = some r :=
 bY (qS [] [1099998] [] []) (tZ k0 (tA t1 (k1))) (by kernel_rfl)
theorem r24_7_0 (k0 : ltZ i (.ofNat gl.length) = true) (k1 : k = true) (k2 : ixA (aM gl) i 11 = some ([aI i0, aB b1] ++ nC i1 i2 i3 i4 i5 l0 l1 l2 b2)) (k3 : cA m 57 [vI i0] h = some (vB b0, h0)) (k4 : bA m 24 7 [LV.lp 0 0, vB b0, vI (IntKind.wrap .i64 (i + Int.ofNat 1)), vM ty, vM fu, vM gl, vB tb, vB mm, vM lo, vI re] h0 = some r) :
  bA m 24 7 [.lp 0 0, vB k, vI i, vM ty, vM fu, vM gl, vB tb, vB mm, vM lo, vI re] h = some r :=
 bY (qS [1099998, 41] [] [(9, 5, (LV.v (AV.snap ([aI i0, aB b1] ++ nC i1 i2 i3 i4 i5 l0 l1 l2 b2))))] [(9, 8, vB b0, h0)]) (tZ k0 (tZ k1 (uT3 (tA (tA t0 (tA tN (k2))) (uT3 (tA k3 (tA tT (tA t1 (k4))))))))) (by kernel_rfl)
theorem r24_7_1 (k0 : ltZ i (.ofNat gl.length) = true) (k1 : k = false) (k2 : bA m 24 7 [LV.lp 0 0, vB false, vI (IntKind.wrap .i64 (i + Int.ofNat 1)), vM ty, vM fu, vM gl, vB tb, vB mm, vM lo, vI re] h = some r) :
  bA m 24 7 [.lp 0 0, vB k, vI i, vM ty, vM fu, vM gl, vB tb, vB mm, vM lo, vI re] h = some r :=
 bY (qS [1099998] [41] [] []) (tZ k0 (tZ k1 (uF7 (tA t1 (k2))))) (by kernel_rfl)
theorem r24_7_2 (k0 : ltZ i (.ofNat gl.length) = false) (k1 : bA m 24 11 [LV.lp 0 0, vB k, vI (.ofNat 0), vM ty, vM fu, vM gl, vB tb, vB mm, vM lo, vI re] h = some r) :
  bA m 24 7 [.lp 0 0, vB k, vI i, vM ty, vM fu, vM gl, vB tb, vB mm, vM lo, vI re] h = some r :=
 bY (qS [] [1099998] [] []) (tZ k0 (tA t1 (k1))) (by kernel_rfl)
theorem r24_11_0 (k0 : ltZ i (.ofNat ty.length) = true) (k1 : bA m 24 14 [LV.lp 0 0, vB k, vI i, vI (.ofNat 0), vM ty, vM fu, vM gl, vB tb, vB mm, vM lo, vI re] h = some r) :
  bA m 24 11 [.lp 0 0, vB k, vI i, vM ty, vM fu, vM gl, vB tb, vB mm, vM lo, vI re] h = some r :=
 bY (qS [1099998] [] [] []) (tZ k0 (tA t1 (k1))) (by kernel_rfl)
theorem r24_11_1 (k0 : ltZ i (.ofNat ty.length) = false) :
  bA m 24 11 [.lp 0 0, vB k, vI i, vM ty, vM fu, vM gl, vB tb, vB mm, vM lo, vI re] h = some ((vB k, h)) :=
 bY (qS [] [1099998] [] []) (tZ k0 (tR ((vB k, h)))) (by kernel_rfl)
theorem r24_14_0 (k0 : ixA (aM ty) i 2 = some [aM l0, aM l2]) (k1 : ltZ j (.ofNat l0.length) = true) (k2 : k = true) (k3 : ixA (aM ty) i 2 = some [aM l1, aM l3]) (k4 : ixA (aM l1) j 1 = some [aI i0]) (k5 : cA m 57 [vI i0] h = some (vB b0, h0)) (k6 : bA m 24 14 [LV.lp 0 0, vB b0, vI i, vI (IntKind.wrap .i64 (j + Int.ofNat 1)), vM ty, vM fu, vM gl, vB tb, vB mm, vM lo, vI re] h0 = some r) :
  bA m 24 14 [.lp 0 0, vB k, vI i, vI j, vM ty, vM fu, vM gl, vB tb, vB mm, vM lo, vI re] h = some r :=
 bY (qS [1099998, 69] [] [(14, 4, (LV.v (AV.snap [aM l0, aM l2]))), (16, 5, (LV.v (AV.snap [aM l1, aM l3]))), (16, 9, (LV.v (AV.snap [aI i0])))] [(16, 11, vB b0, h0)]) (tA (tA t0 (tA tN (k0))) (tZ k1 (tZ k2 (uT3 (tA (tA t0 (tA tN (k3))) (uT4 (tA (tA t0 (tA tN (k4))) (uT2 (tA k5 (tA tT (tA t1 (k6)))))))))))) (by kernel_rfl)
theorem r24_14_1 (k0 : ixA (aM ty) i 2 = some [aM l0, aM l1]) (k1 : ltZ j (.ofNat l0.length) = true) (k2 : k = false) (k3 : bA m 24 14 [LV.lp 0 0, vB false, vI i, vI (IntKind.wrap .i64 (j + Int.ofNat 1)), vM ty, vM fu, vM gl, vB tb, vB mm, vM lo, vI re] h = some r) :
  bA m 24 14 [.lp 0 0, vB k, vI i, vI j, vM ty, vM fu, vM gl, vB tb, vB mm, vM lo, vI re] h = some r :=
 bY (qS [1099998] [69] [(14, 4, (LV.v (AV.snap [aM l0, aM l1])))] []) (tA (tA t0 (tA tN (k0))) (tZ k1 (tZ k2 (uF9 (tA tF (tA t1 (k3))))))) (by kernel_rfl)
theorem r24_14_2 (k0 : ixA (aM ty) i 2 = some [aM l0, aM l1]) (k1 : ltZ j (.ofNat l0.length) = false) (k2 : bA m 24 18 [LV.lp 0 0, vB k, vI i, vI (.ofNat 0), vM ty, vM fu, vM gl, vB tb, vB mm, vM lo, vI re] h = some r) :
  bA m 24 14 [.lp 0 0, vB k, vI i, vI j, vM ty, vM fu, vM gl, vB tb, vB mm, vM lo, vI re] h = some r :=
 bY (qS [] [1099998] [(14, 4, (LV.v (AV.snap [aM l0, aM l1])))] []) (tA (tA t0 (tA tN (k0))) (tZ k1 (tA t1 (k2)))) (by kernel_rfl)
theorem r24_18_0 (k0 : ixA (aM ty) i 2 = some [aM l2, aM l0]) (k1 : ltZ j (.ofNat l0.length) = true) (k2 : k = true) (k3 : ixA (aM ty) i 2 = some [aM l3, aM l1]) (k4 : ixA (aM l1) j 1 = some [aI i0]) (k5 : cA m 57 [vI i0] h = some (vB b0, h0)) (k6 : bA m 24 18 [LV.lp 0 0, vB b0, vI i, vI (IntKind.wrap .i64 (j + Int.ofNat 1)), vM ty, vM fu, vM gl, vB tb, vB mm, vM lo, vI re] h0 = some r) :
  bA m 24 18 [.lp 0 0, vB k, vI i, vI j, vM ty, vM fu, vM gl, vB tb, vB mm, vM lo, vI re] h = some r :=
 bY (qS [1099998, 93] [] [(18, 4, (LV.v (AV.snap [aM l2, aM l0]))), (20, 5, (LV.v (AV.snap [aM l3, aM l1]))), (20, 9, (LV.v (AV.snap [aI i0])))] [(20, 11, vB b0, h0)]) (tA (tA t0 (tA tN (k0))) (tZ k1 (tZ k2 (uT3 (tA (tA t0 (tA tN (k3))) (uT4 (tA (tA t0 (tA tN (k4))) (uT2 (tA k5 (tA tT (tA t1 (k6)))))))))))) (by kernel_rfl)
theorem r24_18_1 (k0 : ixA (aM ty) i 2 = some [aM l1, aM l0]) (k1 : ltZ j (.ofNat l0.length) = true) (k2 : k = false) (k3 : bA m 24 18 [LV.lp 0 0, vB false, vI i, vI (IntKind.wrap .i64 (j + Int.ofNat 1)), vM ty, vM fu, vM gl, vB tb, vB mm, vM lo, vI re] h = some r) :
  bA m 24 18 [.lp 0 0, vB k, vI i, vI j, vM ty, vM fu, vM gl, vB tb, vB mm, vM lo, vI re] h = some r :=
 bY (qS [1099998] [93] [(18, 4, (LV.v (AV.snap [aM l1, aM l0])))] []) (tA (tA t0 (tA tN (k0))) (tZ k1 (tZ k2 (uF9 (tA tF (tA t1 (k3))))))) (by kernel_rfl)
theorem r24_18_2 (k0 : ixA (aM ty) i 2 = some [aM l1, aM l0]) (k1 : ltZ j (.ofNat l0.length) = false) (k2 : bA m 24 11 [LV.lp 0 0, vB k, vI (IntKind.wrap .i64 (i + Int.ofNat 1)), vM ty, vM fu, vM gl, vB tb, vB mm, vM lo, vI re] h = some r) :
  bA m 24 18 [.lp 0 0, vB k, vI i, vI j, vM ty, vM fu, vM gl, vB tb, vB mm, vM lo, vI re] h = some r :=
 bY (qS [] [1099998] [(18, 4, (LV.v (AV.snap [aM l1, aM l0])))] []) (tA (tA t0 (tA tN (k0))) (tZ k1 (tA t1 (k2)))) (by kernel_rfl)
end Go.Proofs.YtoblgjmllmomhaaGreatDoor
namespace Go.Proofs.YtoblgjmllmomhaaGreatDoor
set_option maxRecDepth 100000
open Go Go.Proofs.Am
variable {m re i i0 : Int} {ty fu gl lo xs : LL} {tb mm b0 b1 : Bool} {h h0 h1 h2 : Heap} {e : AV} {r : LV × Heap}
theorem r12_0 (k0 : cA m 23 [vM xs] h = some (vB b0, h0)) (k1 : (!b0) = true) :
  bB m 12 [vG [aM ty, aM fu, aM gl, aB tb, aB mm, aM lo, aI re], vM xs] h = some ((vI (.ofNat 1), h0)) :=
 bY (qS [9] [] [] [(1, 1, vB b0, h0)]) (tA k0 (tZ k1 (uT3 (tR ((vI (.ofNat 1), h0)))))) (by kernel_rfl)
theorem r12_1 (k0 : cA m 23 [vM xs] h = some (vB b1, h1)) (k1 : (!b1) = false) (k2 : cA m 24 [vG [aM ty, aM fu, aM gl, aB tb, aB mm, aM lo, aI re]] h1 = some (vB b0, h0)) (k3 : (!b0) = true) :
  bB m 12 [vG [aM ty, aM fu, aM gl, aB tb, aB mm, aM lo, aI re], vM xs] h = some ((vI (.ofNat 1), h0)) :=
 bY (qS [1099994] [9] [] [(1, 1, vB b1, h1), (1, 5, vB b0, h0)]) (tA k0 (tZ k1 (tA tF (tA k2 (uF2 (tZ k3 (tR ((vI (.ofNat 1), h0))))))))) (by kernel_rfl)
theorem r12_2 (k0 : cA m 23 [vM xs] h = some (vB b1, h2)) (k1 : (!b1) = false) (k2 : cA m 24 [vG [aM ty, aM fu, aM gl, aB tb, aB mm, aM lo, aI re]] h2 = some (vB b0, h0)) (k3 : (!b0) = false) (k4 : cA m 25 [vP (List.length (Heap.bx h0)) 0, vM xs, vI re, vI re] { bx := Heap.bx h0 ++ [[vM ty, vM fu, vM gl, vB tb, vB mm, vM lo, vI re, vM [], vM [], vI (.ofNat 0)]], mp := Heap.mp h0 } = some (LV.tup [], h1)) (k5 : ldP h1 (AV.ptr (List.length (Heap.bx h0)) 9) 1 false = some (aI i0)) :
  bB m 12 [vG [aM ty, aM fu, aM gl, aB tb, aB mm, aM lo, aI re], vM xs] h = some ((vI i0, h1)) :=
 bY (qS [] [9, 1099994] [] [(1, 1, vB b1, h2), (1, 5, vB b0, h0), (4, 6, LV.tup [], h1), (5, 3, vI i0, Heap.nil)]) (tA k0 (tZ k1 (tA tF (tA k2 (uF2 (tZ k3 (tA k4 (tA t1 (tA tN (tA t0 (tA k5 (tR ((vI i0, h1)))))))))))))) (by kernel_rfl)
theorem r11_0 (k0 : qE m e b0) (k1 : b0 = true) :
  bB m 11 [.v e] h = some ((vI (.ofNat 0), h)) :=
 bY (qS [1099994] [] [(1, 1, (vB b0))] []) (tA k0 (tZ k1 (tR ((vI (.ofNat 0), h))))) (by kernel_rfl)
theorem r11_1 (k0 : qE m e b0) (k1 : b0 = false) (k2 : bA m 11 4 [LV.v e, vI (.ofNat 1)] h = some r) :
  bB m 11 [.v e] h = some r :=
 bY (qS [] [1099994] [(1, 1, (vB b0))] []) (tA k0 (tZ k1 (tA t1 (k2)))) (by kernel_rfl)
theorem r11_4_0 (k0 : leZ i (.ofNat 9) = true) (k1 : binF (Cx.P (cxZ m)) BinOp.eql 33 false e (AV.ifc 56 (aI i)) = some (aB b0)) (k2 : b0 = true) :
  bA m 11 4 [.v e, vI i] h = some ((vI i, h)) :=
 bY (qS [1099998, 1099992] [] [(6, 3, (vB b0))] []) (tZ k0 (tA k1 (tZ k2 (tR ((vI i, h)))))) (by kernel_rfl)
theorem r11_4_1 (k0 : leZ i (.ofNat 9) = true) (k1 : binF (Cx.P (cxZ m)) BinOp.eql 33 false e (AV.ifc 56 (aI i)) = some (aB b0)) (k2 : b0 = false) (k3 : bA m 11 4 [LV.v e, vI (IntKind.wrap .i64 (i + Int.ofNat 1))] h = some r) :
  bA m 11 4 [.v e, vI i] h = some r :=
 bY (qS [1099998] [1099992] [(6, 3, (vB b0))] []) (tZ k0 (tA k1 (tZ k2 (tA t1 (k3))))) (by kernel_rfl)
end Go.Proofs.YtoblgjmllmomhaaGreatDoor
namespace Go.Proofs.YtoblgjmllmomhaaGreatDoor
set_option maxRecDepth 100000
open Go Go.Proofs.Am
variable {m re i0 i1 i2 i3 : Int} {ty fu gl lo xs : LL} {tb mm b0 b1 : Bool} {h h0 h1 h2 h3 h4 h5 : Heap} {v0 : AV}
theorem r3_0 (k0 : cA m 7 [] h = some (vB b0, h1)) (k1 : cA m 8 [vM xs] h1 = some (LV.tup [aI i0, aI i1], h2)) (k2 : cA m 9 [vG [aM ty, aM fu, aM gl, aB tb, aB mm, aM lo, aI re]] h2 = some (vB b1, h0)) (k3 : ltZ (.ofNat 2000) i0 = true) :
  bB m 3 [vG [aM ty, aM fu, aM gl, aB tb, aB mm, aM lo, aI re], vM xs] h = some ((vB b0, h0)) :=
 bY (qS [20] [] [] [(1, 0, vB b0, h1), (2, 1, LV.tup [aI i0, aI i1], h2), (3, 1, vB b1, h0)]) (tA k0 (tA k1 (tA k2 (tZ k3 (uT2 (tR ((vB b0, h0)))))))) (by kernel_rfl)
theorem r3_1 (k0 : cA m 7 [] h = some (vB b0, h1)) (k1 : cA m 8 [vM xs] h1 = some (LV.tup [aI i0, aI i1], h2)) (k2 : cA m 9 [vG [aM ty, aM fu, aM gl, aB tb, aB mm, aM lo, aI re]] h2 = some (vB b1, h0)) (k3 : ltZ (.ofNat 2000) i0 = false) (k4 : (!b1) = true) :
  bB m 3 [vG [aM ty, aM fu, aM gl, aB tb, aB mm, aM lo, aI re], vM xs] h = some ((vB b0, h0)) :=
 bY (qS [1099988] [20] [] [(1, 0, vB b0, h1), (2, 1, LV.tup [aI i0, aI i1], h2), (3, 1, vB b1, h0)]) (tA k0 (tA k1 (tA k2 (tZ k3 (uF2 (tZ k4 (tR ((vB b0, h0))))))))) (by kernel_rfl)
theorem r3_2 (k0 : cA m 7 [] h = some (vB b0, h1)) (k1 : cA m 8 [vM xs] h1 = some (LV.tup [aI i2, aI i3], h2)) (k2 : cA m 9 [vG [aM ty, aM fu, aM gl, aB tb, aB mm, aM lo, aI re]] h2 = some (vB b1, h3)) (k3 : ltZ (.ofNat 2000) i2 = false) (k4 : (!b1) = false) (k5 : cA m 10 [vG [aM ty, aM fu, aM gl, aB tb, aB mm, aM lo, aI re], vM xs] h3 = some (LV.v v0, h4)) (k6 : b0 = true) (k7 : cA m 11 [LV.v v0] h4 = some (vI i1, h5)) (k8 : cA m 12 [vG [aM ty, aM fu, aM gl, aB tb, aB mm, aM lo, aI re], vM xs] h5 = some (vI i0, h0)) :
  bB m 3 [vG [aM ty, aM fu, aM gl, aB tb, aB mm, aM lo, aI re], vM xs] h = some ((vB (eqZ i1 i0), h0)) :=
 bY (qS [29] [20, 1099988] [] [(1, 0, vB b0, h1), (2, 1, LV.tup [aI i2, aI i3], h2), (3, 1, vB b1, h3), (6, 2, LV.v v0, h4), (7, 3, vI i1, h5), (7, 6, vI i0, h0)]) (tA k0 (tA k1 (tA k2 (tZ k3 (uF2 (tZ k4 (tA k5 (tZ k6 (tA tT (tA k7 (uT3 (tA k8 (uT2 (tR ((vB (eqZ i1 i0), h0)))))))))))))))) (by kernel_rfl)
end Go.Proofs.YtoblgjmllmomhaaGreatDoor
namespace Go.Proofs.YtoblgjmllmomhaaGreatDoor
open Go Go.Proofs.Am
variable {m i0 i1 i2 i3 i4 i5 i6 i7 i8 i9 : Int} {h h0 h1 h2 : Heap} {xs ys l0 l1 l2 l3 l4 l5 : LL} {r : LV × Heap} {i : Nat} {v0 v1 v2 : AV} {b0 b1 b2 b3 b4 : Bool}
theorem w6_0 (k0 : cA m 10 [vG [aM [], aM [], aM [], aB false, aB false, aM [], aI (.ofNat 1)], vM [[aI (.ofNat 65), aI (.ofNat 0), aI (.ofNat 0), AV.int IntKind.u64 (.ofNat 1), aI (.ofNat 0), aM [], aM [], aM [], aB false], [aI (.ofNat 65), aI (.ofNat 0), aI (.ofNat 0), AV.int IntKind.u64 (.ofNat 2), aI (.ofNat 0), aM [], aM [], aM [], aB false], [aI (.ofNat 106), aI (.ofNat 0), aI (.ofNat 0), AV.int IntKind.u64 (.ofNat 0), aI (.ofNat 0), aM [], aM [], aM [], aB false]]] h = some (LV.v v1, h1)) (k1 : cA m 10 [vG [aM [], aM [], aM [], aB false, aB false, aM [], aI (.ofNat 1)], vM [[aI (.ofNat 0), aI (.ofNat 0), aI (.ofNat 0), AV.int IntKind.u64 (.ofNat 0), aI (.ofNat 0), aM [], aM [], aM [], aB false], [aI (.ofNat 106), aI (.ofNat 0), aI (.ofNat 0), AV.int IntKind.u64 (.ofNat 0), aI (.ofNat 0), aM [], aM [], aM [], aB false]]] h1 = some (LV.v v2, h2)) (k2 : cA m 10 [vG [aM [], aM [], aM [], aB false, aB false, aM [], aI (.ofNat 1)], vM [[aI (.ofNat 66), aI (.ofNat 0), aI (.ofNat 0), AV.int IntKind.u64 (.ofNat 1), aI (.ofNat 0), aM [], aM [], aM [], aB false]]] h2 = some (LV.v v0, h0)) (k3 : qE m v1 b1) (k4 : b1 = true) (k5 : qE m v2 b2) (k6 : b2 = true) (k7 : binF (Cx.P (cxZ m)) BinOp.eql 33 false v0 (AV.ifc 56 (aI (.ofNat 4))) = some (aB b0)) :
  bB m 7 [] h = some ((vB b0, h0)) :=
 bY (qS [23, 27] [] [(5, 1, (vB b1)), (5, 4, (vB b2)), (5, 9, (vB b0))] [(2, 5, LV.v v1, h1), (3, 4, LV.v v2, h2), (4, 3, LV.v v0, h0)]) (tA k0 (tA k1 (tA k2 (tA k3 (tZ k4 (tA tT (tA k5 (tA tT (tZ k6 (uT2 (tA k7 (tA tT (tR ((vB b0, h0))))))))))))))) (by kernel_rfl)
end Go.Proofs.YtoblgjmllmomhaaGreatDoor
namespace Go.Proofs.YtoblgjmllmomhaaGreatDoor
open Go Go.Proofs.Am
variable {m c d re i0 i1 i2 i3 i4 i5 i6 i7 i8 i9 i10 i11 i12 i13 i14 i15 i16 i17 i18 i19 i20 i21 i22 i23 : Int} {xs ty fu gl lo l0 l1 l2 l3 l4 l5 l6 l7 l8 l9 l10 l11 : LL} {h h0 h1 : Heap} {r : LV × Heap} {i : Nat} {tb mm b0 b1 b2 b3 : Bool}
theorem w7_0 (k0 : bA m 8 4 [vM xs, vI (.ofNat 0), vI (.ofNat 0), vI (.ofNat 0)] h = some r) :
  bB m 8 [vM xs] h = some r :=
 bY (qS [] [] [] []) (tA t1 (k0)) (by kernel_rfl)
theorem w7_4_0 (k0 : ltZ (.ofNat i) (.ofNat xs.length) = true) (k1 : ixA (aM xs) (.ofNat i) 9 = some (nC i6 i7 i8 i9 i10 l2 l0 l3 b0)) (k2 : cA m 8 [vM l0] h = some (LV.tup [aI i2, aI i0], h0)) (k3 : ixA (aM xs) (.ofNat i) 9 = some (nC i11 i12 i13 i14 i15 l4 l5 l1 b1)) (k4 : cA m 8 [vM l1] h0 = some (LV.tup [aI i3, aI i1], h1)) (k5 : ixA (aM xs) (.ofNat i) 9 = some (nC i4 i16 i17 i18 i19 l6 l7 l8 b2)) (k6 : leZ (.ofNat 2) i4 = true) (k7 : ixA (aM xs) (.ofNat i) 9 = some (nC i5 i20 i21 i22 i23 l9 l10 l11 b3)) (k8 : leZ i5 (.ofNat 4) = true) (k9 : ltZ d (IntKind.wrap .i64 (i0 + Int.ofNat 1)) = true) (k10 : ltZ (IntKind.wrap .i64 (i0 + Int.ofNat 1)) (IntKind.wrap .i64 (i1 + Int.ofNat 1)) = true) (k11 : bA m 8 4 [vM xs, vI (IntKind.wrap .i64 (IntKind.wrap .i64 (IntKind.wrap .i64 (c + Int.ofNat 1) + i2) + i3)), vI (IntKind.wrap .i64 (i1 + Int.ofNat 1)), vI (IntKind.wrap .i64 (.ofNat (Nat.succ i)))] h1 = some r) :
  bA m 8 4 [vM xs, vI c, vI d, vI i] h = some r :=
 bY (qS [14, 47, 54, 58, 64] [] [(6, 2, (LV.v (AV.snap (nC i6 i7 i8 i9 i10 l2 l0 l3 b0)))), (7, 2, (LV.v (AV.snap (nC i11 i12 i13 i14 i15 l4 l5 l1 b1)))), (9, 2, (LV.v (AV.snap (nC i4 i16 i17 i18 i19 l6 l7 l8 b2)))), (9, 9, (LV.v (AV.snap (nC i5 i20 i21 i22 i23 l9 l10 l11 b3))))] [(6, 5, LV.tup [aI i2, aI i0], h0), (7, 5, LV.tup [aI i3, aI i1], h1)]) (tZ k0 (tA (tA t0 (tA tN (k1))) (tA k2 (tA (tA t0 (tA tN (k3))) (tA k4 (tA (tA t0 (tA tN (k5))) (tZ k6 (uT2 (tA (tA t0 (tA tN (k7))) (uT4 (tZ k8 (tZ k9 (tZ k10 (tA t1 (k11))))))))))))))) (by kernel_rfl)
theorem w7_4_1 (k0 : ltZ (.ofNat i) (.ofNat xs.length) = true) (k1 : ixA (aM xs) (.ofNat i) 9 = some (nC i6 i7 i8 i9 i10 l2 l0 l3 b0)) (k2 : cA m 8 [vM l0] h = some (LV.tup [aI i1, aI i0], h0)) (k3 : ixA (aM xs) (.ofNat i) 9 = some (nC i11 i12 i13 i14 i15 l4 l5 l1 b1)) (k4 : cA m 8 [vM l1] h0 = some (LV.tup [aI i2, aI i3], h1)) (k5 : ixA (aM xs) (.ofNat i) 9 = some (nC i4 i16 i17 i18 i19 l6 l7 l8 b2)) (k6 : leZ (.ofNat 2) i4 = true) (k7 : ixA (aM xs) (.ofNat i) 9 = some (nC i5 i20 i21 i22 i23 l9 l10 l11 b3)) (k8 : leZ i5 (.ofNat 4) = true) (k9 : ltZ d (IntKind.wrap .i64 (i0 + Int.ofNat 1)) = true) (k10 : ltZ (IntKind.wrap .i64 (i0 + Int.ofNat 1)) (IntKind.wrap .i64 (i3 + Int.ofNat 1)) = false) (k11 : bA m 8 4 [vM xs, vI (IntKind.wrap .i64 (IntKind.wrap .i64 (IntKind.wrap .i64 (c + Int.ofNat 1) + i1) + i2)), vI (IntKind.wrap .i64 (i0 + Int.ofNat 1)), vI (IntKind.wrap .i64 (.ofNat (Nat.succ i)))] h1 = some r) :
  bA m 8 4 [vM xs, vI c, vI d, vI i] h = some r :=
 bY (qS [14, 47, 54, 58] [64] [(6, 2, (LV.v (AV.snap (nC i6 i7 i8 i9 i10 l2 l0 l3 b0)))), (7, 2, (LV.v (AV.snap (nC i11 i12 i13 i14 i15 l4 l5 l1 b1)))), (9, 2, (LV.v (AV.snap (nC i4 i16 i17 i18 i19 l6 l7 l8 b2)))), (9, 9, (LV.v (AV.snap (nC i5 i20 i21 i22 i23 l9 l10 l11 b3))))] [(6, 5, LV.tup [aI i1, aI i0], h0), (7, 5, LV.tup [aI i2, aI i3], h1)]) (tZ k0 (tA (tA t0 (tA tN (k1))) (tA k2 (tA (tA t0 (tA tN (k3))) (tA k4 (tA (tA t0 (tA tN (k5))) (tZ k6 (uT2 (tA (tA t0 (tA tN (k7))) (uT4 (tZ k8 (tZ k9 (tZ k10 (tA t1 (k11))))))))))))))) (by kernel_rfl)
theorem w7_4_2 (k0 : ltZ (.ofNat i) (.ofNat xs.length) = true) (k1 : ixA (aM xs) (.ofNat i) 9 = some (nC i6 i7 i8 i9 i10 l2 l0 l3 b0)) (k2 : cA m 8 [vM l0] h = some (LV.tup [aI i1, aI i2], h0)) (k3 : ixA (aM xs) (.ofNat i) 9 = some (nC i11 i12 i13 i14 i15 l4 l5 l1 b1)) (k4 : cA m 8 [vM l1] h0 = some (LV.tup [aI i3, aI i0], h1)) (k5 : ixA (aM xs) (.ofNat i) 9 = some (nC i4 i16 i17 i18 i19 l6 l7 l8 b2)) (k6 : leZ (.ofNat 2) i4 = true) (k7 : ixA (aM xs) (.ofNat i) 9 = some (nC i5 i20 i21 i22 i23 l9 l10 l11 b3)) (k8 : leZ i5 (.ofNat 4) = true) (k9 : ltZ d (IntKind.wrap .i64 (i2 + Int.ofNat 1)) = false) (k10 : ltZ d (IntKind.wrap .i64 (i0 + Int.ofNat 1)) = true) (k11 : bA m 8 4 [vM xs, vI (IntKind.wrap .i64 (IntKind.wrap .i64 (IntKind.wrap .i64 (c + Int.ofNat 1) + i1) + i3)), vI (IntKind.wrap .i64 (i0 + Int.ofNat 1)), vI (IntKind.wrap .i64 (.ofNat (Nat.succ i)))] h1 = some r) :
  bA m 8 4 [vM xs, vI c, vI d, vI i] h = some r :=
 bY (qS [14, 47, 54, 64] [58] [(6, 2, (LV.v (AV.snap (nC i6 i7 i8 i9 i10 l2 l0 l3 b0)))), (7, 2, (LV.v (AV.snap (nC i11 i12 i13 i14 i15 l4 l5 l1 b1)))), (9, 2, (LV.v (AV.snap (nC i4 i16 i17 i18 i19 l6 l7 l8 b2)))), (9, 9, (LV.v (AV.snap (nC i5 i20 i21 i22 i23 l9 l10 l11 b3))))] [(6, 5, LV.tup [aI i1, aI i2], h0), (7, 5, LV.tup [aI i3, aI i0], h1)]) (tZ k0 (tA (tA t0 (tA tN (k1))) (tA k2 (tA (tA t0 (tA tN (k3))) (tA k4 (tA (tA t0 (tA tN (k5))) (tZ k6 (uT2 (tA (tA t0 (tA tN (k7))) (uT4 (tZ k8 (tZ k9 (tZ k10 (tA t1 (k11))))))))))))))) (by kernel_rfl)
theorem w7_4_3 (k0 : ltZ (.ofNat i) (.ofNat xs.length) = true) (k1 : ixA (aM xs) (.ofNat i) 9 = some (nC i6 i7 i8 i9 i10 l2 l0 l3 b0)) (k2 : cA m 8 [vM l0] h = some (LV.tup [aI i0, aI i1], h0)) (k3 : ixA (aM xs) (.ofNat i) 9 = some (nC i11 i12 i13 i14 i15 l4 l5 l1 b1)) (k4 : cA m 8 [vM l1] h0 = some (LV.tup [aI i2, aI i3], h1)) (k5 : ixA (aM xs) (.ofNat i) 9 = some (nC i4 i16 i17 i18 i19 l6 l7 l8 b2)) (k6 : leZ (.ofNat 2) i4 = true) (k7 : ixA (aM xs) (.ofNat i) 9 = some (nC i5 i20 i21 i22 i23 l9 l10 l11 b3)) (k8 : leZ i5 (.ofNat 4) = true) (k9 : ltZ d (IntKind.wrap .i64 (i1 + Int.ofNat 1)) = false) (k10 : ltZ d (IntKind.wrap .i64 (i3 + Int.ofNat 1)) = false) (k11 : bA m 8 4 [vM xs, vI (IntKind.wrap .i64 (IntKind.wrap .i64 (IntKind.wrap .i64 (c + Int.ofNat 1) + i0) + i2)), vI d, vI (IntKind.wrap .i64 (.ofNat (Nat.succ i)))] h1 = some r) :
  bA m 8 4 [vM xs, vI c, vI d, vI i] h = some r :=
 bY (qS [14, 47, 54] [58, 64] [(6, 2, (LV.v (AV.snap (nC i6 i7 i8 i9 i10 l2 l0 l3 b0)))), (7, 2, (LV.v (AV.snap (nC i11 i12 i13 i14 i15 l4 l5 l1 b1)))), (9, 2, (LV.v (AV.snap (nC i4 i16 i17 i18 i19 l6 l7 l8 b2)))), (9, 9, (LV.v (AV.snap (nC i5 i20 i21 i22 i23 l9 l10 l11 b3))))] [(6, 5, LV.tup [aI i0, aI i1], h0), (7, 5, LV.tup [aI i2, aI i3], h1)]) (tZ k0 (tA (tA t0 (tA tN (k1))) (tA k2 (tA (tA t0 (tA tN (k3))) (tA k4 (tA (tA t0 (tA tN (k5))) (tZ k6 (uT2 (tA (tA t0 (tA tN (k7))) (uT4 (tZ k8 (tZ k9 (tZ k10 (tA t1 (k11))))))))))))))) (by kernel_rfl)
theorem w7_4_4 (k0 : ltZ (.ofNat i) (.ofNat xs.length) = true) (k1 : ixA (aM xs) (.ofNat i) 9 = some (nC i4 i5 i6 i7 i8 l2 l0 l3 b0)) (k2 : cA m 8 [vM l0] h = some (LV.tup [aI i0, aI i9], h0)) (k3 : ixA (aM xs) (.ofNat i) 9 = some (nC i10 i11 i12 i13 i14 l4 l5 l1 b1)) (k4 : cA m 8 [vM l1] h0 = some (LV.tup [aI i1, aI i15], h1)) (k5 : ixA (aM xs) (.ofNat i) 9 = some (nC i2 i16 i17 i18 i19 l6 l7 l8 b2)) (k6 : leZ (.ofNat 2) i2 = true) (k7 : ixA (aM xs) (.ofNat i) 9 = some (nC i3 i20 i21 i22 i23 l9 l10 l11 b3)) (k8 : leZ i3 (.ofNat 4) = false) (k9 : bA m 8 4 [vM xs, vI (IntKind.wrap .i64 (IntKind.wrap .i64 (IntKind.wrap .i64 (c + Int.ofNat 1) + i0) + i1)), vI d, vI (IntKind.wrap .i64 (.ofNat (Nat.succ i)))] h1 = some r) :
  bA m 8 4 [vM xs, vI c, vI d, vI i] h = some r :=
 bY (qS [14, 47] [54] [(6, 2, (LV.v (AV.snap (nC i4 i5 i6 i7 i8 l2 l0 l3 b0)))), (7, 2, (LV.v (AV.snap (nC i10 i11 i12 i13 i14 l4 l5 l1 b1)))), (9, 2, (LV.v (AV.snap (nC i2 i16 i17 i18 i19 l6 l7 l8 b2)))), (9, 9, (LV.v (AV.snap (nC i3 i20 i21 i22 i23 l9 l10 l11 b3))))] [(6, 5, LV.tup [aI i0, aI i9], h0), (7, 5, LV.tup [aI i1, aI i15], h1)]) (tZ k0 (tA (tA t0 (tA tN (k1))) (tA k2 (tA (tA t0 (tA tN (k3))) (tA k4 (tA (tA t0 (tA tN (k5))) (tZ k6 (uT2 (tA (tA t0 (tA tN (k7))) (uT4 (tZ k8 (tA t1 (k9))))))))))))) (by kernel_rfl)
theorem w7_4_5 (k0 : ltZ (.ofNat i) (.ofNat xs.length) = true) (k1 : ixA (aM xs) (.ofNat i) 9 = some (nC i3 i4 i5 i6 i7 l2 l0 l3 b0)) (k2 : cA m 8 [vM l0] h = some (LV.tup [aI i0, aI i8], h0)) (k3 : ixA (aM xs) (.ofNat i) 9 = some (nC i9 i10 i11 i12 i13 l4 l5 l1 b1)) (k4 : cA m 8 [vM l1] h0 = some (LV.tup [aI i1, aI i14], h1)) (k5 : ixA (aM xs) (.ofNat i) 9 = some (nC i2 i15 i16 i17 i18 l6 l7 l8 b2)) (k6 : leZ (.ofNat 2) i2 = false) (k7 : bA m 8 4 [vM xs, vI (IntKind.wrap .i64 (IntKind.wrap .i64 (IntKind.wrap .i64 (c + Int.ofNat 1) + i0) + i1)), vI d, vI (IntKind.wrap .i64 (.ofNat (Nat.succ i)))] h1 = some r) :
  bA m 8 4 [vM xs, vI c, vI d, vI i] h = some r :=
 bY (qS [14] [47] [(6, 2, (LV.v (AV.snap (nC i3 i4 i5 i6 i7 l2 l0 l3 b0)))), (7, 2, (LV.v (AV.snap (nC i9 i10 i11 i12 i13 l4 l5 l1 b1)))), (9, 2, (LV.v (AV.snap (nC i2 i15 i16 i17 i18 l6 l7 l8 b2))))] [(6, 5, LV.tup [aI i0, aI i8], h0), (7, 5, LV.tup [aI i1, aI i14], h1)]) (tZ k0 (tA (tA t0 (tA tN (k1))) (tA k2 (tA (tA t0 (tA tN (k3))) (tA k4 (tA (tA t0 (tA tN (k5))) (tZ k6 (uF6 (tA t1 (k7)))))))))) (by kernel_rfl)
theorem w7_4_6 (k0 : ltZ (.ofNat i) (.ofNat xs.length) = false) :
  bA m 8 4 [vM xs, vI c, vI d, vI i] h = some ((LV.tup [aI c, aI d], h)) :=
 bY (qS [] [14] [] []) (tZ k0 (tR ((LV.tup [aI c, aI d], h)))) (by kernel_rfl)
theorem w8_0 (k0 : ltZ (.ofNat 200) (.ofNat ty.length) = true) :
  bB m 9 [vG [aM ty, aM fu, aM gl, aB tb, aB mm, aM lo, aI re]] h = some ((vB false, h)) :=
 bY (qS [8] [] [] []) (tZ k0 (uT4 (tR ((vB false, h))))) (by kernel_rfl)
theorem w8_1 (k0 : ltZ (.ofNat 200) (.ofNat ty.length) = false) (k1 : ltZ (.ofNat 300) (.ofNat fu.length) = true) :
  bB m 9 [vG [aM ty, aM fu, aM gl, aB tb, aB mm, aM lo, aI re]] h = some ((vB false, h)) :=
 bY (qS [14] [8] [] []) (tZ k0 (uF4 (tZ k1 (uT4 (tR ((vB false, h))))))) (by kernel_rfl)
theorem w8_2 (k0 : ltZ (.ofNat 200) (.ofNat ty.length) = false) (k1 : ltZ (.ofNat 300) (.ofNat fu.length) = false) (k2 : ltZ (.ofNat 300) (.ofNat gl.length) = true) :
  bB m 9 [vG [aM ty, aM fu, aM gl, aB tb, aB mm, aM lo, aI re]] h = some ((vB false, h)) :=
 bY (qS [20] [8, 14] [] []) (tZ k0 (uF4 (tZ k1 (uF4 (tZ k2 (uT4 (tR ((vB false, h))))))))) (by kernel_rfl)
theorem w8_3 (k0 : ltZ (.ofNat 200) (.ofNat ty.length) = false) (k1 : ltZ (.ofNat 300) (.ofNat fu.length) = false) (k2 : ltZ (.ofNat 300) (.ofNat gl.length) = false) (k3 : ltZ (.ofNat 300) (.ofNat lo.length) = true) :
  bB m 9 [vG [aM ty, aM fu, aM gl, aB tb, aB mm, aM lo, aI re]] h = some ((vB false, h)) :=
 bY (qS [25] [8, 14, 20] [] []) (tZ k0 (uF4 (tZ k1 (uF4 (tZ k2 (uF4 (tZ k3 (tR ((vB false, h)))))))))) (by kernel_rfl)
theorem w8_4 (k0 : ltZ (.ofNat 200) (.ofNat ty.length) = false) (k1 : ltZ (.ofNat 300) (.ofNat fu.length) = false) (k2 : ltZ (.ofNat 300) (.ofNat gl.length) = false) (k3 : ltZ (.ofNat 300) (.ofNat lo.length) = false) (k4 : bA m 9 4 [LV.lp 0 0, vI (.ofNat 0), vM ty, vM fu, vM gl, vB tb, vB mm, vM lo, vI re] h = some r) :
  bB m 9 [vG [aM ty, aM fu, aM gl, aB tb, aB mm, aM lo, aI re]] h = some r :=
 bY (qS [] [8, 14, 20, 25] [] []) (tZ k0 (uF4 (tZ k1 (uF4 (tZ k2 (uF4 (tZ k3 (tA t1 (k4))))))))) (by kernel_rfl)
theorem w8_4_0 (k0 : ltZ (.ofNat i) (.ofNat ty.length) = true) (k1 : ixA (aM ty) (.ofNat i) 2 = some [aM l0, aM l1]) (k2 : ltZ (.ofNat 200) (.ofNat l0.length) = true) :
  bA m 9 4 [.lp 0 0, vI i, vM ty, vM fu, vM gl, vB tb, vB mm, vM lo, vI re] h = some ((vB false, h)) :=
 bY (qS [30, 41] [] [(6, 3, (LV.v (AV.snap [aM l0, aM l1])))] []) (tZ k0 (tA (tA t0 (tA tN (k1))) (tZ k2 (uT8 (tR ((vB false, h))))))) (by kernel_rfl)
theorem w8_4_1 (k0 : ltZ (.ofNat i) (.ofNat ty.length) = true) (k1 : ixA (aM ty) (.ofNat i) 2 = some [aM l0, aM l2]) (k2 : ltZ (.ofNat 200) (.ofNat l0.length) = false) (k3 : ixA (aM ty) (.ofNat i) 2 = some [aM l3, aM l1]) (k4 : ltZ (.ofNat 200) (.ofNat l1.length) = true) :
  bA m 9 4 [.lp 0 0, vI i, vM ty, vM fu, vM gl, vB tb, vB mm, vM lo, vI re] h = some ((vB false, h)) :=
 bY (qS [30, 50] [41] [(6, 3, (LV.v (AV.snap [aM l0, aM l2]))), (6, 12, (LV.v (AV.snap [aM l3, aM l1])))] []) (tZ k0 (tA (tA t0 (tA tN (k1))) (tZ k2 (uF3 (tA (tA t0 (tA tN (k3))) (uF5 (tZ k4 (tR ((vB false, h)))))))))) (by kernel_rfl)
theorem w8_4_2 (k0 : ltZ (.ofNat i) (.ofNat ty.length) = true) (k1 : ixA (aM ty) (.ofNat i) 2 = some [aM l0, aM l2]) (k2 : ltZ (.ofNat 200) (.ofNat l0.length) = false) (k3 : ixA (aM ty) (.ofNat i) 2 = some [aM l3, aM l1]) (k4 : ltZ (.ofNat 200) (.ofNat l1.length) = false) (k5 : bA m 9 4 [LV.lp 0 0, vI (IntKind.wrap .i64 (.ofNat (Nat.succ i))), vM ty, vM fu, vM gl, vB tb, vB mm, vM lo, vI re] h = some r) :
  bA m 9 4 [.lp 0 0, vI i, vM ty, vM fu, vM gl, vB tb, vB mm, vM lo, vI re] h = some r :=
 bY (qS [30] [41, 50] [(6, 3, (LV.v (AV.snap [aM l0, aM l2]))), (6, 12, (LV.v (AV.snap [aM l3, aM l1])))] []) (tZ k0 (tA (tA t0 (tA tN (k1))) (tZ k2 (uF3 (tA (tA t0 (tA tN (k3))) (uF5 (tZ k4 (tA t1 (k5))))))))) (by kernel_rfl)
theorem w8_4_3 (k0 : ltZ (.ofNat i) (.ofNat ty.length) = false) :
  bA m 9 4 [.lp 0 0, vI i, vM ty, vM fu, vM gl, vB tb, vB mm, vM lo, vI re] h = some ((vB true, h)) :=
 bY (qS [] [30] [] []) (tZ k0 (tR ((vB true, h)))) (by kernel_rfl)
end Go.Proofs.YtoblgjmllmomhaaGreatDoor
