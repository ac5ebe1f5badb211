/-
  What a function's code may speak of, as the program tells it: imports, types, and all.
-/
import Derived.Test.YtoblgjmllmomhaaGreatDoorAmS15S
import Derived.KernelRfl
import Derived.Test.YtoblgjmllmomhaaGreatDoorAmMod
import Derived.Test.YtoblgjmllmomhaaGreatDoorAmSVzz
import Derived.Test.YtoblgjmllmomhaaGreatDoorAmSVF
namespace Go.Proofs.YtoblgjmllmomhaaGreatDoor
set_option maxRecDepth 100000
open Go Go.Proofs.Am
variable {m st f n i0 i1 i2 i3 i4 i5 : Int} {ty im fu ta me gl ex el da cu tys fns gls xs l0 l1 l2 l3 l4 l5 l6 : LL} {r : LV × Heap} {bt bm b0 b1 : Bool} {i : Nat} {h0 h1 : Heap} {s0 s1 : ByteArray}
theorem z6_4 (k0 : ltZ f (.ofNat 0) = false) (k1 : leZ (.ofNat fu.length) f = false) (k2 : ixA (aM fu) f 3 = some [aI i2, aM l0, aM l1]) (k3 : ltZ i2 (.ofNat 0) = false) (k4 : ixA (aM fu) f 3 = some [aI i3, aM l2, aM l3]) (k5 : leZ (.ofNat ty.length) i3 = false) (k6 : npLs [mV ty im fu ta me gl ex st el da cu, vI (.ofNat 1)] = true) (k7 : cA m 36 [mV ty im fu ta me gl ex st el da cu, vI (.ofNat 1)] Heap.nil = some (vI i0, h0)) (k8 : npLs [mV ty im fu ta me gl ex st el da cu, vI (.ofNat 2)] = true) (k9 : cA m 36 [mV ty im fu ta me gl ex st el da cu, vI (.ofNat 2)] Heap.nil = some (vI i1, h1)) (k10 : bA m 17 5 [vI f, vP 0 0, LV.lp 0 0, vP 1 0, vM ty, vI (.ofNat ty.length), vI (.ofNat 0), LV.ow 2 [], LV.ow 1 [], LV.ow 11 [], vB false, vB false, LV.ow 1 [], vI (.ofNat 0)] (Heap.mk [[vM ty, vM im, vM fu, vM ta, vM me, vM gl, vM ex, vI st, vM el, vM da, vM cu], [LV.ow 2 [], LV.ow 1 [], LV.ow 11 [], vB (ltZ (.ofNat 0) i0), vB (ltZ (.ofNat 0) i1), LV.ow 1 [], vI (.ofNat 0)]] []) = some r) :
  bB m 17 [mV ty im fu ta me gl ex st el da cu, vI f] Heap.nil = some r :=
 bY (qS [] [19, 26, 35, 46] [(1, 13, (LV.v (AV.snap [aI i2, aM l0, aM l1]))), (1, 22, (LV.v (AV.snap [aI i3, aM l2, aM l3])))] [(3, 1, vI i0, h0), (3, 4, vI i1, h1)]) (tZ k0 (uF5 (tZ k1 (uF3 (tA (tA t0 (tA tN (k2))) (uF4 (tZ k3 (uF3 (tA (tA t0 (tA tN (k4))) (uF7 (tZ k5 (tA k6 (tA k7 (tA t1 (tA k8 (tA k9 (u12 (k10)))))))))))))))))) (by kernel_rfl)
theorem z14_0 (k0 : ltZ n (.ofNat 0) = true) (k1 : apL (LV.ow 1 fns) 1 8 [[aI (Int.negSucc 0)]] = some (LV.ow 1 l0)) :
  bB m 38 [vI n, vP 0 0, vP 1 0] ⟨[[vM ty, vM im, vM fu, vM ta, vM me, vM gl, vM ex, vI st, vM el, vM da, vM cu], [.ow 2 tys, .ow 1 fns, .ow 11 gls, vB bt, vB bm, .ow 1 [], vI (.ofNat 0)]], []⟩ = some ((LV.tup [], (Heap.mk [[vM ty, vM im, vM fu, vM ta, vM me, vM gl, vM ex, vI st, vM el, vM da, vM cu], [LV.ow 2 tys, LV.ow 1 l0, LV.ow 11 gls, vB bt, vB bm, LV.ow 1 [], vI (.ofNat 0)]] []))) :=
 bY (qS [6] [] [(2, 4, (LV.ow 1 l0))] []) (tZ k0 (uT5 (u02 (tA t1 (tA k1 (tR ((LV.tup [], (Heap.mk [[vM ty, vM im, vM fu, vM ta, vM me, vM gl, vM ex, vI st, vM el, vM da, vM cu], [LV.ow 2 tys, LV.ow 1 l0, LV.ow 11 gls, vB bt, vB bm, LV.ow 1 [], vI (.ofNat 0)]] []))))))))) (by kernel_rfl)
theorem z14_1 (k0 : ltZ n (.ofNat 0) = false) (k1 : leZ (.ofNat ty.length) n = true) (k2 : apL (LV.ow 1 fns) 1 8 [[aI (Int.negSucc 0)]] = some (LV.ow 1 l0)) :
  bB m 38 [vI n, vP 0 0, vP 1 0] ⟨[[vM ty, vM im, vM fu, vM ta, vM me, vM gl, vM ex, vI st, vM el, vM da, vM cu], [.ow 2 tys, .ow 1 fns, .ow 11 gls, vB bt, vB bm, .ow 1 [], vI (.ofNat 0)]], []⟩ = some ((LV.tup [], (Heap.mk [[vM ty, vM im, vM fu, vM ta, vM me, vM gl, vM ex, vI st, vM el, vM da, vM cu], [LV.ow 2 tys, LV.ow 1 l0, LV.ow 11 gls, vB bt, vB bm, LV.ow 1 [], vI (.ofNat 0)]] []))) :=
 bY (qS [12] [6] [(2, 4, (LV.ow 1 l0))] []) (tZ k0 (uF5 (tZ k1 (u02 (tA t1 (tA k2 (tR ((LV.tup [], (Heap.mk [[vM ty, vM im, vM fu, vM ta, vM me, vM gl, vM ex, vI st, vM el, vM da, vM cu], [LV.ow 2 tys, LV.ow 1 l0, LV.ow 11 gls, vB bt, vB bm, LV.ow 1 [], vI (.ofNat 0)]] [])))))))))) (by kernel_rfl)
theorem z14_2 (k0 : ltZ n (.ofNat 0) = false) (k1 : leZ (.ofNat ty.length) n = false) (k2 : apL (LV.ow 1 fns) 1 8 [[aI n]] = some (LV.ow 1 l0)) :
  bB m 38 [vI n, vP 0 0, vP 1 0] ⟨[[vM ty, vM im, vM fu, vM ta, vM me, vM gl, vM ex, vI st, vM el, vM da, vM cu], [.ow 2 tys, .ow 1 fns, .ow 11 gls, vB bt, vB bm, .ow 1 [], vI (.ofNat 0)]], []⟩ = some ((LV.tup [], (Heap.mk [[vM ty, vM im, vM fu, vM ta, vM me, vM gl, vM ex, vI st, vM el, vM da, vM cu], [LV.ow 2 tys, LV.ow 1 l0, LV.ow 11 gls, vB bt, vB bm, LV.ow 1 [], vI (.ofNat 0)]] []))) :=
 bY (qS [] [6, 12] [(2, 4, (LV.ow 1 l0))] []) (tZ k0 (uF5 (tZ k1 (u02 (tA t1 (tA k2 (tR ((LV.tup [], (Heap.mk [[vM ty, vM im, vM fu, vM ta, vM me, vM gl, vM ex, vI st, vM el, vM da, vM cu], [LV.ow 2 tys, LV.ow 1 l0, LV.ow 11 gls, vB bt, vB bm, LV.ow 1 [], vI (.ofNat 0)]] [])))))))))) (by kernel_rfl)
theorem z6_5_0 (k0 : ltZ (.ofNat i) n = true) (k1 : ixA (aM xs) (.ofNat i) 2 = some [aM l2, aM l3]) (k2 : npLs [vM l2] = true) (k3 : cA m 37 [vM l2] Heap.nil = some (vM l0, h0)) (k4 : LV.np (vM l0) = true) (k5 : npLs [vM l3] = true) (k6 : cA m 37 [vM l3] Heap.nil = some (vM l1, h1)) (k7 : LV.np (vM l1) = true) (k8 : apL (LV.ow 2 tys) 2 48 [[aM l0, aM l1]] = some (LV.ow 2 l4)) (k9 : bA m 17 5 [vI f, vP 0 0, LV.lp 0 0, vP 1 0, vM xs, vI n, vI (IntKind.wrap .i64 (.ofNat (Nat.succ i))), LV.ow 2 [], LV.ow 1 [], LV.ow 11 [], vB false, vB false, LV.ow 1 [], vI (.ofNat 0)] (Heap.mk [[vM ty, vM im, vM fu, vM ta, vM me, vM gl, vM ex, vI st, vM el, vM da, vM cu], [LV.ow 2 l4, LV.ow 1 fns, LV.ow 11 gls, vB bt, vB bm, LV.ow 1 [], vI (.ofNat 0)]] []) = some r) :
  bA m 17 5 [vI f, vP 0 0, .lp 0 0, vP 1 0, vM xs, vI n, vI (.ofNat i), .ow 2 [], .ow 1 [], .ow 11 [], vB false, vB false, .ow 1 [], vI (.ofNat 0)] ⟨[[vM ty, vM im, vM fu, vM ta, vM me, vM gl, vM ex, vI st, vM el, vM da, vM cu], [.ow 2 tys, .ow 1 fns, .ow 11 gls, vB bt, vB bm, .ow 1 [], vI (.ofNat 0)]], []⟩ = some r :=
 bY (qS [60] [] [(6, 0, (LV.v (AV.snap [aM l2, aM l3]))), (7, 10, (LV.ow 2 l4))] [(7, 4, vM l0, h0), (7, 7, vM l1, h1)]) (tZ k0 (tA (tA t0 (tA tN (k1))) (tA k2 (tA k3 (tA k4 (tA k5 (tA k6 (tA k7 (u02 (tA t1 (tA k8 (tA t1 (k9))))))))))))) (by kernel_rfl)
theorem z6_5_1 (k0 : ltZ (.ofNat i) n = false) (k1 : bA m 17 11 [vI f, vP 0 0, LV.lp 0 0, vP 1 0, LV.v (AV.fn 38 [] [AV.ptr 0 0, AV.ptr 1 0]), vM im, vI (.ofNat im.length), vI (.ofNat 0), LV.ow 2 [], LV.ow 1 [], LV.ow 11 [], vB false, vB false, LV.ow 1 [], vI (.ofNat 0)] (Heap.mk [[vM ty, vM im, vM fu, vM ta, vM me, vM gl, vM ex, vI st, vM el, vM da, vM cu], [LV.ow 2 tys, LV.ow 1 fns, LV.ow 11 gls, vB bt, vB bm, LV.ow 1 [], vI (.ofNat 0)]] []) = some r) :
  bA m 17 5 [vI f, vP 0 0, .lp 0 0, vP 1 0, vM xs, vI n, vI (.ofNat i), .ow 2 [], .ow 1 [], .ow 11 [], vB false, vB false, .ow 1 [], vI (.ofNat 0)] ⟨[[vM ty, vM im, vM fu, vM ta, vM me, vM gl, vM ex, vI st, vM el, vM da, vM cu], [.ow 2 tys, .ow 1 fns, .ow 11 gls, vB bt, vB bm, .ow 1 [], vI (.ofNat 0)]], []⟩ = some r :=
 bY (qS [] [60] [] []) (tZ k0 (tA t1 (k1))) (by kernel_rfl)
theorem z6_20_0 (k0 : ltZ (.ofNat i) n = true) (k1 : ixA (aM xs) (.ofNat i) 3 = some [aI i0, aM l0, aM l1]) (k2 : cV m (AV.fn 38 [] [AV.ptr 0 0, AV.ptr 1 0]) [vI i0] (Heap.mk [[vM ty, vM im, vM fu, vM ta, vM me, vM gl, vM ex, vI st, vM el, vM da, vM cu], [LV.ow 2 tys, LV.ow 1 fns, LV.ow 11 gls, vB bt, vB bm, LV.ow 1 [], vI (.ofNat 0)]] []) = some (LV.tup [], h0)) (k3 : bA m 17 20 [vI f, vP 0 0, LV.lp 0 0, vP 1 0, LV.v (AV.fn 38 [] [AV.ptr 0 0, AV.ptr 1 0]), vM xs, vI n, vI (IntKind.wrap .i64 (.ofNat (Nat.succ i))), LV.ow 2 [], LV.ow 1 [], LV.ow 11 [], vB false, vB false, LV.ow 1 [], vI (.ofNat 0)] h0 = some r) :
  bA m 17 20 [vI f, vP 0 0, .lp 0 0, vP 1 0, .v (.fn 38 [] [.ptr 0 0, .ptr 1 0]), vM xs, vI n, vI (.ofNat i), .ow 2 [], .ow 1 [], .ow 11 [], vB false, vB false, .ow 1 [], vI (.ofNat 0)] ⟨[[vM ty, vM im, vM fu, vM ta, vM me, vM gl, vM ex, vI st, vM el, vM da, vM cu], [.ow 2 tys, .ow 1 fns, .ow 11 gls, vB bt, vB bm, .ow 1 [], vI (.ofNat 0)]], []⟩ = some r :=
 bY (qS [109] [] [(21, 0, (LV.v (AV.snap [aI i0, aM l0, aM l1])))] [(22, 3, LV.tup [], h0)]) (tZ k0 (tA (tA t0 (tA tN (k1))) (tA k2 (tA t1 (k3))))) (by kernel_rfl)
theorem z6_20_1 (k0 : ltZ (.ofNat i) n = false) (k1 : bA m 17 25 [vI f, vP 0 0, LV.lp 0 0, vP 1 0, vM gl, vI (.ofNat gl.length), vI (.ofNat 0), LV.ow 2 [], LV.ow 1 [], LV.ow 11 [], vB false, vB false, LV.ow 1 [], vI (.ofNat 0)] (Heap.mk [[vM ty, vM im, vM fu, vM ta, vM me, vM gl, vM ex, vI st, vM el, vM da, vM cu], [LV.ow 2 tys, LV.ow 1 fns, LV.ow 11 gls, vB bt, vB bm, LV.ow 1 [], vI (.ofNat 0)]] []) = some r) :
  bA m 17 20 [vI f, vP 0 0, .lp 0 0, vP 1 0, .v (.fn 38 [] [.ptr 0 0, .ptr 1 0]), vM xs, vI n, vI (.ofNat i), .ow 2 [], .ow 1 [], .ow 11 [], vB false, vB false, .ow 1 [], vI (.ofNat 0)] ⟨[[vM ty, vM im, vM fu, vM ta, vM me, vM gl, vM ex, vI st, vM el, vM da, vM cu], [.ow 2 tys, .ow 1 fns, .ow 11 gls, vB bt, vB bm, .ow 1 [], vI (.ofNat 0)]], []⟩ = some r :=
 bY (qS [] [109] [] []) (tZ k0 (tA t1 (k1))) (by kernel_rfl)
theorem z6_11_0 (k0 : ltZ (.ofNat i) n = true) (k1 : ixA (aM xs) (.ofNat i) 8 = some [aS s0, aS s1, aI i0, aI i1, aB b0, aI i2, aI i3, aB b1]) (k2 : eqZ i0 (.ofNat 0) = true) (k3 : cV m (AV.fn 38 [] [AV.ptr 0 0, AV.ptr 1 0]) [vI i1] (Heap.mk [[vM ty, vM im, vM fu, vM ta, vM me, vM gl, vM ex, vI st, vM el, vM da, vM cu], [LV.ow 2 tys, LV.ow 1 fns, LV.ow 11 gls, vB bt, vB bm, LV.ow 1 [], vI (.ofNat 0)]] []) = some (LV.tup [], h0)) (k4 : bA m 17 11 [vI f, vP 0 0, LV.lp 0 0, vP 1 0, LV.v (AV.fn 38 [] [AV.ptr 0 0, AV.ptr 1 0]), vM xs, vI n, vI (IntKind.wrap .i64 (.ofNat (Nat.succ i))), LV.ow 2 [], LV.ow 1 [], LV.ow 11 [], vB false, vB false, LV.ow 1 [], vI (.ofNat 0)] h0 = some r) :
  bA m 17 11 [vI f, vP 0 0, .lp 0 0, vP 1 0, .v (.fn 38 [] [.ptr 0 0, .ptr 1 0]), vM xs, vI n, vI (.ofNat i), .ow 2 [], .ow 1 [], .ow 11 [], vB false, vB false, .ow 1 [], vI (.ofNat 0)] ⟨[[vM ty, vM im, vM fu, vM ta, vM me, vM gl, vM ex, vI st, vM el, vM da, vM cu], [.ow 2 tys, .ow 1 fns, .ow 11 gls, vB bt, vB bm, .ow 1 [], vI (.ofNat 0)]], []⟩ = some r :=
 bY (qS [81, 86] [] [(12, 0, (LV.v (AV.snap [aS s0, aS s1, aI i0, aI i1, aB b0, aI i2, aI i3, aB b1])))] [(15, 3, LV.tup [], h0)]) (tZ k0 (tA (tA t0 (tA tN (k1))) (tZ k2 (tA k3 (tA t1 (k4)))))) (by kernel_rfl)
theorem z6_11_1 (k0 : ltZ (.ofNat i) n = true) (k1 : ixA (aM xs) (.ofNat i) 8 = some [aS s0, aS s1, aI i0, aI i1, aB b0, aI i2, aI i3, aB b1]) (k2 : eqZ i0 (.ofNat 0) = false) (k3 : eqZ i0 (.ofNat 3) = true) (k4 : apL (LV.ow 11 gls) 11 136 [[aI i1, aB b0, aI (.ofNat 0), aI (.ofNat 0), aI (.ofNat 0), AV.int IntKind.u64 (.ofNat 0), aI (.ofNat 0), aM [], aM [], aM [], aB false]] = some (LV.ow 11 l0)) (k5 : bA m 17 11 [vI f, vP 0 0, LV.lp 0 0, vP 1 0, LV.v (AV.fn 38 [] [AV.ptr 0 0, AV.ptr 1 0]), vM xs, vI n, vI (IntKind.wrap .i64 (.ofNat (Nat.succ i))), LV.ow 2 [], LV.ow 1 [], LV.ow 11 [], vB false, vB false, LV.ow 1 [], vI (.ofNat 0)] (Heap.mk [[vM ty, vM im, vM fu, vM ta, vM me, vM gl, vM ex, vI st, vM el, vM da, vM cu], [LV.ow 2 tys, LV.ow 1 fns, LV.ow 11 l0, vB bt, vB bm, LV.ow 1 [], vI (.ofNat 0)]] []) = some r) :
  bA m 17 11 [vI f, vP 0 0, .lp 0 0, vP 1 0, .v (.fn 38 [] [.ptr 0 0, .ptr 1 0]), vM xs, vI n, vI (.ofNat i), .ow 2 [], .ow 1 [], .ow 11 [], vB false, vB false, .ow 1 [], vI (.ofNat 0)] ⟨[[vM ty, vM im, vM fu, vM ta, vM me, vM gl, vM ex, vI st, vM el, vM da, vM cu], [.ow 2 tys, .ow 1 fns, .ow 11 gls, vB bt, vB bm, .ow 1 [], vI (.ofNat 0)]], []⟩ = some r :=
 bY (qS [81, 92] [86] [(12, 0, (LV.v (AV.snap [aS s0, aS s1, aI i0, aI i1, aB b0, aI i2, aI i3, aB b1]))), (17, 8, (LV.ow 11 l0))] []) (tZ k0 (tA (tA t0 (tA tN (k1))) (tZ k2 (tZ k3 (u02 (tA t1 (tA k4 (tA t1 (k5))))))))) (by kernel_rfl)
theorem z6_11_2 (k0 : ltZ (.ofNat i) n = true) (k1 : ixA (aM xs) (.ofNat i) 8 = some [aS s0, aS s1, aI i0, aI i1, aB b0, aI i2, aI i3, aB b1]) (k2 : eqZ i0 (.ofNat 0) = false) (k3 : eqZ i0 (.ofNat 3) = false) (k4 : bA m 17 11 [vI f, vP 0 0, LV.lp 0 0, vP 1 0, LV.v (AV.fn 38 [] [AV.ptr 0 0, AV.ptr 1 0]), vM xs, vI n, vI (IntKind.wrap .i64 (.ofNat (Nat.succ i))), LV.ow 2 [], LV.ow 1 [], LV.ow 11 [], vB false, vB false, LV.ow 1 [], vI (.ofNat 0)] (Heap.mk [[vM ty, vM im, vM fu, vM ta, vM me, vM gl, vM ex, vI st, vM el, vM da, vM cu], [LV.ow 2 tys, LV.ow 1 fns, LV.ow 11 gls, vB bt, vB bm, LV.ow 1 [], vI (.ofNat 0)]] []) = some r) :
  bA m 17 11 [vI f, vP 0 0, .lp 0 0, vP 1 0, .v (.fn 38 [] [.ptr 0 0, .ptr 1 0]), vM xs, vI n, vI (.ofNat i), .ow 2 [], .ow 1 [], .ow 11 [], vB false, vB false, .ow 1 [], vI (.ofNat 0)] ⟨[[vM ty, vM im, vM fu, vM ta, vM me, vM gl, vM ex, vI st, vM el, vM da, vM cu], [.ow 2 tys, .ow 1 fns, .ow 11 gls, vB bt, vB bm, .ow 1 [], vI (.ofNat 0)]], []⟩ = some r :=
 bY (qS [81] [86, 92] [(12, 0, (LV.v (AV.snap [aS s0, aS s1, aI i0, aI i1, aB b0, aI i2, aI i3, aB b1])))] []) (tZ k0 (tA (tA t0 (tA tN (k1))) (tZ k2 (tZ k3 (tA t1 (k4)))))) (by kernel_rfl)
theorem z6_11_3 (k0 : ltZ (.ofNat i) n = false) (k1 : bA m 17 20 [vI f, vP 0 0, LV.lp 0 0, vP 1 0, LV.v (AV.fn 38 [] [AV.ptr 0 0, AV.ptr 1 0]), vM fu, vI (.ofNat fu.length), vI (.ofNat 0), LV.ow 2 [], LV.ow 1 [], LV.ow 11 [], vB false, vB false, LV.ow 1 [], vI (.ofNat 0)] (Heap.mk [[vM ty, vM im, vM fu, vM ta, vM me, vM gl, vM ex, vI st, vM el, vM da, vM cu], [LV.ow 2 tys, LV.ow 1 fns, LV.ow 11 gls, vB bt, vB bm, LV.ow 1 [], vI (.ofNat 0)]] []) = some r) :
  bA m 17 11 [vI f, vP 0 0, .lp 0 0, vP 1 0, .v (.fn 38 [] [.ptr 0 0, .ptr 1 0]), vM xs, vI n, vI (.ofNat i), .ow 2 [], .ow 1 [], .ow 11 [], vB false, vB false, .ow 1 [], vI (.ofNat 0)] ⟨[[vM ty, vM im, vM fu, vM ta, vM me, vM gl, vM ex, vI st, vM el, vM da, vM cu], [.ow 2 tys, .ow 1 fns, .ow 11 gls, vB bt, vB bm, .ow 1 [], vI (.ofNat 0)]], []⟩ = some r :=
 bY (qS [] [81] [] []) (tZ k0 (tA t1 (k1))) (by kernel_rfl)
theorem z6_25_0 (k0 : ltZ (.ofNat i) n = true) (k1 : ixA (aM xs) (.ofNat i) 11 = some ([aI i0, aB b0] ++ nC i1 i2 i3 i4 i5 l1 l2 l3 b1)) (k2 : apL (LV.ow 11 gls) 11 136 [[aI i0, aB b0, aI (.ofNat 0), aI (.ofNat 0), aI (.ofNat 0), AV.int IntKind.u64 (.ofNat 0), aI (.ofNat 0), aM [], aM [], aM [], aB false]] = some (LV.ow 11 l0)) (k3 : bA m 17 25 [vI f, vP 0 0, LV.lp 0 0, vP 1 0, vM xs, vI n, vI (IntKind.wrap .i64 (.ofNat (Nat.succ i))), LV.ow 2 [], LV.ow 1 [], LV.ow 11 [], vB false, vB false, LV.ow 1 [], vI (.ofNat 0)] (Heap.mk [[vM ty, vM im, vM fu, vM ta, vM me, vM gl, vM ex, vI st, vM el, vM da, vM cu], [LV.ow 2 tys, LV.ow 1 fns, LV.ow 11 l0, vB bt, vB bm, LV.ow 1 [], vI (.ofNat 0)]] []) = some r) :
  bA m 17 25 [vI f, vP 0 0, .lp 0 0, vP 1 0, vM xs, vI n, vI (.ofNat i), .ow 2 [], .ow 1 [], .ow 11 [], vB false, vB false, .ow 1 [], vI (.ofNat 0)] ⟨[[vM ty, vM im, vM fu, vM ta, vM me, vM gl, vM ex, vI st, vM el, vM da, vM cu], [.ow 2 tys, .ow 1 fns, .ow 11 gls, vB bt, vB bm, .ow 1 [], vI (.ofNat 0)]], []⟩ = some r :=
 bY (qS [121] [] [(26, 0, (LV.v (AV.snap ([aI i0, aB b0] ++ nC i1 i2 i3 i4 i5 l1 l2 l3 b1)))), (27, 8, (LV.ow 11 l0))] []) (tZ k0 (tA (tA t0 (tA tN (k1))) (u02 (tA t1 (tA k2 (tA t1 (k3))))))) (by kernel_rfl)
theorem z6_25_1 (k0 : ltZ (.ofNat i) n = false) (k1 : ixA (aM fu) f 3 = some [aI i1, aM l4, aM l5]) (k2 : ixA (aM ty) i1 2 = some [aM l1, aM l2]) (k3 : ixA (aM fu) f 3 = some [aI i2, aM l3, aM l6]) (k4 : npLs [vM [[aM l1], [aM l3]]] = true) (k5 : cA m 39 [vM [[aM l1], [aM l3]]] Heap.nil = some (vM l0, h0)) (k6 : LV.np (vM l0) = true) (k7 : ltZ (.ofNat 0) (.ofNat l2.length) = true) (k8 : ixA (aM l2) (.ofNat 0) 1 = some [aI i0]) :
  bA m 17 25 [vI f, vP 0 0, .lp 0 0, vP 1 0, vM xs, vI n, vI (.ofNat i), .ow 2 [], .ow 1 [], .ow 11 [], vB false, vB false, .ow 1 [], vI (.ofNat 0)] ⟨[[vM ty, vM im, vM fu, vM ta, vM me, vM gl, vM ex, vI st, vM el, vM da, vM cu], [.ow 2 tys, .ow 1 fns, .ow 11 gls, vB bt, vB bm, .ow 1 [], vI (.ofNat 0)]], []⟩ = some ((LV.tup [AV.agg [aM tys, aM fns, aM gls, aB bt, aB bm, aM l0, aI i0], AV.nilI], (Heap.mk [[vM ty, vM im, vM fu, vM ta, vM me, vM gl, vM ex, vI st, vM el, vM da, vM cu], [LV.ow 2 tys, LV.ow 1 fns, LV.ow 11 gls, vB bt, vB bm, vM l0, vI i0]] []))) :=
 bY (qS [159] [121] [(29, 5, (LV.v (AV.snap [aI i1, aM l4, aM l5]))), (29, 8, (LV.v (AV.snap [aM l1, aM l2]))), (30, 5, (LV.v (AV.snap [aI i2, aM l3, aM l6]))), (32, 2, (LV.v (AV.snap [aI i0])))] [(30, 9, vM l0, h0)]) (tZ k0 (tA (tA t0 (tA tN (k1))) (tA (tA t0 (tA tN (k2))) (tA (tA t0 (tA tN (k3))) (tA k4 (tA k5 (tA k6 (tZ k7 (tA (tA t0 (tA tN (k8))) (tR ((LV.tup [AV.agg [aM tys, aM fns, aM gls, aB bt, aB bm, aM l0, aI i0], AV.nilI], (Heap.mk [[vM ty, vM im, vM fu, vM ta, vM me, vM gl, vM ex, vI st, vM el, vM da, vM cu], [LV.ow 2 tys, LV.ow 1 fns, LV.ow 11 gls, vB bt, vB bm, vM l0, vI i0]] []))))))))))))) (by kernel_rfl)
theorem z6_25_2 (k0 : ltZ (.ofNat i) n = false) (k1 : ixA (aM fu) f 3 = some [aI i0, aM l4, aM l5]) (k2 : ixA (aM ty) i0 2 = some [aM l1, aM l3]) (k3 : ixA (aM fu) f 3 = some [aI i1, aM l2, aM l6]) (k4 : npLs [vM [[aM l1], [aM l2]]] = true) (k5 : cA m 39 [vM [[aM l1], [aM l2]]] Heap.nil = some (vM l0, h0)) (k6 : LV.np (vM l0) = true) (k7 : ltZ (.ofNat 0) (.ofNat l3.length) = false) :
  bA m 17 25 [vI f, vP 0 0, .lp 0 0, vP 1 0, vM xs, vI n, vI (.ofNat i), .ow 2 [], .ow 1 [], .ow 11 [], vB false, vB false, .ow 1 [], vI (.ofNat 0)] ⟨[[vM ty, vM im, vM fu, vM ta, vM me, vM gl, vM ex, vI st, vM el, vM da, vM cu], [.ow 2 tys, .ow 1 fns, .ow 11 gls, vB bt, vB bm, .ow 1 [], vI (.ofNat 0)]], []⟩ = some ((LV.tup [AV.agg [aM tys, aM fns, aM gls, aB bt, aB bm, aM l0, aI (.ofNat 0)], AV.nilI], (Heap.mk [[vM ty, vM im, vM fu, vM ta, vM me, vM gl, vM ex, vI st, vM el, vM da, vM cu], [LV.ow 2 tys, LV.ow 1 fns, LV.ow 11 gls, vB bt, vB bm, vM l0, vI (.ofNat 0)]] []))) :=
 bY (qS [] [121, 159] [(29, 5, (LV.v (AV.snap [aI i0, aM l4, aM l5]))), (29, 8, (LV.v (AV.snap [aM l1, aM l3]))), (30, 5, (LV.v (AV.snap [aI i1, aM l2, aM l6])))] [(30, 9, vM l0, h0)]) (tZ k0 (tA (tA t0 (tA tN (k1))) (tA (tA t0 (tA tN (k2))) (tA (tA t0 (tA tN (k3))) (tA k4 (tA k5 (tA k6 (tZ k7 (tR ((LV.tup [AV.agg [aM tys, aM fns, aM gls, aB bt, aB bm, aM l0, aI (.ofNat 0)], AV.nilI], (Heap.mk [[vM ty, vM im, vM fu, vM ta, vM me, vM gl, vM ex, vI st, vM el, vM da, vM cu], [LV.ow 2 tys, LV.ow 1 fns, LV.ow 11 gls, vB bt, vB bm, vM l0, vI (.ofNat 0)]] [])))))))))))) (by kernel_rfl)
end Go.Proofs.YtoblgjmllmomhaaGreatDoor
namespace Go.Proofs.YtoblgjmllmomhaaGreatDoor
set_option maxRecDepth 100000
open Go Go.Proofs.Am
variable {m c : Int} {xs ys out l0 : LL} {h h0 : Heap} {r : LV × Heap}
theorem z15_0 (k0 : bA m 39 3 [vM [[aM xs], [aM ys]], vI (.ofNat 0), vM [[aM xs], [aM ys]], vI (.ofNat 2), vI (.ofNat 0)] h = some r) :
  bB m 39 [vM [[aM xs], [aM ys]]] h = some r :=
 bY (qS [] [] [] []) (tA t1 (k0)) (by kernel_rfl)
theorem z15_3_a_0 (k0 : ltZ (IntKind.wrap .i64 (c + Int.ofNat xs.length)) (.ofNat 0) = false) (k1 : bA m 39 3 [vM [[aM xs], [aM ys]], vI (IntKind.wrap .i64 (c + Int.ofNat xs.length)), vM [[aM xs], [aM ys]], vI (.ofNat 2), vI (.ofNat 1)] h = some r) :
  bA m 39 3 [vM [[aM xs], [aM ys]], vI c, vM [[aM xs], [aM ys]], vI (.ofNat 2), vI (.ofNat 0)] h = some r :=
 bY (qS [] [20] [] []) (tZ k0 (tA t1 (k1))) (by kernel_rfl)
theorem z15_3_b_0 (k0 : ltZ (IntKind.wrap .i64 (c + Int.ofNat ys.length)) (.ofNat 0) = false) (k1 : bA m 39 3 [vM [[aM xs], [aM ys]], vI (IntKind.wrap .i64 (c + Int.ofNat ys.length)), vM [[aM xs], [aM ys]], vI (.ofNat 2), vI (.ofNat 2)] h = some r) :
  bA m 39 3 [vM [[aM xs], [aM ys]], vI c, vM [[aM xs], [aM ys]], vI (.ofNat 2), vI (.ofNat 1)] h = some r :=
 bY (qS [] [20] [] []) (tZ k0 (tA t1 (k1))) (by kernel_rfl)
theorem z15_3_c_0 (k0 : cA m 78 [LV.v AV.nilS, vI c] h = some (LV.ow 1 l0, h0)) (k1 : bA m 39 11 [LV.ow 1 l0, vM [[aM xs], [aM ys]], vI (.ofNat 2), vI (.ofNat 0)] h0 = some r) :
  bA m 39 3 [vM [[aM xs], [aM ys]], vI c, vM [[aM xs], [aM ys]], vI (.ofNat 2), vI (.ofNat 2)] h = some r :=
 bY (qS [] [] [] [(9, 1, LV.ow 1 l0, h0)]) (tA k0 (tA t1 (k1))) (by kernel_rfl)
theorem z15_11_a_0 (k0 : apL (LV.ow 1 out) 1 8 xs = some (LV.ow 1 l0)) (k1 : bA m 39 11 [LV.ow 1 l0, vM [[aM xs], [aM ys]], vI (.ofNat 2), vI (.ofNat 1)] h = some r) :
  bA m 39 11 [.ow 1 out, vM [[aM xs], [aM ys]], vI (.ofNat 2), vI (.ofNat 0)] h = some r :=
 bY (qS [] [] [(13, 2, (LV.ow 1 l0))] []) (u02 (tA t1 (tA k0 (tA t1 (k1))))) (by kernel_rfl)
theorem z15_11_b_0 (k0 : apL (LV.ow 1 out) 1 8 ys = some (LV.ow 1 l0)) (k1 : bA m 39 11 [LV.ow 1 l0, vM [[aM xs], [aM ys]], vI (.ofNat 2), vI (.ofNat 2)] h = some r) :
  bA m 39 11 [.ow 1 out, vM [[aM xs], [aM ys]], vI (.ofNat 2), vI (.ofNat 1)] h = some r :=
 bY (qS [] [] [(13, 2, (LV.ow 1 l0))] []) (u02 (tA t1 (tA k0 (tA t1 (k1))))) (by kernel_rfl)
theorem z15_11_c_0 :
  bA m 39 11 [.ow 1 out, vM [[aM xs], [aM ys]], vI (.ofNat 2), vI (.ofNat 2)] h = some ((vM out, h)) :=
 bY (qS [] [] [] []) (tR ((vM out, h))) (by kernel_rfl)
end Go.Proofs.YtoblgjmllmomhaaGreatDoor
namespace Go.Proofs.YtoblgjmllmomhaaGreatDoor
set_option maxRecDepth 100000
open Go Go.RowKit Go.Proofs.Am
theorem fit_N (l : List Int) : fitE 1 (encN l) = true := by cases l <;> rfl
theorem ap_wide {out ys : List Int} (h : (out.length + ys.length) * 8 ≤ 140737488359232) : apL (.ow 1 (encN out)) 1 8 (encN ys) = some (.ow 1 (encN (out ++ ys))) := by
 have h1 : roomW ((encN out).length + (encN ys).length) 8 = true := by
  unfold roomW
  rw [encN_len, encN_len, Bool.and_eq_true, Bool.or_eq_true]
  exact ⟨.inr (Nat.ble_eq_true_of_le (by omega)), rfl⟩
 simp only [apL, Nat.beq_refl, fit_N, h1, Bool.and_self, cond_true, encN_app]
theorem grow_call (m : Int) (n : Nat) (hn : n * 8 ≤ 281474976710656) (h : Heap) : callF (cxZ m) (blk (cxZ m)) 78 [.v .nilS, .v (.int .i64 (Int.ofNat n))] h = some (.ow 1 (encN []), h) := by
 refine callF_ext (e := growE) rfl rfl (x := .ow 1 []) ?_
 have h0 : (0 : Int) ≤ Int.ofNat n := Int.natCast_nonneg n
 have h1 : Nat.ble ((Int.ofNat n).toNat * 8) 281474976710656 = true := Nat.ble_eq_true_of_le hn
 simp only [growE, decide_eq_true h0, h1, Bool.and_self, cond_true]
theorem t15c (m : Int) (p l : List Int) (hp : p.length * 8 ≤ 140737488351232) (hl : l.length ≤ 1000) (h : Heap) : CALL m 39 [.v (.imm [[.imm (encN p)], [.imm (encN l)]])] h = some (.v (.imm (encN (p ++ l))), h) := by
 have e1 : IntKind.wrap .i64 (Int.ofNat 0 + Int.ofNat (encN p).length) = Int.ofNat p.length := by
  rw [encN_len, wrapI (by unfold InZ; simp only [ofN]; omega)]
  simp only [ofN]; omega
 have e2 : IntKind.wrap .i64 (Int.ofNat p.length + Int.ofNat (encN l).length) = Int.ofNat (p.length + l.length) := by
  rw [encN_len, wrapI (by unfold InZ; simp only [ofN]; omega)]
  simp only [ofN]; omega
 have a1 : apL (.ow 1 (encN [])) 1 8 (encN p) = some (.ow 1 (encN p)) := ap_wide (out := []) (by simp only [List.length_nil]; omega)
 have a2 : apL (.ow 1 (encN p)) 1 8 (encN l) = some (.ow 1 (encN (p ++ l))) := ap_wide (by omega)
 refine callZ rfl (by kernel_rfl) (by kernel_rfl) (z15_0 (k0 := z15_3_a_0 (k0 := ?_) (k1 := ?_) ..) ..)
 ·rw [e1]; exact ltZ_f (Int.natCast_nonneg _)
 ·rw [e1]
  refine z15_3_b_0 (k0 := ?_) (k1 := ?_) ..
  ·rw [e2]; exact ltZ_f (Int.natCast_nonneg _)
  ·rw [e2]
   exact z15_3_c_0 (k0 := grow_call m _ (by omega) h) (k1 := z15_11_a_0 (k0 := a1) (k1 := z15_11_b_0 (k0 := a2) (k1 := z15_11_c_0 ..) ..) ..) ..
def gv (x : Int × Bool) : List AV :=
 [.int .i64 x.1, .bool x.2, .int .i64 (Int.ofNat 0), .int .i64 (Int.ofNat 0), .int .i64 (Int.ofNat 0), .int .u64 (Int.ofNat 0), .int .i64 (Int.ofNat 0), .imm [], .imm [], .imm [], .bool false]
theorem gv_len (x : Int × Bool) : (gv x).length = 11 := rfl
def gI (x : Imp) : Int × Bool := (x.t, x.mu)
def gG (x : Glo) : Int × Bool := (x.t, x.mu)
def gS (M : Mdl) : List (Int × Bool) := (impK M 3).map gI ++ M.gl.map gG
def fS (M : Mdl) : List Int := (rawL M).map (numT M)
def bT (M : Mdl) (k : Int) : Bool := ltZ (Int.ofNat 0) (Int.ofNat ((impK M k).length + ownK M k))
def resT (y : FTy) : Int := match y.r with | [] => Int.ofNat 0 | z :: _ => z
abbrev scL (M : Mdl) (tys fns gls : List (List AV)) (lo : List Int) (r : Int) : List AV := [.imm tys, .imm fns, .imm gls, .bool (bT M 1), .bool (bT M 2), .imm (encN lo), .int .i64 r]
def scM (M : Mdl) (g : MFn) (y : FTy) : List AV := scL M (M.ty.map FTy.enc) (encN (fS M)) ((gS M).map gv) (y.p ++ g.l) (resT y)
theorem ap_gv {out : List (Int × Bool)} {x : Int × Bool} (h : out.length ≤ 1000) : apL (.ow 11 (out.map gv)) 11 136 [gv x] = some (.ow 11 ((out ++ [x]).map gv)) := by
 rw [ap_owned (fit_one (gv_len x)) (by simp; omega) (by decide), List.map_append]
 rfl
end Go.Proofs.YtoblgjmllmomhaaGreatDoor
namespace Go.Proofs.YtoblgjmllmomhaaGreatDoor
set_option maxRecDepth 100000
open Go Go.RowKit Go.Proofs.Am
abbrev mC (M : Mdl) : List LV := [.v (.imm (M.ty.map FTy.enc)), .v (.imm (M.im.map Imp.enc)), .v (.imm (M.fu.map MFn.enc)), .v (.imm (M.ta.map Lim.enc)), .v (.imm (M.me.map Lim.enc)), .v (.imm (M.gl.map Glo.enc)), .v (.imm (M.ex.map Exq.enc)), .v (.int .i64 M.st), .v (.imm (M.el.map Ele.enc)), .v (.imm (M.da.map Dat.enc)), .v (.imm (M.cu.map Cus.enc))]
abbrev HP (M : Mdl) (tys : List FTy) (fns : List Int) (gls : List (Int × Bool)) : Heap :=
 Heap.mk [mC M, [.ow 2 (tys.map FTy.enc), .ow 1 (encN fns), .ow 11 (gls.map gv), .v (.bool (bT M 1)), .v (.bool (bT M 2)), .ow 1 [], .v (.int .i64 (Int.ofNat 0))]] []
abbrev Z7 : List LV := [.ow 2 [], .ow 1 [], .ow 11 [], .v (.bool false), .v (.bool false), .ow 1 [], .v (.int .i64 (Int.ofNat 0))]
abbrev K6 (f : Int) : List LV := [.v (.int .i64 f), .v (.ptr 0 0), .lp 0 0, .v (.ptr 1 0)]
abbrev FN : LV := .v (.fn 38 [] [.ptr 0 0, .ptr 1 0])
abbrev L6 (xs : List (List AV)) (i : Nat) : List LV := [.v (.imm xs), .v (.int .i64 (Int.ofNat xs.length)), .v (.int .i64 (Int.ofNat i))] ++ Z7
abbrev scT (M : Mdl) (g : MFn) (y : FTy) (tys : List FTy) (fns : List Int) (gls : List (Int × Bool)) : LV :=
 .tup [.agg (scL M (tys.map FTy.enc) (encN fns) (gls.map gv) (y.p ++ g.l) (resT y)), .nilI]
structure Fn (M : Mdl) (f : Int) (g : MFn) (y : FTy) : Prop where
 sm : Small M
 loc : LocN M
 nn : 0 ≤ f
 get : M.fu[f.toNat]? = some g
 ty : tyOf M g.t = some y
section
variable {M : Mdl} {f : Int} {g : MFn} {y : FTy}
theorem Fn.ixg (h : Fn M f g y) : ixA (.imm (M.fu.map MFn.enc)) f 3 = some g.enc := ix_mapZ h.nn h.get g.enc_len
theorem Fn.hl (h : Fn M f g y) : g.l.length ≤ 1000 := h.loc g (List.mem_of_getElem? h.get)
theorem Fn.hp (h : Fn M f g y) : y.p.length * 8 ≤ 140737488351232 := (ty_ans h.sm h.ty).2.2.2.1.1
theorem Fn.hr (h : Fn M f g y) : y.r.length * 8 ≤ 140737488351232 := (ty_ans h.sm h.ty).2.2.2.2.1
theorem loop6_25 (m : Int) (hF : Fn M f g y) (tys : List FTy) (fns : List Int) : ∀ (d i : Nat), i + d = M.gl.length → ∀ out : List (Int × Bool), out.length ≤ 200 + i →
  ∃ h', blk (cxZ m) 17 (at_ Tryz.prog 17 25) (K6 f ++ L6 (M.gl.map Glo.enc) i) (HP M tys fns out) = some (scT M g y tys fns (out ++ (M.gl.drop i).map gG), h')
 | 0, i, hd, out, ho => by
  rw [List.drop_eq_nil_of_le (by omega), List.map_nil, List.append_nil]
  have k0 : ltZ (Int.ofNat i) (Int.ofNat (M.gl.map Glo.enc).length) = false := ltZ_f (by rw [List.length_map, ofN, ofN]; omega)
  have kg := hF.ixg
  have ky := (ty_ans hF.sm hF.ty).2.2.1
  have kc := t15c m y.p g.l hF.hp hF.hl Heap.nil
  have kn : npLs [LV.v (AV.imm [[AV.imm (encN y.p)], [AV.imm (encN g.l)]])] = true := by
   simp only [npLs, LV.np, AV.np, npLL, npL, npLL_encN, Bool.and_self]
  have kr : LV.np (LV.v (AV.imm (encN (y.p ++ g.l)))) = true := by simp only [LV.np, AV.np, npLL_encN]
  obtain ⟨p, r⟩ := y
  cases r with
  | nil => exact ⟨_, z6_25_2 (k0 := k0) (k1 := kg) (k2 := ky) (k3 := kg) (k4 := kn) (k5 := kc) (k6 := kr) (k7 := rfl) ..⟩
  | cons z r => exact ⟨_, z6_25_1 (k0 := k0) (k1 := kg) (k2 := ky) (k3 := kg) (k4 := kn) (k5 := kc) (k6 := kr) (k7 := rfl) (k8 := rfl) ..⟩
 | d + 1, i, hd, out, ho => by
  have hgl := hF.sm.gl
  have hlt : i < M.gl.length := by omega
  have hx : M.gl[i]? = some M.gl[i] := List.getElem?_eq_getElem hlt
  generalize M.gl[i] = x at hx
  have k0 : ltZ (Int.ofNat i) (Int.ofNat (M.gl.map Glo.enc).length) = true := ltZ_t (by rw [List.length_map, ofN, ofN]; omega)
  have k1 : ixA (.imm (M.gl.map Glo.enc)) (Int.ofNat i) 11 = some x.enc := ix_map hx x.enc_len
  have k2 := ap_gv (out := out) (x := gG x) (by omega)
  have hw := wrapS (n := i) (by omega)
  obtain ⟨h', ih⟩ := loop6_25 m hF tys fns d (i + 1) (by omega) (out ++ [gG x]) (by simp; omega)
  rw [drop_get hx, List.map_cons, ← list_snoc out (gG x) ((M.gl.drop (i + 1)).map gG)]
  obtain ⟨t, q, ⟨o, a, b, v, tt, l, bd, el, qq⟩⟩ := x
  exact ⟨h', z6_25_0 (k0 := k0) (k1 := k1) (k2 := k2) (k3 := by rw [hw]; exact ih) ..⟩
theorem clos (m : Int) {M : Mdl} (hM : Small M) (tys : List FTy) (fns : List Int) (gls : List (Int × Bool)) (t : Int) (hl : fns.length ≤ 1000) :
  callV (cxZ m) (blk (cxZ m)) (.fn 38 [] [.ptr 0 0, .ptr 1 0]) [.v (.int .i64 t)] (HP M tys fns gls) = some (.tup [], HP M tys (fns ++ [numT M t]) gls) := by
 have e : callV (cxZ m) (blk (cxZ m)) (.fn 38 [] [.ptr 0 0, .ptr 1 0]) [.v (.int .i64 t)] (HP M tys fns gls) = callF (cxZ m) (blk (cxZ m)) 38 [.v (.int .i64 t), .v (.ptr 0 0), .v (.ptr 1 0)] (HP M tys fns gls) := rfl
 rw [e]
 refine callZ rfl (by kernel_rfl) (by kernel_rfl) ?_
 have ka : ∀ z : Int, apL (.ow 1 (encN fns)) 1 8 [[.int .i64 z]] = some (.ow 1 (encN (fns ++ [z]))) := fun z => ap_int (by omega)
 cases hy : tyOf M t with
 | none =>
  rw [numT_none hy]
  rcases ty_none hy with e1 | ⟨e1, e2⟩
  ·exact z14_0 (k0 := e1) (k1 := ka (Int.negSucc 0)) ..
  ·exact z14_1 (k0 := e1) (k1 := e2) (k2 := ka (Int.negSucc 0)) ..
 | some y =>
  rw [numT_some hy]
  obtain ⟨e1, e2, _⟩ := ty_ans hM hy
  exact z14_2 (k0 := e1) (k1 := e2) (k2 := ka t) ..
theorem loop6_20 (m : Int) (hF : Fn M f g y) (tys : List FTy) (gls : List (Int × Bool)) (hg : gls.length ≤ 200) : ∀ (d i : Nat), i + d = M.fu.length → ∀ out : List Int, out.length ≤ 200 + i →
  ∃ h', blk (cxZ m) 17 (at_ Tryz.prog 17 20) (K6 f ++ FN :: L6 (M.fu.map MFn.enc) i) (HP M tys out gls) = some (scT M g y tys (out ++ ((M.fu.drop i).map MFn.t).map (numT M)) (gls ++ M.gl.map gG), h')
 | 0, i, hd, out, ho => by
  rw [List.drop_eq_nil_of_le (by omega), List.map_nil, List.map_nil, List.append_nil]
  obtain ⟨h', ih⟩ := loop6_25 m hF tys out M.gl.length 0 (by omega) gls (by omega)
  rw [List.drop_zero] at ih
  exact ⟨h', z6_20_1 (k0 := ltZ_f (by rw [List.length_map, ofN, ofN]; omega)) (k1 := ih) ..⟩
 | d + 1, i, hd, out, ho => by
  have hfu := hF.sm.fu
  have hlt : i < M.fu.length := by omega
  have hx : M.fu[i]? = some M.fu[i] := List.getElem?_eq_getElem hlt
  generalize M.fu[i] = x at hx
  have k0 : ltZ (Int.ofNat i) (Int.ofNat (M.fu.map MFn.enc).length) = true := ltZ_t (by rw [List.length_map, ofN, ofN]; omega)
  have k1 : ixA (.imm (M.fu.map MFn.enc)) (Int.ofNat i) 3 = some x.enc := ix_map hx x.enc_len
  have k2 := clos m hF.sm tys out gls x.t (by omega)
  have hw := wrapS (n := i) (by omega)
  obtain ⟨h', ih⟩ := loop6_20 m hF tys gls hg d (i + 1) (by omega) (out ++ [numT M x.t]) (by simp; omega)
  rw [drop_get hx, List.map_cons, List.map_cons, ← list_snoc out (numT M x.t) (((M.fu.drop (i + 1)).map MFn.t).map (numT M))]
  exact ⟨h', z6_20_0 (k0 := k0) (k1 := k1) (k2 := k2) (k3 := by rw [hw]; exact ih) ..⟩
end
end Go.Proofs.YtoblgjmllmomhaaGreatDoor
namespace Go.Proofs.YtoblgjmllmomhaaGreatDoor
set_option maxRecDepth 100000
open Go Go.RowKit Go.Proofs.Am
section
variable {M : Mdl} {f : Int} {g : MFn} {y : FTy}
theorem cons_appI (a : Int) (l r : List Int) : a :: l ++ r = a :: (l ++ r) := rfl
theorem cons_appG (a : Int × Bool) (l r : List (Int × Bool)) : a :: l ++ r = a :: (l ++ r) := rfl
theorem loop6_11 (m : Int) (hF : Fn M f g y) (tys : List FTy) : ∀ (d i : Nat), i + d = M.im.length → ∀ (oF : List Int) (oG : List (Int × Bool)), oF.length ≤ i → oG.length ≤ i →
  ∃ h', blk (cxZ m) 17 (at_ Tryz.prog 17 11) (K6 f ++ FN :: L6 (M.im.map Imp.enc) i) (HP M tys oF oG) =
   some (scT M g y tys (oF ++ (((M.im.drop i).filter (kindB 0)).map Imp.t ++ M.fu.map MFn.t).map (numT M)) (oG ++ (((M.im.drop i).filter (kindB 3)).map gI ++ M.gl.map gG)), h')
 | 0, i, hd, oF, oG, h1, h2 => by
  have him := hF.sm.im
  rw [List.drop_eq_nil_of_le (by omega), List.filter_nil, List.filter_nil, List.map_nil, List.map_nil, List.nil_append, List.nil_append]
  obtain ⟨h', ih⟩ := loop6_20 m hF tys oG (by omega) M.fu.length 0 (by omega) oF (by omega)
  rw [List.drop_zero] at ih
  exact ⟨h', z6_11_3 (k0 := ltZ_f (by rw [List.length_map, ofN, ofN]; omega)) (k1 := ih) ..⟩
 | d + 1, i, hd, oF, oG, h1, h2 => by
  have him := hF.sm.im
  have hlt : i < M.im.length := by omega
  have hx : M.im[i]? = some M.im[i] := List.getElem?_eq_getElem hlt
  generalize M.im[i] = x at hx
  have k0 : ltZ (Int.ofNat i) (Int.ofNat (M.im.map Imp.enc).length) = true := ltZ_t (by rw [List.length_map, ofN, ofN]; omega)
  have k1 : ixA (.imm (M.im.map Imp.enc)) (Int.ofNat i) 8 = some x.enc := ix_map hx x.enc_len
  have hw := wrapS (n := i) (by omega)
  have ih := loop6_11 m hF tys d (i + 1) (by omega)
  rw [drop_get hx]
  cases e0 : eqZ x.k (Int.ofNat 0) with
  | true =>
   have hk : x.k = 0 := (eqZ_i e0).2 rfl
   have b0 : kindB 0 x = true := by simp only [kindB, eqZ_t hk]; rfl
   have b3 : kindB 3 x = false := by simp only [kindB, eqZ_f (show x.k ≠ 3 by omega), Bool.false_and]
   rw [List.filter_cons_of_pos b0, List.filter_cons_of_neg (by rw [b3]; simp), List.map_cons, cons_appI, List.map_cons, ← list_snoc oF (numT M x.t)]
   obtain ⟨h', ih⟩ := ih (oF ++ [numT M x.t]) oG (by simp; omega) (by omega)
   exact ⟨h', z6_11_0 (k0 := k0) (k1 := k1) (k2 := e0) (k3 := clos m hF.sm tys oF oG x.t (by omega)) (k4 := by rw [hw]; exact ih) ..⟩
  | false =>
   have hk : x.k ≠ 0 := fun h => by rw [eqZ_t (show x.k = Int.ofNat 0 from h)] at e0; cases e0
   have b0 : kindB 0 x = false := by simp only [kindB, eqZ_f hk, Bool.false_and]
   rw [List.filter_cons_of_neg (by rw [b0]; simp)]
   cases e3 : eqZ x.k (Int.ofNat 3) with
   | true =>
    have hk3 : x.k = 3 := (eqZ_i e3).2 rfl
    have b3 : kindB 3 x = true := by simp only [kindB, eqZ_t hk3]; rfl
    rw [List.filter_cons_of_pos b3, List.map_cons, cons_appG, ← list_snoc oG (gI x)]
    obtain ⟨h', ih⟩ := ih oF (oG ++ [gI x]) (by omega) (by simp; omega)
    exact ⟨h', z6_11_1 (k0 := k0) (k1 := k1) (k2 := e0) (k3 := e3) (k4 := ap_gv (out := oG) (x := gI x) (by omega)) (k5 := by rw [hw]; exact ih) ..⟩
   | false =>
    have b3 : kindB 3 x = false := by simp only [kindB, show eqZ x.k 3 = false from e3, Bool.false_and]
    rw [List.filter_cons_of_neg (by rw [b3]; simp)]
    obtain ⟨h', ih⟩ := ih oF oG (by omega) (by omega)
    exact ⟨h', z6_11_2 (k0 := k0) (k1 := k1) (k2 := e0) (k3 := e3) (k4 := by rw [hw]; exact ih) ..⟩
theorem t13c (m : Int) (l : List Int) (hl : l.length * 8 ≤ 140737488351232) (h : Heap) : CALL m 37 [.v (.imm (encN l))] h = some (.v (.imm (encN l)), h) := by
 have hb : (intsB (encN l) && Nat.ble ((encN l).length * 8) 140737488355328) = true := by
  rw [Bool.and_eq_true]
  refine ⟨?_, Nat.ble_eq_true_of_le (by rw [encN_len]; omega)⟩
  unfold intsB encN
  rw [List.all_map]
  exact List.all_eq_true.2 fun _ _ => rfl
 refine (callF_ext (e := cloneE) rfl rfl (x := .v (.imm (encN l))) ?_)
 simp only [cloneE, hb, cond_true]
theorem np_N (l : List Int) : npLs [LV.v (AV.imm (encN l))] = true := by simp only [npLs, LV.np, AV.np, npLL_encN, Bool.and_self]
theorem np_N1 (l : List Int) : LV.np (LV.v (AV.imm (encN l))) = true := by simp only [LV.np, AV.np, npLL_encN]
theorem np_M (M : Mdl) (z : Int) : npLs [eM M, .v (.int .i64 z)] = true := by simp only [npLs, LV.np, AV.np, Mdl.np, Bool.and_self]
theorem loop6_5 (m : Int) (hF : Fn M f g y) : ∀ (d i : Nat), i + d = M.ty.length → ∀ (out : List FTy), out.length ≤ i →
  ∃ h', blk (cxZ m) 17 (at_ Tryz.prog 17 5) (K6 f ++ L6 (M.ty.map FTy.enc) i) (HP M out [] []) = some (scT M g y (out ++ M.ty.drop i) (fS M) (gS M), h')
 | 0, i, hd, out, ho => by
  rw [List.drop_eq_nil_of_le (by omega), List.append_nil]
  obtain ⟨h', ih⟩ := loop6_11 m hF out M.im.length 0 (by omega) [] [] (Nat.le_refl _) (Nat.le_refl _)
  rw [List.drop_zero, List.nil_append, List.nil_append] at ih
  exact ⟨h', z6_5_1 (k0 := ltZ_f (by rw [List.length_map, ofN, ofN]; omega)) (k1 := ih) ..⟩
 | d + 1, i, hd, out, ho => by
  have hty := hF.sm.ty
  have hlt : i < M.ty.length := by omega
  have hx : M.ty[i]? = some M.ty[i] := List.getElem?_eq_getElem hlt
  generalize M.ty[i] = x at hx
  have hf := hF.sm.fit.1.2 x (List.mem_of_getElem? hx)
  have k0 : ltZ (Int.ofNat i) (Int.ofNat (M.ty.map FTy.enc).length) = true := ltZ_t (by rw [List.length_map, ofN, ofN]; omega)
  have k1 : ixA (.imm (M.ty.map FTy.enc)) (Int.ofNat i) 2 = some x.enc := ix_map hx x.enc_len
  have k8 : apL (.ow 2 (out.map FTy.enc)) 2 48 [x.enc] = some (.ow 2 ((out ++ [x]).map FTy.enc)) := by
   rw [ap_owned (fit_one x.enc_len) (by simp; omega) (by decide), List.map_append]
   rfl
  have hw := wrapS (n := i) (by omega)
  obtain ⟨h', ih⟩ := loop6_5 m hF d (i + 1) (by omega) (out ++ [x]) (by simp; omega)
  rw [drop_get hx, ← list_snoc out x (M.ty.drop (i + 1))]
  exact ⟨h', z6_5_0 (k0 := k0) (k1 := k1) (k2 := np_N x.p) (k3 := t13c m x.p hf.1.1 Heap.nil) (k4 := np_N1 x.p) (k5 := np_N x.r) (k6 := t13c m x.r hf.2.1 Heap.nil) (k7 := np_N1 x.r) (k8 := k8) (k9 := by rw [hw]; exact ih) ..⟩
theorem t6_some (m : Int) (hF : Fn M f g y) : ∃ h', CALL m 17 [eM M, .v (.int .i64 f)] Heap.nil = some (.tup [.agg (scM M g y), .nilI], h') := by
 have hu := (List.getElem?_eq_some_iff.1 hF.get).1
 have hfu : f < M.fu.length := by have := hF.nn; omega
 obtain ⟨e1, e2, _⟩ := ty_ans hF.sm hF.ty
 obtain ⟨h', ih⟩ := loop6_5 m hF M.ty.length 0 (by omega) [] (Nat.le_refl _)
 rw [List.drop_zero, List.nil_append] at ih
 refine ⟨h', callZ rfl (by kernel_rfl) (by kernel_rfl) (z6_4 (k0 := ltZ_f (by have := hF.nn; rw [ofN]; exact this)) (k1 := leZ_f (by rw [List.length_map, ofN]; omega)) (k2 := hF.ixg) (k3 := e1) (k4 := hF.ixg) (k5 := e2)
  (k6 := np_M M (Int.ofNat 1)) (k7 := t11 m hF.sm (Int.ofNat 1) Heap.nil) (k8 := np_M M (Int.ofNat 2)) (k9 := t11 m hF.sm (Int.ofNat 2) Heap.nil) (k10 := ih) ..)⟩
end
end Go.Proofs.YtoblgjmllmomhaaGreatDoor
