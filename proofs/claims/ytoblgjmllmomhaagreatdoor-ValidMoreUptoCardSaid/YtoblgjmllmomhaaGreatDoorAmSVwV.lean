/-
  Ways through texts, one by one (printed by a program of this repo).
-/
import Derived.Test.YtoblgjmllmomhaaGreatDoorAmS15S
import Derived.KernelRfl
namespace Go.Proofs.YtoblgjmllmomhaaGreatDoor
set_option maxRecDepth 100000
open Go Go.Proofs.Am
variable {m st k t lo hi x o a b v i0 i1 : Int} {ty im fu ta me gl ex el da cu y l bd eb f xs : LL} {h h0 h1 h2 : Heap} {mo na : ByteArray} {mu has q b0 b1 b2 : Bool}
def mxZ (x y : Int) : Int := bif decide (y > x) then y else x
theorem v107_0 (k0 : leZ (.ofNat ty.length) (.ofNat 64) = true) :
  bB m 107 [mV ty im fu ta me gl ex st el da cu] h = some ((vB (leZ (mxZ (mxZ (mxZ (mxZ (mxZ (mxZ (mxZ (mxZ (.ofNat im.length) (.ofNat fu.length)) (.ofNat ta.length)) (.ofNat me.length)) (.ofNat gl.length)) (.ofNat ex.length)) (.ofNat el.length)) (.ofNat da.length)) (.ofNat cu.length)) (.ofNat 64)), h)) :=
 bY (qS [36] [] [] []) (tZ k0 (uT2 (tR ((vB (leZ (mxZ (mxZ (mxZ (mxZ (mxZ (mxZ (mxZ (mxZ (.ofNat im.length) (.ofNat fu.length)) (.ofNat ta.length)) (.ofNat me.length)) (.ofNat gl.length)) (.ofNat ex.length)) (.ofNat el.length)) (.ofNat da.length)) (.ofNat cu.length)) (.ofNat 64)), h))))) (by kernel_rfl)
theorem v107_1 (k0 : leZ (.ofNat ty.length) (.ofNat 64) = false) :
  bB m 107 [mV ty im fu ta me gl ex st el da cu] h = some ((vB false, h)) :=
 bY (qS [] [36] [] []) (tZ k0 (uF2 (tR ((vB false, h))))) (by kernel_rfl)
theorem v109_0 (k0 : cA m 128 [vM im, LV.v (AV.fn 129 [] [])] h = some (vB b0, h0)) (k1 : b0 = true) :
  bB m 109 [mV ty im fu ta me gl ex st el da cu] h = some ((vB false, h0)) :=
 bY (qS [8] [] [] [(1, 2, vB b0, h0)]) (tA k0 (tZ k1 (uT3 (tR ((vB false, h0)))))) (by kernel_rfl)
theorem v109_1 (k0 : cA m 128 [vM im, LV.v (AV.fn 129 [] [])] h = some (vB b1, h1)) (k1 : b1 = false) (k2 : cA m 74 [vM ex, LV.v (AV.fn 130 [] [])] h1 = some (vB b2, h2)) (k3 : (!b2) = true) (k4 : cA m 131 [vM cu, LV.v (AV.fn 132 [] [])] h2 = some (vB b0, h0)) :
  bB m 109 [mV ty im fu ta me gl ex st el da cu] h = some ((vB !b0, h0)) :=
 bY (qS [15] [8] [] [(1, 2, vB b1, h1), (2, 4, vB b2, h2), (3, 5, vB b0, h0)]) (tA k0 (tZ k1 (uF2 (tA k2 (tA tF (tZ k3 (uT2 (tA k4 (uT2 (tR ((vB !b0, h0)))))))))))) (by kernel_rfl)
theorem v109_2 (k0 : cA m 128 [vM im, LV.v (AV.fn 129 [] [])] h = some (vB b1, h1)) (k1 : b1 = false) (k2 : cA m 74 [vM ex, LV.v (AV.fn 130 [] [])] h1 = some (vB b0, h0)) (k3 : (!b0) = false) :
  bB m 109 [mV ty im fu ta me gl ex st el da cu] h = some ((vB false, h0)) :=
 bY (qS [] [8, 15] [] [(1, 2, vB b1, h1), (2, 4, vB b0, h0)]) (tA k0 (tZ k1 (uF2 (tA k2 (tA tF (tZ k3 (uF4 (tR ((vB false, h0)))))))))) (by kernel_rfl)
theorem v110_0 (k0 : cA m 133 [vM el, LV.v (AV.fn 134 [] [])] h = some (vB b1, h1)) (k1 : (!b1) = true) (k2 : cA m 135 [vM da, LV.v (AV.fn 136 [] [])] h1 = some (vB b0, h0)) :
  bB m 110 [mV ty im fu ta me gl ex st el da cu] h = some ((vB !b0, h0)) :=
 bY (qS [9] [] [] [(1, 2, vB b1, h1), (2, 5, vB b0, h0)]) (tA k0 (tZ k1 (uT2 (tA k2 (uT2 (tR ((vB !b0, h0)))))))) (by kernel_rfl)
theorem v110_1 (k0 : cA m 133 [vM el, LV.v (AV.fn 134 [] [])] h = some (vB b0, h0)) (k1 : (!b0) = false) :
  bB m 110 [mV ty im fu ta me gl ex st el da cu] h = some ((vB false, h0)) :=
 bY (qS [] [9] [] [(1, 2, vB b0, h0)]) (tA k0 (tZ k1 (uF4 (tR ((vB false, h0)))))) (by kernel_rfl)
theorem v129_0 (k0 : ltZ (.ofNat 64) (.ofNat (ByteArray.size mo)) = true) :
  bB m 129 [vG [aS mo, aS na, aI k, aI t, aB mu, aI lo, aI hi, aB has]] h = some ((vB true, h)) :=
 bY (qS [7] [] [] []) (tZ k0 (uT4 (tR ((vB true, h))))) (by kernel_rfl)
theorem v129_1 (k0 : ltZ (.ofNat 64) (.ofNat (ByteArray.size mo)) = false) :
  bB m 129 [vG [aS mo, aS na, aI k, aI t, aB mu, aI lo, aI hi, aB has]] h = some ((vB (ltZ (.ofNat 64) (.ofNat (ByteArray.size na))), h)) :=
 bY (qS [] [7] [] []) (tZ k0 (uF4 (tR ((vB (ltZ (.ofNat 64) (.ofNat (ByteArray.size na))), h))))) (by kernel_rfl)
theorem v130_0 :
  bB m 130 [vG [aS na, aI k, aI x]] h = some ((vB (ltZ (.ofNat 64) (.ofNat (ByteArray.size na))), h)) :=
 bY (qS [] [] [] []) (tR ((vB (ltZ (.ofNat 64) (.ofNat (ByteArray.size na))), h))) (by kernel_rfl)
theorem v132_0 (k0 : ltZ (.ofNat 64) (.ofNat (ByteArray.size na)) = true) :
  bB m 132 [vG [aS na, aM y]] h = some ((vB true, h)) :=
 bY (qS [7] [] [] []) (tZ k0 (uT4 (tR ((vB true, h))))) (by kernel_rfl)
theorem v132_1 (k0 : ltZ (.ofNat 64) (.ofNat (ByteArray.size na)) = false) :
  bB m 132 [vG [aS na, aM y]] h = some ((vB (ltZ (.ofNat 4096) (.ofNat y.length)), h)) :=
 bY (qS [] [7] [] []) (tZ k0 (uF4 (tR ((vB (ltZ (.ofNat 4096) (.ofNat y.length)), h))))) (by kernel_rfl)
theorem v134_0 (k0 : ltZ (.ofNat 64) (.ofNat f.length) = true) :
  bB m 134 [vG [aI o, aI a, aI b, .int .u64 v, aI t, aM l, aM bd, aM eb, aB q, aM f]] h = some ((vB true, h)) :=
 bY (qS [7] [] [] []) (tZ k0 (uT5 (tR ((vB true, h))))) (by kernel_rfl)
theorem v134_1 (k0 : ltZ (.ofNat 64) (.ofNat f.length) = false) (k1 : cA m 108 [vM [nC o a b v t l bd eb q]] h = some (vB b0, h0)) :
  bB m 134 [vG [aI o, aI a, aI b, .int .u64 v, aI t, aM l, aM bd, aM eb, aB q, aM f]] h = some ((vB !b0, h0)) :=
 bY (qS [] [7] [] [(1, 8, vB b0, h0)]) (tZ k0 (uF3 (tA k1 (uF2 (tR ((vB !b0, h0))))))) (by kernel_rfl)
theorem v136_0 (k0 : ltZ (.ofNat 4096) (.ofNat y.length) = true) :
  bB m 136 [vG [aI o, aI a, aI b, .int .u64 v, aI t, aM l, aM bd, aM eb, aB q, aM y]] h = some ((vB true, h)) :=
 bY (qS [7] [] [] []) (tZ k0 (uT5 (tR ((vB true, h))))) (by kernel_rfl)
theorem v136_1 (k0 : ltZ (.ofNat 4096) (.ofNat y.length) = false) (k1 : cA m 108 [vM [nC o a b v t l bd eb q]] h = some (vB b0, h0)) :
  bB m 136 [vG [aI o, aI a, aI b, .int .u64 v, aI t, aM l, aM bd, aM eb, aB q, aM y]] h = some ((vB !b0, h0)) :=
 bY (qS [] [7] [] [(1, 8, vB b0, h0)]) (tZ k0 (uF3 (tA k1 (uF2 (tR ((vB !b0, h0))))))) (by kernel_rfl)
theorem v150_0 (k0 : ltZ (.ofNat 64) (.ofNat l.length) = true) :
  bB m 150 [vG (nC o a b v t l bd eb q)] h = some ((vB true, h)) :=
 bY (qS [7] [] [] []) (tZ k0 (uT4 (tR ((vB true, h))))) (by kernel_rfl)
theorem v150_1 (k0 : ltZ (.ofNat 64) (.ofNat l.length) = false) (k1 : cA m 127 [vM bd] h = some (vB b0, h0)) (k2 : (!b0) = true) :
  bB m 150 [vG (nC o a b v t l bd eb q)] h = some ((vB true, h0)) :=
 bY (qS [13] [7] [] [(1, 7, vB b0, h0)]) (tZ k0 (uF2 (tA k1 (uF2 (tZ k2 (uT4 (tR ((vB true, h0))))))))) (by kernel_rfl)
theorem v150_2 (k0 : ltZ (.ofNat 64) (.ofNat l.length) = false) (k1 : cA m 127 [vM bd] h = some (vB b1, h1)) (k2 : (!b1) = false) (k3 : cA m 127 [vM eb] h1 = some (vB b0, h0)) :
  bB m 150 [vG (nC o a b v t l bd eb q)] h = some ((vB !b0, h0)) :=
 bY (qS [] [7, 13] [] [(1, 7, vB b1, h1), (1, 13, vB b0, h0)]) (tZ k0 (uF2 (tA k1 (uF2 (tZ k2 (uF2 (tA k3 (uF2 (tR ((vB !b0, h0))))))))))) (by kernel_rfl)
theorem v149_0 (k0 : leZ (.ofNat 2) o = true) :
  bB m 149 [vG (nC o a b v t l bd eb q)] h = some ((vB (leZ o (.ofNat 4)), h)) :=
 bY (qS [6] [] [] []) (tZ k0 (uT3 (tR ((vB (leZ o (.ofNat 4)), h))))) (by kernel_rfl)
theorem v149_1 (k0 : leZ (.ofNat 2) o = false) :
  bB m 149 [vG (nC o a b v t l bd eb q)] h = some ((vB false, h)) :=
 bY (qS [] [6] [] []) (tZ k0 (uF3 (tR ((vB false, h))))) (by kernel_rfl)
theorem v127_0 (k0 : cA m 42 [vM xs, LV.v (AV.fn 150 [] [])] h = some (vB b0, h0)) :
  bB m 127 [vM xs] h = some ((vB !b0, h0)) :=
 bY (qS [] [] [] [(1, 1, vB b0, h0)]) (tA k0 (tR ((vB !b0, h0)))) (by kernel_rfl)
theorem v108_0 (k0 : cA m 126 [vM xs] h = some (LV.tup [aI i0, aI i1], h1)) (k1 : leZ i0 (.ofNat 512) = true) (k2 : leZ i1 (.ofNat 32) = true) (k3 : cA m 127 [vM xs] h1 = some (vB b0, h0)) :
  bB m 108 [vM xs] h = some ((vB b0, h0)) :=
 bY (qS [12, 16] [] [] [(1, 1, LV.tup [aI i0, aI i1], h1), (2, 8, vB b0, h0)]) (tA k0 (tZ k1 (uT2 (tZ k2 (tA tT (tA k3 (tA tT (tR ((vB b0, h0)))))))))) (by kernel_rfl)
theorem v108_1 (k0 : cA m 126 [vM xs] h = some (LV.tup [aI i0, aI i1], h0)) (k1 : leZ i0 (.ofNat 512) = true) (k2 : leZ i1 (.ofNat 32) = false) :
  bB m 108 [vM xs] h = some ((vB false, h0)) :=
 bY (qS [12] [16] [] [(1, 1, LV.tup [aI i0, aI i1], h0)]) (tA k0 (tZ k1 (uT2 (tZ k2 (uF2 (tR ((vB false, h0)))))))) (by kernel_rfl)
theorem v108_2 (k0 : cA m 126 [vM xs] h = some (LV.tup [aI i0, aI i1], h0)) (k1 : leZ i0 (.ofNat 512) = false) :
  bB m 108 [vM xs] h = some ((vB false, h0)) :=
 bY (qS [] [12] [] [(1, 1, LV.tup [aI i0, aI i1], h0)]) (tA k0 (tZ k1 (uF2 (tR ((vB false, h0)))))) (by kernel_rfl)
end Go.Proofs.YtoblgjmllmomhaaGreatDoor
namespace Go.Proofs.YtoblgjmllmomhaaGreatDoor
set_option maxRecDepth 100000
open Go Go.Proofs.Am
variable {m c d n i0 i1 i2 i3 i4 i5 i6 i7 i8 : Int} {xs l0 l1 l2 : LL} {h h0 h1 h2 : Heap} {r : LV × Heap} {i : Nat} {b0 b1 : Bool}
theorem v126_0 (k0 : bA m 126 3 [vI (.ofNat 0), vI (.ofNat 0), vM xs, vI (.ofNat xs.length), vI (.ofNat 0)] h = some r) :
  bB m 126 [vM xs] h = some r :=
 bY (qS [] [] [] []) (tA t1 (k0)) (by kernel_rfl)
theorem v126_3_0 (k0 : ltZ (Int.ofNat i) n = true) (k1 : ixA (aM xs) (Int.ofNat i) 9 = some (nC i2 i3 i4 i5 i6 l2 l0 l1 b1)) (k2 : cA m 126 [vM l0] h = some (LV.tup [aI i7, aI i0], h0)) (k3 : cA m 126 [vM l1] h0 = some (LV.tup [aI i8, aI i1], h1)) (k4 : cA m 149 [vG (nC i2 i3 i4 i5 i6 l2 l0 l1 b1)] h1 = some (vB b0, h2)) (k5 : b0 = true) (k6 : bA m 126 3 [vI (IntKind.wrap .i64 (c + IntKind.wrap .i64 (IntKind.wrap .i64 (Int.ofNat 1 + i7) + i8))), vI (bif decide (IntKind.wrap .i64 (1 + i1) > bif decide (IntKind.wrap .i64 (1 + i0) > d) then IntKind.wrap .i64 (1 + i0) else d) then IntKind.wrap .i64 (Int.ofNat 1 + i1) else bif decide (IntKind.wrap .i64 (1 + i0) > d) then IntKind.wrap .i64 (Int.ofNat 1 + i0) else d), vM xs, vI n, vI (IntKind.wrap .i64 (Int.ofNat (Nat.succ i)))] h2 = some r) :
  bA m 126 3 [vI c, vI d, vM xs, vI n, vI (Int.ofNat i)] h = some r :=
 bY (qS [1099997, 1099983] [] [(4, 0, (LV.v (AV.snap (nC i2 i3 i4 i5 i6 l2 l0 l1 b1))))] [(5, 2, LV.tup [aI i7, aI i0], h0), (6, 2, LV.tup [aI i8, aI i1], h1), (8, 1, vB b0, h2)]) (tZ k0 (tA (tA t0 (tA tN (k1))) (tA k2 (tA k3 (tA k4 (tZ k5 (tA t1 (k6)))))))) (by kernel_rfl)
theorem v126_3_1 (k0 : ltZ (.ofNat i) n = true) (k1 : ixA (aM xs) (.ofNat i) 9 = some (nC i0 i1 i2 i3 i4 l2 l0 l1 b1)) (k2 : cA m 126 [vM l0] h = some (LV.tup [aI i5, aI i7], h0)) (k3 : cA m 126 [vM l1] h0 = some (LV.tup [aI i6, aI i8], h1)) (k4 : cA m 149 [vG (nC i0 i1 i2 i3 i4 l2 l0 l1 b1)] h1 = some (vB b0, h2)) (k5 : b0 = false) (k6 : bA m 126 3 [vI (IntKind.wrap .i64 (c + IntKind.wrap .i64 (IntKind.wrap .i64 (Int.ofNat 1 + i5) + i6))), vI d, vM xs, vI n, vI (IntKind.wrap .i64 (.ofNat (Nat.succ i)))] h2 = some r) :
  bA m 126 3 [vI c, vI d, vM xs, vI n, vI (.ofNat i)] h = some r :=
 bY (qS [1099997] [1099983] [(4, 0, (LV.v (AV.snap (nC i0 i1 i2 i3 i4 l2 l0 l1 b1))))] [(5, 2, LV.tup [aI i5, aI i7], h0), (6, 2, LV.tup [aI i6, aI i8], h1), (8, 1, vB b0, h2)]) (tZ k0 (tA (tA t0 (tA tN (k1))) (tA k2 (tA k3 (tA k4 (tZ k5 (tA t1 (k6)))))))) (by kernel_rfl)
theorem v126_3_2 (k0 : ltZ (.ofNat i) n = false) :
  bA m 126 3 [vI c, vI d, vM xs, vI n, vI (.ofNat i)] h = some ((LV.tup [aI c, aI d], h)) :=
 bY (qS [] [1099997] [] []) (tZ k0 (tR ((LV.tup [aI c, aI d], h)))) (by kernel_rfl)
end Go.Proofs.YtoblgjmllmomhaaGreatDoor
namespace Go.Proofs.YtoblgjmllmomhaaGreatDoor
set_option maxRecDepth 100000
open Go Go.Proofs.Am
variable {m n i0 i1 i2 i3 i4 : Int} {xs l0 l1 l2 l3 : LL} {fv : AV} {h h0 : Heap} {r : LV × Heap} {i : Nat} {b0 b1 b2 : Bool} {s0 s1 : ByteArray}
theorem v128_0 (k0 : cA m 151 [vM xs, LV.v fv] h = some (vI i0, h0)) :
  bB m 128 [vM xs, .v fv] h = some ((vB (leZ (.ofNat 0) i0), h0)) :=
 bY (qS [] [] [] [(1, 2, vI i0, h0)]) (tA k0 (tR ((vB (leZ (.ofNat 0) i0), h0)))) (by kernel_rfl)
theorem v151_0 (k0 : bA m 151 2 [vM xs, LV.v fv, vI (.ofNat xs.length), vI (.ofNat 0)] h = some r) :
  bB m 151 [vM xs, .v fv] h = some r :=
 bY (qS [] [] [] []) (tA t1 (k0)) (by kernel_rfl)
theorem v151_2_0 (k0 : ltZ (.ofNat i) n = true) (k1 : ixA (aM xs) (.ofNat i) 8 = some [aS s0, aS s1, aI i0, aI i1, aB b1, aI i2, aI i3, aB b2]) (k2 : cV m fv [vG [aS s0, aS s1, aI i0, aI i1, aB b1, aI i2, aI i3, aB b2]] h = some (vB b0, h0)) (k3 : b0 = true) :
  bA m 151 2 [vM xs, .v fv, vI n, vI (.ofNat i)] h = some ((vI (.ofNat i), h0)) :=
 bY (qS [1099997, 1099989] [] [(4, 3, (LV.v (AV.snap [aS s0, aS s1, aI i0, aI i1, aB b1, aI i2, aI i3, aB b2])))] [(4, 5, vB b0, h0)]) (tZ k0 (tA (tA t0 (tA tN (k1))) (tA k2 (tZ k3 (tR ((vI (.ofNat i), h0))))))) (by kernel_rfl)
theorem v151_2_1 (k0 : ltZ (.ofNat i) n = true) (k1 : ixA (aM xs) (.ofNat i) 8 = some [aS s0, aS s1, aI i0, aI i1, aB b1, aI i2, aI i3, aB b2]) (k2 : cV m fv [vG [aS s0, aS s1, aI i0, aI i1, aB b1, aI i2, aI i3, aB b2]] h = some (vB b0, h0)) (k3 : b0 = false) (k4 : bA m 151 2 [vM xs, LV.v fv, vI n, vI (IntKind.wrap .i64 (.ofNat (Nat.succ i)))] h0 = some r) :
  bA m 151 2 [vM xs, .v fv, vI n, vI (.ofNat i)] h = some r :=
 bY (qS [1099997] [1099989] [(4, 3, (LV.v (AV.snap [aS s0, aS s1, aI i0, aI i1, aB b1, aI i2, aI i3, aB b2])))] [(4, 5, vB b0, h0)]) (tZ k0 (tA (tA t0 (tA tN (k1))) (tA k2 (tZ k3 (tA t1 (k4)))))) (by kernel_rfl)
theorem v151_2_2 (k0 : ltZ (.ofNat i) n = false) :
  bA m 151 2 [vM xs, .v fv, vI n, vI (.ofNat i)] h = some ((vI (Int.negSucc 0), h)) :=
 bY (qS [] [1099997] [] []) (tZ k0 (tR ((vI (Int.negSucc 0), h)))) (by kernel_rfl)
theorem v131_0 (k0 : cA m 152 [vM xs, LV.v fv] h = some (vI i0, h0)) :
  bB m 131 [vM xs, .v fv] h = some ((vB (leZ (.ofNat 0) i0), h0)) :=
 bY (qS [] [] [] [(1, 2, vI i0, h0)]) (tA k0 (tR ((vB (leZ (.ofNat 0) i0), h0)))) (by kernel_rfl)
theorem v152_0 (k0 : bA m 152 2 [vM xs, LV.v fv, vI (.ofNat xs.length), vI (.ofNat 0)] h = some r) :
  bB m 152 [vM xs, .v fv] h = some r :=
 bY (qS [] [] [] []) (tA t1 (k0)) (by kernel_rfl)
theorem v152_2_0 (k0 : ltZ (.ofNat i) n = true) (k1 : ixA (aM xs) (.ofNat i) 2 = some [aS s0, aM l0]) (k2 : cV m fv [vG [aS s0, aM l0]] h = some (vB b0, h0)) (k3 : b0 = true) :
  bA m 152 2 [vM xs, .v fv, vI n, vI (.ofNat i)] h = some ((vI (.ofNat i), h0)) :=
 bY (qS [1099997, 1099989] [] [(4, 3, (LV.v (AV.snap [aS s0, aM l0])))] [(4, 5, vB b0, h0)]) (tZ k0 (tA (tA t0 (tA tN (k1))) (tA k2 (tZ k3 (tR ((vI (.ofNat i), h0))))))) (by kernel_rfl)
theorem v152_2_1 (k0 : ltZ (.ofNat i) n = true) (k1 : ixA (aM xs) (.ofNat i) 2 = some [aS s0, aM l0]) (k2 : cV m fv [vG [aS s0, aM l0]] h = some (vB b0, h0)) (k3 : b0 = false) (k4 : bA m 152 2 [vM xs, LV.v fv, vI n, vI (IntKind.wrap .i64 (.ofNat (Nat.succ i)))] h0 = some r) :
  bA m 152 2 [vM xs, .v fv, vI n, vI (.ofNat i)] h = some r :=
 bY (qS [1099997] [1099989] [(4, 3, (LV.v (AV.snap [aS s0, aM l0])))] [(4, 5, vB b0, h0)]) (tZ k0 (tA (tA t0 (tA tN (k1))) (tA k2 (tZ k3 (tA t1 (k4)))))) (by kernel_rfl)
theorem v152_2_2 (k0 : ltZ (.ofNat i) n = false) :
  bA m 152 2 [vM xs, .v fv, vI n, vI (.ofNat i)] h = some ((vI (Int.negSucc 0), h)) :=
 bY (qS [] [1099997] [] []) (tZ k0 (tR ((vI (Int.negSucc 0), h)))) (by kernel_rfl)
theorem v133_0 (k0 : cA m 153 [vM xs, LV.v fv] h = some (vI i0, h0)) :
  bB m 133 [vM xs, .v fv] h = some ((vB (leZ (.ofNat 0) i0), h0)) :=
 bY (qS [] [] [] [(1, 2, vI i0, h0)]) (tA k0 (tR ((vB (leZ (.ofNat 0) i0), h0)))) (by kernel_rfl)
theorem v153_0 (k0 : bA m 153 2 [vM xs, LV.v fv, vI (.ofNat xs.length), vI (.ofNat 0)] h = some r) :
  bB m 153 [vM xs, .v fv] h = some r :=
 bY (qS [] [] [] []) (tA t1 (k0)) (by kernel_rfl)
theorem v153_2_0 (k0 : ltZ (.ofNat i) n = true) (k1 : ixA (aM xs) (.ofNat i) 10 = some [aI i0, aI i1, aI i2, AV.int IntKind.u64 i3, aI i4, aM l0, aM l1, aM l2, aB b1, aM l3]) (k2 : cV m fv [vG [aI i0, aI i1, aI i2, AV.int IntKind.u64 i3, aI i4, aM l0, aM l1, aM l2, aB b1, aM l3]] h = some (vB b0, h0)) (k3 : b0 = true) :
  bA m 153 2 [vM xs, .v fv, vI n, vI (.ofNat i)] h = some ((vI (.ofNat i), h0)) :=
 bY (qS [1099997, 1099989] [] [(4, 3, (LV.v (AV.snap [aI i0, aI i1, aI i2, AV.int IntKind.u64 i3, aI i4, aM l0, aM l1, aM l2, aB b1, aM l3])))] [(4, 5, vB b0, h0)]) (tZ k0 (tA (tA t0 (tA tN (k1))) (tA k2 (tZ k3 (tR ((vI (.ofNat i), h0))))))) (by kernel_rfl)
theorem v153_2_1 (k0 : ltZ (.ofNat i) n = true) (k1 : ixA (aM xs) (.ofNat i) 10 = some [aI i0, aI i1, aI i2, AV.int IntKind.u64 i3, aI i4, aM l0, aM l1, aM l2, aB b1, aM l3]) (k2 : cV m fv [vG [aI i0, aI i1, aI i2, AV.int IntKind.u64 i3, aI i4, aM l0, aM l1, aM l2, aB b1, aM l3]] h = some (vB b0, h0)) (k3 : b0 = false) (k4 : bA m 153 2 [vM xs, LV.v fv, vI n, vI (IntKind.wrap .i64 (.ofNat (Nat.succ i)))] h0 = some r) :
  bA m 153 2 [vM xs, .v fv, vI n, vI (.ofNat i)] h = some r :=
 bY (qS [1099997] [1099989] [(4, 3, (LV.v (AV.snap [aI i0, aI i1, aI i2, AV.int IntKind.u64 i3, aI i4, aM l0, aM l1, aM l2, aB b1, aM l3])))] [(4, 5, vB b0, h0)]) (tZ k0 (tA (tA t0 (tA tN (k1))) (tA k2 (tZ k3 (tA t1 (k4)))))) (by kernel_rfl)
theorem v153_2_2 (k0 : ltZ (.ofNat i) n = false) :
  bA m 153 2 [vM xs, .v fv, vI n, vI (.ofNat i)] h = some ((vI (Int.negSucc 0), h)) :=
 bY (qS [] [1099997] [] []) (tZ k0 (tR ((vI (Int.negSucc 0), h)))) (by kernel_rfl)
theorem v135_0 (k0 : cA m 154 [vM xs, LV.v fv] h = some (vI i0, h0)) :
  bB m 135 [vM xs, .v fv] h = some ((vB (leZ (.ofNat 0) i0), h0)) :=
 bY (qS [] [] [] [(1, 2, vI i0, h0)]) (tA k0 (tR ((vB (leZ (.ofNat 0) i0), h0)))) (by kernel_rfl)
theorem v154_0 (k0 : bA m 154 2 [vM xs, LV.v fv, vI (.ofNat xs.length), vI (.ofNat 0)] h = some r) :
  bB m 154 [vM xs, .v fv] h = some r :=
 bY (qS [] [] [] []) (tA t1 (k0)) (by kernel_rfl)
theorem v154_2_0 (k0 : ltZ (.ofNat i) n = true) (k1 : ixA (aM xs) (.ofNat i) 10 = some [aI i0, aI i1, aI i2, AV.int IntKind.u64 i3, aI i4, aM l0, aM l1, aM l2, aB b1, aM l3]) (k2 : cV m fv [vG [aI i0, aI i1, aI i2, AV.int IntKind.u64 i3, aI i4, aM l0, aM l1, aM l2, aB b1, aM l3]] h = some (vB b0, h0)) (k3 : b0 = true) :
  bA m 154 2 [vM xs, .v fv, vI n, vI (.ofNat i)] h = some ((vI (.ofNat i), h0)) :=
 bY (qS [1099997, 1099989] [] [(4, 3, (LV.v (AV.snap [aI i0, aI i1, aI i2, AV.int IntKind.u64 i3, aI i4, aM l0, aM l1, aM l2, aB b1, aM l3])))] [(4, 5, vB b0, h0)]) (tZ k0 (tA (tA t0 (tA tN (k1))) (tA k2 (tZ k3 (tR ((vI (.ofNat i), h0))))))) (by kernel_rfl)
theorem v154_2_1 (k0 : ltZ (.ofNat i) n = true) (k1 : ixA (aM xs) (.ofNat i) 10 = some [aI i0, aI i1, aI i2, AV.int IntKind.u64 i3, aI i4, aM l0, aM l1, aM l2, aB b1, aM l3]) (k2 : cV m fv [vG [aI i0, aI i1, aI i2, AV.int IntKind.u64 i3, aI i4, aM l0, aM l1, aM l2, aB b1, aM l3]] h = some (vB b0, h0)) (k3 : b0 = false) (k4 : bA m 154 2 [vM xs, LV.v fv, vI n, vI (IntKind.wrap .i64 (.ofNat (Nat.succ i)))] h0 = some r) :
  bA m 154 2 [vM xs, .v fv, vI n, vI (.ofNat i)] h = some r :=
 bY (qS [1099997] [1099989] [(4, 3, (LV.v (AV.snap [aI i0, aI i1, aI i2, AV.int IntKind.u64 i3, aI i4, aM l0, aM l1, aM l2, aB b1, aM l3])))] [(4, 5, vB b0, h0)]) (tZ k0 (tA (tA t0 (tA tN (k1))) (tA k2 (tZ k3 (tA t1 (k4)))))) (by kernel_rfl)
theorem v154_2_2 (k0 : ltZ (.ofNat i) n = false) :
  bA m 154 2 [vM xs, .v fv, vI n, vI (.ofNat i)] h = some ((vI (Int.negSucc 0), h)) :=
 bY (qS [] [1099997] [] []) (tZ k0 (tR ((vI (Int.negSucc 0), h)))) (by kernel_rfl)
end Go.Proofs.YtoblgjmllmomhaaGreatDoor
namespace Go.Proofs.YtoblgjmllmomhaaGreatDoor
set_option maxRecDepth 100000
open Go Go.Proofs.Am
variable {m st n i0 i1 i2 i3 i4 i5 : Int} {ty im fu ta me gl ex el da cu xs l0 l1 l2 : LL} {h h0 h1 : Heap} {r : LV × Heap} {i : Nat} {b0 b1 b2 : Bool}
theorem v62_0 (k0 : cA m 107 [mV ty im fu ta me gl ex st el da cu] h = some (vB b0, h0)) (k1 : (!b0) = true) :
  bB m 62 [mV ty im fu ta me gl ex st el da cu] h = some ((vB false, h0)) :=
 bY (qS [1099994] [] [] [(1, 1, vB b0, h0)]) (tA k0 (tZ k1 (tR ((vB false, h0))))) (by kernel_rfl)
theorem v62_1 (k0 : cA m 107 [mV ty im fu ta me gl ex st el da cu] h = some (vB b0, h0)) (k1 : (!b0) = false) (k2 : bA m 62 4 ([LV.lp 0 0, vM ty, vI (.ofNat ty.length), vI (.ofNat 0)] ++ mL ty im fu ta me gl ex st el da cu) h0 = some r) :
  bB m 62 [mV ty im fu ta me gl ex st el da cu] h = some r :=
 bY (qS [] [1099994] [] [(1, 1, vB b0, h0)]) (tA k0 (tZ k1 (tA t1 (k2)))) (by kernel_rfl)
theorem v62_4_0 (k0 : ltZ (.ofNat i) n = true) (k1 : ixA (aM xs) (.ofNat i) 2 = some [aM l0, aM l1]) (k2 : ltZ (.ofNat 64) (.ofNat l0.length) = true) :
  bA m 62 4 ([.lp 0 0, vM xs, vI n, vI (.ofNat i)] ++ mL ty im fu ta me gl ex st el da cu) h = some ((vB false, h)) :=
 bY (qS [1099997, 23] [] [(5, 0, (LV.v (AV.snap [aM l0, aM l1])))] []) (tZ k0 (tA (tA t0 (tA tN (k1))) (tZ k2 (uT4 (tR ((vB false, h))))))) (by kernel_rfl)
theorem v62_4_1 (k0 : ltZ (.ofNat i) n = true) (k1 : ixA (aM xs) (.ofNat i) 2 = some [aM l0, aM l1]) (k2 : ltZ (.ofNat 64) (.ofNat l0.length) = false) (k3 : ltZ (.ofNat 64) (.ofNat l1.length) = true) :
  bA m 62 4 ([.lp 0 0, vM xs, vI n, vI (.ofNat i)] ++ mL ty im fu ta me gl ex st el da cu) h = some ((vB false, h)) :=
 bY (qS [1099997, 1099989] [23] [(5, 0, (LV.v (AV.snap [aM l0, aM l1])))] []) (tZ k0 (tA (tA t0 (tA tN (k1))) (tZ k2 (uF4 (tZ k3 (tR ((vB false, h)))))))) (by kernel_rfl)
theorem v62_4_2 (k0 : ltZ (.ofNat i) n = true) (k1 : ixA (aM xs) (.ofNat i) 2 = some [aM l0, aM l1]) (k2 : ltZ (.ofNat 64) (.ofNat l0.length) = false) (k3 : ltZ (.ofNat 64) (.ofNat l1.length) = false) (k4 : bA m 62 4 ([LV.lp 0 0, vM xs, vI n, vI (IntKind.wrap .i64 (.ofNat (Nat.succ i)))] ++ mL ty im fu ta me gl ex st el da cu) h = some r) :
  bA m 62 4 ([.lp 0 0, vM xs, vI n, vI (.ofNat i)] ++ mL ty im fu ta me gl ex st el da cu) h = some r :=
 bY (qS [1099997] [23, 1099989] [(5, 0, (LV.v (AV.snap [aM l0, aM l1])))] []) (tZ k0 (tA (tA t0 (tA tN (k1))) (tZ k2 (uF4 (tZ k3 (tA t1 (k4))))))) (by kernel_rfl)
theorem v62_4_3 (k0 : ltZ (.ofNat i) n = false) (k1 : bA m 62 10 ([LV.lp 0 0, vM fu, vI (.ofNat fu.length), vI (.ofNat 0)] ++ mL ty im fu ta me gl ex st el da cu) h = some r) :
  bA m 62 4 ([.lp 0 0, vM xs, vI n, vI (.ofNat i)] ++ mL ty im fu ta me gl ex st el da cu) h = some r :=
 bY (qS [] [1099997] [] []) (tZ k0 (tA t1 (k1))) (by kernel_rfl)
theorem v62_10_0 (k0 : ltZ (.ofNat i) n = true) (k1 : ixA (aM xs) (.ofNat i) 3 = some [aI i0, aM l0, aM l1]) (k2 : ltZ (.ofNat 64) (.ofNat l0.length) = true) :
  bA m 62 10 ([.lp 0 0, vM xs, vI n, vI (.ofNat i)] ++ mL ty im fu ta me gl ex st el da cu) h = some ((vB false, h)) :=
 bY (qS [1099997, 41] [] [(11, 0, (LV.v (AV.snap [aI i0, aM l0, aM l1])))] []) (tZ k0 (tA (tA t0 (tA tN (k1))) (tZ k2 (uT4 (tR ((vB false, h))))))) (by kernel_rfl)
theorem v62_10_1 (k0 : ltZ (.ofNat i) n = true) (k1 : ixA (aM xs) (.ofNat i) 3 = some [aI i0, aM l0, aM l1]) (k2 : ltZ (.ofNat 64) (.ofNat l0.length) = false) (k3 : cA m 108 [vM l1] h = some (vB b0, h0)) (k4 : (!b0) = true) :
  bA m 62 10 ([.lp 0 0, vM xs, vI n, vI (.ofNat i)] ++ mL ty im fu ta me gl ex st el da cu) h = some ((vB false, h0)) :=
 bY (qS [1099997, 1099989] [41] [(11, 0, (LV.v (AV.snap [aI i0, aM l0, aM l1])))] [(12, 7, vB b0, h0)]) (tZ k0 (tA (tA t0 (tA tN (k1))) (tZ k2 (uF2 (tA k3 (uF2 (tZ k4 (tR ((vB false, h0)))))))))) (by kernel_rfl)
theorem v62_10_2 (k0 : ltZ (.ofNat i) n = true) (k1 : ixA (aM xs) (.ofNat i) 3 = some [aI i0, aM l0, aM l1]) (k2 : ltZ (.ofNat 64) (.ofNat l0.length) = false) (k3 : cA m 108 [vM l1] h = some (vB b0, h0)) (k4 : (!b0) = false) (k5 : bA m 62 10 ([LV.lp 0 0, vM xs, vI n, vI (IntKind.wrap .i64 (.ofNat (Nat.succ i)))] ++ mL ty im fu ta me gl ex st el da cu) h0 = some r) :
  bA m 62 10 ([.lp 0 0, vM xs, vI n, vI (.ofNat i)] ++ mL ty im fu ta me gl ex st el da cu) h = some r :=
 bY (qS [1099997] [41, 1099989] [(11, 0, (LV.v (AV.snap [aI i0, aM l0, aM l1])))] [(12, 7, vB b0, h0)]) (tZ k0 (tA (tA t0 (tA tN (k1))) (tZ k2 (uF2 (tA k3 (uF2 (tZ k4 (tA t1 (k5))))))))) (by kernel_rfl)
theorem v62_10_3 (k0 : ltZ (.ofNat i) n = false) (k1 : bA m 62 16 ([LV.lp 0 0, vM gl, vI (.ofNat gl.length), vI (.ofNat 0)] ++ mL ty im fu ta me gl ex st el da cu) h = some r) :
  bA m 62 10 ([.lp 0 0, vM xs, vI n, vI (.ofNat i)] ++ mL ty im fu ta me gl ex st el da cu) h = some r :=
 bY (qS [] [1099997] [] []) (tZ k0 (tA t1 (k1))) (by kernel_rfl)
theorem v62_16_0 (k0 : ltZ (.ofNat i) n = true) (k1 : ixA (aM xs) (.ofNat i) 11 = some ([aI i5, aB b1] ++ nC i0 i1 i2 i3 i4 l0 l1 l2 b2)) (k2 : cA m 108 [vM [nC i0 i1 i2 i3 i4 l0 l1 l2 b2]] h = some (vB b0, h0)) (k3 : (!b0) = true) :
  bA m 62 16 ([.lp 0 0, vM xs, vI n, vI (.ofNat i)] ++ mL ty im fu ta me gl ex st el da cu) h = some ((vB false, h0)) :=
 bY (qS [1099997, 1099989] [] [(17, 0, (LV.v (AV.snap ([aI i5, aB b1] ++ nC i0 i1 i2 i3 i4 l0 l1 l2 b2))))] [(18, 3, vB b0, h0)]) (tZ k0 (tA (tA t0 (tA tN (k1))) (tA k2 (tZ k3 (tR ((vB false, h0))))))) (by kernel_rfl)
theorem v62_16_1 (k0 : ltZ (.ofNat i) n = true) (k1 : ixA (aM xs) (.ofNat i) 11 = some ([aI i5, aB b1] ++ nC i0 i1 i2 i3 i4 l0 l1 l2 b2)) (k2 : cA m 108 [vM [nC i0 i1 i2 i3 i4 l0 l1 l2 b2]] h = some (vB b0, h0)) (k3 : (!b0) = false) (k4 : bA m 62 16 ([LV.lp 0 0, vM xs, vI n, vI (IntKind.wrap .i64 (.ofNat (Nat.succ i)))] ++ mL ty im fu ta me gl ex st el da cu) h0 = some r) :
  bA m 62 16 ([.lp 0 0, vM xs, vI n, vI (.ofNat i)] ++ mL ty im fu ta me gl ex st el da cu) h = some r :=
 bY (qS [1099997] [1099989] [(17, 0, (LV.v (AV.snap ([aI i5, aB b1] ++ nC i0 i1 i2 i3 i4 l0 l1 l2 b2))))] [(18, 3, vB b0, h0)]) (tZ k0 (tA (tA t0 (tA tN (k1))) (tA k2 (tZ k3 (tA t1 (k4)))))) (by kernel_rfl)
theorem v62_16_2 (k0 : ltZ (.ofNat i) n = false) (k1 : cA m 109 [mV ty im fu ta me gl ex st el da cu] h = some (vB b1, h1)) (k2 : b1 = true) (k3 : cA m 110 [mV ty im fu ta me gl ex st el da cu] h1 = some (vB b0, h0)) :
  bA m 62 16 ([.lp 0 0, vM xs, vI n, vI (.ofNat i)] ++ mL ty im fu ta me gl ex st el da cu) h = some ((vB b0, h0)) :=
 bY (qS [63] [1099997] [] [(21, 1, vB b1, h1), (21, 4, vB b0, h0)]) (tZ k0 (tA k1 (tZ k2 (tA tT (tA k3 (tA tT (tR ((vB b0, h0))))))))) (by kernel_rfl)
theorem v62_16_3 (k0 : ltZ (.ofNat i) n = false) (k1 : cA m 109 [mV ty im fu ta me gl ex st el da cu] h = some (vB b0, h0)) (k2 : b0 = false) :
  bA m 62 16 ([.lp 0 0, vM xs, vI n, vI (.ofNat i)] ++ mL ty im fu ta me gl ex st el da cu) h = some ((vB false, h0)) :=
 bY (qS [] [1099997, 63] [] [(21, 1, vB b0, h0)]) (tZ k0 (tA k1 (tZ k2 (uF2 (tR ((vB false, h0))))))) (by kernel_rfl)
end Go.Proofs.YtoblgjmllmomhaaGreatDoor
