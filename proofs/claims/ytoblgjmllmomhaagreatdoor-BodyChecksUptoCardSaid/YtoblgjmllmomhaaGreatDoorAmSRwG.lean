/-
  Ways through texts, one by one (printed by a program of this repo).
-/
import Derived.Test.YtoblgjmllmomhaaGreatDoorAmS15S
import Derived.KernelRfl
namespace Go.Proofs.YtoblgjmllmomhaaGreatDoor
set_option maxRecDepth 100000
open Go Go.Proofs.Am
variable {m o a b v t i ob ok gv bz z i0 i1 i2 i3 i4 i5 i6 i7 i8 i9 : Int} {L : Nat} {l bd el rs tk l0 : LL} {q sg b0 : Bool} {h h0 h1 h2 h3 h4 : Heap} {r : LV × Heap} {on s0 s1 s2 s3 s4 : ByteArray}
theorem r99_0 (k0 : eqZ o (.ofNat 3) = true) (k1 : cA m 25 [vP L 0, vM bd, vI (.ofNat 0), vI t] h = some (LV.tup [], h0)) :
  bB m 99 [vP L 0, vG (nC o a b v t l bd el q)] h = some ((LV.tup [], h0)) :=
 bY (qS [1099994] [] [] [(2, 5, LV.tup [], h0)]) (tZ k0 (tA k1 (tR ((LV.tup [], h0))))) (by kernel_rfl)
theorem r99_3 (k0 : eqZ o (.ofNat 3) = false) (k1 : eqZ o (.ofNat 4) = true) (k2 : cA m 59 [vP L 0, vI (.ofNat 1)] h = some (LV.tup [], h1)) (k3 : (!q) = true) (k4 : (!eqZ t (.ofNat 0)) = true) (k5 : cA m 60 [vP L 0, vI (.ofNat 4)] h1 = some (LV.tup [], h2)) (k6 : cA m 25 [vP L 0, vM bd, vI t, vI t] h2 = some (LV.tup [], h0)) (k7 : q = false) :
  bB m 99 [vP L 0, vG (nC o a b v t l bd el q)] h = some ((LV.tup [], h0)) :=
 bY (qS [1099989, 21, 1099984] [1099994, 38] [] [(4, 1, LV.tup [], h1), (6, 1, LV.tup [], h2), (7, 7, LV.tup [], h0)]) (tZ k0 (tZ k1 (tA k2 (tZ k3 (uT3 (tZ k4 (tA k5 (tA k6 (tZ k7 (uF5 (tR ((LV.tup [], h0))))))))))))) (by kernel_rfl)
theorem r99_6 (k0 : eqZ o (.ofNat 3) = false) (k1 : eqZ o (.ofNat 4) = true) (k2 : cA m 59 [vP L 0, vI (.ofNat 1)] h = some (LV.tup [], h1)) (k3 : (!q) = true) (k4 : (!eqZ t (.ofNat 0)) = false) (k5 : cA m 25 [vP L 0, vM bd, vI t, vI t] h1 = some (LV.tup [], h0)) (k6 : q = false) :
  bB m 99 [vP L 0, vG (nC o a b v t l bd el q)] h = some ((LV.tup [], h0)) :=
 bY (qS [1099989, 21] [1099994, 1099984, 38] [] [(4, 1, LV.tup [], h1), (7, 7, LV.tup [], h0)]) (tZ k0 (tZ k1 (tA k2 (tZ k3 (uT3 (tZ k4 (tA k5 (tZ k6 (uF5 (tR ((LV.tup [], h0)))))))))))) (by kernel_rfl)
theorem r99_7 (k0 : eqZ o (.ofNat 3) = false) (k1 : eqZ o (.ofNat 4) = true) (k2 : cA m 59 [vP L 0, vI (.ofNat 1)] h = some (LV.tup [], h2)) (k3 : (!q) = false) (k4 : cA m 25 [vP L 0, vM bd, vI t, vI t] h2 = some (LV.tup [], h0)) (k5 : q = true) (k6 : ldP h0 (AV.ptr L 9) 1 false = some (aI i0)) (k7 : eqZ i0 (.ofNat 0) = true) (k8 : cA m 59 [vP L 0, vI t] h0 = some (LV.tup [], h3)) (k9 : cA m 25 [vP L 0, vM el, vI t, vI t] h3 = some (LV.tup [], h1)) :
  bB m 99 [vP L 0, vG (nC o a b v t l bd el q)] h = some ((LV.tup [], h1)) :=
 bY (qS [1099989, 38, 1099978] [1099994, 21] [] [(4, 1, LV.tup [], h2), (7, 7, LV.tup [], h0), (8, 6, vI i0, Heap.nil), (9, 3, LV.tup [], h3), (10, 7, LV.tup [], h1)]) (tZ k0 (tZ k1 (tA k2 (tZ k3 (uF3 (tA k4 (tZ k5 (uT3 (tA t1 (tA tN (tA t0 (tA k6 (uT2 (tZ k7 (tA k8 (tA k9 (tR ((LV.tup [], h1))))))))))))))))))) (by kernel_rfl)
theorem r99_8 (k0 : eqZ o (.ofNat 3) = false) (k1 : eqZ o (.ofNat 4) = true) (k2 : cA m 59 [vP L 0, vI (.ofNat 1)] h = some (LV.tup [], h1)) (k3 : (!q) = false) (k4 : cA m 25 [vP L 0, vM bd, vI t, vI t] h1 = some (LV.tup [], h0)) (k5 : q = true) (k6 : ldP h0 (AV.ptr L 9) 1 false = some (aI i0)) (k7 : eqZ i0 (.ofNat 0) = false) :
  bB m 99 [vP L 0, vG (nC o a b v t l bd el q)] h = some ((LV.tup [], h0)) :=
 bY (qS [1099989, 38] [1099994, 21, 1099978] [] [(4, 1, LV.tup [], h1), (7, 7, LV.tup [], h0), (8, 6, vI i0, Heap.nil)]) (tZ k0 (tZ k1 (tA k2 (tZ k3 (uF3 (tA k4 (tZ k5 (uT3 (tA t1 (tA tN (tA t0 (tA k6 (uT2 (tZ k7 (tR ((LV.tup [], h0))))))))))))))))) (by kernel_rfl)
theorem r99_10 (k0 : eqZ o (.ofNat 3) = false) (k1 : eqZ o (.ofNat 4) = false) (k2 : cA m 25 [vP L 0, vM bd, vI t, vI t] h = some (LV.tup [], h0)) (k3 : q = true) (k4 : ldP h0 (AV.ptr L 9) 1 false = some (aI i0)) (k5 : eqZ i0 (.ofNat 0) = true) (k6 : cA m 59 [vP L 0, vI t] h0 = some (LV.tup [], h2)) (k7 : cA m 25 [vP L 0, vM el, vI t, vI t] h2 = some (LV.tup [], h1)) :
  bB m 99 [vP L 0, vG (nC o a b v t l bd el q)] h = some ((LV.tup [], h1)) :=
 bY (qS [38, 1099983] [1099994, 1099989] [] [(7, 7, LV.tup [], h0), (8, 6, vI i0, Heap.nil), (9, 3, LV.tup [], h2), (10, 7, LV.tup [], h1)]) (tZ k0 (tZ k1 (tA k2 (tZ k3 (uT3 (tA t1 (tA tN (tA t0 (tA k4 (uT2 (tZ k5 (tA k6 (tA k7 (tR ((LV.tup [], h1)))))))))))))))) (by kernel_rfl)
theorem r99_11 (k0 : eqZ o (.ofNat 3) = false) (k1 : eqZ o (.ofNat 4) = false) (k2 : cA m 25 [vP L 0, vM bd, vI t, vI t] h = some (LV.tup [], h0)) (k3 : q = true) (k4 : ldP h0 (AV.ptr L 9) 1 false = some (aI i0)) (k5 : eqZ i0 (.ofNat 0) = false) :
  bB m 99 [vP L 0, vG (nC o a b v t l bd el q)] h = some ((LV.tup [], h0)) :=
 bY (qS [38] [1099994, 1099989, 1099983] [] [(7, 7, LV.tup [], h0), (8, 6, vI i0, Heap.nil)]) (tZ k0 (tZ k1 (tA k2 (tZ k3 (uT3 (tA t1 (tA tN (tA t0 (tA k4 (uT2 (tZ k5 (tR ((LV.tup [], h0)))))))))))))) (by kernel_rfl)
theorem r99_12 (k0 : eqZ o (.ofNat 3) = false) (k1 : eqZ o (.ofNat 4) = false) (k2 : cA m 25 [vP L 0, vM bd, vI t, vI t] h = some (LV.tup [], h0)) (k3 : q = false) :
  bB m 99 [vP L 0, vG (nC o a b v t l bd el q)] h = some ((LV.tup [], h0)) :=
 bY (qS [] [1099994, 1099989, 38] [] [(7, 7, LV.tup [], h0)]) (tZ k0 (tZ k1 (tA k2 (tZ k3 (uF5 (tR ((LV.tup [], h0)))))))) (by kernel_rfl)
theorem r106_0 (k0 : bA m 106 4 [vP L 0, LV.lp 0 0, vM allL, LV.lp 1 0, vI (.ofNat 0), vI o, vI a, vI b, LV.v (AV.int IntKind.u64 v), vI t, vM l, vM bd, vM el, vB q, vI (.ofNat 0), (vS { data := #[] }), vI (.ofNat 0), LV.ow 1 [], vI (.ofNat 0), vI (.ofNat 0), vB false] h = some r) :
  bB m 106 [vP L 0, vG (nC o a b v t l bd el q)] h = some r :=
 bY (qS [] [] [] []) (tA t1 (k0)) (by kernel_rfl)
theorem r106_4_1 (k0 : ltZ i (.ofNat rs.length) = true) (k1 : ixA (aM rs) i 5 = some [aI i0, aS s0, aI i1, aS s1, aI i2]) (k2 : eqZ i0 o = false) (k3 : bA m 106 4 [vP L 0, LV.lp 0 0, vM rs, LV.lp 1 0, vI (IntKind.wrap .i64 (i + Int.ofNat 1)), vI o, vI a, vI b, LV.v (AV.int IntKind.u64 v), vI t, vM l, vM bd, vM el, vB q, vI ob, vS on, vI ok, vM tk, vI gv, vI bz, vB sg] h = some r) :
  bA m 106 4 [vP L 0, .lp 0 0, vM rs, .lp 1 0, vI i, vI o, vI a, vI b, .v (.int .u64 v), vI t, vM l, vM bd, vM el, vB q, vI ob, vS on, vI ok, vM tk, vI gv, vI bz, vB sg] h = some r :=
 bY (qS [1099998] [1099992] [(6, 2, (LV.v (AV.snap [aI i0, aS s0, aI i1, aS s1, aI i2])))] []) (tZ k0 (tA (tA t0 (tA tN (k1))) (tZ k2 (tA t1 (k3))))) (by kernel_rfl)
theorem r106_4_2 (k0 : ltZ i (.ofNat rs.length) = false) (k1 : leZ (.ofNat 7) ok = true) (k2 : leZ ok (.ofNat 9) = true) (k3 : ldP h (AV.ptr L 4) 1 false = some (aB b0)) (k4 : (!b0) = true) (k5 : cA m 60 [vP L 0, vI (.ofNat 5)] h = some (LV.tup [], h0)) :
  bA m 106 4 [vP L 0, .lp 0 0, vM rs, .lp 1 0, vI i, vI o, vI a, vI b, .v (.int .u64 v), vI t, vM l, vM bd, vM el, vB q, vI ob, vS on, vI ok, vM tk, vI gv, vI bz, vB sg] h = some ((LV.tup [], h0)) :=
 bY (qS [32, 37, 1099993] [1099998] [] [(8, 13, vB b0, Heap.nil), (9, 1, LV.tup [], h0)]) (tZ k0 (tZ k1 (uT3 (tZ k2 (uT4 (tA t1 (tA tN (tA t0 (tA k3 (uT2 (tZ k4 (tA k5 (tR ((LV.tup [], h0))))))))))))))) (by kernel_rfl)
theorem r106_4_3 (k0 : ltZ i (.ofNat rs.length) = false) (k1 : leZ (.ofNat 7) ok = true) (k2 : leZ ok (.ofNat 9) = true) (k3 : ldP h (AV.ptr L 4) 1 false = some (aB b0)) (k4 : (!b0) = false) (k5 : eqZ ok (.ofNat 7) = true) (k6 : bA m 106 13 [vP L 0, LV.lp 0 0, LV.lp 1 0, vI (.ofNat 1), vI (.ofNat 0), vI o, vI a, vI b, LV.v (AV.int IntKind.u64 v), vI t, vM l, vM bd, vM el, vB q, vI ob, vS on, vI ok, vM tk, vI gv, vI bz, vB sg] h = some r) :
  bA m 106 4 [vP L 0, .lp 0 0, vM rs, .lp 1 0, vI i, vI o, vI a, vI b, .v (.int .u64 v), vI t, vM l, vM bd, vM el, vB q, vI ob, vS on, vI ok, vM tk, vI gv, vI bz, vB sg] h = some r :=
 bY (qS [32, 37, 50] [1099998, 1099993] [] [(8, 13, vB b0, Heap.nil)]) (tZ k0 (tZ k1 (uT3 (tZ k2 (uT4 (tA t1 (tA tN (tA t0 (tA k3 (uT2 (tZ k4 (tZ k5 (uT3 (tA t1 (k6))))))))))))))) (by kernel_rfl)
theorem r106_4_4 (k0 : ltZ i (.ofNat rs.length) = false) (k1 : leZ (.ofNat 7) ok = true) (k2 : leZ ok (.ofNat 9) = true) (k3 : ldP h (AV.ptr L 4) 1 false = some (aB b0)) (k4 : (!b0) = false) (k5 : eqZ ok (.ofNat 7) = false) (k6 : eqZ ok (.ofNat 8) = true) (k7 : bA m 106 13 [vP L 0, LV.lp 0 0, LV.lp 1 0, vI (.ofNat 1), vI (.ofNat 0), vI o, vI a, vI b, LV.v (AV.int IntKind.u64 v), vI t, vM l, vM bd, vM el, vB q, vI ob, vS on, vI ok, vM tk, vI gv, vI bz, vB sg] h = some r) :
  bA m 106 4 [vP L 0, .lp 0 0, vM rs, .lp 1 0, vI i, vI o, vI a, vI b, .v (.int .u64 v), vI t, vM l, vM bd, vM el, vB q, vI ob, vS on, vI ok, vM tk, vI gv, vI bz, vB sg] h = some r :=
 bY (qS [32, 37, 1099988] [1099998, 1099993, 50] [] [(8, 13, vB b0, Heap.nil)]) (tZ k0 (tZ k1 (uT3 (tZ k2 (uT4 (tA t1 (tA tN (tA t0 (tA k3 (uT2 (tZ k4 (tZ k5 (uF3 (tZ k6 (tA t1 (k7)))))))))))))))) (by kernel_rfl)
theorem r106_4_5 (k0 : ltZ i (.ofNat rs.length) = false) (k1 : leZ (.ofNat 7) ok = true) (k2 : leZ ok (.ofNat 9) = true) (k3 : ldP h (AV.ptr L 4) 1 false = some (aB b0)) (k4 : (!b0) = false) (k5 : eqZ ok (.ofNat 7) = false) (k6 : eqZ ok (.ofNat 8) = false) (k7 : cA m 124 [vP L 0, vM tk] h = some (LV.tup [], h1)) (k8 : cA m 61 [vP L 0, vI gv] h1 = some (LV.tup [], h0)) :
  bA m 106 4 [vP L 0, .lp 0 0, vM rs, .lp 1 0, vI i, vI o, vI a, vI b, .v (.int .u64 v), vI t, vM l, vM bd, vM el, vB q, vI ob, vS on, vI ok, vM tk, vI gv, vI bz, vB sg] h = some ((LV.tup [], h0)) :=
 bY (qS [32, 37] [1099998, 1099993, 50, 1099988] [] [(8, 13, vB b0, Heap.nil), (18, 3, LV.tup [], h1), (19, 3, LV.tup [], h0)]) (tZ k0 (tZ k1 (uT3 (tZ k2 (uT4 (tA t1 (tA tN (tA t0 (tA k3 (uT2 (tZ k4 (tZ k5 (uF3 (tZ k6 (tA k7 (tA k8 (tR ((LV.tup [], h0))))))))))))))))))) (by kernel_rfl)
theorem r106_4_8 (k0 : ltZ i (.ofNat rs.length) = false) (k1 : leZ (.ofNat 7) ok = true) (k2 : leZ ok (.ofNat 9) = false) (k3 : eqZ ok (.ofNat 7) = false) (k4 : eqZ ok (.ofNat 8) = false) (k5 : cA m 124 [vP L 0, vM tk] h = some (LV.tup [], h1)) (k6 : cA m 61 [vP L 0, vI gv] h1 = some (LV.tup [], h0)) :
  bA m 106 4 [vP L 0, .lp 0 0, vM rs, .lp 1 0, vI i, vI o, vI a, vI b, .v (.int .u64 v), vI t, vM l, vM bd, vM el, vB q, vI ob, vS on, vI ok, vM tk, vI gv, vI bz, vB sg] h = some ((LV.tup [], h0)) :=
 bY (qS [32] [1099998, 37, 50, 1099988] [] [(18, 3, LV.tup [], h1), (19, 3, LV.tup [], h0)]) (tZ k0 (tZ k1 (uT3 (tZ k2 (uF6 (tZ k3 (uF3 (tZ k4 (tA k5 (tA k6 (tR ((LV.tup [], h0))))))))))))) (by kernel_rfl)
theorem r106_4_11 (k0 : ltZ i (.ofNat rs.length) = false) (k1 : leZ (.ofNat 7) ok = false) (k2 : eqZ ok (.ofNat 7) = false) (k3 : eqZ ok (.ofNat 8) = false) (k4 : cA m 124 [vP L 0, vM tk] h = some (LV.tup [], h1)) (k5 : cA m 61 [vP L 0, vI gv] h1 = some (LV.tup [], h0)) :
  bA m 106 4 [vP L 0, .lp 0 0, vM rs, .lp 1 0, vI i, vI o, vI a, vI b, .v (.int .u64 v), vI t, vM l, vM bd, vM el, vB q, vI ob, vS on, vI ok, vM tk, vI gv, vI bz, vB sg] h = some ((LV.tup [], h0)) :=
 bY (qS [] [1099998, 32, 50, 1099988] [] [(18, 3, LV.tup [], h1), (19, 3, LV.tup [], h0)]) (tZ k0 (tZ k1 (uF3 (tZ k2 (uF3 (tZ k3 (tA k4 (tA k5 (tR ((LV.tup [], h0))))))))))) (by kernel_rfl)
theorem r106_13_0 (k0 : ltZ i a = true) (k1 : leZ z bz = true) (k2 : bA m 106 13 [vP L 0, LV.lp 0 0, LV.lp 1 0, vI (IntKind.wrap .i64 (z * Int.ofNat 2)), vI (IntKind.wrap .i64 (i + Int.ofNat 1)), vI o, vI a, vI b, LV.v (AV.int IntKind.u64 v), vI t, vM l, vM bd, vM el, vB q, vI ob, vS on, vI ok, vM tk, vI gv, vI bz, vB sg] h = some r) :
  bA m 106 13 [vP L 0, .lp 0 0, .lp 1 0, vI z, vI i, vI o, vI a, vI b, .v (.int .u64 v), vI t, vM l, vM bd, vM el, vB q, vI ob, vS on, vI ok, vM tk, vI gv, vI bz, vB sg] h = some r :=
 bY (qS [59, 1099998] [] [] []) (tZ k0 (uT4 (tZ k1 (tA t1 (k2))))) (by kernel_rfl)
theorem r106_13_1 (k0 : ltZ i a = true) (k1 : leZ z bz = false) (k2 : ltZ bz z = true) (k3 : cA m 60 [vP L 0, vI (.ofNat 4)] h = some (LV.tup [], h1)) (k4 : cA m 124 [vP L 0, vM tk] h1 = some (LV.tup [], h2)) (k5 : cA m 61 [vP L 0, vI gv] h2 = some (LV.tup [], h0)) :
  bA m 106 13 [vP L 0, .lp 0 0, .lp 1 0, vI z, vI i, vI o, vI a, vI b, .v (.int .u64 v), vI t, vM l, vM bd, vM el, vB q, vI ob, vS on, vI ok, vM tk, vI gv, vI bz, vB sg] h = some ((LV.tup [], h0)) :=
 bY (qS [59, 1099994] [1099998] [] [(17, 1, LV.tup [], h1), (18, 3, LV.tup [], h2), (19, 3, LV.tup [], h0)]) (tZ k0 (uT4 (tZ k1 (tZ k2 (tA k3 (tA k4 (tA k5 (tR ((LV.tup [], h0)))))))))) (by kernel_rfl)
theorem r106_13_3 (k0 : ltZ i a = false) (k1 : ltZ bz z = true) (k2 : cA m 60 [vP L 0, vI (.ofNat 4)] h = some (LV.tup [], h1)) (k3 : cA m 124 [vP L 0, vM tk] h1 = some (LV.tup [], h2)) (k4 : cA m 61 [vP L 0, vI gv] h2 = some (LV.tup [], h0)) :
  bA m 106 13 [vP L 0, .lp 0 0, .lp 1 0, vI z, vI i, vI o, vI a, vI b, .v (.int .u64 v), vI t, vM l, vM bd, vM el, vB q, vI ob, vS on, vI ok, vM tk, vI gv, vI bz, vB sg] h = some ((LV.tup [], h0)) :=
 bY (qS [1099994] [59] [] [(17, 1, LV.tup [], h1), (18, 3, LV.tup [], h2), (19, 3, LV.tup [], h0)]) (tZ k0 (uF4 (tZ k1 (tA k2 (tA k3 (tA k4 (tR ((LV.tup [], h0))))))))) (by kernel_rfl)
theorem r106_13_4 (k0 : ltZ i a = false) (k1 : ltZ bz z = false) (k2 : cA m 124 [vP L 0, vM tk] h = some (LV.tup [], h1)) (k3 : cA m 61 [vP L 0, vI gv] h1 = some (LV.tup [], h0)) :
  bA m 106 13 [vP L 0, .lp 0 0, .lp 1 0, vI z, vI i, vI o, vI a, vI b, .v (.int .u64 v), vI t, vM l, vM bd, vM el, vB q, vI ob, vS on, vI ok, vM tk, vI gv, vI bz, vB sg] h = some ((LV.tup [], h0)) :=
 bY (qS [] [59, 1099994] [] [(18, 3, LV.tup [], h1), (19, 3, LV.tup [], h0)]) (tZ k0 (uF4 (tZ k1 (tA k2 (tA k3 (tR ((LV.tup [], h0)))))))) (by kernel_rfl)
end Go.Proofs.YtoblgjmllmomhaaGreatDoor
namespace Go.Proofs.YtoblgjmllmomhaaGreatDoor
set_option maxRecDepth 100000
open Go Go.Proofs.Am
variable {m z o i a b v t i0 i1 i2 i3 i4 i5 : Int} {h h0 h1 : Heap} {r : LV × Heap} {rs xs l bd el l0 l1 l2 : LL} {q b0 b1 : Bool} {s0 s1 s2 s3 : ByteArray}
theorem r98_0 (k0 : leZ (.ofNat 0) z = true) :
  bB m 98 [vI z] h = some ((vB (leZ z (.ofNat 4294967295)), h)) :=
 bY (qS [5] [] [] []) (tZ k0 (uT2 (tR ((vB (leZ z (.ofNat 4294967295)), h))))) (by kernel_rfl)
theorem r98_1 (k0 : leZ (.ofNat 0) z = false) :
  bB m 98 [vI z] h = some ((vB false, h)) :=
 bY (qS [] [5] [] []) (tZ k0 (uF2 (tR ((vB false, h))))) (by kernel_rfl)
theorem r97_0 (k0 : bA m 97 3 [vI o, vM allL, vI (.ofNat 0)] h = some r) :
  bB m 97 [vI o] h = some r :=
 bY (qS [] [] [] []) (tA t1 (k0)) (by kernel_rfl)
theorem r97_3_0 (k0 : ltZ i (.ofNat rs.length) = true) (k1 : ixA (aM rs) i 5 = some [aI i1, aS s0, aI i2, aS s1, aI i3]) (k2 : eqZ i1 o = true) (k3 : ixA (aM rs) i 5 = some [aI i4, aS s2, aI i0, aS s3, aI i5]) :
  bA m 97 3 [vI o, vM rs, vI i] h = some ((vI i0, h)) :=
 bY (qS [1099998, 1099992] [] [(5, 2, (LV.v (AV.snap [aI i1, aS s0, aI i2, aS s1, aI i3]))), (6, 2, (LV.v (AV.snap [aI i4, aS s2, aI i0, aS s3, aI i5])))] []) (tZ k0 (tA (tA t0 (tA tN (k1))) (tZ k2 (tA (tA t0 (tA tN (k3))) (tR ((vI i0, h))))))) (by kernel_rfl)
theorem r97_3_1 (k0 : ltZ i (.ofNat rs.length) = true) (k1 : ixA (aM rs) i 5 = some [aI i0, aS s0, aI i1, aS s1, aI i2]) (k2 : eqZ i0 o = false) (k3 : bA m 97 3 [vI o, vM rs, vI (IntKind.wrap .i64 (i + Int.ofNat 1))] h = some r) :
  bA m 97 3 [vI o, vM rs, vI i] h = some r :=
 bY (qS [1099998] [1099992] [(5, 2, (LV.v (AV.snap [aI i0, aS s0, aI i1, aS s1, aI i2])))] []) (tZ k0 (tA (tA t0 (tA tN (k1))) (tZ k2 (tA t1 (k3))))) (by kernel_rfl)
theorem r97_3_2 (k0 : ltZ i (.ofNat rs.length) = false) :
  bA m 97 3 [vI o, vM rs, vI i] h = some ((vI (.ofNat 0), h)) :=
 bY (qS [] [1099998] [] []) (tZ k0 (tR ((vI (.ofNat 0), h)))) (by kernel_rfl)
theorem r23_0 (k0 : bA m 23 2 [vM xs, vI (.ofNat 0)] h = some r) :
  bB m 23 [vM xs] h = some r :=
 bY (qS [] [] [] []) (tA t1 (k0)) (by kernel_rfl)
theorem r23_2_0 (k0 : ltZ i (.ofNat xs.length) = true) (k1 : ixA (aM xs) i 9 = some (nC i0 i1 i2 i3 i4 l0 l1 l2 b1)) (k2 : cA m 56 [vG (nC i0 i1 i2 i3 i4 l0 l1 l2 b1)] h = some (vB b0, h0)) (k3 : (!b0) = true) :
  bA m 23 2 [vM xs, vI i] h = some ((vB false, h0)) :=
 bY (qS [1099998, 1099990] [] [(4, 2, (LV.v (AV.snap (nC i0 i1 i2 i3 i4 l0 l1 l2 b1))))] [(4, 4, vB b0, h0)]) (tZ k0 (tA (tA t0 (tA tN (k1))) (tA k2 (tZ k3 (tR ((vB false, h0))))))) (by kernel_rfl)
theorem r23_2_1 (k0 : ltZ i (.ofNat xs.length) = true) (k1 : ixA (aM xs) i 9 = some (nC i0 i1 i2 i3 i4 l0 l1 l2 b1)) (k2 : cA m 56 [vG (nC i0 i1 i2 i3 i4 l0 l1 l2 b1)] h = some (vB b0, h0)) (k3 : (!b0) = false) (k4 : bA m 23 2 [vM xs, vI (IntKind.wrap .i64 (i + Int.ofNat 1))] h0 = some r) :
  bA m 23 2 [vM xs, vI i] h = some r :=
 bY (qS [1099998] [1099990] [(4, 2, (LV.v (AV.snap (nC i0 i1 i2 i3 i4 l0 l1 l2 b1))))] [(4, 4, vB b0, h0)]) (tZ k0 (tA (tA t0 (tA tN (k1))) (tA k2 (tZ k3 (tA t1 (k4)))))) (by kernel_rfl)
theorem r23_2_2 (k0 : ltZ i (.ofNat xs.length) = false) :
  bA m 23 2 [vM xs, vI i] h = some ((vB true, h)) :=
 bY (qS [] [1099998] [] []) (tZ k0 (tR ((vB true, h)))) (by kernel_rfl)
theorem r56_10_0 (k0 : ltZ i (.ofNat l.length) = true) (k1 : ixA (aM l) i 1 = some [aI i0]) (k2 : cA m 98 [vI i0] h = some (vB b0, h0)) (k3 : (!b0) = true) :
  bA m 56 10 [.lp 0 0, vI i, vI o, vI a, vI b, .v (.int .u64 v), vI t, vM l, vM bd, vM el, vB q] h = some ((vB false, h0)) :=
 bY (qS [1099998, 1099990] [] [(12, 3, (LV.v (AV.snap [aI i0])))] [(12, 5, vB b0, h0)]) (tZ k0 (tA (tA t0 (tA tN (k1))) (tA k2 (tZ k3 (tR ((vB false, h0))))))) (by kernel_rfl)
theorem r56_10_1 (k0 : ltZ i (.ofNat l.length) = true) (k1 : ixA (aM l) i 1 = some [aI i0]) (k2 : cA m 98 [vI i0] h = some (vB b0, h0)) (k3 : (!b0) = false) (k4 : bA m 56 10 [LV.lp 0 0, vI (IntKind.wrap .i64 (i + Int.ofNat 1)), vI o, vI a, vI b, LV.v (AV.int IntKind.u64 v), vI t, vM l, vM bd, vM el, vB q] h0 = some r) :
  bA m 56 10 [.lp 0 0, vI i, vI o, vI a, vI b, .v (.int .u64 v), vI t, vM l, vM bd, vM el, vB q] h = some r :=
 bY (qS [1099998] [1099990] [(12, 3, (LV.v (AV.snap [aI i0])))] [(12, 5, vB b0, h0)]) (tZ k0 (tA (tA t0 (tA tN (k1))) (tA k2 (tZ k3 (tA t1 (k4)))))) (by kernel_rfl)
theorem r56_10_2 (k0 : ltZ i (.ofNat l.length) = false) (k1 : cA m 23 [vM bd] h = some (vB b1, h1)) (k2 : b1 = true) (k3 : cA m 23 [vM el] h1 = some (vB b0, h0)) :
  bA m 56 10 [.lp 0 0, vI i, vI o, vI a, vI b, .v (.int .u64 v), vI t, vM l, vM bd, vM el, vB q] h = some ((vB b0, h0)) :=
 bY (qS [176] [1099998] [] [(15, 2, vB b1, h1), (15, 6, vB b0, h0)]) (tZ k0 (tA k1 (tZ k2 (uT2 (tA k3 (tA tT (tR ((vB b0, h0))))))))) (by kernel_rfl)
theorem r56_10_3 (k0 : ltZ i (.ofNat l.length) = false) (k1 : cA m 23 [vM bd] h = some (vB b0, h0)) (k2 : b0 = false) :
  bA m 56 10 [.lp 0 0, vI i, vI o, vI a, vI b, .v (.int .u64 v), vI t, vM l, vM bd, vM el, vB q] h = some ((vB false, h0)) :=
 bY (qS [] [1099998, 176] [] [(15, 2, vB b0, h0)]) (tZ k0 (tA k1 (tZ k2 (uF3 (tR ((vB false, h0))))))) (by kernel_rfl)
end Go.Proofs.YtoblgjmllmomhaaGreatDoor
namespace Go.Proofs.YtoblgjmllmomhaaGreatDoor
set_option maxRecDepth 100000
open Go Go.Proofs.Am
variable {m i o a b v t i0 i1 i2 i3 i4 i5 i6 i7 i8 i9 : Int} {L : Nat} {rs l bd el l0 : LL} {q b0 : Bool} {h h0 h1 : Heap} {r : LV × Heap} {s0 s1 s2 s3 s4 : ByteArray}
theorem r106_4o_0 (k0 : ltZ i (.ofNat rs.length) = true) (k1 : ixA (aM rs) i 5 = some [aI i0, aS s3, aI i8, aS s4, aI i9]) (k2 : eqZ i0 o = true) (k3 : ixA (aM rs) i 5 = some [aI i1, aS s0, aI i2, aS s1, aI i3]) (k4 : cA m 125 [vG [aI i1, aS s0, aI i2, aS s1, aI i3]] h = some (vG [aI i4, aS s2, aI i5, aM l0, aI i6, aI i7, aB b0], h0)) (k5 : bA m 106 4 [vP L 0, LV.lp 0 0, vM rs, LV.lp 1 0, vI (IntKind.wrap .i64 (i + Int.ofNat 1)), vI o, vI a, vI b, LV.v (AV.int IntKind.u64 v), vI t, vM l, vM bd, vM el, vB q, vI i4, vS s2, vI i5, vM l0, vI i6, vI i7, vB b0] h0 = some r) :
  bA m 106 4 [vP L 0, .lp 0 0, vM rs, .lp 1 0, vI i, vI o, vI a, vI b, .v (.int .u64 v), vI t, vM l, vM bd, vM el, vB q, vI (.ofNat 0), vS ⟨#[]⟩, vI (.ofNat 0), .ow 1 [], vI (.ofNat 0), vI (.ofNat 0), vB false] h = some r :=
 bY (qS [1099998, 1099992] [] [(6, 2, (LV.v (AV.snap [aI i0, aS s3, aI i8, aS s4, aI i9]))), (7, 2, (LV.v (AV.snap [aI i1, aS s0, aI i2, aS s1, aI i3])))] [(7, 4, vG [aI i4, aS s2, aI i5, aM l0, aI i6, aI i7, aB b0], h0)]) (tZ k0 (tA (tA t0 (tA tN (k1))) (tZ k2 (tA (tA t0 (tA tN (k3))) (tA k4 (tA t1 (k5))))))) (by kernel_rfl)
theorem r106_4o_1 (k0 : ltZ i (.ofNat rs.length) = true) (k1 : ixA (aM rs) i 5 = some [aI i0, aS s0, aI i1, aS s1, aI i2]) (k2 : eqZ i0 o = false) (k3 : bA m 106 4 [vP L 0, LV.lp 0 0, vM rs, LV.lp 1 0, vI (IntKind.wrap .i64 (i + Int.ofNat 1)), vI o, vI a, vI b, LV.v (AV.int IntKind.u64 v), vI t, vM l, vM bd, vM el, vB q, vI (.ofNat 0), (vS { data := #[] }), vI (.ofNat 0), LV.ow 1 [], vI (.ofNat 0), vI (.ofNat 0), vB false] h = some r) :
  bA m 106 4 [vP L 0, .lp 0 0, vM rs, .lp 1 0, vI i, vI o, vI a, vI b, .v (.int .u64 v), vI t, vM l, vM bd, vM el, vB q, vI (.ofNat 0), vS ⟨#[]⟩, vI (.ofNat 0), .ow 1 [], vI (.ofNat 0), vI (.ofNat 0), vB false] h = some r :=
 bY (qS [1099998] [1099992] [(6, 2, (LV.v (AV.snap [aI i0, aS s0, aI i1, aS s1, aI i2])))] []) (tZ k0 (tA (tA t0 (tA tN (k1))) (tZ k2 (tA t1 (k3))))) (by kernel_rfl)
end Go.Proofs.YtoblgjmllmomhaaGreatDoor
namespace Go.Proofs.YtoblgjmllmomhaaGreatDoor
set_option maxRecDepth 100000
open Go Go.Proofs.Am
variable {m o a b v t i0 i1 i2 : Int} {L : Nat} {l bd el l0 l1 : LL} {q b0 : Bool} {h h0 h1 h2 h3 h4 h5 : Heap}
theorem r58_0 (k0 : cA m 97 [vI o] h = some (vI i0, h1)) (k1 : eqZ i0 (.ofNat 2) = true) (k2 : cA m 99 [vP L 0, vG (nC o a b v t l bd el q)] h1 = some (LV.tup [], h0)) :
  bB m 58 [vP L 0, vG (nC o a b v t l bd el q)] h = some ((LV.tup [], h0)) :=
 bY (qS [1099992] [] [] [(1, 2, vI i0, h1), (4, 2, LV.tup [], h0)]) (tA k0 (tZ k1 (tA k2 (tR ((LV.tup [], h0)))))) (by kernel_rfl)
theorem r58_1 (k0 : cA m 97 [vI o] h = some (vI i0, h1)) (k1 : eqZ i0 (.ofNat 2) = false) (k2 : eqZ o (.ofNat 0) = true) (k3 : cA m 100 [vP L 0] h1 = some (LV.tup [], h0)) :
  bB m 58 [vP L 0, vG (nC o a b v t l bd el q)] h = some ((LV.tup [], h0)) :=
 bY (qS [1099989] [1099992] [] [(1, 2, vI i0, h1), (6, 1, LV.tup [], h0)]) (tA k0 (tZ k1 (tZ k2 (tA k3 (tR ((LV.tup [], h0))))))) (by kernel_rfl)
theorem r58_2 (k0 : cA m 97 [vI o] h = some (vI i0, h1)) (k1 : eqZ i0 (.ofNat 2) = false) (k2 : eqZ o (.ofNat 0) = false) (k3 : eqZ o (.ofNat 12) = true) (k4 : cA m 101 [vP L 0, vI a] h1 = some (LV.tup [aI i1, aB b0], h0)) (k5 : (!b0) = true) :
  bB m 58 [vP L 0, vG (nC o a b v t l bd el q)] h = some ((LV.tup [], h0)) :=
 bY (qS [31, 1099980] [1099992, 1099989] [] [(1, 2, vI i0, h1), (8, 3, LV.tup [aI i1, aB b0], h0)]) (tA k0 (tZ k1 (tZ k2 (tZ k3 (uT3 (tA k4 (tZ k5 (tR ((LV.tup [], h0)))))))))) (by kernel_rfl)
theorem r58_4 (k0 : cA m 97 [vI o] h = some (vI i0, h1)) (k1 : eqZ i0 (.ofNat 2) = false) (k2 : eqZ o (.ofNat 0) = false) (k3 : eqZ o (.ofNat 12) = true) (k4 : cA m 101 [vP L 0, vI a] h1 = some (LV.tup [aI i1, aB b0], h2)) (k5 : (!b0) = false) (k6 : eqZ o (.ofNat 13) = false) (k7 : cA m 59 [vP L 0, vI i1] h2 = some (LV.tup [], h3)) (k8 : cA m 100 [vP L 0] h3 = some (LV.tup [], h0)) :
  bB m 58 [vP L 0, vG (nC o a b v t l bd el q)] h = some ((LV.tup [], h0)) :=
 bY (qS [31] [1099992, 1099989, 1099980, 1099976] [] [(1, 2, vI i0, h1), (8, 3, LV.tup [aI i1, aB b0], h2), (14, 2, LV.tup [], h3), (15, 1, LV.tup [], h0)]) (tA k0 (tZ k1 (tZ k2 (tZ k3 (uT3 (tA k4 (tZ k5 (tZ k6 (tA k7 (tA k8 (tR ((LV.tup [], h0))))))))))))) (by kernel_rfl)
theorem r58_5 (k0 : cA m 97 [vI o] h = some (vI i0, h1)) (k1 : eqZ i0 (.ofNat 2) = false) (k2 : eqZ o (.ofNat 0) = false) (k3 : eqZ o (.ofNat 12) = false) (k4 : eqZ o (.ofNat 13) = true) (k5 : cA m 101 [vP L 0, vI a] h1 = some (LV.tup [aI i1, aB b0], h0)) (k6 : (!b0) = true) :
  bB m 58 [vP L 0, vG (nC o a b v t l bd el q)] h = some ((LV.tup [], h0)) :=
 bY (qS [1099986, 1099980] [1099992, 1099989, 31] [] [(1, 2, vI i0, h1), (8, 3, LV.tup [aI i1, aB b0], h0)]) (tA k0 (tZ k1 (tZ k2 (tZ k3 (uF3 (tZ k4 (tA k5 (tZ k6 (tR ((LV.tup [], h0))))))))))) (by kernel_rfl)
theorem r58_6 (k0 : cA m 97 [vI o] h = some (vI i0, h1)) (k1 : eqZ i0 (.ofNat 2) = false) (k2 : eqZ o (.ofNat 0) = false) (k3 : eqZ o (.ofNat 12) = false) (k4 : eqZ o (.ofNat 13) = true) (k5 : cA m 101 [vP L 0, vI a] h1 = some (LV.tup [aI i1, aB b0], h2)) (k6 : (!b0) = false) (k7 : cA m 59 [vP L 0, vI (.ofNat 1)] h2 = some (LV.tup [], h3)) (k8 : cA m 59 [vP L 0, vI i1] h3 = some (LV.tup [], h4)) (k9 : cA m 61 [vP L 0, vI i1] h4 = some (LV.tup [], h0)) :
  bB m 58 [vP L 0, vG (nC o a b v t l bd el q)] h = some ((LV.tup [], h0)) :=
 bY (qS [1099986, 1099976] [1099992, 1099989, 31, 1099980] [] [(1, 2, vI i0, h1), (8, 3, LV.tup [aI i1, aB b0], h2), (11, 1, LV.tup [], h3), (12, 2, LV.tup [], h4), (13, 2, LV.tup [], h0)]) (tA k0 (tZ k1 (tZ k2 (tZ k3 (uF3 (tZ k4 (tA k5 (tZ k6 (tZ k4 (tA k7 (tA k8 (tA k9 (tR ((LV.tup [], h0))))))))))))))) (by kernel_rfl)
theorem r58_8 (k0 : cA m 97 [vI o] h = some (vI i0, h1)) (k1 : eqZ i0 (.ofNat 2) = false) (k2 : eqZ o (.ofNat 0) = false) (k3 : eqZ o (.ofNat 12) = false) (k4 : eqZ o (.ofNat 13) = false) (k5 : eqZ o (.ofNat 14) = true) (k6 : cA m 102 [vP L 0, vG (nC o a b v t l bd el q)] h1 = some (LV.tup [], h0)) :
  bB m 58 [vP L 0, vG (nC o a b v t l bd el q)] h = some ((LV.tup [], h0)) :=
 bY (qS [1099983] [1099992, 1099989, 31, 1099986] [] [(1, 2, vI i0, h1), (17, 2, LV.tup [], h0)]) (tA k0 (tZ k1 (tZ k2 (tZ k3 (uF3 (tZ k4 (tZ k5 (tA k6 (tR ((LV.tup [], h0))))))))))) (by kernel_rfl)
theorem r58_9 (k0 : cA m 97 [vI o] h = some (vI i0, h0)) (k1 : eqZ i0 (.ofNat 2) = false) (k2 : eqZ o (.ofNat 0) = false) (k3 : eqZ o (.ofNat 12) = false) (k4 : eqZ o (.ofNat 13) = false) (k5 : eqZ o (.ofNat 14) = false) (k6 : eqZ o (.ofNat 15) = true) (k7 : ldP h0 (AV.ptr L 6) 1 false = some (aI i1)) (k8 : cA m 59 [vP L 0, vI i1] h0 = some (LV.tup [], h2)) (k9 : cA m 100 [vP L 0] h2 = some (LV.tup [], h1)) :
  bB m 58 [vP L 0, vG (nC o a b v t l bd el q)] h = some ((LV.tup [], h1)) :=
 bY (qS [1099980] [1099992, 1099989, 31, 1099986, 1099983] [] [(1, 2, vI i0, h0), (19, 5, vI i1, Heap.nil), (19, 6, LV.tup [], h2), (20, 1, LV.tup [], h1)]) (tA k0 (tZ k1 (tZ k2 (tZ k3 (uF3 (tZ k4 (tZ k5 (tZ k6 (tA t1 (tA tN (tA t0 (tA k7 (tA k8 (tA k9 (tR ((LV.tup [], h1))))))))))))))))) (by kernel_rfl)
theorem r58_10 (k0 : cA m 97 [vI o] h = some (vI i0, h0)) (k1 : eqZ i0 (.ofNat 2) = false) (k2 : eqZ o (.ofNat 0) = false) (k3 : eqZ o (.ofNat 12) = false) (k4 : eqZ o (.ofNat 13) = false) (k5 : eqZ o (.ofNat 14) = false) (k6 : eqZ o (.ofNat 15) = false) (k7 : eqZ o (.ofNat 16) = true) (k8 : ldP h0 (AV.ptr L 1) 1 false = some (aM l0)) (k9 : leZ (.ofNat l0.length) a = true) (k10 : cA m 60 [vP L 0, vI (.ofNat 5)] h0 = some (LV.tup [], h1)) :
  bB m 58 [vP L 0, vG (nC o a b v t l bd el q)] h = some ((LV.tup [], h1)) :=
 bY (qS [1099977, 1099973] [1099992, 1099989, 31, 1099986, 1099983, 1099980] [] [(1, 2, vI i0, h0), (22, 6, vM l0, Heap.nil), (23, 1, LV.tup [], h1)]) (tA k0 (tZ k1 (tZ k2 (tZ k3 (uF3 (tZ k4 (tZ k5 (tZ k6 (tZ k7 (tA t1 (tA tN (tA t0 (tA k8 (tZ k9 (tA k10 (tR ((LV.tup [], h1)))))))))))))))))) (by kernel_rfl)
theorem r58_11 (k0 : cA m 97 [vI o] h = some (vI i0, h0)) (k1 : eqZ i0 (.ofNat 2) = false) (k2 : eqZ o (.ofNat 0) = false) (k3 : eqZ o (.ofNat 12) = false) (k4 : eqZ o (.ofNat 13) = false) (k5 : eqZ o (.ofNat 14) = false) (k6 : eqZ o (.ofNat 15) = false) (k7 : eqZ o (.ofNat 16) = true) (k8 : ldP h0 (AV.ptr L 1) 1 false = some (aM l0)) (k9 : leZ (.ofNat l0.length) a = false) (k10 : ldP h0 (AV.ptr L 1) 1 false = some (aM l1)) (k11 : ixA (aM l1) a 1 = some [aI i1]) (k12 : cA m 103 [vP L 0, vI i1, vB false] h0 = some (LV.tup [], h1)) :
  bB m 58 [vP L 0, vG (nC o a b v t l bd el q)] h = some ((LV.tup [], h1)) :=
 bY (qS [1099977] [1099992, 1099989, 31, 1099986, 1099983, 1099980, 1099973] [(24, 8, (LV.v (AV.snap [aI i1])))] [(1, 2, vI i0, h0), (22, 6, vM l0, Heap.nil), (24, 5, vM l1, Heap.nil), (24, 10, LV.tup [], h1)]) (tA k0 (tZ k1 (tZ k2 (tZ k3 (uF3 (tZ k4 (tZ k5 (tZ k6 (tZ k7 (tA t1 (tA tN (tA t0 (tA k8 (tZ k9 (tA t1 (tA tN (tA t0 (tA k10 (tA (tA t0 (tA tN (k11))) (tA k12 (tR ((LV.tup [], h1))))))))))))))))))))))) (by kernel_rfl)
theorem r58_12 (k0 : cA m 97 [vI o] h = some (vI i0, h1)) (k1 : eqZ i0 (.ofNat 2) = false) (k2 : eqZ o (.ofNat 0) = false) (k3 : eqZ o (.ofNat 12) = false) (k4 : eqZ o (.ofNat 13) = false) (k5 : eqZ o (.ofNat 14) = false) (k6 : eqZ o (.ofNat 15) = false) (k7 : eqZ o (.ofNat 16) = false) (k8 : eqZ o (.ofNat 17) = true) (k9 : cA m 103 [vP L 0, vI a, vB true] h1 = some (LV.tup [], h0)) :
  bB m 58 [vP L 0, vG (nC o a b v t l bd el q)] h = some ((LV.tup [], h0)) :=
 bY (qS [1099974] [1099992, 1099989, 31, 1099986, 1099983, 1099980, 1099977] [] [(1, 2, vI i0, h1), (26, 3, LV.tup [], h0)]) (tA k0 (tZ k1 (tZ k2 (tZ k3 (uF3 (tZ k4 (tZ k5 (tZ k6 (tZ k7 (tZ k8 (tA k9 (tR ((LV.tup [], h0)))))))))))))) (by kernel_rfl)
theorem r58_13 (k0 : cA m 97 [vI o] h = some (vI i0, h1)) (k1 : eqZ i0 (.ofNat 2) = false) (k2 : eqZ o (.ofNat 0) = false) (k3 : eqZ o (.ofNat 12) = false) (k4 : eqZ o (.ofNat 13) = false) (k5 : eqZ o (.ofNat 14) = false) (k6 : eqZ o (.ofNat 15) = false) (k7 : eqZ o (.ofNat 16) = false) (k8 : eqZ o (.ofNat 17) = false) (k9 : eqZ o (.ofNat 26) = true) (k10 : cA m 104 [vP L 0] h1 = some (vI i1, h0)) :
  bB m 58 [vP L 0, vG (nC o a b v t l bd el q)] h = some ((LV.tup [], h0)) :=
 bY (qS [1099971] [1099992, 1099989, 31, 1099986, 1099983, 1099980, 1099977, 1099974] [] [(1, 2, vI i0, h1), (28, 1, vI i1, h0)]) (tA k0 (tZ k1 (tZ k2 (tZ k3 (uF3 (tZ k4 (tZ k5 (tZ k6 (tZ k7 (tZ k8 (tZ k9 (tA k10 (tR ((LV.tup [], h0))))))))))))))) (by kernel_rfl)
theorem r58_14 (k0 : cA m 97 [vI o] h = some (vI i2, h1)) (k1 : eqZ i2 (.ofNat 2) = false) (k2 : eqZ o (.ofNat 0) = false) (k3 : eqZ o (.ofNat 12) = false) (k4 : eqZ o (.ofNat 13) = false) (k5 : eqZ o (.ofNat 14) = false) (k6 : eqZ o (.ofNat 15) = false) (k7 : eqZ o (.ofNat 16) = false) (k8 : eqZ o (.ofNat 17) = false) (k9 : eqZ o (.ofNat 26) = false) (k10 : eqZ o (.ofNat 27) = true) (k11 : cA m 59 [vP L 0, vI (.ofNat 1)] h1 = some (LV.tup [], h2)) (k12 : cA m 104 [vP L 0] h2 = some (vI i1, h3)) (k13 : cA m 104 [vP L 0] h3 = some (vI i0, h4)) (k14 : leZ (.ofNat 0) i1 = true) (k15 : leZ (.ofNat 0) i0 = true) (k16 : (!eqZ i1 i0) = true) (k17 : cA m 60 [vP L 0, vI (.ofNat 4)] h4 = some (LV.tup [], h5)) (k18 : cA m 61 [vP L 0, vI i0] h5 = some (LV.tup [], h0)) :
  bB m 58 [vP L 0, vG (nC o a b v t l bd el q)] h = some ((LV.tup [], h0)) :=
 bY (qS [1099968, 133, 137, 1099958, 1099953] [1099992, 1099989, 31, 1099986, 1099983, 1099980, 1099977, 1099974, 1099971] [] [(1, 2, vI i2, h1), (30, 1, LV.tup [], h2), (31, 1, vI i1, h3), (32, 1, vI i0, h4), (34, 1, LV.tup [], h5), (37, 2, LV.tup [], h0)]) (tA k0 (tZ k1 (tZ k2 (tZ k3 (uF3 (tZ k4 (tZ k5 (tZ k6 (tZ k7 (tZ k8 (tZ k9 (tZ k10 (tA k11 (tA k12 (tA k13 (tZ k14 (uT2 (tZ k15 (uT3 (tZ k16 (tA k17 (tZ k15 (tA k18 (tR ((LV.tup [], h0)))))))))))))))))))))))))) (by kernel_rfl)
theorem r58_16 (k0 : cA m 97 [vI o] h = some (vI i2, h1)) (k1 : eqZ i2 (.ofNat 2) = false) (k2 : eqZ o (.ofNat 0) = false) (k3 : eqZ o (.ofNat 12) = false) (k4 : eqZ o (.ofNat 13) = false) (k5 : eqZ o (.ofNat 14) = false) (k6 : eqZ o (.ofNat 15) = false) (k7 : eqZ o (.ofNat 16) = false) (k8 : eqZ o (.ofNat 17) = false) (k9 : eqZ o (.ofNat 26) = false) (k10 : eqZ o (.ofNat 27) = true) (k11 : cA m 59 [vP L 0, vI (.ofNat 1)] h1 = some (LV.tup [], h2)) (k12 : cA m 104 [vP L 0] h2 = some (vI i1, h3)) (k13 : cA m 104 [vP L 0] h3 = some (vI i0, h4)) (k14 : leZ (.ofNat 0) i1 = true) (k15 : leZ (.ofNat 0) i0 = true) (k16 : (!eqZ i1 i0) = false) (k17 : cA m 61 [vP L 0, vI i0] h4 = some (LV.tup [], h0)) :
  bB m 58 [vP L 0, vG (nC o a b v t l bd el q)] h = some ((LV.tup [], h0)) :=
 bY (qS [1099968, 133, 137, 1099953] [1099992, 1099989, 31, 1099986, 1099983, 1099980, 1099977, 1099974, 1099971, 1099958] [] [(1, 2, vI i2, h1), (30, 1, LV.tup [], h2), (31, 1, vI i1, h3), (32, 1, vI i0, h4), (37, 2, LV.tup [], h0)]) (tA k0 (tZ k1 (tZ k2 (tZ k3 (uF3 (tZ k4 (tZ k5 (tZ k6 (tZ k7 (tZ k8 (tZ k9 (tZ k10 (tA k11 (tA k12 (tA k13 (tZ k14 (uT2 (tZ k15 (uT3 (tZ k16 (tZ k15 (tA k17 (tR ((LV.tup [], h0))))))))))))))))))))))))) (by kernel_rfl)
theorem r58_19 (k0 : cA m 97 [vI o] h = some (vI i1, h1)) (k1 : eqZ i1 (.ofNat 2) = false) (k2 : eqZ o (.ofNat 0) = false) (k3 : eqZ o (.ofNat 12) = false) (k4 : eqZ o (.ofNat 13) = false) (k5 : eqZ o (.ofNat 14) = false) (k6 : eqZ o (.ofNat 15) = false) (k7 : eqZ o (.ofNat 16) = false) (k8 : eqZ o (.ofNat 17) = false) (k9 : eqZ o (.ofNat 26) = false) (k10 : eqZ o (.ofNat 27) = true) (k11 : cA m 59 [vP L 0, vI (.ofNat 1)] h1 = some (LV.tup [], h2)) (k12 : cA m 104 [vP L 0] h2 = some (vI i0, h3)) (k13 : cA m 104 [vP L 0] h3 = some (vI i2, h4)) (k14 : leZ (.ofNat 0) i0 = true) (k15 : leZ (.ofNat 0) i2 = false) (k16 : cA m 61 [vP L 0, vI i0] h4 = some (LV.tup [], h0)) :
  bB m 58 [vP L 0, vG (nC o a b v t l bd el q)] h = some ((LV.tup [], h0)) :=
 bY (qS [1099968, 133] [1099992, 1099989, 31, 1099986, 1099983, 1099980, 1099977, 1099974, 1099971, 137, 1099953] [] [(1, 2, vI i1, h1), (30, 1, LV.tup [], h2), (31, 1, vI i0, h3), (32, 1, vI i2, h4), (37, 2, LV.tup [], h0)]) (tA k0 (tZ k1 (tZ k2 (tZ k3 (uF3 (tZ k4 (tZ k5 (tZ k6 (tZ k7 (tZ k8 (tZ k9 (tZ k10 (tA k11 (tA k12 (tA k13 (tZ k14 (uT2 (tZ k15 (uF3 (tZ k15 (tA k16 (tR ((LV.tup [], h0)))))))))))))))))))))))) (by kernel_rfl)
theorem r58_20 (k0 : cA m 97 [vI o] h = some (vI i1, h1)) (k1 : eqZ i1 (.ofNat 2) = false) (k2 : eqZ o (.ofNat 0) = false) (k3 : eqZ o (.ofNat 12) = false) (k4 : eqZ o (.ofNat 13) = false) (k5 : eqZ o (.ofNat 14) = false) (k6 : eqZ o (.ofNat 15) = false) (k7 : eqZ o (.ofNat 16) = false) (k8 : eqZ o (.ofNat 17) = false) (k9 : eqZ o (.ofNat 26) = false) (k10 : eqZ o (.ofNat 27) = true) (k11 : cA m 59 [vP L 0, vI (.ofNat 1)] h1 = some (LV.tup [], h2)) (k12 : cA m 104 [vP L 0] h2 = some (vI i2, h3)) (k13 : cA m 104 [vP L 0] h3 = some (vI i0, h4)) (k14 : leZ (.ofNat 0) i2 = false) (k15 : leZ (.ofNat 0) i0 = true) (k16 : cA m 61 [vP L 0, vI i0] h4 = some (LV.tup [], h0)) :
  bB m 58 [vP L 0, vG (nC o a b v t l bd el q)] h = some ((LV.tup [], h0)) :=
 bY (qS [1099968, 1099953] [1099992, 1099989, 31, 1099986, 1099983, 1099980, 1099977, 1099974, 1099971, 133] [] [(1, 2, vI i1, h1), (30, 1, LV.tup [], h2), (31, 1, vI i2, h3), (32, 1, vI i0, h4), (37, 2, LV.tup [], h0)]) (tA k0 (tZ k1 (tZ k2 (tZ k3 (uF3 (tZ k4 (tZ k5 (tZ k6 (tZ k7 (tZ k8 (tZ k9 (tZ k10 (tA k11 (tA k12 (tA k13 (tZ k14 (uF2 (tZ k15 (tA k16 (tR ((LV.tup [], h0)))))))))))))))))))))) (by kernel_rfl)
theorem r58_21 (k0 : cA m 97 [vI o] h = some (vI i1, h1)) (k1 : eqZ i1 (.ofNat 2) = false) (k2 : eqZ o (.ofNat 0) = false) (k3 : eqZ o (.ofNat 12) = false) (k4 : eqZ o (.ofNat 13) = false) (k5 : eqZ o (.ofNat 14) = false) (k6 : eqZ o (.ofNat 15) = false) (k7 : eqZ o (.ofNat 16) = false) (k8 : eqZ o (.ofNat 17) = false) (k9 : eqZ o (.ofNat 26) = false) (k10 : eqZ o (.ofNat 27) = true) (k11 : cA m 59 [vP L 0, vI (.ofNat 1)] h1 = some (LV.tup [], h2)) (k12 : cA m 104 [vP L 0] h2 = some (vI i0, h3)) (k13 : cA m 104 [vP L 0] h3 = some (vI i2, h4)) (k14 : leZ (.ofNat 0) i0 = false) (k15 : leZ (.ofNat 0) i2 = false) (k16 : cA m 61 [vP L 0, vI i0] h4 = some (LV.tup [], h0)) :
  bB m 58 [vP L 0, vG (nC o a b v t l bd el q)] h = some ((LV.tup [], h0)) :=
 bY (qS [1099968] [1099992, 1099989, 31, 1099986, 1099983, 1099980, 1099977, 1099974, 1099971, 133, 1099953] [] [(1, 2, vI i1, h1), (30, 1, LV.tup [], h2), (31, 1, vI i0, h3), (32, 1, vI i2, h4), (37, 2, LV.tup [], h0)]) (tA k0 (tZ k1 (tZ k2 (tZ k3 (uF3 (tZ k4 (tZ k5 (tZ k6 (tZ k7 (tZ k8 (tZ k9 (tZ k10 (tA k11 (tA k12 (tA k13 (tZ k14 (uF2 (tZ k15 (tA k16 (tR ((LV.tup [], h0)))))))))))))))))))))) (by kernel_rfl)
theorem r58_22 (k0 : cA m 97 [vI o] h = some (vI i0, h1)) (k1 : eqZ i0 (.ofNat 2) = false) (k2 : eqZ o (.ofNat 0) = false) (k3 : eqZ o (.ofNat 12) = false) (k4 : eqZ o (.ofNat 13) = false) (k5 : eqZ o (.ofNat 14) = false) (k6 : eqZ o (.ofNat 15) = false) (k7 : eqZ o (.ofNat 16) = false) (k8 : eqZ o (.ofNat 17) = false) (k9 : eqZ o (.ofNat 26) = false) (k10 : eqZ o (.ofNat 27) = false) (k11 : eqZ i0 (.ofNat 6) = true) (k12 : cA m 105 [vP L 0, vG (nC o a b v t l bd el q)] h1 = some (LV.tup [], h0)) :
  bB m 58 [vP L 0, vG (nC o a b v t l bd el q)] h = some ((LV.tup [], h0)) :=
 bY (qS [1099965] [1099992, 1099989, 31, 1099986, 1099983, 1099980, 1099977, 1099974, 1099971, 1099968] [] [(1, 2, vI i0, h1), (39, 2, LV.tup [], h0)]) (tA k0 (tZ k1 (tZ k2 (tZ k3 (uF3 (tZ k4 (tZ k5 (tZ k6 (tZ k7 (tZ k8 (tZ k9 (tZ k10 (tZ k11 (tA k12 (tR ((LV.tup [], h0))))))))))))))))) (by kernel_rfl)
theorem r58_23 (k0 : cA m 97 [vI o] h = some (vI i0, h1)) (k1 : eqZ i0 (.ofNat 2) = false) (k2 : eqZ o (.ofNat 0) = false) (k3 : eqZ o (.ofNat 12) = false) (k4 : eqZ o (.ofNat 13) = false) (k5 : eqZ o (.ofNat 14) = false) (k6 : eqZ o (.ofNat 15) = false) (k7 : eqZ o (.ofNat 16) = false) (k8 : eqZ o (.ofNat 17) = false) (k9 : eqZ o (.ofNat 26) = false) (k10 : eqZ o (.ofNat 27) = false) (k11 : eqZ i0 (.ofNat 6) = false) (k12 : cA m 106 [vP L 0, vG (nC o a b v t l bd el q)] h1 = some (LV.tup [], h0)) :
  bB m 58 [vP L 0, vG (nC o a b v t l bd el q)] h = some ((LV.tup [], h0)) :=
 bY (qS [] [1099992, 1099989, 31, 1099986, 1099983, 1099980, 1099977, 1099974, 1099971, 1099968, 1099965] [] [(1, 2, vI i0, h1), (2, 2, LV.tup [], h0)]) (tA k0 (tZ k1 (tZ k2 (tZ k3 (uF3 (tZ k4 (tZ k5 (tZ k6 (tZ k7 (tZ k8 (tZ k9 (tZ k10 (tZ k11 (tA k12 (tR ((LV.tup [], h0))))))))))))))))) (by kernel_rfl)
end Go.Proofs.YtoblgjmllmomhaaGreatDoor
