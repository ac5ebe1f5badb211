/-
  Ways through texts, one by one (printed by a program of this repo).
-/
import Derived.Test.YthcjapmfchidhaaGreatDoorAmS6wJ
import Derived.KernelRfl
namespace Go.Proofs.YthcjapmfchidhaaGreatDoor
set_option maxRecDepth 100000
open Go Go.Proofs.Am
variable {m i0 i1 i2 i3 i4 : Int} {xs mo bs : (LL)} {h h0 h1 h2 h3 h4 h5 h6 h7 h8 h9 : Heap} {b0 b1 b2 b3 b4 b5 b6 b7 b8 : Bool} {l0 l1 l2 l3 l4 l5 l6 : LL} {v0 v1 v2 v3 v4 : AV}
end Go.Proofs.YthcjapmfchidhaaGreatDoor
namespace Go.Proofs.YthcjapmfchidhaaGreatDoor
set_option maxRecDepth 100000
open Go Go.Proofs.Am
variable {m k o a b v t : Int} {l bd el : LL} {q : Bool} {h : Heap} {r : LV × Heap}
theorem r56_5p_0 (k0 : eqZ k (.ofNat 0) = false) (k1 : (!eqZ a (.ofNat 0)) = true) :
  bA m 21 5 [.lp 0 0, vI k, vB false, vB false, vB false, vI o, vI a, vI b, .v (.int .u64 v), vI t, vM l, vM bd, vM el, vB q] h = some ((vB false, h)) :=
 bY (qS [56] [47] [] []) (tZ k0 (uF4 (tZ k1 (uT4 (tR ((vB false, h))))))) (by kernel_rfl)
theorem r56_5p_1 (k0 : eqZ k (.ofNat 0) = false) (k1 : (!eqZ a (.ofNat 0)) = false) (k2 : (!eqZ b (.ofNat 0)) = true) :
  bA m 21 5 [.lp 0 0, vI k, vB false, vB false, vB false, vI o, vI a, vI b, .v (.int .u64 v), vI t, vM l, vM bd, vM el, vB q] h = some ((vB false, h)) :=
 bY (qS [65] [47, 56] [] []) (tZ k0 (uF4 (tZ k1 (uF4 (tZ k2 (uT4 (tR ((vB false, h))))))))) (by kernel_rfl)
theorem r56_5p_2 (k0 : eqZ k (.ofNat 0) = false) (k1 : (!eqZ a (.ofNat 0)) = false) (k2 : (!eqZ b (.ofNat 0)) = false) (k3 : (!eqZ k (.ofNat 10)) = true) (k4 : (!eqZ v (.ofNat 0)) = true) :
  bA m 21 5 [.lp 0 0, vI k, vB false, vB false, vB false, vI o, vI a, vI b, .v (.int .u64 v), vI t, vM l, vM bd, vM el, vB q] h = some ((vB false, h)) :=
 bY (qS [68, 74] [47, 56, 65] [] []) (tZ k0 (uF4 (tZ k1 (uF4 (tZ k2 (uF2 (tZ k3 (uT2 (tA tF (tA tT (tA tF (tZ k4 (uT4 (tR ((vB false, h)))))))))))))))) (by kernel_rfl)
theorem r56_5p_3 (k0 : eqZ k (.ofNat 0) = false) (k1 : (!eqZ a (.ofNat 0)) = false) (k2 : (!eqZ b (.ofNat 0)) = false) (k3 : (!eqZ k (.ofNat 10)) = true) (k4 : (!eqZ v (.ofNat 0)) = false) (k5 : (!eqZ k (.ofNat 2)) = true) (k6 : (!eqZ t (.ofNat 0)) = true) :
  bA m 21 5 [.lp 0 0, vI k, vB false, vB false, vB false, vI o, vI a, vI b, .v (.int .u64 v), vI t, vM l, vM bd, vM el, vB q] h = some ((vB false, h)) :=
 bY (qS [68, 77, 81] [47, 56, 65, 74] [] []) (tZ k0 (uF4 (tZ k1 (uF4 (tZ k2 (uF2 (tZ k3 (uT2 (tA tF (tA tT (tA tF (tZ k4 (uF2 (tZ k5 (uT3 (tZ k6 (uT5 (tA tF (tA tT (tA tF (tR ((vB false, h))))))))))))))))))))))) (by kernel_rfl)
theorem r56_5p_4 (k0 : eqZ k (.ofNat 0) = false) (k1 : (!eqZ a (.ofNat 0)) = false) (k2 : (!eqZ b (.ofNat 0)) = false) (k3 : (!eqZ k (.ofNat 10)) = true) (k4 : (!eqZ v (.ofNat 0)) = false) (k5 : (!eqZ k (.ofNat 2)) = true) (k6 : (!eqZ t (.ofNat 0)) = false) (k7 : ltZ (.ofNat 0) (.ofNat bd.length) = true) :
  bA m 21 5 [.lp 0 0, vI k, vB false, vB false, vB false, vI o, vI a, vI b, .v (.int .u64 v), vI t, vM l, vM bd, vM el, vB q] h = some ((vB false, h)) :=
 bY (qS [68, 77, 89] [47, 56, 65, 74, 81] [] []) (tZ k0 (uF4 (tZ k1 (uF4 (tZ k2 (uF2 (tZ k3 (uT2 (tA tF (tA tT (tA tF (tZ k4 (uF2 (tZ k5 (uT3 (tZ k6 (uF3 (tA tT (uF2 (tA tT (tA tF (tZ k7 (uT4 (tR ((vB false, h)))))))))))))))))))))))))) (by kernel_rfl)
theorem r56_5p_5 (k0 : eqZ k (.ofNat 0) = false) (k1 : (!eqZ a (.ofNat 0)) = false) (k2 : (!eqZ b (.ofNat 0)) = false) (k3 : (!eqZ k (.ofNat 10)) = true) (k4 : (!eqZ v (.ofNat 0)) = false) (k5 : (!eqZ k (.ofNat 2)) = true) (k6 : (!eqZ t (.ofNat 0)) = false) (k7 : ltZ (.ofNat 0) (.ofNat bd.length) = false) (k8 : ltZ (.ofNat 0) (.ofNat l.length) = true) :
  bA m 21 5 [.lp 0 0, vI k, vB false, vB false, vB false, vI o, vI a, vI b, .v (.int .u64 v), vI t, vM l, vM bd, vM el, vB q] h = some ((vB false, h)) :=
 bY (qS [68, 77, 99] [47, 56, 65, 74, 81, 89] [] []) (tZ k0 (uF4 (tZ k1 (uF4 (tZ k2 (uF2 (tZ k3 (uT2 (tA tF (tA tT (tA tF (tZ k4 (uF2 (tZ k5 (uT3 (tZ k6 (uF3 (tA tT (uF2 (tA tT (tA tF (tZ k7 (uF4 (tZ k8 (uT3 (tR ((vB false, h)))))))))))))))))))))))))))) (by kernel_rfl)
theorem r56_5p_6 (k0 : eqZ k (.ofNat 0) = false) (k1 : (!eqZ a (.ofNat 0)) = false) (k2 : (!eqZ b (.ofNat 0)) = false) (k3 : (!eqZ k (.ofNat 10)) = true) (k4 : (!eqZ v (.ofNat 0)) = false) (k5 : (!eqZ k (.ofNat 2)) = true) (k6 : (!eqZ t (.ofNat 0)) = false) (k7 : ltZ (.ofNat 0) (.ofNat bd.length) = false) (k8 : ltZ (.ofNat 0) (.ofNat l.length) = false) (k9 : bA m 21 7 [LV.lp 0 0, vI o, vI a, vI b, LV.v (AV.int IntKind.u64 v), vI t, vM l, vM bd, vM el, vB q] h = some r) :
  bA m 21 5 [.lp 0 0, vI k, vB false, vB false, vB false, vI o, vI a, vI b, .v (.int .u64 v), vI t, vM l, vM bd, vM el, vB q] h = some r :=
 bY (qS [68, 77] [47, 56, 65, 74, 81, 89, 99] [] []) (tZ k0 (uF4 (tZ k1 (uF4 (tZ k2 (uF2 (tZ k3 (uT2 (tA tF (tA tT (tA tF (tZ k4 (uF2 (tZ k5 (uT3 (tZ k6 (uF3 (tA tT (uF2 (tA tT (tA tF (tZ k7 (uF4 (tZ k8 (uF3 (tA t1 (k9))))))))))))))))))))))))))) (by kernel_rfl)
theorem r56_5a_0 (k0 : eqZ k (.ofNat 0) = false) (k1 : (!eqZ b (.ofNat 0)) = true) :
  bA m 21 5 [.lp 0 0, vI k, vB true, vB false, vB false, vI o, vI a, vI b, .v (.int .u64 v), vI t, vM l, vM bd, vM el, vB q] h = some ((vB false, h)) :=
 bY (qS [65] [47] [] []) (tZ k0 (uF4 (tZ k1 (uT4 (tR ((vB false, h))))))) (by kernel_rfl)
theorem r56_5a_1 (k0 : eqZ k (.ofNat 0) = false) (k1 : (!eqZ b (.ofNat 0)) = false) (k2 : (!eqZ k (.ofNat 10)) = true) (k3 : (!eqZ v (.ofNat 0)) = true) :
  bA m 21 5 [.lp 0 0, vI k, vB true, vB false, vB false, vI o, vI a, vI b, .v (.int .u64 v), vI t, vM l, vM bd, vM el, vB q] h = some ((vB false, h)) :=
 bY (qS [68, 74] [47, 65] [] []) (tZ k0 (uF4 (tZ k1 (uF2 (tZ k2 (uT2 (tA tF (tA tT (tA tF (tZ k3 (uT4 (tR ((vB false, h)))))))))))))) (by kernel_rfl)
theorem r56_5a_2 (k0 : eqZ k (.ofNat 0) = false) (k1 : (!eqZ b (.ofNat 0)) = false) (k2 : (!eqZ k (.ofNat 10)) = true) (k3 : (!eqZ v (.ofNat 0)) = false) (k4 : (!eqZ k (.ofNat 2)) = true) (k5 : (!eqZ t (.ofNat 0)) = true) :
  bA m 21 5 [.lp 0 0, vI k, vB true, vB false, vB false, vI o, vI a, vI b, .v (.int .u64 v), vI t, vM l, vM bd, vM el, vB q] h = some ((vB false, h)) :=
 bY (qS [68, 77, 81] [47, 65, 74] [] []) (tZ k0 (uF4 (tZ k1 (uF2 (tZ k2 (uT2 (tA tF (tA tT (tA tF (tZ k3 (uF2 (tZ k4 (uT3 (tZ k5 (uT5 (tA tF (tA tT (tA tF (tR ((vB false, h))))))))))))))))))))) (by kernel_rfl)
theorem r56_5a_3 (k0 : eqZ k (.ofNat 0) = false) (k1 : (!eqZ b (.ofNat 0)) = false) (k2 : (!eqZ k (.ofNat 10)) = true) (k3 : (!eqZ v (.ofNat 0)) = false) (k4 : (!eqZ k (.ofNat 2)) = true) (k5 : (!eqZ t (.ofNat 0)) = false) (k6 : ltZ (.ofNat 0) (.ofNat bd.length) = true) :
  bA m 21 5 [.lp 0 0, vI k, vB true, vB false, vB false, vI o, vI a, vI b, .v (.int .u64 v), vI t, vM l, vM bd, vM el, vB q] h = some ((vB false, h)) :=
 bY (qS [68, 77, 89] [47, 65, 74, 81] [] []) (tZ k0 (uF4 (tZ k1 (uF2 (tZ k2 (uT2 (tA tF (tA tT (tA tF (tZ k3 (uF2 (tZ k4 (uT3 (tZ k5 (uF3 (tA tT (uF2 (tA tT (tA tF (tZ k6 (uT4 (tR ((vB false, h)))))))))))))))))))))))) (by kernel_rfl)
theorem r56_5a_4 (k0 : eqZ k (.ofNat 0) = false) (k1 : (!eqZ b (.ofNat 0)) = false) (k2 : (!eqZ k (.ofNat 10)) = true) (k3 : (!eqZ v (.ofNat 0)) = false) (k4 : (!eqZ k (.ofNat 2)) = true) (k5 : (!eqZ t (.ofNat 0)) = false) (k6 : ltZ (.ofNat 0) (.ofNat bd.length) = false) (k7 : ltZ (.ofNat 0) (.ofNat l.length) = true) :
  bA m 21 5 [.lp 0 0, vI k, vB true, vB false, vB false, vI o, vI a, vI b, .v (.int .u64 v), vI t, vM l, vM bd, vM el, vB q] h = some ((vB false, h)) :=
 bY (qS [68, 77, 99] [47, 65, 74, 81, 89] [] []) (tZ k0 (uF4 (tZ k1 (uF2 (tZ k2 (uT2 (tA tF (tA tT (tA tF (tZ k3 (uF2 (tZ k4 (uT3 (tZ k5 (uF3 (tA tT (uF2 (tA tT (tA tF (tZ k6 (uF4 (tZ k7 (uT3 (tR ((vB false, h)))))))))))))))))))))))))) (by kernel_rfl)
theorem r56_5a_5 (k0 : eqZ k (.ofNat 0) = false) (k1 : (!eqZ b (.ofNat 0)) = false) (k2 : (!eqZ k (.ofNat 10)) = true) (k3 : (!eqZ v (.ofNat 0)) = false) (k4 : (!eqZ k (.ofNat 2)) = true) (k5 : (!eqZ t (.ofNat 0)) = false) (k6 : ltZ (.ofNat 0) (.ofNat bd.length) = false) (k7 : ltZ (.ofNat 0) (.ofNat l.length) = false) (k8 : bA m 21 7 [LV.lp 0 0, vI o, vI a, vI b, LV.v (AV.int IntKind.u64 v), vI t, vM l, vM bd, vM el, vB q] h = some r) :
  bA m 21 5 [.lp 0 0, vI k, vB true, vB false, vB false, vI o, vI a, vI b, .v (.int .u64 v), vI t, vM l, vM bd, vM el, vB q] h = some r :=
 bY (qS [68, 77] [47, 65, 74, 81, 89, 99] [] []) (tZ k0 (uF4 (tZ k1 (uF2 (tZ k2 (uT2 (tA tF (tA tT (tA tF (tZ k3 (uF2 (tZ k4 (uT3 (tZ k5 (uF3 (tA tT (uF2 (tA tT (tA tF (tZ k6 (uF4 (tZ k7 (uF3 (tA t1 (k8))))))))))))))))))))))))) (by kernel_rfl)
theorem r56_5m_0 (k0 : eqZ k (.ofNat 0) = false) (k1 : (!eqZ k (.ofNat 10)) = true) (k2 : (!eqZ v (.ofNat 0)) = true) :
  bA m 21 5 [.lp 0 0, vI k, vB true, vB true, vB false, vI o, vI a, vI b, .v (.int .u64 v), vI t, vM l, vM bd, vM el, vB q] h = some ((vB false, h)) :=
 bY (qS [68, 74] [47] [] []) (tZ k0 (uF4 (tZ k1 (uT3 (tZ k2 (uT4 (tR ((vB false, h))))))))) (by kernel_rfl)
theorem r56_5m_1 (k0 : eqZ k (.ofNat 0) = false) (k1 : (!eqZ k (.ofNat 10)) = true) (k2 : (!eqZ v (.ofNat 0)) = false) (k3 : (!eqZ k (.ofNat 2)) = true) (k4 : (!eqZ t (.ofNat 0)) = true) :
  bA m 21 5 [.lp 0 0, vI k, vB true, vB true, vB false, vI o, vI a, vI b, .v (.int .u64 v), vI t, vM l, vM bd, vM el, vB q] h = some ((vB false, h)) :=
 bY (qS [68, 77, 81] [47, 74] [] []) (tZ k0 (uF4 (tZ k1 (uT3 (tZ k2 (uF2 (tZ k3 (uT3 (tZ k4 (uT5 (tA tF (tA tT (tA tF (tR ((vB false, h)))))))))))))))) (by kernel_rfl)
theorem r56_5m_2 (k0 : eqZ k (.ofNat 0) = false) (k1 : (!eqZ k (.ofNat 10)) = true) (k2 : (!eqZ v (.ofNat 0)) = false) (k3 : (!eqZ k (.ofNat 2)) = true) (k4 : (!eqZ t (.ofNat 0)) = false) (k5 : ltZ (.ofNat 0) (.ofNat bd.length) = true) :
  bA m 21 5 [.lp 0 0, vI k, vB true, vB true, vB false, vI o, vI a, vI b, .v (.int .u64 v), vI t, vM l, vM bd, vM el, vB q] h = some ((vB false, h)) :=
 bY (qS [68, 77, 89] [47, 74, 81] [] []) (tZ k0 (uF4 (tZ k1 (uT3 (tZ k2 (uF2 (tZ k3 (uT3 (tZ k4 (uF3 (tA tT (uF2 (tA tT (tA tF (tZ k5 (uT4 (tR ((vB false, h))))))))))))))))))) (by kernel_rfl)
theorem r56_5m_3 (k0 : eqZ k (.ofNat 0) = false) (k1 : (!eqZ k (.ofNat 10)) = true) (k2 : (!eqZ v (.ofNat 0)) = false) (k3 : (!eqZ k (.ofNat 2)) = true) (k4 : (!eqZ t (.ofNat 0)) = false) (k5 : ltZ (.ofNat 0) (.ofNat bd.length) = false) (k6 : ltZ (.ofNat 0) (.ofNat l.length) = true) :
  bA m 21 5 [.lp 0 0, vI k, vB true, vB true, vB false, vI o, vI a, vI b, .v (.int .u64 v), vI t, vM l, vM bd, vM el, vB q] h = some ((vB false, h)) :=
 bY (qS [68, 77, 99] [47, 74, 81, 89] [] []) (tZ k0 (uF4 (tZ k1 (uT3 (tZ k2 (uF2 (tZ k3 (uT3 (tZ k4 (uF3 (tA tT (uF2 (tA tT (tA tF (tZ k5 (uF4 (tZ k6 (uT3 (tR ((vB false, h))))))))))))))))))))) (by kernel_rfl)
theorem r56_5m_4 (k0 : eqZ k (.ofNat 0) = false) (k1 : (!eqZ k (.ofNat 10)) = true) (k2 : (!eqZ v (.ofNat 0)) = false) (k3 : (!eqZ k (.ofNat 2)) = true) (k4 : (!eqZ t (.ofNat 0)) = false) (k5 : ltZ (.ofNat 0) (.ofNat bd.length) = false) (k6 : ltZ (.ofNat 0) (.ofNat l.length) = false) (k7 : bA m 21 7 [LV.lp 0 0, vI o, vI a, vI b, LV.v (AV.int IntKind.u64 v), vI t, vM l, vM bd, vM el, vB q] h = some r) :
  bA m 21 5 [.lp 0 0, vI k, vB true, vB true, vB false, vI o, vI a, vI b, .v (.int .u64 v), vI t, vM l, vM bd, vM el, vB q] h = some r :=
 bY (qS [68, 77] [47, 74, 81, 89, 99] [] []) (tZ k0 (uF4 (tZ k1 (uT3 (tZ k2 (uF2 (tZ k3 (uT3 (tZ k4 (uF3 (tA tT (uF2 (tA tT (tA tF (tZ k5 (uF4 (tZ k6 (uF3 (tA t1 (k7)))))))))))))))))))) (by kernel_rfl)
theorem r56_5c_0 (k0 : eqZ k (.ofNat 0) = false) (k1 : (!eqZ a (.ofNat 0)) = true) :
  bA m 21 5 [.lp 0 0, vI k, vB false, vB false, vB false, vI o, vI a, vI b, .v (.int .u64 v), vI t, vM l, vM bd, vM el, vB q] h = some ((vB false, h)) :=
 bY (qS [56] [47] [] []) (tZ k0 (uF4 (tZ k1 (uT4 (tR ((vB false, h))))))) (by kernel_rfl)
theorem r56_5c_1 (k0 : eqZ k (.ofNat 0) = false) (k1 : (!eqZ a (.ofNat 0)) = false) (k2 : (!eqZ b (.ofNat 0)) = true) :
  bA m 21 5 [.lp 0 0, vI k, vB false, vB false, vB false, vI o, vI a, vI b, .v (.int .u64 v), vI t, vM l, vM bd, vM el, vB q] h = some ((vB false, h)) :=
 bY (qS [65] [47, 56] [] []) (tZ k0 (uF4 (tZ k1 (uF4 (tZ k2 (uT4 (tR ((vB false, h))))))))) (by kernel_rfl)
theorem r56_5c_2 (k0 : eqZ k (.ofNat 0) = false) (k1 : (!eqZ a (.ofNat 0)) = false) (k2 : (!eqZ b (.ofNat 0)) = false) (k3 : (!eqZ k (.ofNat 10)) = false) (k4 : (!eqZ k (.ofNat 2)) = true) (k5 : (!eqZ t (.ofNat 0)) = true) :
  bA m 21 5 [.lp 0 0, vI k, vB false, vB false, vB false, vI o, vI a, vI b, .v (.int .u64 v), vI t, vM l, vM bd, vM el, vB q] h = some ((vB false, h)) :=
 bY (qS [77, 81] [47, 56, 65, 68] [] []) (tZ k0 (uF4 (tZ k1 (uF4 (tZ k2 (uF2 (tZ k3 (uF5 (tZ k4 (uT3 (tZ k5 (uT6 (tR ((vB false, h))))))))))))))) (by kernel_rfl)
theorem r56_5c_3 (k0 : eqZ k (.ofNat 0) = false) (k1 : (!eqZ a (.ofNat 0)) = false) (k2 : (!eqZ b (.ofNat 0)) = false) (k3 : (!eqZ k (.ofNat 10)) = false) (k4 : (!eqZ k (.ofNat 2)) = true) (k5 : (!eqZ t (.ofNat 0)) = false) (k6 : ltZ (.ofNat 0) (.ofNat bd.length) = true) :
  bA m 21 5 [.lp 0 0, vI k, vB false, vB false, vB false, vI o, vI a, vI b, .v (.int .u64 v), vI t, vM l, vM bd, vM el, vB q] h = some ((vB false, h)) :=
 bY (qS [77, 89] [47, 56, 65, 68, 81] [] []) (tZ k0 (uF4 (tZ k1 (uF4 (tZ k2 (uF2 (tZ k3 (uF5 (tZ k4 (uT3 (tZ k5 (uF3 (tA tT (tA tF (tA tT (tZ k6 (uT4 (tR ((vB false, h)))))))))))))))))))) (by kernel_rfl)
theorem r56_5c_4 (k0 : eqZ k (.ofNat 0) = false) (k1 : (!eqZ a (.ofNat 0)) = false) (k2 : (!eqZ b (.ofNat 0)) = false) (k3 : (!eqZ k (.ofNat 10)) = false) (k4 : (!eqZ k (.ofNat 2)) = true) (k5 : (!eqZ t (.ofNat 0)) = false) (k6 : ltZ (.ofNat 0) (.ofNat bd.length) = false) (k7 : ltZ (.ofNat 0) (.ofNat l.length) = true) :
  bA m 21 5 [.lp 0 0, vI k, vB false, vB false, vB false, vI o, vI a, vI b, .v (.int .u64 v), vI t, vM l, vM bd, vM el, vB q] h = some ((vB false, h)) :=
 bY (qS [77, 99] [47, 56, 65, 68, 81, 89] [] []) (tZ k0 (uF4 (tZ k1 (uF4 (tZ k2 (uF2 (tZ k3 (uF5 (tZ k4 (uT3 (tZ k5 (uF3 (tA tT (tA tF (tA tT (tZ k6 (uF4 (tZ k7 (uT3 (tR ((vB false, h)))))))))))))))))))))) (by kernel_rfl)
theorem r56_5c_5 (k0 : eqZ k (.ofNat 0) = false) (k1 : (!eqZ a (.ofNat 0)) = false) (k2 : (!eqZ b (.ofNat 0)) = false) (k3 : (!eqZ k (.ofNat 10)) = false) (k4 : (!eqZ k (.ofNat 2)) = true) (k5 : (!eqZ t (.ofNat 0)) = false) (k6 : ltZ (.ofNat 0) (.ofNat bd.length) = false) (k7 : ltZ (.ofNat 0) (.ofNat l.length) = false) (k8 : bA m 21 7 [LV.lp 0 0, vI o, vI a, vI b, LV.v (AV.int IntKind.u64 v), vI t, vM l, vM bd, vM el, vB q] h = some r) :
  bA m 21 5 [.lp 0 0, vI k, vB false, vB false, vB false, vI o, vI a, vI b, .v (.int .u64 v), vI t, vM l, vM bd, vM el, vB q] h = some r :=
 bY (qS [77] [47, 56, 65, 68, 81, 89, 99] [] []) (tZ k0 (uF4 (tZ k1 (uF4 (tZ k2 (uF2 (tZ k3 (uF5 (tZ k4 (uT3 (tZ k5 (uF3 (tA tT (tA tF (tA tT (tZ k6 (uF4 (tZ k7 (uF3 (tA t1 (k8))))))))))))))))))))) (by kernel_rfl)
theorem r56_5b_0 (k0 : eqZ k (.ofNat 0) = false) (k1 : (!eqZ a (.ofNat 0)) = true) :
  bA m 21 5 [.lp 0 0, vI k, vB false, vB false, vB false, vI o, vI a, vI b, .v (.int .u64 v), vI t, vM l, vM bd, vM el, vB q] h = some ((vB false, h)) :=
 bY (qS [56] [47] [] []) (tZ k0 (uF4 (tZ k1 (uT4 (tR ((vB false, h))))))) (by kernel_rfl)
theorem r56_5b_1 (k0 : eqZ k (.ofNat 0) = false) (k1 : (!eqZ a (.ofNat 0)) = false) (k2 : (!eqZ b (.ofNat 0)) = true) :
  bA m 21 5 [.lp 0 0, vI k, vB false, vB false, vB false, vI o, vI a, vI b, .v (.int .u64 v), vI t, vM l, vM bd, vM el, vB q] h = some ((vB false, h)) :=
 bY (qS [65] [47, 56] [] []) (tZ k0 (uF4 (tZ k1 (uF4 (tZ k2 (uT4 (tR ((vB false, h))))))))) (by kernel_rfl)
theorem r56_5b_2 (k0 : eqZ k (.ofNat 0) = false) (k1 : (!eqZ a (.ofNat 0)) = false) (k2 : (!eqZ b (.ofNat 0)) = false) (k3 : (!eqZ k (.ofNat 10)) = true) (k4 : (!eqZ v (.ofNat 0)) = true) :
  bA m 21 5 [.lp 0 0, vI k, vB false, vB false, vB false, vI o, vI a, vI b, .v (.int .u64 v), vI t, vM l, vM bd, vM el, vB q] h = some ((vB false, h)) :=
 bY (qS [68, 74] [47, 56, 65] [] []) (tZ k0 (uF4 (tZ k1 (uF4 (tZ k2 (uF2 (tZ k3 (uT2 (tA tF (tA tT (tA tF (tZ k4 (uT4 (tR ((vB false, h)))))))))))))))) (by kernel_rfl)
theorem r56_5b_3 (k0 : eqZ k (.ofNat 0) = false) (k1 : (!eqZ a (.ofNat 0)) = false) (k2 : (!eqZ b (.ofNat 0)) = false) (k3 : (!eqZ k (.ofNat 10)) = true) (k4 : (!eqZ v (.ofNat 0)) = false) (k5 : (!eqZ k (.ofNat 2)) = false) (k6 : ltZ (.ofNat 0) (.ofNat l.length) = true) :
  bA m 21 5 [.lp 0 0, vI k, vB false, vB false, vB false, vI o, vI a, vI b, .v (.int .u64 v), vI t, vM l, vM bd, vM el, vB q] h = some ((vB false, h)) :=
 bY (qS [68, 99] [47, 56, 65, 74, 77] [] []) (tZ k0 (uF4 (tZ k1 (uF4 (tZ k2 (uF2 (tZ k3 (uT2 (tA tF (tA tT (tA tF (tZ k4 (uF2 (tZ k5 (uF7 (tZ k6 (uT3 (tR ((vB false, h)))))))))))))))))))) (by kernel_rfl)
theorem r56_5b_4 (k0 : eqZ k (.ofNat 0) = false) (k1 : (!eqZ a (.ofNat 0)) = false) (k2 : (!eqZ b (.ofNat 0)) = false) (k3 : (!eqZ k (.ofNat 10)) = true) (k4 : (!eqZ v (.ofNat 0)) = false) (k5 : (!eqZ k (.ofNat 2)) = false) (k6 : ltZ (.ofNat 0) (.ofNat l.length) = false) (k7 : bA m 21 7 [LV.lp 0 0, vI o, vI a, vI b, LV.v (AV.int IntKind.u64 v), vI t, vM l, vM bd, vM el, vB q] h = some r) :
  bA m 21 5 [.lp 0 0, vI k, vB false, vB false, vB false, vI o, vI a, vI b, .v (.int .u64 v), vI t, vM l, vM bd, vM el, vB q] h = some r :=
 bY (qS [68] [47, 56, 65, 74, 77, 99] [] []) (tZ k0 (uF4 (tZ k1 (uF4 (tZ k2 (uF2 (tZ k3 (uT2 (tA tF (tA tT (tA tF (tZ k4 (uF2 (tZ k5 (uF7 (tZ k6 (uF3 (tA t1 (k7))))))))))))))))))) (by kernel_rfl)
theorem r56_5t_0 (k0 : eqZ k (.ofNat 0) = false) (k1 : (!eqZ a (.ofNat 0)) = true) :
  bA m 21 5 [.lp 0 0, vI k, vB false, vB false, vB true, vI o, vI a, vI b, .v (.int .u64 v), vI t, vM l, vM bd, vM el, vB q] h = some ((vB false, h)) :=
 bY (qS [56] [47] [] []) (tZ k0 (uF4 (tZ k1 (uT4 (tR ((vB false, h))))))) (by kernel_rfl)
theorem r56_5t_1 (k0 : eqZ k (.ofNat 0) = false) (k1 : (!eqZ a (.ofNat 0)) = false) (k2 : (!eqZ b (.ofNat 0)) = true) :
  bA m 21 5 [.lp 0 0, vI k, vB false, vB false, vB true, vI o, vI a, vI b, .v (.int .u64 v), vI t, vM l, vM bd, vM el, vB q] h = some ((vB false, h)) :=
 bY (qS [65] [47, 56] [] []) (tZ k0 (uF4 (tZ k1 (uF4 (tZ k2 (uT4 (tR ((vB false, h))))))))) (by kernel_rfl)
theorem r56_5t_2 (k0 : eqZ k (.ofNat 0) = false) (k1 : (!eqZ a (.ofNat 0)) = false) (k2 : (!eqZ b (.ofNat 0)) = false) (k3 : (!eqZ k (.ofNat 10)) = true) (k4 : (!eqZ v (.ofNat 0)) = true) :
  bA m 21 5 [.lp 0 0, vI k, vB false, vB false, vB true, vI o, vI a, vI b, .v (.int .u64 v), vI t, vM l, vM bd, vM el, vB q] h = some ((vB false, h)) :=
 bY (qS [68, 74] [47, 56, 65] [] []) (tZ k0 (uF4 (tZ k1 (uF4 (tZ k2 (uF2 (tZ k3 (uT2 (tA tF (tA tT (tA tF (tZ k4 (uT4 (tR ((vB false, h)))))))))))))))) (by kernel_rfl)
theorem r56_5t_3 (k0 : eqZ k (.ofNat 0) = false) (k1 : (!eqZ a (.ofNat 0)) = false) (k2 : (!eqZ b (.ofNat 0)) = false) (k3 : (!eqZ k (.ofNat 10)) = true) (k4 : (!eqZ v (.ofNat 0)) = false) (k5 : (!eqZ k (.ofNat 2)) = true) (k6 : (!eqZ t (.ofNat 0)) = true) :
  bA m 21 5 [.lp 0 0, vI k, vB false, vB false, vB true, vI o, vI a, vI b, .v (.int .u64 v), vI t, vM l, vM bd, vM el, vB q] h = some ((vB false, h)) :=
 bY (qS [68, 77, 81] [47, 56, 65, 74] [] []) (tZ k0 (uF4 (tZ k1 (uF4 (tZ k2 (uF2 (tZ k3 (uT2 (tA tF (tA tT (tA tF (tZ k4 (uF2 (tZ k5 (uT3 (tZ k6 (uT5 (tA tF (tA tT (tA tF (tR ((vB false, h))))))))))))))))))))))) (by kernel_rfl)
theorem r56_5t_4 (k0 : eqZ k (.ofNat 0) = false) (k1 : (!eqZ a (.ofNat 0)) = false) (k2 : (!eqZ b (.ofNat 0)) = false) (k3 : (!eqZ k (.ofNat 10)) = true) (k4 : (!eqZ v (.ofNat 0)) = false) (k5 : (!eqZ k (.ofNat 2)) = true) (k6 : (!eqZ t (.ofNat 0)) = false) (k7 : ltZ (.ofNat 0) (.ofNat bd.length) = true) :
  bA m 21 5 [.lp 0 0, vI k, vB false, vB false, vB true, vI o, vI a, vI b, .v (.int .u64 v), vI t, vM l, vM bd, vM el, vB q] h = some ((vB false, h)) :=
 bY (qS [68, 77, 89] [47, 56, 65, 74, 81] [] []) (tZ k0 (uF4 (tZ k1 (uF4 (tZ k2 (uF2 (tZ k3 (uT2 (tA tF (tA tT (tA tF (tZ k4 (uF2 (tZ k5 (uT3 (tZ k6 (uF3 (tA tT (uF2 (tA tT (tA tF (tZ k7 (uT4 (tR ((vB false, h)))))))))))))))))))))))))) (by kernel_rfl)
theorem r56_5t_5 (k0 : eqZ k (.ofNat 0) = false) (k1 : (!eqZ a (.ofNat 0)) = false) (k2 : (!eqZ b (.ofNat 0)) = false) (k3 : (!eqZ k (.ofNat 10)) = true) (k4 : (!eqZ v (.ofNat 0)) = false) (k5 : (!eqZ k (.ofNat 2)) = true) (k6 : (!eqZ t (.ofNat 0)) = false) (k7 : ltZ (.ofNat 0) (.ofNat bd.length) = false) (k8 : eqZ (.ofNat l.length) (.ofNat 0) = true) :
  bA m 21 5 [.lp 0 0, vI k, vB false, vB false, vB true, vI o, vI a, vI b, .v (.int .u64 v), vI t, vM l, vM bd, vM el, vB q] h = some ((vB false, h)) :=
 bY (qS [68, 77, 1099998] [47, 56, 65, 74, 81, 89] [] []) (tZ k0 (uF4 (tZ k1 (uF4 (tZ k2 (uF2 (tZ k3 (uT2 (tA tF (tA tT (tA tF (tZ k4 (uF2 (tZ k5 (uT3 (tZ k6 (uF3 (tA tT (uF2 (tA tT (tA tF (tZ k7 (uF4 (tZ k8 (tR ((vB false, h))))))))))))))))))))))))))) (by kernel_rfl)
theorem r56_5t_6 (k0 : eqZ k (.ofNat 0) = false) (k1 : (!eqZ a (.ofNat 0)) = false) (k2 : (!eqZ b (.ofNat 0)) = false) (k3 : (!eqZ k (.ofNat 10)) = true) (k4 : (!eqZ v (.ofNat 0)) = false) (k5 : (!eqZ k (.ofNat 2)) = true) (k6 : (!eqZ t (.ofNat 0)) = false) (k7 : ltZ (.ofNat 0) (.ofNat bd.length) = false) (k8 : eqZ (.ofNat l.length) (.ofNat 0) = false) (k9 : bA m 21 7 [LV.lp 0 0, vI o, vI a, vI b, LV.v (AV.int IntKind.u64 v), vI t, vM l, vM bd, vM el, vB q] h = some r) :
  bA m 21 5 [.lp 0 0, vI k, vB false, vB false, vB true, vI o, vI a, vI b, .v (.int .u64 v), vI t, vM l, vM bd, vM el, vB q] h = some r :=
 bY (qS [68, 77] [47, 56, 65, 74, 81, 89, 1099998] [] []) (tZ k0 (uF4 (tZ k1 (uF4 (tZ k2 (uF2 (tZ k3 (uT2 (tA tF (tA tT (tA tF (tZ k4 (uF2 (tZ k5 (uT3 (tZ k6 (uF3 (tA tT (uF2 (tA tT (tA tF (tZ k7 (uF4 (tZ k8 (tA t1 (k9)))))))))))))))))))))))))) (by kernel_rfl)
theorem r56_5z_0 (k0 : eqZ k (.ofNat 0) = true) :
  bA m 21 5 [.lp 0 0, vI k, vB false, vB false, vB false, vI o, vI a, vI b, .v (.int .u64 v), vI t, vM l, vM bd, vM el, vB q] h = some ((vB false, h)) :=
 bY (qS [47] [] [] []) (tZ k0 (uT4 (tR ((vB false, h))))) (by kernel_rfl)
end Go.Proofs.YthcjapmfchidhaaGreatDoor
namespace Go.Proofs.YthcjapmfchidhaaGreatDoor
set_option maxRecDepth 100000
open Go Go.Proofs.Am
variable {m o a b v t : Int} {l bd el : LL} {q b0 b1 : Bool} {h h0 h1 : Heap} {r : LV × Heap}
theorem r56_7_0 (k0 : (!eqZ o (.ofNat 4)) = true) (k1 : q = true) :
  bA m 21 7 [.lp 0 0, vI o, vI a, vI b, .v (.int .u64 v), vI t, vM l, vM bd, vM el, vB q] h = some ((vB false, h)) :=
 bY (qS [111, 115] [] [] []) (tZ k0 (uT2 (tZ k1 (uT5 (tR ((vB false, h))))))) (by kernel_rfl)
theorem r56_7_1 (k0 : (!eqZ o (.ofNat 4)) = true) (k1 : q = false) (k2 : (!q) = true) (k3 : ltZ (.ofNat 0) (.ofNat el.length) = true) :
  bA m 21 7 [.lp 0 0, vI o, vI a, vI b, .v (.int .u64 v), vI t, vM l, vM bd, vM el, vB q] h = some ((vB false, h)) :=
 bY (qS [111, 119, 126] [115] [] []) (tZ k0 (uT2 (tZ k1 (uF3 (tZ k2 (uT3 (tA tF (tA tT (tA tF (tZ k3 (uT4 (tR ((vB false, h)))))))))))))) (by kernel_rfl)
theorem r56_7_2 (k0 : (!eqZ o (.ofNat 4)) = true) (k1 : q = false) (k2 : (!q) = true) (k3 : ltZ (.ofNat 0) (.ofNat el.length) = false) (k4 : cA m 36 [vI a] h = some (vB b0, h0)) (k5 : (!b0) = true) :
  bA m 21 7 [.lp 0 0, vI o, vI a, vI b, .v (.int .u64 v), vI t, vM l, vM bd, vM el, vB q] h = some ((vB false, h0)) :=
 bY (qS [111, 119, 132] [115, 126] [] [(7, 21, vB b0, h0)]) (tZ k0 (uT2 (tZ k1 (uF3 (tZ k2 (uT3 (tA tF (tA tT (tA tF (tZ k3 (uF2 (tA k4 (uF2 (tZ k5 (uT4 (tR ((vB false, h0)))))))))))))))))) (by kernel_rfl)
theorem r56_7_3 (k0 : (!eqZ o (.ofNat 4)) = true) (k1 : q = false) (k2 : (!q) = true) (k3 : ltZ (.ofNat 0) (.ofNat el.length) = false) (k4 : cA m 36 [vI a] h = some (vB b1, h1)) (k5 : (!b1) = false) (k6 : cA m 36 [vI b] h1 = some (vB b0, h0)) (k7 : (!b0) = true) :
  bA m 21 7 [.lp 0 0, vI o, vI a, vI b, .v (.int .u64 v), vI t, vM l, vM bd, vM el, vB q] h = some ((vB false, h0)) :=
 bY (qS [111, 119, 138] [115, 126, 132] [] [(7, 21, vB b1, h1), (7, 27, vB b0, h0)]) (tZ k0 (uT2 (tZ k1 (uF3 (tZ k2 (uT3 (tA tF (tA tT (tA tF (tZ k3 (uF2 (tA k4 (uF2 (tZ k5 (uF2 (tA k6 (uF2 (tZ k7 (uT3 (tR ((vB false, h0)))))))))))))))))))))) (by kernel_rfl)
theorem r56_7_4 (k0 : (!eqZ o (.ofNat 4)) = true) (k1 : q = false) (k2 : (!q) = true) (k3 : ltZ (.ofNat 0) (.ofNat el.length) = false) (k4 : cA m 36 [vI a] h = some (vB b1, h1)) (k5 : (!b1) = false) (k6 : cA m 36 [vI b] h1 = some (vB b0, h0)) (k7 : (!b0) = false) (k8 : ltZ t (.ofNat 0) = true) :
  bA m 21 7 [.lp 0 0, vI o, vI a, vI b, .v (.int .u64 v), vI t, vM l, vM bd, vM el, vB q] h = some ((vB false, h0)) :=
 bY (qS [111, 119, 143] [115, 126, 132, 138] [] [(7, 21, vB b1, h1), (7, 27, vB b0, h0)]) (tZ k0 (uT2 (tZ k1 (uF3 (tZ k2 (uT3 (tA tF (tA tT (tA tF (tZ k3 (uF2 (tA k4 (uF2 (tZ k5 (uF2 (tA k6 (uF2 (tZ k7 (uF3 (tZ k8 (uT3 (tR ((vB false, h0)))))))))))))))))))))))) (by kernel_rfl)
theorem r56_7_5 (k0 : (!eqZ o (.ofNat 4)) = true) (k1 : q = false) (k2 : (!q) = true) (k3 : ltZ (.ofNat 0) (.ofNat el.length) = false) (k4 : cA m 36 [vI a] h = some (vB b1, h1)) (k5 : (!b1) = false) (k6 : cA m 36 [vI b] h1 = some (vB b0, h0)) (k7 : (!b0) = false) (k8 : ltZ t (.ofNat 0) = false) (k9 : ltZ (.ofNat 2) t = true) :
  bA m 21 7 [.lp 0 0, vI o, vI a, vI b, .v (.int .u64 v), vI t, vM l, vM bd, vM el, vB q] h = some ((vB false, h0)) :=
 bY (qS [111, 119, 148] [115, 126, 132, 138, 143] [] [(7, 21, vB b1, h1), (7, 27, vB b0, h0)]) (tZ k0 (uT2 (tZ k1 (uF3 (tZ k2 (uT3 (tA tF (tA tT (tA tF (tZ k3 (uF2 (tA k4 (uF2 (tZ k5 (uF2 (tA k6 (uF2 (tZ k7 (uF3 (tZ k8 (uF3 (tZ k9 (uT5 (tR ((vB false, h0)))))))))))))))))))))))))) (by kernel_rfl)
theorem r56_7_6 (k0 : (!eqZ o (.ofNat 4)) = true) (k1 : q = false) (k2 : (!q) = true) (k3 : ltZ (.ofNat 0) (.ofNat el.length) = false) (k4 : cA m 36 [vI a] h = some (vB b1, h1)) (k5 : (!b1) = false) (k6 : cA m 36 [vI b] h1 = some (vB b0, h0)) (k7 : (!b0) = false) (k8 : ltZ t (.ofNat 0) = false) (k9 : ltZ (.ofNat 2) t = false) (k10 : eqZ o (.ofNat 65) = true) (k11 : ltZ (.ofNat 4294967295) v = true) :
  bA m 21 7 [.lp 0 0, vI o, vI a, vI b, .v (.int .u64 v), vI t, vM l, vM bd, vM el, vB q] h = some ((vB false, h0)) :=
 bY (qS [111, 119, 152, 1099998] [115, 126, 132, 138, 143, 148] [] [(7, 21, vB b1, h1), (7, 27, vB b0, h0)]) (tZ k0 (uT2 (tZ k1 (uF3 (tZ k2 (uT3 (tA tF (tA tT (tA tF (tZ k3 (uF2 (tA k4 (uF2 (tZ k5 (uF2 (tA k6 (uF2 (tZ k7 (uF3 (tZ k8 (uF3 (tZ k9 (uF3 (tZ k10 (uT2 (tA tF (tA tT (tA tF (tZ k11 (tR ((vB false, h0)))))))))))))))))))))))))))))))) (by kernel_rfl)
theorem r56_7_7 (k0 : (!eqZ o (.ofNat 4)) = true) (k1 : q = false) (k2 : (!q) = true) (k3 : ltZ (.ofNat 0) (.ofNat el.length) = false) (k4 : cA m 36 [vI a] h = some (vB b0, h0)) (k5 : (!b0) = false) (k6 : cA m 36 [vI b] h0 = some (vB b1, h1)) (k7 : (!b1) = false) (k8 : ltZ t (.ofNat 0) = false) (k9 : ltZ (.ofNat 2) t = false) (k10 : eqZ o (.ofNat 65) = true) (k11 : ltZ (.ofNat 4294967295) v = false) (k12 : bA m 21 10 [LV.lp 0 0, vI (.ofNat 0), vI o, vI a, vI b, LV.v (AV.int IntKind.u64 v), vI t, vM l, vM bd, vM el, vB q] h1 = some r) :
  bA m 21 7 [.lp 0 0, vI o, vI a, vI b, .v (.int .u64 v), vI t, vM l, vM bd, vM el, vB q] h = some r :=
 bY (qS [111, 119, 152] [115, 126, 132, 138, 143, 148, 1099998] [] [(7, 21, vB b0, h0), (7, 27, vB b1, h1)]) (tZ k0 (uT2 (tZ k1 (uF3 (tZ k2 (uT3 (tA tF (tA tT (tA tF (tZ k3 (uF2 (tA k4 (uF2 (tZ k5 (uF2 (tA k6 (uF2 (tZ k7 (uF3 (tZ k8 (uF3 (tZ k9 (uF3 (tZ k10 (uT2 (tA tF (tA tT (tA tF (tZ k11 (tA t1 (k12))))))))))))))))))))))))))))))) (by kernel_rfl)
theorem r56_7_8 (k0 : (!eqZ o (.ofNat 4)) = true) (k1 : q = false) (k2 : (!q) = true) (k3 : ltZ (.ofNat 0) (.ofNat el.length) = false) (k4 : cA m 36 [vI a] h = some (vB b0, h0)) (k5 : (!b0) = false) (k6 : cA m 36 [vI b] h0 = some (vB b1, h1)) (k7 : (!b1) = false) (k8 : ltZ t (.ofNat 0) = false) (k9 : ltZ (.ofNat 2) t = false) (k10 : eqZ o (.ofNat 65) = false) (k11 : bA m 21 10 [LV.lp 0 0, vI (.ofNat 0), vI o, vI a, vI b, LV.v (AV.int IntKind.u64 v), vI t, vM l, vM bd, vM el, vB q] h1 = some r) :
  bA m 21 7 [.lp 0 0, vI o, vI a, vI b, .v (.int .u64 v), vI t, vM l, vM bd, vM el, vB q] h = some r :=
 bY (qS [111, 119] [115, 126, 132, 138, 143, 148, 152] [] [(7, 21, vB b0, h0), (7, 27, vB b1, h1)]) (tZ k0 (uT2 (tZ k1 (uF3 (tZ k2 (uT3 (tA tF (tA tT (tA tF (tZ k3 (uF2 (tA k4 (uF2 (tZ k5 (uF2 (tA k6 (uF2 (tZ k7 (uF3 (tZ k8 (uF3 (tZ k9 (uF3 (tZ k10 (uF5 (tA t1 (k11))))))))))))))))))))))))))) (by kernel_rfl)
theorem r56_7_16 (k0 : (!eqZ o (.ofNat 4)) = false) (k1 : (!q) = true) (k2 : ltZ (.ofNat 0) (.ofNat el.length) = true) :
  bA m 21 7 [.lp 0 0, vI o, vI a, vI b, .v (.int .u64 v), vI t, vM l, vM bd, vM el, vB q] h = some ((vB false, h)) :=
 bY (qS [119, 126] [111] [] []) (tZ k0 (uF2 (tZ k1 (uT4 (tZ k2 (uT4 (tR ((vB false, h))))))))) (by kernel_rfl)
theorem r56_7_17 (k0 : (!eqZ o (.ofNat 4)) = false) (k1 : (!q) = true) (k2 : ltZ (.ofNat 0) (.ofNat el.length) = false) (k3 : cA m 36 [vI a] h = some (vB b0, h0)) (k4 : (!b0) = true) :
  bA m 21 7 [.lp 0 0, vI o, vI a, vI b, .v (.int .u64 v), vI t, vM l, vM bd, vM el, vB q] h = some ((vB false, h0)) :=
 bY (qS [119, 132] [111, 126] [] [(7, 21, vB b0, h0)]) (tZ k0 (uF2 (tZ k1 (uT4 (tZ k2 (uF2 (tA k3 (uF2 (tZ k4 (uT4 (tR ((vB false, h0))))))))))))) (by kernel_rfl)
theorem r56_7_18 (k0 : (!eqZ o (.ofNat 4)) = false) (k1 : (!q) = true) (k2 : ltZ (.ofNat 0) (.ofNat el.length) = false) (k3 : cA m 36 [vI a] h = some (vB b1, h1)) (k4 : (!b1) = false) (k5 : cA m 36 [vI b] h1 = some (vB b0, h0)) (k6 : (!b0) = true) :
  bA m 21 7 [.lp 0 0, vI o, vI a, vI b, .v (.int .u64 v), vI t, vM l, vM bd, vM el, vB q] h = some ((vB false, h0)) :=
 bY (qS [119, 138] [111, 126, 132] [] [(7, 21, vB b1, h1), (7, 27, vB b0, h0)]) (tZ k0 (uF2 (tZ k1 (uT4 (tZ k2 (uF2 (tA k3 (uF2 (tZ k4 (uF2 (tA k5 (uF2 (tZ k6 (uT3 (tR ((vB false, h0))))))))))))))))) (by kernel_rfl)
theorem r56_7_19 (k0 : (!eqZ o (.ofNat 4)) = false) (k1 : (!q) = true) (k2 : ltZ (.ofNat 0) (.ofNat el.length) = false) (k3 : cA m 36 [vI a] h = some (vB b1, h1)) (k4 : (!b1) = false) (k5 : cA m 36 [vI b] h1 = some (vB b0, h0)) (k6 : (!b0) = false) (k7 : ltZ t (.ofNat 0) = true) :
  bA m 21 7 [.lp 0 0, vI o, vI a, vI b, .v (.int .u64 v), vI t, vM l, vM bd, vM el, vB q] h = some ((vB false, h0)) :=
 bY (qS [119, 143] [111, 126, 132, 138] [] [(7, 21, vB b1, h1), (7, 27, vB b0, h0)]) (tZ k0 (uF2 (tZ k1 (uT4 (tZ k2 (uF2 (tA k3 (uF2 (tZ k4 (uF2 (tA k5 (uF2 (tZ k6 (uF3 (tZ k7 (uT3 (tR ((vB false, h0))))))))))))))))))) (by kernel_rfl)
theorem r56_7_20 (k0 : (!eqZ o (.ofNat 4)) = false) (k1 : (!q) = true) (k2 : ltZ (.ofNat 0) (.ofNat el.length) = false) (k3 : cA m 36 [vI a] h = some (vB b1, h1)) (k4 : (!b1) = false) (k5 : cA m 36 [vI b] h1 = some (vB b0, h0)) (k6 : (!b0) = false) (k7 : ltZ t (.ofNat 0) = false) (k8 : ltZ (.ofNat 2) t = true) :
  bA m 21 7 [.lp 0 0, vI o, vI a, vI b, .v (.int .u64 v), vI t, vM l, vM bd, vM el, vB q] h = some ((vB false, h0)) :=
 bY (qS [119, 148] [111, 126, 132, 138, 143] [] [(7, 21, vB b1, h1), (7, 27, vB b0, h0)]) (tZ k0 (uF2 (tZ k1 (uT4 (tZ k2 (uF2 (tA k3 (uF2 (tZ k4 (uF2 (tA k5 (uF2 (tZ k6 (uF3 (tZ k7 (uF3 (tZ k8 (uT5 (tR ((vB false, h0))))))))))))))))))))) (by kernel_rfl)
theorem r56_7_21 (k0 : (!eqZ o (.ofNat 4)) = false) (k1 : (!q) = true) (k2 : ltZ (.ofNat 0) (.ofNat el.length) = false) (k3 : cA m 36 [vI a] h = some (vB b1, h1)) (k4 : (!b1) = false) (k5 : cA m 36 [vI b] h1 = some (vB b0, h0)) (k6 : (!b0) = false) (k7 : ltZ t (.ofNat 0) = false) (k8 : ltZ (.ofNat 2) t = false) (k9 : eqZ o (.ofNat 65) = true) (k10 : ltZ (.ofNat 4294967295) v = true) :
  bA m 21 7 [.lp 0 0, vI o, vI a, vI b, .v (.int .u64 v), vI t, vM l, vM bd, vM el, vB q] h = some ((vB false, h0)) :=
 bY (qS [119, 152, 1099998] [111, 126, 132, 138, 143, 148] [] [(7, 21, vB b1, h1), (7, 27, vB b0, h0)]) (tZ k0 (uF2 (tZ k1 (uT4 (tZ k2 (uF2 (tA k3 (uF2 (tZ k4 (uF2 (tA k5 (uF2 (tZ k6 (uF3 (tZ k7 (uF3 (tZ k8 (uF3 (tZ k9 (uT2 (tA tF (tA tT (tA tF (tZ k10 (tR ((vB false, h0))))))))))))))))))))))))))) (by kernel_rfl)
theorem r56_7_22 (k0 : (!eqZ o (.ofNat 4)) = false) (k1 : (!q) = true) (k2 : ltZ (.ofNat 0) (.ofNat el.length) = false) (k3 : cA m 36 [vI a] h = some (vB b0, h0)) (k4 : (!b0) = false) (k5 : cA m 36 [vI b] h0 = some (vB b1, h1)) (k6 : (!b1) = false) (k7 : ltZ t (.ofNat 0) = false) (k8 : ltZ (.ofNat 2) t = false) (k9 : eqZ o (.ofNat 65) = true) (k10 : ltZ (.ofNat 4294967295) v = false) (k11 : bA m 21 10 [LV.lp 0 0, vI (.ofNat 0), vI o, vI a, vI b, LV.v (AV.int IntKind.u64 v), vI t, vM l, vM bd, vM el, vB q] h1 = some r) :
  bA m 21 7 [.lp 0 0, vI o, vI a, vI b, .v (.int .u64 v), vI t, vM l, vM bd, vM el, vB q] h = some r :=
 bY (qS [119, 152] [111, 126, 132, 138, 143, 148, 1099998] [] [(7, 21, vB b0, h0), (7, 27, vB b1, h1)]) (tZ k0 (uF2 (tZ k1 (uT4 (tZ k2 (uF2 (tA k3 (uF2 (tZ k4 (uF2 (tA k5 (uF2 (tZ k6 (uF3 (tZ k7 (uF3 (tZ k8 (uF3 (tZ k9 (uT2 (tA tF (tA tT (tA tF (tZ k10 (tA t1 (k11)))))))))))))))))))))))))) (by kernel_rfl)
theorem r56_7_23 (k0 : (!eqZ o (.ofNat 4)) = false) (k1 : (!q) = true) (k2 : ltZ (.ofNat 0) (.ofNat el.length) = false) (k3 : cA m 36 [vI a] h = some (vB b0, h0)) (k4 : (!b0) = false) (k5 : cA m 36 [vI b] h0 = some (vB b1, h1)) (k6 : (!b1) = false) (k7 : ltZ t (.ofNat 0) = false) (k8 : ltZ (.ofNat 2) t = false) (k9 : eqZ o (.ofNat 65) = false) (k10 : bA m 21 10 [LV.lp 0 0, vI (.ofNat 0), vI o, vI a, vI b, LV.v (AV.int IntKind.u64 v), vI t, vM l, vM bd, vM el, vB q] h1 = some r) :
  bA m 21 7 [.lp 0 0, vI o, vI a, vI b, .v (.int .u64 v), vI t, vM l, vM bd, vM el, vB q] h = some r :=
 bY (qS [119] [111, 126, 132, 138, 143, 148, 152] [] [(7, 21, vB b0, h0), (7, 27, vB b1, h1)]) (tZ k0 (uF2 (tZ k1 (uT4 (tZ k2 (uF2 (tA k3 (uF2 (tZ k4 (uF2 (tA k5 (uF2 (tZ k6 (uF3 (tZ k7 (uF3 (tZ k8 (uF3 (tZ k9 (uF5 (tA t1 (k10)))))))))))))))))))))) (by kernel_rfl)
theorem r56_7_24 (k0 : (!eqZ o (.ofNat 4)) = false) (k1 : (!q) = false) (k2 : cA m 36 [vI a] h = some (vB b0, h0)) (k3 : (!b0) = true) :
  bA m 21 7 [.lp 0 0, vI o, vI a, vI b, .v (.int .u64 v), vI t, vM l, vM bd, vM el, vB q] h = some ((vB false, h0)) :=
 bY (qS [132] [111, 119, 126] [] [(7, 21, vB b0, h0)]) (tZ k0 (uF2 (tZ k1 (uF7 (tA k2 (uF2 (tZ k3 (uT4 (tR ((vB false, h0))))))))))) (by kernel_rfl)
theorem r56_7_25 (k0 : (!eqZ o (.ofNat 4)) = false) (k1 : (!q) = false) (k2 : cA m 36 [vI a] h = some (vB b1, h1)) (k3 : (!b1) = false) (k4 : cA m 36 [vI b] h1 = some (vB b0, h0)) (k5 : (!b0) = true) :
  bA m 21 7 [.lp 0 0, vI o, vI a, vI b, .v (.int .u64 v), vI t, vM l, vM bd, vM el, vB q] h = some ((vB false, h0)) :=
 bY (qS [138] [111, 119, 126, 132] [] [(7, 21, vB b1, h1), (7, 27, vB b0, h0)]) (tZ k0 (uF2 (tZ k1 (uF7 (tA k2 (uF2 (tZ k3 (uF2 (tA k4 (uF2 (tZ k5 (uT3 (tR ((vB false, h0))))))))))))))) (by kernel_rfl)
theorem r56_7_26 (k0 : (!eqZ o (.ofNat 4)) = false) (k1 : (!q) = false) (k2 : cA m 36 [vI a] h = some (vB b1, h1)) (k3 : (!b1) = false) (k4 : cA m 36 [vI b] h1 = some (vB b0, h0)) (k5 : (!b0) = false) (k6 : ltZ t (.ofNat 0) = true) :
  bA m 21 7 [.lp 0 0, vI o, vI a, vI b, .v (.int .u64 v), vI t, vM l, vM bd, vM el, vB q] h = some ((vB false, h0)) :=
 bY (qS [143] [111, 119, 126, 132, 138] [] [(7, 21, vB b1, h1), (7, 27, vB b0, h0)]) (tZ k0 (uF2 (tZ k1 (uF7 (tA k2 (uF2 (tZ k3 (uF2 (tA k4 (uF2 (tZ k5 (uF3 (tZ k6 (uT3 (tR ((vB false, h0))))))))))))))))) (by kernel_rfl)
theorem r56_7_27 (k0 : (!eqZ o (.ofNat 4)) = false) (k1 : (!q) = false) (k2 : cA m 36 [vI a] h = some (vB b1, h1)) (k3 : (!b1) = false) (k4 : cA m 36 [vI b] h1 = some (vB b0, h0)) (k5 : (!b0) = false) (k6 : ltZ t (.ofNat 0) = false) (k7 : ltZ (.ofNat 2) t = true) :
  bA m 21 7 [.lp 0 0, vI o, vI a, vI b, .v (.int .u64 v), vI t, vM l, vM bd, vM el, vB q] h = some ((vB false, h0)) :=
 bY (qS [148] [111, 119, 126, 132, 138, 143] [] [(7, 21, vB b1, h1), (7, 27, vB b0, h0)]) (tZ k0 (uF2 (tZ k1 (uF7 (tA k2 (uF2 (tZ k3 (uF2 (tA k4 (uF2 (tZ k5 (uF3 (tZ k6 (uF3 (tZ k7 (uT5 (tR ((vB false, h0))))))))))))))))))) (by kernel_rfl)
theorem r56_7_28 (k0 : (!eqZ o (.ofNat 4)) = false) (k1 : (!q) = false) (k2 : cA m 36 [vI a] h = some (vB b1, h1)) (k3 : (!b1) = false) (k4 : cA m 36 [vI b] h1 = some (vB b0, h0)) (k5 : (!b0) = false) (k6 : ltZ t (.ofNat 0) = false) (k7 : ltZ (.ofNat 2) t = false) (k8 : eqZ o (.ofNat 65) = true) (k9 : ltZ (.ofNat 4294967295) v = true) :
  bA m 21 7 [.lp 0 0, vI o, vI a, vI b, .v (.int .u64 v), vI t, vM l, vM bd, vM el, vB q] h = some ((vB false, h0)) :=
 bY (qS [152, 1099998] [111, 119, 126, 132, 138, 143, 148] [] [(7, 21, vB b1, h1), (7, 27, vB b0, h0)]) (tZ k0 (uF2 (tZ k1 (uF7 (tA k2 (uF2 (tZ k3 (uF2 (tA k4 (uF2 (tZ k5 (uF3 (tZ k6 (uF3 (tZ k7 (uF3 (tZ k8 (uT2 (tA tF (tA tT (tA tF (tZ k9 (tR ((vB false, h0))))))))))))))))))))))))) (by kernel_rfl)
theorem r56_7_29 (k0 : (!eqZ o (.ofNat 4)) = false) (k1 : (!q) = false) (k2 : cA m 36 [vI a] h = some (vB b0, h0)) (k3 : (!b0) = false) (k4 : cA m 36 [vI b] h0 = some (vB b1, h1)) (k5 : (!b1) = false) (k6 : ltZ t (.ofNat 0) = false) (k7 : ltZ (.ofNat 2) t = false) (k8 : eqZ o (.ofNat 65) = true) (k9 : ltZ (.ofNat 4294967295) v = false) (k10 : bA m 21 10 [LV.lp 0 0, vI (.ofNat 0), vI o, vI a, vI b, LV.v (AV.int IntKind.u64 v), vI t, vM l, vM bd, vM el, vB q] h1 = some r) :
  bA m 21 7 [.lp 0 0, vI o, vI a, vI b, .v (.int .u64 v), vI t, vM l, vM bd, vM el, vB q] h = some r :=
 bY (qS [152] [111, 119, 126, 132, 138, 143, 148, 1099998] [] [(7, 21, vB b0, h0), (7, 27, vB b1, h1)]) (tZ k0 (uF2 (tZ k1 (uF7 (tA k2 (uF2 (tZ k3 (uF2 (tA k4 (uF2 (tZ k5 (uF3 (tZ k6 (uF3 (tZ k7 (uF3 (tZ k8 (uT2 (tA tF (tA tT (tA tF (tZ k9 (tA t1 (k10)))))))))))))))))))))))) (by kernel_rfl)
theorem r56_7_30 (k0 : (!eqZ o (.ofNat 4)) = false) (k1 : (!q) = false) (k2 : cA m 36 [vI a] h = some (vB b0, h0)) (k3 : (!b0) = false) (k4 : cA m 36 [vI b] h0 = some (vB b1, h1)) (k5 : (!b1) = false) (k6 : ltZ t (.ofNat 0) = false) (k7 : ltZ (.ofNat 2) t = false) (k8 : eqZ o (.ofNat 65) = false) (k9 : bA m 21 10 [LV.lp 0 0, vI (.ofNat 0), vI o, vI a, vI b, LV.v (AV.int IntKind.u64 v), vI t, vM l, vM bd, vM el, vB q] h1 = some r) :
  bA m 21 7 [.lp 0 0, vI o, vI a, vI b, .v (.int .u64 v), vI t, vM l, vM bd, vM el, vB q] h = some r :=
 bY (qS [] [111, 119, 126, 132, 138, 143, 148, 152] [] [(7, 21, vB b0, h0), (7, 27, vB b1, h1)]) (tZ k0 (uF2 (tZ k1 (uF7 (tA k2 (uF2 (tZ k3 (uF2 (tA k4 (uF2 (tZ k5 (uF3 (tZ k6 (uF3 (tZ k7 (uF3 (tZ k8 (uF5 (tA t1 (k9)))))))))))))))))))) (by kernel_rfl)
end Go.Proofs.YthcjapmfchidhaaGreatDoor
