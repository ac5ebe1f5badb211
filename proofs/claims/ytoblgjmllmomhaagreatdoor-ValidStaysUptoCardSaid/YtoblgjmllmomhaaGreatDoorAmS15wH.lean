/-
  Ways through texts, one by one (printed by a program of this repo).
-/
import Derived.Test.YtoblgjmllmomhaaGreatDoorAmSVwM
import Derived.KernelRfl
namespace Go.Proofs.YtoblgjmllmomhaaGreatDoor
open Go Go.Proofs.Am
variable {m ob ok gv bz o a b v t i0 i1 i2:Int} {L:Nat} {tk l bd el l0 l1:LL} {sg q b0:Bool} {h h0 h1 h2 h3:Heap} {v0 v1 v2 v3:AV}
theorem Qt3 (k0:ldP h (AV.ptr L 6) 1 false=some (aI i0))(k1:cA m 22 [vI i0] h=some (vM l0,h1))(k2:cA m 52 [vP L 0,vM l0] h1=some (LV.tup [],h2))(k3:cA m 93 [vP L 0] h2=some (LV.tup [],h0)):
 bB m 89 [vP L 0,vG [aI ob,aS (sb [114,101,116,117,114,110]),aI ok,aM tk,aI gv,aI bz,aB sg],vG (nC o a b v t l bd el q)] h=some ((LV.tup [],h0)):=
 bY (qS [] [] [] [(3,5,vI i0,Heap.nil),(3,6,vM l0,h1),(3,7,LV.tup [],h2),(4,1,LV.tup [],h0)]) (tA t1 (tA tN (tA t0 (tA k0 (tA k1 (tA k2 (tA k3 (tR ((LV.tup [],h0)))))))))) (by kernel_rfl)
theorem Qt2 (k0:cA m 120 [vP L 0,vG (nC o a b v t l bd el q)] h=some (LV.tup [],h0)):
 bB m 89 [vP L 0,vG [aI ob,aS (sb [98,114,95,116,97,98,108,101]),aI ok,aM tk,aI gv,aI bz,aB sg],vG (nC o a b v t l bd el q)] h=some ((LV.tup [],h0)):=
 bY (qS [] [] [] [(6,2,LV.tup [],h0)]) (tA k0 (tR ((LV.tup [],h0)))) (by kernel_rfl)
theorem Qt5 (k0:cA m 121 [vP L 0,vI a] h=some (LV.tup [aM l0,aB b0],h0))(k1:(!b0)=true):
 bB m 89 [vP L 0,vG [aI ob,aS (sb [98,114,95,105,102]),aI ok,aM tk,aI gv,aI bz,aB sg],vG (nC o a b v t l bd el q)] h=some ((LV.tup [],h0)):=
 bY (qS [35] [] [] [(7,3,LV.tup [aM l0,aB b0],h0)]) (tA k0 (tZ k1 (tR ((LV.tup [],h0))))) (by kernel_rfl)
theorem Qt4 (k0:cA m 121 [vP L 0,vI a] h=some (LV.tup [aM l0,aB b0],h1))(k1:(!b0)=false)(k2:cA m 96 [vP L 0,vI (.ofNat 1)] h1=some (vI i0,h2))(k3:cA m 52 [vP L 0,vM l0] h2=some (LV.tup [],h3))(k4:cA m 55 [vP L 0,vM l0] h3=some (LV.tup [],h0)):
 bB m 89 [vP L 0,vG [aI ob,aS (sb [98,114,95,105,102]),aI ok,aM tk,aI gv,aI bz,aB sg],vG (nC o a b v t l bd el q)] h=some ((LV.tup [],h0)):=
 bY (qS [] [35] [] [(7,3,LV.tup [aM l0,aB b0],h1),(10,1,vI i0,h2),(11,2,LV.tup [],h3),(12,2,LV.tup [],h0)]) (tA k0 (tZ k1 (tA k2 (tA k3 (tA k4 (tR ((LV.tup [],h0)))))))) (by kernel_rfl)
theorem Qt7 (k0:cA m 121 [vP L 0,vI a] h=some (LV.tup [aM l0,aB b0],h0))(k1:(!b0)=true):
 bB m 89 [vP L 0,vG [aI ob,aS (sb [98,114]),aI ok,aM tk,aI gv,aI bz,aB sg],vG (nC o a b v t l bd el q)] h=some ((LV.tup [],h0)):=
 bY (qS [35] [] [] [(7,3,LV.tup [aM l0,aB b0],h0)]) (tA k0 (tZ k1 (tR ((LV.tup [],h0))))) (by kernel_rfl)
theorem Qt6 (k0:cA m 121 [vP L 0,vI a] h=some (LV.tup [aM l0,aB b0],h1))(k1:(!b0)=false)(k2:cA m 52 [vP L 0,vM l0] h1=some (LV.tup [],h2))(k3:cA m 93 [vP L 0] h2=some (LV.tup [],h0)):
 bB m 89 [vP L 0,vG [aI ob,aS (sb [98,114]),aI ok,aM tk,aI gv,aI bz,aB sg],vG (nC o a b v t l bd el q)] h=some ((LV.tup [],h0)):=
 bY (qS [] [35] [] [(7,3,LV.tup [aM l0,aB b0],h1),(13,2,LV.tup [],h2),(14,1,LV.tup [],h0)]) (tA k0 (tZ k1 (tA k2 (tA k3 (tR ((LV.tup [],h0))))))) (by kernel_rfl)
theorem Qt1 (k0:ldP h (AV.ptr L 1) 1 false=some v0)(k1:lnS v0=some i0)(k2:leZ i0 a=true)(k3:cA m 54 [vP L 0,vF 56 (aI (.ofNat 5))] h=some (LV.tup [],h0)):
 bB m 90 [vP L 0,vG [aI ob,aS (sb [99,97,108,108]),aI ok,aM tk,aI gv,aI bz,aB sg],vG (nC o a b v t l bd el q)] h=some ((LV.tup [],h0)):=
 bY (qS [20] [] [(3,6,(vI i0))] [(3,5,LV.v v0,Heap.nil),(4,2,LV.tup [],h0)]) (tA t1 (tA tN (tA t0 (tA k0 (tA k1 (tZ k2 (tA k3 (tR ((LV.tup [],h0)))))))))) (by kernel_rfl)
theorem Qt0 (k0:ldP h (AV.ptr L 1) 1 false=some v0)(k1:lnS v0=some i0)(k2:leZ i0 a=false)(k3:ldP h (AV.ptr L 1) 1 false=some v1)(k4:ixA v1 a 1=some [aI i1])(k5:ltZ i1 (.ofNat 0)=true)(k6:cA m 54 [vP L 0,vF 56 (aI (.ofNat 5))] h=some (LV.tup [],h0)):
 bB m 90 [vP L 0,vG [aI ob,aS (sb [99,97,108,108]),aI ok,aM tk,aI gv,aI bz,aB sg],vG (nC o a b v t l bd el q)] h=some ((LV.tup [],h0)):=
 bY (qS [34] [20] [(3,6,(vI i0)),(5,6,(LV.v (AV.snap [aI i1])))] [(3,5,LV.v v0,Heap.nil),(5,4,LV.v v1,Heap.nil),(7,2,LV.tup [],h0)]) (tA t1 (tA tN (tA t0 (tA k0 (tA k1 (tZ k2 (tA t1 (tA tN (tA t0 (tA k3 (tA (tA t0 (tA tN (k4))) (tZ k5 (uT8 (tA k6 (tR ((LV.tup [],h0))))))))))))))))) (by kernel_rfl)
theorem QtZ (k0:ldP h (AV.ptr L 1) 1 false=some v0)(k1:lnS v0=some i1)(k2:leZ i1 a=false)(k3:ldP h (AV.ptr L 1) 1 false=some v1)(k4:ixA v1 a 1=some [aI i0])(k5:ltZ i0 (.ofNat 0)=false)(k6:ldP h (AV.ptr L 0) 1 false=some v2)(k7:lnS v2=some i2)(k8:leZ i2 i0=true)(k9:cA m 54 [vP L 0,vF 56 (aI (.ofNat 5))] h=some (LV.tup [],h0)):
 bB m 90 [vP L 0,vG [aI ob,aS (sb [99,97,108,108]),aI ok,aM tk,aI gv,aI bz,aB sg],vG (nC o a b v t l bd el q)] h=some ((LV.tup [],h0)):=
 bY (qS [44] [20,34] [(3,6,(vI i1)),(5,6,(LV.v (AV.snap [aI i0]))),(6,9,(vI i2))] [(3,5,LV.v v0,Heap.nil),(5,4,LV.v v1,Heap.nil),(6,8,LV.v v2,Heap.nil),(7,2,LV.tup [],h0)]) (tA t1 (tA tN (tA t0 (tA k0 (tA k1 (tZ k2 (tA t1 (tA tN (tA t0 (tA k3 (tA (tA t0 (tA tN (k4))) (tZ k5 (uF5 (tA t1 (tA tN (tA t0 (tA k6 (tA tF (tA k7 (uF2 (tZ k8 (uT5 (tA k9 (tR ((LV.tup [],h0)))))))))))))))))))))))))) (by kernel_rfl)
theorem QtY (k0:ldP h (AV.ptr L 1) 1 false=some v0)(k1:lnS v0=some i1)(k2:leZ i1 a=false)(k3:ldP h (AV.ptr L 1) 1 false=some v1)(k4:ixA v1 a 1=some [aI i0])(k5:ltZ i0 (.ofNat 0)=false)(k6:ldP h (AV.ptr L 0) 1 false=some v2)(k7:lnS v2=some i2)(k8:leZ i2 i0=false)(k9:ldP h (AV.ptr L 0) 1 false=some v3)(k10:ixA v3 i0 2=some [aM l1,aM l0])(k11:ltZ (.ofNat 1) (.ofNat l0.length)=true)(k12:cA m 54 [vP L 0,vF 56 (aI (.ofNat 4))] h=some (LV.tup [],h1))(k13:cA m 52 [vP L 0,vM l1] h1=some (LV.tup [],h2))(k14:cA m 55 [vP L 0,vM l0] h2=some (LV.tup [],h0)):
 bB m 90 [vP L 0,vG [aI ob,aS (sb [99,97,108,108]),aI ok,aM tk,aI gv,aI bz,aB sg],vG (nC o a b v t l bd el q)] h=some ((LV.tup [],h0)):=
 bY (qS [71] [20,34,44] [(3,6,(vI i1)),(5,6,(LV.v (AV.snap [aI i0]))),(6,9,(vI i2)),(8,6,(LV.v (AV.snap [aM l1,aM l0])))] [(3,5,LV.v v0,Heap.nil),(5,4,LV.v v1,Heap.nil),(6,8,LV.v v2,Heap.nil),(8,4,LV.v v3,Heap.nil),(10,2,LV.tup [],h1),(13,3,LV.tup [],h2),(14,3,LV.tup [],h0)]) (tA t1 (tA tN (tA t0 (tA k0 (tA k1 (tZ k2 (tA t1 (tA tN (tA t0 (tA k3 (tA (tA t0 (tA tN (k4))) (tZ k5 (uF5 (tA t1 (tA tN (tA t0 (tA k6 (tA tF (tA k7 (uF2 (tZ k8 (uF5 (tA t1 (tA tN (tA t0 (tA k9 (tA (tA t0 (tA tN (k10))) (tZ k11 (tA k12 (tA k13 (tA k14 (tR ((LV.tup [],h0)))))))))))))))))))))))))))))))))) (by kernel_rfl)
theorem QtX (k0:ldP h (AV.ptr L 1) 1 false=some v0)(k1:lnS v0=some i1)(k2:leZ i1 a=false)(k3:ldP h (AV.ptr L 1) 1 false=some v1)(k4:ixA v1 a 1=some [aI i0])(k5:ltZ i0 (.ofNat 0)=false)(k6:ldP h (AV.ptr L 0) 1 false=some v2)(k7:lnS v2=some i2)(k8:leZ i2 i0=false)(k9:ldP h (AV.ptr L 0) 1 false=some v3)(k10:ixA v3 i0 2=some [aM l1,aM l0])(k11:ltZ (.ofNat 1) (.ofNat l0.length)=false)(k12:cA m 52 [vP L 0,vM l1] h=some (LV.tup [],h1))(k13:cA m 55 [vP L 0,vM l0] h1=some (LV.tup [],h0)):
 bB m 90 [vP L 0,vG [aI ob,aS (sb [99,97,108,108]),aI ok,aM tk,aI gv,aI bz,aB sg],vG (nC o a b v t l bd el q)] h=some ((LV.tup [],h0)):=
 bY (qS [] [20,34,44,71] [(3,6,(vI i1)),(5,6,(LV.v (AV.snap [aI i0]))),(6,9,(vI i2)),(8,6,(LV.v (AV.snap [aM l1,aM l0])))] [(3,5,LV.v v0,Heap.nil),(5,4,LV.v v1,Heap.nil),(6,8,LV.v v2,Heap.nil),(8,4,LV.v v3,Heap.nil),(13,3,LV.tup [],h1),(14,3,LV.tup [],h0)]) (tA t1 (tA tN (tA t0 (tA k0 (tA k1 (tZ k2 (tA t1 (tA tN (tA t0 (tA k3 (tA (tA t0 (tA tN (k4))) (tZ k5 (uF5 (tA t1 (tA tN (tA t0 (tA k6 (tA tF (tA k7 (uF2 (tZ k8 (uF5 (tA t1 (tA tN (tA t0 (tA k9 (tA (tA t0 (tA tN (k10))) (tZ k11 (tA k12 (tA k13 (tR ((LV.tup [],h0))))))))))))))))))))))))))))))))) (by kernel_rfl)
theorem QtW (k0:ltZ a (.ofNat 0)=true)(k1:cA m 54 [vP L 0,vF 56 (aI (.ofNat 5))] h=some (LV.tup [],h0)):
 bB m 90 [vP L 0,vG [aI ob,aS (sb [99,97,108,108,95,105,110,100,105,114,101,99,116]),aI ok,aM tk,aI gv,aI bz,aB sg],vG (nC o a b v t l bd el q)] h=some ((LV.tup [],h0)):=
 bY (qS [34] [] [] [(7,2,LV.tup [],h0)]) (tZ k0 (uT8 (tA k1 (tR ((LV.tup [],h0)))))) (by kernel_rfl)
theorem QtV (k0:ltZ a (.ofNat 0)=false)(k1:ldP h (AV.ptr L 0) 1 false=some v0)(k2:lnS v0=some i0)(k3:leZ i0 a=true)(k4:cA m 54 [vP L 0,vF 56 (aI (.ofNat 5))] h=some (LV.tup [],h0)):
 bB m 90 [vP L 0,vG [aI ob,aS (sb [99,97,108,108,95,105,110,100,105,114,101,99,116]),aI ok,aM tk,aI gv,aI bz,aB sg],vG (nC o a b v t l bd el q)] h=some ((LV.tup [],h0)):=
 bY (qS [44] [34] [(6,9,(vI i0))] [(6,8,LV.v v0,Heap.nil),(7,2,LV.tup [],h0)]) (tZ k0 (uF5 (tA t1 (tA tN (tA t0 (tA k1 (tA tF (tA k2 (uF2 (tZ k3 (uT5 (tA k4 (tR ((LV.tup [],h0))))))))))))))) (by kernel_rfl)
theorem QtU (k0:ltZ a (.ofNat 0)=false)(k1:ldP h (AV.ptr L 0) 1 false=some v0)(k2:lnS v0=some i0)(k3:leZ i0 a=false)(k4:ldP h (AV.ptr L 3) 1 false=some (aB b0))(k5:(!b0)=true)(k6:cA m 54 [vP L 0,vF 56 (aI (.ofNat 5))] h=some (LV.tup [],h0)):
 bB m 90 [vP L 0,vG [aI ob,aS (sb [99,97,108,108,95,105,110,100,105,114,101,99,116]),aI ok,aM tk,aI gv,aI bz,aB sg],vG (nC o a b v t l bd el q)] h=some ((LV.tup [],h0)):=
 bY (qS [48,56] [34,44] [(6,9,(vI i0))] [(6,8,LV.v v0,Heap.nil),(6,21,vB b0,Heap.nil),(7,2,LV.tup [],h0)]) (tZ k0 (uF5 (tA t1 (tA tN (tA t0 (tA k1 (tA tF (tA k2 (uF2 (tZ k3 (uF3 (uT5 (tA t1 (tA tN (tA t0 (tA k4 (tA tT (tA tF (tA tT (tA tF (tZ k5 (tA k6 (tR ((LV.tup [],h0))))))))))))))))))))))))) (by kernel_rfl)
theorem QtT (k0:ltZ a (.ofNat 0)=false)(k1:ldP h (AV.ptr L 0) 1 false=some v0)(k2:lnS v0=some i1)(k3:leZ i1 a=false)(k4:ldP h (AV.ptr L 3) 1 false=some (aB b0))(k5:(!b0)=false)(k6:ldP h (AV.ptr L 0) 1 false=some v1)(k7:ixA v1 a 2=some [aM l1,aM l0])(k8:ltZ (.ofNat 1) (.ofNat l0.length)=true)(k9:cA m 54 [vP L 0,vF 56 (aI (.ofNat 4))] h=some (LV.tup [],h1))(k10:cA m 96 [vP L 0,vI (.ofNat 1)] h1=some (vI i0,h2))(k11:cA m 52 [vP L 0,vM l1] h2=some (LV.tup [],h3))(k12:cA m 55 [vP L 0,vM l0] h3=some (LV.tup [],h0)):
 bB m 90 [vP L 0,vG [aI ob,aS (sb [99,97,108,108,95,105,110,100,105,114,101,99,116]),aI ok,aM tk,aI gv,aI bz,aB sg],vG (nC o a b v t l bd el q)] h=some ((LV.tup [],h0)):=
 bY (qS [48,71] [34,44,56] [(6,9,(vI i1)),(8,6,(LV.v (AV.snap [aM l1,aM l0])))] [(6,8,LV.v v0,Heap.nil),(6,21,vB b0,Heap.nil),(8,4,LV.v v1,Heap.nil),(10,2,LV.tup [],h1),(12,1,vI i0,h2),(13,3,LV.tup [],h3),(14,3,LV.tup [],h0)]) (tZ k0 (uF5 (tA t1 (tA tN (tA t0 (tA k1 (tA tF (tA k2 (uF2 (tZ k3 (uF3 (uT5 (tA t1 (tA tN (tA t0 (tA k4 (tA tT (tA tF (tA tT (tA tF (tZ k5 (tA t1 (tA tN (tA t0 (tA k6 (tA (tA t0 (tA tN (k7))) (tZ k8 (tA k9 (tA k10 (tA k11 (tA k12 (tR ((LV.tup [],h0)))))))))))))))))))))))))))))))))) (by kernel_rfl)
theorem QtS (k0:ltZ a (.ofNat 0)=false)(k1:ldP h (AV.ptr L 0) 1 false=some v0)(k2:lnS v0=some i1)(k3:leZ i1 a=false)(k4:ldP h (AV.ptr L 3) 1 false=some (aB b0))(k5:(!b0)=false)(k6:ldP h (AV.ptr L 0) 1 false=some v1)(k7:ixA v1 a 2=some [aM l1,aM l0])(k8:ltZ (.ofNat 1) (.ofNat l0.length)=false)(k9:cA m 96 [vP L 0,vI (.ofNat 1)] h=some (vI i0,h1))(k10:cA m 52 [vP L 0,vM l1] h1=some (LV.tup [],h2))(k11:cA m 55 [vP L 0,vM l0] h2=some (LV.tup [],h0)):
 bB m 90 [vP L 0,vG [aI ob,aS (sb [99,97,108,108,95,105,110,100,105,114,101,99,116]),aI ok,aM tk,aI gv,aI bz,aB sg],vG (nC o a b v t l bd el q)] h=some ((LV.tup [],h0)):=
 bY (qS [48] [34,44,56,71] [(6,9,(vI i1)),(8,6,(LV.v (AV.snap [aM l1,aM l0])))] [(6,8,LV.v v0,Heap.nil),(6,21,vB b0,Heap.nil),(8,4,LV.v v1,Heap.nil),(12,1,vI i0,h1),(13,3,LV.tup [],h2),(14,3,LV.tup [],h0)]) (tZ k0 (uF5 (tA t1 (tA tN (tA t0 (tA k1 (tA tF (tA k2 (uF2 (tZ k3 (uF3 (uT5 (tA t1 (tA tN (tA t0 (tA k4 (tA tT (tA tF (tA tT (tA tF (tZ k5 (tA t1 (tA tN (tA t0 (tA k6 (tA (tA t0 (tA tN (k7))) (tZ k8 (tA k9 (tA k10 (tA k11 (tR ((LV.tup [],h0))))))))))))))))))))))))))))))))) (by kernel_rfl)
theorem QtR (k0:cA m 96 [vP L 0,vI (Int.negSucc 0)] h=some (vI i0,h0)):
 bB m 91 [vP L 0,vG [aI ob,aS (sb [100,114,111,112]),aI ok,aM tk,aI gv,aI bz,aB sg]] h=some ((LV.tup [],h0)):=
 bY (qS [] [] [] [(2,1,vI i0,h0)]) (tA k0 (tR ((LV.tup [],h0)))) (by kernel_rfl)
theorem QtQ (k0:cA m 96 [vP L 0,vI (.ofNat 1)] h=some (vI i2,h1))(k1:cA m 96 [vP L 0,vI (Int.negSucc 0)] h1=some (vI i0,h2))(k2:cA m 96 [vP L 0,vI i0] h2=some (vI i1,h3))(k3:cA m 55 [vP L 0,vM [[aI i1]]] h3=some (LV.tup [],h0)):
 bB m 91 [vP L 0,vG [aI ob,aS (sb [115,101,108,101,99,116]),aI ok,aM tk,aI gv,aI bz,aB sg]] h=some ((LV.tup [],h0)):=
 bY (qS [] [] [] [(3,1,vI i2,h1),(4,1,vI i0,h2),(5,3,vI i1,h3),(5,5,LV.tup [],h0)]) (tA k0 (tA k1 (tA k2 (tA k3 (tR ((LV.tup [],h0))))))) (by kernel_rfl)
end Go.Proofs.YtoblgjmllmomhaaGreatDoor
namespace Go.Proofs.YtoblgjmllmomhaaGreatDoor
open Go Go.Proofs.Am
variable {m ok gv bz o a b v t ob i0 i1 i2 i3 i4 i5 i6 i7 i8 i9 i10 i11 i12 i13:Int} {L:Nat} {tk l bd el l0 l1 l2 l3 l4 l5:LL} {sg q b0 b1 b2 b3:Bool} {h h0 h1 h2 h3 h4 h5:Heap} {v0 v1 v2:AV}
theorem QmG (k0:ldP h (AV.ptr L 5) 1 false=some v0)(k1:lnS v0=some i0)(k2:ltZ a i0=true)(k3:ldP h (AV.ptr L 5) 1 false=some v1)(k4:ixA v1 a 1=some [aI i1])(k5:cA m 55 [vP L 0,vM [[aI i1]]] h=some (LV.tup [],h0)):
 bB m 92 [vP L 0,vG [aI (32),aS (sb [108,111,99,97,108,46,103,101,116]),aI ok,aM tk,aI gv,aI bz,aB sg],vG (nC o a b v t l bd el q)] h=some ((LV.tup [],h0)):=
 bY (qS [15,11] [] [(3,11,(vI i0)),(4,7,(LV.v (AV.snap [aI i1])))] [(3,10,LV.v v0,Heap.nil),(4,4,LV.v v1,Heap.nil),(13,3,LV.tup [],h0)]) (uT7 (tA t1 (tA tN (tA t0 (tA k0 (tA tT (tA k1 (uT2 (tZ k2 (tA t1 (tA tN (tA t0 (tA k3 (tA (tA t0 (tA tN (k4))) (tA k5 (tR ((LV.tup [],h0)))))))))))))))))) (by kernel_rfl)
theorem QmF (k0:ldP h (AV.ptr L 5) 1 false=some v0)(k1:lnS v0=some i0)(k2:ltZ a i0=false)(k3:cA m 54 [vP L 0,vF 56 (aI (.ofNat 5))] h=some (LV.tup [],h0)):
 bB m 92 [vP L 0,vG [aI (32),aS (sb [108,111,99,97,108,46,103,101,116]),aI ok,aM tk,aI gv,aI bz,aB sg],vG (nC o a b v t l bd el q)] h=some ((LV.tup [],h0)):=
 bY (qS [15] [11] [(3,11,(vI i0))] [(3,10,LV.v v0,Heap.nil),(2,2,LV.tup [],h0)]) (uT7 (tA t1 (tA tN (tA t0 (tA k0 (tA tT (tA k1 (uT2 (tZ k2 (tA k3 (tR ((LV.tup [],h0))))))))))))) (by kernel_rfl)
theorem QmE (k0:ldP h (AV.ptr L 5) 1 false=some v0)(k1:lnS v0=some i1)(k2:ltZ a i1=true)(k3:ldP h (AV.ptr L 5) 1 false=some v1)(k4:ixA v1 a 1=some [aI i2])(k5:cA m 96 [vP L 0,vI i2] h=some (vI i0,h0)):
 bB m 92 [vP L 0,vG [aI (33),aS (sb [108,111,99,97,108,46,115,101,116]),aI ok,aM tk,aI gv,aI bz,aB sg],vG (nC o a b v t l bd el q)] h=some ((LV.tup [],h0)):=
 bY (qS [15,11] [] [(3,11,(vI i1)),(4,7,(LV.v (AV.snap [aI i2])))] [(3,10,LV.v v0,Heap.nil),(4,4,LV.v v1,Heap.nil),(10,2,vI i0,h0)]) (uT7 (tA t1 (tA tN (tA t0 (tA k0 (tA tT (tA k1 (uT2 (tZ k2 (tA t1 (tA tN (tA t0 (tA k3 (tA (tA t0 (tA tN (k4))) (tA k5 (tR ((LV.tup [],h0)))))))))))))))))) (by kernel_rfl)
theorem QmD (k0:ldP h (AV.ptr L 5) 1 false=some v0)(k1:lnS v0=some i0)(k2:ltZ a i0=false)(k3:cA m 54 [vP L 0,vF 56 (aI (.ofNat 5))] h=some (LV.tup [],h0)):
 bB m 92 [vP L 0,vG [aI (33),aS (sb [108,111,99,97,108,46,115,101,116]),aI ok,aM tk,aI gv,aI bz,aB sg],vG (nC o a b v t l bd el q)] h=some ((LV.tup [],h0)):=
 bY (qS [15] [11] [(3,11,(vI i0))] [(3,10,LV.v v0,Heap.nil),(2,2,LV.tup [],h0)]) (uT7 (tA t1 (tA tN (tA t0 (tA k0 (tA tT (tA k1 (uT2 (tZ k2 (tA k3 (tR ((LV.tup [],h0))))))))))))) (by kernel_rfl)
theorem QmC (k0:ldP h (AV.ptr L 5) 1 false=some v0)(k1:lnS v0=some i2)(k2:ltZ a i2=true)(k3:ldP h (AV.ptr L 5) 1 false=some v1)(k4:ixA v1 a 1=some [aI i1])(k5:cA m 96 [vP L 0,vI i1] h=some (vI i0,h1))(k6:cA m 55 [vP L 0,vM [[aI i1]]] h1=some (LV.tup [],h0)):
 bB m 92 [vP L 0,vG [aI (34),aS (sb [108,111,99,97,108,46,116,101,101]),aI ok,aM tk,aI gv,aI bz,aB sg],vG (nC o a b v t l bd el q)] h=some ((LV.tup [],h0)):=
 bY (qS [15,11] [] [(3,11,(vI i2)),(4,7,(LV.v (AV.snap [aI i1])))] [(3,10,LV.v v0,Heap.nil),(4,4,LV.v v1,Heap.nil),(15,2,vI i0,h1),(16,3,LV.tup [],h0)]) (uT7 (tA t1 (tA tN (tA t0 (tA k0 (tA tT (tA k1 (uT2 (tZ k2 (tA t1 (tA tN (tA t0 (tA k3 (tA (tA t0 (tA tN (k4))) (tA k5 (tA k6 (tR ((LV.tup [],h0))))))))))))))))))) (by kernel_rfl)
theorem QmB (k0:ldP h (AV.ptr L 5) 1 false=some v0)(k1:lnS v0=some i0)(k2:ltZ a i0=false)(k3:cA m 54 [vP L 0,vF 56 (aI (.ofNat 5))] h=some (LV.tup [],h0)):
 bB m 92 [vP L 0,vG [aI (34),aS (sb [108,111,99,97,108,46,116,101,101]),aI ok,aM tk,aI gv,aI bz,aB sg],vG (nC o a b v t l bd el q)] h=some ((LV.tup [],h0)):=
 bY (qS [15] [11] [(3,11,(vI i0))] [(3,10,LV.v v0,Heap.nil),(2,2,LV.tup [],h0)]) (uT7 (tA t1 (tA tN (tA t0 (tA k0 (tA tT (tA k1 (uT2 (tZ k2 (tA k3 (tR ((LV.tup [],h0))))))))))))) (by kernel_rfl)
theorem QmA (k0:ldP h (AV.ptr L 2) 1 false=some v0)(k1:lnS v0=some i0)(k2:ltZ a i0=true)(k3:ldP h (AV.ptr L 2) 1 false=some v1)(k4:ixA v1 a 11=some ([aI i1,aB b0]++nC i2 i3 i4 i5 i6 l0 l1 l2 b2))(k5:ldP h (AV.ptr L 2) 1 false=some v2)(k6:ixA v2 a 11=some ([aI i7,aB b1]++nC i8 i9 i10 i11 i12 l3 l4 l5 b3))(k7:cA m 55 [vP L 0,vM [[aI i1]]] h=some (LV.tup [],h0)):
 bB m 92 [vP L 0,vG [aI (35),aS (sb [103,108,111,98,97,108,46,103,101,116]),aI ok,aM tk,aI gv,aI bz,aB sg],vG (nC o a b v t l bd el q)] h=some ((LV.tup [],h0)):=
 bY (qS [39,35] [] [(5,11,(vI i0)),(6,7,(LV.v (AV.snap ([aI i1,aB b0]++nC i2 i3 i4 i5 i6 l0 l1 l2 b2)))),(6,17,(LV.v (AV.snap ([aI i7,aB b1]++nC i8 i9 i10 i11 i12 l3 l4 l5 b3))))] [(5,10,LV.v v0,Heap.nil),(6,4,LV.v v1,Heap.nil),(6,14,LV.v v2,Heap.nil),(13,3,LV.tup [],h0)]) (uT7 (tA t1 (tA tN (tA t0 (tA k0 (tA tT (tA k1 (uT2 (tZ k2 (tA t1 (tA tN (tA t0 (tA k3 (tA (tA t0 (tA tN (k4))) (tA t1 (tA tN (tA t0 (tA k5 (tA (tA t0 (tA tN (k6))) (tA k7 (tR ((LV.tup [],h0))))))))))))))))))))))) (by kernel_rfl)
theorem Qmz (k0:ldP h (AV.ptr L 2) 1 false=some v0)(k1:lnS v0=some i0)(k2:ltZ a i0=false)(k3:cA m 54 [vP L 0,vF 56 (aI (.ofNat 5))] h=some (LV.tup [],h0)):
 bB m 92 [vP L 0,vG [aI (35),aS (sb [103,108,111,98,97,108,46,103,101,116]),aI ok,aM tk,aI gv,aI bz,aB sg],vG (nC o a b v t l bd el q)] h=some ((LV.tup [],h0)):=
 bY (qS [39] [35] [(5,11,(vI i0))] [(5,10,LV.v v0,Heap.nil),(2,2,LV.tup [],h0)]) (uT7 (tA t1 (tA tN (tA t0 (tA k0 (tA tT (tA k1 (uT2 (tZ k2 (tA k3 (tR ((LV.tup [],h0))))))))))))) (by kernel_rfl)
theorem Qmy (k0:ldP h (AV.ptr L 2) 1 false=some v0)(k1:lnS v0=some i1)(k2:ltZ a i1=true)(k3:ldP h (AV.ptr L 2) 1 false=some v1)(k4:ixA v1 a 11=some ([aI i2,aB b1]++nC i3 i4 i5 i6 i7 l0 l1 l2 b2))(k5:ldP h (AV.ptr L 2) 1 false=some v2)(k6:ixA v2 a 11=some ([aI i8,aB b0]++nC i9 i10 i11 i12 i13 l3 l4 l5 b3))(k7:(!b0)=true)(k8:cA m 54 [vP L 0,vF 56 (aI (.ofNat 4))] h=some (LV.tup [],h1))(k9:cA m 96 [vP L 0,vI i2] h1=some (vI i0,h0)):
 bB m 92 [vP L 0,vG [aI (36),aS (sb [103,108,111,98,97,108,46,115,101,116]),aI ok,aM tk,aI gv,aI bz,aB sg],vG (nC o a b v t l bd el q)] h=some ((LV.tup [],h0)):=
 bY (qS [39,35,74] [] [(5,11,(vI i1)),(6,7,(LV.v (AV.snap ([aI i2,aB b1]++nC i3 i4 i5 i6 i7 l0 l1 l2 b2)))),(6,17,(LV.v (AV.snap ([aI i8,aB b0]++nC i9 i10 i11 i12 i13 l3 l4 l5 b3))))] [(5,10,LV.v v0,Heap.nil),(6,4,LV.v v1,Heap.nil),(6,14,LV.v v2,Heap.nil),(9,2,LV.tup [],h1),(10,2,vI i0,h0)]) (uT7 (tA t1 (tA tN (tA t0 (tA k0 (tA tT (tA k1 (uT2 (tZ k2 (tA t1 (tA tN (tA t0 (tA k3 (tA (tA t0 (tA tN (k4))) (tA t1 (tA tN (tA t0 (tA k5 (tA (tA t0 (tA tN (k6))) (tZ k7 (uT3 (tA k8 (tA k9 (tR ((LV.tup [],h0)))))))))))))))))))))))))) (by kernel_rfl)
theorem Qmx (k0:ldP h (AV.ptr L 2) 1 false=some v0)(k1:lnS v0=some i1)(k2:ltZ a i1=true)(k3:ldP h (AV.ptr L 2) 1 false=some v1)(k4:ixA v1 a 11=some ([aI i2,aB b1]++nC i3 i4 i5 i6 i7 l0 l1 l2 b2))(k5:ldP h (AV.ptr L 2) 1 false=some v2)(k6:ixA v2 a 11=some ([aI i8,aB b0]++nC i9 i10 i11 i12 i13 l3 l4 l5 b3))(k7:(!b0)=false)(k8:cA m 96 [vP L 0,vI i2] h=some (vI i0,h0)):
 bB m 92 [vP L 0,vG [aI (36),aS (sb [103,108,111,98,97,108,46,115,101,116]),aI ok,aM tk,aI gv,aI bz,aB sg],vG (nC o a b v t l bd el q)] h=some ((LV.tup [],h0)):=
 bY (qS [39,35] [74] [(5,11,(vI i1)),(6,7,(LV.v (AV.snap ([aI i2,aB b1]++nC i3 i4 i5 i6 i7 l0 l1 l2 b2)))),(6,17,(LV.v (AV.snap ([aI i8,aB b0]++nC i9 i10 i11 i12 i13 l3 l4 l5 b3))))] [(5,10,LV.v v0,Heap.nil),(6,4,LV.v v1,Heap.nil),(6,14,LV.v v2,Heap.nil),(10,2,vI i0,h0)]) (uT7 (tA t1 (tA tN (tA t0 (tA k0 (tA tT (tA k1 (uT2 (tZ k2 (tA t1 (tA tN (tA t0 (tA k3 (tA (tA t0 (tA tN (k4))) (tA t1 (tA tN (tA t0 (tA k5 (tA (tA t0 (tA tN (k6))) (tZ k7 (uF3 (tA k8 (tR ((LV.tup [],h0))))))))))))))))))))))))) (by kernel_rfl)
theorem Qmw (k0:ldP h (AV.ptr L 2) 1 false=some v0)(k1:lnS v0=some i0)(k2:ltZ a i0=false)(k3:cA m 54 [vP L 0,vF 56 (aI (.ofNat 5))] h=some (LV.tup [],h0)):
 bB m 92 [vP L 0,vG [aI (36),aS (sb [103,108,111,98,97,108,46,115,101,116]),aI ok,aM tk,aI gv,aI bz,aB sg],vG (nC o a b v t l bd el q)] h=some ((LV.tup [],h0)):=
 bY (qS [39] [35] [(5,11,(vI i0))] [(5,10,LV.v v0,Heap.nil),(2,2,LV.tup [],h0)]) (uT7 (tA t1 (tA tN (tA t0 (tA k0 (tA tT (tA k1 (uT2 (tZ k2 (tA k3 (tR ((LV.tup [],h0))))))))))))) (by kernel_rfl)
theorem Quf (k0:cA m 22 [vI t] h=some (vM l0,h2))(k1:cA m 21 [vP L 0,vM bd,vM l0,vM l0] h2=some (LV.tup [],h0))(k2:q=true)(k3:ldP h0 (AV.ptr L 9) 1 false=some v0)(k4:qE m v0 b0)(k5:b0=true)(k6:cA m 52 [vP L 0,vM l0] h0=some (LV.tup [],h3))(k7:cA m 21 [vP L 0,vM el,vM l0,vM l0] h3=some (LV.tup [],h1)):
 bB m 88 [vP L 0,vG [aI ob,aS (sb [98,108,111,99,107]),aI ok,aM tk,aI gv,aI bz,aB sg],vG (nC o a b v t l bd el q)] h=some ((LV.tup [],h1)):=
 bY (qS [42,48] [] [(10,7,(vB b0))] [(1,2,vM l0,h2),(9,5,LV.tup [],h0),(10,6,LV.v v0,Heap.nil),(11,2,LV.tup [],h3),(12,5,LV.tup [],h1)]) (tA k0 (tA k1 (tZ k2 (uT3 (tA t1 (tA tN (tA t0 (tA k3 (tA tT (tA k4 (tA tT (tZ k5 (tA k6 (tA k7 (tR ((LV.tup [],h1))))))))))))))))) (by kernel_rfl)
theorem Que (k0:cA m 22 [vI t] h=some (vM l0,h1))(k1:cA m 21 [vP L 0,vM bd,vM l0,vM l0] h1=some (LV.tup [],h0))(k2:q=true)(k3:ldP h0 (AV.ptr L 9) 1 false=some v0)(k4:qE m v0 b0)(k5:b0=false):
 bB m 88 [vP L 0,vG [aI ob,aS (sb [98,108,111,99,107]),aI ok,aM tk,aI gv,aI bz,aB sg],vG (nC o a b v t l bd el q)] h=some ((LV.tup [],h0)):=
 bY (qS [42] [48] [(10,7,(vB b0))] [(1,2,vM l0,h1),(9,5,LV.tup [],h0),(10,6,LV.v v0,Heap.nil)]) (tA k0 (tA k1 (tZ k2 (uT3 (tA t1 (tA tN (tA t0 (tA k3 (tA tT (tA k4 (tA tT (tZ k5 (tR ((LV.tup [],h0))))))))))))))) (by kernel_rfl)
theorem Qud (k0:cA m 22 [vI t] h=some (vM l0,h1))(k1:cA m 21 [vP L 0,vM bd,vM l0,vM l0] h1=some (LV.tup [],h0))(k2:q=false):
 bB m 88 [vP L 0,vG [aI ob,aS (sb [98,108,111,99,107]),aI ok,aM tk,aI gv,aI bz,aB sg],vG (nC o a b v t l bd el q)] h=some ((LV.tup [],h0)):=
 bY (qS [] [42] [] [(1,2,vM l0,h1),(9,5,LV.tup [],h0)]) (tA k0 (tA k1 (tZ k2 (uF5 (tR ((LV.tup [],h0))))))) (by kernel_rfl)
theorem Qt8 (k0:cA m 22 [vI t] h=some (vM l0,h1))(k1:cA m 21 [vP L 0,vM bd,vM [],vM l0] h1=some (LV.tup [],h0)):
 bB m 88 [vP L 0,vG [aI ob,aS (sb [108,111,111,112]),aI ok,aM tk,aI gv,aI bz,aB sg],vG (nC o a b v t l bd el q)] h=some ((LV.tup [],h0)):=
 bY (qS [] [] [] [(1,2,vM l0,h1),(4,4,LV.tup [],h0)]) (tA k0 (tA k1 (tR ((LV.tup [],h0))))) (by kernel_rfl)
theorem Quc (k0:cA m 22 [vI t] h=some (vM l0,h1))(k1:cA m 96 [vP L 0,vI (.ofNat 1)] h1=some (vI i0,h2))(k2:(!q)=true)(k3:(!eqZ t (.ofNat 0))=true)(k4:cA m 54 [vP L 0,vF 56 (aI (.ofNat 4))] h2=some (LV.tup [],h3))(k5:cA m 21 [vP L 0,vM bd,vM l0,vM l0] h3=some (LV.tup [],h0))(k6:q=false):
 bB m 88 [vP L 0,vG [aI ob,aS (sb [105,102]),aI ok,aM tk,aI gv,aI bz,aB sg],vG (nC o a b v t l bd el q)] h=some ((LV.tup [],h0)):=
 bY (qS [26,30] [42] [] [(1,2,vM l0,h1),(6,1,vI i0,h2),(8,2,LV.tup [],h3),(9,5,LV.tup [],h0)]) (tA k0 (tA k1 (tZ k2 (uT3 (tZ k3 (tA k4 (tA k5 (tZ k6 (uF5 (tR ((LV.tup [],h0)))))))))))) (by kernel_rfl)
theorem Qub (k0:cA m 22 [vI t] h=some (vM l0,h1))(k1:cA m 96 [vP L 0,vI (.ofNat 1)] h1=some (vI i0,h2))(k2:(!q)=true)(k3:(!eqZ t (.ofNat 0))=false)(k4:cA m 21 [vP L 0,vM bd,vM l0,vM l0] h2=some (LV.tup [],h0))(k5:q=false):
 bB m 88 [vP L 0,vG [aI ob,aS (sb [105,102]),aI ok,aM tk,aI gv,aI bz,aB sg],vG (nC o a b v t l bd el q)] h=some ((LV.tup [],h0)):=
 bY (qS [26] [30,42] [] [(1,2,vM l0,h1),(6,1,vI i0,h2),(9,5,LV.tup [],h0)]) (tA k0 (tA k1 (tZ k2 (uT3 (tZ k3 (tA k4 (tZ k5 (uF5 (tR ((LV.tup [],h0))))))))))) (by kernel_rfl)
theorem Qua (k0:cA m 22 [vI t] h=some (vM l0,h2))(k1:cA m 96 [vP L 0,vI (.ofNat 1)] h2=some (vI i0,h3))(k2:(!q)=false)(k3:cA m 21 [vP L 0,vM bd,vM l0,vM l0] h3=some (LV.tup [],h0))(k4:q=true)(k5:ldP h0 (AV.ptr L 9) 1 false=some v0)(k6:qE m v0 b0)(k7:b0=true)(k8:cA m 52 [vP L 0,vM l0] h0=some (LV.tup [],h4))(k9:cA m 21 [vP L 0,vM el,vM l0,vM l0] h4=some (LV.tup [],h1)):
 bB m 88 [vP L 0,vG [aI ob,aS (sb [105,102]),aI ok,aM tk,aI gv,aI bz,aB sg],vG (nC o a b v t l bd el q)] h=some ((LV.tup [],h1)):=
 bY (qS [42,48] [26] [(10,7,(vB b0))] [(1,2,vM l0,h2),(6,1,vI i0,h3),(9,5,LV.tup [],h0),(10,6,LV.v v0,Heap.nil),(11,2,LV.tup [],h4),(12,5,LV.tup [],h1)]) (tA k0 (tA k1 (tZ k2 (uF3 (tA k3 (tZ k4 (uT3 (tA t1 (tA tN (tA t0 (tA k5 (tA tT (tA k6 (tA tT (tZ k7 (tA k8 (tA k9 (tR ((LV.tup [],h1)))))))))))))))))))) (by kernel_rfl)
theorem Qt9 (k0:cA m 22 [vI t] h=some (vM l0,h1))(k1:cA m 96 [vP L 0,vI (.ofNat 1)] h1=some (vI i0,h2))(k2:(!q)=false)(k3:cA m 21 [vP L 0,vM bd,vM l0,vM l0] h2=some (LV.tup [],h0))(k4:q=true)(k5:ldP h0 (AV.ptr L 9) 1 false=some v0)(k6:qE m v0 b0)(k7:b0=false):
 bB m 88 [vP L 0,vG [aI ob,aS (sb [105,102]),aI ok,aM tk,aI gv,aI bz,aB sg],vG (nC o a b v t l bd el q)] h=some ((LV.tup [],h0)):=
 bY (qS [42] [26,48] [(10,7,(vB b0))] [(1,2,vM l0,h1),(6,1,vI i0,h2),(9,5,LV.tup [],h0),(10,6,LV.v v0,Heap.nil)]) (tA k0 (tA k1 (tZ k2 (uF3 (tA k3 (tZ k4 (uT3 (tA t1 (tA tN (tA t0 (tA k5 (tA tT (tA k6 (tA tT (tZ k7 (tR ((LV.tup [],h0)))))))))))))))))) (by kernel_rfl)
end Go.Proofs.YtoblgjmllmomhaaGreatDoor
namespace Go.Proofs.YtoblgjmllmomhaaGreatDoor
open Go Go.Proofs.Am
variable {m ob ok gv bz o a b v t re i0 i1 i2 i3:Int} {L:Nat} {on s0:ByteArray} {tk l bd el ty fu gl lo xs l0 l1:LL} {sg q tb mm b0 b1:Bool} {h h0 h1 h2 h3 h4:Heap} {v0:AV}
theorem Qyv (k0:eqZ ok (.ofNat 7)=true)(k1:ldP h (AV.ptr L 4) 1 false=some (aB b0))(k2:(!b0)=true)(k3:cA m 54 [vP L 0,vF 56 (aI (.ofNat 5))] h=some (LV.tup [],h0)):
 bB m 94 [vP L 0,vG [aI ob,aS on,aI ok,aM tk,aI gv,aI bz,aB sg],vG (nC o a b v t l bd el q)] h=some ((LV.tup [],h0)):=
 bY (qS [10,22,15] [] [] [(2,11,vB b0,Heap.nil),(3,2,LV.tup [],h0)]) (tZ k0 (uT8 (tA t1 (tA tN (tA t0 (tA k1 (uT2 (tZ k2 (tA k3 (tR ((LV.tup [],h0)))))))))))) (by kernel_rfl)
theorem Qyu (k0:eqZ ok (.ofNat 7)=true)(k1:ldP h (AV.ptr L 4) 1 false=some (aB b0))(k2:(!b0)=false)(k3:ltZ (.ofNat 3) a=true)(k4:cA m 54 [vP L 0,vF 56 (aI (.ofNat 4))] h=some (LV.tup [],h1))(k5:cA m 52 [vP L 0,vM tk] h1=some (LV.tup [],h2))(k6:cA m 55 [vP L 0,vM [[aI gv]]] h2=some (LV.tup [],h0)):
 bB m 94 [vP L 0,vG [aI ob,aS on,aI ok,aM tk,aI gv,aI bz,aB sg],vG (nC o a b v t l bd el q)] h=some ((LV.tup [],h0)):=
 bY (qS [10,22,39] [15] [] [(2,11,vB b0,Heap.nil),(5,2,LV.tup [],h1),(6,3,LV.tup [],h2),(7,4,LV.tup [],h0)]) (tZ k0 (uT8 (tA t1 (tA tN (tA t0 (tA k1 (uT2 (tZ k2 (tZ k3 (uT6 (tA k4 (tA k5 (tA k6 (tR ((LV.tup [],h0)))))))))))))))) (by kernel_rfl)
theorem Qyt (k0:eqZ ok (.ofNat 7)=true)(k1:ldP h (AV.ptr L 4) 1 false=some (aB b0))(k2:(!b0)=false)(k3:ltZ (.ofNat 3) a=false)(k4:QcF (Cx.P (cxZ m)) BinOp.shl 3 true (aI (.ofNat 1)) (aI a)=some (aI i0))(k5:ltZ bz i0=true)(k6:cA m 54 [vP L 0,vF 56 (aI (.ofNat 4))] h=some (LV.tup [],h1))(k7:cA m 52 [vP L 0,vM tk] h1=some (LV.tup [],h2))(k8:cA m 55 [vP L 0,vM [[aI gv]]] h2=some (LV.tup [],h0)):
 bB m 94 [vP L 0,vG [aI ob,aS on,aI ok,aM tk,aI gv,aI bz,aB sg],vG (nC o a b v t l bd el q)] h=some ((LV.tup [],h0)):=
 bY (qS [10,22,33] [15,39] [(4,8,(vI i0))] [(2,11,vB b0,Heap.nil),(5,2,LV.tup [],h1),(6,3,LV.tup [],h2),(7,4,LV.tup [],h0)]) (tZ k0 (uT8 (tA t1 (tA tN (tA t0 (tA k1 (uT2 (tZ k2 (tZ k3 (uF2 (tA k4 (uF4 (tZ k5 (tA k6 (tA k7 (tA k8 (tR ((LV.tup [],h0))))))))))))))))))) (by kernel_rfl)
theorem Qys (k0:eqZ ok (.ofNat 7)=true)(k1:ldP h (AV.ptr L 4) 1 false=some (aB b0))(k2:(!b0)=false)(k3:ltZ (.ofNat 3) a=false)(k4:QcF (Cx.P (cxZ m)) BinOp.shl 3 true (aI (.ofNat 1)) (aI a)=some (aI i0))(k5:ltZ bz i0=false)(k6:cA m 52 [vP L 0,vM tk] h=some (LV.tup [],h1))(k7:cA m 55 [vP L 0,vM [[aI gv]]] h1=some (LV.tup [],h0)):
 bB m 94 [vP L 0,vG [aI ob,aS on,aI ok,aM tk,aI gv,aI bz,aB sg],vG (nC o a b v t l bd el q)] h=some ((LV.tup [],h0)):=
 bY (qS [10,22] [15,39,33] [(4,8,(vI i0))] [(2,11,vB b0,Heap.nil),(6,3,LV.tup [],h1),(7,4,LV.tup [],h0)]) (tZ k0 (uT8 (tA t1 (tA tN (tA t0 (tA k1 (uT2 (tZ k2 (tZ k3 (uF2 (tA k4 (uF4 (tZ k5 (tA k6 (tA k7 (tR ((LV.tup [],h0)))))))))))))))))) (by kernel_rfl)
theorem Qyr (k0:eqZ ok (.ofNat 7)=false)(k1:eqZ ok (.ofNat 8)=true)(k2:ldP h (AV.ptr L 4) 1 false=some (aB b0))(k3:(!b0)=true)(k4:cA m 54 [vP L 0,vF 56 (aI (.ofNat 5))] h=some (LV.tup [],h0)):
 bB m 94 [vP L 0,vG [aI ob,aS on,aI ok,aM tk,aI gv,aI bz,aB sg],vG (nC o a b v t l bd el q)] h=some ((LV.tup [],h0)):=
 bY (qS [17,22,15] [10] [] [(2,11,vB b0,Heap.nil),(3,2,LV.tup [],h0)]) (tZ k0 (uF3 (tZ k1 (uT8 (tA t1 (tA tN (tA t0 (tA k2 (uT2 (tZ k3 (tA k4 (tR ((LV.tup [],h0)))))))))))))) (by kernel_rfl)
theorem Qyq (k0:eqZ ok (.ofNat 7)=false)(k1:eqZ ok (.ofNat 8)=true)(k2:ldP h (AV.ptr L 4) 1 false=some (aB b0))(k3:(!b0)=false)(k4:ltZ (.ofNat 3) a=true)(k5:cA m 54 [vP L 0,vF 56 (aI (.ofNat 4))] h=some (LV.tup [],h1))(k6:cA m 52 [vP L 0,vM tk] h1=some (LV.tup [],h2))(k7:cA m 55 [vP L 0,vM [[aI gv]]] h2=some (LV.tup [],h0)):
 bB m 94 [vP L 0,vG [aI ob,aS on,aI ok,aM tk,aI gv,aI bz,aB sg],vG (nC o a b v t l bd el q)] h=some ((LV.tup [],h0)):=
 bY (qS [17,22,35,39] [10,15] [] [(2,11,vB b0,Heap.nil),(5,2,LV.tup [],h1),(6,3,LV.tup [],h2),(7,4,LV.tup [],h0)]) (tZ k0 (uF3 (tZ k1 (uT8 (tA t1 (tA tN (tA t0 (tA k2 (uT2 (tZ k3 (tZ k1 (uT3 (tZ k4 (uT8 (tA k5 (tA k6 (tA k7 (tR ((LV.tup [],h0)))))))))))))))))))) (by kernel_rfl)
theorem Qyp (k0:eqZ ok (.ofNat 7)=false)(k1:eqZ ok (.ofNat 8)=true)(k2:ldP h (AV.ptr L 4) 1 false=some (aB b0))(k3:(!b0)=false)(k4:ltZ (.ofNat 3) a=false)(k5:QcF (Cx.P (cxZ m)) BinOp.shl 3 true (aI (.ofNat 1)) (aI a)=some (aI i0))(k6:ltZ bz i0=true)(k7:cA m 54 [vP L 0,vF 56 (aI (.ofNat 4))] h=some (LV.tup [],h1))(k8:cA m 52 [vP L 0,vM tk] h1=some (LV.tup [],h2))(k9:cA m 55 [vP L 0,vM [[aI gv]]] h2=some (LV.tup [],h0)):
 bB m 94 [vP L 0,vG [aI ob,aS on,aI ok,aM tk,aI gv,aI bz,aB sg],vG (nC o a b v t l bd el q)] h=some ((LV.tup [],h0)):=
 bY (qS [17,22,35,33] [10,15,39] [(4,8,(vI i0))] [(2,11,vB b0,Heap.nil),(5,2,LV.tup [],h1),(6,3,LV.tup [],h2),(7,4,LV.tup [],h0)]) (tZ k0 (uF3 (tZ k1 (uT8 (tA t1 (tA tN (tA t0 (tA k2 (uT2 (tZ k3 (tZ k1 (uT3 (tZ k4 (uF2 (tA k5 (uF3 (tA tT (tA tF (tA tT (tZ k6 (tA k7 (tA k8 (tA k9 (tR ((LV.tup [],h0)))))))))))))))))))))))))) (by kernel_rfl)
theorem Qyo (k0:eqZ ok (.ofNat 7)=false)(k1:eqZ ok (.ofNat 8)=true)(k2:ldP h (AV.ptr L 4) 1 false=some (aB b0))(k3:(!b0)=false)(k4:ltZ (.ofNat 3) a=false)(k5:QcF (Cx.P (cxZ m)) BinOp.shl 3 true (aI (.ofNat 1)) (aI a)=some (aI i0))(k6:ltZ bz i0=false)(k7:cA m 52 [vP L 0,vM tk] h=some (LV.tup [],h1))(k8:cA m 55 [vP L 0,vM [[aI gv]]] h1=some (LV.tup [],h0)):
 bB m 94 [vP L 0,vG [aI ob,aS on,aI ok,aM tk,aI gv,aI bz,aB sg],vG (nC o a b v t l bd el q)] h=some ((LV.tup [],h0)):=
 bY (qS [17,22,35] [10,15,39,33] [(4,8,(vI i0))] [(2,11,vB b0,Heap.nil),(6,3,LV.tup [],h1),(7,4,LV.tup [],h0)]) (tZ k0 (uF3 (tZ k1 (uT8 (tA t1 (tA tN (tA t0 (tA k2 (uT2 (tZ k3 (tZ k1 (uT3 (tZ k4 (uF2 (tA k5 (uF3 (tA tT (tA tF (tA tT (tZ k6 (tA k7 (tA k8 (tR ((LV.tup [],h0))))))))))))))))))))))))) (by kernel_rfl)
theorem Qyn (k0:eqZ ok (.ofNat 7)=false)(k1:eqZ ok (.ofNat 8)=false)(k2:eqZ ok (.ofNat 9)=true)(k3:ldP h (AV.ptr L 4) 1 false=some (aB b0))(k4:(!b0)=true)(k5:cA m 54 [vP L 0,vF 56 (aI (.ofNat 5))] h=some (LV.tup [],h0)):
 bB m 94 [vP L 0,vG [aI ob,aS on,aI ok,aM tk,aI gv,aI bz,aB sg],vG (nC o a b v t l bd el q)] h=some ((LV.tup [],h0)):=
 bY (qS [22,15] [10,17] [] [(2,11,vB b0,Heap.nil),(3,2,LV.tup [],h0)]) (tZ k0 (uF3 (tZ k1 (uF3 (tZ k2 (uT4 (tA t1 (tA tN (tA t0 (tA k3 (uT2 (tZ k4 (tA k5 (tR ((LV.tup [],h0)))))))))))))))) (by kernel_rfl)
theorem QtP (k0:eqZ ok (.ofNat 7)=false)(k1:eqZ ok (.ofNat 8)=false)(k2:eqZ ok (.ofNat 9)=true)(k3:ldP h (AV.ptr L 4) 1 false=some (aB b0))(k4:(!b0)=false)(k5:cA m 52 [vP L 0,vM tk] h=some (LV.tup [],h1))(k6:cA m 55 [vP L 0,vM [[aI gv]]] h1=some (LV.tup [],h0)):
 bB m 94 [vP L 0,vG [aI ob,aS on,aI ok,aM tk,aI gv,aI bz,aB sg],vG (nC o a b v t l bd el q)] h=some ((LV.tup [],h0)):=
 bY (qS [22] [10,17,15,35] [] [(2,11,vB b0,Heap.nil),(6,3,LV.tup [],h1),(7,4,LV.tup [],h0)]) (tZ k0 (uF3 (tZ k1 (uF3 (tZ k2 (uT4 (tA t1 (tA tN (tA t0 (tA k3 (uT2 (tZ k4 (tZ k1 (uF5 (tA k5 (tA k6 (tR ((LV.tup [],h0))))))))))))))))))) (by kernel_rfl)
theorem QtO (k0:eqZ ok (.ofNat 7)=false)(k1:eqZ ok (.ofNat 8)=false)(k2:eqZ ok (.ofNat 9)=false)(k3:cA m 52 [vP L 0,vM tk] h=some (LV.tup [],h1))(k4:cA m 55 [vP L 0,vM [[aI gv]]] h1=some (LV.tup [],h0)):
 bB m 94 [vP L 0,vG [aI ob,aS on,aI ok,aM tk,aI gv,aI bz,aB sg],vG (nC o a b v t l bd el q)] h=some ((LV.tup [],h0)):=
 bY (qS [] [10,17,22,35] [] [(6,3,LV.tup [],h1),(7,4,LV.tup [],h0)]) (tZ k0 (uF3 (tZ k1 (uF3 (tZ k2 (uF6 (tZ k1 (uF5 (tA k3 (tA k4 (tR ((LV.tup [],h0))))))))))))) (by kernel_rfl)
theorem Qy5 (k0:(Qav o,h)=(LV.tup [AV.agg [aI i0,aS s0,aI i1,aM l0,aI i2,aI i3,aB b1],v0],h1))(k1:nE m v0 b0)(k2:b0=true)(k3:cA m 54 [vP L 0,vF 56 (aI (.ofNat 1))] h1=some (LV.tup [],h0)):
 bB m 51 [vP L 0,vG (nC o a b v t l bd el q)] h=some ((LV.tup [],h0)):=
 bY (qS [13] [] [(2,1,(vB b0))] [(1,2,LV.tup [AV.agg [aI i0,aS s0,aI i1,aM l0,aI i2,aI i3,aB b1],v0],h1),(3,2,LV.tup [],h0)]) (tZ k0 (tA k1 (tZ k2 (tA k3 (tR ((LV.tup [],h0))))))) (by kernel_rfl)
theorem Qqa (k0:(Qav o,h)=(LV.tup [AV.agg [aI i1,aS s0,aI i0,aM l0,aI i2,aI i3,aB b0],v0],h1))(k1:nE m v0 b1)(k2:b1=false)(k3:eqZ i0 (.ofNat 2)=true)(k4:cA m 88 [vP L 0,vG [aI i1,aS s0,aI i0,aM l0,aI i2,aI i3,aB b0],vG (nC o a b v t l bd el q)] h1=some (LV.tup [],h0)):
 bB m 51 [vP L 0,vG (nC o a b v t l bd el q)] h=some ((LV.tup [],h0)):=
 bY (qS [21] [13] [(2,1,(vB b1))] [(1,2,LV.tup [AV.agg [aI i1,aS s0,aI i0,aM l0,aI i2,aI i3,aB b0],v0],h1),(6,3,LV.tup [],h0)]) (tZ k0 (tA k1 (tZ k2 (tZ k3 (tA k4 (tR ((LV.tup [],h0)))))))) (by kernel_rfl)
theorem Qy4 (k0:(Qav o,h)=(LV.tup [AV.agg [aI i1,aS s0,aI i0,aM l0,aI i2,aI i3,aB b0],v0],h1))(k1:nE m v0 b1)(k2:b1=false)(k3:eqZ i0 (.ofNat 2)=false)(k4:eqZ i0 (.ofNat 3)=true)(k5:cA m 89 [vP L 0,vG [aI i1,aS s0,aI i0,aM l0,aI i2,aI i3,aB b0],vG (nC o a b v t l bd el q)] h1=some (LV.tup [],h0)):
 bB m 51 [vP L 0,vG (nC o a b v t l bd el q)] h=some ((LV.tup [],h0)):=
 bY (qS [29] [13,21] [(2,1,(vB b1))] [(1,2,LV.tup [AV.agg [aI i1,aS s0,aI i0,aM l0,aI i2,aI i3,aB b0],v0],h1),(8,3,LV.tup [],h0)]) (tZ k0 (tA k1 (tZ k2 (tZ k3 (tZ k4 (tA k5 (tR ((LV.tup [],h0))))))))) (by kernel_rfl)
theorem Qy3 (k0:(Qav o,h)=(LV.tup [AV.agg [aI i1,aS s0,aI i0,aM l0,aI i2,aI i3,aB b0],v0],h1))(k1:nE m v0 b1)(k2:b1=false)(k3:eqZ i0 (.ofNat 2)=false)(k4:eqZ i0 (.ofNat 3)=false)(k5:eqZ i0 (.ofNat 4)=true)(k6:cA m 90 [vP L 0,vG [aI i1,aS s0,aI i0,aM l0,aI i2,aI i3,aB b0],vG (nC o a b v t l bd el q)] h1=some (LV.tup [],h0)):
 bB m 51 [vP L 0,vG (nC o a b v t l bd el q)] h=some ((LV.tup [],h0)):=
 bY (qS [37] [13,21,29] [(2,1,(vB b1))] [(1,2,LV.tup [AV.agg [aI i1,aS s0,aI i0,aM l0,aI i2,aI i3,aB b0],v0],h1),(10,3,LV.tup [],h0)]) (tZ k0 (tA k1 (tZ k2 (tZ k3 (tZ k4 (tZ k5 (tA k6 (tR ((LV.tup [],h0)))))))))) (by kernel_rfl)
theorem Qy2 (k0:(Qav o,h)=(LV.tup [AV.agg [aI i1,aS s0,aI i0,aM l0,aI i2,aI i3,aB b0],v0],h1))(k1:nE m v0 b1)(k2:b1=false)(k3:eqZ i0 (.ofNat 2)=false)(k4:eqZ i0 (.ofNat 3)=false)(k5:eqZ i0 (.ofNat 4)=false)(k6:eqZ i0 (.ofNat 5)=true)(k7:cA m 91 [vP L 0,vG [aI i1,aS s0,aI i0,aM l0,aI i2,aI i3,aB b0]] h1=some (LV.tup [],h0)):
 bB m 51 [vP L 0,vG (nC o a b v t l bd el q)] h=some ((LV.tup [],h0)):=
 bY (qS [45] [13,21,29,37] [(2,1,(vB b1))] [(1,2,LV.tup [AV.agg [aI i1,aS s0,aI i0,aM l0,aI i2,aI i3,aB b0],v0],h1),(12,2,LV.tup [],h0)]) (tZ k0 (tA k1 (tZ k2 (tZ k3 (tZ k4 (tZ k5 (tZ k6 (tA k7 (tR ((LV.tup [],h0))))))))))) (by kernel_rfl)
theorem Qy1 (k0:(Qav o,h)=(LV.tup [AV.agg [aI i1,aS s0,aI i0,aM l0,aI i2,aI i3,aB b0],v0],h1))(k1:nE m v0 b1)(k2:b1=false)(k3:eqZ i0 (.ofNat 2)=false)(k4:eqZ i0 (.ofNat 3)=false)(k5:eqZ i0 (.ofNat 4)=false)(k6:eqZ i0 (.ofNat 5)=false)(k7:eqZ i0 (.ofNat 6)=true)(k8:cA m 92 [vP L 0,vG [aI i1,aS s0,aI i0,aM l0,aI i2,aI i3,aB b0],vG (nC o a b v t l bd el q)] h1=some (LV.tup [],h0)):
 bB m 51 [vP L 0,vG (nC o a b v t l bd el q)] h=some ((LV.tup [],h0)):=
 bY (qS [52] [13,21,29,37,45] [(2,1,(vB b1))] [(1,2,LV.tup [AV.agg [aI i1,aS s0,aI i0,aM l0,aI i2,aI i3,aB b0],v0],h1),(14,3,LV.tup [],h0)]) (tZ k0 (tA k1 (tZ k2 (tZ k3 (tZ k4 (tZ k5 (tZ k6 (tZ k7 (tA k8 (tR ((LV.tup [],h0)))))))))))) (by kernel_rfl)
theorem Qy0 (k0:(Qav o,h)=(LV.tup [AV.agg [aI i1,aS s0,aI i0,aM l0,aI i2,aI i3,aB b1],v0],h1))(k1:nE m v0 b0)(k2:b0=false)(k3:eqZ i0 (.ofNat 2)=false)(k4:eqZ i0 (.ofNat 3)=false)(k5:eqZ i0 (.ofNat 4)=false)(k6:eqZ i0 (.ofNat 5)=false)(k7:eqZ i0 (.ofNat 6)=false)(k8:(ByteArray.toList s0==ByteArray.toList {data:= #[117,110,114,101,97,99,104,97,98,108,101]})=true)(k9:cA m 93 [vP L 0] h1=some (LV.tup [],h0)):
 bB m 51 [vP L 0,vG (nC o a b v t l bd el q)] h=some ((LV.tup [],h0)):=
 bY (qS [60] [13,21,29,37,45,52] [(2,1,(vB b0))] [(1,2,LV.tup [AV.agg [aI i1,aS s0,aI i0,aM l0,aI i2,aI i3,aB b1],v0],h1),(16,1,LV.tup [],h0)]) (tZ k0 (tA k1 (tZ k2 (tZ k3 (tZ k4 (tZ k5 (tZ k6 (tZ k7 (tZ k8 (tA k9 (tR ((LV.tup [],h0))))))))))))) (by kernel_rfl)
theorem QyZ (k0:(Qav o,h)=(LV.tup [AV.agg [aI i1,aS s0,aI i0,aM l0,aI i2,aI i3,aB b0],v0],h1))(k1:nE m v0 b1)(k2:b1=false)(k3:eqZ i0 (.ofNat 2)=false)(k4:eqZ i0 (.ofNat 3)=false)(k5:eqZ i0 (.ofNat 4)=false)(k6:eqZ i0 (.ofNat 5)=false)(k7:eqZ i0 (.ofNat 6)=false)(k8:(ByteArray.toList s0==ByteArray.toList {data:= #[117,110,114,101,97,99,104,97,98,108,101]})=false)(k9:cA m 94 [vP L 0,vG [aI i1,aS s0,aI i0,aM l0,aI i2,aI i3,aB b0],vG (nC o a b v t l bd el q)] h1=some (LV.tup [],h0)):
 bB m 51 [vP L 0,vG (nC o a b v t l bd el q)] h=some ((LV.tup [],h0)):=
 bY (qS [] [13,21,29,37,45,52,60] [(2,1,(vB b1))] [(1,2,LV.tup [AV.agg [aI i1,aS s0,aI i0,aM l0,aI i2,aI i3,aB b0],v0],h1),(4,3,LV.tup [],h0)]) (tZ k0 (tA k1 (tZ k2 (tZ k3 (tZ k4 (tZ k5 (tZ k6 (tZ k7 (tZ k8 (tA k9 (tR ((LV.tup [],h0))))))))))))) (by kernel_rfl)
theorem QCO (k0:cA m 19 [vM xs] h=some (vB b0,h0))(k1:(!b0)=true):
 bB m 10 [vG [aM ty,aM fu,aM gl,aB tb,aB mm,aM lo,aI re],vM xs] h=some ((vF 56 (aI (.ofNat 1)),h0)):=
 bY (qS [9] [] [] [(1,1,vB b0,h0)]) (tA k0 (tZ k1 (uT3 (tR ((vF 56 (aI (.ofNat 1)),h0)))))) (by kernel_rfl)
theorem QCN (k0:cA m 19 [vM xs] h=some (vB b1,h1))(k1:(!b1)=false)(k2:cA m 20 [vG [aM ty,aM fu,aM gl,aB tb,aB mm,aM lo,aI re]] h1=some (vB b0,h0))(k3:(!b0)=true):
 bB m 10 [vG [aM ty,aM fu,aM gl,aB tb,aB mm,aM lo,aI re],vM xs] h=some ((vF 56 (aI (.ofNat 1)),h0)):=
 bY (qS [13] [9] [] [(1,1,vB b1,h1),(1,5,vB b0,h0)]) (tA k0 (tZ k1 (tA tF (tA k2 (uF2 (tZ k3 (tR ((vF 56 (aI (.ofNat 1)),h0))))))))) (by kernel_rfl)
theorem QCM (k0:cA m 19 [vM xs] h=some (vB b1,h2))(k1:(!b1)=false)(k2:cA m 20 [vG [aM ty,aM fu,aM gl,aB tb,aB mm,aM lo,aI re]] h2=some (vB b0,h0))(k3:(!b0)=false)(k4:cA m 22 [vI re] {bx:=Heap.bx h0++[[vM ty,vM fu,vM gl,vB tb,vB mm,vM lo,vI re,LV.v AV.nilS,LV.v AV.nilS,LV.v AV.nilI]],mp:=Heap.mp h0}=some (vM l0,h3))(k5:cA m 22 [vI re] h3=some (vM l1,h4))(k6:cA m 21 [vP (List.length (Heap.bx h0)) 0,vM xs,vM l0,vM l1] h4=some (LV.tup [],h1))(k7:ldP h1 (AV.ptr (List.length (Heap.bx h0)) 9) 1 false=some v0):
 bB m 10 [vG [aM ty,aM fu,aM gl,aB tb,aB mm,aM lo,aI re],vM xs] h=some ((LV.v v0,h1)):=
 bY (qS [] [9,13] [] [(1,1,vB b1,h2),(1,5,vB b0,h0),(4,4,vM l0,h3),(4,7,vM l1,h4),(4,8,LV.tup [],h1),(5,3,LV.v v0,Heap.nil)]) (tA k0 (tZ k1 (tA tF (tA k2 (uF2 (tZ k3 (tA k4 (tA k5 (tA k6 (tA t1 (tA tN (tA t0 (tA k7 (tR ((LV.v v0,h1)))))))))))))))) (by kernel_rfl)
end Go.Proofs.YtoblgjmllmomhaaGreatDoor
namespace Go.Proofs.YtoblgjmllmomhaaGreatDoor
open Go Go.Proofs.Am
variable {m n i0 i1 i2 i3 i4:Int} {L i n0 n1 n2 n3 n4 n5 n6 n7:Nat} {xs la re l0 l1 l2:LL} {h h0 h1 h2 h3 h4 h5 h6:Heap} {r:LV×Heap} {v0 v1 v2 v3 v4:AV} {b0 b1:Bool}
theorem Qzr (k0:ldP h (AV.ptr L 9) 1 false=some v0)(k1:nE m v0 b0)(k2:b0=true):
 bB m 21 [vP L 0,vM xs,vM la,vM re] h=some ((LV.tup [],h)):=
 bY (qS [14] [] [(0,4,(vB b0))] [(0,3,LV.v v0,Heap.nil)]) (tA t1 (tA tN (tA t0 (tA k0 (tA k1 (tZ k2 (tR ((LV.tup [],h))))))))) (by kernel_rfl)
theorem Quv (k0:ldP h (AV.ptr L 9) 1 false=some v0)(k1:nE m v0 b0)(k2:b0=false)(k3:ldP h (AV.ptr L 8) 1 false=some v1)(k4:ldP h (AV.ptr L 7) 1 false=some v2)(k5:lnS v2=some i0)(k6:apH h v1 4 64 [[aM la,aM re,aI i0,aB false]]=some (AV.arr 4 n0 0 n1,h0))(k7:stP h0 (AV.ptr L 8) [LV.v (AV.arr 4 n0 0 n1)]=some h1)(k8:bA m 21 3 [vP L 0,vM re,vM xs,vI (.ofNat xs.length),vI (.ofNat 0)] h1=some r):
 bB m 21 [vP L 0,vM xs,vM la,vM re] h=some r:=
 bY (qS [] [14] [(0,4,(vB b0)),(1,11,(vI i0))] [(0,3,LV.v v0,Heap.nil),(1,4,LV.v v1,Heap.nil),(1,10,LV.v v2,Heap.nil),(1,14,LV.v (AV.arr 4 n0 0 n1),h0),(1,17,LV.ud,h1)]) (tA t1 (tA tN (tA t0 (tA k0 (tA k1 (tZ k2 (tA t1 (tA tN (tA t0 (tA k3 (tA t1 (tA tN (tA t0 (tA k4 (tA k5 (u12 (tA k6 (tA t1 (tA t0 (tA tU (tA t1 (tA k7 (tA t1 (k8)))))))))))))))))))))))) (by kernel_rfl)
theorem Qqg (k0:ltZ (.ofNat i) n=true)(k1:ixA (aM xs) (.ofNat i) 9=some (nC i0 i1 i2 i3 i4 l0 l1 l2 b1))(k2:ldP h (AV.ptr L 9) 1 false=some v0)(k3:nE m v0 b0)(k4:b0=true):
 bA m 21 3 [vP L 0,vM re,vM xs,vI n,vI i] h=some ((LV.tup [],h)):=
 bY (qS [35,42] [] [(4,0,(LV.v (AV.snap (nC i0 i1 i2 i3 i4 l0 l1 l2 b1)))),(5,4,(vB b0))] [(5,3,LV.v v0,Heap.nil)]) (tZ k0 (tA (tA t0 (tA tN (k1))) (tA t1 (tA tN (tA t0 (tA k2 (tA k3 (tZ k4 (tR ((LV.tup [],h))))))))))) (by kernel_rfl)
theorem Qqf (k0:ltZ (.ofNat i) n=true)(k1:ixA (aM xs) (.ofNat i) 9=some (nC i0 i1 i2 i3 i4 l0 l1 l2 b0))(k2:ldP h (AV.ptr L 9) 1 false=some v0)(k3:nE m v0 b1)(k4:b1=false)(k5:cA m 51 [vP L 0,vG (nC i0 i1 i2 i3 i4 l0 l1 l2 b0)] h=some (LV.tup [],h0))(k6:bA m 21 3 [vP L 0,vM re,vM xs,vI n,vI (IntKind.wrap .i64 (.ofNat (Nat.succ i)))] h0=some r):
 bA m 21 3 [vP L 0,vM re,vM xs,vI n,vI i] h=some r:=
 bY (qS [35] [42] [(4,0,(LV.v (AV.snap (nC i0 i1 i2 i3 i4 l0 l1 l2 b0)))),(5,4,(vB b1))] [(5,3,LV.v v0,Heap.nil),(6,2,LV.tup [],h0)]) (tZ k0 (tA (tA t0 (tA tN (k1))) (tA t1 (tA tN (tA t0 (tA k2 (tA k3 (tZ k4 (tA k5 (tA t1 (k6))))))))))) (by kernel_rfl)
theorem Qqe (k0:ltZ (Int.ofNat i) n=false)(k1:cA m 52 [vP L 0,vM re] h=some (LV.tup [],h2))(k2:ldP h2 (AV.ptr L 7) 1 false=some v0)(k3:lnS v0=some i2)(k4:cA m 53 [vP L 0] h2=some (vP n0 n1,h3))(k5:ldP h3 (AV.ptr n0 (Nat.succ (Nat.succ n1))) 1 false=some (aI i3))(k6:(!eqZ i2 i3)=true)(k7:cA m 54 [vP L 0,vF 56 (aI (Int.ofNat 4))] h3=some (LV.tup [],h4))(k8:ldP h4 (AV.ptr L 7) 1 false=some v1)(k9:cA m 53 [vP L 0] h4=some (vP n2 n3,h0))(k10:ldP h0 (AV.ptr n2 (Nat.succ (Nat.succ n3))) 1 false=some (aI i0))(k11:ldP h0 (AV.ptr L 7) 1 false=some v2)(k12:lnS v2=some i1)(k13:slA (Cx.P (cxZ m)) 23 v1 none (some (bif decide (i1<i0)then i1 else i0))=some AV.nilS)(k14:stP h0 (AV.ptr L 7) [LV.v AV.nilS]=some h1)(k15:ldP h1 (AV.ptr L 8) 1 false=some v3)(k16:ldP h1 (AV.ptr L 8) 1 false=some v4)(k17:lnS v4=some i4)(k18:slA (Cx.P (cxZ m)) 63 v3 none (some (IntKind.wrap .i64 (i4-Int.ofNat 1)))=some (AV.arr 4 n4 0 n5))(k19:stP h1 (AV.ptr L 8) [LV.v (AV.arr 4 n4 0 n5)]=some h6)(k20:cA m 55 [vP L 0,vM re] h6=some (LV.tup [],h5)):
 bA m 21 3 [vP L 0,vM re,vM xs,vI n,vI i] h=some ((LV.tup [],h5)):=
 bY (qS [60] [35] [(9,4,(vI i2)),(11,14,(vI i1)),(11,16,(LV.v AV.nilS)),(12,9,(vI i4)),(12,11,(LV.v (AV.arr 4 n4 0 n5)))] [(8,2,LV.tup [],h2),(9,3,LV.v v0,Heap.nil),(9,6,vP n0 n1,h3),(9,9,vI i3,Heap.nil),(10,2,LV.tup [],h4),(11,4,LV.v v1,Heap.nil),(11,6,vP n2 n3,h0),(11,9,vI i0,Heap.nil),(11,13,LV.v v2,Heap.nil),(11,19,LV.ud,h1),(12,4,LV.v v3,Heap.nil),(12,8,LV.v v4,Heap.nil),(12,14,LV.ud,h6),(13,2,LV.tup [],h5)]) (tZ k0 (tA k1 (tA t1 (tA tN (tA t0 (tA k2 (tA k3 (tA k4 (tA t1 (tA tN (tA t0 (tA k5 (tZ k6 (tA k7 (tA t1 (tA tN (tA t0 (tA k8 (tA k9 (tA t1 (tA tN (tA t0 (tA k10 (tA t1 (tA tN (tA t0 (tA k11 (tA k12 (tA (tA t1 (k13)) (tA t1 (tA t0 (tA tU (tA t1 (tA k14 (tA t1 (tA tN (tA t0 (tA k15 (tA t1 (tA tN (tA t0 (tA k16 (tA k17 (tA (tA t1 (k18)) (tA t1 (tA t0 (tA tU (tA t1 (tA k19 (tA k20 (tR ((LV.tup [],h5))))))))))))))))))))))))))))))))))))))))))))))))))))) (by kernel_rfl)
theorem Qqd (k0:ltZ (Int.ofNat i) n=false)(k1:cA m 52 [vP L 0,vM re] h=some (LV.tup [],h2))(k2:ldP h2 (AV.ptr L 7) 1 false=some v0)(k3:lnS v0=some i2)(k4:cA m 53 [vP L 0] h2=some (vP n0 n1,h3))(k5:ldP h3 (AV.ptr n0 (Nat.succ (Nat.succ n1))) 1 false=some (aI i3))(k6:(!eqZ i2 i3)=true)(k7:cA m 54 [vP L 0,vF 56 (aI (Int.ofNat 4))] h3=some (LV.tup [],h4))(k8:ldP h4 (AV.ptr L 7) 1 false=some v1)(k9:cA m 53 [vP L 0] h4=some (vP n2 n3,h0))(k10:ldP h0 (AV.ptr n2 (Nat.succ (Nat.succ n3))) 1 false=some (aI i0))(k11:ldP h0 (AV.ptr L 7) 1 false=some v2)(k12:lnS v2=some i1)(k13:slA (Cx.P (cxZ m)) 23 v1 none (some (bif decide (i1<i0)then i1 else i0))=some (AV.arr 1 n4 0 n5))(k14:stP h0 (AV.ptr L 7) [LV.v (AV.arr 1 n4 0 n5)]=some h1)(k15:ldP h1 (AV.ptr L 8) 1 false=some v3)(k16:ldP h1 (AV.ptr L 8) 1 false=some v4)(k17:lnS v4=some i4)(k18:slA (Cx.P (cxZ m)) 63 v3 none (some (IntKind.wrap .i64 (i4-Int.ofNat 1)))=some (AV.arr 4 n6 0 n7))(k19:stP h1 (AV.ptr L 8) [LV.v (AV.arr 4 n6 0 n7)]=some h6)(k20:cA m 55 [vP L 0,vM re] h6=some (LV.tup [],h5)):
 bA m 21 3 [vP L 0,vM re,vM xs,vI n,vI i] h=some ((LV.tup [],h5)):=
 bY (qS [60] [35] [(9,4,(vI i2)),(11,14,(vI i1)),(11,16,(LV.v (AV.arr 1 n4 0 n5))),(12,9,(vI i4)),(12,11,(LV.v (AV.arr 4 n6 0 n7)))] [(8,2,LV.tup [],h2),(9,3,LV.v v0,Heap.nil),(9,6,vP n0 n1,h3),(9,9,vI i3,Heap.nil),(10,2,LV.tup [],h4),(11,4,LV.v v1,Heap.nil),(11,6,vP n2 n3,h0),(11,9,vI i0,Heap.nil),(11,13,LV.v v2,Heap.nil),(11,19,LV.ud,h1),(12,4,LV.v v3,Heap.nil),(12,8,LV.v v4,Heap.nil),(12,14,LV.ud,h6),(13,2,LV.tup [],h5)]) (tZ k0 (tA k1 (tA t1 (tA tN (tA t0 (tA k2 (tA k3 (tA k4 (tA t1 (tA tN (tA t0 (tA k5 (tZ k6 (tA k7 (tA t1 (tA tN (tA t0 (tA k8 (tA k9 (tA t1 (tA tN (tA t0 (tA k10 (tA t1 (tA tN (tA t0 (tA k11 (tA k12 (tA (tA t1 (k13)) (tA t1 (tA t0 (tA tU (tA t1 (tA k14 (tA t1 (tA tN (tA t0 (tA k15 (tA t1 (tA tN (tA t0 (tA k16 (tA k17 (tA (tA t1 (k18)) (tA t1 (tA t0 (tA tU (tA t1 (tA k19 (tA k20 (tR ((LV.tup [],h5))))))))))))))))))))))))))))))))))))))))))))))))))))) (by kernel_rfl)
theorem Qqc (k0:ltZ (Int.ofNat i) n=false)(k1:cA m 52 [vP L 0,vM re] h=some (LV.tup [],h3))(k2:ldP h3 (AV.ptr L 7) 1 false=some v0)(k3:lnS v0=some i2)(k4:cA m 53 [vP L 0] h3=some (vP n0 n1,h0))(k5:ldP h0 (AV.ptr n0 (Nat.succ (Nat.succ n1))) 1 false=some (aI i3))(k6:(!eqZ i2 i3)=false)(k7:ldP h0 (AV.ptr L 7) 1 false=some v1)(k8:cA m 53 [vP L 0] h0=some (vP n2 n3,h1))(k9:ldP h1 (AV.ptr n2 (Nat.succ (Nat.succ n3))) 1 false=some (aI i0))(k10:ldP h1 (AV.ptr L 7) 1 false=some v2)(k11:lnS v2=some i1)(k12:slA (Cx.P (cxZ m)) 23 v1 none (some (bif decide (i1<i0)then i1 else i0))=some AV.nilS)(k13:stP h1 (AV.ptr L 7) [LV.v AV.nilS]=some h2)(k14:ldP h2 (AV.ptr L 8) 1 false=some v3)(k15:ldP h2 (AV.ptr L 8) 1 false=some v4)(k16:lnS v4=some i4)(k17:slA (Cx.P (cxZ m)) 63 v3 none (some (IntKind.wrap .i64 (i4-Int.ofNat 1)))=some (AV.arr 4 n4 0 n5))(k18:stP h2 (AV.ptr L 8) [LV.v (AV.arr 4 n4 0 n5)]=some h5)(k19:cA m 55 [vP L 0,vM re] h5=some (LV.tup [],h4)):
 bA m 21 3 [vP L 0,vM re,vM xs,vI n,vI i] h=some ((LV.tup [],h4)):=
 bY (qS [] [35,60] [(9,4,(vI i2)),(11,14,(vI i1)),(11,16,(LV.v AV.nilS)),(12,9,(vI i4)),(12,11,(LV.v (AV.arr 4 n4 0 n5)))] [(8,2,LV.tup [],h3),(9,3,LV.v v0,Heap.nil),(9,6,vP n0 n1,h0),(9,9,vI i3,Heap.nil),(11,4,LV.v v1,Heap.nil),(11,6,vP n2 n3,h1),(11,9,vI i0,Heap.nil),(11,13,LV.v v2,Heap.nil),(11,19,LV.ud,h2),(12,4,LV.v v3,Heap.nil),(12,8,LV.v v4,Heap.nil),(12,14,LV.ud,h5),(13,2,LV.tup [],h4)]) (tZ k0 (tA k1 (tA t1 (tA tN (tA t0 (tA k2 (tA k3 (tA k4 (tA t1 (tA tN (tA t0 (tA k5 (tZ k6 (tA t1 (tA tN (tA t0 (tA k7 (tA k8 (tA t1 (tA tN (tA t0 (tA k9 (tA t1 (tA tN (tA t0 (tA k10 (tA k11 (tA (tA t1 (k12)) (tA t1 (tA t0 (tA tU (tA t1 (tA k13 (tA t1 (tA tN (tA t0 (tA k14 (tA t1 (tA tN (tA t0 (tA k15 (tA k16 (tA (tA t1 (k17)) (tA t1 (tA t0 (tA tU (tA t1 (tA k18 (tA k19 (tR ((LV.tup [],h4)))))))))))))))))))))))))))))))))))))))))))))))))))) (by kernel_rfl)
theorem Qqb (k0:ltZ (Int.ofNat i) n=false)(k1:cA m 52 [vP L 0,vM re] h=some (LV.tup [],h3))(k2:ldP h3 (AV.ptr L 7) 1 false=some v0)(k3:lnS v0=some i2)(k4:cA m 53 [vP L 0] h3=some (vP n0 n1,h0))(k5:ldP h0 (AV.ptr n0 (Nat.succ (Nat.succ n1))) 1 false=some (aI i3))(k6:(!eqZ i2 i3)=false)(k7:ldP h0 (AV.ptr L 7) 1 false=some v1)(k8:cA m 53 [vP L 0] h0=some (vP n2 n3,h1))(k9:ldP h1 (AV.ptr n2 (Nat.succ (Nat.succ n3))) 1 false=some (aI i0))(k10:ldP h1 (AV.ptr L 7) 1 false=some v2)(k11:lnS v2=some i1)(k12:slA (Cx.P (cxZ m)) 23 v1 none (some (bif decide (i1<i0)then i1 else i0))=some (AV.arr 1 n4 0 n5))(k13:stP h1 (AV.ptr L 7) [LV.v (AV.arr 1 n4 0 n5)]=some h2)(k14:ldP h2 (AV.ptr L 8) 1 false=some v3)(k15:ldP h2 (AV.ptr L 8) 1 false=some v4)(k16:lnS v4=some i4)(k17:slA (Cx.P (cxZ m)) 63 v3 none (some (IntKind.wrap .i64 (i4-Int.ofNat 1)))=some (AV.arr 4 n6 0 n7))(k18:stP h2 (AV.ptr L 8) [LV.v (AV.arr 4 n6 0 n7)]=some h5)(k19:cA m 55 [vP L 0,vM re] h5=some (LV.tup [],h4)):
 bA m 21 3 [vP L 0,vM re,vM xs,vI n,vI i] h=some ((LV.tup [],h4)):=
 bY (qS [] [35,60] [(9,4,(vI i2)),(11,14,(vI i1)),(11,16,(LV.v (AV.arr 1 n4 0 n5))),(12,9,(vI i4)),(12,11,(LV.v (AV.arr 4 n6 0 n7)))] [(8,2,LV.tup [],h3),(9,3,LV.v v0,Heap.nil),(9,6,vP n0 n1,h0),(9,9,vI i3,Heap.nil),(11,4,LV.v v1,Heap.nil),(11,6,vP n2 n3,h1),(11,9,vI i0,Heap.nil),(11,13,LV.v v2,Heap.nil),(11,19,LV.ud,h2),(12,4,LV.v v3,Heap.nil),(12,8,LV.v v4,Heap.nil),(12,14,LV.ud,h5),(13,2,LV.tup [],h4)]) (tZ k0 (tA k1 (tA t1 (tA tN (tA t0 (tA k2 (tA k3 (tA k4 (tA t1 (tA tN (tA t0 (tA k5 (tZ k6 (tA t1 (tA tN (tA t0 (tA k7 (tA k8 (tA t1 (tA tN (tA t0 (tA k9 (tA t1 (tA tN (tA t0 (tA k10 (tA k11 (tA (tA t1 (k12)) (tA t1 (tA t0 (tA tU (tA t1 (tA k13 (tA t1 (tA tN (tA t0 (tA k14 (tA t1 (tA tN (tA t0 (tA k15 (tA k16 (tA (tA t1 (k17)) (tA t1 (tA t0 (tA tU (tA t1 (tA k18 (tA k19 (tR ((LV.tup [],h4)))))))))))))))))))))))))))))))))))))))))))))))))))) (by kernel_rfl)
end Go.Proofs.YtoblgjmllmomhaaGreatDoor
namespace Go.Proofs.YtoblgjmllmomhaaGreatDoor
open Go Go.Proofs.Am
variable {m o a b v t n i0 i1 i2 i3 i4:Int} {l bd el xs l0 l1 l2:LL} {q b0 b1 b2:Bool} {h h0 h1 h2:Heap} {fv:AV} {r:LV×Heap} {i:Nat}
theorem QyH (k0:eqZ a (.ofNat 0)=true)(k1:eqZ b (.ofNat 0)=true)(k2:eqZ v (.ofNat 0)=true)(k3:eqZ t (.ofNat 0)=true)(k4:eqZ (.ofNat l.length) (.ofNat 0)=true)(k5:eqZ (.ofNat bd.length) (.ofNat 0)=true)(k6:eqZ (.ofNat el.length) (.ofNat 0)=true):
 bB m 84 [vG (nC o a b v t l bd el q)] h=some ((vB !q,h)):=
 bY (qS [6,11,16,21,27,33,39] [] [] []) (tZ k0 (uT3 (tZ k1 (uT3 (tZ k2 (uT3 (tZ k3 (uT4 (tZ k4 (uT4 (tZ k5 (uT4 (tZ k6 (uT3 (tR ((vB !q,h))))))))))))))))) (by kernel_rfl)
theorem QyG (k0:eqZ a (.ofNat 0)=true)(k1:eqZ b (.ofNat 0)=true)(k2:eqZ v (.ofNat 0)=true)(k3:eqZ t (.ofNat 0)=true)(k4:eqZ (.ofNat l.length) (.ofNat 0)=true)(k5:eqZ (.ofNat bd.length) (.ofNat 0)=true)(k6:eqZ (.ofNat el.length) (.ofNat 0)=false):
 bB m 84 [vG (nC o a b v t l bd el q)] h=some ((vB false,h)):=
 bY (qS [6,11,16,21,27,33] [39] [] []) (tZ k0 (uT3 (tZ k1 (uT3 (tZ k2 (uT3 (tZ k3 (uT4 (tZ k4 (uT4 (tZ k5 (uT4 (tZ k6 (uF3 (tR ((vB false,h))))))))))))))))) (by kernel_rfl)
theorem QyF (k0:eqZ a (.ofNat 0)=true)(k1:eqZ b (.ofNat 0)=true)(k2:eqZ v (.ofNat 0)=true)(k3:eqZ t (.ofNat 0)=true)(k4:eqZ (.ofNat l.length) (.ofNat 0)=true)(k5:eqZ (.ofNat bd.length) (.ofNat 0)=false):
 bB m 84 [vG (nC o a b v t l bd el q)] h=some ((vB false,h)):=
 bY (qS [6,11,16,21,27] [33] [] []) (tZ k0 (uT3 (tZ k1 (uT3 (tZ k2 (uT3 (tZ k3 (uT4 (tZ k4 (uT4 (tZ k5 (uF4 (tR ((vB false,h))))))))))))))) (by kernel_rfl)
theorem QyE (k0:eqZ a (.ofNat 0)=true)(k1:eqZ b (.ofNat 0)=true)(k2:eqZ v (.ofNat 0)=true)(k3:eqZ t (.ofNat 0)=true)(k4:eqZ (.ofNat l.length) (.ofNat 0)=false):
 bB m 84 [vG (nC o a b v t l bd el q)] h=some ((vB false,h)):=
 bY (qS [6,11,16,21] [27] [] []) (tZ k0 (uT3 (tZ k1 (uT3 (tZ k2 (uT3 (tZ k3 (uT4 (tZ k4 (uF4 (tR ((vB false,h))))))))))))) (by kernel_rfl)
theorem QyD (k0:eqZ a (.ofNat 0)=true)(k1:eqZ b (.ofNat 0)=true)(k2:eqZ v (.ofNat 0)=true)(k3:eqZ t (.ofNat 0)=false):
 bB m 84 [vG (nC o a b v t l bd el q)] h=some ((vB false,h)):=
 bY (qS [6,11,16] [21] [] []) (tZ k0 (uT3 (tZ k1 (uT3 (tZ k2 (uT3 (tZ k3 (uF4 (tR ((vB false,h))))))))))) (by kernel_rfl)
theorem QyC (k0:eqZ a (.ofNat 0)=true)(k1:eqZ b (.ofNat 0)=true)(k2:eqZ v (.ofNat 0)=false):
 bB m 84 [vG (nC o a b v t l bd el q)] h=some ((vB false,h)):=
 bY (qS [6,11] [16] [] []) (tZ k0 (uT3 (tZ k1 (uT3 (tZ k2 (uF3 (tR ((vB false,h))))))))) (by kernel_rfl)
theorem QyB (k0:eqZ a (.ofNat 0)=true)(k1:eqZ b (.ofNat 0)=false):
 bB m 84 [vG (nC o a b v t l bd el q)] h=some ((vB false,h)):=
 bY (qS [6] [11] [] []) (tZ k0 (uT3 (tZ k1 (uF3 (tR ((vB false,h))))))) (by kernel_rfl)
theorem QyA (k0:eqZ a (.ofNat 0)=false):
 bB m 84 [vG (nC o a b v t l bd el q)] h=some ((vB false,h)):=
 bY (qS [] [6] [] []) (tZ k0 (uF3 (tR ((vB false,h))))) (by kernel_rfl)
theorem QyK (k0:leZ (.ofNat 0) n=true):
 bB m 82 [vI n] h=some ((vB (leZ n (.ofNat 4294967295)),h)):=
 bY (qS [5] [] [] []) (tZ k0 (uT2 (tR ((vB (leZ n (.ofNat 4294967295)),h))))) (by kernel_rfl)
theorem QyJ (k0:leZ (.ofNat 0) n=false):
 bB m 82 [vI n] h=some ((vB false,h)):=
 bY (qS [] [5] [] []) (tZ k0 (uF2 (tR ((vB false,h))))) (by kernel_rfl)
theorem QyI (k0:cA m 82 [vI n] h=some (vB b0,h0)):
 bB m 83 [vI n] h=some ((vB !b0,h0)):=
 bY (qS [] [] [] [(1,1,vB b0,h0)]) (tA k0 (tR ((vB !b0,h0)))) (by kernel_rfl)
theorem QyT (k0:ltZ t (.ofNat 0)=true):
 bB m 81 [vG (nC o a b v t l bd el q)] h=some ((vB false,h)):=
 bY (qS [6] [] [] []) (tZ k0 (uT3 (tR ((vB false,h))))) (by kernel_rfl)
theorem QyS (k0:ltZ t (.ofNat 0)=false)(k1:ltZ (.ofNat 2) t=true):
 bB m 81 [vG (nC o a b v t l bd el q)] h=some ((vB false,h)):=
 bY (qS [11] [6] [] []) (tZ k0 (uF3 (tZ k1 (uT4 (tR ((vB false,h))))))) (by kernel_rfl)
theorem QyR (k0:ltZ t (.ofNat 0)=false)(k1:ltZ (.ofNat 2) t=false)(k2:cA m 19 [vM bd] h=some (vB b0,h0))(k3:(!b0)=true):
 bB m 81 [vG (nC o a b v t l bd el q)] h=some ((vB false,h0)):=
 bY (qS [17] [6,11] [] [(1,11,vB b0,h0)]) (tZ k0 (uF3 (tZ k1 (uF2 (tA k2 (uF2 (tZ k3 (uT4 (tR ((vB false,h0))))))))))) (by kernel_rfl)
theorem QyQ (k0:ltZ t (.ofNat 0)=false)(k1:ltZ (.ofNat 2) t=false)(k2:cA m 19 [vM bd] h=some (vB b1,h1))(k3:(!b1)=false)(k4:cA m 19 [vM el] h1=some (vB b0,h0))(k5:(!b0)=true):
 bB m 81 [vG (nC o a b v t l bd el q)] h=some ((vB false,h0)):=
 bY (qS [22] [6,11,17] [] [(1,11,vB b1,h1),(1,17,vB b0,h0)]) (tZ k0 (uF3 (tZ k1 (uF2 (tA k2 (uF2 (tZ k3 (uF2 (tA k4 (uF2 (tZ k5 (tR ((vB false,h0)))))))))))))) (by kernel_rfl)
theorem QyP (k0:ltZ t (.ofNat 0)=false)(k1:ltZ (.ofNat 2) t=false)(k2:cA m 19 [vM bd] h=some (vB b1,h1))(k3:(!b1)=false)(k4:cA m 19 [vM el] h1=some (vB b0,h0))(k5:(!b0)=false)(k6:(!eqZ o (.ofNat 4))=true)(k7:q=true):
 bB m 81 [vG (nC o a b v t l bd el q)] h=some ((vB false,h0)):=
 bY (qS [26,30] [6,11,17,22] [] [(1,11,vB b1,h1),(1,17,vB b0,h0)]) (tZ k0 (uF3 (tZ k1 (uF2 (tA k2 (uF2 (tZ k3 (uF2 (tA k4 (uF2 (tZ k5 (tZ k6 (uT2 (tZ k7 (uT5 (tR ((vB false,h0)))))))))))))))))) (by kernel_rfl)
theorem QyO (k0:ltZ t (.ofNat 0)=false)(k1:ltZ (.ofNat 2) t=false)(k2:cA m 19 [vM bd] h=some (vB b1,h1))(k3:(!b1)=false)(k4:cA m 19 [vM el] h1=some (vB b0,h0))(k5:(!b0)=false)(k6:(!eqZ o (.ofNat 4))=true)(k7:q=false)(k8:(!q)=true)(k9:ltZ (.ofNat 0) (.ofNat el.length)=true):
 bB m 81 [vG (nC o a b v t l bd el q)] h=some ((vB false,h0)):=
 bY (qS [26,34,40] [6,11,17,22,30] [] [(1,11,vB b1,h1),(1,17,vB b0,h0)]) (tZ k0 (uF3 (tZ k1 (uF2 (tA k2 (uF2 (tZ k3 (uF2 (tA k4 (uF2 (tZ k5 (tZ k6 (uT2 (tZ k7 (uF3 (tZ k8 (uT3 (tA tF (tA tT (tA tF (tZ k9 (tR ((vB false,h0)))))))))))))))))))))))) (by kernel_rfl)
theorem QyN (k0:ltZ t (.ofNat 0)=false)(k1:ltZ (.ofNat 2) t=false)(k2:cA m 19 [vM bd] h=some (vB b1,h1))(k3:(!b1)=false)(k4:cA m 19 [vM el] h1=some (vB b2,h2))(k5:(!b2)=false)(k6:(!eqZ o (.ofNat 4))=true)(k7:q=false)(k8:(!q)=true)(k9:ltZ (.ofNat 0) (.ofNat el.length)=false)(k10:cA m 84 [vG [aI o,aI a,aI b,AV.int IntKind.u64 v,aI (.ofNat 0),aM l,aM [],aM [],aB false]] h2=some (vB b0,h0)):
 bB m 81 [vG (nC o a b v t l bd el q)] h=some ((vB b0,h0)):=
 bY (qS [26,34] [6,11,17,22,30,40] [] [(1,11,vB b1,h1),(1,17,vB b2,h2),(6,1,vB b0,h0)]) (tZ k0 (uF3 (tZ k1 (uF2 (tA k2 (uF2 (tZ k3 (uF2 (tA k4 (uF2 (tZ k5 (tZ k6 (uT2 (tZ k7 (uF3 (tZ k8 (uT3 (tA tF (tA tT (tA tF (tZ k9 (tA k10 (tR ((vB b0,h0))))))))))))))))))))))))) (by kernel_rfl)
theorem QyM (k0:ltZ t (.ofNat 0)=false)(k1:ltZ (.ofNat 2) t=false)(k2:cA m 19 [vM bd] h=some (vB b1,h1))(k3:(!b1)=false)(k4:cA m 19 [vM el] h1=some (vB b0,h0))(k5:(!b0)=false)(k6:(!eqZ o (.ofNat 4))=false)(k7:(!q)=true)(k8:ltZ (.ofNat 0) (.ofNat el.length)=true):
 bB m 81 [vG (nC o a b v t l bd el q)] h=some ((vB false,h0)):=
 bY (qS [34,40] [6,11,17,22,26] [] [(1,11,vB b1,h1),(1,17,vB b0,h0)]) (tZ k0 (uF3 (tZ k1 (uF2 (tA k2 (uF2 (tZ k3 (uF2 (tA k4 (uF2 (tZ k5 (tZ k6 (uF2 (tZ k7 (uT4 (tZ k8 (tR ((vB false,h0))))))))))))))))))) (by kernel_rfl)
theorem QyL (k0:ltZ t (.ofNat 0)=false)(k1:ltZ (.ofNat 2) t=false)(k2:cA m 19 [vM bd] h=some (vB b1,h1))(k3:(!b1)=false)(k4:cA m 19 [vM el] h1=some (vB b2,h2))(k5:(!b2)=false)(k6:(!eqZ o (.ofNat 4))=false)(k7:(!q)=true)(k8:ltZ (.ofNat 0) (.ofNat el.length)=false)(k9:cA m 84 [vG [aI o,aI a,aI b,AV.int IntKind.u64 v,aI (.ofNat 0),aM l,aM [],aM [],aB false]] h2=some (vB b0,h0)):
 bB m 81 [vG (nC o a b v t l bd el q)] h=some ((vB b0,h0)):=
 bY (qS [34] [6,11,17,22,26,40] [] [(1,11,vB b1,h1),(1,17,vB b2,h2),(6,1,vB b0,h0)]) (tZ k0 (uF3 (tZ k1 (uF2 (tA k2 (uF2 (tZ k3 (uF2 (tA k4 (uF2 (tZ k5 (tZ k6 (uF2 (tZ k7 (uT4 (tZ k8 (tA k9 (tR ((vB b0,h0)))))))))))))))))))) (by kernel_rfl)
theorem Quh (k0:ltZ t (.ofNat 0)=false)(k1:ltZ (.ofNat 2) t=false)(k2:cA m 19 [vM bd] h=some (vB b1,h1))(k3:(!b1)=false)(k4:cA m 19 [vM el] h1=some (vB b2,h2))(k5:(!b2)=false)(k6:(!eqZ o (.ofNat 4))=false)(k7:(!q)=false)(k8:cA m 84 [vG [aI o,aI a,aI b,AV.int IntKind.u64 v,aI (.ofNat 0),aM l,aM [],aM [],aB false]] h2=some (vB b0,h0)):
 bB m 81 [vG (nC o a b v t l bd el q)] h=some ((vB b0,h0)):=
 bY (qS [] [6,11,17,22,26,34] [] [(1,11,vB b1,h1),(1,17,vB b2,h2),(6,1,vB b0,h0)]) (tZ k0 (uF3 (tZ k1 (uF2 (tA k2 (uF2 (tZ k3 (uF2 (tA k4 (uF2 (tZ k5 (tZ k6 (uF2 (tZ k7 (uF4 (tA k8 (tR ((vB b0,h0))))))))))))))))))) (by kernel_rfl)
theorem Qzn (k0:cA m 44 [vG (nC o a b v t l bd el q)] h=some (vB b0,h0)):
 bB m 43 [vG (nC o a b v t l bd el q)] h=some ((vB !b0,h0)):=
 bY (qS [] [] [] [(1,1,vB b0,h0)]) (tA k0 (tR ((vB !b0,h0)))) (by kernel_rfl)
theorem Qzx (k0:cA m 42 [vM xs,LV.v (AV.fn 43 [] [])] h=some (vB b0,h0)):
 bB m 19 [vM xs] h=some ((vB !b0,h0)):=
 bY (qS [] [] [] [(1,1,vB b0,h0)]) (tA k0 (tR ((vB !b0,h0)))) (by kernel_rfl)
theorem Qzo (k0:cA m 79 [vM xs,LV.v fv] h=some (vI i0,h0)):
 bB m 42 [vM xs,.v fv] h=some ((vB (leZ (.ofNat 0) i0),h0)):=
 bY (qS [] [] [] [(1,2,vI i0,h0)]) (tA k0 (tR ((vB (leZ (.ofNat 0) i0),h0)))) (by kernel_rfl)
theorem QyU (k0:bA m 79 2 [vM xs,LV.v fv,vI (.ofNat xs.length),vI (.ofNat 0)] h=some r):
 bB m 79 [vM xs,.v fv] h=some r:=
 bY (qS [] [] [] []) (tA t1 (k0)) (by kernel_rfl)
theorem Qp6 (k0:ltZ (.ofNat i) n=true)(k1:ixA (aM xs) (.ofNat i) 9=some (nC i0 i1 i2 i3 i4 l0 l1 l2 b1))(k2:cV m fv [vG (nC i0 i1 i2 i3 i4 l0 l1 l2 b1)] h=some (vB b0,h0))(k3:b0=true):
 bA m 79 2 [vM xs,.v fv,vI n,vI i] h=some ((vI (.ofNat i),h0)):=
 bY (qS [9,16] [] [(4,3,(LV.v (AV.snap (nC i0 i1 i2 i3 i4 l0 l1 l2 b1))))] [(4,5,vB b0,h0)]) (tZ k0 (tA (tA t0 (tA tN (k1))) (tA k2 (tZ k3 (tR ((vI (.ofNat i),h0))))))) (by kernel_rfl)
theorem Qp5 (k0:ltZ (.ofNat i) n=true)(k1:ixA (aM xs) (.ofNat i) 9=some (nC i0 i1 i2 i3 i4 l0 l1 l2 b1))(k2:cV m fv [vG (nC i0 i1 i2 i3 i4 l0 l1 l2 b1)] h=some (vB b0,h0))(k3:b0=false)(k4:bA m 79 2 [vM xs,LV.v fv,vI n,vI (IntKind.wrap .i64 (.ofNat (Nat.succ i)))] h0=some r):
 bA m 79 2 [vM xs,.v fv,vI n,vI i] h=some r:=
 bY (qS [9] [16] [(4,3,(LV.v (AV.snap (nC i0 i1 i2 i3 i4 l0 l1 l2 b1))))] [(4,5,vB b0,h0)]) (tZ k0 (tA (tA t0 (tA tN (k1))) (tA k2 (tZ k3 (tA t1 (k4)))))) (by kernel_rfl)
theorem Qp4 (k0:ltZ (.ofNat i) n=false):
 bA m 79 2 [vM xs,.v fv,vI n,vI i] h=some ((vI (Int.negSucc 0),h)):=
 bY (qS [] [9] [] []) (tZ k0 (tR ((vI (Int.negSucc 0),h)))) (by kernel_rfl)
theorem Qui (k0:cA m 86 [vM xs,LV.v fv] h=some (vI i0,h0)):
 bB m 47 [vM xs,.v fv] h=some ((vB (leZ (.ofNat 0) i0),h0)):=
 bY (qS [] [] [] [(1,2,vI i0,h0)]) (tA k0 (tR ((vB (leZ (.ofNat 0) i0),h0)))) (by kernel_rfl)
theorem Qug (k0:bA m 86 2 [vM xs,LV.v fv,vI (.ofNat xs.length),vI (.ofNat 0)] h=some r):
 bB m 86 [vM xs,.v fv] h=some r:=
 bY (qS [] [] [] []) (tA t1 (k0)) (by kernel_rfl)
theorem QjD (k0:ltZ (.ofNat i) n=true)(k1:ixA (aM xs) (.ofNat i) 1=some [aI i0])(k2:cV m fv [vI i0] h=some (vB b0,h0))(k3:b0=true):
 bA m 86 2 [vM xs,.v fv,vI n,vI i] h=some ((vI (.ofNat i),h0)):=
 bY (qS [9,16] [] [(4,3,(LV.v (AV.snap [aI i0])))] [(4,5,vB b0,h0)]) (tZ k0 (tA (tA t0 (tA tN (k1))) (tA k2 (tZ k3 (tR ((vI (.ofNat i),h0))))))) (by kernel_rfl)
theorem QjC (k0:ltZ (.ofNat i) n=true)(k1:ixA (aM xs) (.ofNat i) 1=some [aI i0])(k2:cV m fv [vI i0] h=some (vB b0,h0))(k3:b0=false)(k4:bA m 86 2 [vM xs,LV.v fv,vI n,vI (IntKind.wrap .i64 (.ofNat (Nat.succ i)))] h0=some r):
 bA m 86 2 [vM xs,.v fv,vI n,vI i] h=some r:=
 bY (qS [9] [16] [(4,3,(LV.v (AV.snap [aI i0])))] [(4,5,vB b0,h0)]) (tZ k0 (tA (tA t0 (tA tN (k1))) (tA k2 (tZ k3 (tA t1 (k4)))))) (by kernel_rfl)
theorem QjB (k0:ltZ (.ofNat i) n=false):
 bA m 86 2 [vM xs,.v fv,vI n,vI i] h=some ((vI (Int.negSucc 0),h)):=
 bY (qS [] [9] [] []) (tZ k0 (tR ((vI (Int.negSucc 0),h)))) (by kernel_rfl)
end Go.Proofs.YtoblgjmllmomhaaGreatDoor
