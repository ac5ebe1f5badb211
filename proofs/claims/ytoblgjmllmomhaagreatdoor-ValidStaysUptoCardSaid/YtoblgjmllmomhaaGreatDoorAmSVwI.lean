/-
  Ways through texts, one by one (printed by a program of this repo).
-/
import Derived.Test.YtoblgjmllmomhaaGreatDoorAmSVwM
import Derived.KernelRfl
namespace Go.Proofs.YtoblgjmllmomhaaGreatDoor
set_option maxRecDepth 100000
open Go Go.Proofs.Am
variable {m st f n i0 i1 i2 i3 i4 i5:Int} {ty im fu ta me gl ex el da cu tys fns gls xs l0 l1 l2 l3 l4 l5 l6:LL} {r:LV×Heap} {bt bm b0 b1:Bool} {i:Nat} {h0 h1:Heap} {s0 s1:ByteArray}
theorem QCL (k0:ltZ f (.ofNat 0)=true):
 bB m 17 [mV ty im fu ta me gl ex st el da cu,vI f] Heap.nil=some ((LV.tup [AV.agg [aM [],aM [],aM [],aB false,aB false,aM [],aI (.ofNat 0)],AV.ifc 56 (aI (.ofNat 5))],(Heap.mk [[vM ty,vM im,vM fu,vM ta,vM me,vM gl,vM ex,vI st,vM el,vM da,vM cu]] []))):=
 bY (qS [19] [] [] []) (tZ k0 (uT5 (tR ((LV.tup [AV.agg [aM [],aM [],aM [],aB false,aB false,aM [],aI (.ofNat 0)],AV.ifc 56 (aI (.ofNat 5))],(Heap.mk [[vM ty,vM im,vM fu,vM ta,vM me,vM gl,vM ex,vI st,vM el,vM da,vM cu]] [])))))) (by kernel_rfl)
theorem QCK (k0:ltZ f (.ofNat 0)=false)(k1:leZ (.ofNat fu.length) f=true):
 bB m 17 [mV ty im fu ta me gl ex st el da cu,vI f] Heap.nil=some ((LV.tup [AV.agg [aM [],aM [],aM [],aB false,aB false,aM [],aI (.ofNat 0)],AV.ifc 56 (aI (.ofNat 5))],(Heap.mk [[vM ty,vM im,vM fu,vM ta,vM me,vM gl,vM ex,vI st,vM el,vM da,vM cu]] []))):=
 bY (qS [26] [19] [] []) (tZ k0 (uF5 (tZ k1 (uT7 (tR ((LV.tup [AV.agg [aM [],aM [],aM [],aB false,aB false,aM [],aI (.ofNat 0)],AV.ifc 56 (aI (.ofNat 5))],(Heap.mk [[vM ty,vM im,vM fu,vM ta,vM me,vM gl,vM ex,vI st,vM el,vM da,vM cu]] [])))))))) (by kernel_rfl)
theorem QCJ (k0:ltZ f (.ofNat 0)=false)(k1:leZ (.ofNat fu.length) f=false)(k2:ixA (aM fu) f 3=some [aI i0,aM l0,aM l1])(k3:ltZ i0 (.ofNat 0)=true):
 bB m 17 [mV ty im fu ta me gl ex st el da cu,vI f] Heap.nil=some ((LV.tup [AV.agg [aM [],aM [],aM [],aB false,aB false,aM [],aI (.ofNat 0)],AV.ifc 56 (aI (.ofNat 5))],(Heap.mk [[vM ty,vM im,vM fu,vM ta,vM me,vM gl,vM ex,vI st,vM el,vM da,vM cu]] []))):=
 bY (qS [35] [19,26] [(1,13,(LV.v (AV.snap [aI i0,aM l0,aM l1])))] []) (tZ k0 (uF5 (tZ k1 (uF3 (tA (tA t0 (tA tN (k2))) (uF4 (tZ k3 (uT9 (tA tT (tR ((LV.tup [AV.agg [aM [],aM [],aM [],aB false,aB false,aM [],aI (.ofNat 0)],AV.ifc 56 (aI (.ofNat 5))],(Heap.mk [[vM ty,vM im,vM fu,vM ta,vM me,vM gl,vM ex,vI st,vM el,vM da,vM cu]] []))))))))))))) (by kernel_rfl)
theorem QCI (k0:ltZ f (.ofNat 0)=false)(k1:leZ (.ofNat fu.length) f=false)(k2:ixA (aM fu) f 3=some [aI i0,aM l0,aM l1])(k3:ltZ i0 (.ofNat 0)=false)(k4:ixA (aM fu) f 3=some [aI i1,aM l2,aM l3])(k5:leZ (.ofNat ty.length) i1=true):
 bB m 17 [mV ty im fu ta me gl ex st el da cu,vI f] Heap.nil=some ((LV.tup [AV.agg [aM [],aM [],aM [],aB false,aB false,aM [],aI (.ofNat 0)],AV.ifc 56 (aI (.ofNat 5))],(Heap.mk [[vM ty,vM im,vM fu,vM ta,vM me,vM gl,vM ex,vI st,vM el,vM da,vM cu]] []))):=
 bY (qS [46] [19,26,35] [(1,13,(LV.v (AV.snap [aI i0,aM l0,aM l1]))),(1,22,(LV.v (AV.snap [aI i1,aM l2,aM l3])))] []) (tZ k0 (uF5 (tZ k1 (uF3 (tA (tA t0 (tA tN (k2))) (uF4 (tZ k3 (uF3 (tA (tA t0 (tA tN (k4))) (uF7 (tZ k5 (tR ((LV.tup [AV.agg [aM [],aM [],aM [],aB false,aB false,aM [],aI (.ofNat 0)],AV.ifc 56 (aI (.ofNat 5))],(Heap.mk [[vM ty,vM im,vM fu,vM ta,vM me,vM gl,vM ex,vI st,vM el,vM da,vM cu]] []))))))))))))))) (by kernel_rfl)
theorem QCH (k0:ltZ f (.ofNat 0)=false)(k1:leZ (.ofNat fu.length) f=false)(k2:ixA (aM fu) f 3=some [aI i2,aM l0,aM l1])(k3:ltZ i2 (.ofNat 0)=false)(k4:ixA (aM fu) f 3=some [aI i3,aM l2,aM l3])(k5:leZ (.ofNat ty.length) i3=false)(k6:Qbw [mV ty im fu ta me gl ex st el da cu,vI (.ofNat 1)]=true)(k7:cA m 36 [mV ty im fu ta me gl ex st el da cu,vI (.ofNat 1)] Heap.nil=some (vI i0,h0))(k8:Qbw [mV ty im fu ta me gl ex st el da cu,vI (.ofNat 2)]=true)(k9:cA m 36 [mV ty im fu ta me gl ex st el da cu,vI (.ofNat 2)] Heap.nil=some (vI i1,h1))(k10:bA m 17 5 [vI f,vP 0 0,LV.lp 0 0,vP 1 0,vM ty,vI (.ofNat ty.length),vI (.ofNat 0),LV.ow 2 [],LV.ow 1 [],LV.ow 11 [],vB false,vB false,LV.ow 1 [],vI (.ofNat 0)] (Heap.mk [[vM ty,vM im,vM fu,vM ta,vM me,vM gl,vM ex,vI st,vM el,vM da,vM cu],[LV.ow 2 [],LV.ow 1 [],LV.ow 11 [],vB (ltZ (.ofNat 0) i0),vB (ltZ (.ofNat 0) i1),LV.ow 1 [],vI (.ofNat 0)]] [])=some r):
 bB m 17 [mV ty im fu ta me gl ex st el da cu,vI f] Heap.nil=some r:=
 bY (qS [] [19,26,35,46] [(1,13,(LV.v (AV.snap [aI i2,aM l0,aM l1]))),(1,22,(LV.v (AV.snap [aI i3,aM l2,aM l3])))] [(3,1,vI i0,h0),(3,4,vI i1,h1)]) (tZ k0 (uF5 (tZ k1 (uF3 (tA (tA t0 (tA tN (k2))) (uF4 (tZ k3 (uF3 (tA (tA t0 (tA tN (k4))) (uF7 (tZ k5 (tA k6 (tA k7 (tA t1 (tA k8 (tA k9 (u12 (k10)))))))))))))))))) (by kernel_rfl)
theorem Qx8 (k0:ltZ n (.ofNat 0)=true)(k1:apL (LV.ow 1 fns) 1 8 [[aI (Int.negSucc 0)]]=some (LV.ow 1 l0)):
 bB m 38 [vI n,vP 0 0,vP 1 0] ⟨[[vM ty,vM im,vM fu,vM ta,vM me,vM gl,vM ex,vI st,vM el,vM da,vM cu],[.ow 2 tys,.ow 1 fns,.ow 11 gls,vB bt,vB bm,.ow 1 [],vI (.ofNat 0)]],[]⟩=some ((LV.tup [],(Heap.mk [[vM ty,vM im,vM fu,vM ta,vM me,vM gl,vM ex,vI st,vM el,vM da,vM cu],[LV.ow 2 tys,LV.ow 1 l0,LV.ow 11 gls,vB bt,vB bm,LV.ow 1 [],vI (.ofNat 0)]] []))):=
 bY (qS [6] [] [(2,4,(LV.ow 1 l0))] []) (tZ k0 (uT5 (u02 (tA t1 (tA k1 (tR ((LV.tup [],(Heap.mk [[vM ty,vM im,vM fu,vM ta,vM me,vM gl,vM ex,vI st,vM el,vM da,vM cu],[LV.ow 2 tys,LV.ow 1 l0,LV.ow 11 gls,vB bt,vB bm,LV.ow 1 [],vI (.ofNat 0)]] []))))))))) (by kernel_rfl)
theorem Qx7 (k0:ltZ n (.ofNat 0)=false)(k1:leZ (.ofNat ty.length) n=true)(k2:apL (LV.ow 1 fns) 1 8 [[aI (Int.negSucc 0)]]=some (LV.ow 1 l0)):
 bB m 38 [vI n,vP 0 0,vP 1 0] ⟨[[vM ty,vM im,vM fu,vM ta,vM me,vM gl,vM ex,vI st,vM el,vM da,vM cu],[.ow 2 tys,.ow 1 fns,.ow 11 gls,vB bt,vB bm,.ow 1 [],vI (.ofNat 0)]],[]⟩=some ((LV.tup [],(Heap.mk [[vM ty,vM im,vM fu,vM ta,vM me,vM gl,vM ex,vI st,vM el,vM da,vM cu],[LV.ow 2 tys,LV.ow 1 l0,LV.ow 11 gls,vB bt,vB bm,LV.ow 1 [],vI (.ofNat 0)]] []))):=
 bY (qS [12] [6] [(2,4,(LV.ow 1 l0))] []) (tZ k0 (uF5 (tZ k1 (u02 (tA t1 (tA k2 (tR ((LV.tup [],(Heap.mk [[vM ty,vM im,vM fu,vM ta,vM me,vM gl,vM ex,vI st,vM el,vM da,vM cu],[LV.ow 2 tys,LV.ow 1 l0,LV.ow 11 gls,vB bt,vB bm,LV.ow 1 [],vI (.ofNat 0)]] [])))))))))) (by kernel_rfl)
theorem Qx6 (k0:ltZ n (.ofNat 0)=false)(k1:leZ (.ofNat ty.length) n=false)(k2:apL (LV.ow 1 fns) 1 8 [[aI n]]=some (LV.ow 1 l0)):
 bB m 38 [vI n,vP 0 0,vP 1 0] ⟨[[vM ty,vM im,vM fu,vM ta,vM me,vM gl,vM ex,vI st,vM el,vM da,vM cu],[.ow 2 tys,.ow 1 fns,.ow 11 gls,vB bt,vB bm,.ow 1 [],vI (.ofNat 0)]],[]⟩=some ((LV.tup [],(Heap.mk [[vM ty,vM im,vM fu,vM ta,vM me,vM gl,vM ex,vI st,vM el,vM da,vM cu],[LV.ow 2 tys,LV.ow 1 l0,LV.ow 11 gls,vB bt,vB bm,LV.ow 1 [],vI (.ofNat 0)]] []))):=
 bY (qS [] [6,12] [(2,4,(LV.ow 1 l0))] []) (tZ k0 (uF5 (tZ k1 (u02 (tA t1 (tA k2 (tR ((LV.tup [],(Heap.mk [[vM ty,vM im,vM fu,vM ta,vM me,vM gl,vM ex,vI st,vM el,vM da,vM cu],[LV.ow 2 tys,LV.ow 1 l0,LV.ow 11 gls,vB bt,vB bm,LV.ow 1 [],vI (.ofNat 0)]] [])))))))))) (by kernel_rfl)
theorem QtA (k0:ltZ (.ofNat i) n=true)(k1:ixA (aM xs) (.ofNat i) 2=some [aM l2,aM l3])(k2:Qbw [vM l2]=true)(k3:cA m 37 [vM l2] Heap.nil=some (vM l0,h0))(k4:LV.np (vM l0)=true)(k5:Qbw [vM l3]=true)(k6:cA m 37 [vM l3] Heap.nil=some (vM l1,h1))(k7:LV.np (vM l1)=true)(k8:apL (LV.ow 2 tys) 2 48 [[aM l0,aM l1]]=some (LV.ow 2 l4))(k9:bA m 17 5 [vI f,vP 0 0,LV.lp 0 0,vP 1 0,vM xs,vI n,vI (IntKind.wrap .i64 (.ofNat (Nat.succ i))),LV.ow 2 [],LV.ow 1 [],LV.ow 11 [],vB false,vB false,LV.ow 1 [],vI (.ofNat 0)] (Heap.mk [[vM ty,vM im,vM fu,vM ta,vM me,vM gl,vM ex,vI st,vM el,vM da,vM cu],[LV.ow 2 l4,LV.ow 1 fns,LV.ow 11 gls,vB bt,vB bm,LV.ow 1 [],vI (.ofNat 0)]] [])=some r):
 bA m 17 5 [vI f,vP 0 0,.lp 0 0,vP 1 0,vM xs,vI n,vI (.ofNat i),.ow 2 [],.ow 1 [],.ow 11 [],vB false,vB false,.ow 1 [],vI (.ofNat 0)] ⟨[[vM ty,vM im,vM fu,vM ta,vM me,vM gl,vM ex,vI st,vM el,vM da,vM cu],[.ow 2 tys,.ow 1 fns,.ow 11 gls,vB bt,vB bm,.ow 1 [],vI (.ofNat 0)]],[]⟩=some r:=
 bY (qS [60] [] [(6,0,(LV.v (AV.snap [aM l2,aM l3]))),(7,10,(LV.ow 2 l4))] [(7,4,vM l0,h0),(7,7,vM l1,h1)]) (tZ k0 (tA (tA t0 (tA tN (k1))) (tA k2 (tA k3 (tA k4 (tA k5 (tA k6 (tA k7 (u02 (tA t1 (tA k8 (tA t1 (k9))))))))))))) (by kernel_rfl)
theorem Qtz (k0:ltZ (.ofNat i) n=false)(k1:bA m 17 11 [vI f,vP 0 0,LV.lp 0 0,vP 1 0,LV.v (AV.fn 38 [] [AV.ptr 0 0,AV.ptr 1 0]),vM im,vI (.ofNat im.length),vI (.ofNat 0),LV.ow 2 [],LV.ow 1 [],LV.ow 11 [],vB false,vB false,LV.ow 1 [],vI (.ofNat 0)] (Heap.mk [[vM ty,vM im,vM fu,vM ta,vM me,vM gl,vM ex,vI st,vM el,vM da,vM cu],[LV.ow 2 tys,LV.ow 1 fns,LV.ow 11 gls,vB bt,vB bm,LV.ow 1 [],vI (.ofNat 0)]] [])=some r):
 bA m 17 5 [vI f,vP 0 0,.lp 0 0,vP 1 0,vM xs,vI n,vI (.ofNat i),.ow 2 [],.ow 1 [],.ow 11 [],vB false,vB false,.ow 1 [],vI (.ofNat 0)] ⟨[[vM ty,vM im,vM fu,vM ta,vM me,vM gl,vM ex,vI st,vM el,vM da,vM cu],[.ow 2 tys,.ow 1 fns,.ow 11 gls,vB bt,vB bm,.ow 1 [],vI (.ofNat 0)]],[]⟩=some r:=
 bY (qS [] [60] [] []) (tZ k0 (tA t1 (k1))) (by kernel_rfl)
theorem QpD (k0:ltZ (.ofNat i) n=true)(k1:ixA (aM xs) (.ofNat i) 3=some [aI i0,aM l0,aM l1])(k2:cV m (AV.fn 38 [] [AV.ptr 0 0,AV.ptr 1 0]) [vI i0] (Heap.mk [[vM ty,vM im,vM fu,vM ta,vM me,vM gl,vM ex,vI st,vM el,vM da,vM cu],[LV.ow 2 tys,LV.ow 1 fns,LV.ow 11 gls,vB bt,vB bm,LV.ow 1 [],vI (.ofNat 0)]] [])=some (LV.tup [],h0))(k3:bA m 17 20 [vI f,vP 0 0,LV.lp 0 0,vP 1 0,LV.v (AV.fn 38 [] [AV.ptr 0 0,AV.ptr 1 0]),vM xs,vI n,vI (IntKind.wrap .i64 (.ofNat (Nat.succ i))),LV.ow 2 [],LV.ow 1 [],LV.ow 11 [],vB false,vB false,LV.ow 1 [],vI (.ofNat 0)] h0=some r):
 bA m 17 20 [vI f,vP 0 0,.lp 0 0,vP 1 0,.v (.fn 38 [] [.ptr 0 0,.ptr 1 0]),vM xs,vI n,vI (.ofNat i),.ow 2 [],.ow 1 [],.ow 11 [],vB false,vB false,.ow 1 [],vI (.ofNat 0)] ⟨[[vM ty,vM im,vM fu,vM ta,vM me,vM gl,vM ex,vI st,vM el,vM da,vM cu],[.ow 2 tys,.ow 1 fns,.ow 11 gls,vB bt,vB bm,.ow 1 [],vI (.ofNat 0)]],[]⟩=some r:=
 bY (qS [109] [] [(21,0,(LV.v (AV.snap [aI i0,aM l0,aM l1])))] [(22,3,LV.tup [],h0)]) (tZ k0 (tA (tA t0 (tA tN (k1))) (tA k2 (tA t1 (k3))))) (by kernel_rfl)
theorem QpC (k0:ltZ (.ofNat i) n=false)(k1:bA m 17 25 [vI f,vP 0 0,LV.lp 0 0,vP 1 0,vM gl,vI (.ofNat gl.length),vI (.ofNat 0),LV.ow 2 [],LV.ow 1 [],LV.ow 11 [],vB false,vB false,LV.ow 1 [],vI (.ofNat 0)] (Heap.mk [[vM ty,vM im,vM fu,vM ta,vM me,vM gl,vM ex,vI st,vM el,vM da,vM cu],[LV.ow 2 tys,LV.ow 1 fns,LV.ow 11 gls,vB bt,vB bm,LV.ow 1 [],vI (.ofNat 0)]] [])=some r):
 bA m 17 20 [vI f,vP 0 0,.lp 0 0,vP 1 0,.v (.fn 38 [] [.ptr 0 0,.ptr 1 0]),vM xs,vI n,vI (.ofNat i),.ow 2 [],.ow 1 [],.ow 11 [],vB false,vB false,.ow 1 [],vI (.ofNat 0)] ⟨[[vM ty,vM im,vM fu,vM ta,vM me,vM gl,vM ex,vI st,vM el,vM da,vM cu],[.ow 2 tys,.ow 1 fns,.ow 11 gls,vB bt,vB bm,.ow 1 [],vI (.ofNat 0)]],[]⟩=some r:=
 bY (qS [] [109] [] []) (tZ k0 (tA t1 (k1))) (by kernel_rfl)
theorem QpH (k0:ltZ (.ofNat i) n=true)(k1:ixA (aM xs) (.ofNat i) 8=some [aS s0,aS s1,aI i0,aI i1,aB b0,aI i2,aI i3,aB b1])(k2:eqZ i0 (.ofNat 0)=true)(k3:cV m (AV.fn 38 [] [AV.ptr 0 0,AV.ptr 1 0]) [vI i1] (Heap.mk [[vM ty,vM im,vM fu,vM ta,vM me,vM gl,vM ex,vI st,vM el,vM da,vM cu],[LV.ow 2 tys,LV.ow 1 fns,LV.ow 11 gls,vB bt,vB bm,LV.ow 1 [],vI (.ofNat 0)]] [])=some (LV.tup [],h0))(k4:bA m 17 11 [vI f,vP 0 0,LV.lp 0 0,vP 1 0,LV.v (AV.fn 38 [] [AV.ptr 0 0,AV.ptr 1 0]),vM xs,vI n,vI (IntKind.wrap .i64 (.ofNat (Nat.succ i))),LV.ow 2 [],LV.ow 1 [],LV.ow 11 [],vB false,vB false,LV.ow 1 [],vI (.ofNat 0)] h0=some r):
 bA m 17 11 [vI f,vP 0 0,.lp 0 0,vP 1 0,.v (.fn 38 [] [.ptr 0 0,.ptr 1 0]),vM xs,vI n,vI (.ofNat i),.ow 2 [],.ow 1 [],.ow 11 [],vB false,vB false,.ow 1 [],vI (.ofNat 0)] ⟨[[vM ty,vM im,vM fu,vM ta,vM me,vM gl,vM ex,vI st,vM el,vM da,vM cu],[.ow 2 tys,.ow 1 fns,.ow 11 gls,vB bt,vB bm,.ow 1 [],vI (.ofNat 0)]],[]⟩=some r:=
 bY (qS [81,86] [] [(12,0,(LV.v (AV.snap [aS s0,aS s1,aI i0,aI i1,aB b0,aI i2,aI i3,aB b1])))] [(15,3,LV.tup [],h0)]) (tZ k0 (tA (tA t0 (tA tN (k1))) (tZ k2 (tA k3 (tA t1 (k4)))))) (by kernel_rfl)
theorem QpG (k0:ltZ (.ofNat i) n=true)(k1:ixA (aM xs) (.ofNat i) 8=some [aS s0,aS s1,aI i0,aI i1,aB b0,aI i2,aI i3,aB b1])(k2:eqZ i0 (.ofNat 0)=false)(k3:eqZ i0 (.ofNat 3)=true)(k4:apL (LV.ow 11 gls) 11 136 [[aI i1,aB b0,aI (.ofNat 0),aI (.ofNat 0),aI (.ofNat 0),AV.int IntKind.u64 (.ofNat 0),aI (.ofNat 0),aM [],aM [],aM [],aB false]]=some (LV.ow 11 l0))(k5:bA m 17 11 [vI f,vP 0 0,LV.lp 0 0,vP 1 0,LV.v (AV.fn 38 [] [AV.ptr 0 0,AV.ptr 1 0]),vM xs,vI n,vI (IntKind.wrap .i64 (.ofNat (Nat.succ i))),LV.ow 2 [],LV.ow 1 [],LV.ow 11 [],vB false,vB false,LV.ow 1 [],vI (.ofNat 0)] (Heap.mk [[vM ty,vM im,vM fu,vM ta,vM me,vM gl,vM ex,vI st,vM el,vM da,vM cu],[LV.ow 2 tys,LV.ow 1 fns,LV.ow 11 l0,vB bt,vB bm,LV.ow 1 [],vI (.ofNat 0)]] [])=some r):
 bA m 17 11 [vI f,vP 0 0,.lp 0 0,vP 1 0,.v (.fn 38 [] [.ptr 0 0,.ptr 1 0]),vM xs,vI n,vI (.ofNat i),.ow 2 [],.ow 1 [],.ow 11 [],vB false,vB false,.ow 1 [],vI (.ofNat 0)] ⟨[[vM ty,vM im,vM fu,vM ta,vM me,vM gl,vM ex,vI st,vM el,vM da,vM cu],[.ow 2 tys,.ow 1 fns,.ow 11 gls,vB bt,vB bm,.ow 1 [],vI (.ofNat 0)]],[]⟩=some r:=
 bY (qS [81,92] [86] [(12,0,(LV.v (AV.snap [aS s0,aS s1,aI i0,aI i1,aB b0,aI i2,aI i3,aB b1]))),(17,8,(LV.ow 11 l0))] []) (tZ k0 (tA (tA t0 (tA tN (k1))) (tZ k2 (tZ k3 (u02 (tA t1 (tA k4 (tA t1 (k5))))))))) (by kernel_rfl)
theorem QpF (k0:ltZ (.ofNat i) n=true)(k1:ixA (aM xs) (.ofNat i) 8=some [aS s0,aS s1,aI i0,aI i1,aB b0,aI i2,aI i3,aB b1])(k2:eqZ i0 (.ofNat 0)=false)(k3:eqZ i0 (.ofNat 3)=false)(k4:bA m 17 11 [vI f,vP 0 0,LV.lp 0 0,vP 1 0,LV.v (AV.fn 38 [] [AV.ptr 0 0,AV.ptr 1 0]),vM xs,vI n,vI (IntKind.wrap .i64 (.ofNat (Nat.succ i))),LV.ow 2 [],LV.ow 1 [],LV.ow 11 [],vB false,vB false,LV.ow 1 [],vI (.ofNat 0)] (Heap.mk [[vM ty,vM im,vM fu,vM ta,vM me,vM gl,vM ex,vI st,vM el,vM da,vM cu],[LV.ow 2 tys,LV.ow 1 fns,LV.ow 11 gls,vB bt,vB bm,LV.ow 1 [],vI (.ofNat 0)]] [])=some r):
 bA m 17 11 [vI f,vP 0 0,.lp 0 0,vP 1 0,.v (.fn 38 [] [.ptr 0 0,.ptr 1 0]),vM xs,vI n,vI (.ofNat i),.ow 2 [],.ow 1 [],.ow 11 [],vB false,vB false,.ow 1 [],vI (.ofNat 0)] ⟨[[vM ty,vM im,vM fu,vM ta,vM me,vM gl,vM ex,vI st,vM el,vM da,vM cu],[.ow 2 tys,.ow 1 fns,.ow 11 gls,vB bt,vB bm,.ow 1 [],vI (.ofNat 0)]],[]⟩=some r:=
 bY (qS [81] [86,92] [(12,0,(LV.v (AV.snap [aS s0,aS s1,aI i0,aI i1,aB b0,aI i2,aI i3,aB b1])))] []) (tZ k0 (tA (tA t0 (tA tN (k1))) (tZ k2 (tZ k3 (tA t1 (k4)))))) (by kernel_rfl)
theorem QpE (k0:ltZ (.ofNat i) n=false)(k1:bA m 17 20 [vI f,vP 0 0,LV.lp 0 0,vP 1 0,LV.v (AV.fn 38 [] [AV.ptr 0 0,AV.ptr 1 0]),vM fu,vI (.ofNat fu.length),vI (.ofNat 0),LV.ow 2 [],LV.ow 1 [],LV.ow 11 [],vB false,vB false,LV.ow 1 [],vI (.ofNat 0)] (Heap.mk [[vM ty,vM im,vM fu,vM ta,vM me,vM gl,vM ex,vI st,vM el,vM da,vM cu],[LV.ow 2 tys,LV.ow 1 fns,LV.ow 11 gls,vB bt,vB bm,LV.ow 1 [],vI (.ofNat 0)]] [])=some r):
 bA m 17 11 [vI f,vP 0 0,.lp 0 0,vP 1 0,.v (.fn 38 [] [.ptr 0 0,.ptr 1 0]),vM xs,vI n,vI (.ofNat i),.ow 2 [],.ow 1 [],.ow 11 [],vB false,vB false,.ow 1 [],vI (.ofNat 0)] ⟨[[vM ty,vM im,vM fu,vM ta,vM me,vM gl,vM ex,vI st,vM el,vM da,vM cu],[.ow 2 tys,.ow 1 fns,.ow 11 gls,vB bt,vB bm,.ow 1 [],vI (.ofNat 0)]],[]⟩=some r:=
 bY (qS [] [81] [] []) (tZ k0 (tA t1 (k1))) (by kernel_rfl)
theorem QpB (k0:ltZ (.ofNat i) n=true)(k1:ixA (aM xs) (.ofNat i) 11=some ([aI i0,aB b0]++nC i1 i2 i3 i4 i5 l1 l2 l3 b1))(k2:apL (LV.ow 11 gls) 11 136 [[aI i0,aB b0,aI (.ofNat 0),aI (.ofNat 0),aI (.ofNat 0),AV.int IntKind.u64 (.ofNat 0),aI (.ofNat 0),aM [],aM [],aM [],aB false]]=some (LV.ow 11 l0))(k3:bA m 17 25 [vI f,vP 0 0,LV.lp 0 0,vP 1 0,vM xs,vI n,vI (IntKind.wrap .i64 (.ofNat (Nat.succ i))),LV.ow 2 [],LV.ow 1 [],LV.ow 11 [],vB false,vB false,LV.ow 1 [],vI (.ofNat 0)] (Heap.mk [[vM ty,vM im,vM fu,vM ta,vM me,vM gl,vM ex,vI st,vM el,vM da,vM cu],[LV.ow 2 tys,LV.ow 1 fns,LV.ow 11 l0,vB bt,vB bm,LV.ow 1 [],vI (.ofNat 0)]] [])=some r):
 bA m 17 25 [vI f,vP 0 0,.lp 0 0,vP 1 0,vM xs,vI n,vI (.ofNat i),.ow 2 [],.ow 1 [],.ow 11 [],vB false,vB false,.ow 1 [],vI (.ofNat 0)] ⟨[[vM ty,vM im,vM fu,vM ta,vM me,vM gl,vM ex,vI st,vM el,vM da,vM cu],[.ow 2 tys,.ow 1 fns,.ow 11 gls,vB bt,vB bm,.ow 1 [],vI (.ofNat 0)]],[]⟩=some r:=
 bY (qS [121] [] [(26,0,(LV.v (AV.snap ([aI i0,aB b0]++nC i1 i2 i3 i4 i5 l1 l2 l3 b1)))),(27,8,(LV.ow 11 l0))] []) (tZ k0 (tA (tA t0 (tA tN (k1))) (u02 (tA t1 (tA k2 (tA t1 (k3))))))) (by kernel_rfl)
theorem QpA (k0:ltZ (.ofNat i) n=false)(k1:ixA (aM fu) f 3=some [aI i1,aM l4,aM l5])(k2:ixA (aM ty) i1 2=some [aM l1,aM l2])(k3:ixA (aM fu) f 3=some [aI i2,aM l3,aM l6])(k4:Qbw [vM [[aM l1],[aM l3]]]=true)(k5:cA m 39 [vM [[aM l1],[aM l3]]] Heap.nil=some (vM l0,h0))(k6:LV.np (vM l0)=true)(k7:ltZ (.ofNat 0) (.ofNat l2.length)=true)(k8:ixA (aM l2) (.ofNat 0) 1=some [aI i0]):
 bA m 17 25 [vI f,vP 0 0,.lp 0 0,vP 1 0,vM xs,vI n,vI (.ofNat i),.ow 2 [],.ow 1 [],.ow 11 [],vB false,vB false,.ow 1 [],vI (.ofNat 0)] ⟨[[vM ty,vM im,vM fu,vM ta,vM me,vM gl,vM ex,vI st,vM el,vM da,vM cu],[.ow 2 tys,.ow 1 fns,.ow 11 gls,vB bt,vB bm,.ow 1 [],vI (.ofNat 0)]],[]⟩=some ((LV.tup [AV.agg [aM tys,aM fns,aM gls,aB bt,aB bm,aM l0,aI i0],AV.nilI],(Heap.mk [[vM ty,vM im,vM fu,vM ta,vM me,vM gl,vM ex,vI st,vM el,vM da,vM cu],[LV.ow 2 tys,LV.ow 1 fns,LV.ow 11 gls,vB bt,vB bm,vM l0,vI i0]] []))):=
 bY (qS [159] [121] [(29,5,(LV.v (AV.snap [aI i1,aM l4,aM l5]))),(29,8,(LV.v (AV.snap [aM l1,aM l2]))),(30,5,(LV.v (AV.snap [aI i2,aM l3,aM l6]))),(32,2,(LV.v (AV.snap [aI i0])))] [(30,9,vM l0,h0)]) (tZ k0 (tA (tA t0 (tA tN (k1))) (tA (tA t0 (tA tN (k2))) (tA (tA t0 (tA tN (k3))) (tA k4 (tA k5 (tA k6 (tZ k7 (tA (tA t0 (tA tN (k8))) (tR ((LV.tup [AV.agg [aM tys,aM fns,aM gls,aB bt,aB bm,aM l0,aI i0],AV.nilI],(Heap.mk [[vM ty,vM im,vM fu,vM ta,vM me,vM gl,vM ex,vI st,vM el,vM da,vM cu],[LV.ow 2 tys,LV.ow 1 fns,LV.ow 11 gls,vB bt,vB bm,vM l0,vI i0]] []))))))))))))) (by kernel_rfl)
theorem Qpz (k0:ltZ (.ofNat i) n=false)(k1:ixA (aM fu) f 3=some [aI i0,aM l4,aM l5])(k2:ixA (aM ty) i0 2=some [aM l1,aM l3])(k3:ixA (aM fu) f 3=some [aI i1,aM l2,aM l6])(k4:Qbw [vM [[aM l1],[aM l2]]]=true)(k5:cA m 39 [vM [[aM l1],[aM l2]]] Heap.nil=some (vM l0,h0))(k6:LV.np (vM l0)=true)(k7:ltZ (.ofNat 0) (.ofNat l3.length)=false):
 bA m 17 25 [vI f,vP 0 0,.lp 0 0,vP 1 0,vM xs,vI n,vI (.ofNat i),.ow 2 [],.ow 1 [],.ow 11 [],vB false,vB false,.ow 1 [],vI (.ofNat 0)] ⟨[[vM ty,vM im,vM fu,vM ta,vM me,vM gl,vM ex,vI st,vM el,vM da,vM cu],[.ow 2 tys,.ow 1 fns,.ow 11 gls,vB bt,vB bm,.ow 1 [],vI (.ofNat 0)]],[]⟩=some ((LV.tup [AV.agg [aM tys,aM fns,aM gls,aB bt,aB bm,aM l0,aI (.ofNat 0)],AV.nilI],(Heap.mk [[vM ty,vM im,vM fu,vM ta,vM me,vM gl,vM ex,vI st,vM el,vM da,vM cu],[LV.ow 2 tys,LV.ow 1 fns,LV.ow 11 gls,vB bt,vB bm,vM l0,vI (.ofNat 0)]] []))):=
 bY (qS [] [121,159] [(29,5,(LV.v (AV.snap [aI i0,aM l4,aM l5]))),(29,8,(LV.v (AV.snap [aM l1,aM l3]))),(30,5,(LV.v (AV.snap [aI i1,aM l2,aM l6])))] [(30,9,vM l0,h0)]) (tZ k0 (tA (tA t0 (tA tN (k1))) (tA (tA t0 (tA tN (k2))) (tA (tA t0 (tA tN (k3))) (tA k4 (tA k5 (tA k6 (tZ k7 (tR ((LV.tup [AV.agg [aM tys,aM fns,aM gls,aB bt,aB bm,aM l0,aI (.ofNat 0)],AV.nilI],(Heap.mk [[vM ty,vM im,vM fu,vM ta,vM me,vM gl,vM ex,vI st,vM el,vM da,vM cu],[LV.ow 2 tys,LV.ow 1 fns,LV.ow 11 gls,vB bt,vB bm,vM l0,vI (.ofNat 0)]] [])))))))))))) (by kernel_rfl)
end Go.Proofs.YtoblgjmllmomhaaGreatDoor
namespace Go.Proofs.YtoblgjmllmomhaaGreatDoor
set_option maxRecDepth 100000
open Go Go.Proofs.Am
variable {m st k n o a b v t i0 i1 i2 i3 i4 i5 i6 i7:Int} {ty im fu ta me gl ex el da cu out xs l bd ys l0 l1 l2 l3 l4 l5 l6 l7 l8:LL} {h h0 h1 h2 h3:Heap} {r:LV×Heap} {q b0 b1 b2 b3:Bool} {s0 s1 s2 s3:ByteArray}
theorem QAG (k0:bA m 76 3 [vI k,LV.ow 8 [],vM im,vI (.ofNat im.length),vI (.ofNat 0)] h=some r):
 bB m 76 [mV ty im fu ta me gl ex st el da cu,vI k] h=some r:=
 bY (qS [] [] [] []) (tA t1 (k0)) (by kernel_rfl)
theorem Qri {i:Nat}(k0:ltZ (.ofNat i) n=true)(k1:ixA (aM xs) (.ofNat i) 8=some [aS s0,aS s1,aI i0,aI i1,aB b0,aI i2,aI i3,aB b1])(k2:eqZ i0 k=true)(k3:leZ (.ofNat 0) k=true)(k4:leZ k (.ofNat 3)=true)(k5:apL (LV.ow 8 out) 8 80 [[aS s0,aS s1,aI i0,aI i1,aB b0,aI i2,aI i3,aB b1]]=some (LV.ow 8 l0))(k6:bA m 76 3 [vI k,LV.ow 8 l0,vM xs,vI n,vI (IntKind.wrap .i64 (.ofNat (Nat.succ i)))] h=some r):
 bA m 76 3 [vI k,.ow 8 out,vM xs,vI n,vI (.ofNat i)] h=some r:=
 bY (qS [12,19,23,26] [] [(4,0,(LV.v (AV.snap [aS s0,aS s1,aI i0,aI i1,aB b0,aI i2,aI i3,aB b1]))),(6,3,(LV.ow 8 l0))] []) (tZ k0 (tA (tA t0 (tA tN (k1))) (tZ k2 (uT2 (tZ k3 (uT2 (tZ k4 (u02 (tA t1 (tA k5 (tA t1 (k6)))))))))))) (by kernel_rfl)
theorem Qrh {i:Nat}(k0:ltZ (.ofNat i) n=true)(k1:ixA (aM xs) (.ofNat i) 8=some [aS s0,aS s1,aI i0,aI i1,aB b0,aI i2,aI i3,aB b1])(k2:eqZ i0 k=true)(k3:leZ (.ofNat 0) k=true)(k4:leZ k (.ofNat 3)=false)(k5:bA m 76 3 [vI k,LV.ow 8 out,vM xs,vI n,vI (IntKind.wrap .i64 (.ofNat (Nat.succ i)))] h=some r):
 bA m 76 3 [vI k,.ow 8 out,vM xs,vI n,vI (.ofNat i)] h=some r:=
 bY (qS [12,19,23] [26] [(4,0,(LV.v (AV.snap [aS s0,aS s1,aI i0,aI i1,aB b0,aI i2,aI i3,aB b1])))] []) (tZ k0 (tA (tA t0 (tA tN (k1))) (tZ k2 (uT2 (tZ k3 (uT2 (tZ k4 (tA t1 (k5))))))))) (by kernel_rfl)
theorem Qrg {i:Nat}(k0:ltZ (.ofNat i) n=true)(k1:ixA (aM xs) (.ofNat i) 8=some [aS s0,aS s1,aI i0,aI i1,aB b0,aI i2,aI i3,aB b1])(k2:eqZ i0 k=true)(k3:leZ (.ofNat 0) k=false)(k4:bA m 76 3 [vI k,LV.ow 8 out,vM xs,vI n,vI (IntKind.wrap .i64 (.ofNat (Nat.succ i)))] h=some r):
 bA m 76 3 [vI k,.ow 8 out,vM xs,vI n,vI (.ofNat i)] h=some r:=
 bY (qS [12,19] [23] [(4,0,(LV.v (AV.snap [aS s0,aS s1,aI i0,aI i1,aB b0,aI i2,aI i3,aB b1])))] []) (tZ k0 (tA (tA t0 (tA tN (k1))) (tZ k2 (uT2 (tZ k3 (uF2 (tA t1 (k4)))))))) (by kernel_rfl)
theorem Qrf {i:Nat}(k0:ltZ (.ofNat i) n=true)(k1:ixA (aM xs) (.ofNat i) 8=some [aS s0,aS s1,aI i0,aI i1,aB b0,aI i2,aI i3,aB b1])(k2:eqZ i0 k=false)(k3:bA m 76 3 [vI k,LV.ow 8 out,vM xs,vI n,vI (IntKind.wrap .i64 (.ofNat (Nat.succ i)))] h=some r):
 bA m 76 3 [vI k,.ow 8 out,vM xs,vI n,vI (.ofNat i)] h=some r:=
 bY (qS [12] [19] [(4,0,(LV.v (AV.snap [aS s0,aS s1,aI i0,aI i1,aB b0,aI i2,aI i3,aB b1])))] []) (tZ k0 (tA (tA t0 (tA tN (k1))) (tZ k2 (uF2 (tA t1 (k3)))))) (by kernel_rfl)
theorem Qre {i:Nat}(k0:ltZ (.ofNat i) n=false):
 bA m 76 3 [vI k,.ow 8 out,vM xs,vI n,vI (.ofNat i)] h=some ((vM out,h)):=
 bY (qS [] [12] [] []) (tZ k0 (tR ((vM out,h)))) (by kernel_rfl)
theorem QAF (k0:eqZ k (.ofNat 0)=true):
 bB m 77 [mV ty im fu ta me gl ex st el da cu,vI k] h=some ((vI (.ofNat fu.length),h)):=
 bY (qS [6] [] [] []) (tZ k0 (tR ((vI (.ofNat fu.length),h)))) (by kernel_rfl)
theorem QAE (k0:eqZ k (.ofNat 0)=false)(k1:eqZ k (.ofNat 1)=true):
 bB m 77 [mV ty im fu ta me gl ex st el da cu,vI k] h=some ((vI (.ofNat ta.length),h)):=
 bY (qS [11] [6] [] []) (tZ k0 (tZ k1 (tR ((vI (.ofNat ta.length),h))))) (by kernel_rfl)
theorem QAD (k0:eqZ k (.ofNat 0)=false)(k1:eqZ k (.ofNat 1)=false)(k2:eqZ k (.ofNat 2)=true):
 bB m 77 [mV ty im fu ta me gl ex st el da cu,vI k] h=some ((vI (.ofNat me.length),h)):=
 bY (qS [16] [6,11] [] []) (tZ k0 (tZ k1 (tZ k2 (tR ((vI (.ofNat me.length),h)))))) (by kernel_rfl)
theorem QAC (k0:eqZ k (.ofNat 0)=false)(k1:eqZ k (.ofNat 1)=false)(k2:eqZ k (.ofNat 2)=false)(k3:eqZ k (.ofNat 3)=true):
 bB m 77 [mV ty im fu ta me gl ex st el da cu,vI k] h=some ((vI (.ofNat gl.length),h)):=
 bY (qS [21] [6,11,16] [] []) (tZ k0 (tZ k1 (tZ k2 (tZ k3 (tR ((vI (.ofNat gl.length),h))))))) (by kernel_rfl)
theorem QAB (k0:eqZ k (.ofNat 0)=false)(k1:eqZ k (.ofNat 1)=false)(k2:eqZ k (.ofNat 2)=false)(k3:eqZ k (.ofNat 3)=false):
 bB m 77 [mV ty im fu ta me gl ex st el da cu,vI k] h=some ((vI (.ofNat 0),h)):=
 bY (qS [] [6,11,16,21] [] []) (tZ k0 (tZ k1 (tZ k2 (tZ k3 (tR ((vI (.ofNat 0),h))))))) (by kernel_rfl)
theorem QAW (k0:cA m 76 [mV ty im fu ta me gl ex st el da cu,vI k] h=some (vM l0,h1))(k1:cA m 77 [mV ty im fu ta me gl ex st el da cu,vI k] h1=some (vI i0,h0)):
 bB m 36 [mV ty im fu ta me gl ex st el da cu,vI k] h=some ((vI (IntKind.wrap .i64 (Int.ofNat l0.length+i0)),h0)):=
 bY (qS [] [] [] [(1,2,vM l0,h1),(1,6,vI i0,h0)]) (tA k0 (tA k1 (tR ((vI (IntKind.wrap .i64 (Int.ofNat l0.length+i0)),h0))))) (by kernel_rfl)
theorem QAV {i:Int}(k0:ltZ i (.ofNat 0)=true):
 bB m 73 [mV ty im fu ta me gl ex st el da cu,vI i] h=some ((LV.tup [AV.agg [aM [],aM []],AV.ifc 56 (aI (.ofNat 5))],h)):=
 bY (qS [10] [] [] []) (tZ k0 (uT4 (tR ((LV.tup [AV.agg [aM [],aM []],AV.ifc 56 (aI (.ofNat 5))],h))))) (by kernel_rfl)
theorem QAU {i:Int}(k0:ltZ i (.ofNat 0)=false)(k1:cA m 36 [mV ty im fu ta me gl ex st el da cu,vI (.ofNat 0)] h=some (vI i0,h0))(k2:leZ i0 i=true):
 bB m 73 [mV ty im fu ta me gl ex st el da cu,vI i] h=some ((LV.tup [AV.agg [aM [],aM []],AV.ifc 56 (aI (.ofNat 5))],h0)):=
 bY (qS [15] [10] [] [(1,5,vI i0,h0)]) (tZ k0 (uF2 (tA k1 (uF2 (tZ k2 (tR ((LV.tup [AV.agg [aM [],aM []],AV.ifc 56 (aI (.ofNat 5))],h0)))))))) (by kernel_rfl)
theorem QAT {i:Int}(k0:ltZ i (.ofNat 0)=false)(k1:cA m 36 [mV ty im fu ta me gl ex st el da cu,vI (.ofNat 0)] h=some (vI i0,h1))(k2:leZ i0 i=false)(k3:cA m 76 [mV ty im fu ta me gl ex st el da cu,vI (.ofNat 0)] h1=some (vM l0,h0))(k4:ltZ i (.ofNat l0.length)=true)(k5:ixA (aM l0) i 8=some [aS s0,aS s1,aI i2,aI i1,aB b0,aI i3,aI i4,aB b1])(k6:ltZ i1 (.ofNat 0)=true):
 bB m 73 [mV ty im fu ta me gl ex st el da cu,vI i] h=some ((LV.tup [AV.agg [aM [],aM []],AV.ifc 56 (aI (.ofNat 5))],h0)):=
 bY (qS [23,40] [10,15] [(6,2,(LV.v (AV.snap [aS s0,aS s1,aI i2,aI i1,aB b0,aI i3,aI i4,aB b1])))] [(1,5,vI i0,h1),(3,1,vM l0,h0)]) (tZ k0 (uF2 (tA k1 (uF2 (tZ k2 (tA k3 (tZ k4 (tA (tA t0 (tA tN (k5))) (tZ k6 (uT5 (tR ((LV.tup [AV.agg [aM [],aM []],AV.ifc 56 (aI (.ofNat 5))],h0))))))))))))) (by kernel_rfl)
theorem QAS {i:Int}(k0:ltZ i (.ofNat 0)=false)(k1:cA m 36 [mV ty im fu ta me gl ex st el da cu,vI (.ofNat 0)] h=some (vI i0,h1))(k2:leZ i0 i=false)(k3:cA m 76 [mV ty im fu ta me gl ex st el da cu,vI (.ofNat 0)] h1=some (vM l0,h0))(k4:ltZ i (.ofNat l0.length)=true)(k5:ixA (aM l0) i 8=some [aS s0,aS s1,aI i2,aI i1,aB b0,aI i3,aI i4,aB b1])(k6:ltZ i1 (.ofNat 0)=false)(k7:leZ (.ofNat ty.length) i1=true):
 bB m 73 [mV ty im fu ta me gl ex st el da cu,vI i] h=some ((LV.tup [AV.agg [aM [],aM []],AV.ifc 56 (aI (.ofNat 5))],h0)):=
 bY (qS [23,46] [10,15,40] [(6,2,(LV.v (AV.snap [aS s0,aS s1,aI i2,aI i1,aB b0,aI i3,aI i4,aB b1])))] [(1,5,vI i0,h1),(3,1,vM l0,h0)]) (tZ k0 (uF2 (tA k1 (uF2 (tZ k2 (tA k3 (tZ k4 (tA (tA t0 (tA tN (k5))) (tZ k6 (uF5 (tZ k7 (tR ((LV.tup [AV.agg [aM [],aM []],AV.ifc 56 (aI (.ofNat 5))],h0)))))))))))))) (by kernel_rfl)
theorem QAR {i:Int}(k0:ltZ i (.ofNat 0)=false)(k1:cA m 36 [mV ty im fu ta me gl ex st el da cu,vI (.ofNat 0)] h=some (vI i0,h1))(k2:leZ i0 i=false)(k3:cA m 76 [mV ty im fu ta me gl ex st el da cu,vI (.ofNat 0)] h1=some (vM l1,h2))(k4:ltZ i (.ofNat l1.length)=true)(k5:ixA (aM l1) i 8=some [aS s0,aS s1,aI i2,aI i1,aB b0,aI i3,aI i4,aB b1])(k6:ltZ i1 (.ofNat 0)=false)(k7:leZ (.ofNat ty.length) i1=false)(k8:ixA (aM ty) i1 2=some [aM l3,aM l5])(k9:cA m 37 [vM l3] h2=some (vM l2,h3))(k10:ixA (aM ty) i1 2=some [aM l6,aM l4])(k11:cA m 37 [vM l4] h3=some (vM l0,h0)):
 bB m 73 [mV ty im fu ta me gl ex st el da cu,vI i] h=some ((LV.tup [AV.agg [aM l2,aM l0],AV.nilI],h0)):=
 bY (qS [23] [10,15,40,46] [(6,2,(LV.v (AV.snap [aS s0,aS s1,aI i2,aI i1,aB b0,aI i3,aI i4,aB b1]))),(10,3,(LV.v (AV.snap [aM l3,aM l5]))),(10,10,(LV.v (AV.snap [aM l6,aM l4])))] [(1,5,vI i0,h1),(3,1,vM l1,h2),(10,6,vM l2,h3),(10,13,vM l0,h0)]) (tZ k0 (uF2 (tA k1 (uF2 (tZ k2 (tA k3 (tZ k4 (tA (tA t0 (tA tN (k5))) (tZ k6 (uF5 (tZ k7 (tA (tA t0 (tA tN (k8))) (tA k9 (tA (tA t0 (tA tN (k10))) (tA k11 (tR ((LV.tup [AV.agg [aM l2,aM l0],AV.nilI],h0)))))))))))))))))) (by kernel_rfl)
theorem QAQ {i:Int}(k0:ltZ i (.ofNat 0)=false)(k1:cA m 36 [mV ty im fu ta me gl ex st el da cu,vI (.ofNat 0)] h=some (vI i0,h1))(k2:leZ i0 i=false)(k3:cA m 76 [mV ty im fu ta me gl ex st el da cu,vI (.ofNat 0)] h1=some (vM l0,h0))(k4:ltZ i (.ofNat l0.length)=false)(k5:ixA (aM fu) (IntKind.wrap .i64 (i-Int.ofNat l0.length)) 3=some [aI i1,aM l1,aM l2])(k6:ltZ i1 (.ofNat 0)=true):
 bB m 73 [mV ty im fu ta me gl ex st el da cu,vI i] h=some ((LV.tup [AV.agg [aM [],aM []],AV.ifc 56 (aI (.ofNat 5))],h0)):=
 bY (qS [40] [10,15,23] [(7,6,(LV.v (AV.snap [aI i1,aM l1,aM l2])))] [(1,5,vI i0,h1),(3,1,vM l0,h0)]) (tZ k0 (uF2 (tA k1 (uF2 (tZ k2 (tA k3 (tZ k4 (tA (tA t0 (tA tN (k5))) (tZ k6 (uT5 (tR ((LV.tup [AV.agg [aM [],aM []],AV.ifc 56 (aI (.ofNat 5))],h0))))))))))))) (by kernel_rfl)
theorem QAP {i:Int}(k0:ltZ i (.ofNat 0)=false)(k1:cA m 36 [mV ty im fu ta me gl ex st el da cu,vI (.ofNat 0)] h=some (vI i0,h1))(k2:leZ i0 i=false)(k3:cA m 76 [mV ty im fu ta me gl ex st el da cu,vI (.ofNat 0)] h1=some (vM l0,h0))(k4:ltZ i (.ofNat l0.length)=false)(k5:ixA (aM fu) (IntKind.wrap .i64 (i-Int.ofNat l0.length)) 3=some [aI i1,aM l1,aM l2])(k6:ltZ i1 (.ofNat 0)=false)(k7:leZ (.ofNat ty.length) i1=true):
 bB m 73 [mV ty im fu ta me gl ex st el da cu,vI i] h=some ((LV.tup [AV.agg [aM [],aM []],AV.ifc 56 (aI (.ofNat 5))],h0)):=
 bY (qS [46] [10,15,23,40] [(7,6,(LV.v (AV.snap [aI i1,aM l1,aM l2])))] [(1,5,vI i0,h1),(3,1,vM l0,h0)]) (tZ k0 (uF2 (tA k1 (uF2 (tZ k2 (tA k3 (tZ k4 (tA (tA t0 (tA tN (k5))) (tZ k6 (uF5 (tZ k7 (tR ((LV.tup [AV.agg [aM [],aM []],AV.ifc 56 (aI (.ofNat 5))],h0)))))))))))))) (by kernel_rfl)
theorem QAO {i:Int}(k0:ltZ i (.ofNat 0)=false)(k1:cA m 36 [mV ty im fu ta me gl ex st el da cu,vI (.ofNat 0)] h=some (vI i0,h1))(k2:leZ i0 i=false)(k3:cA m 76 [mV ty im fu ta me gl ex st el da cu,vI (.ofNat 0)] h1=some (vM l1,h2))(k4:ltZ i (.ofNat l1.length)=false)(k5:ixA (aM fu) (IntKind.wrap .i64 (i-Int.ofNat l1.length)) 3=some [aI i1,aM l5,aM l6])(k6:ltZ i1 (.ofNat 0)=false)(k7:leZ (.ofNat ty.length) i1=false)(k8:ixA (aM ty) i1 2=some [aM l3,aM l7])(k9:cA m 37 [vM l3] h2=some (vM l2,h3))(k10:ixA (aM ty) i1 2=some [aM l8,aM l4])(k11:cA m 37 [vM l4] h3=some (vM l0,h0)):
 bB m 73 [mV ty im fu ta me gl ex st el da cu,vI i] h=some ((LV.tup [AV.agg [aM l2,aM l0],AV.nilI],h0)):=
 bY (qS [] [10,15,23,40,46] [(7,6,(LV.v (AV.snap [aI i1,aM l5,aM l6]))),(10,3,(LV.v (AV.snap [aM l3,aM l7]))),(10,10,(LV.v (AV.snap [aM l8,aM l4])))] [(1,5,vI i0,h1),(3,1,vM l1,h2),(10,6,vM l2,h3),(10,13,vM l0,h0)]) (tZ k0 (uF2 (tA k1 (uF2 (tZ k2 (tA k3 (tZ k4 (tA (tA t0 (tA tN (k5))) (tZ k6 (uF5 (tZ k7 (tA (tA t0 (tA tN (k8))) (tA k9 (tA (tA t0 (tA tN (k10))) (tA k11 (tR ((LV.tup [AV.agg [aM l2,aM l0],AV.nilI],h0)))))))))))))))))) (by kernel_rfl)
theorem QAN {i:Int}(k0:cA m 76 [mV ty im fu ta me gl ex st el da cu,vI (.ofNat 3)] h=some (vM l0,h0))(k1:ltZ i (.ofNat 0)=true):
 bB m 112 [mV ty im fu ta me gl ex st el da cu,vI i] h=some ((LV.tup [aI (.ofNat 0),aB false,aB false,AV.ifc 56 (aI (.ofNat 5))],h0)):=
 bY (qS [15] [] [] [(1,1,vM l0,h0)]) (tA k0 (tZ k1 (uT8 (tR ((LV.tup [aI (.ofNat 0),aB false,aB false,AV.ifc 56 (aI (.ofNat 5))],h0)))))) (by kernel_rfl)
theorem QAM {i:Int}(k0:cA m 76 [mV ty im fu ta me gl ex st el da cu,vI (.ofNat 3)] h=some (vM l0,h0))(k1:ltZ i (.ofNat 0)=false)(k2:leZ (IntKind.wrap .i64 (Int.ofNat (List.length l0+List.length gl))) i=true):
 bB m 112 [mV ty im fu ta me gl ex st el da cu,vI i] h=some ((LV.tup [aI (.ofNat 0),aB false,aB false,AV.ifc 56 (aI (.ofNat 5))],h0)):=
 bY (qS [12] [15] [] [(1,1,vM l0,h0)]) (tA k0 (tZ k1 (uF8 (tZ k2 (tR ((LV.tup [aI (.ofNat 0),aB false,aB false,AV.ifc 56 (aI (.ofNat 5))],h0))))))) (by kernel_rfl)
theorem QAL {i:Int}(k0:cA m 76 [mV ty im fu ta me gl ex st el da cu,vI (.ofNat 3)] h=some (vM l0,h0))(k1:ltZ i (.ofNat 0)=false)(k2:leZ (IntKind.wrap .i64 (Int.ofNat (List.length l0+List.length gl))) i=false)(k3:ltZ i (.ofNat l0.length)=true)(k4:ixA (aM l0) i 8=some [aS s0,aS s1,aI i1,aI i0,aB b1,aI i2,aI i3,aB b2])(k5:ixA (aM l0) i 8=some [aS s2,aS s3,aI i4,aI i5,aB b0,aI i6,aI i7,aB b3]):
 bB m 112 [mV ty im fu ta me gl ex st el da cu,vI i] h=some ((LV.tup [aI i0,aB b0,aB true,AV.nilI],h0)):=
 bY (qS [26] [15,12] [(5,2,(LV.v (AV.snap [aS s0,aS s1,aI i1,aI i0,aB b1,aI i2,aI i3,aB b2]))),(5,7,(LV.v (AV.snap [aS s2,aS s3,aI i4,aI i5,aB b0,aI i6,aI i7,aB b3])))] [(1,1,vM l0,h0)]) (tA k0 (tZ k1 (uF8 (tZ k2 (tZ k3 (tA (tA t0 (tA tN (k4))) (tA (tA t0 (tA tN (k5))) (tR ((LV.tup [aI i0,aB b0,aB true,AV.nilI],h0)))))))))) (by kernel_rfl)
theorem QAK {i:Int}(k0:cA m 76 [mV ty im fu ta me gl ex st el da cu,vI (.ofNat 3)] h=some (vM l0,h0))(k1:ltZ i (.ofNat 0)=false)(k2:leZ (IntKind.wrap .i64 (Int.ofNat (List.length l0+List.length gl))) i=false)(k3:ltZ i (.ofNat l0.length)=false)(k4:ixA (aM gl) (IntKind.wrap .i64 (i-Int.ofNat l0.length)) 11=some ([aI i0,aB b0]++nC i1 i2 i3 i4 i5 l1 l2 l3 b1)):
 bB m 112 [mV ty im fu ta me gl ex st el da cu,vI i] h=some ((LV.tup [aI i0,aB b0,aB false,AV.nilI],h0)):=
 bY (qS [] [15,12,26] [(6,6,(LV.v (AV.snap ([aI i0,aB b0]++nC i1 i2 i3 i4 i5 l1 l2 l3 b1))))] [(1,1,vM l0,h0)]) (tA k0 (tZ k1 (uF8 (tZ k2 (tZ k3 (tA (tA t0 (tA tN (k4))) (tR ((LV.tup [aI i0,aB b0,aB false,AV.nilI],h0))))))))) (by kernel_rfl)
theorem QAI (k0:cA m 8 [vM xs] h=some (LV.tup [aI i0,aI i1],h0)):
 bB m 26 [vM xs] h=some ((vB (leZ i0 (.ofNat 2000)),h0)):=
 bY (qS [] [] [] [(1,1,LV.tup [aI i0,aI i1],h0)]) (tA k0 (tR ((vB (leZ i0 (.ofNat 2000)),h0)))) (by kernel_rfl)
theorem QAH:
 bB m 27 [vG (nC o a b v t l bd el q)] h=some ((vM [nC o a b v t l bd el q],h)):=
 bY (qS [] [] [] []) (tR ((vM [nC o a b v t l bd el q],h))) (by kernel_rfl)
theorem Qro {i:Nat}(k0:ltZ (.ofNat i) (.ofNat xs.length)=true)(k1:ixA (aM xs) (.ofNat i) 1=some [aI i0])(k2:ixA (aM ys) (.ofNat i) 1=some [aI i1])(k3:(!eqZ i0 i1)=false)(k4:bA m 40 4 [vM xs,vM ys,vI (IntKind.wrap .i64 (.ofNat (Nat.succ i)))] h=some r):
 bA m 40 4 [vM xs,vM ys,vI (.ofNat i)] h=some r:=
 bY (qS [1099998] [1099992] [(6,2,(LV.v (AV.snap [aI i0]))),(6,6,(LV.v (AV.snap [aI i1])))] []) (tZ k0 (tA (tA t0 (tA tN (k1))) (tA (tA t0 (tA tN (k2))) (tZ k3 (tA t1 (k4)))))) (by kernel_rfl)
theorem Qrn {i:Nat}(k0:ltZ (.ofNat i) (.ofNat xs.length)=false):
 bA m 40 4 [vM xs,vM ys,vI (.ofNat i)] h=some ((vB true,h)):=
 bY (qS [] [1099998] [] []) (tZ k0 (tR ((vB true,h)))) (by kernel_rfl)
end Go.Proofs.YtoblgjmllmomhaaGreatDoor
namespace Go.Proofs.YtoblgjmllmomhaaGreatDoor
set_option maxRecDepth 100000
open Go Go.Proofs.Am
variable {m st i0 i1 i2 i3 i4 i5 i6 i7 i8 i9:Int} {ty im fu ta me gl ex el da cu l0 l1 l2 l3 l4 l5 l6 l7 l8:LL} {h h0 h1:Heap} {r:LV×Heap} {qq b0 b1 b2:Bool} {i:Nat}
theorem QA4 (k0:leZ (.ofNat ty.length) (.ofNat 200)=true)(k1:leZ (.ofNat im.length) (.ofNat 200)=true)(k2:leZ (.ofNat fu.length) (.ofNat 200)=true)(k3:leZ (.ofNat gl.length) (.ofNat 200)=true)(k4:leZ (.ofNat ex.length) (.ofNat 200)=true)(k5:leZ (.ofNat el.length) (.ofNat 200)=true)(k6:leZ (.ofNat da.length) (.ofNat 200)=true)(k7:bA m 14 3 ([LV.lp 0 0,vB (leZ (.ofNat cu.length) (.ofNat 200)),vI (.ofNat 0)]++mL ty im fu ta me gl ex st el da cu) h=some r):
 bB m 14 [mV ty im fu ta me gl ex st el da cu] h=some r:=
 bY (qS [12,18,24,30,36,42,48] [] [] []) (tZ k0 (uT4 (tZ k1 (uT4 (tZ k2 (uT4 (tZ k3 (uT4 (tZ k4 (uT4 (tZ k5 (uT4 (tZ k6 (uT4 (tA t1 (k7)))))))))))))))) (by kernel_rfl)
theorem QA3 (k0:leZ (.ofNat ty.length) (.ofNat 200)=true)(k1:leZ (.ofNat im.length) (.ofNat 200)=true)(k2:leZ (.ofNat fu.length) (.ofNat 200)=true)(k3:leZ (.ofNat gl.length) (.ofNat 200)=true)(k4:leZ (.ofNat ex.length) (.ofNat 200)=true)(k5:leZ (.ofNat el.length) (.ofNat 200)=true)(k6:leZ (.ofNat da.length) (.ofNat 200)=false)(k7:bA m 14 3 ([LV.lp 0 0,vB false,vI (.ofNat 0)]++mL ty im fu ta me gl ex st el da cu) h=some r):
 bB m 14 [mV ty im fu ta me gl ex st el da cu] h=some r:=
 bY (qS [12,18,24,30,36,42] [48] [] []) (tZ k0 (uT4 (tZ k1 (uT4 (tZ k2 (uT4 (tZ k3 (uT4 (tZ k4 (uT4 (tZ k5 (uT4 (tZ k6 (uF4 (tA t1 (k7)))))))))))))))) (by kernel_rfl)
theorem QA2 (k0:leZ (.ofNat ty.length) (.ofNat 200)=true)(k1:leZ (.ofNat im.length) (.ofNat 200)=true)(k2:leZ (.ofNat fu.length) (.ofNat 200)=true)(k3:leZ (.ofNat gl.length) (.ofNat 200)=true)(k4:leZ (.ofNat ex.length) (.ofNat 200)=true)(k5:leZ (.ofNat el.length) (.ofNat 200)=false)(k6:bA m 14 3 ([LV.lp 0 0,vB false,vI (.ofNat 0)]++mL ty im fu ta me gl ex st el da cu) h=some r):
 bB m 14 [mV ty im fu ta me gl ex st el da cu] h=some r:=
 bY (qS [12,18,24,30,36] [42] [] []) (tZ k0 (uT4 (tZ k1 (uT4 (tZ k2 (uT4 (tZ k3 (uT4 (tZ k4 (uT4 (tZ k5 (uF4 (tA t1 (k6)))))))))))))) (by kernel_rfl)
theorem QA1 (k0:leZ (.ofNat ty.length) (.ofNat 200)=true)(k1:leZ (.ofNat im.length) (.ofNat 200)=true)(k2:leZ (.ofNat fu.length) (.ofNat 200)=true)(k3:leZ (.ofNat gl.length) (.ofNat 200)=true)(k4:leZ (.ofNat ex.length) (.ofNat 200)=false)(k5:bA m 14 3 ([LV.lp 0 0,vB false,vI (.ofNat 0)]++mL ty im fu ta me gl ex st el da cu) h=some r):
 bB m 14 [mV ty im fu ta me gl ex st el da cu] h=some r:=
 bY (qS [12,18,24,30] [36] [] []) (tZ k0 (uT4 (tZ k1 (uT4 (tZ k2 (uT4 (tZ k3 (uT4 (tZ k4 (uF4 (tA t1 (k5)))))))))))) (by kernel_rfl)
theorem QA0 (k0:leZ (.ofNat ty.length) (.ofNat 200)=true)(k1:leZ (.ofNat im.length) (.ofNat 200)=true)(k2:leZ (.ofNat fu.length) (.ofNat 200)=true)(k3:leZ (.ofNat gl.length) (.ofNat 200)=false)(k4:bA m 14 3 ([LV.lp 0 0,vB false,vI (.ofNat 0)]++mL ty im fu ta me gl ex st el da cu) h=some r):
 bB m 14 [mV ty im fu ta me gl ex st el da cu] h=some r:=
 bY (qS [12,18,24] [30] [] []) (tZ k0 (uT4 (tZ k1 (uT4 (tZ k2 (uT4 (tZ k3 (uF4 (tA t1 (k4)))))))))) (by kernel_rfl)
theorem QAZ (k0:leZ (.ofNat ty.length) (.ofNat 200)=true)(k1:leZ (.ofNat im.length) (.ofNat 200)=true)(k2:leZ (.ofNat fu.length) (.ofNat 200)=false)(k3:bA m 14 3 ([LV.lp 0 0,vB false,vI (.ofNat 0)]++mL ty im fu ta me gl ex st el da cu) h=some r):
 bB m 14 [mV ty im fu ta me gl ex st el da cu] h=some r:=
 bY (qS [12,18] [24] [] []) (tZ k0 (uT4 (tZ k1 (uT4 (tZ k2 (uF4 (tA t1 (k3)))))))) (by kernel_rfl)
theorem QAY (k0:leZ (.ofNat ty.length) (.ofNat 200)=true)(k1:leZ (.ofNat im.length) (.ofNat 200)=false)(k2:bA m 14 3 ([LV.lp 0 0,vB false,vI (.ofNat 0)]++mL ty im fu ta me gl ex st el da cu) h=some r):
 bB m 14 [mV ty im fu ta me gl ex st el da cu] h=some r:=
 bY (qS [12] [18] [] []) (tZ k0 (uT4 (tZ k1 (uF4 (tA t1 (k2)))))) (by kernel_rfl)
theorem QAX (k0:leZ (.ofNat ty.length) (.ofNat 200)=false)(k1:bA m 14 3 ([LV.lp 0 0,vB false,vI (.ofNat 0)]++mL ty im fu ta me gl ex st el da cu) h=some r):
 bB m 14 [mV ty im fu ta me gl ex st el da cu] h=some r:=
 bY (qS [] [12] [] []) (tZ k0 (uF4 (tA t1 (k1)))) (by kernel_rfl)
theorem Qrv (k0:ltZ (.ofNat i) (.ofNat fu.length)=true)(k1:qq=true)(k2:ixA (aM fu) (.ofNat i) 3=some [aI i0,aM l2,aM l0])(k3:cA m 26 [vM l0] h=some (vB b0,h0))(k4:b0=true)(k5:ixA (aM fu) (.ofNat i) 3=some [aI i1,aM l1,aM l3])(k6:bA m 14 3 ([LV.lp 0 0,vB (leZ (.ofNat l1.length) (.ofNat 1000)),vI (IntKind.wrap .i64 (.ofNat (Nat.succ i)))]++mL ty im fu ta me gl ex st el da cu) h0=some r):
 bA m 14 3 ([.lp 0 0,vB qq,vI (.ofNat i)]++mL ty im fu ta me gl ex st el da cu) h=some r:=
 bY (qS [59,1099998,71] [] [(5,3,(LV.v (AV.snap [aI i0,aM l2,aM l0]))),(5,11,(LV.v (AV.snap [aI i1,aM l1,aM l3])))] [(5,6,vB b0,h0)]) (tZ k0 (tA tT (tZ k1 (tA (tA t0 (tA tN (k2))) (tA k3 (tZ k4 (uT3 (tA (tA t0 (tA tN (k5))) (uT5 (tA t1 (k6))))))))))) (by kernel_rfl)
theorem Qru (k0:ltZ (.ofNat i) (.ofNat fu.length)=true)(k1:qq=true)(k2:ixA (aM fu) (.ofNat i) 3=some [aI i0,aM l1,aM l0])(k3:cA m 26 [vM l0] h=some (vB b0,h0))(k4:b0=false)(k5:bA m 14 3 ([LV.lp 0 0,vB false,vI (IntKind.wrap .i64 (.ofNat (Nat.succ i)))]++mL ty im fu ta me gl ex st el da cu) h0=some r):
 bA m 14 3 ([.lp 0 0,vB qq,vI (.ofNat i)]++mL ty im fu ta me gl ex st el da cu) h=some r:=
 bY (qS [59,1099998] [71] [(5,3,(LV.v (AV.snap [aI i0,aM l1,aM l0])))] [(5,6,vB b0,h0)]) (tZ k0 (tA tT (tZ k1 (tA (tA t0 (tA tN (k2))) (tA k3 (tZ k4 (uF8 (tA t1 (k5))))))))) (by kernel_rfl)
theorem Qrt (k0:ltZ (.ofNat i) (.ofNat fu.length)=true)(k1:qq=false)(k2:bA m 14 7 ([LV.lp 0 0,vB qq,vI (.ofNat 0)]++mL ty im fu ta me gl ex st el da cu) h=some r):
 bA m 14 3 ([.lp 0 0,vB qq,vI (.ofNat i)]++mL ty im fu ta me gl ex st el da cu) h=some r:=
 bY (qS [59] [1099998] [] []) (tZ k0 (tA tT (tZ k1 (tA t1 (k2))))) (by kernel_rfl)
theorem Qrs (k0:ltZ (.ofNat i) (.ofNat fu.length)=false)(k1:bA m 14 7 ([LV.lp 0 0,vB qq,vI (.ofNat 0)]++mL ty im fu ta me gl ex st el da cu) h=some r):
 bA m 14 3 ([.lp 0 0,vB qq,vI (.ofNat i)]++mL ty im fu ta me gl ex st el da cu) h=some r:=
 bY (qS [] [59] [] []) (tZ k0 (tA tF (tA t1 (k1)))) (by kernel_rfl)
theorem Qrr (k0:ltZ (.ofNat i) (.ofNat gl.length)=true)(k1:qq=true)(k2:ixA (aM gl) (.ofNat i) 11=some ([aI i5,aB b1]++nC i0 i1 i2 i3 i4 l1 l2 l3 b2))(k3:cA m 27 [vG (nC i0 i1 i2 i3 i4 l1 l2 l3 b2)] h=some (vM l0,h0))(k4:cA m 26 [vM l0] h0=some (vB b0,h1))(k5:bA m 14 7 ([LV.lp 0 0,vB b0,vI (IntKind.wrap .i64 (.ofNat (Nat.succ i)))]++mL ty im fu ta me gl ex st el da cu) h1=some r):
 bA m 14 7 ([.lp 0 0,vB qq,vI (.ofNat i)]++mL ty im fu ta me gl ex st el da cu) h=some r:=
 bY (qS [86,1099998] [] [(9,3,(LV.v (AV.snap ([aI i5,aB b1]++nC i0 i1 i2 i3 i4 l1 l2 l3 b2))))] [(9,6,vM l0,h0),(9,7,vB b0,h1)]) (tZ k0 (tA tT (tZ k1 (tA (tA t0 (tA tN (k2))) (tA k3 (tA k4 (tA t1 (k5)))))))) (by kernel_rfl)
theorem Qrq (k0:ltZ (.ofNat i) (.ofNat gl.length)=true)(k1:qq=false)(k2:bA m 14 11 ([LV.lp 0 0,vB qq,vI (.ofNat 0)]++mL ty im fu ta me gl ex st el da cu) h=some r):
 bA m 14 7 ([.lp 0 0,vB qq,vI (.ofNat i)]++mL ty im fu ta me gl ex st el da cu) h=some r:=
 bY (qS [86] [1099998] [] []) (tZ k0 (tA tT (tZ k1 (tA t1 (k2))))) (by kernel_rfl)
theorem Qrp (k0:ltZ (.ofNat i) (.ofNat gl.length)=false)(k1:bA m 14 11 ([LV.lp 0 0,vB qq,vI (.ofNat 0)]++mL ty im fu ta me gl ex st el da cu) h=some r):
 bA m 14 7 ([.lp 0 0,vB qq,vI (.ofNat i)]++mL ty im fu ta me gl ex st el da cu) h=some r:=
 bY (qS [] [86] [] []) (tZ k0 (tA tF (tA t1 (k1)))) (by kernel_rfl)
theorem QnE (k0:ltZ (.ofNat i) (.ofNat el.length)=true)(k1:qq=true)(k2:ixA (aM el) (.ofNat i) 10=some [aI i0,aI i1,aI i2,AV.int IntKind.u64 i3,aI i4,aM l1,aM l2,aM l3,aB b1,aM l5])(k3:cA m 27 [vG (nC i0 i1 i2 i3 i4 l1 l2 l3 b1)] h=some (vM l0,h0))(k4:cA m 26 [vM l0] h0=some (vB b0,h1))(k5:b0=true)(k6:ixA (aM el) (.ofNat i) 10=some [aI i5,aI i6,aI i7,AV.int IntKind.u64 i8,aI i9,aM l6,aM l7,aM l8,aB b2,aM l4])(k7:bA m 14 11 ([LV.lp 0 0,vB (leZ (.ofNat l4.length) (.ofNat 1000)),vI (IntKind.wrap .i64 (.ofNat (Nat.succ i)))]++mL ty im fu ta me gl ex st el da cu) h1=some r):
 bA m 14 11 ([.lp 0 0,vB qq,vI (.ofNat i)]++mL ty im fu ta me gl ex st el da cu) h=some r:=
 bY (qS [104,1099998,117] [] [(13,3,(LV.v (AV.snap [aI i0,aI i1,aI i2,AV.int IntKind.u64 i3,aI i4,aM l1,aM l2,aM l3,aB b1,aM l5]))),(13,12,(LV.v (AV.snap [aI i5,aI i6,aI i7,AV.int IntKind.u64 i8,aI i9,aM l6,aM l7,aM l8,aB b2,aM l4])))] [(13,6,vM l0,h0),(13,7,vB b0,h1)]) (tZ k0 (tA tT (tZ k1 (tA (tA t0 (tA tN (k2))) (tA k3 (tA k4 (tZ k5 (uT3 (tA (tA t0 (tA tN (k6))) (uT5 (tA t1 (k7)))))))))))) (by kernel_rfl)
theorem QnD (k0:ltZ (.ofNat i) (.ofNat el.length)=true)(k1:qq=true)(k2:ixA (aM el) (.ofNat i) 10=some [aI i0,aI i1,aI i2,AV.int IntKind.u64 i3,aI i4,aM l1,aM l2,aM l3,aB b1,aM l4])(k3:cA m 27 [vG (nC i0 i1 i2 i3 i4 l1 l2 l3 b1)] h=some (vM l0,h0))(k4:cA m 26 [vM l0] h0=some (vB b0,h1))(k5:b0=false)(k6:bA m 14 11 ([LV.lp 0 0,vB false,vI (IntKind.wrap .i64 (.ofNat (Nat.succ i)))]++mL ty im fu ta me gl ex st el da cu) h1=some r):
 bA m 14 11 ([.lp 0 0,vB qq,vI (.ofNat i)]++mL ty im fu ta me gl ex st el da cu) h=some r:=
 bY (qS [104,1099998] [117] [(13,3,(LV.v (AV.snap [aI i0,aI i1,aI i2,AV.int IntKind.u64 i3,aI i4,aM l1,aM l2,aM l3,aB b1,aM l4])))] [(13,6,vM l0,h0),(13,7,vB b0,h1)]) (tZ k0 (tA tT (tZ k1 (tA (tA t0 (tA tN (k2))) (tA k3 (tA k4 (tZ k5 (uF8 (tA t1 (k6)))))))))) (by kernel_rfl)
theorem QnC (k0:ltZ (.ofNat i) (.ofNat el.length)=true)(k1:qq=false)(k2:bA m 14 15 ([LV.lp 0 0,vB qq,vI (.ofNat 0)]++mL ty im fu ta me gl ex st el da cu) h=some r):
 bA m 14 11 ([.lp 0 0,vB qq,vI (.ofNat i)]++mL ty im fu ta me gl ex st el da cu) h=some r:=
 bY (qS [104] [1099998] [] []) (tZ k0 (tA tT (tZ k1 (tA t1 (k2))))) (by kernel_rfl)
theorem QnB (k0:ltZ (.ofNat i) (.ofNat el.length)=false)(k1:bA m 14 15 ([LV.lp 0 0,vB qq,vI (.ofNat 0)]++mL ty im fu ta me gl ex st el da cu) h=some r):
 bA m 14 11 ([.lp 0 0,vB qq,vI (.ofNat i)]++mL ty im fu ta me gl ex st el da cu) h=some r:=
 bY (qS [] [104] [] []) (tZ k0 (tA tF (tA t1 (k1)))) (by kernel_rfl)
theorem QnA (k0:ltZ (.ofNat i) (.ofNat da.length)=true)(k1:qq=true)(k2:ixA (aM da) (.ofNat i) 10=some [aI i0,aI i1,aI i2,AV.int IntKind.u64 i3,aI i4,aM l1,aM l2,aM l3,aB b1,aM l5])(k3:cA m 27 [vG (nC i0 i1 i2 i3 i4 l1 l2 l3 b1)] h=some (vM l0,h0))(k4:cA m 26 [vM l0] h0=some (vB b0,h1))(k5:b0=true)(k6:ixA (aM da) (.ofNat i) 10=some [aI i5,aI i6,aI i7,AV.int IntKind.u64 i8,aI i9,aM l6,aM l7,aM l8,aB b2,aM l4])(k7:bA m 14 15 ([LV.lp 0 0,vB (leZ (.ofNat l4.length) (.ofNat 10000)),vI (IntKind.wrap .i64 (.ofNat (Nat.succ i)))]++mL ty im fu ta me gl ex st el da cu) h1=some r):
 bA m 14 15 ([.lp 0 0,vB qq,vI (.ofNat i)]++mL ty im fu ta me gl ex st el da cu) h=some r:=
 bY (qS [132,1099998,145] [] [(17,3,(LV.v (AV.snap [aI i0,aI i1,aI i2,AV.int IntKind.u64 i3,aI i4,aM l1,aM l2,aM l3,aB b1,aM l5]))),(17,12,(LV.v (AV.snap [aI i5,aI i6,aI i7,AV.int IntKind.u64 i8,aI i9,aM l6,aM l7,aM l8,aB b2,aM l4])))] [(17,6,vM l0,h0),(17,7,vB b0,h1)]) (tZ k0 (tA tT (tZ k1 (tA (tA t0 (tA tN (k2))) (tA k3 (tA k4 (tZ k5 (uT3 (tA (tA t0 (tA tN (k6))) (uT5 (tA t1 (k7)))))))))))) (by kernel_rfl)
theorem Qnz (k0:ltZ (.ofNat i) (.ofNat da.length)=true)(k1:qq=true)(k2:ixA (aM da) (.ofNat i) 10=some [aI i0,aI i1,aI i2,AV.int IntKind.u64 i3,aI i4,aM l1,aM l2,aM l3,aB b1,aM l4])(k3:cA m 27 [vG (nC i0 i1 i2 i3 i4 l1 l2 l3 b1)] h=some (vM l0,h0))(k4:cA m 26 [vM l0] h0=some (vB b0,h1))(k5:b0=false)(k6:bA m 14 15 ([LV.lp 0 0,vB false,vI (IntKind.wrap .i64 (.ofNat (Nat.succ i)))]++mL ty im fu ta me gl ex st el da cu) h1=some r):
 bA m 14 15 ([.lp 0 0,vB qq,vI (.ofNat i)]++mL ty im fu ta me gl ex st el da cu) h=some r:=
 bY (qS [132,1099998] [145] [(17,3,(LV.v (AV.snap [aI i0,aI i1,aI i2,AV.int IntKind.u64 i3,aI i4,aM l1,aM l2,aM l3,aB b1,aM l4])))] [(17,6,vM l0,h0),(17,7,vB b0,h1)]) (tZ k0 (tA tT (tZ k1 (tA (tA t0 (tA tN (k2))) (tA k3 (tA k4 (tZ k5 (uF8 (tA t1 (k6)))))))))) (by kernel_rfl)
theorem Qny (k0:ltZ (.ofNat i) (.ofNat da.length)=true)(k1:qq=false):
 bA m 14 15 ([.lp 0 0,vB qq,vI (.ofNat i)]++mL ty im fu ta me gl ex st el da cu) h=some ((vB qq,h)):=
 bY (qS [132] [1099998] [] []) (tZ k0 (tA tT (tZ k1 (tR ((vB qq,h)))))) (by kernel_rfl)
theorem Qnx (k0:ltZ (.ofNat i) (.ofNat da.length)=false):
 bA m 14 15 ([.lp 0 0,vB qq,vI (.ofNat i)]++mL ty im fu ta me gl ex st el da cu) h=some ((vB qq,h)):=
 bY (qS [] [132] [] []) (tZ k0 (tA tF (tR ((vB qq,h))))) (by kernel_rfl)
end Go.Proofs.YtoblgjmllmomhaaGreatDoor
namespace Go.Proofs.YtoblgjmllmomhaaGreatDoor
set_option maxRecDepth 100000
open Go Go.Proofs.Am
variable {m st n i0 i1 i2 i3 i4 i5:Int} {ty im fu ta me gl ex el da cu xs l0 l1 l2:LL} {h h0 h1:Heap} {r:LV×Heap} {i:Nat} {b0 b1 b2 b3:Bool} {v0:AV}
theorem QAa (k0:bA m 30 2 ([LV.lp 0 0,vM gl,vI (.ofNat gl.length),vI (.ofNat 0)]++mL ty im fu ta me gl ex st el da cu) h=some r):
 bB m 30 [mV ty im fu ta me gl ex st el da cu] h=some r:=
 bY (qS [] [] [] []) (tA t1 (k0)) (by kernel_rfl)
theorem QqD (k0:ltZ (.ofNat i) n=true)(k1:ixA (aM xs) (.ofNat i) 11=some ([aI i0,aB b1]++nC i1 i2 i3 i4 i5 l0 l1 l2 b2))(k2:cA m 63 [vI i0] h=some (vB b0,h0))(k3:b0=true):
 bA m 30 2 ([.lp 0 0,vM xs,vI n,vI (.ofNat i)]++mL ty im fu ta me gl ex st el da cu) h=some ((vF 56 (aI (.ofNat 4)),h0)):=
 bY (qS [1099997,1099988] [] [(3,0,(LV.v (AV.snap ([aI i0,aB b1]++nC i1 i2 i3 i4 i5 l0 l1 l2 b2))))] [(4,2,vB b0,h0)]) (tZ k0 (tA (tA t0 (tA tN (k1))) (tA k2 (tZ k3 (tR ((vF 56 (aI (.ofNat 4)),h0))))))) (by kernel_rfl)
theorem QqC (k0:ltZ (.ofNat i) n=true)(k1:ixA (aM xs) (.ofNat i) 11=some ([aI i0,aB b1]++nC i1 i2 i3 i4 i5 l0 l1 l2 b2))(k2:cA m 63 [vI i0] h=some (vB b0,h1))(k3:b0=false)(k4:cA m 70 [mV ty im fu ta me gl ex st el da cu,vG (nC i1 i2 i3 i4 i5 l0 l1 l2 b2),vI i0] h1=some (LV.v v0,h0))(k5:nE m v0 b3)(k6:b3=true):
 bA m 30 2 ([.lp 0 0,vM xs,vI n,vI (.ofNat i)]++mL ty im fu ta me gl ex st el da cu) h=some ((LV.v v0,h0)):=
 bY (qS [1099997,1099982] [1099988] [(3,0,(LV.v (AV.snap ([aI i0,aB b1]++nC i1 i2 i3 i4 i5 l0 l1 l2 b2)))),(7,1,(vB b3))] [(4,2,vB b0,h1),(6,5,LV.v v0,h0)]) (tZ k0 (tA (tA t0 (tA tN (k1))) (tA k2 (tZ k3 (tA k4 (tA k5 (tZ k6 (tR ((LV.v v0,h0)))))))))) (by kernel_rfl)
theorem QqB (k0:ltZ (.ofNat i) n=true)(k1:ixA (aM xs) (.ofNat i) 11=some ([aI i0,aB b1]++nC i1 i2 i3 i4 i5 l0 l1 l2 b2))(k2:cA m 63 [vI i0] h=some (vB b0,h0))(k3:b0=false)(k4:cA m 70 [mV ty im fu ta me gl ex st el da cu,vG (nC i1 i2 i3 i4 i5 l0 l1 l2 b2),vI i0] h0=some (LV.v v0,h1))(k5:nE m v0 b3)(k6:b3=false)(k7:bA m 30 2 ([LV.lp 0 0,vM xs,vI n,vI (IntKind.wrap .i64 (.ofNat (Nat.succ i)))]++mL ty im fu ta me gl ex st el da cu) h1=some r):
 bA m 30 2 ([.lp 0 0,vM xs,vI n,vI (.ofNat i)]++mL ty im fu ta me gl ex st el da cu) h=some r:=
 bY (qS [1099997] [1099988,1099982] [(3,0,(LV.v (AV.snap ([aI i0,aB b1]++nC i1 i2 i3 i4 i5 l0 l1 l2 b2)))),(7,1,(vB b3))] [(4,2,vB b0,h0),(6,5,LV.v v0,h1)]) (tZ k0 (tA (tA t0 (tA tN (k1))) (tA k2 (tZ k3 (tA k4 (tA k5 (tZ k6 (tA t1 (k7))))))))) (by kernel_rfl)
theorem QqA (k0:ltZ (.ofNat i) n=false):
 bA m 30 2 ([.lp 0 0,vM xs,vI n,vI (.ofNat i)]++mL ty im fu ta me gl ex st el da cu) h=some ((LV.v AV.nilI,h)):=
 bY (qS [] [1099997] [] []) (tZ k0 (tR ((LV.v AV.nilI,h)))) (by kernel_rfl)
end Go.Proofs.YtoblgjmllmomhaaGreatDoor
namespace Go.Proofs.YtoblgjmllmomhaaGreatDoor
set_option maxRecDepth 100000
open Go Go.Proofs.Am
variable {m st n i0 i1:Int} {ty im fu ta me gl ex el da cu xs l0 l1 l2 l3 l4 l5:LL} {h h0 h1 h2:Heap} {r:LV×Heap} {i:Nat} {b0 b1 b2 b3 b4:Bool} {v0 v1:AV}
theorem Qz9 (k0:bA m 31 2 ([LV.lp 0 0,vM fu,vI (.ofNat fu.length),vI (.ofNat 0)]++mL ty im fu ta me gl ex st el da cu) h=some r):
 bB m 31 [mV ty im fu ta me gl ex st el da cu] h=some r:=
 bY (qS [] [] [] []) (tA t1 (k0)) (by kernel_rfl)
theorem Qqz (k0:ltZ (.ofNat i) n=true)(k1:ixA (aM xs) (.ofNat i) 3=some [aI i1,aM l5,aM l4])(k2:Qbw [mV ty im fu ta me gl ex st el da cu,vI (.ofNat i)]=true)(k3:cA m 17 [mV ty im fu ta me gl ex st el da cu,vI (.ofNat i)] Heap.nil=some (LV.tup [AV.agg [aM l0,aM l1,aM l2,aB b1,aB b2,aM l3,aI i0],v1],h1))(k4:LV.np (LV.tup [AV.agg [aM l0,aM l1,aM l2,aB b1,aB b2,aM l3,aI i0],v1])=true)(k5:qE m v1 b3)(k6:b3=true)(k7:Qbw [vG [aM l0,aM l1,aM l2,aB b1,aB b2,aM l3,aI i0],vM l4]=true)(k8:cA m 10 [vG [aM l0,aM l1,aM l2,aB b1,aB b2,aM l3,aI i0],vM l4] Heap.nil=some (LV.v v0,h2))(k9:LV.np (LV.v v0)=true)(k10:cA m 71 [LV.v v0,vF 56 (aI (.ofNat 1))] h=some (vB b0,h0))(k11:b0=true):
 bA m 31 2 ([.lp 0 0,vM xs,vI n,vI (.ofNat i)]++mL ty im fu ta me gl ex st el da cu) h=some ((vF 56 (aI (.ofNat 4)),h0)):=
 bY (qS [1099997,1099986,1099981] [] [(3,1,(LV.v (AV.snap [aI i1,aM l5,aM l4]))),(5,1,(vB b3))] [(4,3,LV.tup [AV.agg [aM l0,aM l1,aM l2,aB b1,aB b2,aM l3,aI i0],v1],h1),(6,3,LV.v v0,h2),(7,2,vB b0,h0)]) (tZ k0 (tA (tA t0 (tA tN (k1))) (tA k2 (tA k3 (tA k4 (tA k5 (tZ k6 (tA k7 (tA k8 (tA k9 (tA k10 (tZ k11 (tR ((vF 56 (aI (.ofNat 4)),h0))))))))))))))) (by kernel_rfl)
theorem Qqy (k0:ltZ (.ofNat i) n=true)(k1:ixA (aM xs) (.ofNat i) 3=some [aI i1,aM l5,aM l4])(k2:Qbw [mV ty im fu ta me gl ex st el da cu,vI (.ofNat i)]=true)(k3:cA m 17 [mV ty im fu ta me gl ex st el da cu,vI (.ofNat i)] Heap.nil=some (LV.tup [AV.agg [aM l0,aM l1,aM l2,aB b1,aB b2,aM l3,aI i0],v1],h1))(k4:LV.np (LV.tup [AV.agg [aM l0,aM l1,aM l2,aB b1,aB b2,aM l3,aI i0],v1])=true)(k5:qE m v1 b3)(k6:b3=true)(k7:Qbw [vG [aM l0,aM l1,aM l2,aB b1,aB b2,aM l3,aI i0],vM l4]=true)(k8:cA m 10 [vG [aM l0,aM l1,aM l2,aB b1,aB b2,aM l3,aI i0],vM l4] Heap.nil=some (LV.v v0,h2))(k9:LV.np (LV.v v0)=true)(k10:cA m 71 [LV.v v0,vF 56 (aI (.ofNat 1))] h=some (vB b0,h0))(k11:b0=false)(k12:nE m v0 b4)(k13:b4=true):
 bA m 31 2 ([.lp 0 0,vM xs,vI n,vI (.ofNat i)]++mL ty im fu ta me gl ex st el da cu) h=some ((LV.v v0,h0)):=
 bY (qS [1099997,1099986,1099978] [1099981] [(3,1,(LV.v (AV.snap [aI i1,aM l5,aM l4]))),(5,1,(vB b3)),(9,1,(vB b4))] [(4,3,LV.tup [AV.agg [aM l0,aM l1,aM l2,aB b1,aB b2,aM l3,aI i0],v1],h1),(6,3,LV.v v0,h2),(7,2,vB b0,h0)]) (tZ k0 (tA (tA t0 (tA tN (k1))) (tA k2 (tA k3 (tA k4 (tA k5 (tZ k6 (tA k7 (tA k8 (tA k9 (tA k10 (tZ k11 (tA k12 (tZ k13 (tR ((LV.v v0,h0))))))))))))))))) (by kernel_rfl)
theorem Qqx (k0:ltZ (.ofNat i) n=true)(k1:ixA (aM xs) (.ofNat i) 3=some [aI i1,aM l5,aM l4])(k2:Qbw [mV ty im fu ta me gl ex st el da cu,vI (.ofNat i)]=true)(k3:cA m 17 [mV ty im fu ta me gl ex st el da cu,vI (.ofNat i)] Heap.nil=some (LV.tup [AV.agg [aM l0,aM l1,aM l2,aB b1,aB b2,aM l3,aI i0],v1],h1))(k4:LV.np (LV.tup [AV.agg [aM l0,aM l1,aM l2,aB b1,aB b2,aM l3,aI i0],v1])=true)(k5:qE m v1 b3)(k6:b3=true)(k7:Qbw [vG [aM l0,aM l1,aM l2,aB b1,aB b2,aM l3,aI i0],vM l4]=true)(k8:cA m 10 [vG [aM l0,aM l1,aM l2,aB b1,aB b2,aM l3,aI i0],vM l4] Heap.nil=some (LV.v v0,h2))(k9:LV.np (LV.v v0)=true)(k10:cA m 71 [LV.v v0,vF 56 (aI (.ofNat 1))] h=some (vB b0,h0))(k11:b0=false)(k12:nE m v0 b4)(k13:b4=false)(k14:bA m 31 2 ([LV.lp 0 0,vM xs,vI n,vI (IntKind.wrap .i64 (.ofNat (Nat.succ i)))]++mL ty im fu ta me gl ex st el da cu) h0=some r):
 bA m 31 2 ([.lp 0 0,vM xs,vI n,vI (.ofNat i)]++mL ty im fu ta me gl ex st el da cu) h=some r:=
 bY (qS [1099997,1099986] [1099981,1099978] [(3,1,(LV.v (AV.snap [aI i1,aM l5,aM l4]))),(5,1,(vB b3)),(9,1,(vB b4))] [(4,3,LV.tup [AV.agg [aM l0,aM l1,aM l2,aB b1,aB b2,aM l3,aI i0],v1],h1),(6,3,LV.v v0,h2),(7,2,vB b0,h0)]) (tZ k0 (tA (tA t0 (tA tN (k1))) (tA k2 (tA k3 (tA k4 (tA k5 (tZ k6 (tA k7 (tA k8 (tA k9 (tA k10 (tZ k11 (tA k12 (tZ k13 (tA t1 (k14)))))))))))))))) (by kernel_rfl)
theorem Qqw (k0:ltZ (.ofNat i) n=false):
 bA m 31 2 ([.lp 0 0,vM xs,vI n,vI (.ofNat i)]++mL ty im fu ta me gl ex st el da cu) h=some ((LV.v AV.nilI,h)):=
 bY (qS [] [1099997] [] []) (tZ k0 (tR ((LV.v AV.nilI,h)))) (by kernel_rfl)
end Go.Proofs.YtoblgjmllmomhaaGreatDoor
namespace Go.Proofs.YtoblgjmllmomhaaGreatDoor
set_option maxRecDepth 100000
open Go Go.Proofs.Am
variable {m st n f i0 i1 i2 i3 i4 i5:Int} {ty im fu ta me gl ex el da cu xs l0 l1 l2 l3:LL} {h h0 h1 h2:Heap} {r:LV×Heap} {F i:Nat} {b0 b1 b2:Bool} {v0:AV}
theorem Qz8 (k0:cA m 36 [mV ty im fu ta me gl ex st el da cu,vI (.ofNat 0)] h=some (vI i0,h0))(k1:stP {bx:=Heap.bx h0++[[vI (.ofNat 0)]],mp:=Heap.mp h0} (AV.ptr (List.length (Heap.bx h0)) 0) [vI i0]=some h1)(k2:bA m 32 3 ([LV.lp 0 0,vP (List.length (Heap.bx h0)) 0,vM el,vI (.ofNat el.length),vI (.ofNat 0)]++mL ty im fu ta me gl ex st el da cu) h1=some r):
 bB m 32 [mV ty im fu ta me gl ex st el da cu] h=some r:=
 bY (qS [] [] [] [(1,2,vI i0,h0),(1,4,LV.ud,h1)]) (tA k0 (tA t1 (tA t0 (tA tU (tA t1 (tA k1 (tA t1 (k2)))))))) (by kernel_rfl)
theorem Qqv (k0:ltZ (.ofNat i) n=true)(k1:ixA (aM xs) (.ofNat i) 10=some [aI i1,aI i2,aI i3,AV.int IntKind.u64 i4,aI i5,aM l0,aM l1,aM l2,aB b0,aM l3])(k2:cA m 36 [mV ty im fu ta me gl ex st el da cu,vI (.ofNat 1)] h=some (vI i0,h0))(k3:eqZ i0 (.ofNat 0)=true):
 bA m 32 3 ([.lp 0 0,vP F 0,vM xs,vI n,vI (.ofNat i)]++mL ty im fu ta me gl ex st el da cu) h=some ((vF 56 (aI (.ofNat 5)),h0)):=
 bY (qS [1099997,1099988] [] [(4,0,(LV.v (AV.snap [aI i1,aI i2,aI i3,AV.int IntKind.u64 i4,aI i5,aM l0,aM l1,aM l2,aB b0,aM l3])))] [(5,2,vI i0,h0)]) (tZ k0 (tA (tA t0 (tA tN (k1))) (tA k2 (tZ k3 (tR ((vF 56 (aI (.ofNat 5)),h0))))))) (by kernel_rfl)
theorem Qqu (k0:ltZ (.ofNat i) n=true)(k1:ixA (aM xs) (.ofNat i) 10=some [aI i1,aI i2,aI i3,AV.int IntKind.u64 i4,aI i5,aM l0,aM l1,aM l2,aB b0,aM l3])(k2:cA m 36 [mV ty im fu ta me gl ex st el da cu,vI (.ofNat 1)] h=some (vI i0,h1))(k3:eqZ i0 (.ofNat 0)=false)(k4:cA m 70 [mV ty im fu ta me gl ex st el da cu,vG (nC i1 i2 i3 i4 i5 l0 l1 l2 b0),vI (.ofNat 1)] h1=some (LV.v v0,h0))(k5:nE m v0 b1)(k6:b1=true):
 bA m 32 3 ([.lp 0 0,vP F 0,vM xs,vI n,vI (.ofNat i)]++mL ty im fu ta me gl ex st el da cu) h=some ((LV.v v0,h0)):=
 bY (qS [1099997,1099981] [1099988] [(4,0,(LV.v (AV.snap [aI i1,aI i2,aI i3,AV.int IntKind.u64 i4,aI i5,aM l0,aM l1,aM l2,aB b0,aM l3]))),(8,1,(vB b1))] [(5,2,vI i0,h1),(7,3,LV.v v0,h0)]) (tZ k0 (tA (tA t0 (tA tN (k1))) (tA k2 (tZ k3 (tA k4 (tA k5 (tZ k6 (tR ((LV.v v0,h0)))))))))) (by kernel_rfl)
theorem Qqt (k0:ltZ (.ofNat i) n=true)(k1:ixA (aM xs) (.ofNat i) 10=some [aI i1,aI i2,aI i3,AV.int IntKind.u64 i4,aI i5,aM l0,aM l1,aM l2,aB b1,aM l3])(k2:cA m 36 [mV ty im fu ta me gl ex st el da cu,vI (.ofNat 1)] h=some (vI i0,h1))(k3:eqZ i0 (.ofNat 0)=false)(k4:cA m 70 [mV ty im fu ta me gl ex st el da cu,vG (nC i1 i2 i3 i4 i5 l0 l1 l2 b1),vI (.ofNat 1)] h1=some (LV.v v0,h2))(k5:nE m v0 b2)(k6:b2=false)(k7:cA m 47 [vM l3,LV.v (AV.fn 72 [] [AV.ptr F 0])] h2=some (vB b0,h0))(k8:b0=true):
 bA m 32 3 ([.lp 0 0,vP F 0,vM xs,vI n,vI (.ofNat i)]++mL ty im fu ta me gl ex st el da cu) h=some ((vF 56 (aI (.ofNat 5)),h0)):=
 bY (qS [1099997,1099977] [1099988,1099981] [(4,0,(LV.v (AV.snap [aI i1,aI i2,aI i3,AV.int IntKind.u64 i4,aI i5,aM l0,aM l1,aM l2,aB b1,aM l3]))),(8,1,(vB b2))] [(5,2,vI i0,h1),(7,3,LV.v v0,h2),(10,3,vB b0,h0)]) (tZ k0 (tA (tA t0 (tA tN (k1))) (tA k2 (tZ k3 (tA k4 (tA k5 (tZ k6 (tA k7 (tZ k8 (tR ((vF 56 (aI (.ofNat 5)),h0)))))))))))) (by kernel_rfl)
theorem Qqs (k0:ltZ (.ofNat i) n=true)(k1:ixA (aM xs) (.ofNat i) 10=some [aI i1,aI i2,aI i3,AV.int IntKind.u64 i4,aI i5,aM l0,aM l1,aM l2,aB b1,aM l3])(k2:cA m 36 [mV ty im fu ta me gl ex st el da cu,vI (.ofNat 1)] h=some (vI i0,h0))(k3:eqZ i0 (.ofNat 0)=false)(k4:cA m 70 [mV ty im fu ta me gl ex st el da cu,vG (nC i1 i2 i3 i4 i5 l0 l1 l2 b1),vI (.ofNat 1)] h0=some (LV.v v0,h1))(k5:nE m v0 b2)(k6:b2=false)(k7:cA m 47 [vM l3,LV.v (AV.fn 72 [] [AV.ptr F 0])] h1=some (vB b0,h2))(k8:b0=false)(k9:bA m 32 3 ([LV.lp 0 0,vP F 0,vM xs,vI n,vI (IntKind.wrap .i64 (.ofNat (Nat.succ i)))]++mL ty im fu ta me gl ex st el da cu) h2=some r):
 bA m 32 3 ([.lp 0 0,vP F 0,vM xs,vI n,vI (.ofNat i)]++mL ty im fu ta me gl ex st el da cu) h=some r:=
 bY (qS [1099997] [1099988,1099981,1099977] [(4,0,(LV.v (AV.snap [aI i1,aI i2,aI i3,AV.int IntKind.u64 i4,aI i5,aM l0,aM l1,aM l2,aB b1,aM l3]))),(8,1,(vB b2))] [(5,2,vI i0,h0),(7,3,LV.v v0,h1),(10,3,vB b0,h2)]) (tZ k0 (tA (tA t0 (tA tN (k1))) (tA k2 (tZ k3 (tA k4 (tA k5 (tZ k6 (tA k7 (tZ k8 (tA t1 (k9))))))))))) (by kernel_rfl)
theorem Qqr (k0:ltZ (.ofNat i) n=false)(k1:bA m 32 14 ([LV.lp 0 0,vM da,vI (.ofNat da.length),vI (.ofNat 0)]++mL ty im fu ta me gl ex st el da cu) h=some r):
 bA m 32 3 ([.lp 0 0,vP F 0,vM xs,vI n,vI (.ofNat i)]++mL ty im fu ta me gl ex st el da cu) h=some r:=
 bY (qS [] [1099997] [] []) (tZ k0 (tA t1 (k1))) (by kernel_rfl)
theorem QmS (k0:ltZ (.ofNat i) n=true)(k1:ixA (aM xs) (.ofNat i) 10=some [aI i1,aI i2,aI i3,AV.int IntKind.u64 i4,aI i5,aM l0,aM l1,aM l2,aB b0,aM l3])(k2:cA m 36 [mV ty im fu ta me gl ex st el da cu,vI (.ofNat 2)] h=some (vI i0,h0))(k3:eqZ i0 (.ofNat 0)=true):
 bA m 32 14 ([.lp 0 0,vM xs,vI n,vI (.ofNat i)]++mL ty im fu ta me gl ex st el da cu) h=some ((vF 56 (aI (.ofNat 5)),h0)):=
 bY (qS [1099997,1099988] [] [(15,0,(LV.v (AV.snap [aI i1,aI i2,aI i3,AV.int IntKind.u64 i4,aI i5,aM l0,aM l1,aM l2,aB b0,aM l3])))] [(16,2,vI i0,h0)]) (tZ k0 (tA (tA t0 (tA tN (k1))) (tA k2 (tZ k3 (tR ((vF 56 (aI (.ofNat 5)),h0))))))) (by kernel_rfl)
theorem QmR (k0:ltZ (.ofNat i) n=true)(k1:ixA (aM xs) (.ofNat i) 10=some [aI i1,aI i2,aI i3,AV.int IntKind.u64 i4,aI i5,aM l0,aM l1,aM l2,aB b0,aM l3])(k2:cA m 36 [mV ty im fu ta me gl ex st el da cu,vI (.ofNat 2)] h=some (vI i0,h1))(k3:eqZ i0 (.ofNat 0)=false)(k4:cA m 70 [mV ty im fu ta me gl ex st el da cu,vG (nC i1 i2 i3 i4 i5 l0 l1 l2 b0),vI (.ofNat 1)] h1=some (LV.v v0,h0))(k5:nE m v0 b1)(k6:b1=true):
 bA m 32 14 ([.lp 0 0,vM xs,vI n,vI (.ofNat i)]++mL ty im fu ta me gl ex st el da cu) h=some ((LV.v v0,h0)):=
 bY (qS [1099997,1099982] [1099988] [(15,0,(LV.v (AV.snap [aI i1,aI i2,aI i3,AV.int IntKind.u64 i4,aI i5,aM l0,aM l1,aM l2,aB b0,aM l3]))),(19,1,(vB b1))] [(16,2,vI i0,h1),(18,3,LV.v v0,h0)]) (tZ k0 (tA (tA t0 (tA tN (k1))) (tA k2 (tZ k3 (tA k4 (tA k5 (tZ k6 (tR ((LV.v v0,h0)))))))))) (by kernel_rfl)
theorem QmQ (k0:ltZ (.ofNat i) n=true)(k1:ixA (aM xs) (.ofNat i) 10=some [aI i1,aI i2,aI i3,AV.int IntKind.u64 i4,aI i5,aM l0,aM l1,aM l2,aB b0,aM l3])(k2:cA m 36 [mV ty im fu ta me gl ex st el da cu,vI (.ofNat 2)] h=some (vI i0,h0))(k3:eqZ i0 (.ofNat 0)=false)(k4:cA m 70 [mV ty im fu ta me gl ex st el da cu,vG (nC i1 i2 i3 i4 i5 l0 l1 l2 b0),vI (.ofNat 1)] h0=some (LV.v v0,h1))(k5:nE m v0 b1)(k6:b1=false)(k7:bA m 32 14 ([LV.lp 0 0,vM xs,vI n,vI (IntKind.wrap .i64 (.ofNat (Nat.succ i)))]++mL ty im fu ta me gl ex st el da cu) h1=some r):
 bA m 32 14 ([.lp 0 0,vM xs,vI n,vI (.ofNat i)]++mL ty im fu ta me gl ex st el da cu) h=some r:=
 bY (qS [1099997] [1099988,1099982] [(15,0,(LV.v (AV.snap [aI i1,aI i2,aI i3,AV.int IntKind.u64 i4,aI i5,aM l0,aM l1,aM l2,aB b0,aM l3]))),(19,1,(vB b1))] [(16,2,vI i0,h0),(18,3,LV.v v0,h1)]) (tZ k0 (tA (tA t0 (tA tN (k1))) (tA k2 (tZ k3 (tA k4 (tA k5 (tZ k6 (tA t1 (k7))))))))) (by kernel_rfl)
theorem QmP (k0:ltZ (.ofNat i) n=false):
 bA m 32 14 ([.lp 0 0,vM xs,vI n,vI (.ofNat i)]++mL ty im fu ta me gl ex st el da cu) h=some ((LV.v AV.nilI,h)):=
 bY (qS [] [1099997] [] []) (tZ k0 (tR ((LV.v AV.nilI,h)))) (by kernel_rfl)
theorem QzA (k0:ltZ f (.ofNat 0)=true):
 bB m 72 [vI f,vP F 0] h=some ((vB true,h)):=
 bY (qS [6] [] [] []) (tZ k0 (uT3 (tR ((vB true,h))))) (by kernel_rfl)
theorem Qzz (k0:ltZ f (.ofNat 0)=false)(k1:ldP h (AV.ptr F 0) 1 false=some (aI i0)):
 bB m 72 [vI f,vP F 0] h=some ((vB (leZ i0 f),h)):=
 bY (qS [] [6] [] [(1,4,vI i0,Heap.nil)]) (tZ k0 (tA tF (tA t1 (tA tN (tA t0 (tA k1 (uF2 (tR ((vB (leZ i0 f),h)))))))))) (by kernel_rfl)
end Go.Proofs.YtoblgjmllmomhaaGreatDoor
namespace Go.Proofs.YtoblgjmllmomhaaGreatDoor
set_option maxRecDepth 100000
open Go Go.Proofs.Am
variable {m st n k x i0 i1 i2 i3 i4 i5:Int} {ty im fu ta me gl ex el da cu xs l0 l1:LL} {h h0 h1 h2:Heap} {r:LV×Heap} {i F:Nat} {na s0:ByteArray} {v0:AV} {b0:Bool}
theorem Qz7 (k0:eqZ st (Int.negSucc 0)=true):
 bB m 33 [mV ty im fu ta me gl ex st el da cu] h=some ((LV.v AV.nilI,h)):=
 bY (qS [1099994] [] [] []) (tZ k0 (tR ((LV.v AV.nilI,h)))) (by kernel_rfl)
theorem Qz6 (k0:eqZ st (Int.negSucc 0)=false)(k1:cA m 73 [mV ty im fu ta me gl ex st el da cu,vI st] h=some (LV.tup [AV.agg [aM l0,aM l1],v0],h0))(k2:nE m v0 b0)(k3:b0=true):
 bB m 33 [mV ty im fu ta me gl ex st el da cu] h=some ((vF 56 (aI (.ofNat 5)),h0)):=
 bY (qS [1099986] [1099994] [(4,1,(vB b0))] [(3,5,LV.tup [AV.agg [aM l0,aM l1],v0],h0)]) (tZ k0 (tA k1 (tA k2 (tZ k3 (tR ((vF 56 (aI (.ofNat 5)),h0))))))) (by kernel_rfl)
theorem Qz5 (k0:eqZ st (Int.negSucc 0)=false)(k1:cA m 73 [mV ty im fu ta me gl ex st el da cu,vI st] h=some (LV.tup [AV.agg [aM l0,aM l1],v0],h0))(k2:nE m v0 b0)(k3:b0=false)(k4:ltZ (.ofNat 0) (.ofNat l0.length)=true):
 bB m 33 [mV ty im fu ta me gl ex st el da cu] h=some ((vF 56 (aI (.ofNat 4)),h0)):=
 bY (qS [27] [1099994,1099986] [(4,1,(vB b0))] [(3,5,LV.tup [AV.agg [aM l0,aM l1],v0],h0)]) (tZ k0 (tA k1 (tA k2 (tZ k3 (tZ k4 (uT4 (tR ((vF 56 (aI (.ofNat 4)),h0))))))))) (by kernel_rfl)
theorem Qz4 (k0:eqZ st (Int.negSucc 0)=false)(k1:cA m 73 [mV ty im fu ta me gl ex st el da cu,vI st] h=some (LV.tup [AV.agg [aM l0,aM l1],v0],h0))(k2:nE m v0 b0)(k3:b0=false)(k4:ltZ (.ofNat 0) (.ofNat l0.length)=false)(k5:ltZ (.ofNat 0) (.ofNat l1.length)=true):
 bB m 33 [mV ty im fu ta me gl ex st el da cu] h=some ((vF 56 (aI (.ofNat 4)),h0)):=
 bY (qS [1099983] [1099994,1099986,27] [(4,1,(vB b0))] [(3,5,LV.tup [AV.agg [aM l0,aM l1],v0],h0)]) (tZ k0 (tA k1 (tA k2 (tZ k3 (tZ k4 (uF4 (tZ k5 (tR ((vF 56 (aI (.ofNat 4)),h0)))))))))) (by kernel_rfl)
theorem Qz3 (k0:eqZ st (Int.negSucc 0)=false)(k1:cA m 73 [mV ty im fu ta me gl ex st el da cu,vI st] h=some (LV.tup [AV.agg [aM l0,aM l1],v0],h0))(k2:nE m v0 b0)(k3:b0=false)(k4:ltZ (.ofNat 0) (.ofNat l0.length)=false)(k5:ltZ (.ofNat 0) (.ofNat l1.length)=false):
 bB m 33 [mV ty im fu ta me gl ex st el da cu] h=some ((LV.v AV.nilI,h0)):=
 bY (qS [] [1099994,1099986,27,1099983] [(4,1,(vB b0))] [(3,5,LV.tup [AV.agg [aM l0,aM l1],v0],h0)]) (tZ k0 (tA k1 (tA k2 (tZ k3 (tZ k4 (uF4 (tZ k5 (tR ((LV.v AV.nilI,h0)))))))))) (by kernel_rfl)
theorem Qz2 (k0:bA m 34 2 ([LV.lp 0 0,vM ex,vI (.ofNat ex.length),vI (.ofNat 0)]++mL ty im fu ta me gl ex st el da cu) h=some r):
 bB m 34 [mV ty im fu ta me gl ex st el da cu] h=some r:=
 bY (qS [] [] [] []) (tA t1 (k0)) (by kernel_rfl)
theorem Qqq (k0:ltZ (.ofNat i) n=true)(k1:ixA (aM xs) (.ofNat i) 3=some [aS s0,aI i0,aI i1])(k2:stP {bx:=Heap.bx h++[[(vS {data:= #[]}),vI (.ofNat 0),vI (.ofNat 0)]],mp:=Heap.mp h} (AV.ptr (List.length (Heap.bx h)) 0) [vS s0,vI i0,vI i1]=some h0)(k3:ldP h0 (AV.ptr (List.length (Heap.bx h)) 2) 1 false=some (aI i2))(k4:ltZ i2 (.ofNat 0)=true):
 bA m 34 2 ([.lp 0 0,vM xs,vI n,vI (.ofNat i)]++mL ty im fu ta me gl ex st el da cu) h=some ((vF 56 (aI (.ofNat 5)),h0)):=
 bY (qS [1099997,18] [] [(3,1,(LV.v (AV.snap [aS s0,aI i0,aI i1])))] [(3,5,LV.ud,h0),(4,1,vI i2,Heap.nil)]) (tZ k0 (tA (tA t0 (tA tN (k1))) (tA t1 (tA t0 (tA tU (tA t1 (tA k2 (tA t1 (tA tN (tA t0 (tA k3 (tZ k4 (uT8 (tR ((vF 56 (aI (.ofNat 5)),h0)))))))))))))))) (by kernel_rfl)
theorem Qqp (k0:ltZ (.ofNat i) n=true)(k1:ixA (aM xs) (.ofNat i) 3=some [aS s0,aI i3,aI i4])(k2:stP {bx:=Heap.bx h++[[(vS {data:= #[]}),vI (.ofNat 0),vI (.ofNat 0)]],mp:=Heap.mp h} (AV.ptr (List.length (Heap.bx h)) 0) [vS s0,vI i3,vI i4]=some h0)(k3:ldP h0 (AV.ptr (List.length (Heap.bx h)) 2) 1 false=some (aI i0))(k4:ltZ i0 (.ofNat 0)=false)(k5:ldP h0 (AV.ptr (List.length (Heap.bx h)) 2) 1 false=some (aI i5))(k6:ldP h0 (AV.ptr (List.length (Heap.bx h)) 1) 1 false=some (aI i2))(k7:Qbw [mV ty im fu ta me gl ex st el da cu,vI i2]=true)(k8:cA m 36 [mV ty im fu ta me gl ex st el da cu,vI i2] Heap.nil=some (vI i1,h1))(k9:leZ i1 i5=true):
 bA m 34 2 ([.lp 0 0,vM xs,vI n,vI (.ofNat i)]++mL ty im fu ta me gl ex st el da cu) h=some ((vF 56 (aI (.ofNat 5)),h0)):=
 bY (qS [1099997,1099988] [18] [(3,1,(LV.v (AV.snap [aS s0,aI i3,aI i4])))] [(3,5,LV.ud,h0),(4,1,vI i0,Heap.nil),(4,5,vI i5,Heap.nil),(4,9,vI i2,Heap.nil),(4,10,vI i1,h1)]) (tZ k0 (tA (tA t0 (tA tN (k1))) (tA t1 (tA t0 (tA tU (tA t1 (tA k2 (tA t1 (tA tN (tA t0 (tA k3 (tZ k4 (tA tF (tA t1 (tA tN (tA t0 (tA k5 (uF4 (tA t1 (tA tN (tA t0 (tA k6 (tA tF (tA k7 (tA k8 (tA t1 (uF2 (tZ k9 (tR ((vF 56 (aI (.ofNat 5)),h0))))))))))))))))))))))))))))))) (by kernel_rfl)
theorem Qqo (k0:ltZ (.ofNat i) n=true)(k1:ixA (aM xs) (.ofNat i) 3=some [aS s0,aI i3,aI i4])(k2:stP {bx:=Heap.bx h++[[(vS {data:= #[]}),vI (.ofNat 0),vI (.ofNat 0)]],mp:=Heap.mp h} (AV.ptr (List.length (Heap.bx h)) 0) [vS s0,vI i3,vI i4]=some h0)(k3:ldP h0 (AV.ptr (List.length (Heap.bx h)) 2) 1 false=some (aI i0))(k4:ltZ i0 (.ofNat 0)=false)(k5:ldP h0 (AV.ptr (List.length (Heap.bx h)) 2) 1 false=some (aI i5))(k6:ldP h0 (AV.ptr (List.length (Heap.bx h)) 1) 1 false=some (aI i2))(k7:Qbw [mV ty im fu ta me gl ex st el da cu,vI i2]=true)(k8:cA m 36 [mV ty im fu ta me gl ex st el da cu,vI i2] Heap.nil=some (vI i1,h2))(k9:leZ i1 i5=false)(k10:slA (Cx.P (cxZ m)) 41 (aM ex) none (some (.ofNat i))=some (aM l0))(k11:cA m 74 [vM l0,LV.v (AV.fn 75 [] [AV.ptr (List.length (Heap.bx h)) 0])] h0=some (vB b0,h1))(k12:b0=true):
 bA m 34 2 ([.lp 0 0,vM xs,vI n,vI (.ofNat i)]++mL ty im fu ta me gl ex st el da cu) h=some ((vF 56 (aI (.ofNat 6)),h1)):=
 bY (qS [1099997,1099985] [18,1099988] [(3,1,(LV.v (AV.snap [aS s0,aI i3,aI i4]))),(6,4,(vM l0))] [(3,5,LV.ud,h0),(4,1,vI i0,Heap.nil),(4,5,vI i5,Heap.nil),(4,9,vI i2,Heap.nil),(4,10,vI i1,h2),(6,6,vB b0,h1)]) (tZ k0 (tA (tA t0 (tA tN (k1))) (tA t1 (tA t0 (tA tU (tA t1 (tA k2 (tA t1 (tA tN (tA t0 (tA k3 (tZ k4 (tA tF (tA t1 (tA tN (tA t0 (tA k5 (uF4 (tA t1 (tA tN (tA t0 (tA k6 (tA tF (tA k7 (tA k8 (tA t1 (uF2 (tZ k9 (tA (tA t1 (k10)) (tA k11 (tZ k12 (tR ((vF 56 (aI (.ofNat 6)),h1)))))))))))))))))))))))))))))))))) (by kernel_rfl)
theorem Qqn (k0:ltZ (.ofNat i) n=true)(k1:ixA (aM xs) (.ofNat i) 3=some [aS s0,aI i3,aI i4])(k2:stP {bx:=Heap.bx h++[[(vS {data:= #[]}),vI (.ofNat 0),vI (.ofNat 0)]],mp:=Heap.mp h} (AV.ptr (List.length (Heap.bx h)) 0) [vS s0,vI i3,vI i4]=some h0)(k3:ldP h0 (AV.ptr (List.length (Heap.bx h)) 2) 1 false=some (aI i0))(k4:ltZ i0 (.ofNat 0)=false)(k5:ldP h0 (AV.ptr (List.length (Heap.bx h)) 2) 1 false=some (aI i5))(k6:ldP h0 (AV.ptr (List.length (Heap.bx h)) 1) 1 false=some (aI i2))(k7:Qbw [mV ty im fu ta me gl ex st el da cu,vI i2]=true)(k8:cA m 36 [mV ty im fu ta me gl ex st el da cu,vI i2] Heap.nil=some (vI i1,h2))(k9:leZ i1 i5=false)(k10:slA (Cx.P (cxZ m)) 41 (aM ex) none (some (.ofNat i))=some (aM l0))(k11:cA m 74 [vM l0,LV.v (AV.fn 75 [] [AV.ptr (List.length (Heap.bx h)) 0])] h0=some (vB b0,h1))(k12:b0=false)(k13:bA m 34 2 ([LV.lp 0 0,vM xs,vI n,vI (IntKind.wrap .i64 (.ofNat (Nat.succ i)))]++mL ty im fu ta me gl ex st el da cu) h1=some r):
 bA m 34 2 ([.lp 0 0,vM xs,vI n,vI (.ofNat i)]++mL ty im fu ta me gl ex st el da cu) h=some r:=
 bY (qS [1099997] [18,1099988,1099985] [(3,1,(LV.v (AV.snap [aS s0,aI i3,aI i4]))),(6,4,(vM l0))] [(3,5,LV.ud,h0),(4,1,vI i0,Heap.nil),(4,5,vI i5,Heap.nil),(4,9,vI i2,Heap.nil),(4,10,vI i1,h2),(6,6,vB b0,h1)]) (tZ k0 (tA (tA t0 (tA tN (k1))) (tA t1 (tA t0 (tA tU (tA t1 (tA k2 (tA t1 (tA tN (tA t0 (tA k3 (tZ k4 (tA tF (tA t1 (tA tN (tA t0 (tA k5 (uF4 (tA t1 (tA tN (tA t0 (tA k6 (tA tF (tA k7 (tA k8 (tA t1 (uF2 (tZ k9 (tA (tA t1 (k10)) (tA k11 (tZ k12 (tA t1 (k13))))))))))))))))))))))))))))))))) (by kernel_rfl)
theorem Qqm (k0:ltZ (.ofNat i) n=false):
 bA m 34 2 ([.lp 0 0,vM xs,vI n,vI (.ofNat i)]++mL ty im fu ta me gl ex st el da cu) h=some ((LV.v AV.nilI,h)):=
 bY (qS [] [1099997] [] []) (tZ k0 (tR ((LV.v AV.nilI,h)))) (by kernel_rfl)
theorem Qzy (k0:ldP h (AV.ptr F 0) 1 false=some (aS s0)):
 bB m 75 [vG [aS na,aI k,aI x],vP F 0] h=some ((vB (ByteArray.toList na==ByteArray.toList s0),h)):=
 bY (qS [] [] [] [(1,3,vS s0,Heap.nil)]) (tA t1 (tA tN (tA t0 (tA k0 (tR ((vB (ByteArray.toList na==ByteArray.toList s0),h))))))) (by kernel_rfl)
end Go.Proofs.YtoblgjmllmomhaaGreatDoor
namespace Go.Proofs.YtoblgjmllmomhaaGreatDoor
set_option maxRecDepth 100000
open Go Go.Proofs.Am
variable {m st:Int} {ty im fu ta me gl ex el da cu:LL} {h h0 h1 h2 h3 h4 h5 h6:Heap} {v0 v1 v2 v3 v4 v5 v6:AV} {b0 b1 b2 b3 b4 b5:Bool}
theorem QAk (k0:cA m 28 [mV ty im fu ta me gl ex st el da cu] h=some (LV.v v0,h0))(k1:nE m v0 b0)(k2:b0=true):
 bB m 15 [mV ty im fu ta me gl ex st el da cu] h=some ((LV.v v0,h0)):=
 bY (qS [1099990] [] [(3,1,(vB b0))] [(2,1,LV.v v0,h0)]) (tA k0 (tA k1 (tZ k2 (tR ((LV.v v0,h0)))))) (by kernel_rfl)
theorem QAj (k0:cA m 28 [mV ty im fu ta me gl ex st el da cu] h=some (LV.v v1,h1))(k1:nE m v1 b0)(k2:b0=false)(k3:cA m 29 [mV ty im fu ta me gl ex st el da cu] h1=some (LV.v v0,h0))(k4:nE m v0 b1)(k5:b1=true):
 bB m 15 [mV ty im fu ta me gl ex st el da cu] h=some ((LV.v v0,h0)):=
 bY (qS [1099983] [1099990] [(3,1,(vB b0)),(6,1,(vB b1))] [(2,1,LV.v v1,h1),(5,1,LV.v v0,h0)]) (tA k0 (tA k1 (tZ k2 (tA k3 (tA k4 (tZ k5 (tR ((LV.v v0,h0))))))))) (by kernel_rfl)
theorem QAi (k0:cA m 28 [mV ty im fu ta me gl ex st el da cu] h=some (LV.v v1,h1))(k1:nE m v1 b0)(k2:b0=false)(k3:cA m 29 [mV ty im fu ta me gl ex st el da cu] h1=some (LV.v v2,h2))(k4:nE m v2 b1)(k5:b1=false)(k6:cA m 30 [mV ty im fu ta me gl ex st el da cu] h2=some (LV.v v0,h0))(k7:nE m v0 b2)(k8:b2=true):
 bB m 15 [mV ty im fu ta me gl ex st el da cu] h=some ((LV.v v0,h0)):=
 bY (qS [1099976] [1099990,1099983] [(3,1,(vB b0)),(6,1,(vB b1)),(9,1,(vB b2))] [(2,1,LV.v v1,h1),(5,1,LV.v v2,h2),(8,1,LV.v v0,h0)]) (tA k0 (tA k1 (tZ k2 (tA k3 (tA k4 (tZ k5 (tA k6 (tA k7 (tZ k8 (tR ((LV.v v0,h0)))))))))))) (by kernel_rfl)
theorem QAh (k0:cA m 28 [mV ty im fu ta me gl ex st el da cu] h=some (LV.v v1,h1))(k1:nE m v1 b0)(k2:b0=false)(k3:cA m 29 [mV ty im fu ta me gl ex st el da cu] h1=some (LV.v v2,h2))(k4:nE m v2 b1)(k5:b1=false)(k6:cA m 30 [mV ty im fu ta me gl ex st el da cu] h2=some (LV.v v3,h3))(k7:nE m v3 b2)(k8:b2=false)(k9:cA m 31 [mV ty im fu ta me gl ex st el da cu] h3=some (LV.v v0,h0))(k10:nE m v0 b3)(k11:b3=true):
 bB m 15 [mV ty im fu ta me gl ex st el da cu] h=some ((LV.v v0,h0)):=
 bY (qS [1099969] [1099990,1099983,1099976] [(3,1,(vB b0)),(6,1,(vB b1)),(9,1,(vB b2)),(12,1,(vB b3))] [(2,1,LV.v v1,h1),(5,1,LV.v v2,h2),(8,1,LV.v v3,h3),(11,1,LV.v v0,h0)]) (tA k0 (tA k1 (tZ k2 (tA k3 (tA k4 (tZ k5 (tA k6 (tA k7 (tZ k8 (tA k9 (tA k10 (tZ k11 (tR ((LV.v v0,h0))))))))))))))) (by kernel_rfl)
theorem QAg (k0:cA m 28 [mV ty im fu ta me gl ex st el da cu] h=some (LV.v v2,h1))(k1:nE m v2 b0)(k2:b0=false)(k3:cA m 29 [mV ty im fu ta me gl ex st el da cu] h1=some (LV.v v3,h2))(k4:nE m v3 b1)(k5:b1=false)(k6:cA m 30 [mV ty im fu ta me gl ex st el da cu] h2=some (LV.v v4,h3))(k7:nE m v4 b2)(k8:b2=false)(k9:cA m 31 [mV ty im fu ta me gl ex st el da cu] h3=some (LV.v v1,h0))(k10:nE m v1 b3)(k11:b3=false)(k12:Qbw [mV ty im fu ta me gl ex st el da cu]=true)(k13:cA m 32 [mV ty im fu ta me gl ex st el da cu] Heap.nil=some (LV.v v0,h4))(k14:LV.np (LV.v v0)=true)(k15:nE m v0 b4)(k16:b4=true):
 bB m 15 [mV ty im fu ta me gl ex st el da cu] h=some ((LV.v v0,h0)):=
 bY (qS [1099962] [1099990,1099983,1099976,1099969] [(3,1,(vB b0)),(6,1,(vB b1)),(9,1,(vB b2)),(12,1,(vB b3)),(15,1,(vB b4))] [(2,1,LV.v v2,h1),(5,1,LV.v v3,h2),(8,1,LV.v v4,h3),(11,1,LV.v v1,h0),(14,1,LV.v v0,h4)]) (tA k0 (tA k1 (tZ k2 (tA k3 (tA k4 (tZ k5 (tA k6 (tA k7 (tZ k8 (tA k9 (tA k10 (tZ k11 (tA k12 (tA k13 (tA k14 (tA k15 (tZ k16 (tR ((LV.v v0,h0)))))))))))))))))))) (by kernel_rfl)
theorem QAf (k0:cA m 28 [mV ty im fu ta me gl ex st el da cu] h=some (LV.v v1,h1))(k1:nE m v1 b0)(k2:b0=false)(k3:cA m 29 [mV ty im fu ta me gl ex st el da cu] h1=some (LV.v v2,h2))(k4:nE m v2 b1)(k5:b1=false)(k6:cA m 30 [mV ty im fu ta me gl ex st el da cu] h2=some (LV.v v3,h3))(k7:nE m v3 b2)(k8:b2=false)(k9:cA m 31 [mV ty im fu ta me gl ex st el da cu] h3=some (LV.v v4,h4))(k10:nE m v4 b3)(k11:b3=false)(k12:Qbw [mV ty im fu ta me gl ex st el da cu]=true)(k13:cA m 32 [mV ty im fu ta me gl ex st el da cu] Heap.nil=some (LV.v v5,h5))(k14:LV.np (LV.v v5)=true)(k15:nE m v5 b4)(k16:b4=false)(k17:cA m 33 [mV ty im fu ta me gl ex st el da cu] h4=some (LV.v v0,h0))(k18:nE m v0 b5)(k19:b5=true):
 bB m 15 [mV ty im fu ta me gl ex st el da cu] h=some ((LV.v v0,h0)):=
 bY (qS [1099955] [1099990,1099983,1099976,1099969,1099962] [(3,1,(vB b0)),(6,1,(vB b1)),(9,1,(vB b2)),(12,1,(vB b3)),(15,1,(vB b4)),(18,1,(vB b5))] [(2,1,LV.v v1,h1),(5,1,LV.v v2,h2),(8,1,LV.v v3,h3),(11,1,LV.v v4,h4),(14,1,LV.v v5,h5),(17,1,LV.v v0,h0)]) (tA k0 (tA k1 (tZ k2 (tA k3 (tA k4 (tZ k5 (tA k6 (tA k7 (tZ k8 (tA k9 (tA k10 (tZ k11 (tA k12 (tA k13 (tA k14 (tA k15 (tZ k16 (tA k17 (tA k18 (tZ k19 (tR ((LV.v v0,h0))))))))))))))))))))))) (by kernel_rfl)
theorem QAe (k0:cA m 28 [mV ty im fu ta me gl ex st el da cu] h=some (LV.v v2,h1))(k1:nE m v2 b0)(k2:b0=false)(k3:cA m 29 [mV ty im fu ta me gl ex st el da cu] h1=some (LV.v v3,h2))(k4:nE m v3 b1)(k5:b1=false)(k6:cA m 30 [mV ty im fu ta me gl ex st el da cu] h2=some (LV.v v4,h3))(k7:nE m v4 b2)(k8:b2=false)(k9:cA m 31 [mV ty im fu ta me gl ex st el da cu] h3=some (LV.v v5,h4))(k10:nE m v5 b3)(k11:b3=false)(k12:Qbw [mV ty im fu ta me gl ex st el da cu]=true)(k13:cA m 32 [mV ty im fu ta me gl ex st el da cu] Heap.nil=some (LV.v v6,h5))(k14:LV.np (LV.v v6)=true)(k15:nE m v6 b4)(k16:b4=false)(k17:cA m 33 [mV ty im fu ta me gl ex st el da cu] h4=some (LV.v v0,h0))(k18:nE m v0 b5)(k19:b5=false)(k20:cA m 34 [mV ty im fu ta me gl ex st el da cu] Heap.nil=some (LV.v v1,h6))(k21:LV.np (LV.v v1)=true):
 bB m 15 [mV ty im fu ta me gl ex st el da cu] h=some ((LV.v v1,h0)):=
 bY (qS [] [1099990,1099983,1099976,1099969,1099962,1099955] [(3,1,(vB b0)),(6,1,(vB b1)),(9,1,(vB b2)),(12,1,(vB b3)),(15,1,(vB b4)),(18,1,(vB b5))] [(2,1,LV.v v2,h1),(5,1,LV.v v3,h2),(8,1,LV.v v4,h3),(11,1,LV.v v5,h4),(14,1,LV.v v6,h5),(17,1,LV.v v0,h0),(20,1,LV.v v1,h6)]) (tA k0 (tA k1 (tZ k2 (tA k3 (tA k4 (tZ k5 (tA k6 (tA k7 (tZ k8 (tA k9 (tA k10 (tZ k11 (tA k12 (tA k13 (tA k14 (tA k15 (tZ k16 (tA k17 (tA k18 (tZ k19 (tA k12 (tA k20 (tA k21 (tR ((LV.v v1,h0)))))))))))))))))))))))))) (by kernel_rfl)
end Go.Proofs.YtoblgjmllmomhaaGreatDoor
