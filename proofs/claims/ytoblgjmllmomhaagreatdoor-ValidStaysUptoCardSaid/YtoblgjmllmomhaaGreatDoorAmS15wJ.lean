/-
  Ways through texts, one by one (printed by a program of this repo).
-/
import Derived.Test.YtoblgjmllmomhaaGreatDoorAmSVwM
import Derived.KernelRfl
namespace Go.Proofs.YtoblgjmllmomhaaGreatDoor
set_option maxRecDepth 100000
open Go Go.Proofs.Am
variable {m st k t lo hi:Int} {ty im fu ta me gl ex el da cu:LL} {mo na:ByteArray} {mu has b0 b1 b2 b3:Bool} {h h0 h1 h2 h3:Heap}
theorem QzX (k0:ltZ k (.ofNat 0)=true):
 bB m 64 [mV ty im fu ta me gl ex st el da cu,vG [aS mo,aS na,aI k,aI t,aB mu,aI lo,aI hi,aB has]] h=some ((vF 56 (aI (.ofNat 4)),h)):=
 bY (qS [9] [] [] []) (tZ k0 (uT3 (tR ((vF 56 (aI (.ofNat 4)),h))))) (by kernel_rfl)
theorem QzW (k0:ltZ k (.ofNat 0)=false)(k1:ltZ (.ofNat 3) k=true):
 bB m 64 [mV ty im fu ta me gl ex st el da cu,vG [aS mo,aS na,aI k,aI t,aB mu,aI lo,aI hi,aB has]] h=some ((vF 56 (aI (.ofNat 4)),h)):=
 bY (qS [1099993] [9] [] []) (tZ k0 (uF3 (tZ k1 (tR ((vF 56 (aI (.ofNat 4)),h)))))) (by kernel_rfl)
theorem QzV (k0:ltZ k (.ofNat 0)=false)(k1:ltZ (.ofNat 3) k=false)(k2:eqZ k (.ofNat 0)=true)(k3:cA m 69 [mV ty im fu ta me gl ex st el da cu,vI t] h=some (vB b0,h0))(k4:(!b0)=true):
 bB m 64 [mV ty im fu ta me gl ex st el da cu,vG [aS mo,aS na,aI k,aI t,aB mu,aI lo,aI hi,aB has]] h=some ((vF 56 (aI (.ofNat 5)),h0)):=
 bY (qS [19,1099990] [9,1099993] [] [(3,7,vB b0,h0)]) (tZ k0 (uF3 (tZ k1 (tZ k2 (uT3 (tA k3 (uT2 (tZ k4 (tR ((vF 56 (aI (.ofNat 5)),h0))))))))))) (by kernel_rfl)
theorem QuI (k0:ltZ k (.ofNat 0)=false)(k1:ltZ (.ofNat 3) k=false)(k2:eqZ k (.ofNat 0)=true)(k3:cA m 69 [mV ty im fu ta me gl ex st el da cu,vI t] h=some (vB b0,h0))(k4:(!b0)=false)(k5:eqZ k (.ofNat 3)=false)(k6:eqZ k (.ofNat 1)=false)(k7:eqZ k (.ofNat 2)=false):
 bB m 64 [mV ty im fu ta me gl ex st el da cu,vG [aS mo,aS na,aI k,aI t,aB mu,aI lo,aI hi,aB has]] h=some ((LV.v AV.nilI,h0)):=
 bY (qS [19] [9,1099993,1099990,31,45,54] [] [(3,7,vB b0,h0)]) (tZ k0 (uF3 (tZ k1 (tZ k2 (uT3 (tA k3 (uT2 (tZ k4 (tZ k5 (uF5 (tZ k6 (uF4 (tZ k7 (uF4 (tR ((LV.v AV.nilI,h0))))))))))))))))) (by kernel_rfl)
theorem QuH (k0:ltZ k (.ofNat 0)=false)(k1:ltZ (.ofNat 3) k=false)(k2:eqZ k (.ofNat 0)=false)(k3:eqZ k (.ofNat 3)=true)(k4:cA m 63 [vI t] h=some (vB b0,h0))(k5:b0=true):
 bB m 64 [mV ty im fu ta me gl ex st el da cu,vG [aS mo,aS na,aI k,aI t,aB mu,aI lo,aI hi,aB has]] h=some ((vF 56 (aI (.ofNat 4)),h0)):=
 bY (qS [31,35] [9,1099993,19] [] [(5,6,vB b0,h0)]) (tZ k0 (uF3 (tZ k1 (tZ k2 (uF5 (tZ k3 (uT2 (tA k4 (tA tT (tZ k5 (uT4 (tR ((vF 56 (aI (.ofNat 4)),h0)))))))))))))) (by kernel_rfl)
theorem QuG (k0:ltZ k (.ofNat 0)=false)(k1:ltZ (.ofNat 3) k=false)(k2:eqZ k (.ofNat 0)=false)(k3:eqZ k (.ofNat 3)=true)(k4:cA m 63 [vI t] h=some (vB b0,h0))(k5:b0=false)(k6:mu=true):
 bB m 64 [mV ty im fu ta me gl ex st el da cu,vG [aS mo,aS na,aI k,aI t,aB mu,aI lo,aI hi,aB has]] h=some ((vF 56 (aI (.ofNat 4)),h0)):=
 bY (qS [31,1099987] [9,1099993,19,35] [] [(5,6,vB b0,h0)]) (tZ k0 (uF3 (tZ k1 (tZ k2 (uF5 (tZ k3 (uT2 (tA k4 (tA tT (tZ k5 (tA tF (tA tT (tA tF (tA tT (tZ k6 (tR ((vF 56 (aI (.ofNat 4)),h0)))))))))))))))))) (by kernel_rfl)
theorem QuF (k0:ltZ k (.ofNat 0)=false)(k1:ltZ (.ofNat 3) k=false)(k2:eqZ k (.ofNat 0)=false)(k3:eqZ k (.ofNat 3)=true)(k4:cA m 63 [vI t] h=some (vB b0,h0))(k5:b0=false)(k6:mu=false)(k7:eqZ k (.ofNat 1)=false)(k8:eqZ k (.ofNat 2)=false):
 bB m 64 [mV ty im fu ta me gl ex st el da cu,vG [aS mo,aS na,aI k,aI t,aB mu,aI lo,aI hi,aB has]] h=some ((LV.v AV.nilI,h0)):=
 bY (qS [31] [9,1099993,19,35,1099987,45,54] [] [(5,6,vB b0,h0)]) (tZ k0 (uF3 (tZ k1 (tZ k2 (uF5 (tZ k3 (uT2 (tA k4 (tA tT (tZ k5 (tA tF (tA tT (tA tF (tA tT (tZ k6 (tZ k7 (uF4 (tZ k8 (uF4 (tR ((LV.v AV.nilI,h0)))))))))))))))))))))) (by kernel_rfl)
theorem QuE (k0:ltZ k (.ofNat 0)=false)(k1:ltZ (.ofNat 3) k=false)(k2:eqZ k (.ofNat 0)=false)(k3:eqZ k (.ofNat 3)=false)(k4:eqZ k (.ofNat 1)=true)(k5:cA m 67 [vG [aI lo,aI hi,aB has],vI (.ofNat 64)] h=some (vB b0,h0))(k6:(!b0)=true):
 bB m 64 [mV ty im fu ta me gl ex st el da cu,vG [aS mo,aS na,aI k,aI t,aB mu,aI lo,aI hi,aB has]] h=some ((vF 56 (aI (.ofNat 7)),h0)):=
 bY (qS [45,1099983,1099981] [9,1099993,19,31] [] [(7,6,vB b0,h0)]) (tZ k0 (uF3 (tZ k1 (tZ k2 (uF5 (tZ k3 (uF5 (tZ k4 (uT2 (tA k5 (uT2 (tZ k6 (tZ k6 (tR ((vF 56 (aI (.ofNat 7)),h0)))))))))))))))) (by kernel_rfl)
theorem QuD (k0:ltZ k (.ofNat 0)=false)(k1:ltZ (.ofNat 3) k=false)(k2:eqZ k (.ofNat 0)=false)(k3:eqZ k (.ofNat 3)=false)(k4:eqZ k (.ofNat 1)=true)(k5:cA m 67 [vG [aI lo,aI hi,aB has],vI (.ofNat 64)] h=some (vB b0,h0))(k6:(!b0)=false)(k7:eqZ k (.ofNat 2)=false):
 bB m 64 [mV ty im fu ta me gl ex st el da cu,vG [aS mo,aS na,aI k,aI t,aB mu,aI lo,aI hi,aB has]] h=some ((LV.v AV.nilI,h0)):=
 bY (qS [45] [9,1099993,19,31,1099983,54] [] [(7,6,vB b0,h0)]) (tZ k0 (uF3 (tZ k1 (tZ k2 (uF5 (tZ k3 (uF5 (tZ k4 (uT2 (tA k5 (uT2 (tZ k6 (tZ k7 (uF4 (tR ((LV.v AV.nilI,h0))))))))))))))))) (by kernel_rfl)
theorem QuC (k0:ltZ k (.ofNat 0)=false)(k1:ltZ (.ofNat 3) k=false)(k2:eqZ k (.ofNat 0)=false)(k3:eqZ k (.ofNat 3)=false)(k4:eqZ k (.ofNat 1)=false)(k5:eqZ k (.ofNat 2)=true)(k6:cA m 67 [vG [aI lo,aI hi,aB has],vI (.ofNat 16)] h=some (vB b0,h0))(k7:(!b0)=true):
 bB m 64 [mV ty im fu ta me gl ex st el da cu,vG [aS mo,aS na,aI k,aI t,aB mu,aI lo,aI hi,aB has]] h=some ((vF 56 (aI (.ofNat 7)),h0)):=
 bY (qS [54,1099981] [9,1099993,19,31,45] [] [(8,6,vB b0,h0)]) (tZ k0 (uF3 (tZ k1 (tZ k2 (uF5 (tZ k3 (uF5 (tZ k4 (uF4 (tZ k5 (uT2 (tA k6 (uT2 (tZ k7 (tR ((vF 56 (aI (.ofNat 7)),h0))))))))))))))))) (by kernel_rfl)
theorem QuB (k0:ltZ k (.ofNat 0)=false)(k1:ltZ (.ofNat 3) k=false)(k2:eqZ k (.ofNat 0)=false)(k3:eqZ k (.ofNat 3)=false)(k4:eqZ k (.ofNat 1)=false)(k5:eqZ k (.ofNat 2)=true)(k6:cA m 67 [vG [aI lo,aI hi,aB has],vI (.ofNat 16)] h=some (vB b0,h0))(k7:(!b0)=false):
 bB m 64 [mV ty im fu ta me gl ex st el da cu,vG [aS mo,aS na,aI k,aI t,aB mu,aI lo,aI hi,aB has]] h=some ((LV.v AV.nilI,h0)):=
 bY (qS [54] [9,1099993,19,31,45,1099981] [] [(8,6,vB b0,h0)]) (tZ k0 (uF3 (tZ k1 (tZ k2 (uF5 (tZ k3 (uF5 (tZ k4 (uF4 (tZ k5 (uT2 (tA k6 (uT2 (tZ k7 (tR ((LV.v AV.nilI,h0))))))))))))))))) (by kernel_rfl)
end Go.Proofs.YtoblgjmllmomhaaGreatDoor
namespace Go.Proofs.YtoblgjmllmomhaaGreatDoor
set_option maxRecDepth 100000
open Go Go.Proofs.Am
variable {m st n i0 i1 i2 i3:Int} {ty im fu ta me gl ex el da cu xs l0 l1:LL} {h h0 h1 h2 h3:Heap} {r:LV×Heap} {i:Nat} {v0:AV} {s0 s1:ByteArray} {b0 b1 b2:Bool}
theorem QAb (k0:bA m 29 2 ([LV.lp 0 0,vM im,vI (.ofNat im.length),vI (.ofNat 0)]++mL ty im fu ta me gl ex st el da cu) h=some r):
 bB m 29 [mV ty im fu ta me gl ex st el da cu] h=some r:=
 bY (qS [] [] [] []) (tA t1 (k0)) (by kernel_rfl)
theorem QqK (k0:ltZ (.ofNat i) n=true)(k1:ixA (aM xs) (.ofNat i) 8=some [aS s0,aS s1,aI i0,aI i1,aB b0,aI i2,aI i3,aB b1])(k2:cA m 64 [mV ty im fu ta me gl ex st el da cu,vG [aS s0,aS s1,aI i0,aI i1,aB b0,aI i2,aI i3,aB b1]] h=some (LV.v v0,h0))(k3:nE m v0 b2)(k4:b2=true):
 bA m 29 2 ([.lp 0 0,vM xs,vI n,vI (.ofNat i)]++mL ty im fu ta me gl ex st el da cu) h=some ((LV.v v0,h0)):=
 bY (qS [1099997,1099987] [] [(3,0,(LV.v (AV.snap [aS s0,aS s1,aI i0,aI i1,aB b0,aI i2,aI i3,aB b1]))),(5,1,(vB b2))] [(4,2,LV.v v0,h0)]) (tZ k0 (tA (tA t0 (tA tN (k1))) (tA k2 (tA k3 (tZ k4 (tR ((LV.v v0,h0)))))))) (by kernel_rfl)
theorem QqJ (k0:ltZ (.ofNat i) n=true)(k1:ixA (aM xs) (.ofNat i) 8=some [aS s0,aS s1,aI i0,aI i1,aB b0,aI i2,aI i3,aB b1])(k2:cA m 64 [mV ty im fu ta me gl ex st el da cu,vG [aS s0,aS s1,aI i0,aI i1,aB b0,aI i2,aI i3,aB b1]] h=some (LV.v v0,h0))(k3:nE m v0 b2)(k4:b2=false)(k5:bA m 29 2 ([LV.lp 0 0,vM xs,vI n,vI (IntKind.wrap .i64 (.ofNat (Nat.succ i)))]++mL ty im fu ta me gl ex st el da cu) h0=some r):
 bA m 29 2 ([.lp 0 0,vM xs,vI n,vI (.ofNat i)]++mL ty im fu ta me gl ex st el da cu) h=some r:=
 bY (qS [1099997] [1099987] [(3,0,(LV.v (AV.snap [aS s0,aS s1,aI i0,aI i1,aB b0,aI i2,aI i3,aB b1]))),(5,1,(vB b2))] [(4,2,LV.v v0,h0)]) (tZ k0 (tA (tA t0 (tA tN (k1))) (tA k2 (tA k3 (tZ k4 (tA t1 (k5))))))) (by kernel_rfl)
theorem QqI (k0:ltZ (.ofNat i) n=false)(k1:cA m 65 [vM ta,LV.v (AV.fn 66 [] [])] h=some (vB b0,h0))(k2:b0=true):
 bA m 29 2 ([.lp 0 0,vM xs,vI n,vI (.ofNat i)]++mL ty im fu ta me gl ex st el da cu) h=some ((vF 56 (aI (.ofNat 7)),h0)):=
 bY (qS [29] [1099997] [] [(8,3,vB b0,h0)]) (tZ k0 (tA k1 (tZ k2 (uT4 (tR ((vF 56 (aI (.ofNat 7)),h0))))))) (by kernel_rfl)
theorem QqH (k0:ltZ (.ofNat i) n=false)(k1:cA m 65 [vM ta,LV.v (AV.fn 66 [] [])] h=some (vB b1,h1))(k2:b1=false)(k3:cA m 65 [vM me,LV.v (AV.fn 68 [] [])] h1=some (vB b0,h0))(k4:b0=true):
 bA m 29 2 ([.lp 0 0,vM xs,vI n,vI (.ofNat i)]++mL ty im fu ta me gl ex st el da cu) h=some ((vF 56 (aI (.ofNat 7)),h0)):=
 bY (qS [1099990] [1099997,29] [] [(8,3,vB b1,h1),(9,5,vB b0,h0)]) (tZ k0 (tA k1 (tZ k2 (uF3 (tA k3 (tA tF (tZ k4 (tR ((vF 56 (aI (.ofNat 7)),h0)))))))))) (by kernel_rfl)
theorem QqG (k0:ltZ (.ofNat i) n=false)(k1:cA m 65 [vM ta,LV.v (AV.fn 66 [] [])] h=some (vB b0,h1))(k2:b0=false)(k3:cA m 65 [vM me,LV.v (AV.fn 68 [] [])] h1=some (vB b1,h2))(k4:b1=false)(k5:cA m 36 [mV ty im fu ta me gl ex st el da cu,vI (.ofNat 1)] h2=some (vI i0,h0))(k6:ltZ (.ofNat 1) i0=true):
 bA m 29 2 ([.lp 0 0,vM xs,vI n,vI (.ofNat i)]++mL ty im fu ta me gl ex st el da cu) h=some ((vF 56 (aI (.ofNat 6)),h0)):=
 bY (qS [40] [1099997,29,1099990] [] [(8,3,vB b0,h1),(9,5,vB b1,h2),(11,2,vI i0,h0)]) (tZ k0 (tA k1 (tZ k2 (uF3 (tA k3 (tA tF (tZ k4 (tA k5 (tZ k6 (uT4 (tR ((vF 56 (aI (.ofNat 6)),h0))))))))))))) (by kernel_rfl)
theorem QqF (k0:ltZ (.ofNat i) n=false)(k1:cA m 65 [vM ta,LV.v (AV.fn 66 [] [])] h=some (vB b0,h1))(k2:b0=false)(k3:cA m 65 [vM me,LV.v (AV.fn 68 [] [])] h1=some (vB b1,h2))(k4:b1=false)(k5:cA m 36 [mV ty im fu ta me gl ex st el da cu,vI (.ofNat 1)] h2=some (vI i1,h3))(k6:ltZ (.ofNat 1) i1=false)(k7:cA m 36 [mV ty im fu ta me gl ex st el da cu,vI (.ofNat 2)] h3=some (vI i0,h0))(k8:ltZ (.ofNat 1) i0=true):
 bA m 29 2 ([.lp 0 0,vM xs,vI n,vI (.ofNat i)]++mL ty im fu ta me gl ex st el da cu) h=some ((vF 56 (aI (.ofNat 6)),h0)):=
 bY (qS [1099985] [1099997,29,1099990,40] [] [(8,3,vB b0,h1),(9,5,vB b1,h2),(11,2,vI i1,h3),(11,7,vI i0,h0)]) (tZ k0 (tA k1 (tZ k2 (uF3 (tA k3 (tA tF (tZ k4 (tA k5 (tZ k6 (uF2 (tA k7 (uF2 (tZ k8 (tR ((vF 56 (aI (.ofNat 6)),h0)))))))))))))))) (by kernel_rfl)
theorem QqE (k0:ltZ (.ofNat i) n=false)(k1:cA m 65 [vM ta,LV.v (AV.fn 66 [] [])] h=some (vB b0,h0))(k2:b0=false)(k3:cA m 65 [vM me,LV.v (AV.fn 68 [] [])] h0=some (vB b1,h1))(k4:b1=false)(k5:cA m 36 [mV ty im fu ta me gl ex st el da cu,vI (.ofNat 1)] h1=some (vI i0,h2))(k6:ltZ (.ofNat 1) i0=false)(k7:cA m 36 [mV ty im fu ta me gl ex st el da cu,vI (.ofNat 2)] h2=some (vI i1,h3))(k8:ltZ (.ofNat 1) i1=false)(k9:bA m 29 14 ([LV.lp 0 0,vM fu,vI (.ofNat fu.length),vI (.ofNat 0)]++mL ty im fu ta me gl ex st el da cu) h3=some r):
 bA m 29 2 ([.lp 0 0,vM xs,vI n,vI (.ofNat i)]++mL ty im fu ta me gl ex st el da cu) h=some r:=
 bY (qS [] [1099997,29,1099990,40,1099985] [] [(8,3,vB b0,h0),(9,5,vB b1,h1),(11,2,vI i0,h2),(11,7,vI i1,h3)]) (tZ k0 (tA k1 (tZ k2 (uF3 (tA k3 (tA tF (tZ k4 (tA k5 (tZ k6 (uF2 (tA k7 (uF2 (tZ k8 (tA t1 (k9))))))))))))))) (by kernel_rfl)
theorem QmW (k0:ltZ (.ofNat i) n=true)(k1:ixA (aM xs) (.ofNat i) 3=some [aI i0,aM l0,aM l1])(k2:cA m 69 [mV ty im fu ta me gl ex st el da cu,vI i0] h=some (vB b0,h0))(k3:(!b0)=true):
 bA m 29 14 ([.lp 0 0,vM xs,vI n,vI (.ofNat i)]++mL ty im fu ta me gl ex st el da cu) h=some ((vF 56 (aI (.ofNat 5)),h0)):=
 bY (qS [1099997,1099988] [] [(15,0,(LV.v (AV.snap [aI i0,aM l0,aM l1])))] [(16,3,vB b0,h0)]) (tZ k0 (tA (tA t0 (tA tN (k1))) (tA k2 (tZ k3 (tR ((vF 56 (aI (.ofNat 5)),h0))))))) (by kernel_rfl)
theorem QmV (k0:ltZ (.ofNat i) n=true)(k1:ixA (aM xs) (.ofNat i) 3=some [aI i0,aM l0,aM l1])(k2:cA m 69 [mV ty im fu ta me gl ex st el da cu,vI i0] h=some (vB b1,h1))(k3:(!b1)=false)(k4:cA m 47 [vM l0,LV.v (AV.fn 63 [] [])] h1=some (vB b0,h0))(k5:b0=true):
 bA m 29 14 ([.lp 0 0,vM xs,vI n,vI (.ofNat i)]++mL ty im fu ta me gl ex st el da cu) h=some ((vF 56 (aI (.ofNat 4)),h0)):=
 bY (qS [1099997,1099985] [1099988] [(15,0,(LV.v (AV.snap [aI i0,aM l0,aM l1])))] [(16,3,vB b1,h1),(18,2,vB b0,h0)]) (tZ k0 (tA (tA t0 (tA tN (k1))) (tA k2 (tZ k3 (tA k4 (tZ k5 (tR ((vF 56 (aI (.ofNat 4)),h0))))))))) (by kernel_rfl)
theorem QmU (k0:ltZ (.ofNat i) n=true)(k1:ixA (aM xs) (.ofNat i) 3=some [aI i0,aM l0,aM l1])(k2:cA m 69 [mV ty im fu ta me gl ex st el da cu,vI i0] h=some (vB b0,h0))(k3:(!b0)=false)(k4:cA m 47 [vM l0,LV.v (AV.fn 63 [] [])] h0=some (vB b1,h1))(k5:b1=false)(k6:bA m 29 14 ([LV.lp 0 0,vM xs,vI n,vI (IntKind.wrap .i64 (.ofNat (Nat.succ i)))]++mL ty im fu ta me gl ex st el da cu) h1=some r):
 bA m 29 14 ([.lp 0 0,vM xs,vI n,vI (.ofNat i)]++mL ty im fu ta me gl ex st el da cu) h=some r:=
 bY (qS [1099997] [1099988,1099985] [(15,0,(LV.v (AV.snap [aI i0,aM l0,aM l1])))] [(16,3,vB b0,h0),(18,2,vB b1,h1)]) (tZ k0 (tA (tA t0 (tA tN (k1))) (tA k2 (tZ k3 (tA k4 (tZ k5 (tA t1 (k6)))))))) (by kernel_rfl)
theorem QmT (k0:ltZ (.ofNat i) n=false):
 bA m 29 14 ([.lp 0 0,vM xs,vI n,vI (.ofNat i)]++mL ty im fu ta me gl ex st el da cu) h=some ((LV.v AV.nilI,h)):=
 bY (qS [] [1099997] [] []) (tZ k0 (tR ((LV.v AV.nilI,h)))) (by kernel_rfl)
end Go.Proofs.YtoblgjmllmomhaaGreatDoor
namespace Go.Proofs.YtoblgjmllmomhaaGreatDoor
set_option maxRecDepth 100000
open Go Go.Proofs.Am
variable {m st o a b v t w i0 i1 i2 i3 i4:Int} {ty im fu ta me gl ex el da cu l bd eb l0:LL} {q b0 b1 b2 b3 b4 b5:Bool} {h h0 h1 h2:Heap} {v0 v1:AV} {s0:ByteArray}
theorem QzK (k0:(Qav o,h)=(LV.tup [AV.agg [aI i0,aS s0,aI i1,aM l0,aI i2,aI i3,aB b1],v0],h0))(k1:nE m v0 b0)(k2:b0=true):
 bB m 70 [mV ty im fu ta me gl ex st el da cu,vG (nC o a b v t l bd eb q),vI w] h=some ((vF 56 (aI (.ofNat 4)),h0)):=
 bY (qS [21] [] [(2,1,(vB b0))] [(1,2,LV.tup [AV.agg [aI i0,aS s0,aI i1,aM l0,aI i2,aI i3,aB b1],v0],h0)]) (tZ k0 (tA k1 (tZ k2 (uT4 (tR ((vF 56 (aI (.ofNat 4)),h0))))))) (by kernel_rfl)
theorem QzJ (k0:(Qav o,h)=(LV.tup [AV.agg [aI i0,aS s0,aI i1,aM l0,aI i2,aI i3,aB b2],v0],h1))(k1:nE m v0 b1)(k2:b1=false)(k3:cA m 19 [vM [nC o a b v t l bd eb q]] h1=some (vB b0,h0))(k4:(!b0)=true):
 bB m 70 [mV ty im fu ta me gl ex st el da cu,vG (nC o a b v t l bd eb q),vI w] h=some ((vF 56 (aI (.ofNat 4)),h0)):=
 bY (qS [1099991] [21] [(2,1,(vB b1))] [(1,2,LV.tup [AV.agg [aI i0,aS s0,aI i1,aM l0,aI i2,aI i3,aB b2],v0],h1),(2,5,vB b0,h0)]) (tZ k0 (tA k1 (tZ k2 (uF2 (tA k3 (uF2 (tZ k4 (tR ((vF 56 (aI (.ofNat 4)),h0)))))))))) (by kernel_rfl)
theorem QzI (k0:(Qav o,h)=(LV.tup [AV.agg [aI i2,aS s0,aI i0,aM l0,aI i1,aI i3,aB b2],v0],h1))(k1:nE m v0 b1)(k2:b1=false)(k3:cA m 19 [vM [nC o a b v t l bd eb q]] h1=some (vB b0,h0))(k4:(!b0)=false)(k5:eqZ i0 (.ofNat 10)=true)(k6:eqZ i1 w=true):
 bB m 70 [mV ty im fu ta me gl ex st el da cu,vG (nC o a b v t l bd eb q),vI w] h=some ((LV.v AV.nilI,h0)):=
 bY (qS [32,1099988] [21,1099991] [(2,1,(vB b1))] [(1,2,LV.tup [AV.agg [aI i2,aS s0,aI i0,aM l0,aI i1,aI i3,aB b2],v0],h1),(2,5,vB b0,h0)]) (tZ k0 (tA k1 (tZ k2 (uF2 (tA k3 (uF2 (tZ k4 (tZ k5 (uT4 (tZ k6 (tR ((LV.v AV.nilI,h0))))))))))))) (by kernel_rfl)
theorem QzH (k0:(Qav o,h)=(LV.tup [AV.agg [aI i2,aS s0,aI i0,aM l0,aI i1,aI i3,aB b2],v0],h1))(k1:nE m v0 b1)(k2:b1=false)(k3:cA m 19 [vM [nC o a b v t l bd eb q]] h1=some (vB b0,h0))(k4:(!b0)=false)(k5:eqZ i0 (.ofNat 10)=true)(k6:eqZ i1 w=false)(k7:(!ByteArray.toList s0==ByteArray.toList {data:= #[103,108,111,98,97,108,46,103,101,116]})=true):
 bB m 70 [mV ty im fu ta me gl ex st el da cu,vG (nC o a b v t l bd eb q),vI w] h=some ((vF 56 (aI (.ofNat 4)),h0)):=
 bY (qS [32,1099985] [21,1099991,1099988] [(2,1,(vB b1))] [(1,2,LV.tup [AV.agg [aI i2,aS s0,aI i0,aM l0,aI i1,aI i3,aB b2],v0],h1),(2,5,vB b0,h0)]) (tZ k0 (tA k1 (tZ k2 (uF2 (tA k3 (uF2 (tZ k4 (tZ k5 (uT4 (tZ k6 (tZ k7 (tR ((vF 56 (aI (.ofNat 4)),h0)))))))))))))) (by kernel_rfl)
theorem QzG (k0:(Qav o,h)=(LV.tup [AV.agg [aI i2,aS s0,aI i0,aM l0,aI i1,aI i3,aB b3],v0],h1))(k1:nE m v0 b1)(k2:b1=false)(k3:cA m 19 [vM [nC o a b v t l bd eb q]] h1=some (vB b0,h2))(k4:(!b0)=false)(k5:eqZ i0 (.ofNat 10)=true)(k6:eqZ i1 w=false)(k7:(!ByteArray.toList s0==ByteArray.toList {data:= #[103,108,111,98,97,108,46,103,101,116]})=false)(k8:cA m 112 [mV ty im fu ta me gl ex st el da cu,vI a] h2=some (LV.tup [aI i4,aB b4,aB b5,v1],h0))(k9:nE m v1 b2)(k10:b2=true):
 bB m 70 [mV ty im fu ta me gl ex st el da cu,vG (nC o a b v t l bd eb q),vI w] h=some ((vF 56 (aI (.ofNat 5)),h0)):=
 bY (qS [32,56] [21,1099991,1099988,1099985] [(2,1,(vB b1)),(9,1,(vB b2))] [(1,2,LV.tup [AV.agg [aI i2,aS s0,aI i0,aM l0,aI i1,aI i3,aB b3],v0],h1),(2,5,vB b0,h2),(8,4,LV.tup [aI i4,aB b4,aB b5,v1],h0)]) (tZ k0 (tA k1 (tZ k2 (uF2 (tA k3 (uF2 (tZ k4 (tZ k5 (uT4 (tZ k6 (tZ k7 (tA k8 (tA k9 (tZ k10 (uT2 (tR ((vF 56 (aI (.ofNat 5)),h0)))))))))))))))))) (by kernel_rfl)
theorem QzF (k0:(Qav o,h)=(LV.tup [AV.agg [aI i2,aS s0,aI i0,aM l0,aI i1,aI i3,aB b4],v0],h1))(k1:nE m v0 b1)(k2:b1=false)(k3:cA m 19 [vM [nC o a b v t l bd eb q]] h1=some (vB b0,h2))(k4:(!b0)=false)(k5:eqZ i0 (.ofNat 10)=true)(k6:eqZ i1 w=false)(k7:(!ByteArray.toList s0==ByteArray.toList {data:= #[103,108,111,98,97,108,46,103,101,116]})=false)(k8:cA m 112 [mV ty im fu ta me gl ex st el da cu,vI a] h2=some (LV.tup [aI i4,aB b5,aB b2,v1],h0))(k9:nE m v1 b3)(k10:b3=false)(k11:(!b2)=true):
 bB m 70 [mV ty im fu ta me gl ex st el da cu,vG (nC o a b v t l bd eb q),vI w] h=some ((vF 56 (aI (.ofNat 5)),h0)):=
 bY (qS [32,1099976] [21,1099991,1099988,1099985,56] [(2,1,(vB b1)),(9,1,(vB b3))] [(1,2,LV.tup [AV.agg [aI i2,aS s0,aI i0,aM l0,aI i1,aI i3,aB b4],v0],h1),(2,5,vB b0,h2),(8,4,LV.tup [aI i4,aB b5,aB b2,v1],h0)]) (tZ k0 (tA k1 (tZ k2 (uF2 (tA k3 (uF2 (tZ k4 (tZ k5 (uT4 (tZ k6 (tZ k7 (tA k8 (tA k9 (tZ k10 (uF2 (tZ k11 (tR ((vF 56 (aI (.ofNat 5)),h0))))))))))))))))))) (by kernel_rfl)
theorem QzE (k0:(Qav o,h)=(LV.tup [AV.agg [aI i3,aS s0,aI i0,aM l0,aI i1,aI i4,aB b4],v0],h1))(k1:nE m v0 b1)(k2:b1=false)(k3:cA m 19 [vM [nC o a b v t l bd eb q]] h1=some (vB b0,h2))(k4:(!b0)=false)(k5:eqZ i0 (.ofNat 10)=true)(k6:eqZ i1 w=false)(k7:(!ByteArray.toList s0==ByteArray.toList {data:= #[103,108,111,98,97,108,46,103,101,116]})=false)(k8:cA m 112 [mV ty im fu ta me gl ex st el da cu,vI a] h2=some (LV.tup [aI i2,aB b5,aB b2,v1],h0))(k9:nE m v1 b3)(k10:b3=false)(k11:(!b2)=false)(k12:(!eqZ i2 w)=true):
 bB m 70 [mV ty im fu ta me gl ex st el da cu,vG (nC o a b v t l bd eb q),vI w] h=some ((vF 56 (aI (.ofNat 4)),h0)):=
 bY (qS [32,1099973] [21,1099991,1099988,1099985,56,1099976] [(2,1,(vB b1)),(9,1,(vB b3))] [(1,2,LV.tup [AV.agg [aI i3,aS s0,aI i0,aM l0,aI i1,aI i4,aB b4],v0],h1),(2,5,vB b0,h2),(8,4,LV.tup [aI i2,aB b5,aB b2,v1],h0)]) (tZ k0 (tA k1 (tZ k2 (uF2 (tA k3 (uF2 (tZ k4 (tZ k5 (uT4 (tZ k6 (tZ k7 (tA k8 (tA k9 (tZ k10 (uF2 (tZ k11 (tZ k12 (tR ((vF 56 (aI (.ofNat 4)),h0)))))))))))))))))))) (by kernel_rfl)
theorem QzD (k0:(Qav o,h)=(LV.tup [AV.agg [aI i3,aS s0,aI i0,aM l0,aI i1,aI i4,aB b4],v0],h1))(k1:nE m v0 b1)(k2:b1=false)(k3:cA m 19 [vM [nC o a b v t l bd eb q]] h1=some (vB b0,h2))(k4:(!b0)=false)(k5:eqZ i0 (.ofNat 10)=true)(k6:eqZ i1 w=false)(k7:(!ByteArray.toList s0==ByteArray.toList {data:= #[103,108,111,98,97,108,46,103,101,116]})=false)(k8:cA m 112 [mV ty im fu ta me gl ex st el da cu,vI a] h2=some (LV.tup [aI i2,aB b5,aB b2,v1],h0))(k9:nE m v1 b3)(k10:b3=false)(k11:(!b2)=false)(k12:(!eqZ i2 w)=false):
 bB m 70 [mV ty im fu ta me gl ex st el da cu,vG (nC o a b v t l bd eb q),vI w] h=some ((LV.v AV.nilI,h0)):=
 bY (qS [32] [21,1099991,1099988,1099985,56,1099976,1099973] [(2,1,(vB b1)),(9,1,(vB b3))] [(1,2,LV.tup [AV.agg [aI i3,aS s0,aI i0,aM l0,aI i1,aI i4,aB b4],v0],h1),(2,5,vB b0,h2),(8,4,LV.tup [aI i2,aB b5,aB b2,v1],h0)]) (tZ k0 (tA k1 (tZ k2 (uF2 (tA k3 (uF2 (tZ k4 (tZ k5 (uT4 (tZ k6 (tZ k7 (tA k8 (tA k9 (tZ k10 (uF2 (tZ k11 (tZ k12 (tR ((LV.v AV.nilI,h0)))))))))))))))))))) (by kernel_rfl)
theorem QzC (k0:(Qav o,h)=(LV.tup [AV.agg [aI i1,aS s0,aI i0,aM l0,aI i2,aI i3,aB b2],v0],h1))(k1:nE m v0 b1)(k2:b1=false)(k3:cA m 19 [vM [nC o a b v t l bd eb q]] h1=some (vB b0,h0))(k4:(!b0)=false)(k5:eqZ i0 (.ofNat 10)=false)(k6:(!ByteArray.toList s0==ByteArray.toList {data:= #[103,108,111,98,97,108,46,103,101,116]})=true):
 bB m 70 [mV ty im fu ta me gl ex st el da cu,vG (nC o a b v t l bd eb q),vI w] h=some ((vF 56 (aI (.ofNat 4)),h0)):=
 bY (qS [1099985] [21,1099991,32] [(2,1,(vB b1))] [(1,2,LV.tup [AV.agg [aI i1,aS s0,aI i0,aM l0,aI i2,aI i3,aB b2],v0],h1),(2,5,vB b0,h0)]) (tZ k0 (tA k1 (tZ k2 (uF2 (tA k3 (uF2 (tZ k4 (tZ k5 (uF4 (tZ k6 (tR ((vF 56 (aI (.ofNat 4)),h0))))))))))))) (by kernel_rfl)
theorem QzB (k0:(Qav o,h)=(LV.tup [AV.agg [aI i1,aS s0,aI i0,aM l0,aI i2,aI i3,aB b3],v0],h1))(k1:nE m v0 b1)(k2:b1=false)(k3:cA m 19 [vM [nC o a b v t l bd eb q]] h1=some (vB b0,h2))(k4:(!b0)=false)(k5:eqZ i0 (.ofNat 10)=false)(k6:(!ByteArray.toList s0==ByteArray.toList {data:= #[103,108,111,98,97,108,46,103,101,116]})=false)(k7:cA m 112 [mV ty im fu ta me gl ex st el da cu,vI a] h2=some (LV.tup [aI i4,aB b4,aB b5,v1],h0))(k8:nE m v1 b2)(k9:b2=true):
 bB m 70 [mV ty im fu ta me gl ex st el da cu,vG (nC o a b v t l bd eb q),vI w] h=some ((vF 56 (aI (.ofNat 5)),h0)):=
 bY (qS [56] [21,1099991,32,1099985] [(2,1,(vB b1)),(9,1,(vB b2))] [(1,2,LV.tup [AV.agg [aI i1,aS s0,aI i0,aM l0,aI i2,aI i3,aB b3],v0],h1),(2,5,vB b0,h2),(8,4,LV.tup [aI i4,aB b4,aB b5,v1],h0)]) (tZ k0 (tA k1 (tZ k2 (uF2 (tA k3 (uF2 (tZ k4 (tZ k5 (uF4 (tZ k6 (tA k7 (tA k8 (tZ k9 (uT2 (tR ((vF 56 (aI (.ofNat 5)),h0))))))))))))))))) (by kernel_rfl)
theorem QuA (k0:(Qav o,h)=(LV.tup [AV.agg [aI i1,aS s0,aI i0,aM l0,aI i2,aI i3,aB b4],v0],h1))(k1:nE m v0 b1)(k2:b1=false)(k3:cA m 19 [vM [nC o a b v t l bd eb q]] h1=some (vB b0,h2))(k4:(!b0)=false)(k5:eqZ i0 (.ofNat 10)=false)(k6:(!ByteArray.toList s0==ByteArray.toList {data:= #[103,108,111,98,97,108,46,103,101,116]})=false)(k7:cA m 112 [mV ty im fu ta me gl ex st el da cu,vI a] h2=some (LV.tup [aI i4,aB b5,aB b2,v1],h0))(k8:nE m v1 b3)(k9:b3=false)(k10:(!b2)=true):
 bB m 70 [mV ty im fu ta me gl ex st el da cu,vG (nC o a b v t l bd eb q),vI w] h=some ((vF 56 (aI (.ofNat 5)),h0)):=
 bY (qS [1099976] [21,1099991,32,1099985,56] [(2,1,(vB b1)),(9,1,(vB b3))] [(1,2,LV.tup [AV.agg [aI i1,aS s0,aI i0,aM l0,aI i2,aI i3,aB b4],v0],h1),(2,5,vB b0,h2),(8,4,LV.tup [aI i4,aB b5,aB b2,v1],h0)]) (tZ k0 (tA k1 (tZ k2 (uF2 (tA k3 (uF2 (tZ k4 (tZ k5 (uF4 (tZ k6 (tA k7 (tA k8 (tZ k9 (uF2 (tZ k10 (tR ((vF 56 (aI (.ofNat 5)),h0)))))))))))))))))) (by kernel_rfl)
theorem Quz (k0:(Qav o,h)=(LV.tup [AV.agg [aI i2,aS s0,aI i0,aM l0,aI i3,aI i4,aB b4],v0],h1))(k1:nE m v0 b1)(k2:b1=false)(k3:cA m 19 [vM [nC o a b v t l bd eb q]] h1=some (vB b0,h2))(k4:(!b0)=false)(k5:eqZ i0 (.ofNat 10)=false)(k6:(!ByteArray.toList s0==ByteArray.toList {data:= #[103,108,111,98,97,108,46,103,101,116]})=false)(k7:cA m 112 [mV ty im fu ta me gl ex st el da cu,vI a] h2=some (LV.tup [aI i1,aB b5,aB b2,v1],h0))(k8:nE m v1 b3)(k9:b3=false)(k10:(!b2)=false)(k11:(!eqZ i1 w)=true):
 bB m 70 [mV ty im fu ta me gl ex st el da cu,vG (nC o a b v t l bd eb q),vI w] h=some ((vF 56 (aI (.ofNat 4)),h0)):=
 bY (qS [1099973] [21,1099991,32,1099985,56,1099976] [(2,1,(vB b1)),(9,1,(vB b3))] [(1,2,LV.tup [AV.agg [aI i2,aS s0,aI i0,aM l0,aI i3,aI i4,aB b4],v0],h1),(2,5,vB b0,h2),(8,4,LV.tup [aI i1,aB b5,aB b2,v1],h0)]) (tZ k0 (tA k1 (tZ k2 (uF2 (tA k3 (uF2 (tZ k4 (tZ k5 (uF4 (tZ k6 (tA k7 (tA k8 (tZ k9 (uF2 (tZ k10 (tZ k11 (tR ((vF 56 (aI (.ofNat 4)),h0))))))))))))))))))) (by kernel_rfl)
theorem Quy (k0:(Qav o,h)=(LV.tup [AV.agg [aI i2,aS s0,aI i0,aM l0,aI i3,aI i4,aB b4],v0],h1))(k1:nE m v0 b1)(k2:b1=false)(k3:cA m 19 [vM [nC o a b v t l bd eb q]] h1=some (vB b0,h2))(k4:(!b0)=false)(k5:eqZ i0 (.ofNat 10)=false)(k6:(!ByteArray.toList s0==ByteArray.toList {data:= #[103,108,111,98,97,108,46,103,101,116]})=false)(k7:cA m 112 [mV ty im fu ta me gl ex st el da cu,vI a] h2=some (LV.tup [aI i1,aB b5,aB b2,v1],h0))(k8:nE m v1 b3)(k9:b3=false)(k10:(!b2)=false)(k11:(!eqZ i1 w)=false):
 bB m 70 [mV ty im fu ta me gl ex st el da cu,vG (nC o a b v t l bd eb q),vI w] h=some ((LV.v AV.nilI,h0)):=
 bY (qS [] [21,1099991,32,1099985,56,1099976,1099973] [(2,1,(vB b1)),(9,1,(vB b3))] [(1,2,LV.tup [AV.agg [aI i2,aS s0,aI i0,aM l0,aI i3,aI i4,aB b4],v0],h1),(2,5,vB b0,h2),(8,4,LV.tup [aI i1,aB b5,aB b2,v1],h0)]) (tZ k0 (tA k1 (tZ k2 (uF2 (tA k3 (uF2 (tZ k4 (tZ k5 (uF4 (tZ k6 (tA k7 (tA k8 (tZ k9 (uF2 (tZ k10 (tZ k11 (tR ((LV.v AV.nilI,h0))))))))))))))))))) (by kernel_rfl)
end Go.Proofs.YtoblgjmllmomhaaGreatDoor
namespace Go.Proofs.YtoblgjmllmomhaaGreatDoor
set_option maxRecDepth 100000
open Go Go.Proofs.Am
variable {m st k t lo hi x o a b v i0 i1:Int} {ty im fu ta me gl ex el da cu y l bd eb f xs:LL} {h h0 h1 h2:Heap} {mo na:ByteArray} {mu has q b0 b1 b2:Bool}
def mxZ (x y:Int):Int:=bif decide (y>x)then y else x
theorem Qvh (k0:leZ (.ofNat ty.length) (.ofNat 64)=true):
 bB m 107 [mV ty im fu ta me gl ex st el da cu] h=some ((vB (leZ (mxZ (mxZ (mxZ (mxZ (mxZ (mxZ (mxZ (mxZ (.ofNat im.length) (.ofNat fu.length)) (.ofNat ta.length)) (.ofNat me.length)) (.ofNat gl.length)) (.ofNat ex.length)) (.ofNat el.length)) (.ofNat da.length)) (.ofNat cu.length)) (.ofNat 64)),h)):=
 bY (qS [36] [] [] []) (tZ k0 (uT2 (tR ((vB (leZ (mxZ (mxZ (mxZ (mxZ (mxZ (mxZ (mxZ (mxZ (.ofNat im.length) (.ofNat fu.length)) (.ofNat ta.length)) (.ofNat me.length)) (.ofNat gl.length)) (.ofNat ex.length)) (.ofNat el.length)) (.ofNat da.length)) (.ofNat cu.length)) (.ofNat 64)),h))))) (by kernel_rfl)
theorem Qvg (k0:leZ (.ofNat ty.length) (.ofNat 64)=false):
 bB m 107 [mV ty im fu ta me gl ex st el da cu] h=some ((vB false,h)):=
 bY (qS [] [36] [] []) (tZ k0 (uF2 (tR ((vB false,h))))) (by kernel_rfl)
theorem Qvc (k0:cA m 128 [vM im,LV.v (AV.fn 129 [] [])] h=some (vB b0,h0))(k1:b0=true):
 bB m 109 [mV ty im fu ta me gl ex st el da cu] h=some ((vB false,h0)):=
 bY (qS [8] [] [] [(1,2,vB b0,h0)]) (tA k0 (tZ k1 (uT3 (tR ((vB false,h0)))))) (by kernel_rfl)
theorem Qvb (k0:cA m 128 [vM im,LV.v (AV.fn 129 [] [])] h=some (vB b1,h1))(k1:b1=false)(k2:cA m 74 [vM ex,LV.v (AV.fn 130 [] [])] h1=some (vB b2,h2))(k3:(!b2)=true)(k4:cA m 131 [vM cu,LV.v (AV.fn 132 [] [])] h2=some (vB b0,h0)):
 bB m 109 [mV ty im fu ta me gl ex st el da cu] h=some ((vB !b0,h0)):=
 bY (qS [15] [8] [] [(1,2,vB b1,h1),(2,4,vB b2,h2),(3,5,vB b0,h0)]) (tA k0 (tZ k1 (uF2 (tA k2 (tA tF (tZ k3 (uT2 (tA k4 (uT2 (tR ((vB !b0,h0)))))))))))) (by kernel_rfl)
theorem Qva (k0:cA m 128 [vM im,LV.v (AV.fn 129 [] [])] h=some (vB b1,h1))(k1:b1=false)(k2:cA m 74 [vM ex,LV.v (AV.fn 130 [] [])] h1=some (vB b0,h0))(k3:(!b0)=false):
 bB m 109 [mV ty im fu ta me gl ex st el da cu] h=some ((vB false,h0)):=
 bY (qS [] [8,15] [] [(1,2,vB b1,h1),(2,4,vB b0,h0)]) (tA k0 (tZ k1 (uF2 (tA k2 (tA tF (tZ k3 (uF4 (tR ((vB false,h0)))))))))) (by kernel_rfl)
theorem Qu9 (k0:cA m 133 [vM el,LV.v (AV.fn 134 [] [])] h=some (vB b1,h1))(k1:(!b1)=true)(k2:cA m 135 [vM da,LV.v (AV.fn 136 [] [])] h1=some (vB b0,h0)):
 bB m 110 [mV ty im fu ta me gl ex st el da cu] h=some ((vB !b0,h0)):=
 bY (qS [9] [] [] [(1,2,vB b1,h1),(2,5,vB b0,h0)]) (tA k0 (tZ k1 (uT2 (tA k2 (uT2 (tR ((vB !b0,h0)))))))) (by kernel_rfl)
theorem Qu8 (k0:cA m 133 [vM el,LV.v (AV.fn 134 [] [])] h=some (vB b0,h0))(k1:(!b0)=false):
 bB m 110 [mV ty im fu ta me gl ex st el da cu] h=some ((vB false,h0)):=
 bY (qS [] [9] [] [(1,2,vB b0,h0)]) (tA k0 (tZ k1 (uF4 (tR ((vB false,h0)))))) (by kernel_rfl)
theorem Qu3 (k0:ltZ (.ofNat 64) (.ofNat (ByteArray.size mo))=true):
 bB m 129 [vG [aS mo,aS na,aI k,aI t,aB mu,aI lo,aI hi,aB has]] h=some ((vB true,h)):=
 bY (qS [7] [] [] []) (tZ k0 (uT4 (tR ((vB true,h))))) (by kernel_rfl)
theorem Qu2 (k0:ltZ (.ofNat 64) (.ofNat (ByteArray.size mo))=false):
 bB m 129 [vG [aS mo,aS na,aI k,aI t,aB mu,aI lo,aI hi,aB has]] h=some ((vB (ltZ (.ofNat 64) (.ofNat (ByteArray.size na))),h)):=
 bY (qS [] [7] [] []) (tZ k0 (uF4 (tR ((vB (ltZ (.ofNat 64) (.ofNat (ByteArray.size na))),h))))) (by kernel_rfl)
theorem Qu1:
 bB m 130 [vG [aS na,aI k,aI x]] h=some ((vB (ltZ (.ofNat 64) (.ofNat (ByteArray.size na))),h)):=
 bY (qS [] [] [] []) (tR ((vB (ltZ (.ofNat 64) (.ofNat (ByteArray.size na))),h))) (by kernel_rfl)
theorem QuZ (k0:ltZ (.ofNat 64) (.ofNat (ByteArray.size na))=true):
 bB m 132 [vG [aS na,aM y]] h=some ((vB true,h)):=
 bY (qS [7] [] [] []) (tZ k0 (uT4 (tR ((vB true,h))))) (by kernel_rfl)
theorem QuY (k0:ltZ (.ofNat 64) (.ofNat (ByteArray.size na))=false):
 bB m 132 [vG [aS na,aM y]] h=some ((vB (ltZ (.ofNat 4096) (.ofNat y.length)),h)):=
 bY (qS [] [7] [] []) (tZ k0 (uF4 (tR ((vB (ltZ (.ofNat 4096) (.ofNat y.length)),h))))) (by kernel_rfl)
theorem QuW (k0:ltZ (.ofNat 64) (.ofNat f.length)=true):
 bB m 134 [vG [aI o,aI a,aI b,.int .u64 v,aI t,aM l,aM bd,aM eb,aB q,aM f]] h=some ((vB true,h)):=
 bY (qS [7] [] [] []) (tZ k0 (uT5 (tR ((vB true,h))))) (by kernel_rfl)
theorem QuV (k0:ltZ (.ofNat 64) (.ofNat f.length)=false)(k1:cA m 108 [vM [nC o a b v t l bd eb q]] h=some (vB b0,h0)):
 bB m 134 [vG [aI o,aI a,aI b,.int .u64 v,aI t,aM l,aM bd,aM eb,aB q,aM f]] h=some ((vB !b0,h0)):=
 bY (qS [] [7] [] [(1,8,vB b0,h0)]) (tZ k0 (uF3 (tA k1 (uF2 (tR ((vB !b0,h0))))))) (by kernel_rfl)
theorem QuT (k0:ltZ (.ofNat 4096) (.ofNat y.length)=true):
 bB m 136 [vG [aI o,aI a,aI b,.int .u64 v,aI t,aM l,aM bd,aM eb,aB q,aM y]] h=some ((vB true,h)):=
 bY (qS [7] [] [] []) (tZ k0 (uT5 (tR ((vB true,h))))) (by kernel_rfl)
theorem QuS (k0:ltZ (.ofNat 4096) (.ofNat y.length)=false)(k1:cA m 108 [vM [nC o a b v t l bd eb q]] h=some (vB b0,h0)):
 bB m 136 [vG [aI o,aI a,aI b,.int .u64 v,aI t,aM l,aM bd,aM eb,aB q,aM y]] h=some ((vB !b0,h0)):=
 bY (qS [] [7] [] [(1,8,vB b0,h0)]) (tZ k0 (uF3 (tA k1 (uF2 (tR ((vB !b0,h0))))))) (by kernel_rfl)
theorem QuP (k0:ltZ (.ofNat 64) (.ofNat l.length)=true):
 bB m 150 [vG (nC o a b v t l bd eb q)] h=some ((vB true,h)):=
 bY (qS [7] [] [] []) (tZ k0 (uT4 (tR ((vB true,h))))) (by kernel_rfl)
theorem QuO (k0:ltZ (.ofNat 64) (.ofNat l.length)=false)(k1:cA m 127 [vM bd] h=some (vB b0,h0))(k2:(!b0)=true):
 bB m 150 [vG (nC o a b v t l bd eb q)] h=some ((vB true,h0)):=
 bY (qS [13] [7] [] [(1,7,vB b0,h0)]) (tZ k0 (uF2 (tA k1 (uF2 (tZ k2 (uT4 (tR ((vB true,h0))))))))) (by kernel_rfl)
theorem QuN (k0:ltZ (.ofNat 64) (.ofNat l.length)=false)(k1:cA m 127 [vM bd] h=some (vB b1,h1))(k2:(!b1)=false)(k3:cA m 127 [vM eb] h1=some (vB b0,h0)):
 bB m 150 [vG (nC o a b v t l bd eb q)] h=some ((vB !b0,h0)):=
 bY (qS [] [7,13] [] [(1,7,vB b1,h1),(1,13,vB b0,h0)]) (tZ k0 (uF2 (tA k1 (uF2 (tZ k2 (uF2 (tA k3 (uF2 (tR ((vB !b0,h0))))))))))) (by kernel_rfl)
theorem QuR (k0:leZ (.ofNat 2) o=true):
 bB m 149 [vG (nC o a b v t l bd eb q)] h=some ((vB (leZ o (.ofNat 4)),h)):=
 bY (qS [6] [] [] []) (tZ k0 (uT3 (tR ((vB (leZ o (.ofNat 4)),h))))) (by kernel_rfl)
theorem QuQ (k0:leZ (.ofNat 2) o=false):
 bB m 149 [vG (nC o a b v t l bd eb q)] h=some ((vB false,h)):=
 bY (qS [] [6] [] []) (tZ k0 (uF3 (tR ((vB false,h))))) (by kernel_rfl)
theorem Qu5 (k0:cA m 42 [vM xs,LV.v (AV.fn 150 [] [])] h=some (vB b0,h0)):
 bB m 127 [vM xs] h=some ((vB !b0,h0)):=
 bY (qS [] [] [] [(1,1,vB b0,h0)]) (tA k0 (tR ((vB !b0,h0)))) (by kernel_rfl)
theorem Qvf (k0:cA m 126 [vM xs] h=some (LV.tup [aI i0,aI i1],h1))(k1:leZ i0 (.ofNat 512)=true)(k2:leZ i1 (.ofNat 32)=true)(k3:cA m 127 [vM xs] h1=some (vB b0,h0)):
 bB m 108 [vM xs] h=some ((vB b0,h0)):=
 bY (qS [12,16] [] [] [(1,1,LV.tup [aI i0,aI i1],h1),(2,8,vB b0,h0)]) (tA k0 (tZ k1 (uT2 (tZ k2 (tA tT (tA k3 (tA tT (tR ((vB b0,h0)))))))))) (by kernel_rfl)
theorem Qve (k0:cA m 126 [vM xs] h=some (LV.tup [aI i0,aI i1],h0))(k1:leZ i0 (.ofNat 512)=true)(k2:leZ i1 (.ofNat 32)=false):
 bB m 108 [vM xs] h=some ((vB false,h0)):=
 bY (qS [12] [16] [] [(1,1,LV.tup [aI i0,aI i1],h0)]) (tA k0 (tZ k1 (uT2 (tZ k2 (uF2 (tR ((vB false,h0)))))))) (by kernel_rfl)
theorem Qvd (k0:cA m 126 [vM xs] h=some (LV.tup [aI i0,aI i1],h0))(k1:leZ i0 (.ofNat 512)=false):
 bB m 108 [vM xs] h=some ((vB false,h0)):=
 bY (qS [] [12] [] [(1,1,LV.tup [aI i0,aI i1],h0)]) (tA k0 (tZ k1 (uF2 (tR ((vB false,h0)))))) (by kernel_rfl)
end Go.Proofs.YtoblgjmllmomhaaGreatDoor
namespace Go.Proofs.YtoblgjmllmomhaaGreatDoor
set_option maxRecDepth 100000
open Go Go.Proofs.Am
variable {m c d n i0 i1 i2 i3 i4 i5 i6 i7 i8:Int} {xs l0 l1 l2:LL} {h h0 h1 h2:Heap} {r:LV×Heap} {i:Nat} {b0 b1:Bool}
theorem Qu6 (k0:bA m 126 3 [vI (.ofNat 0),vI (.ofNat 0),vM xs,vI (.ofNat xs.length),vI (.ofNat 0)] h=some r):
 bB m 126 [vM xs] h=some r:=
 bY (qS [] [] [] []) (tA t1 (k0)) (by kernel_rfl)
theorem Qnb (k0:ltZ (Int.ofNat i) n=true)(k1:ixA (aM xs) (Int.ofNat i) 9=some (nC i2 i3 i4 i5 i6 l2 l0 l1 b1))(k2:cA m 126 [vM l0] h=some (LV.tup [aI i7,aI i0],h0))(k3:cA m 126 [vM l1] h0=some (LV.tup [aI i8,aI i1],h1))(k4:cA m 149 [vG (nC i2 i3 i4 i5 i6 l2 l0 l1 b1)] h1=some (vB b0,h2))(k5:b0=true)(k6:bA m 126 3 [vI (IntKind.wrap .i64 (c+IntKind.wrap .i64 (IntKind.wrap .i64 (Int.ofNat 1+i7)+i8))),vI (bif decide (IntKind.wrap .i64 (1+i1)>bif decide (IntKind.wrap .i64 (1+i0)>d)then IntKind.wrap .i64 (1+i0)else d)then IntKind.wrap .i64 (Int.ofNat 1+i1)else bif decide (IntKind.wrap .i64 (1+i0)>d)then IntKind.wrap .i64 (Int.ofNat 1+i0)else d),vM xs,vI n,vI (IntKind.wrap .i64 (Int.ofNat (Nat.succ i)))] h2=some r):
 bA m 126 3 [vI c,vI d,vM xs,vI n,vI (Int.ofNat i)] h=some r:=
 bY (qS [1099997,1099983] [] [(4,0,(LV.v (AV.snap (nC i2 i3 i4 i5 i6 l2 l0 l1 b1))))] [(5,2,LV.tup [aI i7,aI i0],h0),(6,2,LV.tup [aI i8,aI i1],h1),(8,1,vB b0,h2)]) (tZ k0 (tA (tA t0 (tA tN (k1))) (tA k2 (tA k3 (tA k4 (tZ k5 (tA t1 (k6)))))))) (by kernel_rfl)
theorem Qna (k0:ltZ (.ofNat i) n=true)(k1:ixA (aM xs) (.ofNat i) 9=some (nC i0 i1 i2 i3 i4 l2 l0 l1 b1))(k2:cA m 126 [vM l0] h=some (LV.tup [aI i5,aI i7],h0))(k3:cA m 126 [vM l1] h0=some (LV.tup [aI i6,aI i8],h1))(k4:cA m 149 [vG (nC i0 i1 i2 i3 i4 l2 l0 l1 b1)] h1=some (vB b0,h2))(k5:b0=false)(k6:bA m 126 3 [vI (IntKind.wrap .i64 (c+IntKind.wrap .i64 (IntKind.wrap .i64 (Int.ofNat 1+i5)+i6))),vI d,vM xs,vI n,vI (IntKind.wrap .i64 (.ofNat (Nat.succ i)))] h2=some r):
 bA m 126 3 [vI c,vI d,vM xs,vI n,vI (.ofNat i)] h=some r:=
 bY (qS [1099997] [1099983] [(4,0,(LV.v (AV.snap (nC i0 i1 i2 i3 i4 l2 l0 l1 b1))))] [(5,2,LV.tup [aI i5,aI i7],h0),(6,2,LV.tup [aI i6,aI i8],h1),(8,1,vB b0,h2)]) (tZ k0 (tA (tA t0 (tA tN (k1))) (tA k2 (tA k3 (tA k4 (tZ k5 (tA t1 (k6)))))))) (by kernel_rfl)
theorem Qm9 (k0:ltZ (.ofNat i) n=false):
 bA m 126 3 [vI c,vI d,vM xs,vI n,vI (.ofNat i)] h=some ((LV.tup [aI c,aI d],h)):=
 bY (qS [] [1099997] [] []) (tZ k0 (tR ((LV.tup [aI c,aI d],h)))) (by kernel_rfl)
end Go.Proofs.YtoblgjmllmomhaaGreatDoor
namespace Go.Proofs.YtoblgjmllmomhaaGreatDoor
set_option maxRecDepth 100000
open Go Go.Proofs.Am
variable {m n i0 i1 i2 i3 i4:Int} {xs l0 l1 l2 l3:LL} {fv:AV} {h h0:Heap} {r:LV×Heap} {i:Nat} {b0 b1 b2:Bool} {s0 s1:ByteArray}
theorem Qu4 (k0:cA m 151 [vM xs,LV.v fv] h=some (vI i0,h0)):
 bB m 128 [vM xs,.v fv] h=some ((vB (leZ (.ofNat 0) i0),h0)):=
 bY (qS [] [] [] [(1,2,vI i0,h0)]) (tA k0 (tR ((vB (leZ (.ofNat 0) i0),h0)))) (by kernel_rfl)
theorem QuM (k0:bA m 151 2 [vM xs,LV.v fv,vI (.ofNat xs.length),vI (.ofNat 0)] h=some r):
 bB m 151 [vM xs,.v fv] h=some r:=
 bY (qS [] [] [] []) (tA t1 (k0)) (by kernel_rfl)
theorem Qm8 (k0:ltZ (.ofNat i) n=true)(k1:ixA (aM xs) (.ofNat i) 8=some [aS s0,aS s1,aI i0,aI i1,aB b1,aI i2,aI i3,aB b2])(k2:cV m fv [vG [aS s0,aS s1,aI i0,aI i1,aB b1,aI i2,aI i3,aB b2]] h=some (vB b0,h0))(k3:b0=true):
 bA m 151 2 [vM xs,.v fv,vI n,vI (.ofNat i)] h=some ((vI (.ofNat i),h0)):=
 bY (qS [1099997,1099989] [] [(4,3,(LV.v (AV.snap [aS s0,aS s1,aI i0,aI i1,aB b1,aI i2,aI i3,aB b2])))] [(4,5,vB b0,h0)]) (tZ k0 (tA (tA t0 (tA tN (k1))) (tA k2 (tZ k3 (tR ((vI (.ofNat i),h0))))))) (by kernel_rfl)
theorem Qm7 (k0:ltZ (.ofNat i) n=true)(k1:ixA (aM xs) (.ofNat i) 8=some [aS s0,aS s1,aI i0,aI i1,aB b1,aI i2,aI i3,aB b2])(k2:cV m fv [vG [aS s0,aS s1,aI i0,aI i1,aB b1,aI i2,aI i3,aB b2]] h=some (vB b0,h0))(k3:b0=false)(k4:bA m 151 2 [vM xs,LV.v fv,vI n,vI (IntKind.wrap .i64 (.ofNat (Nat.succ i)))] h0=some r):
 bA m 151 2 [vM xs,.v fv,vI n,vI (.ofNat i)] h=some r:=
 bY (qS [1099997] [1099989] [(4,3,(LV.v (AV.snap [aS s0,aS s1,aI i0,aI i1,aB b1,aI i2,aI i3,aB b2])))] [(4,5,vB b0,h0)]) (tZ k0 (tA (tA t0 (tA tN (k1))) (tA k2 (tZ k3 (tA t1 (k4)))))) (by kernel_rfl)
theorem Qm6 (k0:ltZ (.ofNat i) n=false):
 bA m 151 2 [vM xs,.v fv,vI n,vI (.ofNat i)] h=some ((vI (Int.negSucc 0),h)):=
 bY (qS [] [1099997] [] []) (tZ k0 (tR ((vI (Int.negSucc 0),h)))) (by kernel_rfl)
theorem Qu0 (k0:cA m 152 [vM xs,LV.v fv] h=some (vI i0,h0)):
 bB m 131 [vM xs,.v fv] h=some ((vB (leZ (.ofNat 0) i0),h0)):=
 bY (qS [] [] [] [(1,2,vI i0,h0)]) (tA k0 (tR ((vB (leZ (.ofNat 0) i0),h0)))) (by kernel_rfl)
theorem QuL (k0:bA m 152 2 [vM xs,LV.v fv,vI (.ofNat xs.length),vI (.ofNat 0)] h=some r):
 bB m 152 [vM xs,.v fv] h=some r:=
 bY (qS [] [] [] []) (tA t1 (k0)) (by kernel_rfl)
theorem Qm5 (k0:ltZ (.ofNat i) n=true)(k1:ixA (aM xs) (.ofNat i) 2=some [aS s0,aM l0])(k2:cV m fv [vG [aS s0,aM l0]] h=some (vB b0,h0))(k3:b0=true):
 bA m 152 2 [vM xs,.v fv,vI n,vI (.ofNat i)] h=some ((vI (.ofNat i),h0)):=
 bY (qS [1099997,1099989] [] [(4,3,(LV.v (AV.snap [aS s0,aM l0])))] [(4,5,vB b0,h0)]) (tZ k0 (tA (tA t0 (tA tN (k1))) (tA k2 (tZ k3 (tR ((vI (.ofNat i),h0))))))) (by kernel_rfl)
theorem Qm4 (k0:ltZ (.ofNat i) n=true)(k1:ixA (aM xs) (.ofNat i) 2=some [aS s0,aM l0])(k2:cV m fv [vG [aS s0,aM l0]] h=some (vB b0,h0))(k3:b0=false)(k4:bA m 152 2 [vM xs,LV.v fv,vI n,vI (IntKind.wrap .i64 (.ofNat (Nat.succ i)))] h0=some r):
 bA m 152 2 [vM xs,.v fv,vI n,vI (.ofNat i)] h=some r:=
 bY (qS [1099997] [1099989] [(4,3,(LV.v (AV.snap [aS s0,aM l0])))] [(4,5,vB b0,h0)]) (tZ k0 (tA (tA t0 (tA tN (k1))) (tA k2 (tZ k3 (tA t1 (k4)))))) (by kernel_rfl)
theorem Qm3 (k0:ltZ (.ofNat i) n=false):
 bA m 152 2 [vM xs,.v fv,vI n,vI (.ofNat i)] h=some ((vI (Int.negSucc 0),h)):=
 bY (qS [] [1099997] [] []) (tZ k0 (tR ((vI (Int.negSucc 0),h)))) (by kernel_rfl)
theorem QuX (k0:cA m 153 [vM xs,LV.v fv] h=some (vI i0,h0)):
 bB m 133 [vM xs,.v fv] h=some ((vB (leZ (.ofNat 0) i0),h0)):=
 bY (qS [] [] [] [(1,2,vI i0,h0)]) (tA k0 (tR ((vB (leZ (.ofNat 0) i0),h0)))) (by kernel_rfl)
theorem QuK (k0:bA m 153 2 [vM xs,LV.v fv,vI (.ofNat xs.length),vI (.ofNat 0)] h=some r):
 bB m 153 [vM xs,.v fv] h=some r:=
 bY (qS [] [] [] []) (tA t1 (k0)) (by kernel_rfl)
theorem Qm2 (k0:ltZ (.ofNat i) n=true)(k1:ixA (aM xs) (.ofNat i) 10=some [aI i0,aI i1,aI i2,AV.int IntKind.u64 i3,aI i4,aM l0,aM l1,aM l2,aB b1,aM l3])(k2:cV m fv [vG [aI i0,aI i1,aI i2,AV.int IntKind.u64 i3,aI i4,aM l0,aM l1,aM l2,aB b1,aM l3]] h=some (vB b0,h0))(k3:b0=true):
 bA m 153 2 [vM xs,.v fv,vI n,vI (.ofNat i)] h=some ((vI (.ofNat i),h0)):=
 bY (qS [1099997,1099989] [] [(4,3,(LV.v (AV.snap [aI i0,aI i1,aI i2,AV.int IntKind.u64 i3,aI i4,aM l0,aM l1,aM l2,aB b1,aM l3])))] [(4,5,vB b0,h0)]) (tZ k0 (tA (tA t0 (tA tN (k1))) (tA k2 (tZ k3 (tR ((vI (.ofNat i),h0))))))) (by kernel_rfl)
theorem Qm1 (k0:ltZ (.ofNat i) n=true)(k1:ixA (aM xs) (.ofNat i) 10=some [aI i0,aI i1,aI i2,AV.int IntKind.u64 i3,aI i4,aM l0,aM l1,aM l2,aB b1,aM l3])(k2:cV m fv [vG [aI i0,aI i1,aI i2,AV.int IntKind.u64 i3,aI i4,aM l0,aM l1,aM l2,aB b1,aM l3]] h=some (vB b0,h0))(k3:b0=false)(k4:bA m 153 2 [vM xs,LV.v fv,vI n,vI (IntKind.wrap .i64 (.ofNat (Nat.succ i)))] h0=some r):
 bA m 153 2 [vM xs,.v fv,vI n,vI (.ofNat i)] h=some r:=
 bY (qS [1099997] [1099989] [(4,3,(LV.v (AV.snap [aI i0,aI i1,aI i2,AV.int IntKind.u64 i3,aI i4,aM l0,aM l1,aM l2,aB b1,aM l3])))] [(4,5,vB b0,h0)]) (tZ k0 (tA (tA t0 (tA tN (k1))) (tA k2 (tZ k3 (tA t1 (k4)))))) (by kernel_rfl)
theorem Qm0 (k0:ltZ (.ofNat i) n=false):
 bA m 153 2 [vM xs,.v fv,vI n,vI (.ofNat i)] h=some ((vI (Int.negSucc 0),h)):=
 bY (qS [] [1099997] [] []) (tZ k0 (tR ((vI (Int.negSucc 0),h)))) (by kernel_rfl)
theorem QuU (k0:cA m 154 [vM xs,LV.v fv] h=some (vI i0,h0)):
 bB m 135 [vM xs,.v fv] h=some ((vB (leZ (.ofNat 0) i0),h0)):=
 bY (qS [] [] [] [(1,2,vI i0,h0)]) (tA k0 (tR ((vB (leZ (.ofNat 0) i0),h0)))) (by kernel_rfl)
theorem QuJ (k0:bA m 154 2 [vM xs,LV.v fv,vI (.ofNat xs.length),vI (.ofNat 0)] h=some r):
 bB m 154 [vM xs,.v fv] h=some r:=
 bY (qS [] [] [] []) (tA t1 (k0)) (by kernel_rfl)
theorem QmZ (k0:ltZ (.ofNat i) n=true)(k1:ixA (aM xs) (.ofNat i) 10=some [aI i0,aI i1,aI i2,AV.int IntKind.u64 i3,aI i4,aM l0,aM l1,aM l2,aB b1,aM l3])(k2:cV m fv [vG [aI i0,aI i1,aI i2,AV.int IntKind.u64 i3,aI i4,aM l0,aM l1,aM l2,aB b1,aM l3]] h=some (vB b0,h0))(k3:b0=true):
 bA m 154 2 [vM xs,.v fv,vI n,vI (.ofNat i)] h=some ((vI (.ofNat i),h0)):=
 bY (qS [1099997,1099989] [] [(4,3,(LV.v (AV.snap [aI i0,aI i1,aI i2,AV.int IntKind.u64 i3,aI i4,aM l0,aM l1,aM l2,aB b1,aM l3])))] [(4,5,vB b0,h0)]) (tZ k0 (tA (tA t0 (tA tN (k1))) (tA k2 (tZ k3 (tR ((vI (.ofNat i),h0))))))) (by kernel_rfl)
theorem QmY (k0:ltZ (.ofNat i) n=true)(k1:ixA (aM xs) (.ofNat i) 10=some [aI i0,aI i1,aI i2,AV.int IntKind.u64 i3,aI i4,aM l0,aM l1,aM l2,aB b1,aM l3])(k2:cV m fv [vG [aI i0,aI i1,aI i2,AV.int IntKind.u64 i3,aI i4,aM l0,aM l1,aM l2,aB b1,aM l3]] h=some (vB b0,h0))(k3:b0=false)(k4:bA m 154 2 [vM xs,LV.v fv,vI n,vI (IntKind.wrap .i64 (.ofNat (Nat.succ i)))] h0=some r):
 bA m 154 2 [vM xs,.v fv,vI n,vI (.ofNat i)] h=some r:=
 bY (qS [1099997] [1099989] [(4,3,(LV.v (AV.snap [aI i0,aI i1,aI i2,AV.int IntKind.u64 i3,aI i4,aM l0,aM l1,aM l2,aB b1,aM l3])))] [(4,5,vB b0,h0)]) (tZ k0 (tA (tA t0 (tA tN (k1))) (tA k2 (tZ k3 (tA t1 (k4)))))) (by kernel_rfl)
theorem QmX (k0:ltZ (.ofNat i) n=false):
 bA m 154 2 [vM xs,.v fv,vI n,vI (.ofNat i)] h=some ((vI (Int.negSucc 0),h)):=
 bY (qS [] [1099997] [] []) (tZ k0 (tR ((vI (Int.negSucc 0),h)))) (by kernel_rfl)
end Go.Proofs.YtoblgjmllmomhaaGreatDoor
namespace Go.Proofs.YtoblgjmllmomhaaGreatDoor
set_option maxRecDepth 100000
open Go Go.Proofs.Am
variable {m st n lo hi mo k t:Int} {ty im fu ta me gl ex el da cu xs l0 l1:LL} {h h0 h1:Heap} {r:LV×Heap} {i:Nat} {has b0 b1:Bool}
theorem QAd (k0:cA m 62 [mV ty im fu ta me gl ex st el da cu] h=some (vB b0,h0))(k1:(!b0)=true):
 bB m 28 [mV ty im fu ta me gl ex st el da cu] h=some ((vF 56 (aI (.ofNat 7)),h0)):=
 bY (qS [8] [] [] [(1,2,vB b0,h0)]) (tA k0 (tZ k1 (tR ((vF 56 (aI (.ofNat 7)),h0))))) (by kernel_rfl)
theorem QAc (k0:cA m 62 [mV ty im fu ta me gl ex st el da cu] h=some (vB b0,h0))(k1:(!b0)=false)(k2:bA m 28 4 [vM ty,vI (.ofNat ty.length),vI (.ofNat 0)] h0=some r):
 bB m 28 [mV ty im fu ta me gl ex st el da cu] h=some r:=
 bY (qS [] [8] [] [(1,2,vB b0,h0)]) (tA k0 (tZ k1 (tA t1 (k2)))) (by kernel_rfl)
theorem QqP (k0:ltZ (.ofNat i) n=true)(k1:ixA (aM xs) (.ofNat i) 2=some [aM l0,aM l1])(k2:cA m 47 [vM l0,LV.v (AV.fn 63 [] [])] h=some (vB b0,h0))(k3:b0=true):
 bA m 28 4 [vM xs,vI n,vI (.ofNat i)] h=some ((vF 56 (aI (.ofNat 4)),h0)):=
 bY (qS [15,21] [] [(5,0,(LV.v (AV.snap [aM l0,aM l1])))] [(6,2,vB b0,h0)]) (tZ k0 (tA (tA t0 (tA tN (k1))) (tA k2 (tZ k3 (uT3 (tR ((vF 56 (aI (.ofNat 4)),h0)))))))) (by kernel_rfl)
theorem QqO (k0:ltZ (.ofNat i) n=true)(k1:ixA (aM xs) (.ofNat i) 2=some [aM l0,aM l1])(k2:cA m 47 [vM l0,LV.v (AV.fn 63 [] [])] h=some (vB b1,h1))(k3:b1=false)(k4:cA m 47 [vM l1,LV.v (AV.fn 63 [] [])] h1=some (vB b0,h0))(k5:b0=true):
 bA m 28 4 [vM xs,vI n,vI (.ofNat i)] h=some ((vF 56 (aI (.ofNat 4)),h0)):=
 bY (qS [15,26] [21] [(5,0,(LV.v (AV.snap [aM l0,aM l1])))] [(6,2,vB b1,h1),(6,6,vB b0,h0)]) (tZ k0 (tA (tA t0 (tA tN (k1))) (tA k2 (tZ k3 (uF2 (tA k4 (tA tF (tZ k5 (uT4 (tR ((vF 56 (aI (.ofNat 4)),h0)))))))))))) (by kernel_rfl)
theorem QqN (k0:ltZ (.ofNat i) n=true)(k1:ixA (aM xs) (.ofNat i) 2=some [aM l1,aM l0])(k2:cA m 47 [vM l1,LV.v (AV.fn 63 [] [])] h=some (vB b1,h1))(k3:b1=false)(k4:cA m 47 [vM l0,LV.v (AV.fn 63 [] [])] h1=some (vB b0,h0))(k5:b0=false)(k6:ltZ (.ofNat 1) (.ofNat l0.length)=true):
 bA m 28 4 [vM xs,vI n,vI (.ofNat i)] h=some ((vF 56 (aI (.ofNat 4)),h0)):=
 bY (qS [15,31] [21,26] [(5,0,(LV.v (AV.snap [aM l1,aM l0])))] [(6,2,vB b1,h1),(6,6,vB b0,h0)]) (tZ k0 (tA (tA t0 (tA tN (k1))) (tA k2 (tZ k3 (uF2 (tA k4 (tA tF (tZ k5 (uF4 (tZ k6 (tR ((vF 56 (aI (.ofNat 4)),h0))))))))))))) (by kernel_rfl)
theorem QqM (k0:ltZ (.ofNat i) n=true)(k1:ixA (aM xs) (.ofNat i) 2=some [aM l1,aM l0])(k2:cA m 47 [vM l1,LV.v (AV.fn 63 [] [])] h=some (vB b0,h0))(k3:b0=false)(k4:cA m 47 [vM l0,LV.v (AV.fn 63 [] [])] h0=some (vB b1,h1))(k5:b1=false)(k6:ltZ (.ofNat 1) (.ofNat l0.length)=false)(k7:bA m 28 4 [vM xs,vI n,vI (IntKind.wrap .i64 (.ofNat (Nat.succ i)))] h1=some r):
 bA m 28 4 [vM xs,vI n,vI (.ofNat i)] h=some r:=
 bY (qS [15] [21,26,31] [(5,0,(LV.v (AV.snap [aM l1,aM l0])))] [(6,2,vB b0,h0),(6,6,vB b1,h1)]) (tZ k0 (tA (tA t0 (tA tN (k1))) (tA k2 (tZ k3 (uF2 (tA k4 (tA tF (tZ k5 (uF4 (tZ k6 (tA t1 (k7)))))))))))) (by kernel_rfl)
theorem QqL (k0:ltZ (.ofNat i) n=false):
 bA m 28 4 [vM xs,vI n,vI (.ofNat i)] h=some ((LV.v AV.nilI,h)):=
 bY (qS [] [15] [] []) (tZ k0 (tR ((LV.v AV.nilI,h)))) (by kernel_rfl)
theorem QzS (k0:leZ (.ofNat 0) lo=true)(k1:leZ lo mo=true)(k2:(!has)=true):
 bB m 67 [vG [aI lo,aI hi,aB has],vI mo] h=some ((vB true,h)):=
 bY (qS [8,14,18] [] [] []) (tZ k0 (uT4 (tZ k1 (uT3 (tZ k2 (uT8 (tR ((vB true,h))))))))) (by kernel_rfl)
theorem QzR (k0:leZ (.ofNat 0) lo=true)(k1:leZ lo mo=true)(k2:(!has)=false)(k3:leZ hi mo=true):
 bB m 67 [vG [aI lo,aI hi,aB has],vI mo] h=some ((vB (leZ lo hi),h)):=
 bY (qS [8,14,23] [18] [] []) (tZ k0 (uT4 (tZ k1 (uT3 (tZ k2 (uF4 (tZ k3 (uT4 (tA tF (uT2 (tA tF (tA tT (tR ((vB (leZ lo hi),h))))))))))))))) (by kernel_rfl)
theorem QzQ (k0:leZ (.ofNat 0) lo=true)(k1:leZ lo mo=true)(k2:(!has)=false)(k3:leZ hi mo=false):
 bB m 67 [vG [aI lo,aI hi,aB has],vI mo] h=some ((vB false,h)):=
 bY (qS [8,14] [18,23] [] []) (tZ k0 (uT4 (tZ k1 (uT3 (tZ k2 (uF4 (tZ k3 (uF6 (tA tT (tA tF (tA tT (tR ((vB false,h)))))))))))))) (by kernel_rfl)
theorem QzP (k0:leZ (.ofNat 0) lo=true)(k1:leZ lo mo=false):
 bB m 67 [vG [aI lo,aI hi,aB has],vI mo] h=some ((vB false,h)):=
 bY (qS [8] [14] [] []) (tZ k0 (uT4 (tZ k1 (uF5 (tR ((vB false,h))))))) (by kernel_rfl)
theorem QzO (k0:leZ (.ofNat 0) lo=false):
 bB m 67 [vG [aI lo,aI hi,aB has],vI mo] h=some ((vB false,h)):=
 bY (qS [] [8] [] []) (tZ k0 (uF4 (tR ((vB false,h))))) (by kernel_rfl)
theorem QzT (k0:cA m 67 [vG [aI lo,aI hi,aB has],vI (.ofNat 64)] h=some (vB b0,h0)):
 bB m 66 [vG [aI lo,aI hi,aB has]] h=some ((vB !b0,h0)):=
 bY (qS [] [] [] [(1,1,vB b0,h0)]) (tA k0 (tR ((vB !b0,h0)))) (by kernel_rfl)
theorem QzN (k0:cA m 67 [vG [aI lo,aI hi,aB has],vI (.ofNat 16)] h=some (vB b0,h0)):
 bB m 68 [vG [aI lo,aI hi,aB has]] h=some ((vB !b0,h0)):=
 bY (qS [] [] [] [(1,1,vB b0,h0)]) (tA k0 (tR ((vB !b0,h0)))) (by kernel_rfl)
theorem QzM (k0:leZ (.ofNat 0) k=true):
 bB m 69 [mV ty im fu ta me gl ex st el da cu,vI k] h=some ((vB (ltZ k (.ofNat ty.length)),h)):=
 bY (qS [7] [] [] []) (tZ k0 (uT6 (tR ((vB (ltZ k (.ofNat ty.length)),h))))) (by kernel_rfl)
theorem QzL (k0:leZ (.ofNat 0) k=false):
 bB m 69 [mV ty im fu ta me gl ex st el da cu,vI k] h=some ((vB false,h)):=
 bY (qS [] [7] [] []) (tZ k0 (uF6 (tR ((vB false,h))))) (by kernel_rfl)
theorem QzZ (k0:(!eqZ t (.ofNat 1))=true):
 bB m 63 [vI t] h=some ((vB !eqZ t (.ofNat 2),h)):=
 bY (qS [5] [] [] []) (tZ k0 (uT2 (tR ((vB !eqZ t (.ofNat 2),h))))) (by kernel_rfl)
theorem QzY (k0:(!eqZ t (.ofNat 1))=false):
 bB m 63 [vI t] h=some ((vB false,h)):=
 bY (qS [] [5] [] []) (tZ k0 (uF2 (tR ((vB false,h))))) (by kernel_rfl)
end Go.Proofs.YtoblgjmllmomhaaGreatDoor
namespace Go.Proofs.YtoblgjmllmomhaaGreatDoor
set_option maxRecDepth 100000
open Go Go.Proofs.Am
variable {m n i0 i1:Int} {xs:LL} {fv:AV} {h h0:Heap} {r:LV×Heap} {i:Nat} {b0 b1:Bool} {s0:ByteArray}
theorem QzU (k0:cA m 111 [vM xs,LV.v fv] h=some (vI i0,h0)):
 bB m 65 [vM xs,.v fv] h=some ((vB (leZ (.ofNat 0) i0),h0)):=
 bY (qS [] [] [] [(1,2,vI i0,h0)]) (tA k0 (tR ((vB (leZ (.ofNat 0) i0),h0)))) (by kernel_rfl)
theorem Qu7 (k0:bA m 111 2 [vM xs,LV.v fv,vI (.ofNat xs.length),vI (.ofNat 0)] h=some r):
 bB m 111 [vM xs,.v fv] h=some r:=
 bY (qS [] [] [] []) (tA t1 (k0)) (by kernel_rfl)
theorem Qne (k0:ltZ (.ofNat i) n=true)(k1:ixA (aM xs) (.ofNat i) 3=some [aI i0,aI i1,aB b1])(k2:cV m fv [vG [aI i0,aI i1,aB b1]] h=some (vB b0,h0))(k3:b0=true):
 bA m 111 2 [vM xs,.v fv,vI n,vI (.ofNat i)] h=some ((vI (.ofNat i),h0)):=
 bY (qS [1099997,1099989] [] [(4,3,(LV.v (AV.snap [aI i0,aI i1,aB b1])))] [(4,5,vB b0,h0)]) (tZ k0 (tA (tA t0 (tA tN (k1))) (tA k2 (tZ k3 (tR ((vI (.ofNat i),h0))))))) (by kernel_rfl)
theorem Qnd (k0:ltZ (.ofNat i) n=true)(k1:ixA (aM xs) (.ofNat i) 3=some [aI i0,aI i1,aB b1])(k2:cV m fv [vG [aI i0,aI i1,aB b1]] h=some (vB b0,h0))(k3:b0=false)(k4:bA m 111 2 [vM xs,LV.v fv,vI n,vI (IntKind.wrap .i64 (.ofNat (Nat.succ i)))] h0=some r):
 bA m 111 2 [vM xs,.v fv,vI n,vI (.ofNat i)] h=some r:=
 bY (qS [1099997] [1099989] [(4,3,(LV.v (AV.snap [aI i0,aI i1,aB b1])))] [(4,5,vB b0,h0)]) (tZ k0 (tA (tA t0 (tA tN (k1))) (tA k2 (tZ k3 (tA t1 (k4)))))) (by kernel_rfl)
theorem Qnc (k0:ltZ (.ofNat i) n=false):
 bA m 111 2 [vM xs,.v fv,vI n,vI (.ofNat i)] h=some ((vI (Int.negSucc 0),h)):=
 bY (qS [] [1099997] [] []) (tZ k0 (tR ((vI (Int.negSucc 0),h)))) (by kernel_rfl)
theorem Qux (k0:cA m 115 [vM xs,LV.v fv] h=some (vI i0,h0)):
 bB m 74 [vM xs,.v fv] h=some ((vB (leZ (.ofNat 0) i0),h0)):=
 bY (qS [] [] [] [(1,2,vI i0,h0)]) (tA k0 (tR ((vB (leZ (.ofNat 0) i0),h0)))) (by kernel_rfl)
theorem QoG (k0:bA m 115 2 [vM xs,LV.v fv,vI (.ofNat xs.length),vI (.ofNat 0)] h=some r):
 bB m 115 [vM xs,.v fv] h=some r:=
 bY (qS [] [] [] []) (tA t1 (k0)) (by kernel_rfl)
theorem QhJ (k0:ltZ (.ofNat i) n=true)(k1:ixA (aM xs) (.ofNat i) 3=some [aS s0,aI i0,aI i1])(k2:cV m fv [vG [aS s0,aI i0,aI i1]] h=some (vB b0,h0))(k3:b0=true):
 bA m 115 2 [vM xs,.v fv,vI n,vI (.ofNat i)] h=some ((vI (.ofNat i),h0)):=
 bY (qS [1099997,1099989] [] [(4,3,(LV.v (AV.snap [aS s0,aI i0,aI i1])))] [(4,5,vB b0,h0)]) (tZ k0 (tA (tA t0 (tA tN (k1))) (tA k2 (tZ k3 (tR ((vI (.ofNat i),h0))))))) (by kernel_rfl)
theorem QhI (k0:ltZ (.ofNat i) n=true)(k1:ixA (aM xs) (.ofNat i) 3=some [aS s0,aI i0,aI i1])(k2:cV m fv [vG [aS s0,aI i0,aI i1]] h=some (vB b0,h0))(k3:b0=false)(k4:bA m 115 2 [vM xs,LV.v fv,vI n,vI (IntKind.wrap .i64 (.ofNat (Nat.succ i)))] h0=some r):
 bA m 115 2 [vM xs,.v fv,vI n,vI (.ofNat i)] h=some r:=
 bY (qS [1099997] [1099989] [(4,3,(LV.v (AV.snap [aS s0,aI i0,aI i1])))] [(4,5,vB b0,h0)]) (tZ k0 (tA (tA t0 (tA tN (k1))) (tA k2 (tZ k3 (tA t1 (k4)))))) (by kernel_rfl)
theorem QhH (k0:ltZ (.ofNat i) n=false):
 bA m 115 2 [vM xs,.v fv,vI n,vI (.ofNat i)] h=some ((vI (Int.negSucc 0),h)):=
 bY (qS [] [1099997] [] []) (tZ k0 (tR ((vI (Int.negSucc 0),h)))) (by kernel_rfl)
end Go.Proofs.YtoblgjmllmomhaaGreatDoor
namespace Go.Proofs.YtoblgjmllmomhaaGreatDoor
open Go Go.Proofs.Am
variable {m re n gt o a b v t i0 i1 i2 i3 i4 i5:Int} {ty fu gl lo xs ps rs l bd el l0 l1 l2:LL} {tb mm gm q b0 b1 b2:Bool} {h h0 h1 h2:Heap} {fv:AV} {r:LV×Heap} {i:Nat}
theorem Qzw (k0:cA m 45 [vM ty,LV.v (AV.fn 46 [] [])] h=some (vB b1,h1))(k1:cA m 49 [vM gl,LV.v (AV.fn 50 [] [])] h1=some (vB b2,h2))(k2:(!b1)=true)(k3:(!b2)=true)(k4:cA m 47 [vM lo,LV.v (AV.fn 48 [] [])] h2=some (vB b0,h0))(k5:(!b0)=true)(k6:leZ (.ofNat 0) re=true):
 bB m 20 [vG [aM ty,aM fu,aM gl,aB tb,aB mm,aM lo,aI re]] h=some ((vB (leZ re (.ofNat 2)),h0)):=
 bY (qS [13,17,23,28] [] [] [(1,2,vB b1,h1),(2,2,vB b2,h2),(3,9,vB b0,h0)]) (tA k0 (tA k1 (tZ k2 (uT2 (tZ k3 (uT2 (tA k4 (uT2 (tZ k5 (uT3 (tZ k6 (uT3 (tR ((vB (leZ re (.ofNat 2)),h0))))))))))))))) (by kernel_rfl)
theorem Qzv (k0:cA m 45 [vM ty,LV.v (AV.fn 46 [] [])] h=some (vB b1,h1))(k1:cA m 49 [vM gl,LV.v (AV.fn 50 [] [])] h1=some (vB b2,h2))(k2:(!b1)=true)(k3:(!b2)=true)(k4:cA m 47 [vM lo,LV.v (AV.fn 48 [] [])] h2=some (vB b0,h0))(k5:(!b0)=true)(k6:leZ (.ofNat 0) re=false):
 bB m 20 [vG [aM ty,aM fu,aM gl,aB tb,aB mm,aM lo,aI re]] h=some ((vB false,h0)):=
 bY (qS [13,17,23] [28] [] [(1,2,vB b1,h1),(2,2,vB b2,h2),(3,9,vB b0,h0)]) (tA k0 (tA k1 (tZ k2 (uT2 (tZ k3 (uT2 (tA k4 (uT2 (tZ k5 (uT3 (tZ k6 (uF3 (tR ((vB false,h0))))))))))))))) (by kernel_rfl)
theorem Qzu (k0:cA m 45 [vM ty,LV.v (AV.fn 46 [] [])] h=some (vB b1,h1))(k1:cA m 49 [vM gl,LV.v (AV.fn 50 [] [])] h1=some (vB b2,h2))(k2:(!b1)=true)(k3:(!b2)=true)(k4:cA m 47 [vM lo,LV.v (AV.fn 48 [] [])] h2=some (vB b0,h0))(k5:(!b0)=false):
 bB m 20 [vG [aM ty,aM fu,aM gl,aB tb,aB mm,aM lo,aI re]] h=some ((vB false,h0)):=
 bY (qS [13,17] [23] [] [(1,2,vB b1,h1),(2,2,vB b2,h2),(3,9,vB b0,h0)]) (tA k0 (tA k1 (tZ k2 (uT2 (tZ k3 (uT2 (tA k4 (uT2 (tZ k5 (uF3 (tR ((vB false,h0))))))))))))) (by kernel_rfl)
theorem Qzt (k0:cA m 45 [vM ty,LV.v (AV.fn 46 [] [])] h=some (vB b1,h1))(k1:cA m 49 [vM gl,LV.v (AV.fn 50 [] [])] h1=some (vB b0,h0))(k2:(!b1)=true)(k3:(!b0)=false):
 bB m 20 [vG [aM ty,aM fu,aM gl,aB tb,aB mm,aM lo,aI re]] h=some ((vB false,h0)):=
 bY (qS [13] [17] [] [(1,2,vB b1,h1),(2,2,vB b0,h0)]) (tA k0 (tA k1 (tZ k2 (uT2 (tZ k3 (uF4 (tR ((vB false,h0))))))))) (by kernel_rfl)
theorem Qzs (k0:cA m 45 [vM ty,LV.v (AV.fn 46 [] [])] h=some (vB b0,h1))(k1:cA m 49 [vM gl,LV.v (AV.fn 50 [] [])] h1=some (vB b1,h0))(k2:(!b0)=false):
 bB m 20 [vG [aM ty,aM fu,aM gl,aB tb,aB mm,aM lo,aI re]] h=some ((vB false,h0)):=
 bY (qS [] [13] [] [(1,2,vB b0,h1),(2,2,vB b1,h0)]) (tA k0 (tA k1 (tZ k2 (uF2 (tR ((vB false,h0))))))) (by kernel_rfl)
theorem Qzc (k0:cA m 85 [vM xs,LV.v fv] h=some (vI i0,h0)):
 bB m 45 [vM xs,.v fv] h=some ((vB (leZ (.ofNat 0) i0),h0)):=
 bY (qS [] [] [] [(1,2,vI i0,h0)]) (tA k0 (tR ((vB (leZ (.ofNat 0) i0),h0)))) (by kernel_rfl)
theorem Qyz (k0:bA m 85 2 [vM xs,LV.v fv,vI (.ofNat xs.length),vI (.ofNat 0)] h=some r):
 bB m 85 [vM xs,.v fv] h=some r:=
 bY (qS [] [] [] []) (tA t1 (k0)) (by kernel_rfl)
theorem Qp3 (k0:ltZ (.ofNat i) n=true)(k1:ixA (aM xs) (.ofNat i) 2=some [aM l0,aM l1])(k2:cV m fv [vG [aM l0,aM l1]] h=some (vB b0,h0))(k3:b0=true):
 bA m 85 2 [vM xs,.v fv,vI n,vI i] h=some ((vI (.ofNat i),h0)):=
 bY (qS [9,16] [] [(4,3,(LV.v (AV.snap [aM l0,aM l1])))] [(4,5,vB b0,h0)]) (tZ k0 (tA (tA t0 (tA tN (k1))) (tA k2 (tZ k3 (tR ((vI (.ofNat i),h0))))))) (by kernel_rfl)
theorem Qp2 (k0:ltZ (.ofNat i) n=true)(k1:ixA (aM xs) (.ofNat i) 2=some [aM l0,aM l1])(k2:cV m fv [vG [aM l0,aM l1]] h=some (vB b0,h0))(k3:b0=false)(k4:bA m 85 2 [vM xs,LV.v fv,vI n,vI (IntKind.wrap .i64 (.ofNat (Nat.succ i)))] h0=some r):
 bA m 85 2 [vM xs,.v fv,vI n,vI i] h=some r:=
 bY (qS [9] [16] [(4,3,(LV.v (AV.snap [aM l0,aM l1])))] [(4,5,vB b0,h0)]) (tZ k0 (tA (tA t0 (tA tN (k1))) (tA k2 (tZ k3 (tA t1 (k4)))))) (by kernel_rfl)
theorem Qp1 (k0:ltZ (.ofNat i) n=false):
 bA m 85 2 [vM xs,.v fv,vI n,vI i] h=some ((vI (Int.negSucc 0),h)):=
 bY (qS [] [9] [] []) (tZ k0 (tR ((vI (Int.negSucc 0),h)))) (by kernel_rfl)
theorem Qy7 (k0:cA m 87 [vM xs,LV.v fv] h=some (vI i0,h0)):
 bB m 49 [vM xs,.v fv] h=some ((vB (leZ (.ofNat 0) i0),h0)):=
 bY (qS [] [] [] [(1,2,vI i0,h0)]) (tA k0 (tR ((vB (leZ (.ofNat 0) i0),h0)))) (by kernel_rfl)
theorem Qyy (k0:bA m 87 2 [vM xs,LV.v fv,vI (.ofNat xs.length),vI (.ofNat 0)] h=some r):
 bB m 87 [vM xs,.v fv] h=some r:=
 bY (qS [] [] [] []) (tA t1 (k0)) (by kernel_rfl)
theorem Qp0 (k0:ltZ (.ofNat i) n=true)(k1:ixA (aM xs) (.ofNat i) 11=some ([aI i0,aB b1]++nC i1 i2 i3 i4 i5 l0 l1 l2 b2))(k2:cV m fv [vG ([aI i0,aB b1]++nC i1 i2 i3 i4 i5 l0 l1 l2 b2)] h=some (vB b0,h0))(k3:b0=true):
 bA m 87 2 [vM xs,.v fv,vI n,vI i] h=some ((vI (.ofNat i),h0)):=
 bY (qS [9,16] [] [(4,3,(LV.v (AV.snap ([aI i0,aB b1]++nC i1 i2 i3 i4 i5 l0 l1 l2 b2))))] [(4,5,vB b0,h0)]) (tZ k0 (tA (tA t0 (tA tN (k1))) (tA k2 (tZ k3 (tR ((vI (.ofNat i),h0))))))) (by kernel_rfl)
theorem QpZ (k0:ltZ (.ofNat i) n=true)(k1:ixA (aM xs) (.ofNat i) 11=some ([aI i0,aB b0]++nC i1 i2 i3 i4 i5 l0 l1 l2 b2))(k2:cV m fv [vG ([aI i0,aB b0]++nC i1 i2 i3 i4 i5 l0 l1 l2 b2)] h=some (vB b1,h0))(k3:b1=false)(k4:bA m 87 2 [vM xs,LV.v fv,vI n,vI (IntKind.wrap .i64 (.ofNat (Nat.succ i)))] h0=some r):
 bA m 87 2 [vM xs,.v fv,vI n,vI i] h=some r:=
 bY (qS [9] [16] [(4,3,(LV.v (AV.snap ([aI i0,aB b0]++nC i1 i2 i3 i4 i5 l0 l1 l2 b2))))] [(4,5,vB b1,h0)]) (tZ k0 (tA (tA t0 (tA tN (k1))) (tA k2 (tZ k3 (tA t1 (k4)))))) (by kernel_rfl)
theorem QpY (k0:ltZ (.ofNat i) n=false):
 bA m 87 2 [vM xs,.v fv,vI n,vI i] h=some ((vI (Int.negSucc 0),h)):=
 bY (qS [] [9] [] []) (tZ k0 (tR ((vI (Int.negSucc 0),h)))) (by kernel_rfl)
theorem Qzb (k0:cA m 47 [vM ps,LV.v (AV.fn 48 [] [])] h=some (vB b0,h0))(k1:b0=true):
 bB m 46 [vG [aM ps,aM rs]] h=some ((vB true,h0)):=
 bY (qS [6] [] [] [(1,2,vB b0,h0)]) (tA k0 (tZ k1 (uT3 (tR ((vB true,h0)))))) (by kernel_rfl)
theorem Qza (k0:cA m 47 [vM ps,LV.v (AV.fn 48 [] [])] h=some (vB b1,h1))(k1:b1=false)(k2:cA m 47 [vM rs,LV.v (AV.fn 48 [] [])] h1=some (vB b0,h0)):
 bB m 46 [vG [aM ps,aM rs]] h=some ((vB b0,h0)):=
 bY (qS [] [6] [] [(1,2,vB b1,h1),(1,6,vB b0,h0)]) (tA k0 (tZ k1 (uF2 (tA k2 (tA tF (tR ((vB b0,h0)))))))) (by kernel_rfl)
theorem Qy9 (k0:(!eqZ n (.ofNat 1))=true):
 bB m 48 [vI n] h=some ((vB !eqZ n (.ofNat 2),h)):=
 bY (qS [5] [] [] []) (tZ k0 (uT2 (tR ((vB !eqZ n (.ofNat 2),h))))) (by kernel_rfl)
theorem Qy8 (k0:(!eqZ n (.ofNat 1))=false):
 bB m 48 [vI n] h=some ((vB false,h)):=
 bY (qS [] [5] [] []) (tZ k0 (uF2 (tR ((vB false,h))))) (by kernel_rfl)
theorem Qy6 (k0:cA m 48 [vI gt] h=some (vB b0,h0)):
 bB m 50 [vG ([aI gt,aB gm]++nC o a b v t l bd el q)] h=some ((vB b0,h0)):=
 bY (qS [] [] [] [(1,2,vB b0,h0)]) (tA k0 (tR ((vB b0,h0)))) (by kernel_rfl)
end Go.Proofs.YtoblgjmllmomhaaGreatDoor
