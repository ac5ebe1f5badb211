/-
  slices.Clone and slices.Grow at nil, of numbers, as calls of the machine.
-/
import Derived.Test.YtoblgjmllmomhaaGreatDoorAmCloneH
import Derived.Test.YtoblgjmllmomhaaGreatDoorProg
import Derived.Shelf.Slices.Clone
import Derived.Shelf.Lays8
import Derived.Shelf.RegionOpenPlain
import Derived.WalkKit
import Derived.Lib.Walk
import Derived.Lib.SliceRun
import Derived.Lib.AppendZerosOnto
set_option linter.unusedVariables false
set_option linter.unusedSimpArgs false
namespace Go.Proofs
open Go.Shelf Go.RowKit Go.Lib
def Tryz.laysC_ren:Go.Shelf.Ren:=⟨fun|15=>37|n=>n,fun|22=>23|3=>3|4=>4|n=>n,fun|n=>n⟩
theorem Tryz.laysC:Go.Proofs.Lays2.n15 Tryz.prog Tryz.laysC_ren:={
 mixed:=by kernel_rfl
 f15:=Tryz.func37.trans (congrArg some (by kernel_rfl))
 t3:=Tryz.underlying3
 a3:=Tryz.isAgg3
 z3:=Tryz.sizeOf3
 v3:=Tryz.zeroValue3
 t4:=Tryz.underlying4
 a4:=Tryz.isAgg4
 z4:=Tryz.sizeOf4
 v4:=Tryz.zeroValue4
 t22:=Tryz.underlying23
 a22:=Tryz.isAgg23
 z22:=Tryz.sizeOf23
 v22:=Tryz.zeroValue23
 i3:=by kernel_rfl}
def Tryz.laysG_ren:Go.Shelf.Ren:=⟨fun|4=>78|n=>n,fun|22=>23|25=>3|n=>n,fun|n=>n⟩
theorem Tryz.laysG:Go.Proofs.Lays8.n4 Tryz.prog Tryz.laysG_ren:={
 mixed:=by kernel_rfl
 f4:=⟨"slices.Grow[[]int,int]",by kernel_rfl,Tryz.func78.trans (congrArg some (by kernel_rfl))⟩
 t0:=Tryz.underlying0
 a0:=Tryz.isAgg0
 z0:=Tryz.sizeOf0
 v0:=Tryz.zeroValue0
 t3:=Tryz.underlying3
 a3:=Tryz.isAgg3
 z3:=Tryz.sizeOf3
 v3:=Tryz.zeroValue3
 t4:=Tryz.underlying4
 a4:=Tryz.isAgg4
 z4:=Tryz.sizeOf4
 v4:=Tryz.zeroValue4
 t9:=Tryz.underlying9
 a9:=Tryz.isAgg9
 z9:=Tryz.sizeOf9
 v9:=Tryz.zeroValue9
 t20:=Tryz.underlying20
 a20:=Tryz.isAgg20
 z20:=Tryz.sizeOf20
 v20:=Tryz.zeroValue20
 t22:=Tryz.underlying23
 a22:=Tryz.isAgg23
 z22:=Tryz.sizeOf23
 v22:=Tryz.zeroValue23}
variable {P:Program} {ρ:Ren}
set_option maxHeartbeats 2000000 in
set_option maxRecDepth 100000 in
theorem Qgq (L:Lays8.n4 P ρ)(w:World):Calls P (ρ.f 4) #[.slice none 0 0,.int .i64 0] w fun e w'=>e=.returned (.slice none 0 0)∧w'=w:=by
 have mixed:=L.mixed
 have t0:=L.t0;have a0:=L.a0;have z0:=L.z0;have v0:=L.v0;have u0:=run_underlying L.t0;have t3:=L.t3;have a3:=L.a3;have z3:=L.z3;have v3:=L.v3;have u3:=run_underlying L.t3;have t4:=L.t4;have a4:=L.a4;have z4:=L.z4;have v4:=L.v4;have u4:=run_underlying L.t4;have t9:=L.t9;have a9:=L.a9;have z9:=L.z9;have v9:=L.v9;have u9:=run_underlying L.t9;have t20:=L.t20;have a20:=L.a20;have z20:=L.z20;have v20:=L.v20;have u20:=run_underlying L.t20;have t22:=L.t22;have a22:=L.a22;have z22:=L.z22;have v22:=L.v22;have u22:=run_underlying L.t22
 obtain⟨_,_,FG⟩:=L.f4
 have h1:¬((0:Int)<0):=by omega
 have h2:wrap64 ((0:Int)-(0:Int))=0:=by unfold wrap64;omega
 have h4:¬((0:Int)>0):=by omega
 go_enter FG,Body8.n4_ntmps ρ
 go_wp2
 go_ret
 exact⟨rfl,rfl⟩
set_option maxHeartbeats 4000000 in
set_option maxRecDepth 100000 in
theorem Qil (L:Lays8.n4 P ρ)(i0:TypeInfo)(z:Value)(hi0:P.info? (ρ.t 25)=some i0)(hz0:i0.zero=some z)(hs0:0<i0.size)(hb0:0<i0.bytes)
 (n:Nat)(w:World)(hn:0<n)(hbig:n*i0.bytes≤281474976710656):
 Calls P (ρ.f 4) #[.slice none 0 0,.int .i64 n] w fun e w'=>
  e=.returned (.slice (some ⟨w.heap.size,0,none⟩) 0 (grownCap w n 0 (ρ.t 25)))∧
  w'=w.drew.alloc (.cells (Builtin.zeroCells z.cells n++Builtin.zeroCells z.cells (grownCap w n 0 (ρ.t 25)-n)) (ρ.t 25)):=by
 have mixed:=L.mixed
 have t0:=L.t0;have a0:=L.a0;have z0:=L.z0;have v0:=L.v0;have u0:=run_underlying L.t0;have t3:=L.t3;have a3:=L.a3;have z3:=L.z3;have v3:=L.v3;have u3:=run_underlying L.t3;have t4:=L.t4;have a4:=L.a4;have z4:=L.z4;have v4:=L.v4;have u4:=run_underlying L.t4;have t9:=L.t9;have a9:=L.a9;have z9:=L.z9;have v9:=L.v9;have u9:=run_underlying L.t9;have t20:=L.t20;have a20:=L.a20;have z20:=L.z20;have v20:=L.v20;have u20:=run_underlying L.t20;have t22:=L.t22;have a22:=L.a22;have z22:=L.z22;have v22:=L.v22;have u22:=run_underlying L.t22
 obtain⟨_,_,FG⟩:=L.f4
 have hn48:n≤281474976710656:=Nat.le_trans (Nat.le_mul_of_pos_right _ hb0) hbig
 have h1:¬((n:Int)<0):=by omega
 have h2:wrap64 ((0:Int)-(0:Int))=0:=by unfold wrap64;omega
 have h3:wrap64 ((n:Int)-(0:Int))=(n:Int):=by unfold wrap64;omega
 have h4:(n:Int)>0:=by omega
 have z25:∀w,(Go.sizeOf (ρ.t 25)).run P w=.ok i0.size w:=fun w=>by simp[Go.sizeOf,typeInfo,hi0]
 have hold:(Builtin.firstCells i0.size 0 (.slice none 0 0)).run P w.drew=.ok ([]:List Value).toArray w.drew:=run_firstCells_none w.drew i0.size 0 0 0
 have hcap:Builtin.nextslicecap n 0=n:=by
  unfold Builtin.nextslicecap
  simp
  omega
 have hrz:∀ty,(Builtin.append_ #[(ρ.t 22),(ρ.t 3)] ty #[.slice none 0 0,.int .i64 (n:Int)]).run P w=
  .ok (.slice (some ⟨w.heap.size,0,none⟩) n (grownCap w n 0 (ρ.t 25))) (w.drew.alloc (.cells (Builtin.zeroCells z.cells n++Builtin.zeroCells z.cells (grownCap w n 0 (ρ.t 25)-n)) (ρ.t 25))):=fun ty=>by
  have h:=Lib.run_append_grow_zeros w (ρ.t 22) (ρ.t 3) ty (ρ.t 25) i0 z .i64 .i64 L.t22 L.t3 hi0 hz0 none 0 0 [] hold n hn hs0 (by omega) (by omega) hbig (by rw[Nat.zero_add,hcap];exact hbig)
  simp only[Nat.zero_add]at h
  simpa using h
 have hGn:n≤grownCap w n 0 (ρ.t 25):=grownCap_ge w _ _ _
 obtain⟨G,hG⟩:∃G,G=grownCap w n 0 (ρ.t 25):=⟨_,rfl⟩
 rw[←hG]at hrz hGn⊢
 have hG63:G≤9223372036854775807:=by
  have:=grownCap_le_maxLen w n 0 (ρ.t 25) (by unfold maxLen;omega)
  rw[←hG]at this
  unfold maxLen at this
  omega
 clear hold hG hcap
 go_enter FG,Body8.n4_ntmps ρ
 go_wp2_with (at_builtin;refine Lib.wpList_append_run _ rfl _ _ _ _ rfl _ _ rfl rfl _ _ (hrz _) ?_)
 all_goals (go_ret;exact⟨rfl,rfl⟩)
end Go.Proofs
namespace Go.Proofs.YtoblgjmllmomhaaGreatDoor
open Go Go.Proofs.Am
theorem QsU {cx:Cx}(hP:cx.P=Tryz.prog):ExtOk cx 37 QdB:=
 Qon (t:=3) (by rw[hP];exact Any.slices_Clone_int Tryz.laysC) (by rw[hP];exact Any.slices_Clone_int_nil Tryz.laysC) (by rw[hP];exact Any.slices_Clone_int_zero Tryz.laysC)
end Go.Proofs.YtoblgjmllmomhaaGreatDoor
