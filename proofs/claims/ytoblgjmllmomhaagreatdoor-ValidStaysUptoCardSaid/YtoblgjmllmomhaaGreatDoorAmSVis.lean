/-
  errors.Is, at errors of one type of whole numbers.
-/
import Derived.Test.YtoblgjmllmomhaaGreatDoorProg
import Derived.WalkKit
import Derived.LaidEql
import Derived.Stop.Asserts
import Derived.RowKitTokens
import Derived.Lib.IfaceEq
namespace Go.Proofs.YtoblgjmllmomhaaGreatDoor
open Go Go.RowKit Go.Extern.Stop Go.Stop Go.Extern
theorem QnY (v:Value)(w:World):(Extern.ReflectliteType.typeOf #[.iface 56 v]).run Tryz.prog w=.ok (.iface 182 (.agg #[.pointer (some ⟨4,56,none⟩)])) w:=by kernel_rfl
theorem Qgi (w:World):((Extern.ReflectliteType.method fun t=>do Go.Extern.Rtype.noPackHeld "Comparable" t;(fun a=>Value.bool a.comparable)<$>typeInfo t) #[.agg #[.pointer (some ⟨4,56,none⟩)]]).run Tryz.prog w=.ok (.bool true) w:=by kernel_rfl
theorem QcR (v:Value)(w:World):(Go.method 368 182 v "Comparable").run Tryz.prog w=.ok (196,v) w:=by kernel_rfl
theorem Qwp:(Tryz.prog.info? 56).map (·.comparable)=some true:=by kernel_rfl
theorem QC3 (v:Value)(xT:TypeId)(w:World):(Instr.typeAssert (.iface 56 v) xT 184 true).run Tryz.prog w=.ok (.tuple #[.nilIface,.bool false]) w:=run_typeAssert_lacksB Tryz.underlying184 (by kernel_rfl) (by kernel_rfl) v xT w
theorem QnJ (v:Value)(xT:TypeId)(w:World):(Instr.typeAssert (.iface 56 v) xT 187 true).run Tryz.prog w=.ok (.tuple #[.nilIface,.bool false]) w:=run_typeAssert_lacksB Tryz.underlying187 (by kernel_rfl) (by kernel_rfl) v xT w
theorem Qkn (v:Value)(xT:TypeId)(w:World):(Instr.typeAssert (.iface 56 v) xT 188 true).run Tryz.prog w=.ok (.tuple #[.nilIface,.bool false]) w:=run_typeAssert_lacksB Tryz.underlying188 (by kernel_rfl) (by kernel_rfl) v xT w
set_option maxRecDepth 100000 in
set_option maxHeartbeats 2000000 in
theorem Qwm (a b:Int)(w:World):Calls Tryz.prog 71 #[.iface 56 (.int .i64 a),.iface 56 (.int .i64 b)] w fun e w'=>e=.returned (.bool (a==b))∧w'=w:=by
 have h8:=@run_callFunc_extern Tryz.prog 113 _ Extern.ReflectliteType.typeOf Tryz.func113 (by kernel_rfl) (by kernel_rfl) (by kernel_rfl) (by kernel_rfl)
 have h32:=@run_callFunc_extern Tryz.prog 196 _ (Extern.ReflectliteType.method fun t=>do Go.Extern.Rtype.noPackHeld "Comparable" t;pure (.bool (←typeInfo t).comparable)) Tryz.func196 (by kernel_rfl) (by kernel_rfl) (by kernel_rfl) (by kernel_rfl)
 have tT:=QnY
 have cT:=Qgi
 have mR:=QcR
 have nE:=QC3
 have uE:=QnJ
 have vE:=Qkn
 have heq:=Go.Lib.run_eql_iface_int (P:=Tryz.prog) w (k:=.i64) a b Tryz.underlying33 Qwp Tryz.underlying56
 by_cases hab:a=b
 ·subst hab
  have e:(a==a)=true:=by simp
  rw[e]at heq⊢
  clear e
  go_enter Tryz.func71,Tryz.ntmps71
  go_wp2
  refine wp_loop_rounds 1 ?_
  rw[rounds_succ]
  go_wp2
  go_ret
  exact⟨rfl,rfl⟩
 ·have e:(a==b)=false:=by simp[hab]
  rw[e]at heq⊢
  go_enter Tryz.func71,Tryz.ntmps71
  go_wp2
  refine wp_loop_rounds 1 ?_
  rw[rounds_succ]
  go_wp2
  go_ret
  exact⟨rfl,rfl⟩
theorem Qwn (b:Int)(w:World):Calls Tryz.prog 71 #[.nilIface,.iface 56 (.int .i64 b)] w fun e w'=>e=.returned (.bool false)∧w'=w:=by
 have hn:=run_eql_iface_nil_left (P:=Tryz.prog) w 56 (.int .i64 b) Tryz.underlying33
 go_enter Tryz.func71,Tryz.ntmps71
 go_wp2
 go_ret
 exact⟨rfl,rfl⟩
end Go.Proofs.YtoblgjmllmomhaaGreatDoor
