/-
  errors.Is at numbers, and at an api.Spot that tells one.
-/
import Derived.Test.YtacfojpdccahhaaGreatDoorProg
import Derived.WalkKit
import Derived.LaidEql
import Derived.Stop.Asserts
import Derived.RowKitTokens
import Derived.Lib.IfaceEq
namespace Go.Proofs.YtacfojpdccahhaaGreatDoor
open Go Go.RowKit Go.Extern.Stop Go.Stop Go.Extern
theorem isTypeOf (v : Value) (w : World) : (Extern.ReflectliteType.typeOf #[.iface 50 v]).run Tryz.prog w = .ok (.iface 160 (.agg #[.pointer (some ⟨5, 50, none⟩)])) w := by kernel_rfl
theorem isComparable (w : World) : ((Extern.ReflectliteType.method fun t => do Go.Extern.Rtype.noPackHeld "Comparable" t; (fun a => Value.bool a.comparable) <$> typeInfo t) #[.agg #[.pointer (some ⟨5, 50, none⟩)]]).run Tryz.prog w = .ok (.bool true) w := by kernel_rfl
theorem isMethodComparable (v : Value) (w : World) : (Go.method 445 160 v "Comparable").run Tryz.prog w = .ok (247, v) w := by kernel_rfl
theorem isComp : (Tryz.prog.info? 50).map (·.comparable) = some true := by kernel_rfl
theorem noIs (v : Value) (xT : TypeId) (w : World) : (Instr.typeAssert (.iface 50 v) xT 171 true).run Tryz.prog w = .ok (.tuple #[.nilIface, .bool false]) w := run_typeAssert_lacksB Tryz.underlying171 (by kernel_rfl) (by kernel_rfl) v xT w
theorem noUnwrap (v : Value) (xT : TypeId) (w : World) : (Instr.typeAssert (.iface 50 v) xT 167 true).run Tryz.prog w = .ok (.tuple #[.nilIface, .bool false]) w := run_typeAssert_lacksB Tryz.underlying167 (by kernel_rfl) (by kernel_rfl) v xT w
theorem noUnwraps (v : Value) (xT : TypeId) (w : World) : (Instr.typeAssert (.iface 50 v) xT 168 true).run Tryz.prog w = .ok (.tuple #[.nilIface, .bool false]) w := run_typeAssert_lacksB Tryz.underlying168 (by kernel_rfl) (by kernel_rfl) v xT w
theorem noIsS (v : Value) (xT : TypeId) (w : World) : (Instr.typeAssert (.iface 66 v) xT 171 true).run Tryz.prog w = .ok (.tuple #[.nilIface, .bool false]) w := run_typeAssert_lacksB Tryz.underlying171 (by kernel_rfl) (by kernel_rfl) v xT w
theorem hasUnwrapS (v : Value) (xT : TypeId) (w : World) : (Instr.typeAssert (.iface 66 v) xT 167 true).run Tryz.prog w = .ok (.tuple #[.iface 66 v, .bool true]) w := run_typeAssert_hasB Tryz.underlying167 (by kernel_rfl) v xT w
theorem methodUnwrapS (v : Value) (w : World) : (Go.method 445 66 v "Unwrap").run Tryz.prog w = .ok (241, v) w := by kernel_rfl
set_option maxRecDepth 100000 in
set_option maxHeartbeats 4000000 in
theorem is_spot (pb po : Nat) (a b : Int) (w : World) (h1 : w.cell? ⟨pb, po + 1, none⟩ = some (.iface 50 (.int .i64 a))) :
  Calls Tryz.prog 19 #[.iface 66 (.pointer (some ⟨pb, po, none⟩)), .iface 50 (.int .i64 b)] w fun e w' => e = .returned (.bool (a == b)) ∧ w' = w := by
 have h8 := @run_callFunc_extern Tryz.prog 38 _ Extern.ReflectliteType.typeOf Tryz.func38 (by kernel_rfl) (by kernel_rfl) (by kernel_rfl) (by kernel_rfl)
 have h32 := @run_callFunc_extern Tryz.prog 247 _ (Extern.ReflectliteType.method fun t => do Go.Extern.Rtype.noPackHeld "Comparable" t; pure (.bool (← typeInfo t).comparable)) Tryz.func247 (by kernel_rfl) (by kernel_rfl) (by kernel_rfl) (by kernel_rfl)
 have tT := isTypeOf
 have cT := isComparable
 have mR := isMethodComparable
 have nE := noIs
 have uE := noUnwrap
 have vE := noUnwraps
 have nS := noIsS
 have uS := hasUnwrapS
 have mU := methodUnwrapS
 have heq := Go.Lib.run_eql_iface_int (P := Tryz.prog) w (k := .i64) a b Tryz.underlying30 isComp Tryz.underlying50
 have hty := run_eql_iface_types (P := Tryz.prog) 66 50 (.pointer (some ⟨pb, po, none⟩)) (.int .i64 b) Tryz.underlying30 (by decide) w
 by_cases hab : a = b
 ·subst hab
  have e : (a == a) = true := by simp
  rw [e] at heq ⊢
  clear e
  go_enter Tryz.func19, Tryz.ntmps19
  go_wp2
  refine wp_loop_rounds 2 ?_
  rw [rounds_succ]
  go_wp2
  rw [rounds_succ]
  go_wp2
  go_ret
  exact ⟨rfl, rfl⟩
 ·have e : (a == b) = false := by simp [hab]
  rw [e] at heq ⊢
  go_enter Tryz.func19, Tryz.ntmps19
  go_wp2
  refine wp_loop_rounds 2 ?_
  rw [rounds_succ]
  go_wp2
  rw [rounds_succ]
  go_wp2
  go_ret
  exact ⟨rfl, rfl⟩
end Go.Proofs.YtacfojpdccahhaaGreatDoor
