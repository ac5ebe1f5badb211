/-
  errors.Is at numbers, and at an api.Spot that tells one.
-/
import Derived.Test.YthcjapmfchidhaaGreatDoorProg
import Derived.WalkKit
import Derived.LaidEql
import Derived.Stop.Asserts
import Derived.RowKitTokens
import Derived.Lib.IfaceEq
namespace Go.Proofs.YthcjapmfchidhaaGreatDoor
open Go Go.RowKit Go.Extern.Stop Go.Stop Go.Extern
theorem isTypeOf (v : Value) (w : World) : (Extern.ReflectliteType.typeOf #[.iface 32 v]).run Tryz.prog w = .ok (.iface 121 (.agg #[.pointer (some ⟨5, 32, none⟩)])) w := by kernel_rfl
theorem isComparable (w : World) : ((Extern.ReflectliteType.method fun t => do Go.Extern.Rtype.noPackHeld "Comparable" t; (fun a => Value.bool a.comparable) <$> typeInfo t) #[.agg #[.pointer (some ⟨5, 32, none⟩)]]).run Tryz.prog w = .ok (.bool true) w := by kernel_rfl
theorem isMethodComparable (v : Value) (w : World) : (Go.method 314 121 v "Comparable").run Tryz.prog w = .ok (139, v) w := by kernel_rfl
theorem isComp : (Tryz.prog.info? 32).map (·.comparable) = some true := by kernel_rfl
theorem noIs (v : Value) (xT : TypeId) (w : World) : (Instr.typeAssert (.iface 32 v) xT 133 true).run Tryz.prog w = .ok (.tuple #[.nilIface, .bool false]) w := run_typeAssert_lacksB Tryz.underlying133 (by kernel_rfl) (by kernel_rfl) v xT w
theorem noUnwrap (v : Value) (xT : TypeId) (w : World) : (Instr.typeAssert (.iface 32 v) xT 128 true).run Tryz.prog w = .ok (.tuple #[.nilIface, .bool false]) w := run_typeAssert_lacksB Tryz.underlying128 (by kernel_rfl) (by kernel_rfl) v xT w
theorem noUnwraps (v : Value) (xT : TypeId) (w : World) : (Instr.typeAssert (.iface 32 v) xT 130 true).run Tryz.prog w = .ok (.tuple #[.nilIface, .bool false]) w := run_typeAssert_lacksB Tryz.underlying130 (by kernel_rfl) (by kernel_rfl) v xT w
theorem noIsS (v : Value) (xT : TypeId) (w : World) : (Instr.typeAssert (.iface 63 v) xT 133 true).run Tryz.prog w = .ok (.tuple #[.nilIface, .bool false]) w := run_typeAssert_lacksB Tryz.underlying133 (by kernel_rfl) (by kernel_rfl) v xT w
theorem hasUnwrapS (v : Value) (xT : TypeId) (w : World) : (Instr.typeAssert (.iface 63 v) xT 128 true).run Tryz.prog w = .ok (.tuple #[.iface 63 v, .bool true]) w := run_typeAssert_hasB Tryz.underlying128 (by kernel_rfl) v xT w
theorem methodUnwrapS (v : Value) (w : World) : (Go.method 314 63 v "Unwrap").run Tryz.prog w = .ok (133, v) w := by kernel_rfl
set_option maxRecDepth 100000 in
set_option maxHeartbeats 2000000 in
theorem is_num (a b : Int) (w : World) : Calls Tryz.prog 30 #[.iface 32 (.int .i64 a), .iface 32 (.int .i64 b)] w fun e w' => e = .returned (.bool (a == b)) ∧ w' = w := by
 have h8 := @run_callFunc_extern Tryz.prog 50 _ Extern.ReflectliteType.typeOf Tryz.func50 (by kernel_rfl) (by kernel_rfl) (by kernel_rfl) (by kernel_rfl)
 have h32 := @run_callFunc_extern Tryz.prog 139 _ (Extern.ReflectliteType.method fun t => do Go.Extern.Rtype.noPackHeld "Comparable" t; pure (.bool (← typeInfo t).comparable)) Tryz.func139 (by kernel_rfl) (by kernel_rfl) (by kernel_rfl) (by kernel_rfl)
 have tT := isTypeOf
 have cT := isComparable
 have mR := isMethodComparable
 have nE := noIs
 have uE := noUnwrap
 have vE := noUnwraps
 have heq := Go.Lib.run_eql_iface_int (P := Tryz.prog) w (k := .i64) a b Tryz.underlying28 isComp Tryz.underlying32
 by_cases hab : a = b
 ·subst hab
  have e : (a == a) = true := by simp
  rw [e] at heq ⊢
  clear e
  go_enter Tryz.func30, Tryz.ntmps30
  go_wp2
  refine wp_loop_rounds 1 ?_
  rw [rounds_succ]
  go_wp2
  go_ret
  exact ⟨rfl, rfl⟩
 ·have e : (a == b) = false := by simp [hab]
  rw [e] at heq ⊢
  go_enter Tryz.func30, Tryz.ntmps30
  go_wp2
  refine wp_loop_rounds 1 ?_
  rw [rounds_succ]
  go_wp2
  go_ret
  exact ⟨rfl, rfl⟩
theorem is_nil (b : Int) (w : World) : Calls Tryz.prog 30 #[.nilIface, .iface 32 (.int .i64 b)] w fun e w' => e = .returned (.bool false) ∧ w' = w := by
 have hn := run_eql_iface_nil_left (P := Tryz.prog) w 32 (.int .i64 b) Tryz.underlying28
 go_enter Tryz.func30, Tryz.ntmps30
 go_wp2
 go_ret
 exact ⟨rfl, rfl⟩
set_option maxRecDepth 100000 in
set_option maxHeartbeats 4000000 in
theorem is_spot (pb po : Nat) (a b : Int) (w : World) (h1 : w.cell? ⟨pb, po + 1, none⟩ = some (.iface 32 (.int .i64 a))) :
  Calls Tryz.prog 30 #[.iface 63 (.pointer (some ⟨pb, po, none⟩)), .iface 32 (.int .i64 b)] w fun e w' => e = .returned (.bool (a == b)) ∧ w' = w := by
 have h8 := @run_callFunc_extern Tryz.prog 50 _ Extern.ReflectliteType.typeOf Tryz.func50 (by kernel_rfl) (by kernel_rfl) (by kernel_rfl) (by kernel_rfl)
 have h32 := @run_callFunc_extern Tryz.prog 139 _ (Extern.ReflectliteType.method fun t => do Go.Extern.Rtype.noPackHeld "Comparable" t; pure (.bool (← typeInfo t).comparable)) Tryz.func139 (by kernel_rfl) (by kernel_rfl) (by kernel_rfl) (by kernel_rfl)
 have tT := isTypeOf
 have cT := isComparable
 have mR := isMethodComparable
 have nE := noIs
 have uE := noUnwrap
 have vE := noUnwraps
 have nS := noIsS
 have uS := hasUnwrapS
 have mU := methodUnwrapS
 have heq := Go.Lib.run_eql_iface_int (P := Tryz.prog) w (k := .i64) a b Tryz.underlying28 isComp Tryz.underlying32
 have hty := run_eql_iface_types (P := Tryz.prog) 63 32 (.pointer (some ⟨pb, po, none⟩)) (.int .i64 b) Tryz.underlying28 (by decide) w
 by_cases hab : a = b
 ·subst hab
  have e : (a == a) = true := by simp
  rw [e] at heq ⊢
  clear e
  go_enter Tryz.func30, Tryz.ntmps30
  go_wp2
  refine wp_loop_rounds 2 ?_
  rw [rounds_succ]
  go_wp2
  rw [rounds_succ]
  go_wp2
  go_ret
  exact ⟨rfl, rfl⟩
 ·have e : (a == b) = false := by simp [hab]
  rw [e] at heq ⊢
  go_enter Tryz.func30, Tryz.ntmps30
  go_wp2
  refine wp_loop_rounds 2 ?_
  rw [rounds_succ]
  go_wp2
  rw [rounds_succ]
  go_wp2
  go_ret
  exact ⟨rfl, rfl⟩
end Go.Proofs.YthcjapmfchidhaaGreatDoor
