/-
  errors.Is at numbers, and at an api.Spot that tells one.
-/
import Derived.Test.YthcjapmfchidhaaDoorProg
import Derived.WalkKit
import Derived.LaidEql
import Derived.Stop.Asserts
import Derived.RowKitTokens
import Derived.Lib.IfaceEq
namespace Go.Proofs.YthcjapmfchidhaaDoor
open Go Go.RowKit Go.Extern.Stop Go.Stop Go.Extern
theorem isTypeOf (v : Value) (w : World) : (Extern.ReflectliteType.typeOf #[.iface 39 v]).run Tryd.prog w = .ok (.iface 96 (.agg #[.pointer (some ⟨5, 39, none⟩)])) w := by kernel_rfl
theorem isComparable (w : World) : ((Extern.ReflectliteType.method fun t => do Go.Extern.Rtype.noPackHeld "Comparable" t; (fun a => Value.bool a.comparable) <$> typeInfo t) #[.agg #[.pointer (some ⟨5, 39, none⟩)]]).run Tryd.prog w = .ok (.bool true) w := by kernel_rfl
theorem isMethodComparable (v : Value) (w : World) : (Go.method 288 96 v "Comparable").run Tryd.prog w = .ok (107, v) w := by kernel_rfl
theorem isComp : (Tryd.prog.info? 39).map (·.comparable) = some true := by kernel_rfl
theorem noIs (v : Value) (xT : TypeId) (w : World) : (Instr.typeAssert (.iface 39 v) xT 108 true).run Tryd.prog w = .ok (.tuple #[.nilIface, .bool false]) w := run_typeAssert_lacksB Tryd.underlying108 (by kernel_rfl) (by kernel_rfl) v xT w
theorem noUnwrap (v : Value) (xT : TypeId) (w : World) : (Instr.typeAssert (.iface 39 v) xT 103 true).run Tryd.prog w = .ok (.tuple #[.nilIface, .bool false]) w := run_typeAssert_lacksB Tryd.underlying103 (by kernel_rfl) (by kernel_rfl) v xT w
theorem noUnwraps (v : Value) (xT : TypeId) (w : World) : (Instr.typeAssert (.iface 39 v) xT 105 true).run Tryd.prog w = .ok (.tuple #[.nilIface, .bool false]) w := run_typeAssert_lacksB Tryd.underlying105 (by kernel_rfl) (by kernel_rfl) v xT w
theorem noIsS (v : Value) (xT : TypeId) (w : World) : (Instr.typeAssert (.iface 48 v) xT 108 true).run Tryd.prog w = .ok (.tuple #[.nilIface, .bool false]) w := run_typeAssert_lacksB Tryd.underlying108 (by kernel_rfl) (by kernel_rfl) v xT w
theorem hasUnwrapS (v : Value) (xT : TypeId) (w : World) : (Instr.typeAssert (.iface 48 v) xT 103 true).run Tryd.prog w = .ok (.tuple #[.iface 48 v, .bool true]) w := run_typeAssert_hasB Tryd.underlying103 (by kernel_rfl) v xT w
theorem methodUnwrapS (v : Value) (w : World) : (Go.method 288 48 v "Unwrap").run Tryd.prog w = .ok (101, v) w := by kernel_rfl
set_option maxRecDepth 100000 in
set_option maxHeartbeats 2000000 in
theorem is_num (a b : Int) (w : World) : Calls Tryd.prog 14 #[.iface 39 (.int .i64 a), .iface 39 (.int .i64 b)] w fun e w' => e = .returned (.bool (a == b)) ∧ w' = w := by
 have h8 := @run_callFunc_extern Tryd.prog 26 _ Extern.ReflectliteType.typeOf Tryd.func26 (by kernel_rfl) (by kernel_rfl) (by kernel_rfl) (by kernel_rfl)
 have h32 := @run_callFunc_extern Tryd.prog 107 _ (Extern.ReflectliteType.method fun t => do Go.Extern.Rtype.noPackHeld "Comparable" t; pure (.bool (← typeInfo t).comparable)) Tryd.func107 (by kernel_rfl) (by kernel_rfl) (by kernel_rfl) (by kernel_rfl)
 have tT := isTypeOf
 have cT := isComparable
 have mR := isMethodComparable
 have nE := noIs
 have uE := noUnwrap
 have vE := noUnwraps
 have heq := Go.Lib.run_eql_iface_int (P := Tryd.prog) w (k := .i64) a b Tryd.underlying28 isComp Tryd.underlying39
 by_cases hab : a = b
 ·subst hab
  have e : (a == a) = true := by simp
  rw [e] at heq ⊢
  clear e
  go_enter Tryd.func14, Tryd.ntmps14
  go_wp2
  refine wp_loop_rounds 1 ?_
  rw [rounds_succ]
  go_wp2
  go_ret
  exact ⟨rfl, rfl⟩
 ·have e : (a == b) = false := by simp [hab]
  rw [e] at heq ⊢
  go_enter Tryd.func14, Tryd.ntmps14
  go_wp2
  refine wp_loop_rounds 1 ?_
  rw [rounds_succ]
  go_wp2
  go_ret
  exact ⟨rfl, rfl⟩
theorem is_nil (b : Int) (w : World) : Calls Tryd.prog 14 #[.nilIface, .iface 39 (.int .i64 b)] w fun e w' => e = .returned (.bool false) ∧ w' = w := by
 have hn := run_eql_iface_nil_left (P := Tryd.prog) w 39 (.int .i64 b) Tryd.underlying28
 go_enter Tryd.func14, Tryd.ntmps14
 go_wp2
 go_ret
 exact ⟨rfl, rfl⟩
set_option maxRecDepth 100000 in
set_option maxHeartbeats 4000000 in
theorem is_spot (pb po : Nat) (a b : Int) (w : World) (h1 : w.cell? ⟨pb, po + 1, none⟩ = some (.iface 39 (.int .i64 a))) :
  Calls Tryd.prog 14 #[.iface 48 (.pointer (some ⟨pb, po, none⟩)), .iface 39 (.int .i64 b)] w fun e w' => e = .returned (.bool (a == b)) ∧ w' = w := by
 have h8 := @run_callFunc_extern Tryd.prog 26 _ Extern.ReflectliteType.typeOf Tryd.func26 (by kernel_rfl) (by kernel_rfl) (by kernel_rfl) (by kernel_rfl)
 have h32 := @run_callFunc_extern Tryd.prog 107 _ (Extern.ReflectliteType.method fun t => do Go.Extern.Rtype.noPackHeld "Comparable" t; pure (.bool (← typeInfo t).comparable)) Tryd.func107 (by kernel_rfl) (by kernel_rfl) (by kernel_rfl) (by kernel_rfl)
 have tT := isTypeOf
 have cT := isComparable
 have mR := isMethodComparable
 have nE := noIs
 have uE := noUnwrap
 have vE := noUnwraps
 have nS := noIsS
 have uS := hasUnwrapS
 have mU := methodUnwrapS
 have heq := Go.Lib.run_eql_iface_int (P := Tryd.prog) w (k := .i64) a b Tryd.underlying28 isComp Tryd.underlying39
 have hty := run_eql_iface_types (P := Tryd.prog) 48 39 (.pointer (some ⟨pb, po, none⟩)) (.int .i64 b) Tryd.underlying28 (by decide) w
 by_cases hab : a = b
 ·subst hab
  have e : (a == a) = true := by simp
  rw [e] at heq ⊢
  clear e
  go_enter Tryd.func14, Tryd.ntmps14
  go_wp2
  refine wp_loop_rounds 2 ?_
  rw [rounds_succ]
  go_wp2
  rw [rounds_succ]
  go_wp2
  go_ret
  exact ⟨rfl, rfl⟩
 ·have e : (a == b) = false := by simp [hab]
  rw [e] at heq ⊢
  go_enter Tryd.func14, Tryd.ntmps14
  go_wp2
  refine wp_loop_rounds 2 ?_
  rw [rounds_succ]
  go_wp2
  rw [rounds_succ]
  go_wp2
  go_ret
  exact ⟨rfl, rfl⟩
end Go.Proofs.YthcjapmfchidhaaDoor
