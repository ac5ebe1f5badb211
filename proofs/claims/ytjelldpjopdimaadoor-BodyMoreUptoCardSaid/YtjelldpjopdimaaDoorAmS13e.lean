/-
  The machine for code's types: op.Look by its table, the innermost block by a contract that only looks, what takes types by a contract.
-/
import Derived.Test.YtjelldpjopdimaaDoorAmS13d
import Derived.Test.YtjelldpjopdimaaDoorAmGrown

namespace Go.Proofs.YtjelldpjopdimaaDoor
open Go Go.Proofs.Am
def extZ (f : Nat) : Option (List LV → Option LV) := bif Nat.beq f 32 then some lookE else none
noncomputable def cxB (m : Int) : Cx := { cxS m with cut := cutF, ext := extZ }
theorem cxB_ok (m : Int) : CxOk (cxB m) where
  names := names_ok
  ext := fun f e h => by
    have h : extZ f = some e := h
    unfold extZ at h
    cases hb : Nat.beq f 32 with
    | false => rw [hb] at h; cases h
    | true =>
      rw [hb] at h
      cases h
      have := Nat.eq_of_beq_eq_true hb
      subst this
      exact look_ok (m := m) rfl rfl
  mixed := by kernel_rfl
  globs := globs_ok m
/-- The innermost block. -/
def topE : List LV → Heap → Option LV
  | [.v (.ptr L 0)], h =>
    match ldP h (.ptr L 8) 1 false with
    | some (.arr n id o (k + 1)) => bif Nat.beq n 4 && Nat.ble k 4611686018427387904 then some (.v (.ptr id (o + k * 4))) else none
    | _ => none
  | _, _ => none
def exrZ (f : Nat) : Option (List LV → Heap → Option LV) := bif Nat.beq f 28 then some topE else none
noncomputable def cxE (m : Int) (e : FuncId → Option (List LV → Heap → Option (LV × Heap))) : Cx := { cxB m with exr := exrZ, exh := e }
end Go.Proofs.YtjelldpjopdimaaDoor
