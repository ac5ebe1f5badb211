/-
  The machine for trees: op.Look by its table, slices.Clone by its contract; texts are cut at their loops.
-/
import Derived.Test.YtmgjnbhofkchmaaDoorAmRowX
import Derived.Test.YtmgjnbhofkchmaaDoorProg
import Derived.Shelf.Slices.Clone
import Derived.Test.YtmgjnbhofkchmaaDoorAmS05d
/-
  slices.Clone of numbers, by the library's contract, as a call of the machine.
-/
namespace Go.Proofs
open Go.Shelf
def Tryd.laysC_ren : Go.Shelf.Ren := ⟨fun | 15 => 28 | n => n, fun | 22 => 41 | 3 => 3 | 4 => 4 | n => n, fun | n => n⟩
theorem Tryd.laysC : Go.Proofs.Lays2.n15 Tryd.prog Tryd.laysC_ren := {
  mixed := by kernel_rfl
  f15 := Tryd.func28.trans (congrArg some (by kernel_rfl))
  t3 := Tryd.underlying3
  a3 := Tryd.isAgg3
  z3 := Tryd.sizeOf3
  v3 := Tryd.zeroValue3
  t4 := Tryd.underlying4
  a4 := Tryd.isAgg4
  z4 := Tryd.sizeOf4
  v4 := Tryd.zeroValue4
  t22 := Tryd.underlying41
  a22 := Tryd.isAgg41
  z22 := Tryd.sizeOf41
  v22 := Tryd.zeroValue41
  i3 := by kernel_rfl }
end Go.Proofs
namespace Go.Proofs.YtmgjnbhofkchmaaDoor
open Go Go.Proofs.Am
theorem clone28 {cx : Cx} (hP : cx.P = Tryd.prog) : ExtOk cx 28 cloneE :=
  clone_ok (t := 3) (by rw [hP]; exact Any.slices_Clone_int Tryd.laysC) (by rw [hP]; exact Any.slices_Clone_int_nil Tryd.laysC) (by rw [hP]; exact Any.slices_Clone_int_zero Tryd.laysC)
end Go.Proofs.YtmgjnbhofkchmaaDoor


namespace Go.Proofs.YtmgjnbhofkchmaaDoor
open Go Go.Proofs.Am
def extZ (f : Nat) : Option (List LV → Option LV) := bif Nat.beq f 54 then some lookE else bif Nat.beq f 28 then some cloneE else none
/-- Cuts of the laws' own texts, beside the loops'. -/
def cutZ (f id : Nat) : Option Keep :=
  match f, id with
  | 4, 5 => some ⟨[1, 2, 3, 7], [(0, 11)], 1⟩
  | 4, 7 => some ⟨[2, 3, 7], [(0, 11)], 1⟩
  | 4, 14 => some ⟨[2, 3, 7], [(0, 11)], 2⟩
  | 4, 16 => some ⟨[2, 3, 7, 12, 13, 14, 15, 16], [(0, 11)], 2⟩
  | _, _ => cutF f id
noncomputable def cxZ (m : Int) : Cx := { cxS m with cut := cutZ, ext := extZ }
theorem cxZ_ok (m : Int) : CxOk (cxZ m) where
  names := names_ok
  ext := fun f e h => by
    have h : extZ f = some e := h
    unfold extZ at h
    cases hb : Nat.beq f 54 with
    | false =>
      rw [hb, cond_false] at h
      cases hc : Nat.beq f 28 with
      | false => rw [hc] at h; cases h
      | true =>
        rw [hc] at h
        cases h
        have := Nat.eq_of_beq_eq_true hc
        subst this
        obtain ⟨c, hc, _⟩ := body_of Tryd.func28 (by kernel_rfl)
        exact ⟨clone28 rfl, _, c, Tryd.func28, hc⟩
    | true =>
      rw [hb] at h
      cases h
      have := Nat.eq_of_beq_eq_true hb
      subst this
      exact look_ok (m := m) rfl rfl
  mixed := by kernel_rfl
  globs := globs_ok m

/-- What op.Look tells has its shape. -/
def lookShape : LV → Bool
  | .tup [.agg [.int .i64 _, .str _, .int .i64 _, .imm _, .int .i64 _, .int .i64 _, .bool _], .nilI] => true
  | .tup [.agg [.int .i64 _, .str _, .int .i64 _, .imm _, .int .i64 _, .int .i64 _, .bool _], .ifc _ _] => true
  | _ => false
end Go.Proofs.YtmgjnbhofkchmaaDoor
