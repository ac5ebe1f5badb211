/-
  slices.Clone of numbers, by the library's contract, as a call of the machine.
-/
import Derived.Test.YtmgjnbhofkchmaaDoorAmRowX
import Derived.Test.YtmgjnbhofkchmaaDoorProg
import Derived.Shelf.Slices.Clone

namespace Go.Proofs
open Go.Shelf
def Tryd.laysC_ren : Go.Shelf.Ren := ⟨fun | 15 => 28 | n => n, fun | 22 => 41 | 3 => 3 | 4 => 4 | n => n, fun | n => n⟩
theorem Tryd.laysC : Go.Proofs.Lays2.n15 Tryd.prog Tryd.laysC_ren := {
  mixed := by kernel_rfl
  f15 := Tryd.func28.trans (congrArg some (by kernel_rfl))
  t3 := Tryd.underlying3
  a3 := Tryd.isAgg3
  z3 := Tryd.sizeOf3
  v3 := Tryd.zeroValue3
  t4 := Tryd.underlying4
  a4 := Tryd.isAgg4
  z4 := Tryd.sizeOf4
  v4 := Tryd.zeroValue4
  t22 := Tryd.underlying41
  a22 := Tryd.isAgg41
  z22 := Tryd.sizeOf41
  v22 := Tryd.zeroValue41
  i3 := by kernel_rfl }
end Go.Proofs
namespace Go.Proofs.YtmgjnbhofkchmaaDoor
open Go Go.Proofs.Am
theorem clone28 {cx : Cx} (hP : cx.P = Tryd.prog) : ExtOk cx 28 cloneE :=
  clone_ok (t := 3) (by rw [hP]; exact Any.slices_Clone_int Tryd.laysC) (by rw [hP]; exact Any.slices_Clone_int_nil Tryd.laysC) (by rw [hP]; exact Any.slices_Clone_int_zero Tryd.laysC)
end Go.Proofs.YtmgjnbhofkchmaaDoor
