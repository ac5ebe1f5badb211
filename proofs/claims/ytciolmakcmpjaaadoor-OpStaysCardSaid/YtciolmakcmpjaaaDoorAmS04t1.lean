/-
  The law of what stays, run by the kernel at the bytes from 48 on.
-/
import Derived.Test.YtciolmakcmpjaaaDoorAmS04s

namespace Go.Proofs.YtciolmakcmpjaaaDoor
open Go Go.Proofs.Am
theorem law6_1_0 (m : Int) : (List.range' 48 8).map (fun n => runV m (.ofNat n)) = List.replicate 8 yesV := by kernel_rfl
theorem law6_1_1 (m : Int) : (List.range' 56 8).map (fun n => runV m (.ofNat n)) = List.replicate 8 yesV := by kernel_rfl
theorem law6_1_2 (m : Int) : (List.range' 64 8).map (fun n => runV m (.ofNat n)) = List.replicate 8 yesV := by kernel_rfl
theorem law6_1_3 (m : Int) : (List.range' 72 8).map (fun n => runV m (.ofNat n)) = List.replicate 8 yesV := by kernel_rfl
theorem law6_1_4 (m : Int) : (List.range' 80 8).map (fun n => runV m (.ofNat n)) = List.replicate 8 yesV := by kernel_rfl
theorem law6_1_5 (m : Int) : (List.range' 88 8).map (fun n => runV m (.ofNat n)) = List.replicate 8 yesV := by kernel_rfl
end Go.Proofs.YtciolmakcmpjaaaDoor
