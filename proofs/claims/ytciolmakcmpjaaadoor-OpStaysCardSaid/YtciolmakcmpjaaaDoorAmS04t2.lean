/-
  The law of what stays, run by the kernel at the bytes from 96 on.
-/
import Derived.Test.YtciolmakcmpjaaaDoorAmS04s

namespace Go.Proofs.YtciolmakcmpjaaaDoor
open Go Go.Proofs.Am
theorem law6_2_0 (m : Int) : (List.range' 96 8).map (fun n => runV m (.ofNat n)) = List.replicate 8 yesV := by kernel_rfl
theorem law6_2_1 (m : Int) : (List.range' 104 8).map (fun n => runV m (.ofNat n)) = List.replicate 8 yesV := by kernel_rfl
theorem law6_2_2 (m : Int) : (List.range' 112 8).map (fun n => runV m (.ofNat n)) = List.replicate 8 yesV := by kernel_rfl
theorem law6_2_3 (m : Int) : (List.range' 120 8).map (fun n => runV m (.ofNat n)) = List.replicate 8 yesV := by kernel_rfl
theorem law6_2_4 (m : Int) : (List.range' 128 8).map (fun n => runV m (.ofNat n)) = List.replicate 8 yesV := by kernel_rfl
theorem law6_2_5 (m : Int) : (List.range' 136 8).map (fun n => runV m (.ofNat n)) = List.replicate 8 yesV := by kernel_rfl
end Go.Proofs.YtciolmakcmpjaaaDoor
