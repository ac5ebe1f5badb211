/-
  The law of what stays, run by the kernel at the bytes from 0 on.
-/
import Derived.Test.YtciolmakcmpjaaaDoorAmS04s

namespace Go.Proofs.YtciolmakcmpjaaaDoor
open Go Go.Proofs.Am
theorem law6_0_0 (m : Int) : (List.range' 0 8).map (fun n => runV m (.ofNat n)) = List.replicate 8 yesV := by kernel_rfl
theorem law6_0_1 (m : Int) : (List.range' 8 8).map (fun n => runV m (.ofNat n)) = List.replicate 8 yesV := by kernel_rfl
theorem law6_0_2 (m : Int) : (List.range' 16 8).map (fun n => runV m (.ofNat n)) = List.replicate 8 yesV := by kernel_rfl
theorem law6_0_3 (m : Int) : (List.range' 24 8).map (fun n => runV m (.ofNat n)) = List.replicate 8 yesV := by kernel_rfl
theorem law6_0_4 (m : Int) : (List.range' 32 8).map (fun n => runV m (.ofNat n)) = List.replicate 8 yesV := by kernel_rfl
theorem law6_0_5 (m : Int) : (List.range' 40 8).map (fun n => runV m (.ofNat n)) = List.replicate 8 yesV := by kernel_rfl
end Go.Proofs.YtciolmakcmpjaaaDoor
