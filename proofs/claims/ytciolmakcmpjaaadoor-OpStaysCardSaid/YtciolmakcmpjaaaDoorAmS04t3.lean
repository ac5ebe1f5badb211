/-
  The law of what stays, run by the kernel at the bytes from 144 on.
-/
import Derived.Test.YtciolmakcmpjaaaDoorAmS04s

namespace Go.Proofs.YtciolmakcmpjaaaDoor
open Go Go.Proofs.Am
theorem law6_3_0 (m : Int) : (List.range' 144 8).map (fun n => runV m (.ofNat n)) = List.replicate 8 yesV := by kernel_rfl
theorem law6_3_1 (m : Int) : (List.range' 152 8).map (fun n => runV m (.ofNat n)) = List.replicate 8 yesV := by kernel_rfl
theorem law6_3_2 (m : Int) : (List.range' 160 8).map (fun n => runV m (.ofNat n)) = List.replicate 8 yesV := by kernel_rfl
theorem law6_3_3 (m : Int) : (List.range' 168 8).map (fun n => runV m (.ofNat n)) = List.replicate 8 yesV := by kernel_rfl
theorem law6_3_4 (m : Int) : (List.range' 176 8).map (fun n => runV m (.ofNat n)) = List.replicate 8 yesV := by kernel_rfl
theorem law6_3_5 (m : Int) : (List.range' 184 8).map (fun n => runV m (.ofNat n)) = List.replicate 8 yesV := by kernel_rfl
end Go.Proofs.YtciolmakcmpjaaaDoor
