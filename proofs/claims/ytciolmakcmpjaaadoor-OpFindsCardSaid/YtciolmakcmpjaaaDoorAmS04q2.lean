/-
  The machine, run by the kernel at the names from 54 on.
-/
import Derived.Test.YtciolmakcmpjaaaDoorAmS04p
namespace Go.Proofs.YtciolmakcmpjaaaDoor
open Go Go.Proofs.Am
theorem law4_9 (m : Int) : (List.range' 54 6).map (fun i => runS m i) = List.replicate 6 yes := by kernel_rfl
theorem law4_10 (m : Int) : (List.range' 60 6).map (fun i => runS m i) = List.replicate 6 yes := by kernel_rfl
theorem law4_11 (m : Int) : (List.range' 66 6).map (fun i => runS m i) = List.replicate 6 yes := by kernel_rfl
theorem law4_12 (m : Int) : (List.range' 72 6).map (fun i => runS m i) = List.replicate 6 yes := by kernel_rfl
theorem law4_13 (m : Int) : (List.range' 78 6).map (fun i => runS m i) = List.replicate 6 yes := by kernel_rfl
theorem law4_14 (m : Int) : (List.range' 84 6).map (fun i => runS m i) = List.replicate 6 yes := by kernel_rfl
theorem law4_15 (m : Int) : (List.range' 90 6).map (fun i => runS m i) = List.replicate 6 yes := by kernel_rfl
theorem law4_16 (m : Int) : (List.range' 96 6).map (fun i => runS m i) = List.replicate 6 yes := by kernel_rfl
end Go.Proofs.YtciolmakcmpjaaaDoor
