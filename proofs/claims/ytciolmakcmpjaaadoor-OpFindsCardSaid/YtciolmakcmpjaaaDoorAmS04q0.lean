/-
  The machine, run by the kernel at the names from 0 on.
-/
import Derived.Test.YtciolmakcmpjaaaDoorAmS04p
namespace Go.Proofs.YtciolmakcmpjaaaDoor
open Go Go.Proofs.Am
theorem law4_0 (m : Int) : (List.range' 0 6).map (fun i => runS m i) = List.replicate 6 yes := by kernel_rfl
theorem law4_1 (m : Int) : (List.range' 6 6).map (fun i => runS m i) = List.replicate 6 yes := by kernel_rfl
theorem law4_2 (m : Int) : (List.range' 12 6).map (fun i => runS m i) = List.replicate 6 yes := by kernel_rfl
theorem law4_3 (m : Int) : (List.range' 18 6).map (fun i => runS m i) = List.replicate 6 yes := by kernel_rfl
theorem law4_4 (m : Int) : (List.range' 24 6).map (fun i => runS m i) = List.replicate 6 yes := by kernel_rfl
theorem law4_5 (m : Int) : (List.range' 30 6).map (fun i => runS m i) = List.replicate 6 yes := by kernel_rfl
theorem law4_6 (m : Int) : (List.range' 36 6).map (fun i => runS m i) = List.replicate 6 yes := by kernel_rfl
theorem law4_7 (m : Int) : (List.range' 42 6).map (fun i => runS m i) = List.replicate 6 yes := by kernel_rfl
theorem law4_8 (m : Int) : (List.range' 48 6).map (fun i => runS m i) = List.replicate 6 yes := by kernel_rfl
end Go.Proofs.YtciolmakcmpjaaaDoor
