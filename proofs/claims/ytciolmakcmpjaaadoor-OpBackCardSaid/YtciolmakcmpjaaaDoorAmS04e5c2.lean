/-
  The machine, run by the kernel at the bytes from 96 on.
-/
import Derived.Test.YtciolmakcmpjaaaDoorAmS04e
namespace Go.Proofs.YtciolmakcmpjaaaDoor
open Go Go.Proofs.Am
theorem law5_2_0 (m : Int) : (List.range' 96 12).map (fun n => runI 5 m (.ofNat n)) = List.replicate 12 yes := by kernel_rfl
theorem law5_2_1 (m : Int) : (List.range' 108 12).map (fun n => runI 5 m (.ofNat n)) = List.replicate 12 yes := by kernel_rfl
theorem law5_2_2 (m : Int) : (List.range' 120 12).map (fun n => runI 5 m (.ofNat n)) = List.replicate 12 yes := by kernel_rfl
theorem law5_2_3 (m : Int) : (List.range' 132 12).map (fun n => runI 5 m (.ofNat n)) = List.replicate 12 yes := by kernel_rfl
theorem law5_2 (m : Int) : (List.range' 96 48).map (fun n => runI 5 m (.ofNat n)) = List.replicate 48 yes := by
  have e : List.range' 96 48 = List.range' 96 12 ++ (List.range' 108 12 ++ (List.range' 120 12 ++ List.range' 132 12)) := by kernel_rfl
  rw [e, List.map_append, List.map_append, List.map_append, law5_2_0, law5_2_1, law5_2_2, law5_2_3]
  have h : List.replicate 12 yes ++ (List.replicate 12 yes ++ (List.replicate 12 yes ++ (List.replicate 12 yes))) = List.replicate 48 yes := by kernel_rfl
  exact h
end Go.Proofs.YtciolmakcmpjaaaDoor
