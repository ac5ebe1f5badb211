/-
  The machine, run by the kernel at the bytes from 48 on.
-/
import Derived.Test.YtciolmakcmpjaaaDoorAmS04e
namespace Go.Proofs.YtciolmakcmpjaaaDoor
open Go Go.Proofs.Am
theorem law5_1_0 (m : Int) : (List.range' 48 12).map (fun n => runI 5 m (.ofNat n)) = List.replicate 12 yes := by kernel_rfl
theorem law5_1_1 (m : Int) : (List.range' 60 12).map (fun n => runI 5 m (.ofNat n)) = List.replicate 12 yes := by kernel_rfl
theorem law5_1_2 (m : Int) : (List.range' 72 12).map (fun n => runI 5 m (.ofNat n)) = List.replicate 12 yes := by kernel_rfl
theorem law5_1_3 (m : Int) : (List.range' 84 12).map (fun n => runI 5 m (.ofNat n)) = List.replicate 12 yes := by kernel_rfl
theorem law5_1 (m : Int) : (List.range' 48 48).map (fun n => runI 5 m (.ofNat n)) = List.replicate 48 yes := by
  have e : List.range' 48 48 = List.range' 48 12 ++ (List.range' 60 12 ++ (List.range' 72 12 ++ List.range' 84 12)) := by kernel_rfl
  rw [e, List.map_append, List.map_append, List.map_append, law5_1_0, law5_1_1, law5_1_2, law5_1_3]
  have h : List.replicate 12 yes ++ (List.replicate 12 yes ++ (List.replicate 12 yes ++ (List.replicate 12 yes))) = List.replicate 48 yes := by kernel_rfl
  exact h
end Go.Proofs.YtciolmakcmpjaaaDoor
