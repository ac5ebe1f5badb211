/-
  The machine, run by the kernel at the bytes from 0 on.
-/
import Derived.Test.YtciolmakcmpjaaaDoorAmS04e
namespace Go.Proofs.YtciolmakcmpjaaaDoor
open Go Go.Proofs.Am
theorem law5_0_0 (m : Int) : (List.range' 0 12).map (fun n => runI 5 m (.ofNat n)) = List.replicate 12 yes := by kernel_rfl
theorem law5_0_1 (m : Int) : (List.range' 12 12).map (fun n => runI 5 m (.ofNat n)) = List.replicate 12 yes := by kernel_rfl
theorem law5_0_2 (m : Int) : (List.range' 24 12).map (fun n => runI 5 m (.ofNat n)) = List.replicate 12 yes := by kernel_rfl
theorem law5_0_3 (m : Int) : (List.range' 36 12).map (fun n => runI 5 m (.ofNat n)) = List.replicate 12 yes := by kernel_rfl
theorem law5_0 (m : Int) : (List.range' 0 48).map (fun n => runI 5 m (.ofNat n)) = List.replicate 48 yes := by
  have e : List.range' 0 48 = List.range' 0 12 ++ (List.range' 12 12 ++ (List.range' 24 12 ++ List.range' 36 12)) := by kernel_rfl
  rw [e, List.map_append, List.map_append, List.map_append, law5_0_0, law5_0_1, law5_0_2, law5_0_3]
  have h : List.replicate 12 yes ++ (List.replicate 12 yes ++ (List.replicate 12 yes ++ (List.replicate 12 yes))) = List.replicate 48 yes := by kernel_rfl
  exact h
end Go.Proofs.YtciolmakcmpjaaaDoor
