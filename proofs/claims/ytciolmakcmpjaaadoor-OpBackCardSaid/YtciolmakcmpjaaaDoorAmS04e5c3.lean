/-
  The machine, run by the kernel at the bytes from 144 on.
-/
import Derived.Test.YtciolmakcmpjaaaDoorAmS04e
namespace Go.Proofs.YtciolmakcmpjaaaDoor
open Go Go.Proofs.Am
theorem law5_3_0 (m : Int) : (List.range' 144 12).map (fun n => runI 5 m (.ofNat n)) = List.replicate 12 yes := by kernel_rfl
theorem law5_3_1 (m : Int) : (List.range' 156 12).map (fun n => runI 5 m (.ofNat n)) = List.replicate 12 yes := by kernel_rfl
theorem law5_3_2 (m : Int) : (List.range' 168 12).map (fun n => runI 5 m (.ofNat n)) = List.replicate 12 yes := by kernel_rfl
theorem law5_3_3 (m : Int) : (List.range' 180 12).map (fun n => runI 5 m (.ofNat n)) = List.replicate 12 yes := by kernel_rfl
theorem law5_3 (m : Int) : (List.range' 144 48).map (fun n => runI 5 m (.ofNat n)) = List.replicate 48 yes := by
  have e : List.range' 144 48 = List.range' 144 12 ++ (List.range' 156 12 ++ (List.range' 168 12 ++ List.range' 180 12)) := by kernel_rfl
  rw [e, List.map_append, List.map_append, List.map_append, law5_3_0, law5_3_1, law5_3_2, law5_3_3]
  have h : List.replicate 12 yes ++ (List.replicate 12 yes ++ (List.replicate 12 yes ++ (List.replicate 12 yes))) = List.replicate 48 yes := by kernel_rfl
  exact h
end Go.Proofs.YtciolmakcmpjaaaDoor
