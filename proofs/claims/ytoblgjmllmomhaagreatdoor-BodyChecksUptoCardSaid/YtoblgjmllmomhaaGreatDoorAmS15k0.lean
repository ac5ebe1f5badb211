/-
  The machine, run by the kernel at the bytes from 0 on.
-/
import Derived.Test.YtoblgjmllmomhaaGreatDoorAmS15c
namespace Go.Proofs.YtoblgjmllmomhaaGreatDoor
open Go Go.Proofs.Am
theorem chunk_0_0 (m : Int) : (List.range' 0 12).map (fun n => run8 m (.ofNat n)) = ((lookL0.drop 0).take 12).map some := by kernel_rfl
theorem chunk_0_1 (m : Int) : (List.range' 12 12).map (fun n => run8 m (.ofNat n)) = ((lookL0.drop 12).take 12).map some := by kernel_rfl
theorem chunk_0_2 (m : Int) : (List.range' 24 12).map (fun n => run8 m (.ofNat n)) = ((lookL0.drop 24).take 12).map some := by kernel_rfl
theorem chunk_0_3 (m : Int) : (List.range' 36 12).map (fun n => run8 m (.ofNat n)) = ((lookL0.drop 36).take 12).map some := by kernel_rfl
theorem chunk_0 (m : Int) : (List.range' 0 48).map (fun n => run8 m (.ofNat n)) = lookL0.map some := by
 have e : List.range' 0 48 = List.range' 0 12 ++ (List.range' 12 12 ++ (List.range' 24 12 ++ List.range' 36 12)) := by kernel_rfl
 rw [e, List.map_append, List.map_append, List.map_append, chunk_0_0, chunk_0_1, chunk_0_2, chunk_0_3]
 have h : ((lookL0.drop 0).take 12).map some ++ (((lookL0.drop 12).take 12).map some ++ (((lookL0.drop 24).take 12).map some ++ (((lookL0.drop 36).take 12).map some))) = lookL0.map some := by kernel_rfl
 exact h
end Go.Proofs.YtoblgjmllmomhaaGreatDoor
namespace Go.Proofs.YtoblgjmllmomhaaGreatDoor
open Go Go.Proofs.Am
theorem chunk_1_0 (m : Int) : (List.range' 48 12).map (fun n => run8 m (.ofNat n)) = ((lookL1.drop 0).take 12).map some := by kernel_rfl
theorem chunk_1_1 (m : Int) : (List.range' 60 12).map (fun n => run8 m (.ofNat n)) = ((lookL1.drop 12).take 12).map some := by kernel_rfl
theorem chunk_1_2 (m : Int) : (List.range' 72 12).map (fun n => run8 m (.ofNat n)) = ((lookL1.drop 24).take 12).map some := by kernel_rfl
theorem chunk_1_3 (m : Int) : (List.range' 84 12).map (fun n => run8 m (.ofNat n)) = ((lookL1.drop 36).take 12).map some := by kernel_rfl
theorem chunk_1 (m : Int) : (List.range' 48 48).map (fun n => run8 m (.ofNat n)) = lookL1.map some := by
 have e : List.range' 48 48 = List.range' 48 12 ++ (List.range' 60 12 ++ (List.range' 72 12 ++ List.range' 84 12)) := by kernel_rfl
 rw [e, List.map_append, List.map_append, List.map_append, chunk_1_0, chunk_1_1, chunk_1_2, chunk_1_3]
 have h : ((lookL1.drop 0).take 12).map some ++ (((lookL1.drop 12).take 12).map some ++ (((lookL1.drop 24).take 12).map some ++ (((lookL1.drop 36).take 12).map some))) = lookL1.map some := by kernel_rfl
 exact h
end Go.Proofs.YtoblgjmllmomhaaGreatDoor
