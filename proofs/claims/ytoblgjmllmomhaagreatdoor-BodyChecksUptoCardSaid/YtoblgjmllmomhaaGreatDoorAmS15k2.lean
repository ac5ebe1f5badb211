/-
  The machine, run by the kernel at the bytes from 96 on.
-/
import Derived.Test.YtoblgjmllmomhaaGreatDoorAmS15c
namespace Go.Proofs.YtoblgjmllmomhaaGreatDoor
open Go Go.Proofs.Am
theorem chunk_2_0 (m : Int) : (List.range' 96 12).map (fun n => run8 m (.ofNat n)) = ((lookL2.drop 0).take 12).map some := by kernel_rfl
theorem chunk_2_1 (m : Int) : (List.range' 108 12).map (fun n => run8 m (.ofNat n)) = ((lookL2.drop 12).take 12).map some := by kernel_rfl
theorem chunk_2_2 (m : Int) : (List.range' 120 12).map (fun n => run8 m (.ofNat n)) = ((lookL2.drop 24).take 12).map some := by kernel_rfl
theorem chunk_2_3 (m : Int) : (List.range' 132 12).map (fun n => run8 m (.ofNat n)) = ((lookL2.drop 36).take 12).map some := by kernel_rfl
theorem chunk_2 (m : Int) : (List.range' 96 48).map (fun n => run8 m (.ofNat n)) = lookL2.map some := by
 have e : List.range' 96 48 = List.range' 96 12 ++ (List.range' 108 12 ++ (List.range' 120 12 ++ List.range' 132 12)) := by kernel_rfl
 rw [e, List.map_append, List.map_append, List.map_append, chunk_2_0, chunk_2_1, chunk_2_2, chunk_2_3]
 have h : ((lookL2.drop 0).take 12).map some ++ (((lookL2.drop 12).take 12).map some ++ (((lookL2.drop 24).take 12).map some ++ (((lookL2.drop 36).take 12).map some))) = lookL2.map some := by kernel_rfl
 exact h
end Go.Proofs.YtoblgjmllmomhaaGreatDoor
namespace Go.Proofs.YtoblgjmllmomhaaGreatDoor
open Go Go.Proofs.Am
theorem chunk_3_0 (m : Int) : (List.range' 144 12).map (fun n => run8 m (.ofNat n)) = ((lookL3.drop 0).take 12).map some := by kernel_rfl
theorem chunk_3_1 (m : Int) : (List.range' 156 12).map (fun n => run8 m (.ofNat n)) = ((lookL3.drop 12).take 12).map some := by kernel_rfl
theorem chunk_3_2 (m : Int) : (List.range' 168 12).map (fun n => run8 m (.ofNat n)) = ((lookL3.drop 24).take 12).map some := by kernel_rfl
theorem chunk_3_3 (m : Int) : (List.range' 180 12).map (fun n => run8 m (.ofNat n)) = ((lookL3.drop 36).take 12).map some := by kernel_rfl
theorem chunk_3 (m : Int) : (List.range' 144 48).map (fun n => run8 m (.ofNat n)) = lookL3.map some := by
 have e : List.range' 144 48 = List.range' 144 12 ++ (List.range' 156 12 ++ (List.range' 168 12 ++ List.range' 180 12)) := by kernel_rfl
 rw [e, List.map_append, List.map_append, List.map_append, chunk_3_0, chunk_3_1, chunk_3_2, chunk_3_3]
 have h : ((lookL3.drop 0).take 12).map some ++ (((lookL3.drop 12).take 12).map some ++ (((lookL3.drop 24).take 12).map some ++ (((lookL3.drop 36).take 12).map some))) = lookL3.map some := by kernel_rfl
 exact h
end Go.Proofs.YtoblgjmllmomhaaGreatDoor
