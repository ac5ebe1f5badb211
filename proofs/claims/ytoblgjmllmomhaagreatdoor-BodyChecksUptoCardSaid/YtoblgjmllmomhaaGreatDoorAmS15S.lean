/-
  What takes types, the last one first, as a contract: the machine's 'take', one by one.
-/
import Derived.Test.YtoblgjmllmomhaaGreatDoorAmExtRun
import Derived.Test.YtoblgjmllmomhaaGreatDoorAmS15k0
import Derived.Test.YtoblgjmllmomhaaGreatDoorAmS15k2
import Derived.RangeFuncWrites
import Derived.Test.YtoblgjmllmomhaaGreatDoorAmSym
import Derived.RangeFuncNested
import Derived.RangeFuncBound
import Derived.RangeFuncCalls
import Derived.RangeFuncLeaves
import Derived.Shelf.Abstract
import Derived.Shelf.RegionOpen
import Derived.WalkKit
import Derived.OwnWalkIn
import Derived.TacticsInMore
import Derived.LoopNIn
import Derived.LoopIn
import Derived.Test.YtoblgjmllmomhaaGreatDoorProg
namespace Go.Proofs.YtoblgjmllmomhaaGreatDoor
open Go Go.Proofs.Am
theorem namesB : (Tryz.prog.funcs.toList.all fun fn => fn.name != "runtime.NumGoroutine") = true := by kernel_rfl
theorem npA : (AV.snap asciiL).np = true := by kernel_rfl
theorem names_ok (f : FuncId) (fn : Func) (hf : Tryz.prog.funcs[f]? = some fn) : fn.name ≠ "runtime.NumGoroutine" := by
 intro h
 have := List.all_eq_true.1 namesB fn (List.mem_of_getElem? (by simpa using hf))
 simp [h] at this
theorem globs_ok (m : Int) (i : Nat) (cs : List AV) (hi : (cxS m).glob i = some cs) : (AV.snap cs).np = true := by
 match i, hi with
 | 0, hi => cases hi; exact npA
 | 2, hi => cases hi; rfl
 | 1, hi => cases hi
 | n + 3, hi => cases hi
theorem body_of {f : FuncId} {fn : Func} (h : Tryz.prog.funcs[f]? = some fn) (hb : fn.body.isSome = true) : ∃ c, fn.body = some c /\ bodyOf Tryz.prog f = [.code c] := by
 cases hc : fn.body with
 | none => rw [hc] at hb; cases hb
 | some c => exact ⟨c, rfl, by simp only [bodyOf, h, hc]⟩
theorem cut_none {cx : Cx} (h : cx.cut = fun _ _ => none) (f : FuncId) (todo : List Item) : cutAt cx f todo = none := by
 unfold cutAt
 split
 ·rw [h]
 ·rfl
theorem cxS_ok (m : Int) : CxOk (cxS m) where
 names := names_ok
 ext := fun f e h => by
  have h : extF f = some e := h
  unfold extF at h
  split at h
  ·cases h
   obtain ⟨c, hc, _⟩ := body_of Tryz.func118 (by kernel_rfl)
   exact ⟨fields_ok rfl rfl, _, c, Tryz.func118, hc⟩
  ·cases h
   obtain ⟨c, hc, _⟩ := body_of Tryz.func157 (by kernel_rfl)
   exact ⟨contains_ok (m := m) rfl rfl, _, c, Tryz.func157, hc⟩
  ·cases h
 mixed := by kernel_rfl
 globs := globs_ok m
def noneL : LV := .tup [opV 0 (sb []) 0 [] 0 0 false, errV 5]
def lookL : List LV := lookL0 ++ (lookL1 ++ (lookL2 ++ lookL3))
def lookV (z : Int) : LV :=
 match z with
 | .ofNat n => (lookL[n]?).getD noneL
 | .negSucc _ => noneL
theorem big (m : Int) (k : Nat) : run8 m (.ofNat (k + 192)) = some noneL := by kernel_rfl
theorem neg (m : Int) (k : Nat) : run8 m (.negSucc k) = some noneL := by kernel_rfl
theorem lookBig (k : Nat) : lookV (.ofNat (k + 192)) = noneL := by kernel_rfl
theorem chunks (m : Int) : (List.range 192).map (fun n => run8 m (.ofNat n)) = lookL.map some := by
 have e : List.range 192 = List.range' 0 48 ++ (List.range' 48 48 ++ (List.range' 96 48 ++ List.range' 144 48)) := by kernel_rfl
 rw [e, List.map_append, List.map_append, List.map_append, chunk_0, chunk_1, chunk_2, chunk_3]
 simp only [lookL, List.map_append]
theorem run8_eq (m z : Int) : run8 m z = some (lookV z) := by
 cases z with
 | negSucc k => exact neg m k
 | ofNat n =>
  by_cases h : n < 192
  ·have h1 : (((List.range 192).map (fun n => run8 m (.ofNat n)))[n]?) = (lookL.map some)[n]? := by rw [chunks]
   rw [List.getElem?_map, List.getElem?_range h, List.getElem?_map, Option.map_some] at h1
   cases h2 : lookL[n]? with
   | none => rw [h2] at h1; cases h1
   | some x =>
    rw [h2] at h1
    simp only [Option.map_some, Option.some.injEq] at h1
    rw [h1]
    simp only [lookV, h2, Option.getD_some]
  ·obtain ⟨k, rfl⟩ : ∃ k, n = k + 192 := ⟨n - 192, by omega⟩
   rw [big, lookBig]
theorem lookNp : (noneL.np && lookL.all LV.np) = true := by kernel_rfl
theorem lookV_np (z : Int) : (lookV z).np = true := by
 have h := lookNp
 rw [Bool.and_eq_true] at h
 unfold lookV
 split
 ·rename_i n
  cases h2 : lookL[n]? with
  | none => exact h.1
  | some x => exact List.all_eq_true.1 h.2 x (List.mem_of_getElem? h2)
 ·exact h.1
def lookE : List LV -> Option LV
 | [.v (.int .i64 z)] => some (lookV z)
 | _ => none
theorem ext_of {m : Int} {f : FuncId} {fn : Func} (hf : Tryz.prog.funcs[f]? = some fn) (hb : fn.body.isSome = true) {cx' : Cx} (hP : cx'.P = Tryz.prog) (hg : cx'.glob = (cxS m).glob) {e : List LV -> Option LV} {n : Nat}
  (he : ∀ (xs : List LV) (x : LV), e xs = some x -> npLs xs = true /\ x.np = true /\ (blkF (cxS m) n f (bodyOf Tryz.prog f) xs Heap.nil).map Prod.fst = some x) : ExtOk cx' f e /\ ∃ fn c, cx'.P.funcs[f]? = some fn /\ fn.body = some c := by
 obtain ⟨c, hc, hbody⟩ := body_of hf hb
 refine ⟨ext_run (cxS_ok m) hP hg hf hc (cut_none rfl f _) fun xs x hx => ?_, fn, c, by rw [hP]; exact hf, hc⟩
 obtain ⟨h1, h2, h3⟩ := he xs x hx
 rw [hbody] at h3
 exact ⟨h1, h2, blk_of_run h3⟩
theorem look_ok {m : Int} {cx' : Cx} (hP : cx'.P = Tryz.prog) (hg : cx'.glob = (cxS m).glob) : ExtOk cx' 80 lookE /\ ∃ fn c, cx'.P.funcs[80]? = some fn /\ fn.body = some c :=
 ext_of (m := m) (n := 12) Tryz.func80 (by kernel_rfl) hP hg fun xs x hx => by
  unfold lookE at hx
  split at hx
  ·rename_i z
   cases hx
   exact ⟨rfl, lookV_np z, run8_eq m z⟩
  ·cases hx
end Go.Proofs.YtoblgjmllmomhaaGreatDoor
namespace Go.Proofs.YtoblgjmllmomhaaGreatDoor
set_option maxRecDepth 100000
open Go Go.Proofs.Am
structure RowQ where
 b : Nat
 n : ByteArray
 k : Nat
 t : ByteArray
 y : Nat
 tk : List Nat
 gv : Nat
 sg : Bool
def RowQ.enc (r : RowQ) : List AV := [.int .i64 (.ofNat r.b), .str r.n, .int .i64 (.ofNat r.k), .str r.t, .int .i64 (.ofNat r.y)]
def RowQ.op (r : RowQ) : List AV := [.int .i64 (.ofNat r.b), .str r.n, .int .i64 (.ofNat r.k), .imm (r.tk.map fun x => [.int .i64 (.ofNat x)]), .int .i64 (.ofNat r.gv), .int .i64 (.ofNat r.y), .bool r.sg]
def rowsT : List RowQ := [
 ⟨0, sb [117,110,114,101,97,99,104,97,98,108,101], 1, sb [58], 0, [], 0, false⟩, ⟨1, sb [110,111,112], 1, sb [58], 0, [], 0, false⟩,
 ⟨2, sb [98,108,111,99,107], 2, sb [58], 0, [], 0, false⟩, ⟨3, sb [108,111,111,112], 2, sb [58], 0, [], 0, false⟩,
 ⟨4, sb [105,102], 2, sb [52,58], 0, [1], 0, false⟩, ⟨12, sb [98,114], 3, sb [58], 0, [], 0, false⟩,
 ⟨13, sb [98,114,95,105,102], 3, sb [52,58], 0, [1], 0, false⟩, ⟨14, sb [98,114,95,116,97,98,108,101], 3, sb [52,58], 0, [1], 0, false⟩,
 ⟨15, sb [114,101,116,117,114,110], 3, sb [58], 0, [], 0, false⟩, ⟨16, sb [99,97,108,108], 4, sb [58], 0, [], 0, false⟩,
 ⟨17, sb [99,97,108,108,95,105,110,100,105,114,101,99,116], 4, sb [52,58], 0, [1], 0, false⟩, ⟨26, sb [100,114,111,112], 5, sb [58], 0, [], 0, false⟩,
 ⟨27, sb [115,101,108,101,99,116], 5, sb [52,58], 0, [1], 0, false⟩, ⟨32, sb [108,111,99,97,108,46,103,101,116], 6, sb [58], 0, [], 0, false⟩,
 ⟨33, sb [108,111,99,97,108,46,115,101,116], 6, sb [58], 0, [], 0, false⟩, ⟨34, sb [108,111,99,97,108,46,116,101,101], 6, sb [58], 0, [], 0, false⟩,
 ⟨35, sb [103,108,111,98,97,108,46,103,101,116], 6, sb [58], 0, [], 0, false⟩, ⟨36, sb [103,108,111,98,97,108,46,115,101,116], 6, sb [58], 0, [], 0, false⟩,
 ⟨40, sb [105,51,50,46,108,111,97,100], 7, sb [52,58,52], 4, [1], 1, false⟩, ⟨41, sb [105,54,52,46,108,111,97,100], 7, sb [52,58,56], 8, [1], 2, false⟩,
 ⟨44, sb [105,51,50,46,108,111,97,100,56,95,115], 7, sb [52,58,52], 1, [1], 1, true⟩, ⟨45, sb [105,51,50,46,108,111,97,100,56,95,117], 7, sb [52,58,52], 1, [1], 1, false⟩,
 ⟨46, sb [105,51,50,46,108,111,97,100,49,54,95,115], 7, sb [52,58,52], 2, [1], 1, true⟩, ⟨47, sb [105,51,50,46,108,111,97,100,49,54,95,117], 7, sb [52,58,52], 2, [1], 1, false⟩,
 ⟨48, sb [105,54,52,46,108,111,97,100,56,95,115], 7, sb [52,58,56], 1, [1], 2, true⟩, ⟨49, sb [105,54,52,46,108,111,97,100,56,95,117], 7, sb [52,58,56], 1, [1], 2, false⟩,
 ⟨50, sb [105,54,52,46,108,111,97,100,49,54,95,115], 7, sb [52,58,56], 2, [1], 2, true⟩, ⟨51, sb [105,54,52,46,108,111,97,100,49,54,95,117], 7, sb [52,58,56], 2, [1], 2, false⟩,
 ⟨52, sb [105,54,52,46,108,111,97,100,51,50,95,115], 7, sb [52,58,56], 4, [1], 2, true⟩, ⟨53, sb [105,54,52,46,108,111,97,100,51,50,95,117], 7, sb [52,58,56], 4, [1], 2, false⟩,
 ⟨54, sb [105,51,50,46,115,116,111,114,101], 8, sb [52,52,58], 4, [1, 1], 0, false⟩, ⟨55, sb [105,54,52,46,115,116,111,114,101], 8, sb [52,56,58], 8, [1, 2], 0, false⟩,
 ⟨58, sb [105,51,50,46,115,116,111,114,101,56], 8, sb [52,52,58], 1, [1, 1], 0, false⟩, ⟨59, sb [105,51,50,46,115,116,111,114,101,49,54], 8, sb [52,52,58], 2, [1, 1], 0, false⟩,
 ⟨60, sb [105,54,52,46,115,116,111,114,101,56], 8, sb [52,56,58], 1, [1, 2], 0, false⟩, ⟨61, sb [105,54,52,46,115,116,111,114,101,49,54], 8, sb [52,56,58], 2, [1, 2], 0, false⟩,
 ⟨62, sb [105,54,52,46,115,116,111,114,101,51,50], 8, sb [52,56,58], 4, [1, 2], 0, false⟩, ⟨63, sb [109,101,109,111,114,121,46,115,105,122,101], 9, sb [58,52], 0, [], 1, false⟩,
 ⟨64, sb [109,101,109,111,114,121,46,103,114,111,119], 9, sb [52,58,52], 0, [1], 1, false⟩, ⟨65, sb [105,51,50,46,99,111,110,115,116], 10, sb [58,52], 0, [], 1, false⟩,
 ⟨66, sb [105,54,52,46,99,111,110,115,116], 10, sb [58,56], 0, [], 2, false⟩, ⟨69, sb [105,51,50,46,101,113,122], 11, sb [52,58,52], 0, [1], 1, false⟩,
 ⟨80, sb [105,54,52,46,101,113,122], 11, sb [56,58,52], 0, [2], 1, false⟩, ⟨167, sb [105,51,50,46,119,114,97,112,95,105,54,52], 11, sb [56,58,52], 0, [2], 1, false⟩,
 ⟨172, sb [105,54,52,46,101,120,116,101,110,100,95,105,51,50,95,115], 11, sb [52,58,56], 0, [1], 2, false⟩, ⟨173, sb [105,54,52,46,101,120,116,101,110,100,95,105,51,50,95,117], 11, sb [52,58,56], 0, [1], 2, false⟩,
 ⟨70, sb [105,51,50,46,101,113], 11, sb [52,52,58,52], 0, [1, 1], 1, false⟩, ⟨81, sb [105,54,52,46,101,113], 11, sb [56,56,58,52], 0, [2, 2], 1, false⟩,
 ⟨71, sb [105,51,50,46,110,101], 11, sb [52,52,58,52], 0, [1, 1], 1, false⟩, ⟨82, sb [105,54,52,46,110,101], 11, sb [56,56,58,52], 0, [2, 2], 1, false⟩,
 ⟨72, sb [105,51,50,46,108,116,95,115], 11, sb [52,52,58,52], 0, [1, 1], 1, false⟩, ⟨83, sb [105,54,52,46,108,116,95,115], 11, sb [56,56,58,52], 0, [2, 2], 1, false⟩,
 ⟨73, sb [105,51,50,46,108,116,95,117], 11, sb [52,52,58,52], 0, [1, 1], 1, false⟩, ⟨84, sb [105,54,52,46,108,116,95,117], 11, sb [56,56,58,52], 0, [2, 2], 1, false⟩,
 ⟨74, sb [105,51,50,46,103,116,95,115], 11, sb [52,52,58,52], 0, [1, 1], 1, false⟩, ⟨85, sb [105,54,52,46,103,116,95,115], 11, sb [56,56,58,52], 0, [2, 2], 1, false⟩,
 ⟨75, sb [105,51,50,46,103,116,95,117], 11, sb [52,52,58,52], 0, [1, 1], 1, false⟩, ⟨86, sb [105,54,52,46,103,116,95,117], 11, sb [56,56,58,52], 0, [2, 2], 1, false⟩,
 ⟨76, sb [105,51,50,46,108,101,95,115], 11, sb [52,52,58,52], 0, [1, 1], 1, false⟩, ⟨87, sb [105,54,52,46,108,101,95,115], 11, sb [56,56,58,52], 0, [2, 2], 1, false⟩,
 ⟨77, sb [105,51,50,46,108,101,95,117], 11, sb [52,52,58,52], 0, [1, 1], 1, false⟩, ⟨88, sb [105,54,52,46,108,101,95,117], 11, sb [56,56,58,52], 0, [2, 2], 1, false⟩,
 ⟨78, sb [105,51,50,46,103,101,95,115], 11, sb [52,52,58,52], 0, [1, 1], 1, false⟩, ⟨89, sb [105,54,52,46,103,101,95,115], 11, sb [56,56,58,52], 0, [2, 2], 1, false⟩,
 ⟨79, sb [105,51,50,46,103,101,95,117], 11, sb [52,52,58,52], 0, [1, 1], 1, false⟩, ⟨90, sb [105,54,52,46,103,101,95,117], 11, sb [56,56,58,52], 0, [2, 2], 1, false⟩,
 ⟨103, sb [105,51,50,46,99,108,122], 11, sb [52,58,52], 0, [1], 1, false⟩, ⟨121, sb [105,54,52,46,99,108,122], 11, sb [56,58,56], 0, [2], 2, false⟩,
 ⟨104, sb [105,51,50,46,99,116,122], 11, sb [52,58,52], 0, [1], 1, false⟩, ⟨122, sb [105,54,52,46,99,116,122], 11, sb [56,58,56], 0, [2], 2, false⟩,
 ⟨105, sb [105,51,50,46,112,111,112,99,110,116], 11, sb [52,58,52], 0, [1], 1, false⟩, ⟨123, sb [105,54,52,46,112,111,112,99,110,116], 11, sb [56,58,56], 0, [2], 2, false⟩,
 ⟨106, sb [105,51,50,46,97,100,100], 11, sb [52,52,58,52], 0, [1, 1], 1, false⟩, ⟨124, sb [105,54,52,46,97,100,100], 11, sb [56,56,58,56], 0, [2, 2], 2, false⟩,
 ⟨107, sb [105,51,50,46,115,117,98], 11, sb [52,52,58,52], 0, [1, 1], 1, false⟩, ⟨125, sb [105,54,52,46,115,117,98], 11, sb [56,56,58,56], 0, [2, 2], 2, false⟩,
 ⟨108, sb [105,51,50,46,109,117,108], 11, sb [52,52,58,52], 0, [1, 1], 1, false⟩, ⟨126, sb [105,54,52,46,109,117,108], 11, sb [56,56,58,56], 0, [2, 2], 2, false⟩,
 ⟨109, sb [105,51,50,46,100,105,118,95,115], 11, sb [52,52,58,52], 0, [1, 1], 1, false⟩, ⟨127, sb [105,54,52,46,100,105,118,95,115], 11, sb [56,56,58,56], 0, [2, 2], 2, false⟩,
 ⟨110, sb [105,51,50,46,100,105,118,95,117], 11, sb [52,52,58,52], 0, [1, 1], 1, false⟩, ⟨128, sb [105,54,52,46,100,105,118,95,117], 11, sb [56,56,58,56], 0, [2, 2], 2, false⟩,
 ⟨111, sb [105,51,50,46,114,101,109,95,115], 11, sb [52,52,58,52], 0, [1, 1], 1, false⟩, ⟨129, sb [105,54,52,46,114,101,109,95,115], 11, sb [56,56,58,56], 0, [2, 2], 2, false⟩,
 ⟨112, sb [105,51,50,46,114,101,109,95,117], 11, sb [52,52,58,52], 0, [1, 1], 1, false⟩, ⟨130, sb [105,54,52,46,114,101,109,95,117], 11, sb [56,56,58,56], 0, [2, 2], 2, false⟩,
 ⟨113, sb [105,51,50,46,97,110,100], 11, sb [52,52,58,52], 0, [1, 1], 1, false⟩, ⟨131, sb [105,54,52,46,97,110,100], 11, sb [56,56,58,56], 0, [2, 2], 2, false⟩,
 ⟨114, sb [105,51,50,46,111,114], 11, sb [52,52,58,52], 0, [1, 1], 1, false⟩, ⟨132, sb [105,54,52,46,111,114], 11, sb [56,56,58,56], 0, [2, 2], 2, false⟩,
 ⟨115, sb [105,51,50,46,120,111,114], 11, sb [52,52,58,52], 0, [1, 1], 1, false⟩, ⟨133, sb [105,54,52,46,120,111,114], 11, sb [56,56,58,56], 0, [2, 2], 2, false⟩,
 ⟨116, sb [105,51,50,46,115,104,108], 11, sb [52,52,58,52], 0, [1, 1], 1, false⟩, ⟨134, sb [105,54,52,46,115,104,108], 11, sb [56,56,58,56], 0, [2, 2], 2, false⟩,
 ⟨117, sb [105,51,50,46,115,104,114,95,115], 11, sb [52,52,58,52], 0, [1, 1], 1, false⟩, ⟨135, sb [105,54,52,46,115,104,114,95,115], 11, sb [56,56,58,56], 0, [2, 2], 2, false⟩,
 ⟨118, sb [105,51,50,46,115,104,114,95,117], 11, sb [52,52,58,52], 0, [1, 1], 1, false⟩, ⟨136, sb [105,54,52,46,115,104,114,95,117], 11, sb [56,56,58,56], 0, [2, 2], 2, false⟩,
 ⟨119, sb [105,51,50,46,114,111,116,108], 11, sb [52,52,58,52], 0, [1, 1], 1, false⟩, ⟨137, sb [105,54,52,46,114,111,116,108], 11, sb [56,56,58,56], 0, [2, 2], 2, false⟩,
 ⟨120, sb [105,51,50,46,114,111,116,114], 11, sb [52,52,58,52], 0, [1, 1], 1, false⟩, ⟨138, sb [105,54,52,46,114,111,116,114], 11, sb [56,56,58,56], 0, [2, 2], 2, false⟩]
def allL : List (List AV) := rowsT.map RowQ.enc
def rowsE : List LV -> Option LV
 | [] => some (.v (.imm allL))
 | _ => none
theorem run123 (m : Int) : (blkF (cxS m) 12 123 (bodyOf Tryz.prog 123) [] Heap.nil).map Prod.fst = some (.v (.imm allL)) := by kernel_rfl
theorem allNp : (AV.imm allL).np = true := by kernel_rfl
theorem rows_ok {m : Int} {cx' : Cx} (hP : cx'.P = Tryz.prog) (hg : cx'.glob = (cxS m).glob) : ExtOk cx' 123 rowsE /\ ∃ fn c, cx'.P.funcs[123]? = some fn /\ fn.body = some c :=
 ext_of (m := m) (n := 12) Tryz.func123 (by kernel_rfl) hP hg fun xs x hx => by
  unfold rowsE at hx
  split at hx
  ·cases hx
   exact ⟨rfl, allNp, run123 m⟩
  ·cases hx
noncomputable def madeR (m : Int) (xs : List LV) : Option LV := (blkF (cxS m) 12 125 (bodyOf Tryz.prog 125) xs Heap.nil).map Prod.fst
noncomputable def madeE (m : Int) (xs : List LV) : Option LV := bif npLs xs then (madeR m xs).bind fun x => bif x.np then some x else none else none
theorem made_ok {m : Int} {cx' : Cx} (hP : cx'.P = Tryz.prog) (hg : cx'.glob = (cxS m).glob) : ExtOk cx' 125 (madeE m) /\ ∃ fn c, cx'.P.funcs[125]? = some fn /\ fn.body = some c :=
 ext_of (m := m) (n := 12) Tryz.func125 (by kernel_rfl) hP hg fun xs x hx => by
  unfold madeE at hx
  cases h1 : npLs xs with
  | false => rw [h1] at hx; cases hx
  | true =>
   rw [h1, cond_true] at hx
   obtain ⟨y, hy, hx⟩ := Option.bind_eq_some_iff.1 hx
   cases h2 : y.np with
   | false => rw [h2] at hx; cases hx
   | true =>
    rw [h2, cond_true] at hx
    cases hx
    exact ⟨rfl, h2, hy⟩
theorem made_0 (m : Int) : ((rowsT.drop 0).take 17).map (fun r => madeE m [.v (.agg r.enc)]) = ((rowsT.drop 0).take 17).map (fun r => some (.v (.agg r.op))) := by kernel_rfl
theorem made_1 (m : Int) : ((rowsT.drop 17).take 17).map (fun r => madeE m [.v (.agg r.enc)]) = ((rowsT.drop 17).take 17).map (fun r => some (.v (.agg r.op))) := by kernel_rfl
theorem made_2 (m : Int) : ((rowsT.drop 34).take 17).map (fun r => madeE m [.v (.agg r.enc)]) = ((rowsT.drop 34).take 17).map (fun r => some (.v (.agg r.op))) := by kernel_rfl
theorem made_3 (m : Int) : ((rowsT.drop 51).take 17).map (fun r => madeE m [.v (.agg r.enc)]) = ((rowsT.drop 51).take 17).map (fun r => some (.v (.agg r.op))) := by kernel_rfl
theorem made_4 (m : Int) : ((rowsT.drop 68).take 17).map (fun r => madeE m [.v (.agg r.enc)]) = ((rowsT.drop 68).take 17).map (fun r => some (.v (.agg r.op))) := by kernel_rfl
theorem made_5 (m : Int) : ((rowsT.drop 85).take 17).map (fun r => madeE m [.v (.agg r.enc)]) = ((rowsT.drop 85).take 17).map (fun r => some (.v (.agg r.op))) := by kernel_rfl
theorem map_mem {A B : Type} {f g : A -> B} : ∀ {l : List A}, l.map f = l.map g -> ∀ x, x ∈ l -> f x = g x
 | [], _, x, h => by cases h
 | y :: l, e, x, h => by
  rw [List.map_cons, List.map_cons, List.cons.injEq] at e
  rcases List.mem_cons.1 h with rfl | h
  ·exact e.1
  ·exact map_mem e.2 x h
theorem rowsT_split : rowsT = (rowsT.drop 0).take 17 ++ ((rowsT.drop 17).take 17 ++ ((rowsT.drop 34).take 17 ++ ((rowsT.drop 51).take 17 ++ ((rowsT.drop 68).take 17 ++ (rowsT.drop 85).take 17)))) := by kernel_rfl
theorem made_row (m : Int) {r : RowQ} (h : r ∈ rowsT) : madeE m [.v (.agg r.enc)] = some (.v (.agg r.op)) := by
 rw [rowsT_split] at h
 simp only [List.mem_append] at h
 rcases h with h | h | h | h | h | h
 ·exact map_mem (made_0 m) r h
 ·exact map_mem (made_1 m) r h
 ·exact map_mem (made_2 m) r h
 ·exact map_mem (made_3 m) r h
 ·exact map_mem (made_4 m) r h
 ·exact map_mem (made_5 m) r h
end Go.Proofs.YtoblgjmllmomhaaGreatDoor
namespace Go.Proofs.Am
open Go
structure Lw (w : World) (g : Gh) (w' : World) (g' : Gh) : Prop where
 cell : ∀ b j v, j < g.sl b -> Cl w b j = some v -> j < g'.sl b /\ Cl w' b j = some v
 nb : g.nb <= g'.nb
 bm : ∀ id, id < g.nb -> g'.bm id = g.bm id
 sz : ∀ b n, bsz w b = some n -> bsz w' b = some n
variable {w w' : World} {g g' : Gh}
theorem Rep.monoW (h : Lw w g w' g') {a : AV} {v : Value} (r : Rep w g a v) : Rep w' g' a v := by
 induction r with
 | int => exact .int ..
 | bool => exact .bool ..
 | str => exact .str ..
 | nilI => exact .nilI
 | nilP => exact .nilP
 | nilF => exact .nilF
 | nilM => exact .nilM
 | nilS => exact .nilS
 | nilE => exact .nilE _
 | ifc t a v _ ih => exact .ifc _ _ _ ih
 | ptr id off hi =>
  have := Rep.ptr (w := w') (g := g') id off (Nat.lt_of_lt_of_le hi h.nb)
  rwa [h.bm id hi] at this
 | snap cs b o f hc _ ih =>
  refine .snap cs b o f (fun j c hj => ?_) ih
  obtain ⟨h1, h2, h3⟩ := hc j c hj
  obtain ⟨k1, k2⟩ := h.cell b _ _ h1 h2
  exact ⟨k1, k2, h3⟩
 | imm0 => exact .imm0 ..
 | imm xs n b o cap f hl hn hc _ ih =>
  refine .imm xs n b o cap f hl hn (fun k x j c hk hj => ?_) ih
  obtain ⟨h1, h2, h3⟩ := hc k x j c hk hj
  obtain ⟨k1, k2⟩ := h.cell b _ _ h1 h2
  exact ⟨k1, k2, h3⟩
 | arr n id off len cap hi hl hs =>
  have := Rep.arr (w := w') (g := g') n id off len cap (Nat.lt_of_lt_of_le hi h.nb) hl (by rw [h.bm id hi]; exact h.sz _ _ hs)
  rwa [h.bm id hi] at this
 | agg cs vs hl f hc _ ih => exact .agg cs vs hl f hc ih
 | fn f fs caps vs us h1 h2 p q c1 _ c2 _ i1 i2 => exact .fn f fs caps vs us h1 h2 p q c1 i1 c2 i2
theorem Own.monoW (h : Lw w g w' g') {hd : Hd} (hb : ∀ b c e f, g.own b = hd -> w.heap[b]? = some (.cells c e f) -> w'.heap[b]? = w.heap[b]? /\ g'.own b = hd /\ g'.sl b = g.sl b) {n : Nat} {xs : List (List AV)} {v : Value} (r : Own w g hd n xs v) : Own w' g' hd n xs v := by
 cases r with
 | emp a => exact .emp a
 | blk _ b cap c e fz f hl hn hx hbk hf hz ho hs hc hr =>
  obtain ⟨h1, h2, h3⟩ := hb b c e fz ho hbk
  exact .blk xs b cap c e fz f hl hn hx (h1.trans hbk) hf hz h2 (by omega) hc (fun k x j a hk hj => (hr k x j a hk hj).monoW h)
def gOff (g : Gh) : Option Nat -> Gh
 | none => g
 | some r => { g with sl := upd g.sl r 0 }
theorem gOff_own (g : Gh) (row : Option Nat) : (gOff g row).own = g.own := by cases row <;> rfl
theorem gOff_nb (g : Gh) (row : Option Nat) : (gOff g row).nb = g.nb := by cases row <;> rfl
theorem gOff_bm (g : Gh) (row : Option Nat) : (gOff g row).bm = g.bm := by cases row <;> rfl
theorem gOff_sl (g : Gh) {row : Option Nat} {b : Nat} (h : row ≠ some b) : (gOff g row).sl b = g.sl b := by
 cases row with
 | none => rfl
 | some r => simp only [gOff]; rw [upd_ne _ _ (by rintro rfl; exact h rfl)]
theorem gOff_le (g : Gh) (row : Option Nat) (b : Nat) : (gOff g row).sl b <= g.sl b := by
 by_cases h : row = some b
 ·subst h; simp only [gOff, upd_same]; omega
 ·rw [gOff_sl g h]; exact Nat.le_refl _
variable {w0 : World} {g0 : Gh} {row : Option Nat}
theorem noCells {o : Obj} {b : Nat} (h : w.heap[b]? = some o) (ho : o.isCells = false) : (∀ j, Cl w b j = none) /\ bsz w b = none := by
 cases o <;> first | (cases ho; done) | exact ⟨fun j => by simp [Cl, World.cell?, h], by simp [bsz, h]⟩
theorem grown_Lw (hg : w.grownBy w' row) (hr : ∀ r, row = some r -> ∃ o : Obj, w.heap[r]? = some o /\ o.isCells = false) : Lw w g w' (gOff g row) := by
 have hne : ∀ b j v, Cl w b j = some v -> row ≠ some b := by
  rintro b j v hv rfl
  obtain ⟨o, ho, hc⟩ := hr b rfl
  rw [(noCells ho hc).1 j] at hv; cases hv
 refine ⟨fun b j v hj hv => ?_, by rw [gOff_nb]; exact Nat.le_refl _, fun id _ => by rw [gOff_bm], fun b n hb => ?_⟩
 ·have h := hne b j v hv
  exact ⟨by rw [gOff_sl g h]; exact hj, (Cl_eq_of_heap (hg.block b (Cl_lt hv) (Ne.symm h))).trans hv⟩
 ·rw [bsz_eq_of_heap (hg.block b (bsz_lt hb) ?_)]; exact hb
  rintro e
  obtain ⟨o, ho, hc⟩ := hr b e.symm
  rw [(noCells ho hc).2] at hb; cases hb
theorem grown_keep (wf0 : Wf w0 g0) (wf : Wf w g) (t : Tr w0 g0 w g) {hp : Heap} (hh : HeapOk w g hp) (hg : w.grownBy w' row) (hr : ∀ r, row = some r -> w0.heap.size <= r /\ ∃ o : Obj, w.heap[r]? = some o /\ o.isCells = false) :
  Wf w' (gOff g row) /\ Tr w0 g0 w' (gOff g row) /\ HeapOk w' (gOff g row) hp /\ Lw w g w' (gOff g row) := by
 have L := grown_Lw (g := g) hg (fun r e => (hr r e).2)
 have hcell : ∀ b c e f, w.heap[b]? = some (.cells c e f) -> row ≠ some b := by
  rintro b c e f hb rfl
  obtain ⟨_, o, ho, hc⟩ := hr b rfl
  rw [hb] at ho; cases ho; cases hc
 have K : ∀ hd b c e f, g.own b = hd -> w.heap[b]? = some (.cells c e f) -> w'.heap[b]? = w.heap[b]? /\ (gOff g row).own b = hd /\ (gOff g row).sl b = g.sl b := fun hd b c e f ho hb =>
  ⟨hg.block b (heap_lt hb) (Ne.symm (hcell b c e f hb)), by rw [gOff_own]; exact ho, gOff_sl g (hcell b c e f hb)⟩
 have hlt0 : ∀ b, b < w0.heap.size -> row ≠ some b := by
  rintro b hb rfl
  have := (hr b rfl).1; omega
 refine ⟨⟨fun b hb => by rw [gOff_own]; exact wf.own b (Nat.le_trans hg.size hb), fun b hb => ?_, fun b hb => ?_⟩, ⟨⟨fun b => ?_, fun b j hj => ?_, by rw [gOff_nb]; exact t.le.nb, fun id hi => by rw [gOff_bm]; exact t.le.bm id hi, fun b n hb => L.sz b n (t.le.sz b n hb)⟩,
  Nat.le_trans t.size hg.size, fun b hb ho => ?_, hg.os.trans t.os, hg.tape.trans t.tape, hg.output.trans t.output⟩, ⟨by rw [gOff_nb]; exact hh.1, fun id bx hid hne => ?_⟩, L⟩
 ·have := gOff_le g row b
  have := wf.sl b (Nat.le_trans hg.size hb)
  omega
 ·rw [gOff_own] at hb
  obtain ⟨n, h1, h2⟩ := wf.fit b hb
  exact ⟨n, L.sz b n h1, Nat.le_trans (gOff_le g row b) h2⟩
 ·rcases Nat.lt_or_ge b w0.heap.size with h | h
  ·rw [gOff_sl g (hlt0 b h)]; exact t.le.sl b
  ·rw [wf0.sl b h]; exact Nat.zero_le _
 ·have hb : b < w0.heap.size := by
   rcases Nat.lt_or_ge b w0.heap.size with h | h
   ·exact h
   ·rw [wf0.sl b h] at hj; omega
  rw [Cl_eq_of_heap (hg.block b (Nat.lt_of_lt_of_le hb t.size) (Ne.symm (hlt0 b hb)))]
  exact t.le.cell b j hj
 ·obtain ⟨k1, k2, k3⟩ := t.oth b hb ho
  exact ⟨(hg.block b (Nat.lt_of_lt_of_le hb t.size) (Ne.symm (hlt0 b hb))).trans k1, by rw [gOff_own]; exact k2, (gOff_sl g (hlt0 b hb)).trans k3⟩
 ·obtain ⟨h2, h3, c, e, h4, h5, h6⟩ := hh.2 id bx hid hne
  obtain ⟨a1, a2, a3⟩ := K _ _ _ _ _ h2 h4
  rw [gOff_bm]
  refine ⟨a2, a3.trans h3, c, e, a1.trans h4, h5, fun j x hj => ?_⟩
  obtain ⟨u, hu, hr'⟩ := h6 j x hj
  refine ⟨u, hu, ?_⟩
  cases x <;> simp only [RepC] at hr' ⊢
  ·exact ⟨hr'.1.monoW L, hr'.2⟩
  ·exact ⟨hr'.1, hr'.2.monoW L (K _)⟩
theorem Tr.others {w1 : World} {g1 : Gh} (wf : Wf w g) (t : Tr w g w1 g1) {k : Nat} {o : Obj} (hk : w.heap[k]? = some o) (ho : o.isCells = false) : w1.heap[k]? = some o := by
 have hoth : g.own k = .oth := by
  cases h : g.own k with
  | oth => rfl
  | _ =>
   obtain ⟨n, hn, _⟩ := wf.fit k (by rw [h]; simp)
   rw [(noCells hk ho).2] at hn; cases hn
 exact ((t.oth k (heap_lt hk) hoth).1).trans hk
theorem exh_run {cx cx' : Cx} (hC : CxOk cx) (hP : cx'.P = cx.P) (hg : cx'.glob = cx.glob) {f : FuncId} {fn : Func} {c : Code} (hf : cx.P.funcs[f]? = some fn) (hb : fn.body = some c) (hcut : cutAt cx f [.code c] = none)
  {e : List LV -> Heap -> Option (LV × Heap)} (he : ∀ (xs : List LV) (h : Heap) (y : LV × Heap), e xs h = some y -> blk cx f [.code c] xs h = some y) : ExhOk cx' f e := by
 intro xs hp x h' hx w g vs wf hh hG hl hr
 have s0 : SR fn.ntmps (inSt xs hp) { tmps := vs ++ Array.replicate (fn.ntmps - vs.size) undef, defers := [] } w g (fun _ => 0) :=
  SR.enter wf hh hl (fun j y hj => by
   obtain ⟨p, u, rfl, hu, hrp⟩ := hr j y hj
   exact ⟨u, hu, hrp⟩)
 rw [hP]
 exact calls_of_orc (blk_ok hC) hf hb hcut (he xs hp (x, h') hx) s0 (fun i cs hi => hG i cs (by rw [hg]; exact hi))
theorem exr_run {cx cx' : Cx} (hC : CxOk cx) (hP : cx'.P = cx.P) (hg : cx'.glob = cx.glob) {f : FuncId} {fn : Func} {c : Code} (hf : cx.P.funcs[f]? = some fn) (hb : fn.body = some c) (hcut : cutAt cx f [.code c] = none)
  {e : List LV -> Heap -> Option LV} (he : ∀ (xs : List LV) (h : Heap) (y : LV), e xs h = some y -> blk cx f [.code c] xs h = some (y, h)) : ExrOk cx' f e := by
 intro xs hp x hx
 exact exh_run hC hP hg hf hb hcut (e := fun xs h => (e xs h).bind fun r => some (r, h)) (fun xs h y hy => by
  simp only [Option.bind_eq_some_iff, Option.some.injEq] at hy
  obtain ⟨r, hr, rfl⟩ := hy
  exact he xs h r hr) xs hp x hp (by simp [hx])
end Go.Proofs.Am
namespace Go.Proofs.YtoblgjmllmomhaaGreatDoor
open Go Go.Proofs.Am
noncomputable def extZ (m : Int) (f : Nat) : Option (List LV -> Option LV) := bif Nat.beq f 123 then some rowsE else bif Nat.beq f 125 then some (madeE m) else bif Nat.beq f 80 then some lookE else none
def heapX (f r i : Nat) : Bool := heapF f r i || (Nat.beq f 72 && Nat.beq r 1 && Nat.beq i 4) || (Nat.beq f 75 && Nat.beq r 1 && Nat.beq i 3)
def pureX (f r i : Nat) : Bool := pureF f r i || (Nat.beq f 34 && Nat.beq r 4 && Nat.beq i 10)
def cutX (f id : Nat) : Option Keep :=
 bif Nat.beq f 56 && Nat.beq id 5 then some ⟨[1, 3, 4, 5, 6], [(0, 9)], 1⟩ else bif Nat.beq f 56 && Nat.beq id 7 then some ⟨[1], [(0, 9)], 1⟩ else cutF f id
noncomputable def cxB (m : Int) : Cx := { cxS m with cut := cutX, ext := extZ m, heap := heapX, pure := pureX }
theorem cxB_ok (m : Int) : CxOk (cxB m) where
 names := names_ok
 ext := fun f e h => by
  have h : extZ m f = some e := h
  unfold extZ at h
  cases hb : Nat.beq f 123 with
  | true =>
   rw [hb] at h
   cases h
   have := Nat.eq_of_beq_eq_true hb
   subst this
   exact rows_ok (m := m) rfl rfl
  | false =>
  rw [hb, cond_false] at h
  cases hb : Nat.beq f 125 with
  | true =>
   rw [hb] at h
   cases h
   have := Nat.eq_of_beq_eq_true hb
   subst this
   exact made_ok (m := m) rfl rfl
  | false =>
  rw [hb, cond_false] at h
  cases hb : Nat.beq f 80 with
  | true =>
   rw [hb] at h
   cases h
   have := Nat.eq_of_beq_eq_true hb
   subst this
   exact look_ok (m := m) rfl rfl
  | false => rw [hb] at h; cases h
 mixed := by kernel_rfl
 globs := globs_ok m
def topE : List LV -> Heap -> Option LV
 | [.v (.ptr L 0)], h =>
  match ldP h (.ptr L 8) 1 false with
  | some (.arr n id o (k + 1)) => bif Nat.beq n 4 && Nat.ble k 4611686018427387904 then some (.v (.ptr id (o + k * 4))) else none
  | _ => none
 | _, _ => none
def exrZ (f : Nat) : Option (List LV -> Heap -> Option LV) := bif Nat.beq f 53 then some topE else none
noncomputable def cxE (m : Int) (e : FuncId -> Option (List LV -> Heap -> Option (LV × Heap))) : Cx := { cxB m with exr := exrZ, exh := e }
end Go.Proofs.YtoblgjmllmomhaaGreatDoor
namespace Go.Proofs.YtoblgjmllmomhaaGreatDoor
open Go Go.RowKit Go.Shelf
attribute [local go_sem] Oper.semAt_some
def upto {α : Type} (f : Nat -> α) (k : Nat) : List α := (List.range k).map f
theorem upto_succ {α : Type} (f : Nat -> α) (k : Nat) : upto f (k + 1) = upto f k ++ [f k] := by simp [upto, List.range_succ]
theorem upto_length {α : Type} (f : Nat -> α) (k : Nat) : (upto f k).length = k := by simp [upto]
def Kpt (Bs b off len : Nat) (A B : World) : Prop := (∀ v, A.cell? ⟨Bs, 0, none⟩ = some v -> B.cell? ⟨Bs, 0, none⟩ = some v) /\ ∀ j v, j < len -> A.cell? ⟨b, off + j, none⟩ = some v -> B.cell? ⟨b, off + j, none⟩ = some v
theorem Kpt.refl (Bs b off len : Nat) (A : World) : Kpt Bs b off len A A := ⟨fun _ h => h, fun _ _ _ h => h⟩
theorem Kpt.trans {Bs b off len : Nat} {A B C : World} (h : Kpt Bs b off len A B) (k : Kpt Bs b off len B C) : Kpt Bs b off len A C := ⟨fun v hv => k.1 v (h.1 v hv), fun j v hj hv => k.2 j v hj (h.2 j v hj hv)⟩
set_option maxRecDepth 100000 in
set_option maxHeartbeats 2000000 in
theorem back1_in (F : Fence) (n : Nat) (h55 : F.fn 122) (hro : F.round = none) (hn : 1 <= n) (l Bs b off len cap : Nat) (zs : List Int) (hreach : len * 8 <= 140737488351232) (J Jx : List (Nat × Int) -> World -> Prop)
  (hY : ∀ pre x W, J pre W -> pre.length < len -> YieldAt F (n - 1) Tryz.prog l #[.int .i64 (x.1 : Int), .int .i64 x.2] W fun e W' =>
   (e = .returned (.bool true) /\ J (pre ++ [x]) W' /\ Kpt Bs b off len W W') ∨ (e = .returned (.bool false) /\ Jx (pre ++ [x]) W'))
  (W : World) (hBs : W.cell? ⟨Bs, 0, none⟩ = some (.slice (some ⟨b, off, none⟩) len cap)) (hc : ∀ j, j < len -> W.cell? ⟨b, off + j, none⟩ = some (.int .i64 (zs[j]?.getD 0))) (h0 : J [] W) :
  CallsIn F n Tryz.prog 122 #[.func (.yield l) #[] #[], .pointer (some ⟨Bs, 0, none⟩)] W fun e W' => (∃ v, e = .returned v) /\
   ((∃ ys, ys = upto (fun j => (len - 1 - j, zs[len - 1 - j]?.getD 0)) len /\ J ys W') ∨ (∃ pre, (∃ k, k <= len /\ pre = upto (fun j => (len - 1 - j, zs[len - 1 - j]?.getD 0)) k) /\ Jx pre W')) := by
 refine callsIn_of_wp Tryz.func122 rfl h55 ?_ hro
 simp only [Tryz.ntmps122, List.size_toArray, List.length_cons, List.length_nil, Nat.reduceAdd, Nat.reduceSub, Array.replicate_succ, Array.replicate_zero, List.push_toArray, List.append_toArray, List.nil_append, List.cons_append]
 gi_wp2
 gi_loopw [3] (fun i wr => ∃ k : Nat, k <= len /\ i = .int .i64 ((len - k : Nat) - 1 : Int) /\ J (upto (fun j => (len - 1 - j, zs[len - 1 - j]?.getD 0)) k) wr /\ Kpt Bs b off len W wr)
  (fun i _ => (intOf i + 1).toNat)
 case atStart => exact ⟨0, Nat.zero_le _, by simp, h0, Kpt.refl _ _ _ _ _⟩
 case round =>
  obtain ⟨k, hk, rfl, hJs, hnx⟩ := hrel
  have hBx := hnx.1 _ hBs
  by_cases hlt : k < len
  ·obtain ⟨fn, tmps, assign, body, hy, hR⟩ := hY _ (len - 1 - k, zs[len - 1 - k]?.getD 0) wr hJs (by rw [upto_length]; exact hlt)
   dsimp only at hy
   have hcx := hnx.2 _ _ (by omega) (hc (len - 1 - k) (by omega))
   rw [show ((len - k : Nat) - 1 : Int) = ((len - 1 - k : Nat) : Int) by omega]
   gi_wp2
   refine hR.mono ?_
   rintro e W3 (⟨rfl, hJ3, hk3⟩ | ⟨rfl, hJx3⟩)
   ·gi_wp2
    go_roundw
    case rel => exact ⟨k + 1, by omega, by simp; omega, by rw [upto_succ]; exact hJ3, hnx.trans hk3⟩
    case measure => simp [intOf]
   ·gi_wp2
    refine bodyPost_ret (results_none rfl _ _ _) rfl ?_
    exact ⟨⟨_, rfl⟩, .inr ⟨_, ⟨k + 1, by omega, (upto_succ _ _).symm⟩, hJx3⟩⟩
  ·obtain rfl : k = len := by omega
   rw [show ((k - k : Nat) - 1 : Int) = -1 by omega]
   gi_wp2
   go_end0
   exact ⟨⟨_, rfl⟩, .inl ⟨_, rfl, hJs⟩⟩
set_option maxRecDepth 100000 in
set_option maxHeartbeats 1000000 in
theorem back1_nil_in (F : Fence) (n : Nat) (h55 : F.fn 122) (hro : F.round = none) (l Bs : Nat) (ad : Option Addr) (cap : Nat) (J : List (Nat × Int) -> World -> Prop) (W : World) (hBs : W.cell? ⟨Bs, 0, none⟩ = some (.slice ad 0 cap)) (h0 : J [] W) :
  CallsIn F n Tryz.prog 122 #[.func (.yield l) #[] #[], .pointer (some ⟨Bs, 0, none⟩)] W fun e W' => (∃ v, e = .returned v) /\ J [] W' := by
 refine callsIn_of_wp Tryz.func122 rfl h55 ?_ hro
 simp only [Tryz.ntmps122, List.size_toArray, List.length_cons, List.length_nil, Nat.reduceAdd, Nat.reduceSub, Array.replicate_succ, Array.replicate_zero, List.push_toArray, List.append_toArray, List.nil_append, List.cons_append]
 gi_wp2
 gi_loopw [3] (fun i wr => i = .int .i64 (-1) /\ J [] wr) (fun _ _ => 0)
 case atStart => exact ⟨rfl, h0⟩
 case round =>
  obtain ⟨rfl, hJs⟩ := hrel
  gi_wp2
  go_end0
  exact ⟨⟨_, rfl⟩, hJs⟩
set_option maxHeartbeats 1000000 in
theorem backward_in (F : Fence) (n : Nat) (h47 : F.fn 95) (hro : F.round = none) (a : Option Addr) (len cap : Nat) (w : World) :
  CallsIn F n Tryz.prog 95 #[.slice a len cap] w fun e w' => e = .returned (.func (.func 122) #[] #[.pointer (some ⟨w.heap.size, 0, none⟩)]) /\ w' = w.alloc (.cells #[.slice a len cap] 23) := by
 refine callsIn_of_wp Tryz.func95 rfl h47 ?_ hro
 simp only [Tryz.ntmps95, List.size_toArray, List.length_cons, List.length_nil, Nat.reduceAdd, Nat.reduceSub, Array.replicate_succ, Array.replicate_zero, List.push_toArray, List.append_toArray, List.nil_append, List.cons_append]
 gi_wp2
 go_ret
 exact ⟨rfl, rfl⟩
def IntsAt (W : World) (sv : Value) (b off : Nat) (zs : List Int) : Prop :=
 (∃ ad cap, sv = .slice ad 0 cap /\ zs = []) ∨ ∃ cap, sv = .slice (some ⟨b, off, none⟩) zs.length cap /\ ∀ j, j < zs.length -> W.cell? ⟨b, off + j, none⟩ = some (.int .i64 (zs[j]?.getD 0))
theorem back_stops (F : Fence) (n : Nat) (h55 : F.fn 122) (hro : F.round = none) (hn : 1 <= n) (Bs b off : Nat) (sv : Value) (zs : List Int) (hreach : zs.length * 8 <= 140737488351232) (w : World) (hBs : Bs < w.heap.size)
  (hc : w.cell? ⟨Bs, 0, none⟩ = some sv) (hI : IntsAt w sv b off zs) :
  SeqStopsK F n Tryz.prog 122 #[.pointer (some ⟨Bs, 0, none⟩)] (fun x : Nat × Int => #[Value.int .i64 (x.1 : Int), Value.int .i64 x.2]) (Kpt Bs b off zs.length) (fun ys => ys = upto (fun j => (zs.length - 1 - j, zs[zs.length - 1 - j]?.getD 0)) zs.length)
   (fun pre => ∃ k, k <= zs.length /\ pre = upto (fun j => (zs.length - 1 - j, zs[zs.length - 1 - j]?.getD 0)) k) zs.length w := fun l J Jx W hW _ _ hY h0 => by
 have hc' := (hW.cell (p := ⟨Bs, 0, none⟩) hBs).trans hc
 rcases hI with ⟨ad, cap, rfl, rfl⟩ | ⟨cap, rfl, hcs⟩
 ·exact (back1_nil_in F n h55 hro l Bs ad cap J W hc' h0).mono fun e W' ⟨he, hj⟩ => ⟨he, .inl ⟨_, rfl, hj⟩⟩
 ·exact back1_in F n h55 hro hn l Bs b off zs.length cap zs hreach J Jx hY W hc' (fun j hj => (hW.cell (p := ⟨b, off + j, none⟩) (World.block_lt_of_cell? w ⟨b, off + j, none⟩ (hcs j hj))).trans (hcs j hj)) h0
end Go.Proofs.YtoblgjmllmomhaaGreatDoor
namespace Go.Proofs.YtoblgjmllmomhaaGreatDoor
open Go Go.Proofs.Am Go.RowKit Go.Shelf
attribute [local go_sem] Oper.semAt_some
def intsX : List (List AV) -> Option (List Int)
 | [] => some []
 | [.int .i64 z] :: r => (intsX r).bind fun zs => some (z :: zs)
 | _ :: _ => none
def intsA : AV -> Option (List Int)
 | .nilS => some []
 | .imm xs => intsX xs
 | _ => none
theorem intsX_eq : ∀ (xs : List (List AV)) (zs : List Int), intsX xs = some zs -> xs = zs.map fun z => [AV.int .i64 z]
 | [], zs, h => by simp only [intsX, Option.some.injEq] at h; subst h; rfl
 | x :: xs, zs, h => by
  unfold intsX at h
  split at h
  ·rename_i heq; cases heq
  ·rename_i z r heq
   simp only [List.cons.injEq] at heq
   obtain ⟨rfl, rfl⟩ := heq
   simp only [Option.bind_eq_some_iff, Option.some.injEq] at h
   obtain ⟨ws, hw, rfl⟩ := h
   rw [intsX_eq _ ws hw]; rfl
  ·cases h
noncomputable abbrev cxN (m : Int) : Cx := cxE m fun _ => none
theorem cxN_ok (m : Int) (ht : ∀ (xs : List LV) (h : Heap) (y : LV), topE xs h = some y -> blk (cxB m) 53 (body_ Tryz.prog 53) xs h = some (y, h)) {e : FuncId -> Option (List LV -> Heap -> Option (LV × Heap))}
  (he : ∀ (f : FuncId) (x : List LV -> Heap -> Option (LV × Heap)), e f = some x -> ExhOk (cxE m e) f x /\ ∃ fn c, Tryz.prog.funcs[f]? = some fn /\ fn.body = some c) : CxOk (cxE m e) where
 names := names_ok
 ext := (cxB_ok m).ext
 mixed := (cxB_ok m).mixed
 globs := globs_ok m
 exh := he
 exr := fun f x h => by
  have h : exrZ f = some x := h
  unfold exrZ at h
  cases hb : Nat.beq f 53 with
  | false => rw [hb] at h; cases h
  | true =>
   rw [hb] at h
   cases h
   have := Nat.eq_of_beq_eq_true hb
   subst this
   obtain ⟨c, hc, hbody⟩ := body_of Tryz.func53 (by kernel_rfl)
   have hcut : (cutAt (cxB m) 53 (body_ Tryz.prog 53)).isNone = true := by kernel_rfl
   have hb2 : body_ Tryz.prog 53 = [.code c] := by simp only [body_, Tryz.func53, hc]
   rw [hb2, Option.isNone_iff_eq_none] at hcut
   rw [hb2] at ht
   exact ⟨exr_run (cxB_ok m) rfl rfl Tryz.func53 hc hcut ht, _, c, Tryz.func53, hc⟩
noncomputable def takeR (m : Int) (p : AV) (z : Int) (h : Heap) : Option Heap := (callF (cxN m) (blk (cxN m)) 96 [.v p, .v (.int .i64 z)] h).map (·.2)
noncomputable def takesR (m : Int) (p : AV) : List Int -> Heap -> Option Heap
 | [], h => some h
 | z :: zs, h => (takeR m p z h).bind (takesR m p zs)
def Fine (m : Int) (p : AV) (h : Heap) : Prop := ∀ zs, ∃ h', takesR m p zs h = some h'
open Classical in
noncomputable def allE (m : Int) : List LV -> Heap -> Option (LV × Heap)
 | [.v (.ptr L o), .v a], h => (intsA a).bind fun zs => bif Nat.ble (zs.length * 8) 140737488351232 then (if Fine m (.ptr L o) h then (takesR m (.ptr L o) zs.reverse h).bind fun h' => some (.tup [], h') else none) else none
 | _, _ => none
theorem takesR_app (m : Int) (p : AV) : ∀ (xs ys : List Int) (h : Heap), takesR m p (xs ++ ys) h = (takesR m p xs h).bind (takesR m p ys)
 | [], ys, h => rfl
 | x :: xs, ys, h => by
  simp only [List.cons_append, takesR]
  cases takeR m p x h with
  | none => rfl
  | some h1 => simp only [Option.bind_some, takesR_app m p xs ys h1]
theorem take_call (m : Int) (hC : CxOk (cxN m)) {p : AV} {z : Int} {h h' : Heap} (ht : takeR m p z h = some h') {w : World} {g : Gh} {pv : Value} (wf : Wf w g) (hh : HeapOk w g h) (hG : GOk (cxN m) w g) (hp : Rep w g p pv) :
  Calls Tryz.prog 96 #[pv, .int .i64 z] w fun e w' => ∃ v g', e = .returned v /\ Wf w' g' /\ Tr w g w' g' /\ HeapOk w' g' h' := by
 unfold takeR at ht
 rw [Option.map_eq_some_iff] at ht
 obtain ⟨⟨x, h1⟩, hx, rfl⟩ := ht
 obtain ⟨c, hc, _⟩ := body_of Tryz.func96 (by kernel_rfl)
 have hb2 : body_ Tryz.prog 96 = [.code c] := by simp only [body_, Tryz.func96, hc]
 have hcut : (cutAt (cxN m) 96 (body_ Tryz.prog 96)).isNone = true := by kernel_rfl
 rw [hb2] at hcut
 have ho : blk (cxN m) 96 [.code c] [.v p, .v (.int .i64 z)] h = some (x, h1) := by
  have e1 : (cxN m).ext 96 = none := rfl
  have e2 : (cxN m).exr 96 = none := rfl
  unfold callF at hx
  rw [e1] at hx
  simp only at hx
  rw [e2] at hx
  have e3 : (cxN m).P.funcs[96]? = some Tryz.f96 := Tryz.func96
  rw [e3] at hx
  simp only [Option.bind_some, hc, hcut, cond_true] at hx
  exact hx
 rw [Option.isNone_iff_eq_none] at hcut
 have hr : ∀ (j : Nat) (y : LV), ([.v p, .v (.int .i64 z)] : List LV)[j]? = some y -> ∃ q u, y = .v q /\ (#[pv, Value.int .i64 z])[j]? = some u /\ Rep w g q u := by
  intro j y hj
  match j, hj with
  | 0, hj => simp only [List.getElem?_cons_zero, Option.some.injEq] at hj; subst hj; exact ⟨p, pv, rfl, rfl, hp⟩
  | 1, hj => simp only [List.getElem?_cons_succ, List.getElem?_cons_zero, Option.some.injEq] at hj; subst hj; exact ⟨_, _, rfl, rfl, .int _ _⟩
  | n + 2, hj => simp at hj
 have s0 : SR Tryz.f96.ntmps (inSt [.v p, .v (.int .i64 z)] h) { tmps := #[pv, Value.int .i64 z] ++ Array.replicate (Tryz.f96.ntmps - (#[pv, Value.int .i64 z]).size) undef, defers := [] } w g (fun _ => 0) :=
  SR.enter wf hh rfl (fun j y hj => by
   obtain ⟨q, u, rfl, hu, hrp⟩ := hr j y hj
   exact ⟨u, hu, hrp⟩)
 refine (calls_of_orc (cx := cxN m) (blk_ok hC) Tryz.func96 hc hcut ho s0 hG).mono ?_
 rintro e w' ⟨v, rfl, g', wf', t, hh', _⟩
 exact ⟨v, g', rfl, wf', t, hh'⟩
structure Btw (m : Int) (w : World) (g : Gh) (p : AV) (a : AV) (pv sv : Value) (b1 b2 : Nat) (hk : Heap) (W : World) : Prop where
 ex : ∃ g', Wf W g' /\ Tr w g W g' /\ HeapOk W g' hk /\ GOk (cxN m) W g' /\ Rep W g' p pv /\ Rep W g' a sv /\ g'.own b1 = .oth /\ g'.own b2 = .oth
 c1 : W.cell? ⟨b1, 0, none⟩ = some pv
 c2 : W.cell? ⟨b2, 0, none⟩ = some sv
variable {m : Int} {w W W' : World} {g : Gh} {p a : AV} {pv sv : Value} {b1 b2 : Nat} {hk : Heap} {row : Option Nat}
theorem Btw.grown (h : Btw m w g p a pv sv b1 b2 hk W) (wf0 : Wf w g) (hg : W.grownBy W' row) (hr : ∀ r, row = some r -> w.heap.size <= r /\ ∃ o : Obj, W.heap[r]? = some o /\ o.isCells = false) : Btw m w g p a pv sv b1 b2 hk W' := by
 obtain ⟨⟨g', h1, h2, h3, h4, h5, h6, h7, h8⟩, c1, c2⟩ := h
 obtain ⟨k1, k2, k3, L⟩ := grown_keep wf0 h1 h2 h3 hg hr
 have cell : ∀ b v, W.cell? ⟨b, 0, none⟩ = some v -> W'.cell? ⟨b, 0, none⟩ = some v := fun b v hv => by
  have hne : row ≠ some b := by
   rintro rfl
   obtain ⟨_, o, ho, hc⟩ := hr b rfl
   have h9 : Cl W b 0 = some v := hv
   rw [(noCells ho hc).1] at h9; cases h9
  exact (Cl_eq_of_heap (hg.block b (Cl_lt hv) (Ne.symm hne))).trans hv
 exact ⟨⟨_, k1, k2, k3, fun i cs hi => (h4 i cs hi).monoW L, h5.monoW L, h6.monoW L, by rw [gOff_own]; exact h7, by rw [gOff_own]; exact h8⟩, cell _ _ c1, cell _ _ c2⟩
theorem imm_ints {W : World} {g : Gh} {zs : List Int} {a : AV} {sv : Value} (h : Rep W g a sv) (ha : intsA a = some zs) : ∃ b off, IntsAt W sv b off zs /\ ∀ j, j < zs.length -> off + j < g.sl b := by
 cases a <;> simp only [intsA, reduceCtorEq, Option.some.injEq] at ha
 case nilS =>
  subst ha
  cases h
  exact ⟨0, 0, .inl ⟨_, _, rfl, rfl⟩, fun j hj => by simp at hj⟩
 case imm xs =>
  have := intsX_eq xs zs ha
  subst this
  generalize hx : zs.map (fun z => [AV.int .i64 z]) = xs at h
  cases h with
  | imm0 ad cap =>
   have : zs = [] := by simpa using hx
   subst this
   exact ⟨0, 0, .inl ⟨_, _, rfl, rfl⟩, fun j hj => by simp at hj⟩
  | imm _ n b o cap f hl hn hc hr =>
   subst hx
   have hget : ∀ j, j < zs.length -> (zs.map fun z => [AV.int .i64 z])[j]? = some [AV.int .i64 (zs[j]?.getD 0)] := fun j hj => by
    rw [List.getElem?_map, List.getElem?_eq_getElem hj]; rfl
   have key : ∀ j, j < zs.length -> o + j < g.sl b /\ W.cell? ⟨b, o + j, none⟩ = some (.int .i64 (zs[j]?.getD 0)) := fun j hj => by
    have h1 := hget j hj
    have hn1 : n = 1 := by rw [← hn j _ h1]; rfl
    subst hn1
    obtain ⟨k1, k2, _⟩ := hc j _ 0 _ h1 rfl
    have h3 := hr j _ 0 _ h1 rfl
    generalize f j 0 = u at k2 h3
    cases h3
    rw [Nat.mul_one, Nat.add_zero] at k1 k2
    exact ⟨k1, k2⟩
   refine ⟨b, o, .inr ⟨cap, by rw [List.length_map], fun j hj => (key j hj).2⟩, fun j hj => (key j hj).1⟩
set_option maxRecDepth 100000 in
set_option maxHeartbeats 4000000 in
theorem all_ok (m : Int) (hC : CxOk (cxN m)) {cx' : Cx} (hP : cx'.P = Tryz.prog) (hgl : cx'.glob = (cxN m).glob) : ExhOk cx' 52 (allE m) := by
 intro xs h x h' hx w g vs wf hh hG hl hr
 unfold allE at hx
 split at hx
 ·rename_i L o a
  simp only [Option.bind_eq_some_iff] at hx
  obtain ⟨zs, hzs, hx⟩ := hx
  cases hb : Nat.ble (zs.length * 8) 140737488351232 with
  | false => rw [hb] at hx; cases hx
  | true =>
  rw [hb, cond_true] at hx
  by_cases hfine : Fine m (.ptr L o) h
  case neg => rw [if_neg hfine] at hx; cases hx
  rw [if_pos hfine] at hx
  simp only [Option.bind_eq_some_iff, Option.some.injEq, Prod.mk.injEq] at hx
  obtain ⟨hend, htk, rfl, rfl⟩ := hx
  have hreach := Nat.le_of_ble_eq_true hb
  obtain ⟨pv, sv, rfl⟩ := vs_two rfl hl
  obtain ⟨p', u, hp', hu, hrp⟩ := hr 0 _ rfl
  obtain ⟨a', u', ha', hu', hra⟩ := hr 1 _ rfl
  cases hp'; cases ha'
  simp at hu hu'
  subst hu; subst hu'
  rw [hP]
  have hG : GOk (cxN m) w g := fun i cs hi => hG i cs (by rw [hgl]; exact hi)
  obtain ⟨hLn, rfl⟩ := ptr_inv hrp
  obtain ⟨b, off, hI, hsl⟩ := imm_ints hra hzs
  have hsv : ∃ ad cap, sv = .slice ad zs.length cap := by
   rcases hI with ⟨ad, cap, rfl, rfl⟩ | ⟨cap, rfl, _⟩
   ·exact ⟨ad, cap, rfl⟩
   ·exact ⟨_, cap, rfl⟩
  obtain ⟨ad, cap, rfl⟩ := hsv
  let f := fun j : Nat => (zs.length - 1 - j, zs[zs.length - 1 - j]?.getD 0)
  have hf : ∀ j, j < zs.length -> zs.reverse[j]? = some (f j).2 := fun j hj => by
   rw [List.getElem?_reverse hj]
   simp only [f]
   rw [List.getElem?_eq_getElem (by omega)]; rfl
  refine (callsIn_wide (n := 5)).1 ?_
  refine callsIn_of_wp_marks Tryz.func52 rfl trivial ?_ rfl
  simp only [Tryz.ntmps52, List.size_toArray, List.length_cons, List.length_nil, Nat.reduceAdd, Nat.reduceSub, Array.replicate_succ, Array.replicate_zero, List.push_toArray, List.append_toArray, List.nil_append, List.cons_append]
  gi_wp2_with (refine ⟨trivial, ?_⟩; gi_at_call 95; refine (backward_in Fence.wide _ trivial rfl _ _ _ _).mono ?_; rintro e w' ⟨rfl, rfl⟩)
  have hB0 : Below w.heap.size w ((w.alloc (.cells #[.pointer (some ⟨g.bm L, o, none⟩)] 62)).alloc (.cells #[.slice ad zs.length cap] 23)) := ((Below.refl _ w).alloc (Nat.le_refl _) _).alloc (by simp) _
  have c1 : ((w.alloc (.cells #[.pointer (some ⟨g.bm L, o, none⟩)] 62)).alloc (.cells #[.slice ad zs.length cap] 23)).cell? ⟨w.heap.size, 0, none⟩ = some (.pointer (some ⟨g.bm L, o, none⟩)) := by
   have e1 := alloc_new w (.cells #[Value.pointer (some ⟨g.bm L, o, none⟩)] 62)
   have e2 := alloc_heap (w.alloc (.cells #[Value.pointer (some ⟨g.bm L, o, none⟩)] 62)) (.cells #[Value.slice ad zs.length cap] 23) (b := w.heap.size) (by simp)
   exact Cl_of (e2.trans e1)
  have c2 : ((w.alloc (.cells #[.pointer (some ⟨g.bm L, o, none⟩)] 62)).alloc (.cells #[.slice ad zs.length cap] 23)).cell? ⟨w.heap.size + 1, 0, none⟩ = some (.slice ad zs.length cap) := by
   have e1 := alloc_new (w.alloc (.cells #[Value.pointer (some ⟨g.bm L, o, none⟩)] 62)) (.cells #[Value.slice ad zs.length cap] 23)
   rw [World.size_alloc] at e1
   exact Cl_of e1
  have hstart : Btw m w g (.ptr L o) a (.pointer (some ⟨g.bm L, o, none⟩)) (.slice ad zs.length cap) w.heap.size (w.heap.size + 1) h ((w.alloc (.cells #[.pointer (some ⟨g.bm L, o, none⟩)] 62)).alloc (.cells #[.slice ad zs.length cap] 23)) := by
   obtain ⟨k1, k2, k3, L1⟩ := grown_keep wf wf (Tr.refl w g) hh (World.grownBy_alloc w (.cells #[Value.pointer (some ⟨g.bm L, o, none⟩)] 62) none) (fun r e => by cases e)
   obtain ⟨q1, q2, q3, L2⟩ := grown_keep wf k1 k2 k3 (World.grownBy_alloc (w.alloc (.cells #[Value.pointer (some ⟨g.bm L, o, none⟩)] 62)) (.cells #[Value.slice ad zs.length cap] 23) none) (fun r e => by cases e)
   exact ⟨⟨_, q1, q2, q3, fun i cs hi => ((hG i cs hi).monoW L1).monoW L2, (hrp.monoW L1).monoW L2, (hra.monoW L1).monoW L2, wf.own _ (Nat.le_refl _), wf.own _ (by omega)⟩, c1, c2⟩
  have hstp := back_stops Fence.wide 4 trivial rfl (by omega) (w.heap.size + 1) b off (.slice ad zs.length cap) zs hreach ((w.alloc (.cells #[.pointer (some ⟨g.bm L, o, none⟩)] 62)).alloc (.cells #[.slice ad zs.length cap] 23)) (by simp) c2
   (by
    rcases hI with ⟨ad', cap', e1, e2⟩ | ⟨cap', e1, hcs⟩
    ·exact .inl ⟨ad', cap', e1, e2⟩
    ·exact .inr ⟨cap', e1, fun j hj => (hB0.cell (p := ⟨b, off + j, none⟩) (World.block_lt_of_cell? w ⟨b, off + j, none⟩ (hcs j hj))).trans (hcs j hj)⟩)
  have hup : (upto f zs.length).map (·.2) = zs.reverse := by
   apply List.ext_getElem?
   intro j
   rw [List.getElem?_map]
   by_cases hj : j < zs.length
   ·rw [hf j hj]
    simp only [upto, List.getElem?_map, List.getElem?_range hj, Option.map_some]
   ·rw [List.getElem?_eq_none (by rw [upto_length]; omega), List.getElem?_eq_none (by rw [List.length_reverse]; omega)]; rfl
  refine wpIn_rangeFunc_ownG rfl (by omega) (gf := 122) (lb := #[.pointer (some ⟨w.heap.size + 1, 0, none⟩)]) rfl trivial (enters_of Tryz.func122 (by kernel_rfl) rfl)
   hstp (fun h k => h.trans k) ?hKb (Below.refl _ _) (fun _ => rfl)
   (fun pre W => ∃ hk, takesR m (.ptr L o) (pre.map (·.2)) h = some hk /\ Btw m w g (.ptr L o) a (.pointer (some ⟨g.bm L, o, none⟩)) (.slice ad zs.length cap) w.heap.size (w.heap.size + 1) hk W)
   (fun _ _ _ => False)
   ?hI (fun _ _ _ _ _ hs _ _ => hs) ⟨h, rfl, hstart⟩
   (fun x => { tmps := #[.pointer (some ⟨g.bm L, o, none⟩), .slice ad zs.length cap, .pointer (some ⟨w.heap.size, 0, none⟩), undef, undef, .int .i64 x.2, .slice ad zs.length cap, .func (.func 122) #[] #[.pointer (some ⟨w.heap.size + 1, 0, none⟩)], .int .i64 (x.1 : Int), .int .i64 x.2, undef, undef, undef], defers := [] }) ?assign ?body ?done ?stop
  case hKb =>
   intro W l ob ob' _ hob hcl _
   have hne : ∀ (b' j : Nat) v, W.cell? ⟨b', j, none⟩ = some v -> (W.putObj l ob').cell? ⟨b', j, none⟩ = some v := fun b' j v hv => by
    have hnb : b' ≠ l := by
     rintro rfl
     have h9 : Cl W b' j = some v := hv
     rw [(noCells hob hcl).1] at h9; cases h9
    exact (Cl_eq_of_heap ((grownBy_putObj' W l ob').block b' (Cl_lt hv) (by simp; exact hnb))).trans hv
   exact ⟨fun v hv => hne _ _ v hv, fun j v _ hv => hne _ _ v hv⟩
  case hI =>
   rintro pre W W' row ⟨hk, e1, hB⟩ hg hr
   exact ⟨hk, e1, hB.grown wf hg (fun r e => ⟨by have := (hr r e).1; simp at this; omega, (hr r e).2⟩)⟩
  case assign =>
   intro l x W K hK
   gi_wp2
   exact hK
  case body =>
   rintro l pre x W ⟨hk, e1, hB⟩ _
   obtain ⟨⟨g', h1, h2, h3, h4, h5, h6, h7, h8⟩, k1, k2⟩ := hB
   obtain ⟨hk', ht⟩ : ∃ hk', takeR m (.ptr L o) x.2 hk = some hk' := by
    obtain ⟨q, hq⟩ := hfine (pre.map (·.2) ++ [x.2])
    rw [takesR_app, e1, Option.bind_some, takesR] at hq
    cases e : takeR m (.ptr L o) x.2 hk with
    | none => rw [e] at hq; cases hq
    | some hk' => exact ⟨hk', rfl⟩
   have hcall := take_call m hC ht h1 h3 h4 h5
   gi_wp2_with (refine ⟨trivial, ?_⟩; gi_at_call 96; refine (CallsIn.inRound l (callsIn_wide.2 hcall)).mono ?_; rintro e W1 ⟨v, g1, rfl, q1, q2, q3⟩)
   have same : ∀ b', g'.own b' = .oth -> ∀ v, W.cell? ⟨b', 0, none⟩ = some v -> W1.cell? ⟨b', 0, none⟩ = some v := fun b' ho v hv => (Cl_eq_of_heap (q2.oth b' (Cl_lt hv) ho).1).trans hv
   refine ⟨⟨q2.size, fun k ob _ hk ho => q2.others h1 hk ho⟩, ⟨fun v hv => same _ h8 v hv, fun j v hj hv => (q2.le.cell b (off + j) (Nat.lt_of_lt_of_le (hsl j hj) (h2.le.sl b))).trans hv⟩, hk', ?_, ⟨g1, q1, h2.trans q2, q3, h4.mono q2.le, h5.mono q2.le, h6.mono q2.le, (q2.oth _ (Cl_lt k1) h7).2.1, (q2.oth _ (Cl_lt k2) h8).2.1⟩, same _ h7 _ k1, same _ h8 _ k2⟩
   rw [List.map_append, takesR_app, e1, Option.bind_some]
   simp only [List.map_cons, List.map_nil, takesR, ht, Option.bind_some]
  case done =>
   rintro D xs W hD rfl ⟨hk, e1, hB⟩ hK
   gi_wp2
   have e2 : hk = hend := by
    have e3 : takesR m (.ptr L o) ((upto f zs.length).map (·.2)) h = some hk := e1
    rw [hup, htk] at e3
    exact (Option.some.inj e3).symm
   subst e2
   have hB2 := hB.grown wf (grownBy_putObj' W D (.deferred none)) (fun r e => by cases e; exact ⟨by simp at hD; omega, _, hK, rfl⟩)
   obtain ⟨⟨g', h1, h2, h3, _⟩, _⟩ := hB2
   refine ⟨by simp, .inl ⟨_, _, rfl, run_takeDeferred hK, ?_⟩⟩
   exact ⟨_, results_none rfl _ _ _, _, rfl, g', h1, h2, h3, #[], rfl, rfl, fun j c hj => by simp at hj⟩
  case stop =>
   rintro D c pre W _ _ h _
   exact h.elim
 ·cases hx
end Go.Proofs.YtoblgjmllmomhaaGreatDoor
namespace Go.Proofs.YtoblgjmllmomhaaGreatDoor
open Go Go.Proofs.Am
noncomputable def exhZ (m : Int) (f : Nat) : Option (List LV -> Heap -> Option (LV × Heap)) := bif Nat.beq f 52 then some (allE m) else none
noncomputable def cxZ (m : Int) : Cx := cxE m (exhZ m)
abbrev LL := List (List AV)
abbrev aI : Int -> AV := AV.int .i64
abbrev aM : LL -> AV := AV.imm
abbrev aB : Bool -> AV := AV.bool
abbrev aS : ByteArray -> AV := AV.str
abbrev vI (x : Int) : LV := .v (.int .i64 x)
abbrev vM (x : LL) : LV := .v (.imm x)
abbrev vB (x : Bool) : LV := .v (.bool x)
abbrev vG (x : List AV) : LV := .v (.agg x)
abbrev vP (i o : Nat) : LV := .v (.ptr i o)
abbrev vF (t : TypeId) (a : AV) : LV := .v (.ifc t a)
abbrev vS (s : ByteArray) : LV := .v (.str s)
abbrev nC (o a b v t : Int) (l bd el : LL) (q : Bool) : List AV := [.int .i64 o, .int .i64 a, .int .i64 b, .int .u64 v, .int .i64 t, .imm l, .imm bd, .imm el, .bool q]
abbrev mV (ty im fu ta me gl ex : LL) (st : Int) (el da cu : LL) : LV := .v (.agg [.imm ty, .imm im, .imm fu, .imm ta, .imm me, .imm gl, .imm ex, .int .i64 st, .imm el, .imm da, .imm cu])
abbrev mL (ty im fu ta me gl ex : LL) (st : Int) (el da cu : LL) : List LV := [.v (.imm ty), .v (.imm im), .v (.imm fu), .v (.imm ta), .v (.imm me), .v (.imm gl), .v (.imm ex), .v (.int .i64 st), .v (.imm el), .v (.imm da), .v (.imm cu)]
noncomputable abbrev cA (m : Int) := callF (cxZ m) (blk (cxZ m))
noncomputable abbrev cV (m : Int) := callV (cxZ m) (blk (cxZ m))
noncomputable abbrev bA (m : Int) (f r : Nat) := blk (cxZ m) f (at_ Tryz.prog f r)
noncomputable abbrev bB (m : Int) (f : Nat) := blk (cxZ m) f (body_ Tryz.prog f)
abbrev nE (m : Int) (x : AV) (b : Bool) : Prop := binF (Cx.P (cxZ m)) BinOp.neq 33 true x .nilI = some (.bool b)
abbrev qE (m : Int) (x : AV) (b : Bool) : Prop := binF (Cx.P (cxZ m)) BinOp.eql 33 true x .nilI = some (.bool b)
def lkB (t f : List Nat) (n : Nat) : Option Bool := bif t.any (Nat.beq n) then some true else bif f.any (Nat.beq n) then some false else none
def lkV {A : Type} : List (Nat × Nat × A) -> Nat -> Nat -> Option A
 | [], _, _ => none
 | x :: xs, r, i => bif Nat.beq x.1 r && Nat.beq x.2.1 i then some x.2.2 else lkV xs r i
def qS (t f : List Nat) (v : List (Nat × Nat × LV)) (c : List (Nat × Nat × LV × Heap)) : Scr := ⟨lkB t f, lkV v, lkV c, false⟩
theorem bY {cx : Cx} {f : FuncId} {todo : List Item} {xs : List LV} {h : Heap} {r : LV × Heap} {p : Prop} (scr : Scr) (hp : p) (e : stepW cx (blk cx) scr f todo xs h r = p) : blk cx f todo xs h = some r := blk_by hp e
theorem tZ {A : Type} {x y : A} {q : Prop} (h : x = y) (hq : q) : some x = some y /\ q := ⟨congrArg some h, hq⟩
theorem uT2 {p : Prop} (h : p) : some true = some true /\ some true = some true /\ p := tA tT (tA tT h)
theorem uT3 {p : Prop} (h : p) : some true = some true /\ some true = some true /\ some true = some true /\ p := tA tT (uT2 h)
theorem uT4 {p : Prop} (h : p) : some true = some true /\ some true = some true /\ some true = some true /\ some true = some true /\ p := tA tT (uT3 h)
theorem uT5 {p : Prop} (h : p) : some true = some true /\ some true = some true /\ some true = some true /\ some true = some true /\ some true = some true /\ p := tA tT (uT4 h)
theorem uT6 {p : Prop} (h : p) : some true = some true /\ some true = some true /\ some true = some true /\ some true = some true /\ some true = some true /\ some true = some true /\ p := tA tT (uT5 h)
theorem uT7 {p : Prop} (h : p) : some true = some true /\ some true = some true /\ some true = some true /\ some true = some true /\ some true = some true /\ some true = some true /\ some true = some true /\ p := tA tT (uT6 h)
theorem uT8 {p : Prop} (h : p) : some true = some true /\ some true = some true /\ some true = some true /\ some true = some true /\ some true = some true /\ some true = some true /\ some true = some true /\ some true = some true /\ p := tA tT (uT7 h)
theorem uF2 {p : Prop} (h : p) : some false = some false /\ some false = some false /\ p := tA tF (tA tF h)
theorem uF3 {p : Prop} (h : p) : some false = some false /\ some false = some false /\ some false = some false /\ p := tA tF (uF2 h)
theorem uF4 {p : Prop} (h : p) : some false = some false /\ some false = some false /\ some false = some false /\ some false = some false /\ p := tA tF (uF3 h)
theorem uF5 {p : Prop} (h : p) : some false = some false /\ some false = some false /\ some false = some false /\ some false = some false /\ some false = some false /\ p := tA tF (uF4 h)
theorem uF6 {p : Prop} (h : p) : some false = some false /\ some false = some false /\ some false = some false /\ some false = some false /\ some false = some false /\ some false = some false /\ p := tA tF (uF5 h)
theorem uF7 {p : Prop} (h : p) : some false = some false /\ some false = some false /\ some false = some false /\ some false = some false /\ some false = some false /\ some false = some false /\ some false = some false /\ p := tA tF (uF6 h)
theorem uF8 {p : Prop} (h : p) : some false = some false /\ some false = some false /\ some false = some false /\ some false = some false /\ some false = some false /\ some false = some false /\ some false = some false /\ some false = some false /\ p := tA tF (uF7 h)
theorem uF9 {p : Prop} (h : p) : some false = some false /\ some false = some false /\ some false = some false /\ some false = some false /\ some false = some false /\ some false = some false /\ some false = some false /\ some false = some false /\ some false = some false /\ p := tA tF (uF8 h)
theorem u12 {p : Prop} (h : p) : true = true /\ true = true /\ p := tA t1 (tA t1 h)
theorem u02 {p : Prop} (h : p) : false = false /\ false = false /\ p := tA t0 (tA t0 h)
theorem cO {m : Int} {f : FuncId} {xs : List LV} {h : Heap} {y : LV × Heap} (hy : blk (cxZ m) f (body_ (cxZ m).P f) xs h = some y) (he : (cxZ m).ext f = none := by rfl) (hb : (body_ (cxZ m).P f).isEmpty = false := by rfl) (hc : (cutAt (cxZ m) f (body_ (cxZ m).P f)).isNone = true := by kernel_rfl) (hh : (cxZ m).exh f = none := by rfl) (hr : (cxZ m).exr f = none := by rfl) : callF (cxZ m) (blk (cxZ m)) f xs h = some y := callF_of he hb hc hy hh hr
end Go.Proofs.YtoblgjmllmomhaaGreatDoor
