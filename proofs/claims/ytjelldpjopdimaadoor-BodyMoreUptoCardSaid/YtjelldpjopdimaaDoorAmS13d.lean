/-
  What op.Look tells of every byte, and what the head's examples and the document's table come to, as calls of their own.
-/
import Derived.Test.YtjelldpjopdimaaDoorAmExtRun
import Derived.Test.YtjelldpjopdimaaDoorAmS13k0
import Derived.Test.YtjelldpjopdimaaDoorAmS13k2

namespace Go.Proofs.YtjelldpjopdimaaDoor
open Go Go.Proofs.Am

theorem namesB : (Tryd.prog.funcs.toList.all fun fn => fn.name != "runtime.NumGoroutine") = true := by kernel_rfl
theorem npA : (AV.snap asciiL).np = true := by kernel_rfl
theorem names_ok (f : FuncId) (fn : Func) (hf : Tryd.prog.funcs[f]? = some fn) : fn.name ≠ "runtime.NumGoroutine" := by
  intro h
  have := List.all_eq_true.1 namesB fn (List.mem_of_getElem? (by simpa using hf))
  simp [h] at this
theorem globs_ok (m : Int) (i : Nat) (cs : List AV) (hi : (cxS m).glob i = some cs) : (AV.snap cs).np = true := by
  match i, hi with
  | 0, hi => cases hi; exact npA
  | 2, hi => cases hi; rfl
  | 1, hi => cases hi
  | n + 3, hi => cases hi

theorem body_of {f : FuncId} {fn : Func} (h : Tryd.prog.funcs[f]? = some fn) (hb : fn.body.isSome = true) : ∃ c, fn.body = some c ∧ bodyOf Tryd.prog f = [.code c] := by
  cases hc : fn.body with
  | none => rw [hc] at hb; cases hb
  | some c => exact ⟨c, rfl, by simp only [bodyOf, h, hc]⟩
theorem cut_none {cx : Cx} (h : cx.cut = fun _ _ => none) (f : FuncId) (todo : List Item) : cutAt cx f todo = none := by
  unfold cutAt
  split
  · rw [h]
  · rfl

/-- The base: strings.Fields and strings.Contains by their contracts. -/
theorem cxS_ok (m : Int) : CxOk (cxS m) where
  names := names_ok
  ext := fun f e h => by
    have h : extF f = some e := h
    unfold extF at h
    split at h
    · cases h
      obtain ⟨c, hc, _⟩ := body_of Tryd.func51 (by kernel_rfl)
      exact ⟨fields_ok rfl rfl, _, c, Tryd.func51, hc⟩
    · cases h
      obtain ⟨c, hc, _⟩ := body_of Tryd.func67 (by kernel_rfl)
      exact ⟨contains_ok (m := m) rfl rfl, _, c, Tryd.func67, hc⟩
    · cases h
  mixed := by kernel_rfl
  globs := globs_ok m

def noneL : LV := .tup [opV 0 (sb []) 0 [] 0 0 false, errV 5]
def lookL : List LV := lookL0 ++ (lookL1 ++ (lookL2 ++ lookL3))
def lookV (z : Int) : LV :=
  match z with
  | .ofNat n => (lookL[n]?).getD noneL
  | .negSucc _ => noneL

theorem big (m : Int) (k : Nat) : run8 m (.ofNat (k + 192)) = some noneL := by kernel_rfl
theorem neg (m : Int) (k : Nat) : run8 m (.negSucc k) = some noneL := by kernel_rfl
theorem lookBig (k : Nat) : lookV (.ofNat (k + 192)) = noneL := by kernel_rfl
theorem chunks (m : Int) : (List.range 192).map (fun n => run8 m (.ofNat n)) = lookL.map some := by
  have e : List.range 192 = List.range' 0 48 ++ (List.range' 48 48 ++ (List.range' 96 48 ++ List.range' 144 48)) := by kernel_rfl
  rw [e, List.map_append, List.map_append, List.map_append, chunk_0, chunk_1, chunk_2, chunk_3]
  simp only [lookL, List.map_append]
theorem run8_eq (m z : Int) : run8 m z = some (lookV z) := by
  cases z with
  | negSucc k => exact neg m k
  | ofNat n =>
    by_cases h : n < 192
    · have h1 : (((List.range 192).map (fun n => run8 m (.ofNat n)))[n]?) = (lookL.map some)[n]? := by rw [chunks]
      rw [List.getElem?_map, List.getElem?_range h, List.getElem?_map, Option.map_some] at h1
      cases h2 : lookL[n]? with
      | none => rw [h2] at h1; cases h1
      | some x =>
        rw [h2] at h1
        simp only [Option.map_some, Option.some.injEq] at h1
        rw [h1]
        simp only [lookV, h2, Option.getD_some]
    · obtain ⟨k, rfl⟩ : ∃ k, n = k + 192 := ⟨n - 192, by omega⟩
      rw [big, lookBig]
theorem lookNp : (noneL.np && lookL.all LV.np) = true := by kernel_rfl
theorem lookV_np (z : Int) : (lookV z).np = true := by
  have h := lookNp
  rw [Bool.and_eq_true] at h
  unfold lookV
  split
  · rename_i n
    cases h2 : lookL[n]? with
    | none => exact h.1
    | some x => exact List.all_eq_true.1 h.2 x (List.mem_of_getElem? h2)
  · exact h.1

def lookE : List LV → Option LV
  | [.v (.int .i64 z)] => some (lookV z)
  | _ => none
theorem ext_of {m : Int} {f : FuncId} {fn : Func} (hf : Tryd.prog.funcs[f]? = some fn) (hb : fn.body.isSome = true) {cx' : Cx} (hP : cx'.P = Tryd.prog) (hg : cx'.glob = (cxS m).glob) {e : List LV → Option LV} {n : Nat}
    (he : ∀ (xs : List LV) (x : LV), e xs = some x → npLs xs = true ∧ x.np = true ∧ (blkF (cxS m) n f (bodyOf Tryd.prog f) xs Heap.nil).map Prod.fst = some x) : ExtOk cx' f e ∧ ∃ fn c, cx'.P.funcs[f]? = some fn ∧ fn.body = some c := by
  obtain ⟨c, hc, hbody⟩ := body_of hf hb
  refine ⟨ext_run (cxS_ok m) hP hg hf hc (cut_none rfl f _) fun xs x hx => ?_, fn, c, by rw [hP]; exact hf, hc⟩
  obtain ⟨h1, h2, h3⟩ := he xs x hx
  rw [hbody] at h3
  exact ⟨h1, h2, blk_of_run h3⟩

theorem look_ok {m : Int} {cx' : Cx} (hP : cx'.P = Tryd.prog) (hg : cx'.glob = (cxS m).glob) : ExtOk cx' 32 lookE ∧ ∃ fn c, cx'.P.funcs[32]? = some fn ∧ fn.body = some c :=
  ext_of (m := m) (n := 12) Tryd.func32 (by kernel_rfl) hP hg fun xs x hx => by
    unfold lookE at hx
    split at hx
    · rename_i z
      cases hx
      exact ⟨rfl, lookV_np z, run8_eq m z⟩
    · cases hx
end Go.Proofs.YtjelldpjopdimaaDoor
