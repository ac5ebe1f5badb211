/-
  What op.Look tells of every byte, and what the head's examples and the document's table come to, as calls of their own.
-/
import Derived.Test.YtciolmakcmpjaaaDoorAmExtRun
import Derived.Test.YtciolmakcmpjaaaDoorAmS04k0
import Derived.Test.YtciolmakcmpjaaaDoorAmS04k1
import Derived.Test.YtciolmakcmpjaaaDoorAmS04k2
import Derived.Test.YtciolmakcmpjaaaDoorAmS04k3

namespace Go.Proofs.YtciolmakcmpjaaaDoor
open Go Go.Proofs.Am

theorem namesB : (Tryd.prog.funcs.toList.all fun fn => fn.name != "runtime.NumGoroutine") = true := by kernel_rfl
theorem npA : (AV.snap asciiL).np = true := by kernel_rfl
theorem names_ok (f : FuncId) (fn : Func) (hf : Tryd.prog.funcs[f]? = some fn) : fn.name ≠ "runtime.NumGoroutine" := by
  intro h
  have := List.all_eq_true.1 namesB fn (List.mem_of_getElem? (by simpa using hf))
  simp [h] at this
theorem globs_ok (m : Int) (i : Nat) (cs : List AV) (hi : (cxS m).glob i = some cs) : (AV.snap cs).np = true := by
  match i, hi with
  | 0, hi => cases hi; exact npA
  | 2, hi => cases hi; rfl
  | 1, hi => cases hi
  | n + 3, hi => cases hi

theorem body_of {f : FuncId} {fn : Func} (h : Tryd.prog.funcs[f]? = some fn) (hb : fn.body.isSome = true) : ∃ c, fn.body = some c ∧ bodyOf Tryd.prog f = [.code c] := by
  cases hc : fn.body with
  | none => rw [hc] at hb; cases hb
  | some c => exact ⟨c, rfl, by simp only [bodyOf, h, hc]⟩
theorem cut_none {cx : Cx} (h : cx.cut = fun _ _ => none) (f : FuncId) (todo : List Item) : cutAt cx f todo = none := by
  unfold cutAt
  split
  · rw [h]
  · rfl

/-- The base: strings.Fields and strings.Contains by their contracts. -/
theorem cxS_ok (m : Int) : CxOk (cxS m) where
  names := names_ok
  ext := fun f e h => by
    have h : extF f = some e := h
    unfold extF at h
    split at h
    · cases h
      obtain ⟨c, hc, _⟩ := body_of Tryd.func18 (by kernel_rfl)
      exact ⟨fields_ok rfl rfl, _, c, Tryd.func18, hc⟩
    · cases h
      obtain ⟨c, hc, _⟩ := body_of Tryd.func34 (by kernel_rfl)
      exact ⟨contains_ok (m := m) rfl rfl, _, c, Tryd.func34, hc⟩
    · cases h
  mixed := by kernel_rfl
  globs := globs_ok m

def noneL : LV := .tup [opV 0 (sb []) 0 [] 0 0 false, errV 5]
def lookL : List LV := lookL0 ++ (lookL1 ++ (lookL2 ++ lookL3))
def lookV (z : Int) : LV :=
  match z with
  | .ofNat n => (lookL[n]?).getD noneL
  | .negSucc _ => noneL

theorem neg (m : Int) (k : Nat) : run8 m (.negSucc k) = some noneL := by kernel_rfl
def lookE : List LV → Option LV
  | [.v (.int .i64 z)] => some (lookV z)
  | _ => none
def allE : List LV → Option LV
  | [] => some (.v (.imm allL))
  | _ => none
def upE : List LV → Option LV
  | [] => some (.v (.bool true))
  | _ => none
theorem run7 (m : Int) : (blkF (cxS m) 12 7 (bodyOf Tryd.prog 7) [] Heap.nil).map Prod.fst = some (.v (.bool true)) := by kernel_rfl
def extU (f : Nat) : Option (List LV → Option LV) :=
  match f with
  | 7 => some upE
  | 8 => some lookE
  | 11 => some allE
  | 18 => some fieldsE
  | 34 => some containsE
  | _ => none
noncomputable def cxU (m : Int) : Cx := { cxS m with ext := extU }

theorem ext_of {m : Int} {f : FuncId} {fn : Func} (hf : Tryd.prog.funcs[f]? = some fn) (hb : fn.body.isSome = true) {cx' : Cx} (hP : cx'.P = Tryd.prog) (hg : cx'.glob = (cxS m).glob) {e : List LV → Option LV} {n : Nat}
    (he : ∀ (xs : List LV) (x : LV), e xs = some x → npLs xs = true ∧ x.np = true ∧ (blkF (cxS m) n f (bodyOf Tryd.prog f) xs Heap.nil).map Prod.fst = some x) : ExtOk cx' f e ∧ ∃ fn c, cx'.P.funcs[f]? = some fn ∧ fn.body = some c := by
  obtain ⟨c, hc, hbody⟩ := body_of hf hb
  refine ⟨ext_run (cxS_ok m) hP hg hf hc (cut_none rfl f _) fun xs x hx => ?_, fn, c, by rw [hP]; exact hf, hc⟩
  obtain ⟨h1, h2, h3⟩ := he xs x hx
  rw [hbody] at h3
  exact ⟨h1, h2, blk_of_run h3⟩

theorem up_ok {m : Int} {cx' : Cx} (hP : cx'.P = Tryd.prog) (hg : cx'.glob = (cxS m).glob) : ExtOk cx' 7 upE ∧ ∃ fn c, cx'.P.funcs[7]? = some fn ∧ fn.body = some c :=
  ext_of (m := m) (n := 12) Tryd.func7 (by kernel_rfl) hP hg fun xs x hx => by
    unfold upE at hx
    split at hx
    · cases hx
      exact ⟨rfl, rfl, run7 m⟩
    · cases hx

end Go.Proofs.YtciolmakcmpjaaaDoor
