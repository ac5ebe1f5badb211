/-
  A law of plain arguments: what its form asks, by what the machine says of its text.
-/
import Derived.Test.YtmgjnbhofkchmaaDoorAmRow
import Derived.Carry
import Derived.WideShapes
import Derived.ChangeShapes
import Derived.ChangeOld
import Derived.WalkKit
import Derived.ProofKit
import Derived.OpenShut
import Derived.LaidMore
import Derived.Stop.Joined

namespace Go.Proofs.Am
open Go Go.RowKit Go.ChangeShapes Go.WideShapes

/-- An argument out of its cells. -/
def argV (P : Program) (t : TypeId) (ys : List AV) : AV :=
  match P.underlying t with
  | some (.struct _) => .agg ys
  | some (.array _ _) => .agg ys
  | _ => ys.headD .nilI
/-- Arguments of their types. -/
def ShA (P : Program) (n : Nat) : List TypeId → List AV → Prop
  | [], [] => True
  | t :: ts, x :: xs => (∃ ys, Sh P n t ys ∧ x = argV P t ys) ∧ ShA P n ts xs
  | _, _ => False

variable {H : Type} {enc : TypeId × Value → H} {P : Program} {W : World} {g : Gh}

/-- No array stands as an argument. -/
def noArr (P : Program) (t : TypeId) : Bool :=
  match P.underlying t with
  | some (.array _ _) => false
  | _ => true

theorem arg_rep {n base : Nat} {t : TypeId} {v : Value} {d : DataW H} {p : List MemPlace} {sp : Nat → Bool} {held : Bool} (hF : Full W g) (hp : plainT P n t = true) (ha : noArr P t = true) (hok : Value.okWide P W .any base t v)
    (h : DataW.Trod enc P W 0 sp held t v d p) : ∃ ys, Sh P n t ys ∧ Rep W g (argV P t ys) v := by
  obtain ⟨fuel, hf⟩ := h
  obtain ⟨ys, h1, h2, _⟩ := trod_sh hF n t fuel _ _ hp hf
  refine ⟨ys, h1, ?_⟩
  cases n with
  | zero => cases hp
  | succ n =>
  simp only [plainT] at hp
  unfold noArr at ha
  unfold argV
  have one : ∀ (x : AV), ys = [x] → v.cells.toList = [v] → Rep W g (ys.headD .nilI) v := by
    intro x hx hv
    subst hx
    rw [hv] at h2
    obtain ⟨u, hu, hr, _⟩ := h2.2 0 x rfl
    simp at hu
    subst hu
    exact hr
  have head : ∀ (x : AV), v.cells.toList = [v] → ys.length = 1 → Rep W g (ys.headD .nilI) v := by
    intro x hv hl
    match ys, hl with
    | [y], _ => exact one y rfl hv
  cases hu : P.underlying t with
  | none => rw [hu] at hp; cases hp
  | some dd =>
    rw [hu] at hp ha
    cases dd <;> simp only [Bool.false_eq_true] at hp ha
    case struct fs =>
      obtain ⟨cs, rfl, _⟩ := okWide_struct hu hok
      simp only
      have hlen : cs.size = ys.length := by have := h2.1; simp [Value.cells] at this; exact this.symm
      exact .agg ys cs hlen (fun j => cs.getD j undef) (fun j c hj => by
        obtain ⟨u, hu', _, ho⟩ := h2.2 j c hj
        have : cs[j]? = some u := by simpa [Value.cells] using hu'
        exact ⟨by rw [this]; simp [Array.getD_eq_getD_getElem?, this], ho⟩) (fun j c hj => by
        obtain ⟨u, hu', hr, _⟩ := h2.2 j c hj
        have : cs[j]? = some u := by simpa [Value.cells] using hu'
        simp only [Array.getD_eq_getD_getElem?, this, Option.getD_some]
        exact hr)
    all_goals simp only
    all_goals (
      have hv : v.cells.toList = [v] := by
        first
        | (obtain ⟨_, rfl⟩ := okWide_bool hu hok; rfl)
        | (obtain ⟨_, rfl⟩ := okWide_int hu hok; rfl)
        | (obtain ⟨_, rfl⟩ := okWide_string hu hok; rfl)
        | (obtain ⟨_, rfl⟩ := okWide_pointer hu hok; rfl)
        | (obtain ⟨_, _, _, rfl⟩ := okWide_slice hu hok; rfl)
      exact head .nilI hv (by rw [h2.1, hv]; rfl))

/-- All arguments. -/
theorem args_rep {n base : Nat} {sp : Nat → Bool} {held : Bool} (hF : Full W g) : ∀ (ts : List TypeId) (vs : List Value) (ds : List (DataW H)) (p : List MemPlace),
    (∀ t ∈ ts, plainT P n t = true ∧ noArr P t = true) → (∀ (j : Nat) t v, ts[j]? = some t → vs[j]? = some v → Value.okWide P W .any base t v) → DataW.TrodAll enc P W 0 sp held ts vs ds p →
    ∃ xs : List AV, ShA P n ts xs ∧ xs.length = vs.length ∧ ∀ (j : Nat) (x : AV), xs[j]? = some x → ∃ u, vs[j]? = some u ∧ Rep W g x u
  | [], [], [], _, _, _, _ => ⟨[], trivial, rfl, fun j x h => by simp at h⟩
  | t :: ts, v :: vs, d :: ds, _, hp, hok, ⟨p, q, h, hs, _⟩ => by
    obtain ⟨h1, h2⟩ := hp t (by simp)
    obtain ⟨ys, hy, hr⟩ := arg_rep hF h1 h2 (hok 0 t v rfl rfl) h
    obtain ⟨xs, h3, h4, h5⟩ := args_rep hF ts vs ds q (fun t ht => hp t (by simp [ht])) (fun j t v hj hv => hok (j + 1) t v (by simpa using hj) (by simpa using hv)) hs
    refine ⟨argV P t ys :: xs, ⟨⟨ys, hy, rfl⟩, h3⟩, by simp [h4], fun j x hj => ?_⟩
    cases j with
    | zero => simp at hj; subst hj; exact ⟨v, rfl, hr⟩
    | succ j => simp only [List.getElem?_cons_succ] at hj ⊢; exact h5 j x hj
  | [], _ :: _, _, _, _, _, h => False.elim h
  | [], [], _ :: _, _, _, _, h => False.elim h
  | _ :: _, [], _, _, _, _, h => False.elim h
  | _ :: _, _ :: _, [], _, _, _, h => False.elim h

/-- They read as they did. -/
theorem args_stay {W' : World} (hl : laidOutB P = true) (hb : Below W.heap.size W W') : ∀ (ts : List TypeId) (vs : List Value) (ds : List (DataW H)) (p : List MemPlace), (∀ t ∈ ts, P.readableRec t = true ∧ t < P.types.size) →
    (∀ x ∈ p, x.block < W.heap.size) → DataW.TrodAll enc P W 0 (fun _ => true) true ts vs ds p → DataW.TrodAll enc P W' 0 (fun b => decide (b < W.heap.size)) true ts vs ds p
  | [], [], [], _, _, _, h => h
  | t :: ts, v :: vs, d :: ds, _, hr, hlt, ⟨p, q, h, hs, e⟩ => by
    subst e
    obtain ⟨h1, h2⟩ := hr t (by simp)
    exact ⟨p, q, Below.trod hl h1 h2 h hb (fun x hx => hlt x (by simp [hx])), args_stay hl hb ts vs ds q (fun t ht => hr t (by simp [ht])) (fun x hx => hlt x (by simp [hx])) hs, rfl⟩
  | [], _ :: _, _, _, _, _, h => False.elim h
  | [], [], _ :: _, _, _, _, h => False.elim h
  | _ :: _, [], _, _, _, _, h => False.elim h
  | _ :: _, _ :: _, [], _, _, _, h => False.elim h

theorem trod_len : ∀ {ts : List TypeId} {vs : List Value} {ds : List (DataW H)} {p : List MemPlace} {sp : Nat → Bool} {held : Bool}, DataW.TrodAll enc P W 0 sp held ts vs ds p → ds.length = ts.length
  | [], [], [], _, _, _, _ => rfl
  | t :: ts, v :: vs, d :: ds, _, _, _, ⟨p, q, h, hs, e⟩ => by simp [trod_len hs]
  | [], _ :: _, _, _, _, _, h => False.elim h
  | [], [], _ :: _, _, _, _, h => False.elim h
  | _ :: _, [], _, _, _, _, h => False.elim h
  | _ :: _, _ :: _, [], _, _, _, h => False.elim h

/-- The row of a law. -/
theorem law_lifted {C : Checked} {os : Os} {f : FuncId} {fn : Func} {s : ChangeSpec} {n : Nat} {tb : TypeId} {laid : List (String × DataW Unit)} (started : os.Started) (own : ownKnob C.prog.godebug = none) (noInit : C.prog.inits.idxOf? f = none) (hfn : C.prog.funcs[f]? = some fn)
    (hres : fn.resultTypes.toList = [tb]) (htb : C.prog.underlying tb = some .bool) (hsz : fn.resultTypes.size = 1) (hvars : s.vars = [])
    (hs : ∀ (ds : List (DataW H)), ds.length = fn.params.toList.length → (s.fn H ds).results = [.lit (.bool true)] ∧ (s.fn H ds).args = ds ∧ (s.fn H ds).vars = [])
    (hl : laidOutB C.prog = true) (hr : (fn.params.toList.all fun t => C.prog.readableRec t && decide (t < C.prog.types.size) && plainT C.prog n t && noArr C.prog t) = true)
    (witness : ∃ (w : World) (tape : Tape) (i : Input), w.os = os ∧ (w.forCall tape i).Shaped C.prog ∧ i.vars = [] ∧ Input.okWide C.prog (w.forCall tape i) .any w.heap.size f i ∧
      ((s.pre enc C.prog fn [] false (w.forCall tape i).memory i.args ∧ laidMetH C.prog laid (w.forCall tape i).memory) ∧ sizedMet enc C.prog fn (OpenSpec.ofChange s) false (w.forCall tape i).memory i.args) ∧ Assume.holds {} C.prog (lone (Frame.enter C.prog f i.args .normal) [] (w.forCall tape i)))
    (law : ∀ W : World, laidMetH C.prog laid W → W.ShapedOpen C.prog → ∀ xs : List AV, ShA C.prog n fn.params.toList xs →
      ∃ (cx : Cx) (c : Code) (h' : Heap), cx.P = C.prog ∧ CxOk cx ∧ GOk cx W (gFull W) ∧ fn.body = some c ∧ cutAt cx f [.code c] = none ∧ blk cx f [.code c] (xs.map .v) Heap.nil = some (.v (.bool true), h')) :
    ReturnsInHanded {} C os f .any (fun w args => (s.pre enc C.prog fn [] false w args ∧ laidMetH C.prog laid w) ∧ sizedMet enc C.prog fn (OpenSpec.ofChange s) false w args)
      (s.post enc C.prog fn false true false false) := by
  refine handed_and_shaped (C := C) (X := fun w _ => laidMetH C.prog laid w) (fun _ _ _ hh h => h.of_heap hh) own started noInit hfn witness ?_
  intro W base args ds gs before hval hW _ _ hL hsh _
  have hlt := hW.lt
  have hW' := hW
  obtain ⟨p, q, hA, hV, rfl, hfz, hnd⟩ := hW
  rw [hvars] at hV
  obtain ⟨rfl, rfl⟩ := trodVars_none hV
  have hall : ∀ t ∈ fn.params.toList, (C.prog.readableRec t = true ∧ t < C.prog.types.size) ∧ plainT C.prog n t = true ∧ noArr C.prog t = true := by
    intro t ht
    have := List.all_eq_true.1 hr t ht
    simp only [Bool.and_eq_true, decide_eq_true_eq] at this
    exact ⟨this.1.1, this.1.2, this.2⟩
  obtain ⟨xs, h1, h2, h3⟩ := args_rep (gFull_full W) fn.params.toList args.toList ds p (fun t ht => (hall t ht).2) (fun j t v hj hv => hval j t v (by simpa using hj) (by simpa using hv)) hA
  obtain ⟨cx, c, h', hP, hC, hG, hc, hcut, hblk⟩ := law W hL hsh xs h1
  have hcalls := law_true hC (by rw [hP]; exact hfn) hc hcut hG (xs := xs) (vs := args) (by simpa using h2.symm) (fun j x hj => by
    obtain ⟨u, hu, hrp⟩ := h3 j x hj
    exact ⟨u, by simpa using hu, hrp⟩) hblk
  rw [hP] at hcalls
  refine hcalls.mono fun e W' ⟨he, bel⟩ => ?_
  subst he
  obtain ⟨s1, s2, s3⟩ := hs ds (trod_len hA)
  refine ⟨_, rfl, ds, [], p ++ [], [], p, [], hW', ?_, ?_, ?_, bel.frame _, fun h => by cases h⟩
  · rw [List.append_nil, s1, hres, hsz]
    exact trodAll_mk1 (shut_bool htb _)
  · rw [List.append_nil, s2]
    exact args_stay hl bel _ _ _ _ (fun t ht => (hall t ht).1) (fun x hx => hlt x (by simpa using hx)) hA
  · rw [List.append_nil, s3, hvars]
    rfl
end Go.Proofs.Am
