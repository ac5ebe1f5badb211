/-
  A law of plain arguments: what its form asks, by what the machine says of its text.
-/
import Derived.Test.YtjelldpjopdimaaDoorAmArg
import Derived.Below
import Derived.HandedShaped
import Derived.Shelf.Vars
import Derived.Carry
import Derived.WideShapes
import Derived.ChangeShapes
import Derived.ChangeOld
import Derived.WalkKit
import Derived.ProofKit
import Derived.OpenShut
import Derived.LaidMore
import Derived.Stop.Joined
/-
  A law's call, by the machine.
-/
namespace Go.Proofs.Am
open Go Go.RowKit

variable {cx : Cx}

/-- When the call begins, all that there is may not be written, and is nobody's. -/
def gFull (w : World) : Gh := { sl := fun b => (bsz w b).getD 0, own := fun _ => .oth, nb := 0, bm := fun _ => 0 }
theorem gFull_wf (w : World) : Wf w (gFull w) := by
  refine ⟨fun _ _ => rfl, fun b hb => ?_, fun b h => absurd rfl h⟩
  simp only [gFull, bsz]
  rw [Array.getElem?_eq_none hb]
  rfl
theorem gFull_full (w : World) : Full w (gFull w) := by
  intro b o u h
  simp only [Cl, World.cell?] at h
  cases hb : w.heap[b]? with
  | none => rw [hb] at h; cases h
  | some ob =>
    rw [hb] at h
    cases ob <;> simp only [reduceCtorEq] at h
    rename_i c e fz
    simp only [Option.isSome_none, Bool.false_eq_true, if_false] at h
    simp only [gFull, bsz, hb, Option.getD_some]
    exact (Array.getElem?_eq_some_iff.1 h).1

/-- THE LAW: what the machine says, the program does; and nothing that there was has turned. -/
theorem law_calls (hC : CxOk cx) {f : FuncId} {fn : Func} {c : Code} (hf : cx.P.funcs[f]? = some fn) (hb : fn.body = some c) (hcut : cutAt cx f [.code c] = none) {w : World} (hG : GOk cx w (gFull w))
    {xs : List AV} {vs : Array Value} (hl : vs.size = xs.length) (hx : ∀ (j : Nat) (x : AV), xs[j]? = some x → ∃ u, vs[j]? = some u ∧ Rep w (gFull w) x u) {x : AV} {h' : Heap}
    (hr : blk cx f [.code c] (xs.map .v) Heap.nil = some (.v x, h')) :
    Calls cx.P f vs w fun e w' => ∃ v g', e = .returned v ∧ Rep w' g' x v ∧ Below w.heap.size w w' := by
  have s0 : SR fn.ntmps (inSt (xs.map .v) Heap.nil) { tmps := vs ++ Array.replicate (fn.ntmps - vs.size) undef, defers := [] } w (gFull w) (fun _ => 0) :=
    SR.enter (gFull_wf w) ⟨rfl, fun id bx hid => by simp [Heap.nil] at hid⟩ (by simpa using hl) (fun j y hj => by
      rw [List.getElem?_map] at hj
      cases hxj : xs[j]? with
      | none => rw [hxj] at hj; cases hj
      | some z =>
        rw [hxj] at hj
        simp only [Option.map_some, Option.some.injEq] at hj
        subst hj
        exact hx j z hxj)
  refine (calls_of_orc (blk_ok hC) hf hb hcut hr s0 hG).mono ?_
  rintro e w' ⟨v, rfl, g', _, t, _, hv⟩
  exact ⟨v, g', rfl, hv, t.os, t.tape, t.output, t.size, fun k hk => (t.oth k hk rfl).1⟩

theorem law_true (hC : CxOk cx) {f : FuncId} {fn : Func} {c : Code} (hf : cx.P.funcs[f]? = some fn) (hb : fn.body = some c) (hcut : cutAt cx f [.code c] = none) {w : World} (hG : GOk cx w (gFull w))
    {xs : List AV} {vs : Array Value} (hl : vs.size = xs.length) (hx : ∀ (j : Nat) (x : AV), xs[j]? = some x → ∃ u, vs[j]? = some u ∧ Rep w (gFull w) x u) {h' : Heap}
    (hr : blk cx f [.code c] (xs.map .v) Heap.nil = some (.v (.bool true), h')) :
    Calls cx.P f vs w fun e w' => e = .returned (.bool true) ∧ Below w.heap.size w w' :=
  (law_calls hC hf hb hcut hG hl hx hr).mono (by
    rintro e w' ⟨v, g', rfl, hv, hbel⟩
    cases hv
    exact ⟨rfl, hbel⟩)

/-- A variable of the row's list, as the machine has it. -/
theorem var_rep {P : Program} {w : World} {g : Gh} (hF : Full w g) {H : Type} {enc : TypeId × Value → H} {sp : Nat → Bool} {held : Bool} {n fuel : Nat} {t : TypeId} {name : String} {gi : Nat} {cs : Array Value} {x : DataW H × List MemPlace}
    (hg : P.globalNamed name = some gi) (hv : w.var? P name = some cs) (hp : plainT P n t = true) (hd : DataW.trod enc P w 0 sp held fuel t cs.toList = some x) :
    ∃ xs, Sh P n t xs ∧ avD P n t x.1 = some xs ∧ Rep w g (.snap xs) (.pointer (some ⟨gi, 0, none⟩)) := by
  obtain ⟨xs, h1, h2, h3⟩ := trod_sh hF n t fuel _ _ hp hd
  refine ⟨xs, h1, h3, .snap xs gi 0 (fun j => cs.getD j undef) (fun j c hj => ?_) (fun j c hj => ?_)⟩
  · obtain ⟨u, hu, _, ho⟩ := h2.2 j c hj
    have hcell := World.var?_cell hg hv j
    have hu' : cs[j]? = some u := by simpa using hu
    rw [hu'] at hcell
    refine ⟨hF _ _ u (by rw [Nat.zero_add]; exact hcell), ?_, ho⟩
    rw [Nat.zero_add]
    simp only [Array.getD_eq_getD_getElem?, hu', Option.getD_some]
    exact hcell
  · obtain ⟨u, hu, hr, _⟩ := h2.2 j c hj
    have hu' : cs[j]? = some u := by simpa using hu
    simp only [Array.getD_eq_getD_getElem?, hu', Option.getD_some]
    exact hr

end Go.Proofs.Am

/-
  A law's row, by the machine: what the form asks, what the contract is handed.
-/
namespace Go.Proofs.Am
open Go Go.RowKit

variable {H : Type} {enc : TypeId × Value → H}

theorem handed_and_shaped {a : Assume} {C : Checked} {os : Os} {f : FuncId} {fn : Func} {s : ChangeSpec} {conds : List PathCond} {apart fresh handsOn again : Bool} {X : World → Array Value → Prop}
    (hX : ∀ (w w' : World) (args : Array Value), w.heap = w'.heap → X w args → X w' args)
    (own : ownKnob C.prog.godebug = none) (started : os.Started) (noInit : C.prog.inits.idxOf? f = none) (hfn : C.prog.funcs[f]? = some fn)
    (witness : ∃ (w : World) (tape : Tape) (i : Input), w.os = os ∧ (w.forCall tape i).Shaped C.prog ∧ i.vars = [] ∧ Input.okWide C.prog (w.forCall tape i) .any w.heap.size f i ∧
      ((s.pre enc C.prog fn conds apart (w.forCall tape i).memory i.args ∧ X (w.forCall tape i).memory i.args) ∧ sizedMet enc C.prog fn (OpenSpec.ofChange s) apart (w.forCall tape i).memory i.args) ∧ a.holds C.prog (lone (Frame.enter C.prog f i.args .normal) [] (w.forCall tape i)))
    (contract : ∀ (W : World) (base : Nat) (args : Array Value) (ds gs : List (DataW H)) (before : List MemPlace),
      (∀ (j : Nat) t v, fn.params[j]? = some t → args[j]? = some v → Value.okWide C.prog W .any base t v) →
      DataW.Whole enc C.prog fn.params.toList s.vars apart W args.toList ds gs before →
      conds.all (PathCond.test C.prog ⟨fn.params.toList, ds, s.plain.varTypes C.prog, gs⟩) = true →
      (DataW.weightsEach C.prog (fn.params.toList ++ s.plain.varTypes C.prog) (ds ++ gs)).all (· ≤ reachBytes) = true → X W args → W.ShapedOpen C.prog →
      a.holds C.prog (lone (Frame.enter C.prog f args .normal) [] W) →
      Calls C.prog f args W fun e W' => ∃ v, e = .returned v ∧ s.post enc C.prog fn apart fresh handsOn again W args v W') :
    ReturnsInHanded a C os f .any (fun w args => (s.pre enc C.prog fn conds apart w args ∧ X w args) ∧ sizedMet enc C.prog fn (OpenSpec.ofChange s) apart w args) (s.post enc C.prog fn apart fresh handsOn again) := by
  refine returnsInHanded_of_calls own started noInit witness ?_
  intro w tape i _ hsh _ hok hpre hholds
  obtain ⟨_, _, _, fn', hfn', _, _, _, _, hval⟩ := hok
  have e : fn' = fn := Option.some.inj (hfn'.symm.trans hfn)
  subst e
  obtain ⟨⟨⟨ds, gs, before, hw, hc⟩, hx⟩, hz⟩ := hpre
  have hw' := DataW.Whole.of_heap (w' := w.forCall tape i) (by rfl) hw
  refine (contract (w.forCall tape i) w.heap.size i.args ds gs before hval hw' hc (hz.weights hw) (hX _ _ _ (by rfl) hx) hsh hholds).mono fun e W' ⟨v, he, hp⟩ => ?_
  subst he
  exact ChangeSpec.post_blind hp

end Go.Proofs.Am


namespace Go.Proofs.Am
open Go Go.RowKit Go.ChangeShapes Go.WideShapes

/-- An argument out of its cells. -/
def argV (P : Program) (t : TypeId) (ys : List AV) : AV :=
  match P.underlying t with
  | some (.struct _) => .agg ys
  | some (.array _ _) => .agg ys
  | _ => ys.headD .nilI
/-- Arguments of their types. -/
def ShA (P : Program) (n : Nat) : List TypeId → List AV → Prop
  | [], [] => True
  | t :: ts, x :: xs => (∃ ys, Sh P n t ys ∧ x = argV P t ys) ∧ ShA P n ts xs
  | _, _ => False

variable {H : Type} {enc : TypeId × Value → H} {P : Program} {W : World} {g : Gh}

/-- No array stands as an argument. -/
def noArr (P : Program) (t : TypeId) : Bool :=
  match P.underlying t with
  | some (.array _ _) => false
  | _ => true

/-- They read as they did. -/
theorem args_stay {W' : World} (hl : laidOutB P = true) (hb : Below W.heap.size W W') : ∀ (ts : List TypeId) (vs : List Value) (ds : List (DataW H)) (p : List MemPlace), (∀ t ∈ ts, P.readableRec t = true ∧ t < P.types.size) →
    (∀ x ∈ p, x.block < W.heap.size) → DataW.TrodAll enc P W 0 (fun _ => true) true ts vs ds p → DataW.TrodAll enc P W' 0 (fun b => decide (b < W.heap.size)) true ts vs ds p
  | [], [], [], _, _, _, h => h
  | t :: ts, v :: vs, d :: ds, _, hr, hlt, ⟨p, q, h, hs, e⟩ => by
    subst e
    obtain ⟨h1, h2⟩ := hr t (by simp)
    exact ⟨p, q, Below.trod hl h1 h2 h hb (fun x hx => hlt x (by simp [hx])), args_stay hl hb ts vs ds q (fun t ht => hr t (by simp [ht])) (fun x hx => hlt x (by simp [hx])) hs, rfl⟩
  | [], _ :: _, _, _, _, _, h => False.elim h
  | [], [], _ :: _, _, _, _, h => False.elim h
  | _ :: _, [], _, _, _, _, h => False.elim h
  | _ :: _, _ :: _, [], _, _, _, h => False.elim h

theorem trod_len : ∀ {ts : List TypeId} {vs : List Value} {ds : List (DataW H)} {p : List MemPlace} {sp : Nat → Bool} {held : Bool}, DataW.TrodAll enc P W 0 sp held ts vs ds p → ds.length = ts.length
  | [], [], [], _, _, _, _ => rfl
  | t :: ts, v :: vs, d :: ds, _, _, _, ⟨p, q, h, hs, e⟩ => by simp [trod_len hs]
  | [], _ :: _, _, _, _, _, h => False.elim h
  | [], [], _ :: _, _, _, _, h => False.elim h
  | _ :: _, [], _, _, _, _, h => False.elim h
  | _ :: _, _ :: _, [], _, _, _, h => False.elim h

end Go.Proofs.Am
