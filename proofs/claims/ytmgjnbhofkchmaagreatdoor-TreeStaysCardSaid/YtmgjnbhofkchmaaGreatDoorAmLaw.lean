/-
  A law's call, by the machine.
-/
import Derived.Test.YtmgjnbhofkchmaaGreatDoorAmArg
import Derived.Below

namespace Go.Proofs.Am
open Go Go.RowKit

variable {cx : Cx}

/-- When the call begins, all that there is may not be written, and is nobody's. -/
def gFull (w : World) : Gh := { sl := fun b => (bsz w b).getD 0, own := fun _ => .oth, nb := 0, bm := fun _ => 0 }
theorem gFull_wf (w : World) : Wf w (gFull w) := by
  refine ⟨fun _ _ => rfl, fun b hb => ?_, fun b h => absurd rfl h⟩
  simp only [gFull, bsz]
  rw [Array.getElem?_eq_none hb]
  rfl
theorem gFull_full (w : World) : Full w (gFull w) := by
  intro b o u h
  simp only [Cl, World.cell?] at h
  cases hb : w.heap[b]? with
  | none => rw [hb] at h; cases h
  | some ob =>
    rw [hb] at h
    cases ob <;> simp only [reduceCtorEq] at h
    rename_i c e fz
    simp only [Option.isSome_none, Bool.false_eq_true, if_false] at h
    simp only [gFull, bsz, hb, Option.getD_some]
    exact (Array.getElem?_eq_some_iff.1 h).1

/-- THE LAW: what the machine says, the program does; and nothing that there was has turned. -/
theorem law_calls (hC : CxOk cx) {f : FuncId} {fn : Func} {c : Code} (hf : cx.P.funcs[f]? = some fn) (hb : fn.body = some c) (hcut : cutAt cx f [.code c] = none) {w : World} (hG : GOk cx w (gFull w))
    {xs : List AV} {vs : Array Value} (hl : vs.size = xs.length) (hx : ∀ (j : Nat) (x : AV), xs[j]? = some x → ∃ u, vs[j]? = some u ∧ Rep w (gFull w) x u) {x : AV} {h' : Heap}
    (hr : blk cx f [.code c] (xs.map .v) Heap.nil = some (.v x, h')) :
    Calls cx.P f vs w fun e w' => ∃ v g', e = .returned v ∧ Rep w' g' x v ∧ Below w.heap.size w w' := by
  have s0 : SR fn.ntmps (inSt (xs.map .v) Heap.nil) { tmps := vs ++ Array.replicate (fn.ntmps - vs.size) undef, defers := [] } w (gFull w) (fun _ => 0) :=
    SR.enter (gFull_wf w) ⟨rfl, fun id bx hid => by simp [Heap.nil] at hid⟩ (by simpa using hl) (fun j y hj => by
      rw [List.getElem?_map] at hj
      cases hxj : xs[j]? with
      | none => rw [hxj] at hj; cases hj
      | some z =>
        rw [hxj] at hj
        simp only [Option.map_some, Option.some.injEq] at hj
        subst hj
        exact hx j z hxj)
  refine (calls_of_orc (blk_ok hC) hf hb hcut hr s0 hG).mono ?_
  rintro e w' ⟨v, rfl, g', _, t, _, hv⟩
  exact ⟨v, g', rfl, hv, t.os, t.tape, t.output, t.size, fun k hk => (t.oth k hk rfl).1⟩

theorem law_true (hC : CxOk cx) {f : FuncId} {fn : Func} {c : Code} (hf : cx.P.funcs[f]? = some fn) (hb : fn.body = some c) (hcut : cutAt cx f [.code c] = none) {w : World} (hG : GOk cx w (gFull w))
    {xs : List AV} {vs : Array Value} (hl : vs.size = xs.length) (hx : ∀ (j : Nat) (x : AV), xs[j]? = some x → ∃ u, vs[j]? = some u ∧ Rep w (gFull w) x u) {h' : Heap}
    (hr : blk cx f [.code c] (xs.map .v) Heap.nil = some (.v (.bool true), h')) :
    Calls cx.P f vs w fun e w' => e = .returned (.bool true) ∧ Below w.heap.size w w' :=
  (law_calls hC hf hb hcut hG hl hx hr).mono (by
    rintro e w' ⟨v, g', rfl, hv, hbel⟩
    cases hv
    exact ⟨rfl, hbel⟩)

/-- A variable of the row's list, as the machine has it. -/
theorem var_rep {P : Program} {w : World} {g : Gh} (hF : Full w g) {H : Type} {enc : TypeId × Value → H} {sp : Nat → Bool} {held : Bool} {n fuel : Nat} {t : TypeId} {name : String} {gi : Nat} {cs : Array Value} {x : DataW H × List MemPlace}
    (hg : P.globalNamed name = some gi) (hv : w.var? P name = some cs) (hp : plainT P n t = true) (hd : DataW.trod enc P w 0 sp held fuel t cs.toList = some x) :
    ∃ xs, Sh P n t xs ∧ avD P n t x.1 = some xs ∧ Rep w g (.snap xs) (.pointer (some ⟨gi, 0, none⟩)) := by
  obtain ⟨xs, h1, h2, h3⟩ := trod_sh hF n t fuel _ _ hp hd
  refine ⟨xs, h1, h3, .snap xs gi 0 (fun j => cs.getD j undef) (fun j c hj => ?_) (fun j c hj => ?_)⟩
  · obtain ⟨u, hu, _, ho⟩ := h2.2 j c hj
    have hcell := World.var?_cell hg hv j
    have hu' : cs[j]? = some u := by simpa using hu
    rw [hu'] at hcell
    refine ⟨hF _ _ u (by rw [Nat.zero_add]; exact hcell), ?_, ho⟩
    rw [Nat.zero_add]
    simp only [Array.getD_eq_getD_getElem?, hu', Option.getD_some]
    exact hcell
  · obtain ⟨u, hu, hr, _⟩ := h2.2 j c hj
    have hu' : cs[j]? = some u := by simpa using hu
    simp only [Array.getD_eq_getD_getElem?, hu', Option.getD_some]
    exact hr

end Go.Proofs.Am
