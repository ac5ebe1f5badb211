/-
  A law's row where what it reads is small: what it reads is told, and that it is small.
-/
import Derived.Test.YthcjapmfchidhaaGreatDoorAmIns
import Derived.JoinedCond
import Derived.LaidLaws
namespace Go.Proofs.Am
open Go Go.RowKit Go.ChangeShapes Go.WideShapes
variable {H : Type} {enc : TypeId × Value → H}
def upSpec (s : ChangeSpec) (k : (H : Type) → List (DataW H) → Bool) : OpenSpec := { OpenSpec.ofChange s with cond := some k }
def CondMet (enc : TypeId × Value → H) (P : Program) (f : Func) (s : ChangeSpec) (k : (H : Type) → List (DataW H) → Bool) (w : World) (args : Array Value) : Prop :=
 ∃ ds gs before, DataW.Whole enc P f.params.toList s.vars false w args.toList ds gs before ∧ k H (ds ++ gs) = true
theorem CondMet.of_heap {P : Program} {f : Func} {s : ChangeSpec} {k : (H : Type) → List (DataW H) → Bool} {w w' : World} {args : Array Value} (hh : w.heap = w'.heap) (h : CondMet enc P f s k w args) : CondMet enc P f s k w' args := by
 obtain ⟨ds, gs, before, h1, h2⟩ := h
 exact ⟨ds, gs, before, DataW.Whole.of_heap hh h1, h2⟩
end Go.Proofs.Am
