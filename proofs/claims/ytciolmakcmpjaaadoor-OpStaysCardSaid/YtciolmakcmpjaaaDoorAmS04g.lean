/-
  The package-level variables of the seat, as the machine has them.
-/
import Derived.Test.YtciolmakcmpjaaaDoorAmRow
import Derived.Test.YtciolmakcmpjaaaDoorAmS04e
import Derived.Test.YtciolmakcmpjaaaDoorTie
import Derived.Test.YtciolmakcmpjaaaDoorCards
import Derived.WalkKit
import Derived.ProofKit
import Derived.OpenShut
import Derived.LaidMore
import Derived.Stop.Joined
import Derived.SevenTiedAt

namespace Go.Proofs.YtciolmakcmpjaaaDoor
open Go.ChangeShapes Go.WideShapes Go.ChangeAt Go.RowKit Go.Proofs.Am

theorem own : ownKnob Tryd.prog.godebug = none := by kernel_rfl
theorem gA : Tryd.prog.globalNamed "strings.asciiSpace" = some 0 := by kernel_rfl
theorem tA : (Tryd.prog.globals[0]?).map (·.type) = some 54 := by kernel_rfl
theorem asciiD : avD Tryd.prog 3 54 (Rows.laid_strings_asciiSpace (H := Unit)) = some asciiL := by kernel_rfl

theorem glob_ok {W : World} {l : List (String × DataW Unit)} (hl : l = Rows.opLooksRow.laid) (h : laidMetH Tryd.prog l W) (hs : W.ShapedOpen Tryd.prog) : ∃ m : Int, GOk (cxU m) W (gFull W) := by
  subst hl
  obtain ⟨m, hm⟩ := cell_of_shapedOpen_int (g := 2) (t := 3) (zero := #[.int .i64 0]) (k := .i64) hs (of_decide_eq_true (by kernel_rfl)) (by kernel_rfl) rfl (by kernel_rfl) (by kernel_rfl) Tryd.underlying3
  refine ⟨m, ?_⟩
  rw [MakeChecks.laidMetH_plain _ _ _ (by kernel_rfl)] at h
  obtain ⟨ps, ⟨g0, t0, cs0, f0, p0, q0, hg0, ht0, hv0, hd0, ⟨g1, t1, cs1, f1, p1, q1, hg1, ht1, hv1, hd1, _, _⟩, _⟩, _, _⟩ := h
  obtain rfl := Option.some.inj (gA.symm.trans hg1)
  obtain rfl := Option.some.inj (tA.symm.trans ht1)
  obtain ⟨ys, _, e1, r1⟩ := var_rep (n := 3) (gFull_full W) hg1 hv1 (by kernel_rfl) hd1
  rw [show avD Tryd.prog 3 54 _ = some asciiL from asciiD] at e1
  cases e1
  intro i cs hi
  match i, hi with
  | 0, hi => cases hi; exact r1
  | 1, hi => cases hi
  | 2, hi =>
    cases hi
    exact .snap _ _ _ (fun _ => .int .i64 m) (fun j c hj => by
      cases j with
      | zero => simp at hj; subst hj; exact ⟨gFull_full W _ _ _ hm, hm, rfl⟩
      | succ j => simp at hj) (fun j c hj => by
      cases j with
      | zero => simp at hj; subst hj; exact .int _ _
      | succ j => simp at hj)
  | n + 3, hi => cases hi

end Go.Proofs.YtciolmakcmpjaaaDoor
