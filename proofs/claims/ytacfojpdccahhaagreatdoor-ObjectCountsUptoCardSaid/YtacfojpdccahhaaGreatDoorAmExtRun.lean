/-
  What the machine says of a function, as a call of its own: a table's entry.
-/
import Derived.Test.YtacfojpdccahhaaGreatDoorAmExt
import Derived.Test.YtacfojpdccahhaaGreatDoorAmFast
namespace Go.Proofs.Am
open Go
variable {cx cx' : Cx}
def gExt (g : Gh) : Gh := { sl := g.sl, own := fun _ => .oth, nb := 0, bm := g.bm }
def extOwn (h h' : Hd) : Hd :=
 match h' with
 | .res c => .res c
 | _ => h
def gExtBack (g g' : Gh) : Gh := { sl := g'.sl, own := fun b => extOwn (g.own b) (g'.own b), nb := g.nb, bm := g.bm }
theorem blk_of_run {n : Nat} {f : FuncId} {todo : List Item} {xs : List LV} {h : Heap} {x : LV} (hr : (blkF cx n f todo xs h).map Prod.fst = some x) : ∃ h', blk cx f todo xs h = some (x, h') := by
 rw [blkF_eq] at hr
 cases e : blkN cx n f todo xs h with
 | none => rw [e] at hr; cases hr
 | some y =>
  rw [e] at hr
  simp only [Option.map_some, Option.some.injEq] at hr
  subst hr
  exact ⟨y.2, blk_iff.2 ⟨n, e⟩⟩
end Go.Proofs.Am
