/-
  Steps of the world at blocks that hold no cells: what the machine's values mean stays.
-/
import Derived.Test.YthcjapmfchidhaaGreatDoorAmExtRun
import Derived.RangeFuncWrites
namespace Go.Proofs.Am
open Go
structure Lw (w : World) (g : Gh) (w' : World) (g' : Gh) : Prop where
 cell : ∀ b j v, j < g.sl b → Cl w b j = some v → j < g'.sl b ∧ Cl w' b j = some v
 nb : g.nb ≤ g'.nb
 bm : ∀ id, id < g.nb → g'.bm id = g.bm id
 sz : ∀ b n, bsz w b = some n → bsz w' b = some n
variable {w w' : World} {g g' : Gh}
def gOff (g : Gh) : Option Nat → Gh
 | none => g
 | some r => { g with sl := upd g.sl r 0 }
variable {w0 : World} {g0 : Gh} {row : Option Nat}
theorem exh_run {cx cx' : Cx} (hC : CxOk cx) (hP : cx'.P = cx.P) (hg : cx'.glob = cx.glob) {f : FuncId} {fn : Func} {c : Code} (hf : cx.P.funcs[f]? = some fn) (hb : fn.body = some c) (hcut : cutAt cx f [.code c] = none)
  {e : List LV → Heap → Option (LV × Heap)} (he : ∀ (xs : List LV) (h : Heap) (y : LV × Heap), e xs h = some y → blk cx f [.code c] xs h = some y) (hraw : ∀ (i : Nat) (v : Value), cx.raw i = some v → cx'.raw i = some v := by intro _ _ h; first | exact h | cases h) : ExhOk cx' f e := by
 intro xs hp x h' hx w g vs wf hh hG hl hr
 have s0 : SR fn.ntmps (inSt xs hp) { tmps := vs ++ Array.replicate (fn.ntmps - vs.size) undef, defers := [] } w g (fun _ => 0) :=
  SR.enter wf hh hl (fun j y hj => by
   obtain ⟨p, u, rfl, hu, hrp⟩ := hr j y hj
   exact ⟨u, hu, hrp⟩)
 rw [hP]
 exact calls_of_orc (blk_ok hC) hf hb hcut (he xs hp (x, h') hx) s0 ⟨fun i cs hi => hG.1 i cs (by rw [hg]; exact hi), fun i v hi => hG.2 i v (hraw i v hi)⟩
end Go.Proofs.Am
