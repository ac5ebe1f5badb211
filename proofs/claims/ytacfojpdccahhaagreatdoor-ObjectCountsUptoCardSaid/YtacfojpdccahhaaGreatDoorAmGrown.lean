/-
  Steps of the world at blocks that hold no cells: what the machine's values mean stays.
-/
import Derived.Test.YtacfojpdccahhaaGreatDoorAmExtRun
import Derived.RangeFuncWrites
namespace Go.Proofs.Am
open Go
structure Lw (w : World) (g : Gh) (w' : World) (g' : Gh) : Prop where
 cell : ∀ b j v, j < g.sl b → Cl w b j = some v → j < g'.sl b ∧ Cl w' b j = some v
 nb : g.nb ≤ g'.nb
 bm : ∀ id, id < g.nb → g'.bm id = g.bm id
 sz : ∀ b n, bsz w b = some n → bsz w' b = some n
variable {w w' : World} {g g' : Gh}
def gOff (g : Gh) : Option Nat → Gh
 | none => g
 | some r => { g with sl := upd g.sl r 0 }
variable {w0 : World} {g0 : Gh} {row : Option Nat}
def offO : Obj → Bool
 | .cells .. => false
 | .map .. => false
 | _ => true
end Go.Proofs.Am
