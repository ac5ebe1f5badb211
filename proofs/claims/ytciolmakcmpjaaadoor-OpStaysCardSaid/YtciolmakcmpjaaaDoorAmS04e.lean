/-
  The law's texts, run by the machine.
-/
import Derived.Test.YtciolmakcmpjaaaDoorAmS04d

namespace Go.Proofs.YtciolmakcmpjaaaDoor
open Go Go.Proofs.Am
/-- A law of one whole number. -/
noncomputable def runI (f : Nat) (m z : Int) : Option LV := (blkF (cxU m) 12 f (bodyOf Tryd.prog f) [.v (.int .i64 z)] Heap.nil).map Prod.fst
def yes : Option LV := some (.v (.bool true))
end Go.Proofs.YtciolmakcmpjaaaDoor
