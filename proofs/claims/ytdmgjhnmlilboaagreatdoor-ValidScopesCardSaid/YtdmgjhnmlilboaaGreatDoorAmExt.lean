/-
  Contracts of library functions, as the abstract machine's own calls.
-/
import Derived.Test.YtdmgjhnmlilboaaGreatDoorAmLaw

namespace Go.Proofs.Am
open Go

variable {cx : Cx}

/-- A new block that nobody is to write. -/
def gShut (w : World) (g : Gh) (n : Nat) : Gh := { g with sl := upd g.sl w.heap.size n }
end Go.Proofs.Am
