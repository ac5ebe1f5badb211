/-
  The law's text at the names that there are.
-/
import Derived.Test.YtciolmakcmpjaaaDoorAmS04o
import Derived.Test.YtciolmakcmpjaaaDoorAmS04e
namespace Go.Proofs.YtciolmakcmpjaaaDoor
open Go Go.Proofs.Am
def nameAt (i : Nat) : ByteArray := ((allL[i]?).bind rowName).getD ⟨#[]⟩
noncomputable def runS (m : Int) (i : Nat) : Option LV := (blkF (cxU m) 12 4 (bodyOf Tryd.prog 4) [.v (.str (nameAt i))] Heap.nil).map Prod.fst
end Go.Proofs.YtciolmakcmpjaaaDoor
