/-
  The machine, run by the kernel at the bytes from 48 on.
-/
import Derived.Test.YtciolmakcmpjaaaDoorAmS04c

namespace Go.Proofs.YtciolmakcmpjaaaDoor
open Go Go.Proofs.Am
end Go.Proofs.YtciolmakcmpjaaaDoor
