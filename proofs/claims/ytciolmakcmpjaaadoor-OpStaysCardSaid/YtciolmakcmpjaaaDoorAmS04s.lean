/-
  The machine for what is told by op.Look and then written: lists of the operation in the heap.
-/
import Derived.Test.YtciolmakcmpjaaaDoorAmS04d
import Derived.KernelRfl

namespace Go.Proofs.YtciolmakcmpjaaaDoor
open Go Go.Proofs.Am
def heapV (f r i : Nat) : Bool :=
  match f with
  | 6 => inP [(7, 3), (7, 4), (14, 3), (14, 4)] r i
  | 19 => inP [(0, 0), (1, 1), (2, 1), (4, 0), (4, 3), (4, 6), (4, 9), (4, 11), (4, 13), (4, 15), (6, 1), (6, 3), (6, 6), (6, 8), (8, 2), (10, 1), (11, 1), (12, 0), (12, 2), (15, 1), (21, 0), (21, 2), (22, 0)] r i
  | _ => heapF f r i
def arrV (f r i : Nat) : Bool :=
  match f with
  | 6 => inP [(3, 3)] r i
  | _ => false
def pureV (f r i : Nat) : Bool :=
  match f with
  | 8 => inP [(3, 0), (6, 2)] r i
  | 19 => inP [(4, 4), (4, 7), (6, 4)] r i
  | 31 => inP [(0, 4), (1, 4), (3, 4), (5, 4), (8, 14)] r i
  | _ => false
def extV (f : Nat) : Option (List LV → Option LV) :=
  match f with
  | 7 => some upE
  | 18 => some fieldsE
  | 34 => some containsE
  | _ => none
noncomputable def cxV (m : Int) : Cx := { cxS m with heap := heapV, arr := arrV, pure := pureV, ext := extV }
noncomputable def runV (m z : Int) : Option LV := (blkF (cxV m) 12 6 (bodyOf Tryd.prog 6) [.v (.int .i64 z)] Heap.nil).map Prod.fst
def yesV : Option LV := some (.v (.bool true))
theorem cxV_ok (m : Int) : CxOk (cxV m) where
  names := names_ok
  ext := fun f e h => by
    have h : extV f = some e := h
    unfold extV at h
    split at h
    · cases h; exact up_ok (m := m) rfl rfl
    · exact (cxS_ok m).ext 18 e (by exact h)
    · exact (cxS_ok m).ext 34 e (by exact h)
    · cases h
  mixed := by kernel_rfl
  globs := globs_ok m
end Go.Proofs.YtciolmakcmpjaaaDoor
