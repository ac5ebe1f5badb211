/-
  Ways through texts, one by one (printed by a program of this repo).
-/
import Derived.Test.YthcjapmfchidhaaGreatDoorAmS6wJ
import Derived.KernelRfl
namespace Go.Proofs.YthcjapmfchidhaaGreatDoor
set_option maxRecDepth 100000
open Go Go.Proofs.Am
variable {m o d n z a b v t i0 i1 i2 i3 i4 : Int} {L : Nat} {h h0 h1 h2 h3 h4 : Heap} {r : LV × Heap} {out bd el : (LL)} {q : Bool} {l0 l1 : LL}
end Go.Proofs.YthcjapmfchidhaaGreatDoor
namespace Go.Proofs.YthcjapmfchidhaaGreatDoor
set_option maxRecDepth 100000
open Go Go.Proofs.Am
variable {m d i0 i1 i2 i3 i4 i5 i6 i7 i8 i9 i10 i11 i12 : Int} {L : Nat} {h h0 h1 h2 h3 h4 h5 h6 : Heap} {r : LV × Heap} {out : (LL)} {l0 l1 l2 l3 : LL} {b0 : Bool}
end Go.Proofs.YthcjapmfchidhaaGreatDoor
namespace Go.Proofs.YthcjapmfchidhaaGreatDoor
set_option maxRecDepth 100000
open Go Go.Proofs.Am
variable {m o a b v t i0 i1 i2 i3 : Int} {bs : (LL)} {l bd el l0 l1 : LL} {q b0 b1 : Bool} {h h0 : Heap} {r : LV × Heap} {v0 : AV} {s0 : ByteArray}
theorem p34_1 (k0 : (lookV o, h) = (LV.tup [AV.agg [aI i0, aS s0, aI i1, aM l0, aI i2, aI i3, aB b0], v0], h0)) (k1 : nE m v0 b1) (k2 : b1 = false) (k3 : apL (LV.ow 1 bs) 1 1 [[AV.int IntKind.u8 (IntKind.wrap IntKind.u8 o)]] = some (LV.ow 1 l1)) (k4 : bA m 34 5 [LV.ow 1 l1, LV.lp 0 0, LV.lp 1 0, vI o, vI a, vI b, LV.v (AV.int IntKind.u64 v), vI t, vM l, vM bd, vM el, vB q, vI i0, vS s0, vI i1, vM l0, vI i2, vI i3, vB b0] h0 = some r) :
  bB m 34 [.ow 1 bs, vG (nC o a b v t l bd el q)] h = some r :=
 bY (qS [] [1099992] [(2, 1, (vB b1)), (4, 5, (LV.ow 1 l1))] [(1, 2, LV.tup [AV.agg [aI i0, aS s0, aI i1, aM l0, aI i2, aI i3, aB b0], v0], h0)]) (tZ k0 (tA k1 (tZ k2 (u02 (tA t1 (tA k3 (tA t1 (k4)))))))) (by kernel_rfl)
theorem p34n_1 (k0 : (lookV o, h) = (LV.tup [AV.agg [aI i0, aS s0, aI i1, aM l0, aI i2, aI i3, aB b0], v0], h0)) (k1 : nE m v0 b1) (k2 : b1 = false) (k3 : bA m 34 5 [LV.ow 1 [[AV.int IntKind.u8 (IntKind.wrap IntKind.u8 o)]], LV.lp 0 0, LV.lp 1 0, vI o, vI a, vI b, LV.v (AV.int IntKind.u64 v), vI t, vM l, vM bd, vM el, vB q, vI i0, vS s0, vI i1, vM l0, vI i2, vI i3, vB b0] h0 = some r) :
  bB m 34 [.v .nilS, vG (nC o a b v t l bd el q)] h = some r :=
 bY (qS [] [1099992] [(2, 1, (vB b1))] [(1, 2, LV.tup [AV.agg [aI i0, aS s0, aI i1, aM l0, aI i2, aI i3, aB b0], v0], h0)]) (tZ k0 (tA k1 (tZ k2 (tA t1 (k3))))) (by kernel_rfl)
end Go.Proofs.YthcjapmfchidhaaGreatDoor
