/-
  Ways through texts, one by one (printed by a program of this repo).
-/
import Derived.Test.YthcjapmfchidhaaGreatDoorAmS6wJ
import Derived.KernelRfl
namespace Go.Proofs.YthcjapmfchidhaaGreatDoor
set_option maxRecDepth 100000
open Go Go.Proofs.Am
variable {m i0 i1 i2 i3 i4 : Int} {xs mo bs : (LL)} {h h0 h1 h2 h3 h4 h5 h6 h7 h8 h9 : Heap} {b0 b1 b2 b3 b4 b5 b6 b7 b8 : Bool} {l0 l1 l2 l3 l4 l5 l6 : LL} {v0 v1 v2 v3 v4 : AV}
end Go.Proofs.YthcjapmfchidhaaGreatDoor
namespace Go.Proofs.YthcjapmfchidhaaGreatDoor
set_option maxRecDepth 100000
open Go Go.Proofs.Am
variable {m k o a b v t : Int} {l bd el : LL} {q : Bool} {h : Heap} {r : LV × Heap}
end Go.Proofs.YthcjapmfchidhaaGreatDoor
namespace Go.Proofs.YthcjapmfchidhaaGreatDoor
set_option maxRecDepth 100000
open Go Go.Proofs.Am
variable {m o a b v t : Int} {l bd el : LL} {q b0 b1 : Bool} {h h0 h1 : Heap} {r : LV × Heap}
end Go.Proofs.YthcjapmfchidhaaGreatDoor
