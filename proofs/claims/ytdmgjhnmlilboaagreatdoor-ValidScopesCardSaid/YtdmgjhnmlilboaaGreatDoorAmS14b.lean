/-
  The abstract machine at this program: which operations move, which boxes lie on the heap, which calls see no heap, where texts are cut.
-/
import Derived.Test.YtdmgjhnmlilboaaGreatDoorAmRowX
import Derived.Test.YtdmgjhnmlilboaaGreatDoorProg
import Derived.Shelf.Slices.Clone
import Derived.Shelf.Lays8
import Derived.Shelf.RegionOpenPlain
import Derived.WalkKit
import Derived.Lib.Walk
import Derived.Lib.SliceRun
import Derived.Lib.AppendZerosOnto
import Derived.Test.YtdmgjhnmlilboaaGreatDoorAmSym
import Derived.KernelRfl
/-
  slices.Clone and slices.Grow at nil, of numbers, as calls of the machine.
-/
set_option linter.unusedVariables false
set_option linter.unusedSimpArgs false
namespace Go.Proofs
open Go.Shelf Go.RowKit Go.Lib
def Tryz.laysC_ren : Go.Shelf.Ren := ⟨fun | 15 => 13 | n => n, fun | 22 => 35 | 3 => 3 | 4 => 4 | n => n, fun | n => n⟩
theorem Tryz.laysC : Go.Proofs.Lays2.n15 Tryz.prog Tryz.laysC_ren := {
  mixed := by kernel_rfl
  f15 := Tryz.func13.trans (congrArg some (by kernel_rfl))
  t3 := Tryz.underlying3
  a3 := Tryz.isAgg3
  z3 := Tryz.sizeOf3
  v3 := Tryz.zeroValue3
  t4 := Tryz.underlying4
  a4 := Tryz.isAgg4
  z4 := Tryz.sizeOf4
  v4 := Tryz.zeroValue4
  t22 := Tryz.underlying35
  a22 := Tryz.isAgg35
  z22 := Tryz.sizeOf35
  v22 := Tryz.zeroValue35
  i3 := by kernel_rfl }
def Tryz.laysG_ren : Go.Shelf.Ren := ⟨fun | 4 => 29 | n => n, fun | 22 => 35 | 25 => 3 | n => n, fun | n => n⟩
theorem Tryz.laysG : Go.Proofs.Lays8.n4 Tryz.prog Tryz.laysG_ren := {
  mixed := by kernel_rfl
  f4 := ⟨"slices.Grow[[]int,int]", by kernel_rfl, Tryz.func29.trans (congrArg some (by kernel_rfl))⟩
  t0 := Tryz.underlying0
  a0 := Tryz.isAgg0
  z0 := Tryz.sizeOf0
  v0 := Tryz.zeroValue0
  t3 := Tryz.underlying3
  a3 := Tryz.isAgg3
  z3 := Tryz.sizeOf3
  v3 := Tryz.zeroValue3
  t4 := Tryz.underlying4
  a4 := Tryz.isAgg4
  z4 := Tryz.sizeOf4
  v4 := Tryz.zeroValue4
  t9 := Tryz.underlying9
  a9 := Tryz.isAgg9
  z9 := Tryz.sizeOf9
  v9 := Tryz.zeroValue9
  t20 := Tryz.underlying20
  a20 := Tryz.isAgg20
  z20 := Tryz.sizeOf20
  v20 := Tryz.zeroValue20
  t22 := Tryz.underlying35
  a22 := Tryz.isAgg35
  z22 := Tryz.sizeOf35
  v22 := Tryz.zeroValue35 }

variable {P : Program} {ρ : Ren}
set_option maxHeartbeats 2000000 in
set_option maxRecDepth 100000 in
/-- slices.Grow(nil, 0). -/
theorem grow_nil0 (L : Lays8.n4 P ρ) (w : World) : Calls P (ρ.f 4) #[.slice none 0 0, .int .i64 0] w fun e w' => e = .returned (.slice none 0 0) ∧ w' = w := by
  have mixed := L.mixed
  have t0 := L.t0; have a0 := L.a0; have z0 := L.z0; have v0 := L.v0; have u0 := run_underlying L.t0; have t3 := L.t3; have a3 := L.a3; have z3 := L.z3; have v3 := L.v3; have u3 := run_underlying L.t3; have t4 := L.t4; have a4 := L.a4; have z4 := L.z4; have v4 := L.v4; have u4 := run_underlying L.t4; have t9 := L.t9; have a9 := L.a9; have z9 := L.z9; have v9 := L.v9; have u9 := run_underlying L.t9; have t20 := L.t20; have a20 := L.a20; have z20 := L.z20; have v20 := L.v20; have u20 := run_underlying L.t20; have t22 := L.t22; have a22 := L.a22; have z22 := L.z22; have v22 := L.v22; have u22 := run_underlying L.t22
  obtain ⟨_, _, FG⟩ := L.f4
  have h1 : ¬ ((0 : Int) < 0) := by omega
  have h2 : wrap64 ((0 : Int) - (0 : Int)) = 0 := by unfold wrap64; omega
  have h4 : ¬ ((0 : Int) > 0) := by omega
  go_enter FG, Body8.n4_ntmps ρ
  go_wp2
  go_ret
  exact ⟨rfl, rfl⟩

set_option maxHeartbeats 4000000 in
set_option maxRecDepth 100000 in
/-- slices.Grow(nil, n), whatever a heap has room for. -/
theorem grow_nil (L : Lays8.n4 P ρ) (i0 : TypeInfo) (z : Value) (hi0 : P.info? (ρ.t 25) = some i0) (hz0 : i0.zero = some z) (hs0 : 0 < i0.size) (hb0 : 0 < i0.bytes)
    (n : Nat) (w : World) (hn : 0 < n) (hbig : n * i0.bytes ≤ 281474976710656) :
    Calls P (ρ.f 4) #[.slice none 0 0, .int .i64 n] w fun e w' =>
      e = .returned (.slice (some ⟨w.heap.size, 0, none⟩) 0 (grownCap w n 0 (ρ.t 25))) ∧
      w' = w.drew.alloc (.cells (Builtin.zeroCells z.cells n ++ Builtin.zeroCells z.cells (grownCap w n 0 (ρ.t 25) - n)) (ρ.t 25)) := by
  have mixed := L.mixed
  have t0 := L.t0; have a0 := L.a0; have z0 := L.z0; have v0 := L.v0; have u0 := run_underlying L.t0; have t3 := L.t3; have a3 := L.a3; have z3 := L.z3; have v3 := L.v3; have u3 := run_underlying L.t3; have t4 := L.t4; have a4 := L.a4; have z4 := L.z4; have v4 := L.v4; have u4 := run_underlying L.t4; have t9 := L.t9; have a9 := L.a9; have z9 := L.z9; have v9 := L.v9; have u9 := run_underlying L.t9; have t20 := L.t20; have a20 := L.a20; have z20 := L.z20; have v20 := L.v20; have u20 := run_underlying L.t20; have t22 := L.t22; have a22 := L.a22; have z22 := L.z22; have v22 := L.v22; have u22 := run_underlying L.t22
  obtain ⟨_, _, FG⟩ := L.f4
  have hn48 : n ≤ 281474976710656 := Nat.le_trans (Nat.le_mul_of_pos_right _ hb0) hbig
  have h1 : ¬ ((n : Int) < 0) := by omega
  have h2 : wrap64 ((0 : Int) - (0 : Int)) = 0 := by unfold wrap64; omega
  have h3 : wrap64 ((n : Int) - (0 : Int)) = (n : Int) := by unfold wrap64; omega
  have h4 : (n : Int) > 0 := by omega
  have z25 : ∀ w, (Go.sizeOf (ρ.t 25)).run P w = .ok i0.size w := fun w => by simp [Go.sizeOf, typeInfo, hi0]
  have hold : (Builtin.firstCells i0.size 0 (.slice none 0 0)).run P w.drew = .ok ([] : List Value).toArray w.drew := run_firstCells_none w.drew i0.size 0 0 0
  have hcap : Builtin.nextslicecap n 0 = n := by
    unfold Builtin.nextslicecap
    simp
    omega
  have hrz : ∀ ty, (Builtin.append_ #[(ρ.t 22), (ρ.t 3)] ty #[.slice none 0 0, .int .i64 (n : Int)]).run P w =
      .ok (.slice (some ⟨w.heap.size, 0, none⟩) n (grownCap w n 0 (ρ.t 25))) (w.drew.alloc (.cells (Builtin.zeroCells z.cells n ++ Builtin.zeroCells z.cells (grownCap w n 0 (ρ.t 25) - n)) (ρ.t 25))) := fun ty => by
    have h := Lib.run_append_grow_zeros w (ρ.t 22) (ρ.t 3) ty (ρ.t 25) i0 z .i64 .i64 L.t22 L.t3 hi0 hz0 none 0 0 [] hold n hn hs0 (by omega) (by omega) hbig (by rw [Nat.zero_add, hcap]; exact hbig)
    simp only [Nat.zero_add] at h
    simpa using h
  have hGn : n ≤ grownCap w n 0 (ρ.t 25) := grownCap_ge w _ _ _
  obtain ⟨G, hG⟩ : ∃ G, G = grownCap w n 0 (ρ.t 25) := ⟨_, rfl⟩
  rw [← hG] at hrz hGn ⊢
  have hG63 : G ≤ 9223372036854775807 := by
    have := grownCap_le_maxLen w n 0 (ρ.t 25) (by unfold maxLen; omega)
    rw [← hG] at this
    unfold maxLen at this
    omega
  clear hold hG hcap
  go_enter FG, Body8.n4_ntmps ρ
  go_wp2_with (at_builtin; refine Lib.wpList_append_run _ rfl _ _ _ _ rfl _ _ rfl rfl _ _ (hrz _) ?_)
  all_goals (go_ret; exact ⟨rfl, rfl⟩)
end Go.Proofs
namespace Go.Proofs.YtdmgjhnmlilboaaGreatDoor
open Go Go.Proofs.Am
theorem clone13 {cx : Cx} (hP : cx.P = Tryz.prog) : ExtOk cx 13 cloneE :=
  clone_ok (t := 3) (by rw [hP]; exact Any.slices_Clone_int Tryz.laysC) (by rw [hP]; exact Any.slices_Clone_int_nil Tryz.laysC) (by rw [hP]; exact Any.slices_Clone_int_zero Tryz.laysC)
end Go.Proofs.YtdmgjhnmlilboaaGreatDoor


namespace Go.Proofs.YtdmgjhnmlilboaaGreatDoor
open Go Go.Proofs.Am
def inP (l : List (Nat × Nat)) (r i : Nat) : Bool := l.any fun p => Nat.beq p.1 r && Nat.beq p.2 i
def takeF (f r i : Nat) : Bool :=
  match f with
  | 6 => inP [(3, 8), (7, 1), (7, 12), (17, 1), (17, 10), (27, 1), (27, 10), (30, 11)] r i
  | 8 => inP [(2, 12), (7, 1), (7, 8), (13, 1), (13, 24), (14, 1), (14, 26), (15, 12)] r i
  | 14 => inP [(2, 1), (2, 6)] r i
  | 15 => inP [(9, 2), (13, 0), (13, 3)] r i
  | 17 => inP [(8, 0), (8, 4), (13, 0), (13, 5)] r i
  | 27 => inP [(6, 0), (6, 4)] r i
  | 29 => inP [(5, 9), (6, 0), (6, 1)] r i
  | 56 => inP [(1, 4), (1, 17), (11, 19), (12, 14)] r i
  | 88 => inP [(4, 4), (4, 10)] r i
  | 95 => inP [(1, 1), (8, 0), (8, 6), (13, 0), (13, 7)] r i
  | 123 => inP [(7, 0), (7, 4)] r i
  | _ => false
def heapF (f r i : Nat) : Bool :=
  match f with
  | 6 => inP [(0, 0), (1, 5), (1, 11), (1, 20), (1, 26), (3, 0), (3, 3), (3, 7), (3, 8), (4, 1), (7, 1), (7, 12), (10, 1), (17, 1), (17, 10), (19, 1), (24, 1), (27, 1), (27, 10), (29, 1), (29, 3), (30, 3), (30, 11), (32, 5), (33, 0)] r i
  | 14 => inP [(0, 5), (2, 1), (2, 6)] r i
  | 23 => inP [(1, 3), (1, 4)] r i
  | 25 => inP [(3, 3), (3, 5), (4, 1), (4, 5), (4, 9)] r i
  | 40 => inP [(3, 2), (5, 3)] r i
  | 56 => inP [(0, 3), (1, 4), (1, 10), (1, 17), (5, 3), (9, 3), (9, 9), (11, 4), (11, 9), (11, 13), (11, 19), (12, 4), (12, 8), (12, 14)] r i
  | 74 => inP [(14, 1), (24, 6), (24, 7), (31, 5), (31, 6)] r i
  | 75 => inP [(0, 0), (1, 1), (2, 1), (4, 3), (4, 6), (4, 9), (4, 11), (4, 13), (4, 15), (6, 3), (6, 6), (6, 8), (8, 2), (10, 1), (11, 1), (12, 2), (15, 1), (21, 2), (22, 0)] r i
  | 86 => inP [(1, 3), (1, 7)] r i
  | 87 => inP [(0, 3), (1, 4)] r i
  | 88 => inP [(4, 4), (4, 10)] r i
  | 95 => inP [(14, 2), (18, 8), (18, 9)] r i
  | 100 => inP [(0, 3), (1, 3), (3, 3), (5, 3), (7, 9), (7, 12), (8, 6), (8, 13), (9, 3)] r i
  | 108 => inP [(10, 6)] r i
  | 109 => inP [(3, 5)] r i
  | 110 => inP [(3, 5), (5, 4), (6, 8), (6, 21), (8, 4)] r i
  | 112 => inP [(3, 10), (4, 4), (5, 10), (6, 4), (6, 14)] r i
  | 113 => inP [(1, 5), (1, 9), (1, 13), (1, 16)] r i
  | 114 => inP [(2, 11)] r i
  | 115 => inP [(0, 0)] r i
  | 116 => inP [(2, 3), (2, 8), (3, 3), (6, 3), (6, 7), (7, 4), (7, 8), (7, 14)] r i
  | 117 => inP [(1, 3), (2, 3), (5, 3)] r i
  | 122 => inP [(6, 2)] r i
  | 123 => inP [(9, 6), (9, 7), (13, 1)] r i
  | 124 => inP [(1, 4), (4, 3), (4, 7)] r i
  | 182 => inP [(0, 9)] r i
  | _ => false
def arrF (f r i : Nat) : Bool :=
  match f with
  | 74 => inP [(32, 1)] r i
  | 95 => inP [(20, 1)] r i
  | 122 => inP [(10, 1)] r i
  | _ => false
def pureF (f r i : Nat) : Bool :=
  match f with
  | 3 => inP [(1, 0)] r i
  | 6 => inP [(3, 1), (3, 4), (7, 4), (7, 7), (30, 9)] r i
  | _ => false
def retF (f : Nat) : Bool := [29].any fun k => Nat.beq f k
def cutF (f id : Nat) : Option Keep :=
  match f, id with
  | 5, 15 => some ⟨[1, 3, 7], [(0, 11)], 1⟩
  | 5, 11 => some ⟨[1, 3, 6], [(0, 11)], 1⟩
  | 5, 7 => some ⟨[1, 3, 5], [(0, 11)], 1⟩
  | 5, 3 => some ⟨[1, 3, 4], [(0, 11)], 1⟩
  | 6, 25 => some ⟨[1, 2, 4, 6, 118, 119, 120], [(0, 7)], 1⟩
  | 6, 20 => some ⟨[1, 2, 4, 6, 9, 106, 107, 108], [(0, 7)], 1⟩
  | 6, 11 => some ⟨[1, 2, 4, 6, 9, 78, 79, 80], [(0, 7)], 1⟩
  | 6, 5 => some ⟨[1, 2, 4, 6, 57, 58, 59], [(0, 7)], 1⟩
  | 7, 9 => some ⟨[2, 3, 6], [(0, 7), (1, 7)], 2⟩
  | 7, 4 => some ⟨[2, 3, 5], [(0, 7), (1, 7)], 2⟩
  | 8, 10 => some ⟨[1, 2, 4, 5, 6, 9, 10], [(0, 11), (1, 7), (2, 2), (3, 7)], 4⟩
  | 8, 5 => some ⟨[1, 2, 4, 5, 6, 7, 8], [(0, 11), (1, 7), (2, 2), (3, 7)], 4⟩
  | 15, 11 => some ⟨[6, 25, 26, 27], [], 0⟩
  | 15, 3 => some ⟨[0, 3, 9, 10, 11], [], 0⟩
  | 16, 4 => some ⟨[0, 1, 5], [], 0⟩
  | 17, 11 => some ⟨[1, 5, 7, 8], [], 1⟩
  | 17, 5 => some ⟨[1, 2, 5, 6], [(0, 11)], 1⟩
  | 19, 4 => some ⟨[12, 13, 14], [], 1⟩
  | 20, 14 => some ⟨[1, 49, 50, 51], [(0, 11)], 1⟩
  | 20, 2 => some ⟨[1, 11, 12, 13], [(0, 11)], 1⟩
  | 21, 2 => some ⟨[1, 8, 9, 10], [(0, 11)], 1⟩
  | 22, 2 => some ⟨[1, 9, 10, 11], [(0, 11)], 1⟩
  | 23, 14 => some ⟨[1, 41, 42, 43], [(0, 11)], 1⟩
  | 23, 3 => some ⟨[1, 3, 15, 16, 17], [(0, 11)], 1⟩
  | 25, 2 => some ⟨[1, 7, 8, 9], [(0, 11)], 1⟩
  | 26, 4 => some ⟨[0, 4, 5, 6], [], 0⟩
  | 27, 3 => some ⟨[1, 5, 9, 10, 11], [], 1⟩
  | 30, 16 => some ⟨[1, 49, 50, 51], [(0, 11)], 1⟩
  | 30, 10 => some ⟨[1, 31, 32, 33], [(0, 11)], 1⟩
  | 30, 4 => some ⟨[1, 13, 14, 15], [(0, 11)], 1⟩
  | 50, 2 => some ⟨[0, 1, 7, 8], [], 0⟩
  | 51, 2 => some ⟨[0, 1, 7, 8], [], 0⟩
  | 52, 4 => some ⟨[0, 2, 11, 12, 13], [(0, 7)], 1⟩
  | 56, 3 => some ⟨[0, 3, 32, 33, 34], [], 0⟩
  | 59, 17 => some ⟨[1, 2, 43, 44, 45], [], 0⟩
  | 59, 1 => some ⟨[0, 1, 2], [], 0⟩
  | 60, 2 => some ⟨[0, 1, 7, 8], [], 0⟩
  | 61, 3 => some ⟨[4, 5, 12, 13, 14], [], 0⟩
  | 74, 27 => some ⟨[0, 9, 10, 12], [], 0⟩
  | 74, 21 => some ⟨[0, 9, 10, 11, 12], [], 0⟩
  | 74, 18 => some ⟨[0, 9, 10, 12], [], 0⟩
  | 74, 5 => some ⟨[0, 3, 4, 5, 6], [], 0⟩
  | 88, 1 => some ⟨[0, 6, 7, 8], [], 0⟩
  | 91, 2 => some ⟨[0, 1, 7, 8], [], 0⟩
  | 92, 2 => some ⟨[0, 1, 7, 8], [], 0⟩
  | 93, 2 => some ⟨[0, 1, 7, 8], [], 0⟩
  | 94, 2 => some ⟨[0, 1, 7, 8], [], 0⟩
  | 95, 16 => some ⟨[0, 9, 47, 48, 49], [], 0⟩
  | 95, 4 => some ⟨[0, 1, 5, 6, 14], [], 0⟩
  | 101, 2 => some ⟨[0, 1, 7, 8], [], 0⟩
  | 106, 2 => some ⟨[0, 1, 7, 8], [], 0⟩
  | 107, 2 => some ⟨[0, 1, 7, 8], [], 0⟩
  | 122, 8 => some ⟨[7, 8], [], 0⟩
  | 123, 3 => some ⟨[0, 4, 11, 12, 13], [], 1⟩
  | 125, 1 => some ⟨[0, 1, 3], [], 0⟩
  | 126, 14 => some ⟨[0, 1, 7, 8], [], 0⟩
  | 126, 3 => some ⟨[0, 1, 19, 20], [], 0⟩
  | 127, 14 => some ⟨[0, 1, 7, 8], [], 0⟩
  | 127, 3 => some ⟨[0, 1, 15, 16], [], 0⟩
  | 134, 4 => some ⟨[0, 1, 12, 13], [], 0⟩
  | 135, 15 => some ⟨[0, 1, 5, 6, 7, 8, 9, 10], [], 0⟩
  | 138, 2 => some ⟨[0, 1, 7, 8], [], 0⟩
  | 142, 11 => some ⟨[0, 1, 5, 6, 7, 8, 10], [], 0⟩
  | 142, 5 => some ⟨[0, 1, 5, 6, 7, 8, 9], [], 0⟩
  | 144, 8 => some ⟨[4, 6, 7, 8], [], 0⟩
  | 144, 3 => some ⟨[0, 4, 5], [], 0⟩
  | _, _ => none
def extZ (f : Nat) : Option (List LV → Option LV) := bif Nat.beq f 13 then some cloneE else bif Nat.beq f 29 then some growE else none
/-- Cuts of the laws' own texts, beside the loops'. -/
def cutZ (f id : Nat) : Option Keep :=
  match f, id with
  | _, _ => cutF f id
noncomputable def cxZ (_ : Int) : Cx :=
  { P := Tryz.prog, cut := cutZ, take := takeF, heap := heapF, arr := arrF, pure := pureF, retOw := retF, ext := extZ, glob := fun _ => none }
theorem namesB : (Tryz.prog.funcs.toList.all fun fn => fn.name != "runtime.NumGoroutine") = true := by kernel_rfl
theorem grow29 {cx : Cx} (hP : cx.P = Tryz.prog) : ExtOk cx 29 growE := by
  have hi := Tryz.laysC.i3
  rw [Option.map_eq_some_iff] at hi
  obtain ⟨i, h1, h2⟩ := hi
  simp only [Prod.mk.injEq] at h2
  obtain ⟨hz, hs, hb⟩ := h2
  refine grow_ok (t := 3) (by rw [hP]; exact fun w => grow_nil0 Tryz.laysG w) ?_
  rw [hP]
  intro n w hn hbig
  refine (grow_nil Tryz.laysG i _ h1 hz (by omega) (by omega) n w hn (by rw [hb]; exact hbig)).mono ?_
  rintro e w' ⟨rfl, rfl⟩
  have hge : n ≤ grownCap w n 0 3 := grownCap_ge w _ _ _
  refine ⟨_, ?_, rfl⟩
  rw [show (Builtin.zeroCells (Value.int IntKind.i64 0).cells n ++ Builtin.zeroCells (Value.int IntKind.i64 0).cells (grownCap w n 0 (Tryz.laysG_ren.t 25) - n)).size = grownCap w n 0 3 from by
    simp only [Array.size_append, Builtin.zeroCells, Array.size_map, Array.size_range, Value.cells, List.size_toArray, List.length_cons, List.length_nil, Nat.zero_add, Nat.mul_one]
    show n + (grownCap w n 0 3 - n) = _
    omega]
  rfl
theorem names_ok (f : FuncId) (fn : Func) (hf : Tryz.prog.funcs[f]? = some fn) : fn.name ≠ "runtime.NumGoroutine" := by
  have h := List.all_eq_true.1 namesB fn (List.mem_of_getElem? (by rw [Array.getElem?_toList]; exact hf))
  simpa using h
theorem body_of {f : FuncId} {fn : Func} (h : Tryz.prog.funcs[f]? = some fn) (hb : fn.body.isSome = true) : ∃ c, fn.body = some c ∧ Tryz.prog.funcs[f]? = some fn := by
  cases hc : fn.body with
  | none => rw [hc] at hb; cases hb
  | some c => exact ⟨c, rfl, h⟩
theorem cxZ_ok (m : Int) : CxOk (cxZ m) where
  names := names_ok
  ext := fun f e h => by
    have h : extZ f = some e := h
    unfold extZ at h
    cases hb : Nat.beq f 13 with
    | false =>
      rw [hb, cond_false] at h
      cases hc : Nat.beq f 29 with
      | false => rw [hc] at h; cases h
      | true =>
        rw [hc] at h
        cases h
        have := Nat.eq_of_beq_eq_true hc
        subst this
        obtain ⟨c, hc, _⟩ := body_of Tryz.func29 (by kernel_rfl)
        exact ⟨grow29 rfl, _, c, Tryz.func29, hc⟩
    | true =>
      rw [hb] at h
      cases h
      have := Nat.eq_of_beq_eq_true hb
      subst this
      obtain ⟨c, hc, _⟩ := body_of Tryz.func13 (by kernel_rfl)
      exact ⟨clone13 rfl, _, c, Tryz.func13, hc⟩
  mixed := by kernel_rfl
  globs := fun i cs h => by cases h
end Go.Proofs.YtdmgjhnmlilboaaGreatDoor
