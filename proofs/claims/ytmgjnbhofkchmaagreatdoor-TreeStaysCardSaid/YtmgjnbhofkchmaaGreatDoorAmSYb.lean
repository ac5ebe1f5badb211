/-
  The abstract machine at this program: which operations move, which boxes lie on the heap, which calls see no heap, where texts are cut.
-/
import Derived.Test.YtmgjnbhofkchmaaGreatDoorProg
import Derived.Shelf.Strings.Fields
import Derived.Shelf.Strings.Search3
import Derived.Test.YtmgjnbhofkchmaaGreatDoorAmExt
import Derived.Test.YtmgjnbhofkchmaaGreatDoorAmFast
import Derived.Test.YtmgjnbhofkchmaaGreatDoorAmSym
import Derived.Test.YtmgjnbhofkchmaaGreatDoorAmRowX
import Derived.Shelf.Slices.Clone
import Derived.KernelRfl
/-
  Library contracts at this program (strings.Fields, strings.Contains), as the shelf lays them.
-/
namespace Go.Proofs
open Go.Shelf
def Tryz.lays157_ren : Go.Shelf.Ren := ⟨fun | 157 => 76 | 229 => 79 | 199 => 80 | 261 => 85 | 311 => 91 | 312 => 92 | n => n, fun | 9 => 9 | 31 => 123 | 3 => 3 | 5 => 5 | 4 => 4 | 119 => 127 | 0 => 0 | 40 => 129 | 152 => 134 | 21 => 21 | 154 => 136 | 51 => 137 | 141 => 139 | 196 => 146 | 193 => 143 | 198 => 149 | 49 => 147 | 194 => 144 | 201 => 152 | 226 => 160 | 46 => 157 | 227 => 161 | n => n, fun | 0 => 0 | 6 => 1 | n => n⟩
theorem Tryz.lays157 : Go.Proofs.Lays.n157 Tryz.prog Tryz.lays157_ren := {
  mixed := by kernel_rfl
  f157 := Tryz.func76.trans (congrArg some (by kernel_rfl))
  f199 := Tryz.func80.trans (congrArg some (by kernel_rfl))
  f229 := Tryz.func79.trans (congrArg some (by kernel_rfl))
  f261 := Tryz.func85.trans (congrArg some (by kernel_rfl))
  f311 := Tryz.func91.trans (congrArg some (by kernel_rfl))
  f312 := Tryz.func92.trans (congrArg some (by kernel_rfl))
  t0 := Tryz.underlying0
  a0 := Tryz.isAgg0
  z0 := Tryz.sizeOf0
  v0 := Tryz.zeroValue0
  t3 := Tryz.underlying3
  a3 := Tryz.isAgg3
  z3 := Tryz.sizeOf3
  v3 := Tryz.zeroValue3
  t4 := Tryz.underlying4
  a4 := Tryz.isAgg4
  z4 := Tryz.sizeOf4
  v4 := Tryz.zeroValue4
  t5 := Tryz.underlying5
  a5 := Tryz.isAgg5
  z5 := Tryz.sizeOf5
  v5 := Tryz.zeroValue5
  t9 := Tryz.underlying9
  a9 := Tryz.isAgg9
  z9 := Tryz.sizeOf9
  v9 := Tryz.zeroValue9
  t21 := Tryz.underlying21
  a21 := Tryz.isAgg21
  z21 := Tryz.sizeOf21
  v21 := Tryz.zeroValue21
  t31 := Tryz.underlying123
  a31 := Tryz.isAgg123
  z31 := Tryz.sizeOf123
  v31 := Tryz.zeroValue123
  t40 := Tryz.underlying129
  a40 := Tryz.isAgg129
  z40 := Tryz.sizeOf129
  v40 := Tryz.zeroValue129
  t46 := Tryz.underlying157
  a46 := Tryz.isAgg157
  z46 := Tryz.sizeOf157
  v46 := Tryz.zeroValue157
  t49 := Tryz.underlying147
  a49 := Tryz.isAgg147
  z49 := Tryz.sizeOf147
  v49 := Tryz.zeroValue147
  t51 := Tryz.underlying137
  a51 := Tryz.isAgg137
  z51 := Tryz.sizeOf137
  v51 := Tryz.zeroValue137
  t119 := Tryz.underlying127
  a119 := Tryz.isAgg127
  z119 := Tryz.sizeOf127
  t141 := Tryz.underlying139
  a141 := Tryz.isAgg139
  z141 := Tryz.sizeOf139
  v141 := Tryz.zeroValue139
  t152 := Tryz.underlying134
  a152 := Tryz.isAgg134
  z152 := Tryz.sizeOf134
  v152 := Tryz.zeroValue134
  t154 := Tryz.underlying136
  a154 := Tryz.isAgg136
  z154 := Tryz.sizeOf136
  v154 := Tryz.zeroValue136
  t193 := Tryz.underlying143
  a193 := Tryz.isAgg143
  z193 := Tryz.sizeOf143
  v193 := Tryz.zeroValue143
  t194 := Tryz.underlying144
  a194 := Tryz.isAgg144
  z194 := Tryz.sizeOf144
  v194 := Tryz.zeroValue144
  t196 := Tryz.underlying146
  a196 := Tryz.isAgg146
  z196 := Tryz.sizeOf146
  v196 := Tryz.zeroValue146
  t198 := Tryz.underlying149
  a198 := Tryz.isAgg149
  z198 := Tryz.sizeOf149
  v198 := Tryz.zeroValue149
  t201 := Tryz.underlying152
  a201 := Tryz.isAgg152
  z201 := Tryz.sizeOf152
  v201 := Tryz.zeroValue152
  t226 := Tryz.underlying160
  a226 := Tryz.isAgg160
  z226 := Tryz.sizeOf160
  v226 := Tryz.zeroValue160
  t227 := Tryz.underlying161
  a227 := Tryz.isAgg161
  z227 := Tryz.sizeOf161
  v227 := Tryz.zeroValue161
  g0 := by kernel_rfl
  g6 := by kernel_rfl }
def Tryz.lays144_ren : Go.Shelf.Ren := ⟨fun | 144 => 87 | 143 => 94 | 219 => 97 | 217 => 100 | 225 => 101 | 224 => 102 | 267 => 103 | 266 => 104 | 314 => 105 | n => n, fun | 9 => 9 | 4 => 4 | 3 => 3 | 5 => 5 | 46 => 157 | 146 => 162 | 51 => 137 | n => n, fun | 1 => 2 | n => n⟩
theorem Tryz.lays144 : Go.Proofs.Lays.n144 Tryz.prog Tryz.lays144_ren := {
  mixed := by kernel_rfl
  f143 := Tryz.func94.trans (congrArg some (by kernel_rfl))
  f144 := Tryz.func87.trans (congrArg some (by kernel_rfl))
  f217 := Tryz.func100.trans (congrArg some (by kernel_rfl))
  f219 := Tryz.func97.trans (congrArg some (by kernel_rfl))
  f224 := Tryz.func102.trans (congrArg some (by kernel_rfl))
  f225 := Tryz.func101.trans (congrArg some (by kernel_rfl))
  f266 := Tryz.func104.trans (congrArg some (by kernel_rfl))
  f267 := Tryz.func103.trans (congrArg some (by kernel_rfl))
  f314 := Tryz.func105.trans (congrArg some (by kernel_rfl))
  t3 := Tryz.underlying3
  a3 := Tryz.isAgg3
  z3 := Tryz.sizeOf3
  v3 := Tryz.zeroValue3
  t4 := Tryz.underlying4
  a4 := Tryz.isAgg4
  z4 := Tryz.sizeOf4
  v4 := Tryz.zeroValue4
  t5 := Tryz.underlying5
  a5 := Tryz.isAgg5
  z5 := Tryz.sizeOf5
  v5 := Tryz.zeroValue5
  t9 := Tryz.underlying9
  a9 := Tryz.isAgg9
  z9 := Tryz.sizeOf9
  v9 := Tryz.zeroValue9
  t46 := Tryz.underlying157
  a46 := Tryz.isAgg157
  z46 := Tryz.sizeOf157
  v46 := Tryz.zeroValue157
  t51 := Tryz.underlying137
  a51 := Tryz.isAgg137
  z51 := Tryz.sizeOf137
  v51 := Tryz.zeroValue137
  t146 := Tryz.underlying162
  a146 := Tryz.isAgg162
  z146 := Tryz.sizeOf162
  v146 := Tryz.zeroValue162
  g1 := by kernel_rfl }
end Go.Proofs

/-
  strings.Fields (over ASCII) and strings.Contains, by the shelf's contracts, as calls of the abstract machine.
-/
namespace Go.Proofs.YtmgjnbhofkchmaaGreatDoor
open Go Go.Proofs.Am

def ascii (s : ByteArray) : Bool := s.data.toList.all fun b => Nat.blt b.toNat 128
def small (s : ByteArray) : Bool := Nat.blt s.size 4294967281
/-- strings.Fields, over ASCII. -/
def fieldsE : List LV → Option LV
  | [.v (.str s)] => bif ascii s && small s then some (.v (.imm (((Lib.fields s.data.toList).map fun l => AV.str ⟨l.toArray⟩).map fun a => [a]))) else none
  | _ => none
/-- strings.Contains. -/
def containsE : List LV → Option LV
  | [.v (.str s), .v (.str t)] => bif small s then some (.v (.bool (Lib.contains s.data.toList t.data.toList))) else none
  | _ => none

def asciiL : List AV := (List.range 256).map fun c => .int .u8 (if Lib.isSp (UInt8.ofNat c) then 1 else 0)

theorem vs_one {xs : List LV} {y : LV} {vs : Array Value} (h : xs = [y]) (hl : vs.size = xs.length) : ∃ v, vs = #[v] := by
  subst h
  obtain ⟨l⟩ := vs
  match l, hl with
  | [v], _ => exact ⟨v, rfl⟩
theorem vs_two {xs : List LV} {y z : LV} {vs : Array Value} (h : xs = [y, z]) (hl : vs.size = xs.length) : ∃ v u, vs = #[v, u] := by
  subst h
  obtain ⟨l⟩ := vs
  match l, hl with
  | [v, u], _ => exact ⟨v, u, rfl⟩

theorem fields_ok {cx : Cx} (hP : cx.P = Tryz.prog) (hg : cx.glob 0 = some asciiL) : ExtOk cx 76 fieldsE := by
  refine ext_slice ?_
  intro xs x hx w g vs wf hG hl hr
  unfold fieldsE at hx
  split at hx
  · rename_i s
    cases hc : (ascii s && small s) with
    | false => rw [hc] at hx; cases hx
    | true =>
      rw [hc, cond_true, Option.some.injEq] at hx
      subst hx
      rw [Bool.and_eq_true] at hc
      obtain ⟨v, rfl⟩ := vs_one rfl hl
      obtain ⟨p, u, hp, hu, hrep⟩ := hr 0 _ rfl
      cases hp
      simp at hu
      subst hu
      cases hrep
      refine ⟨_, (Lib.fields s.data.toList).map fun l => Value.string ⟨l.toArray⟩, 9, rfl, by simp, fun j a hj => ?_, ?_⟩
      · rw [List.getElem?_map] at hj ⊢
        cases hl : (Lib.fields s.data.toList)[j]? with
        | none => rw [hl] at hj; cases hj
        | some l =>
          rw [hl] at hj
          simp only [Option.map_some, Option.some.injEq] at hj
          subst hj
          exact ⟨_, rfl, .str _, rfl⟩
      · rw [hP]
        have := Any.strings_Fields_core Tryz.lays157 (by kernel_rfl) s w (Nat.le_of_ble_eq_true hc.2) (fun j b hb => by
          have := List.all_eq_true.1 hc.1 b (List.mem_of_getElem? hb)
          exact Nat.le_of_ble_eq_true this) (fun c hc => by
          obtain ⟨u, hu, hrep⟩ := glob_cell hG hg (j := c) (c := .int .u8 (if Lib.isSp (UInt8.ofNat c) then 1 else 0)) (by
            unfold asciiL
            rw [List.getElem?_map, List.getElem?_range hc]; rfl)
          cases hrep
          exact hu)
        simp only [List.length_map]
        exact this
  · cases hx

theorem contains_ok {cx : Cx} {m : Int} (hP : cx.P = Tryz.prog) (hg : cx.glob 2 = some [.int .i64 m]) : ExtOk cx 87 containsE := by
  refine ext_value ?_
  intro xs x hx w g vs wf hG hl hr
  unfold containsE at hx
  split at hx
  · rename_i s t
    cases hc : small s with
    | false => rw [hc] at hx; cases hx
    | true =>
      rw [hc, cond_true, Option.some.injEq] at hx
      subst hx
      obtain ⟨v, v', rfl⟩ := vs_two rfl hl
      obtain ⟨p, u, hp, hu, hrep⟩ := hr 0 _ rfl
      obtain ⟨p', u', hp', hu', hrep'⟩ := hr 1 _ rfl
      cases hp; cases hp'
      simp at hu hu'
      subst hu; subst hu'
      cases hrep; cases hrep'
      obtain ⟨u, hu, hrep⟩ := glob_cell hG hg (j := 0) rfl
      cases hrep
      refine ⟨_, _, rfl, .bool _, ?_⟩
      rw [hP]
      exact Any.strings_Contains Tryz.lays144 s t m w (Nat.le_of_ble_eq_true hc) hu
  · cases hx
end Go.Proofs.YtmgjnbhofkchmaaGreatDoor


namespace Go.Proofs.YtmgjnbhofkchmaaGreatDoor
open Go Go.Proofs.Am
end Go.Proofs.YtmgjnbhofkchmaaGreatDoor
namespace Go.Proofs
open Go.Shelf
def Tryz.laysC_ren : Go.Shelf.Ren := ⟨fun | 15 => 18 | n => n, fun | 22 => 36 | 3 => 3 | 4 => 4 | n => n, fun | n => n⟩
theorem Tryz.laysC : Go.Proofs.Lays2.n15 Tryz.prog Tryz.laysC_ren := {
  mixed := by kernel_rfl
  f15 := Tryz.func18.trans (congrArg some (by kernel_rfl))
  t3 := Tryz.underlying3
  a3 := Tryz.isAgg3
  z3 := Tryz.sizeOf3
  v3 := Tryz.zeroValue3
  t4 := Tryz.underlying4
  a4 := Tryz.isAgg4
  z4 := Tryz.sizeOf4
  v4 := Tryz.zeroValue4
  t22 := Tryz.underlying36
  a22 := Tryz.isAgg36
  z22 := Tryz.sizeOf36
  v22 := Tryz.zeroValue36
  i3 := by kernel_rfl }
end Go.Proofs
namespace Go.Proofs.YtmgjnbhofkchmaaGreatDoor
open Go Go.Proofs.Am
def inP (l : List (Nat × Nat)) (r i : Nat) : Bool := l.any fun p => Nat.beq p.1 r && Nat.beq p.2 i
def takeF (f r i : Nat) : Bool :=
  match f with
  | 6 => inP [(1, 20), (5, 1), (5, 22), (9, 1), (9, 27), (15, 1), (15, 6), (19, 1), (19, 24), (23, 1), (23, 24), (27, 1), (27, 20)] r i
  | 15 => inP [(9, 0), (9, 4)] r i
  | 17 => inP [(6, 0), (6, 4)] r i
  | 79 => inP [(1, 1), (8, 0), (8, 6), (13, 0), (13, 7)] r i
  | _ => false
def heapF (f r i : Nat) : Bool :=
  match f with
  | 3 => inP [(10, 3), (10, 4), (14, 3), (14, 4)] r i
  | 76 => inP [(14, 1), (24, 6), (24, 7), (31, 5), (31, 6)] r i
  | 77 => inP [(0, 0), (1, 1), (2, 1), (4, 3), (4, 6), (4, 9), (4, 11), (4, 13), (4, 15), (6, 3), (6, 6), (6, 8), (8, 2), (10, 1), (11, 1), (12, 2), (15, 1), (21, 2), (22, 0)] r i
  | 79 => inP [(14, 2), (18, 8), (18, 9)] r i
  | 84 => inP [(0, 3), (1, 3), (3, 3), (5, 3), (7, 9), (7, 12), (8, 6), (8, 13), (9, 3)] r i
  | 85 => inP [(1, 3), (2, 3), (5, 3)] r i
  | 90 => inP [(6, 2)] r i
  | 130 => inP [(0, 9)] r i
  | _ => false
def arrF (f r i : Nat) : Bool :=
  match f with
  | 76 => inP [(32, 1)] r i
  | 79 => inP [(20, 1)] r i
  | 90 => inP [(10, 1)] r i
  | _ => false
def pureF (f r i : Nat) : Bool :=
  match f with
  | 3 => inP [(1, 0)] r i
  | 62 => inP [(1, 1), (3, 0), (6, 2), (8, 11)] r i
  | 77 => inP [(1, 2), (4, 4), (4, 7), (6, 4)] r i
  | 81 => inP [(1, 1), (3, 1)] r i
  | 82 => inP [(1, 1), (3, 1), (5, 2), (5, 5)] r i
  | 83 => inP [(1, 2)] r i
  | 84 => inP [(0, 4), (1, 4), (3, 4), (5, 4), (7, 5), (8, 14)] r i
  | 85 => inP [(4, 5), (7, 3)] r i
  | 86 => inP [(1, 2)] r i
  | 87 => inP [(1, 2)] r i
  | 89 => inP [(1, 1)] r i
  | 94 => inP [(1, 2)] r i
  | 96 => inP [(1, 4), (3, 2)] r i
  | 97 => inP [(5, 3), (9, 2), (17, 6), (25, 6), (26, 4), (31, 4)] r i
  | 100 => inP [(1, 2)] r i
  | 103 => inP [(1, 1)] r i
  | _ => false
def retF (f : Nat) : Bool := [].any fun k => Nat.beq f k
def cutF (f id : Nat) : Option Keep :=
  match f, id with
  | 3, 12 => some ⟨[1, 2, 5, 7, 8, 9, 11], [(0, 11), (1, 11), (2, 2)], 3⟩
  | 3, 8 => some ⟨[1, 2, 5, 7, 8, 9, 10], [(0, 11), (1, 11), (2, 2)], 3⟩
  | 5, 15 => some ⟨[1, 3, 7], [(0, 11)], 1⟩
  | 5, 11 => some ⟨[1, 3, 6], [(0, 11)], 1⟩
  | 5, 7 => some ⟨[1, 3, 5], [(0, 11)], 1⟩
  | 5, 3 => some ⟨[1, 3, 4], [(0, 11)], 1⟩
  | 6, 25 => some ⟨[1, 2, 3, 10], [(0, 11), (1, 11), (2, 11)], 3⟩
  | 6, 21 => some ⟨[1, 2, 3, 9], [(0, 11), (1, 11), (2, 11)], 3⟩
  | 6, 17 => some ⟨[1, 2, 3, 8], [(0, 11), (1, 11), (2, 11)], 3⟩
  | 6, 11 => some ⟨[1, 2, 3, 6], [(0, 11), (1, 11), (2, 11)], 3⟩
  | 6, 7 => some ⟨[1, 2, 3, 5], [(0, 11), (1, 11), (2, 11)], 3⟩
  | 6, 3 => some ⟨[1, 2, 3, 4], [(0, 11), (1, 11), (2, 11)], 3⟩
  | 8, 16 => some ⟨[1, 49, 50, 51], [(0, 11)], 1⟩
  | 8, 10 => some ⟨[1, 31, 32, 33], [(0, 11)], 1⟩
  | 8, 4 => some ⟨[1, 13, 14, 15], [(0, 11)], 1⟩
  | 10, 41 => some ⟨[2, 3, 5, 15], [(0, 11), (1, 11)], 2⟩
  | 10, 37 => some ⟨[2, 3, 5, 14], [(0, 11), (1, 11)], 2⟩
  | 10, 33 => some ⟨[2, 3, 5, 13], [(0, 11), (1, 11)], 2⟩
  | 10, 29 => some ⟨[2, 3, 5, 12], [(0, 11), (1, 11)], 2⟩
  | 10, 25 => some ⟨[2, 3, 5, 11], [(0, 11), (1, 11)], 2⟩
  | 10, 21 => some ⟨[2, 3, 5, 10], [(0, 11), (1, 11)], 2⟩
  | 10, 17 => some ⟨[2, 3, 5, 9], [(0, 11), (1, 11)], 2⟩
  | 10, 13 => some ⟨[2, 3, 5, 8], [(0, 11), (1, 11)], 2⟩
  | 10, 9 => some ⟨[2, 3, 5, 7], [(0, 11), (1, 11)], 2⟩
  | 10, 5 => some ⟨[2, 3, 5, 6], [(0, 11), (1, 11)], 2⟩
  | 11, 3 => some ⟨[4, 5, 12, 13, 14], [], 0⟩
  | 15, 3 => some ⟨[0, 3, 4], [], 0⟩
  | 17, 3 => some ⟨[1, 5, 9, 10, 11], [], 1⟩
  | 23, 4 => some ⟨[1, 2, 15, 16, 17], [], 0⟩
  | 25, 4 => some ⟨[0, 1, 12, 13], [], 0⟩
  | 26, 4 => some ⟨[0, 1, 12, 13], [], 0⟩
  | 27, 4 => some ⟨[0, 1, 12, 13], [], 0⟩
  | 28, 4 => some ⟨[1, 2, 15, 16, 17], [], 0⟩
  | 30, 4 => some ⟨[0, 1, 12, 13], [], 0⟩
  | 31, 4 => some ⟨[1, 2, 15, 16, 17], [], 0⟩
  | 33, 4 => some ⟨[1, 2, 15, 16, 17], [], 0⟩
  | 35, 4 => some ⟨[1, 2, 15, 16, 17], [], 0⟩
  | 37, 4 => some ⟨[1, 2, 15, 16, 17], [], 0⟩
  | 39, 4 => some ⟨[0, 1, 12, 13], [], 0⟩
  | 40, 4 => some ⟨[1, 2, 15, 16, 17], [], 0⟩
  | 42, 4 => some ⟨[0, 1, 5], [], 0⟩
  | 43, 4 => some ⟨[0, 1, 5], [], 0⟩
  | 48, 4 => some ⟨[0, 4, 5, 6], [], 0⟩
  | 61, 2 => some ⟨[0, 1, 7, 8], [], 0⟩
  | 62, 4 => some ⟨[0, 2, 11, 12, 13], [(0, 7)], 1⟩
  | 69, 2 => some ⟨[0, 1, 7, 8], [], 0⟩
  | 70, 2 => some ⟨[0, 1, 7, 8], [], 0⟩
  | 71, 2 => some ⟨[0, 1, 7, 8], [], 0⟩
  | 72, 2 => some ⟨[0, 1, 7, 8], [], 0⟩
  | 73, 2 => some ⟨[0, 1, 7, 8], [], 0⟩
  | 76, 27 => some ⟨[0, 9, 10, 12], [], 0⟩
  | 76, 21 => some ⟨[0, 9, 10, 11, 12], [], 0⟩
  | 76, 18 => some ⟨[0, 9, 10, 12], [], 0⟩
  | 76, 5 => some ⟨[0, 3, 4, 5, 6], [], 0⟩
  | 78, 2 => some ⟨[0, 1, 7, 8], [], 0⟩
  | 79, 16 => some ⟨[0, 9, 47, 48, 49], [], 0⟩
  | 79, 4 => some ⟨[0, 1, 5, 6, 14], [], 0⟩
  | 90, 8 => some ⟨[7, 8], [], 0⟩
  | 91, 14 => some ⟨[0, 1, 7, 8], [], 0⟩
  | 91, 3 => some ⟨[0, 1, 19, 20], [], 0⟩
  | 92, 14 => some ⟨[0, 1, 7, 8], [], 0⟩
  | 92, 3 => some ⟨[0, 1, 15, 16], [], 0⟩
  | 97, 15 => some ⟨[0, 1, 5, 6, 7, 8, 9, 10], [], 0⟩
  | 103, 11 => some ⟨[0, 1, 5, 6, 7, 8, 10], [], 0⟩
  | 103, 5 => some ⟨[0, 1, 5, 6, 7, 8, 9], [], 0⟩
  | 105, 8 => some ⟨[4, 6, 7, 8], [], 0⟩
  | 105, 3 => some ⟨[0, 4, 5], [], 0⟩
  | _, _ => none
def extZ (f : Nat) : Option (List LV → Option LV) := bif Nat.beq f 76 then some fieldsE else bif Nat.beq f 87 then some containsE else none
def exhZ (f : Nat) : Option (List LV → Heap → Option (LV × Heap)) := bif Nat.beq f 18 then some cloneH else none
noncomputable def cxZ (m : Int) : Cx :=
  { P := Tryz.prog, cut := cutF, take := takeF, heap := heapF, arr := arrF, pure := pureF, retOw := retF, ext := extZ, exh := exhZ,
    glob := fun i => match i with | 0 => some asciiL | 2 => some [.int .i64 m] | _ => none }
theorem namesB : (Tryz.prog.funcs.toList.all fun fn => fn.name != "runtime.NumGoroutine") = true := by kernel_rfl
theorem npA : (AV.snap asciiL).np = true := by kernel_rfl
theorem names_ok (f : FuncId) (fn : Func) (hf : Tryz.prog.funcs[f]? = some fn) : fn.name ≠ "runtime.NumGoroutine" := by
  have h := List.all_eq_true.1 namesB fn (List.mem_of_getElem? (by rw [Array.getElem?_toList]; exact hf))
  simpa using h
theorem globs_ok (m : Int) (i : Nat) (cs : List AV) (hi : (cxZ m).glob i = some cs) : (AV.snap cs).np = true := by
  match i, hi with
  | 0, hi => cases hi; exact npA
  | 2, hi => cases hi; rfl
  | 1, hi => cases hi
  | n + 3, hi => cases hi

theorem body_of {f : FuncId} {fn : Func} (h : Tryz.prog.funcs[f]? = some fn) (hb : fn.body.isSome = true) : ∃ c, fn.body = some c ∧ Tryz.prog.funcs[f]? = some fn := by
  cases hc : fn.body with
  | none => rw [hc] at hb; cases hb
  | some c => exact ⟨c, rfl, h⟩
theorem clone_heap {cx : Cx} (hP : cx.P = Tryz.prog) : ExhOk cx 18 cloneH :=
  cloneH_ok (t := 3) (by rw [hP]; exact Any.slices_Clone_int Tryz.laysC) (by rw [hP]; exact Any.slices_Clone_int_nil Tryz.laysC) (by rw [hP]; exact Any.slices_Clone_int_zero Tryz.laysC)
theorem cxZ_ok (m : Int) : CxOk (cxZ m) where
  names := names_ok
  ext := fun f e h => by
    have h : extZ f = some e := h
    unfold extZ at h
    cases hb : Nat.beq f 76 with
    | false =>
      rw [hb, cond_false] at h
      cases hc : Nat.beq f 87 with
      | false => rw [hc] at h; cases h
      | true =>
        rw [hc] at h
        cases h
        have := Nat.eq_of_beq_eq_true hc
        subst this
        obtain ⟨c, hc, _⟩ := body_of Tryz.func87 (by kernel_rfl)
        exact ⟨contains_ok (m := m) rfl rfl, _, c, Tryz.func87, hc⟩
    | true =>
      rw [hb] at h
      cases h
      have := Nat.eq_of_beq_eq_true hb
      subst this
      obtain ⟨c, hc, _⟩ := body_of Tryz.func76 (by kernel_rfl)
      exact ⟨fields_ok rfl rfl, _, c, Tryz.func76, hc⟩
  exh := fun f e h => by
    have h : exhZ f = some e := h
    unfold exhZ at h
    cases hb : Nat.beq f 18 with
    | false => rw [hb] at h; cases h
    | true =>
      rw [hb] at h
      cases h
      have := Nat.eq_of_beq_eq_true hb
      subst this
      obtain ⟨c, hc, _⟩ := body_of Tryz.func18 (by kernel_rfl)
      exact ⟨clone_heap rfl, _, c, Tryz.func18, hc⟩
  mixed := by kernel_rfl
  globs := globs_ok m
theorem callZ {m : Int} {f : Nat} {xs : List LV} {h : Heap} {y : LV × Heap} (he : extZ f = none) (hb : (body_ (Cx.P (cxZ m)) f).isEmpty = false) (hc : (cutAt (cxZ m) f (body_ (Cx.P (cxZ m)) f)).isNone = true) (hy : blk (cxZ m) f (body_ (Cx.P (cxZ m)) f) xs h = some y) (hx : exhZ f = none := by rfl) : callF (cxZ m) (blk (cxZ m)) f xs h = some y :=
  callF_of (cx := cxZ m) he hb hc hy hx
/-- Short names that the ways are written in. -/
abbrev aI : Int → AV := AV.int .i64
noncomputable abbrev cA (m : Int) : FuncId → List LV → Heap → Option (LV × Heap) := callF (cxZ m) (blk (cxZ m))
end Go.Proofs.YtmgjnbhofkchmaaGreatDoor
