/-
  The abstract machine at this program: which operations move, which boxes lie on the heap, which calls see no heap, where texts are cut.
-/
import Derived.Test.YtjelldpjopdimaaDoorProg
import Derived.Shelf.Strings.Fields
import Derived.Shelf.Strings.Search3
import Derived.Test.YtjelldpjopdimaaDoorAmExtRun
import Derived.Test.YtjelldpjopdimaaDoorAmFast
import Derived.Test.YtjelldpjopdimaaDoorAmSym
import Derived.KernelRfl
/-
  Library contracts at this program (strings.Fields, strings.Contains), as the shelf lays them.
-/
namespace Go.Proofs
open Go.Shelf
def Tryd.lays157_ren : Go.Shelf.Ren := ⟨fun | 157 => 51 | 229 => 56 | 199 => 57 | 261 => 65 | 311 => 72 | 312 => 73 | n => n, fun | 9 => 9 | 31 => 89 | 3 => 3 | 5 => 5 | 4 => 4 | 119 => 95 | 0 => 0 | 40 => 97 | 152 => 105 | 21 => 21 | 154 => 107 | 51 => 108 | 141 => 110 | 196 => 118 | 193 => 115 | 198 => 121 | 49 => 119 | 194 => 116 | 201 => 124 | 226 => 132 | 46 => 129 | 227 => 133 | n => n, fun | 0 => 0 | 6 => 1 | n => n⟩
theorem Tryd.lays157 : Go.Proofs.Lays.n157 Tryd.prog Tryd.lays157_ren := {
  mixed := by kernel_rfl
  f157 := Tryd.func51.trans (congrArg some (by kernel_rfl))
  f199 := Tryd.func57.trans (congrArg some (by kernel_rfl))
  f229 := Tryd.func56.trans (congrArg some (by kernel_rfl))
  f261 := Tryd.func65.trans (congrArg some (by kernel_rfl))
  f311 := Tryd.func72.trans (congrArg some (by kernel_rfl))
  f312 := Tryd.func73.trans (congrArg some (by kernel_rfl))
  t0 := Tryd.underlying0
  a0 := Tryd.isAgg0
  z0 := Tryd.sizeOf0
  v0 := Tryd.zeroValue0
  t3 := Tryd.underlying3
  a3 := Tryd.isAgg3
  z3 := Tryd.sizeOf3
  v3 := Tryd.zeroValue3
  t4 := Tryd.underlying4
  a4 := Tryd.isAgg4
  z4 := Tryd.sizeOf4
  v4 := Tryd.zeroValue4
  t5 := Tryd.underlying5
  a5 := Tryd.isAgg5
  z5 := Tryd.sizeOf5
  v5 := Tryd.zeroValue5
  t9 := Tryd.underlying9
  a9 := Tryd.isAgg9
  z9 := Tryd.sizeOf9
  v9 := Tryd.zeroValue9
  t21 := Tryd.underlying21
  a21 := Tryd.isAgg21
  z21 := Tryd.sizeOf21
  v21 := Tryd.zeroValue21
  t31 := Tryd.underlying89
  a31 := Tryd.isAgg89
  z31 := Tryd.sizeOf89
  v31 := Tryd.zeroValue89
  t40 := Tryd.underlying97
  a40 := Tryd.isAgg97
  z40 := Tryd.sizeOf97
  v40 := Tryd.zeroValue97
  t46 := Tryd.underlying129
  a46 := Tryd.isAgg129
  z46 := Tryd.sizeOf129
  v46 := Tryd.zeroValue129
  t49 := Tryd.underlying119
  a49 := Tryd.isAgg119
  z49 := Tryd.sizeOf119
  v49 := Tryd.zeroValue119
  t51 := Tryd.underlying108
  a51 := Tryd.isAgg108
  z51 := Tryd.sizeOf108
  v51 := Tryd.zeroValue108
  t119 := Tryd.underlying95
  a119 := Tryd.isAgg95
  z119 := Tryd.sizeOf95
  t141 := Tryd.underlying110
  a141 := Tryd.isAgg110
  z141 := Tryd.sizeOf110
  v141 := Tryd.zeroValue110
  t152 := Tryd.underlying105
  a152 := Tryd.isAgg105
  z152 := Tryd.sizeOf105
  v152 := Tryd.zeroValue105
  t154 := Tryd.underlying107
  a154 := Tryd.isAgg107
  z154 := Tryd.sizeOf107
  v154 := Tryd.zeroValue107
  t193 := Tryd.underlying115
  a193 := Tryd.isAgg115
  z193 := Tryd.sizeOf115
  v193 := Tryd.zeroValue115
  t194 := Tryd.underlying116
  a194 := Tryd.isAgg116
  z194 := Tryd.sizeOf116
  v194 := Tryd.zeroValue116
  t196 := Tryd.underlying118
  a196 := Tryd.isAgg118
  z196 := Tryd.sizeOf118
  v196 := Tryd.zeroValue118
  t198 := Tryd.underlying121
  a198 := Tryd.isAgg121
  z198 := Tryd.sizeOf121
  v198 := Tryd.zeroValue121
  t201 := Tryd.underlying124
  a201 := Tryd.isAgg124
  z201 := Tryd.sizeOf124
  v201 := Tryd.zeroValue124
  t226 := Tryd.underlying132
  a226 := Tryd.isAgg132
  z226 := Tryd.sizeOf132
  v226 := Tryd.zeroValue132
  t227 := Tryd.underlying133
  a227 := Tryd.isAgg133
  z227 := Tryd.sizeOf133
  v227 := Tryd.zeroValue133
  g0 := by kernel_rfl
  g6 := by kernel_rfl }
def Tryd.lays144_ren : Go.Shelf.Ren := ⟨fun | 144 => 67 | 143 => 75 | 219 => 78 | 217 => 81 | 225 => 82 | 224 => 83 | 267 => 84 | 266 => 85 | 314 => 86 | n => n, fun | 9 => 9 | 4 => 4 | 3 => 3 | 5 => 5 | 46 => 129 | 146 => 134 | 51 => 108 | n => n, fun | 1 => 2 | n => n⟩
theorem Tryd.lays144 : Go.Proofs.Lays.n144 Tryd.prog Tryd.lays144_ren := {
  mixed := by kernel_rfl
  f143 := Tryd.func75.trans (congrArg some (by kernel_rfl))
  f144 := Tryd.func67.trans (congrArg some (by kernel_rfl))
  f217 := Tryd.func81.trans (congrArg some (by kernel_rfl))
  f219 := Tryd.func78.trans (congrArg some (by kernel_rfl))
  f224 := Tryd.func83.trans (congrArg some (by kernel_rfl))
  f225 := Tryd.func82.trans (congrArg some (by kernel_rfl))
  f266 := Tryd.func85.trans (congrArg some (by kernel_rfl))
  f267 := Tryd.func84.trans (congrArg some (by kernel_rfl))
  f314 := Tryd.func86.trans (congrArg some (by kernel_rfl))
  t3 := Tryd.underlying3
  a3 := Tryd.isAgg3
  z3 := Tryd.sizeOf3
  v3 := Tryd.zeroValue3
  t4 := Tryd.underlying4
  a4 := Tryd.isAgg4
  z4 := Tryd.sizeOf4
  v4 := Tryd.zeroValue4
  t5 := Tryd.underlying5
  a5 := Tryd.isAgg5
  z5 := Tryd.sizeOf5
  v5 := Tryd.zeroValue5
  t9 := Tryd.underlying9
  a9 := Tryd.isAgg9
  z9 := Tryd.sizeOf9
  v9 := Tryd.zeroValue9
  t46 := Tryd.underlying129
  a46 := Tryd.isAgg129
  z46 := Tryd.sizeOf129
  v46 := Tryd.zeroValue129
  t51 := Tryd.underlying108
  a51 := Tryd.isAgg108
  z51 := Tryd.sizeOf108
  v51 := Tryd.zeroValue108
  t146 := Tryd.underlying134
  a146 := Tryd.isAgg134
  z146 := Tryd.sizeOf134
  v146 := Tryd.zeroValue134
  g1 := by kernel_rfl }
end Go.Proofs

/-
  strings.Fields (over ASCII) and strings.Contains, by the shelf's contracts, as calls of the abstract machine.
-/
namespace Go.Proofs.YtjelldpjopdimaaDoor
open Go Go.Proofs.Am

def ascii (s : ByteArray) : Bool := s.data.toList.all fun b => Nat.blt b.toNat 128
def small (s : ByteArray) : Bool := Nat.blt s.size 4294967281
/-- strings.Fields, over ASCII. -/
def fieldsE : List LV → Option LV
  | [.v (.str s)] => bif ascii s && small s then some (.v (.imm (((Lib.fields s.data.toList).map fun l => AV.str ⟨l.toArray⟩).map fun a => [a]))) else none
  | _ => none
/-- strings.Contains. -/
def containsE : List LV → Option LV
  | [.v (.str s), .v (.str t)] => bif small s then some (.v (.bool (Lib.contains s.data.toList t.data.toList))) else none
  | _ => none

def asciiL : List AV := (List.range 256).map fun c => .int .u8 (if Lib.isSp (UInt8.ofNat c) then 1 else 0)

theorem vs_one {xs : List LV} {y : LV} {vs : Array Value} (h : xs = [y]) (hl : vs.size = xs.length) : ∃ v, vs = #[v] := by
  subst h
  obtain ⟨l⟩ := vs
  match l, hl with
  | [v], _ => exact ⟨v, rfl⟩
theorem vs_two {xs : List LV} {y z : LV} {vs : Array Value} (h : xs = [y, z]) (hl : vs.size = xs.length) : ∃ v u, vs = #[v, u] := by
  subst h
  obtain ⟨l⟩ := vs
  match l, hl with
  | [v, u], _ => exact ⟨v, u, rfl⟩

theorem fields_ok {cx : Cx} (hP : cx.P = Tryd.prog) (hg : cx.glob 0 = some asciiL) : ExtOk cx 51 fieldsE := by
  refine ext_slice ?_
  intro xs x hx w g vs wf hG hl hr
  unfold fieldsE at hx
  split at hx
  · rename_i s
    cases hc : (ascii s && small s) with
    | false => rw [hc] at hx; cases hx
    | true =>
      rw [hc, cond_true, Option.some.injEq] at hx
      subst hx
      rw [Bool.and_eq_true] at hc
      obtain ⟨v, rfl⟩ := vs_one rfl hl
      obtain ⟨p, u, hp, hu, hrep⟩ := hr 0 _ rfl
      cases hp
      simp at hu
      subst hu
      cases hrep
      refine ⟨_, (Lib.fields s.data.toList).map fun l => Value.string ⟨l.toArray⟩, 9, rfl, by simp, fun j a hj => ?_, ?_⟩
      · rw [List.getElem?_map] at hj ⊢
        cases hl : (Lib.fields s.data.toList)[j]? with
        | none => rw [hl] at hj; cases hj
        | some l =>
          rw [hl] at hj
          simp only [Option.map_some, Option.some.injEq] at hj
          subst hj
          exact ⟨_, rfl, .str _, rfl⟩
      · rw [hP]
        have := Any.strings_Fields_core Tryd.lays157 (by kernel_rfl) s w (Nat.le_of_ble_eq_true hc.2) (fun j b hb => by
          have := List.all_eq_true.1 hc.1 b (List.mem_of_getElem? hb)
          exact Nat.le_of_ble_eq_true this) (fun c hc => by
          obtain ⟨u, hu, hrep⟩ := glob_cell hG hg (j := c) (c := .int .u8 (if Lib.isSp (UInt8.ofNat c) then 1 else 0)) (by
            unfold asciiL
            rw [List.getElem?_map, List.getElem?_range hc]; rfl)
          cases hrep
          exact hu)
        simp only [List.length_map]
        exact this
  · cases hx

theorem contains_ok {cx : Cx} {m : Int} (hP : cx.P = Tryd.prog) (hg : cx.glob 2 = some [.int .i64 m]) : ExtOk cx 67 containsE := by
  refine ext_value ?_
  intro xs x hx w g vs wf hG hl hr
  unfold containsE at hx
  split at hx
  · rename_i s t
    cases hc : small s with
    | false => rw [hc] at hx; cases hx
    | true =>
      rw [hc, cond_true, Option.some.injEq] at hx
      subst hx
      obtain ⟨v, v', rfl⟩ := vs_two rfl hl
      obtain ⟨p, u, hp, hu, hrep⟩ := hr 0 _ rfl
      obtain ⟨p', u', hp', hu', hrep'⟩ := hr 1 _ rfl
      cases hp; cases hp'
      simp at hu hu'
      subst hu; subst hu'
      cases hrep; cases hrep'
      obtain ⟨u, hu, hrep⟩ := glob_cell hG hg (j := 0) rfl
      cases hrep
      refine ⟨_, _, rfl, .bool _, ?_⟩
      rw [hP]
      exact Any.strings_Contains Tryd.lays144 s t m w (Nat.le_of_ble_eq_true hc) hu
  · cases hx
end Go.Proofs.YtjelldpjopdimaaDoor


namespace Go.Proofs.YtjelldpjopdimaaDoor
open Go Go.Proofs.Am
def inP (l : List (Nat × Nat)) (r i : Nat) : Bool := l.any fun p => Nat.beq p.1 r && Nat.beq p.2 i
def takeF (f r i : Nat) : Bool :=
  match f with
  | 10 => inP [(9, 0), (9, 4)] r i
  | 40 => inP [(4, 4)] r i
  | 53 => inP [(7, 0), (7, 4)] r i
  | 56 => inP [(1, 1), (8, 0), (8, 6), (13, 0), (13, 7)] r i
  | _ => false
def heapF (f r i : Nat) : Bool :=
  match f with
  | 9 => inP [(3, 2), (5, 3)] r i
  | 15 => inP [(0, 3), (1, 4), (1, 10), (1, 17), (5, 3), (9, 3), (9, 9), (11, 4), (11, 9), (11, 13), (11, 19), (12, 4), (12, 8), (12, 14), (1, 14)] r i
  | 28 => inP [(1, 3), (1, 7), (1, 10)] r i
  | 29 => inP [(0, 3), (1, 4)] r i
  | 30 => inP [(4, 4), (4, 7), (4, 10)] r i
  | 40 => inP [(10, 6)] r i
  | 41 => inP [(3, 5)] r i
  | 42 => inP [(3, 5), (5, 4), (6, 8), (6, 21), (8, 4)] r i
  | 44 => inP [(3, 10), (4, 4), (5, 10), (6, 4), (6, 14)] r i
  | 45 => inP [(1, 5), (1, 9), (1, 13), (1, 16)] r i
  | 46 => inP [(2, 11)] r i
  | 47 => inP [(0, 0)] r i
  | 48 => inP [(2, 3), (2, 8), (3, 3), (6, 3), (6, 7), (7, 4), (7, 8), (7, 14), (6, 10), (6, 11)] r i
  | 51 => inP [(14, 1), (24, 6), (24, 7), (31, 5), (31, 6)] r i
  | 52 => inP [(0, 0), (1, 1), (2, 1), (4, 3), (4, 6), (4, 9), (4, 11), (4, 13), (4, 15), (6, 3), (6, 6), (6, 8), (8, 2), (10, 1), (11, 1), (12, 2), (15, 1), (21, 2), (22, 0)] r i
  | 53 => inP [(9, 6), (9, 7), (13, 1)] r i
  | 54 => inP [(1, 4), (4, 3), (4, 7), (4, 12), (4, 14)] r i
  | 56 => inP [(14, 2), (18, 8), (18, 9)] r i
  | 61 => inP [(0, 3), (1, 3), (3, 3), (5, 3), (7, 9), (7, 12), (8, 6), (8, 13), (9, 3)] r i
  | 63 => inP [(1, 1)] r i
  | 65 => inP [(1, 3), (2, 3), (5, 3)] r i
  | 70 => inP [(6, 2)] r i
  | _ => false
def arrF (f r i : Nat) : Bool :=
  match f with
  | 9 => inP [(3, 1)] r i
  | 51 => inP [(32, 1)] r i
  | 56 => inP [(20, 1)] r i
  | 70 => inP [(10, 1)] r i
  | _ => false
def pureF (f r i : Nat) : Bool :=
  match f with
  | 32 => inP [(1, 1), (3, 0), (6, 2), (8, 11)] r i
  | 52 => inP [(1, 2), (4, 4), (4, 7), (6, 4)] r i
  | 58 => inP [(1, 1), (3, 1)] r i
  | 59 => inP [(1, 1), (3, 1), (5, 2), (5, 5)] r i
  | 60 => inP [(1, 2)] r i
  | 61 => inP [(0, 4), (1, 4), (3, 4), (5, 4), (7, 5), (8, 14)] r i
  | 65 => inP [(4, 5), (7, 3)] r i
  | 66 => inP [(1, 2)] r i
  | 67 => inP [(1, 2)] r i
  | 69 => inP [(1, 1)] r i
  | 70 => inP [(3, 5)] r i
  | 75 => inP [(1, 2)] r i
  | 77 => inP [(1, 4), (3, 2)] r i
  | 78 => inP [(5, 3), (9, 2), (17, 6), (25, 6), (26, 4), (31, 4)] r i
  | 81 => inP [(1, 2)] r i
  | 84 => inP [(1, 1)] r i
  | _ => false
def retF (f : Nat) : Bool := [].any fun k => Nat.beq f k
def cutF (f id : Nat) : Option Keep :=
  match f, id with
  | 7, 4 => some ⟨[0, 4, 5, 6], [], 0⟩
  | 8, 4 => some ⟨[1, 3], [(0, 7)], 1⟩
  | 10, 3 => some ⟨[0, 3, 4], [], 0⟩
  | 11, 4 => some ⟨[0, 1, 5], [], 0⟩
  | 12, 4 => some ⟨[0, 1, 5], [], 0⟩
  | 15, 3 => some ⟨[0, 3, 32, 33, 34], [], 0⟩
  | 30, 1 => some ⟨[0, 6, 7, 8], [], 0⟩
  | 31, 2 => some ⟨[0, 1, 7, 8], [], 0⟩
  | 32, 4 => some ⟨[0, 2, 11, 12, 13], [(0, 7)], 1⟩
  | 37, 2 => some ⟨[0, 1, 7, 8], [], 0⟩
  | 38, 2 => some ⟨[0, 1, 7, 8], [], 0⟩
  | 39, 2 => some ⟨[0, 1, 7, 8], [], 0⟩
  | 51, 27 => some ⟨[0, 9, 10, 12], [], 0⟩
  | 51, 21 => some ⟨[0, 9, 10, 11, 12], [], 0⟩
  | 51, 18 => some ⟨[0, 9, 10, 12], [], 0⟩
  | 51, 5 => some ⟨[0, 3, 4, 5, 6], [], 0⟩
  | 53, 3 => some ⟨[0, 4, 11, 12, 13], [], 1⟩
  | 55, 1 => some ⟨[0, 1, 3], [], 0⟩
  | 56, 16 => some ⟨[0, 9, 47, 48, 49], [], 0⟩
  | 56, 4 => some ⟨[0, 1, 5, 6, 14], [], 0⟩
  | 64, 4 => some ⟨[0, 1, 12, 13], [], 0⟩
  | 70, 8 => some ⟨[7, 8], [], 0⟩
  | 71, 2 => some ⟨[0, 1, 7, 8], [], 0⟩
  | 72, 14 => some ⟨[0, 1, 7, 8], [], 0⟩
  | 72, 3 => some ⟨[0, 1, 19, 20], [], 0⟩
  | 73, 14 => some ⟨[0, 1, 7, 8], [], 0⟩
  | 73, 3 => some ⟨[0, 1, 15, 16], [], 0⟩
  | 78, 15 => some ⟨[0, 1, 5, 6, 7, 8, 9, 10], [], 0⟩
  | 84, 11 => some ⟨[0, 1, 5, 6, 7, 8, 10], [], 0⟩
  | 84, 5 => some ⟨[0, 1, 5, 6, 7, 8, 9], [], 0⟩
  | 86, 8 => some ⟨[4, 6, 7, 8], [], 0⟩
  | 86, 3 => some ⟨[0, 4, 5], [], 0⟩
  | _, _ => none
def extF (f : Nat) : Option (List LV → Option LV) :=
  match f with
  | 51 => some fieldsE
  | 67 => some containsE
  | _ => none
noncomputable def cxS (m : Int) : Cx :=
  { P := Tryd.prog, cut := fun _ _ => none, take := takeF, heap := heapF, arr := arrF, pure := pureF, retOw := retF, ext := extF,
    glob := fun i => match i with | 0 => some asciiL | 2 => some [.int .i64 m] | _ => none }
def bodyOf (P : Program) (g : FuncId) : List Item := match P.funcs[g]? with | some f => (match f.body with | some c => [.code c] | none => []) | none => []
end Go.Proofs.YtjelldpjopdimaaDoor
