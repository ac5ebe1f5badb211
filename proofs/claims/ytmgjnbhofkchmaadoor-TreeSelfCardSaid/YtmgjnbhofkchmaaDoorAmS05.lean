/-
  strings.Fields (over ASCII) and strings.Contains, by the shelf's contracts, as calls of the abstract machine.
-/
import Derived.Test.YtmgjnbhofkchmaaDoorProg
import Derived.Shelf.Strings.Fields
import Derived.Shelf.Strings.Search3
import Derived.Test.YtmgjnbhofkchmaaDoorAmExt
import Derived.Test.YtmgjnbhofkchmaaDoorAmFast
/-
  Library contracts at this program (strings.Fields, strings.Contains), as the shelf lays them.
-/
namespace Go.Proofs
open Go.Shelf
def Tryd.lays157_ren : Go.Shelf.Ren := ⟨fun | 157 => 73 | 229 => 82 | 199 => 83 | 261 => 88 | 311 => 94 | 312 => 95 | n => n, fun | 9 => 9 | 31 => 121 | 3 => 3 | 5 => 5 | 4 => 4 | 119 => 130 | 0 => 0 | 40 => 132 | 152 => 137 | 21 => 21 | 154 => 139 | 51 => 140 | 141 => 142 | 196 => 149 | 193 => 146 | 198 => 152 | 49 => 150 | 194 => 147 | 201 => 155 | 226 => 163 | 46 => 160 | 227 => 164 | n => n, fun | 0 => 0 | 6 => 1 | n => n⟩
theorem Tryd.lays157 : Go.Proofs.Lays.n157 Tryd.prog Tryd.lays157_ren := {
  mixed := by kernel_rfl
  f157 := Tryd.func73.trans (congrArg some (by kernel_rfl))
  f199 := Tryd.func83.trans (congrArg some (by kernel_rfl))
  f229 := Tryd.func82.trans (congrArg some (by kernel_rfl))
  f261 := Tryd.func88.trans (congrArg some (by kernel_rfl))
  f311 := Tryd.func94.trans (congrArg some (by kernel_rfl))
  f312 := Tryd.func95.trans (congrArg some (by kernel_rfl))
  t0 := Tryd.underlying0
  a0 := Tryd.isAgg0
  z0 := Tryd.sizeOf0
  v0 := Tryd.zeroValue0
  t3 := Tryd.underlying3
  a3 := Tryd.isAgg3
  z3 := Tryd.sizeOf3
  v3 := Tryd.zeroValue3
  t4 := Tryd.underlying4
  a4 := Tryd.isAgg4
  z4 := Tryd.sizeOf4
  v4 := Tryd.zeroValue4
  t5 := Tryd.underlying5
  a5 := Tryd.isAgg5
  z5 := Tryd.sizeOf5
  v5 := Tryd.zeroValue5
  t9 := Tryd.underlying9
  a9 := Tryd.isAgg9
  z9 := Tryd.sizeOf9
  v9 := Tryd.zeroValue9
  t21 := Tryd.underlying21
  a21 := Tryd.isAgg21
  z21 := Tryd.sizeOf21
  v21 := Tryd.zeroValue21
  t31 := Tryd.underlying121
  a31 := Tryd.isAgg121
  z31 := Tryd.sizeOf121
  v31 := Tryd.zeroValue121
  t40 := Tryd.underlying132
  a40 := Tryd.isAgg132
  z40 := Tryd.sizeOf132
  v40 := Tryd.zeroValue132
  t46 := Tryd.underlying160
  a46 := Tryd.isAgg160
  z46 := Tryd.sizeOf160
  v46 := Tryd.zeroValue160
  t49 := Tryd.underlying150
  a49 := Tryd.isAgg150
  z49 := Tryd.sizeOf150
  v49 := Tryd.zeroValue150
  t51 := Tryd.underlying140
  a51 := Tryd.isAgg140
  z51 := Tryd.sizeOf140
  v51 := Tryd.zeroValue140
  t119 := Tryd.underlying130
  a119 := Tryd.isAgg130
  z119 := Tryd.sizeOf130
  t141 := Tryd.underlying142
  a141 := Tryd.isAgg142
  z141 := Tryd.sizeOf142
  v141 := Tryd.zeroValue142
  t152 := Tryd.underlying137
  a152 := Tryd.isAgg137
  z152 := Tryd.sizeOf137
  v152 := Tryd.zeroValue137
  t154 := Tryd.underlying139
  a154 := Tryd.isAgg139
  z154 := Tryd.sizeOf139
  v154 := Tryd.zeroValue139
  t193 := Tryd.underlying146
  a193 := Tryd.isAgg146
  z193 := Tryd.sizeOf146
  v193 := Tryd.zeroValue146
  t194 := Tryd.underlying147
  a194 := Tryd.isAgg147
  z194 := Tryd.sizeOf147
  v194 := Tryd.zeroValue147
  t196 := Tryd.underlying149
  a196 := Tryd.isAgg149
  z196 := Tryd.sizeOf149
  v196 := Tryd.zeroValue149
  t198 := Tryd.underlying152
  a198 := Tryd.isAgg152
  z198 := Tryd.sizeOf152
  v198 := Tryd.zeroValue152
  t201 := Tryd.underlying155
  a201 := Tryd.isAgg155
  z201 := Tryd.sizeOf155
  v201 := Tryd.zeroValue155
  t226 := Tryd.underlying163
  a226 := Tryd.isAgg163
  z226 := Tryd.sizeOf163
  v226 := Tryd.zeroValue163
  t227 := Tryd.underlying164
  a227 := Tryd.isAgg164
  z227 := Tryd.sizeOf164
  v227 := Tryd.zeroValue164
  g0 := by kernel_rfl
  g6 := by kernel_rfl }
def Tryd.lays144_ren : Go.Shelf.Ren := ⟨fun | 144 => 90 | 143 => 97 | 219 => 100 | 217 => 103 | 225 => 104 | 224 => 105 | 267 => 106 | 266 => 107 | 314 => 108 | n => n, fun | 9 => 9 | 4 => 4 | 3 => 3 | 5 => 5 | 46 => 160 | 146 => 165 | 51 => 140 | n => n, fun | 1 => 2 | n => n⟩
theorem Tryd.lays144 : Go.Proofs.Lays.n144 Tryd.prog Tryd.lays144_ren := {
  mixed := by kernel_rfl
  f143 := Tryd.func97.trans (congrArg some (by kernel_rfl))
  f144 := Tryd.func90.trans (congrArg some (by kernel_rfl))
  f217 := Tryd.func103.trans (congrArg some (by kernel_rfl))
  f219 := Tryd.func100.trans (congrArg some (by kernel_rfl))
  f224 := Tryd.func105.trans (congrArg some (by kernel_rfl))
  f225 := Tryd.func104.trans (congrArg some (by kernel_rfl))
  f266 := Tryd.func107.trans (congrArg some (by kernel_rfl))
  f267 := Tryd.func106.trans (congrArg some (by kernel_rfl))
  f314 := Tryd.func108.trans (congrArg some (by kernel_rfl))
  t3 := Tryd.underlying3
  a3 := Tryd.isAgg3
  z3 := Tryd.sizeOf3
  v3 := Tryd.zeroValue3
  t4 := Tryd.underlying4
  a4 := Tryd.isAgg4
  z4 := Tryd.sizeOf4
  v4 := Tryd.zeroValue4
  t5 := Tryd.underlying5
  a5 := Tryd.isAgg5
  z5 := Tryd.sizeOf5
  v5 := Tryd.zeroValue5
  t9 := Tryd.underlying9
  a9 := Tryd.isAgg9
  z9 := Tryd.sizeOf9
  v9 := Tryd.zeroValue9
  t46 := Tryd.underlying160
  a46 := Tryd.isAgg160
  z46 := Tryd.sizeOf160
  v46 := Tryd.zeroValue160
  t51 := Tryd.underlying140
  a51 := Tryd.isAgg140
  z51 := Tryd.sizeOf140
  v51 := Tryd.zeroValue140
  t146 := Tryd.underlying165
  a146 := Tryd.isAgg165
  z146 := Tryd.sizeOf165
  v146 := Tryd.zeroValue165
  g1 := by kernel_rfl }
end Go.Proofs


namespace Go.Proofs.YtmgjnbhofkchmaaDoor
open Go Go.Proofs.Am

def ascii (s : ByteArray) : Bool := s.data.toList.all fun b => Nat.blt b.toNat 128
def small (s : ByteArray) : Bool := Nat.blt s.size 4294967281
/-- strings.Fields, over ASCII. -/
def fieldsE : List LV → Option LV
  | [.v (.str s)] => bif ascii s && small s then some (.v (.imm (((Lib.fields s.data.toList).map fun l => AV.str ⟨l.toArray⟩).map fun a => [a]))) else none
  | _ => none
/-- strings.Contains. -/
def containsE : List LV → Option LV
  | [.v (.str s), .v (.str t)] => bif small s then some (.v (.bool (Lib.contains s.data.toList t.data.toList))) else none
  | _ => none

def asciiL : List AV := (List.range 256).map fun c => .int .u8 (if Lib.isSp (UInt8.ofNat c) then 1 else 0)

theorem vs_one {xs : List LV} {y : LV} {vs : Array Value} (h : xs = [y]) (hl : vs.size = xs.length) : ∃ v, vs = #[v] := by
  subst h
  obtain ⟨l⟩ := vs
  match l, hl with
  | [v], _ => exact ⟨v, rfl⟩
theorem vs_two {xs : List LV} {y z : LV} {vs : Array Value} (h : xs = [y, z]) (hl : vs.size = xs.length) : ∃ v u, vs = #[v, u] := by
  subst h
  obtain ⟨l⟩ := vs
  match l, hl with
  | [v, u], _ => exact ⟨v, u, rfl⟩

theorem fields_ok {cx : Cx} (hP : cx.P = Tryd.prog) (hg : cx.glob 0 = some asciiL) : ExtOk cx 73 fieldsE := by
  refine ext_slice ?_
  intro xs x hx w g vs wf hG hl hr
  unfold fieldsE at hx
  split at hx
  · rename_i s
    cases hc : (ascii s && small s) with
    | false => rw [hc] at hx; cases hx
    | true =>
      rw [hc, cond_true, Option.some.injEq] at hx
      subst hx
      rw [Bool.and_eq_true] at hc
      obtain ⟨v, rfl⟩ := vs_one rfl hl
      obtain ⟨p, u, hp, hu, hrep⟩ := hr 0 _ rfl
      cases hp
      simp at hu
      subst hu
      cases hrep
      refine ⟨_, (Lib.fields s.data.toList).map fun l => Value.string ⟨l.toArray⟩, 9, rfl, by simp, fun j a hj => ?_, ?_⟩
      · rw [List.getElem?_map] at hj ⊢
        cases hl : (Lib.fields s.data.toList)[j]? with
        | none => rw [hl] at hj; cases hj
        | some l =>
          rw [hl] at hj
          simp only [Option.map_some, Option.some.injEq] at hj
          subst hj
          exact ⟨_, rfl, .str _, rfl⟩
      · rw [hP]
        have := Any.strings_Fields_core Tryd.lays157 (by kernel_rfl) s w (Nat.le_of_ble_eq_true hc.2) (fun j b hb => by
          have := List.all_eq_true.1 hc.1 b (List.mem_of_getElem? hb)
          exact Nat.le_of_ble_eq_true this) (fun c hc => by
          obtain ⟨u, hu, hrep⟩ := glob_cell hG hg (j := c) (c := .int .u8 (if Lib.isSp (UInt8.ofNat c) then 1 else 0)) (by
            unfold asciiL
            rw [List.getElem?_map, List.getElem?_range hc]; rfl)
          cases hrep
          exact hu)
        simp only [List.length_map]
        exact this
  · cases hx

theorem contains_ok {cx : Cx} {m : Int} (hP : cx.P = Tryd.prog) (hg : cx.glob 2 = some [.int .i64 m]) : ExtOk cx 90 containsE := by
  refine ext_value ?_
  intro xs x hx w g vs wf hG hl hr
  unfold containsE at hx
  split at hx
  · rename_i s t
    cases hc : small s with
    | false => rw [hc] at hx; cases hx
    | true =>
      rw [hc, cond_true, Option.some.injEq] at hx
      subst hx
      obtain ⟨v, v', rfl⟩ := vs_two rfl hl
      obtain ⟨p, u, hp, hu, hrep⟩ := hr 0 _ rfl
      obtain ⟨p', u', hp', hu', hrep'⟩ := hr 1 _ rfl
      cases hp; cases hp'
      simp at hu hu'
      subst hu; subst hu'
      cases hrep; cases hrep'
      obtain ⟨u, hu, hrep⟩ := glob_cell hG hg (j := 0) rfl
      cases hrep
      refine ⟨_, _, rfl, .bool _, ?_⟩
      rw [hP]
      exact Any.strings_Contains Tryd.lays144 s t m w (Nat.le_of_ble_eq_true hc) hu
  · cases hx
end Go.Proofs.YtmgjnbhofkchmaaDoor
