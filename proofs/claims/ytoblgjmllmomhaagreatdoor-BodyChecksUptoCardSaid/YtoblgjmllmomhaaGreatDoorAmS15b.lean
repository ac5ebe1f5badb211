/-
  The abstract machine at this program: which operations move, which boxes lie on the heap, which calls see no heap, where texts are cut.
-/
import Derived.Test.YtoblgjmllmomhaaGreatDoorProg
import Derived.Shelf.Strings.Fields
import Derived.Shelf.Strings.Search3
import Derived.Test.YtoblgjmllmomhaaGreatDoorAmExtRun
import Derived.Test.YtoblgjmllmomhaaGreatDoorAmFast
import Derived.Test.YtoblgjmllmomhaaGreatDoorAmSym
import Derived.KernelRfl
namespace Go.Proofs
open Go.Shelf
def Tryz.lays157_ren : Go.Shelf.Ren := ⟨fun | 157 => 118 | 229 => 137 | 199 => 138 | 261 => 155 | 311 => 162 | 312 => 163 | n => n, fun | 9 => 9 | 31 => 162 | 3 => 3 | 5 => 5 | 4 => 4 | 119 => 191 | 0 => 0 | 40 => 193 | 152 => 205 | 21 => 21 | 154 => 207 | 51 => 208 | 141 => 210 | 196 => 215 | 193 => 212 | 198 => 218 | 49 => 216 | 194 => 213 | 201 => 221 | 226 => 229 | 46 => 226 | 227 => 230 | n => n, fun | 0 => 0 | 6 => 1 | n => n⟩
theorem Tryz.lays157 : Go.Proofs.Lays.n157 Tryz.prog Tryz.lays157_ren := {
 mixed := by kernel_rfl
 f157 := Tryz.func118.trans (congrArg some (by kernel_rfl))
 f199 := Tryz.func138.trans (congrArg some (by kernel_rfl))
 f229 := Tryz.func137.trans (congrArg some (by kernel_rfl))
 f261 := Tryz.func155.trans (congrArg some (by kernel_rfl))
 f311 := Tryz.func162.trans (congrArg some (by kernel_rfl))
 f312 := Tryz.func163.trans (congrArg some (by kernel_rfl))
 t0 := Tryz.underlying0
 a0 := Tryz.isAgg0
 z0 := Tryz.sizeOf0
 v0 := Tryz.zeroValue0
 t3 := Tryz.underlying3
 a3 := Tryz.isAgg3
 z3 := Tryz.sizeOf3
 v3 := Tryz.zeroValue3
 t4 := Tryz.underlying4
 a4 := Tryz.isAgg4
 z4 := Tryz.sizeOf4
 v4 := Tryz.zeroValue4
 t5 := Tryz.underlying5
 a5 := Tryz.isAgg5
 z5 := Tryz.sizeOf5
 v5 := Tryz.zeroValue5
 t9 := Tryz.underlying9
 a9 := Tryz.isAgg9
 z9 := Tryz.sizeOf9
 v9 := Tryz.zeroValue9
 t21 := Tryz.underlying21
 a21 := Tryz.isAgg21
 z21 := Tryz.sizeOf21
 v21 := Tryz.zeroValue21
 t31 := Tryz.underlying162
 a31 := Tryz.isAgg162
 z31 := Tryz.sizeOf162
 v31 := Tryz.zeroValue162
 t40 := Tryz.underlying193
 a40 := Tryz.isAgg193
 z40 := Tryz.sizeOf193
 v40 := Tryz.zeroValue193
 t46 := Tryz.underlying226
 a46 := Tryz.isAgg226
 z46 := Tryz.sizeOf226
 v46 := Tryz.zeroValue226
 t49 := Tryz.underlying216
 a49 := Tryz.isAgg216
 z49 := Tryz.sizeOf216
 v49 := Tryz.zeroValue216
 t51 := Tryz.underlying208
 a51 := Tryz.isAgg208
 z51 := Tryz.sizeOf208
 v51 := Tryz.zeroValue208
 t119 := Tryz.underlying191
 a119 := Tryz.isAgg191
 z119 := Tryz.sizeOf191
 t141 := Tryz.underlying210
 a141 := Tryz.isAgg210
 z141 := Tryz.sizeOf210
 v141 := Tryz.zeroValue210
 t152 := Tryz.underlying205
 a152 := Tryz.isAgg205
 z152 := Tryz.sizeOf205
 v152 := Tryz.zeroValue205
 t154 := Tryz.underlying207
 a154 := Tryz.isAgg207
 z154 := Tryz.sizeOf207
 v154 := Tryz.zeroValue207
 t193 := Tryz.underlying212
 a193 := Tryz.isAgg212
 z193 := Tryz.sizeOf212
 v193 := Tryz.zeroValue212
 t194 := Tryz.underlying213
 a194 := Tryz.isAgg213
 z194 := Tryz.sizeOf213
 v194 := Tryz.zeroValue213
 t196 := Tryz.underlying215
 a196 := Tryz.isAgg215
 z196 := Tryz.sizeOf215
 v196 := Tryz.zeroValue215
 t198 := Tryz.underlying218
 a198 := Tryz.isAgg218
 z198 := Tryz.sizeOf218
 v198 := Tryz.zeroValue218
 t201 := Tryz.underlying221
 a201 := Tryz.isAgg221
 z201 := Tryz.sizeOf221
 v201 := Tryz.zeroValue221
 t226 := Tryz.underlying229
 a226 := Tryz.isAgg229
 z226 := Tryz.sizeOf229
 v226 := Tryz.zeroValue229
 t227 := Tryz.underlying230
 a227 := Tryz.isAgg230
 z227 := Tryz.sizeOf230
 v227 := Tryz.zeroValue230
 g0 := by kernel_rfl
 g6 := by kernel_rfl }
def Tryz.lays144_ren : Go.Shelf.Ren := ⟨fun | 144 => 157 | 143 => 165 | 219 => 168 | 217 => 171 | 225 => 172 | 224 => 173 | 267 => 174 | 266 => 175 | 314 => 176 | n => n, fun | 9 => 9 | 4 => 4 | 3 => 3 | 5 => 5 | 46 => 226 | 146 => 231 | 51 => 208 | n => n, fun | 1 => 2 | n => n⟩
theorem Tryz.lays144 : Go.Proofs.Lays.n144 Tryz.prog Tryz.lays144_ren := {
 mixed := by kernel_rfl
 f143 := Tryz.func165.trans (congrArg some (by kernel_rfl))
 f144 := Tryz.func157.trans (congrArg some (by kernel_rfl))
 f217 := Tryz.func171.trans (congrArg some (by kernel_rfl))
 f219 := Tryz.func168.trans (congrArg some (by kernel_rfl))
 f224 := Tryz.func173.trans (congrArg some (by kernel_rfl))
 f225 := Tryz.func172.trans (congrArg some (by kernel_rfl))
 f266 := Tryz.func175.trans (congrArg some (by kernel_rfl))
 f267 := Tryz.func174.trans (congrArg some (by kernel_rfl))
 f314 := Tryz.func176.trans (congrArg some (by kernel_rfl))
 t3 := Tryz.underlying3
 a3 := Tryz.isAgg3
 z3 := Tryz.sizeOf3
 v3 := Tryz.zeroValue3
 t4 := Tryz.underlying4
 a4 := Tryz.isAgg4
 z4 := Tryz.sizeOf4
 v4 := Tryz.zeroValue4
 t5 := Tryz.underlying5
 a5 := Tryz.isAgg5
 z5 := Tryz.sizeOf5
 v5 := Tryz.zeroValue5
 t9 := Tryz.underlying9
 a9 := Tryz.isAgg9
 z9 := Tryz.sizeOf9
 v9 := Tryz.zeroValue9
 t46 := Tryz.underlying226
 a46 := Tryz.isAgg226
 z46 := Tryz.sizeOf226
 v46 := Tryz.zeroValue226
 t51 := Tryz.underlying208
 a51 := Tryz.isAgg208
 z51 := Tryz.sizeOf208
 v51 := Tryz.zeroValue208
 t146 := Tryz.underlying231
 a146 := Tryz.isAgg231
 z146 := Tryz.sizeOf231
 v146 := Tryz.zeroValue231
 g1 := by kernel_rfl }
end Go.Proofs
namespace Go.Proofs.YtoblgjmllmomhaaGreatDoor
open Go Go.Proofs.Am
def ascii (s : ByteArray) : Bool := s.data.toList.all fun b => Nat.blt b.toNat 128
def small (s : ByteArray) : Bool := Nat.blt s.size 4294967281
def fieldsE : List LV -> Option LV
 | [.v (.str s)] => bif ascii s && small s then some (.v (.imm (((Lib.fields s.data.toList).map fun l => AV.str ⟨l.toArray⟩).map fun a => [a]))) else none
 | _ => none
def containsE : List LV -> Option LV
 | [.v (.str s), .v (.str t)] => bif small s then some (.v (.bool (Lib.contains s.data.toList t.data.toList))) else none
 | _ => none
def asciiL : List AV := (List.range 256).map fun c => .int .u8 (if Lib.isSp (UInt8.ofNat c) then 1 else 0)
theorem vs_one {xs : List LV} {y : LV} {vs : Array Value} (h : xs = [y]) (hl : vs.size = xs.length) : ∃ v, vs = #[v] := by
 subst h
 obtain ⟨l⟩ := vs
 match l, hl with
 | [v], _ => exact ⟨v, rfl⟩
theorem vs_two {xs : List LV} {y z : LV} {vs : Array Value} (h : xs = [y, z]) (hl : vs.size = xs.length) : ∃ v u, vs = #[v, u] := by
 subst h
 obtain ⟨l⟩ := vs
 match l, hl with
 | [v, u], _ => exact ⟨v, u, rfl⟩
theorem fields_ok {cx : Cx} (hP : cx.P = Tryz.prog) (hg : cx.glob 0 = some asciiL) : ExtOk cx 118 fieldsE := by
 refine ext_slice ?_
 intro xs x hx w g vs wf hG hl hr
 unfold fieldsE at hx
 split at hx
 ·rename_i s
  cases hc : (ascii s && small s) with
  | false => rw [hc] at hx; cases hx
  | true =>
   rw [hc, cond_true, Option.some.injEq] at hx
   subst hx
   rw [Bool.and_eq_true] at hc
   obtain ⟨v, rfl⟩ := vs_one rfl hl
   obtain ⟨p, u, hp, hu, hrep⟩ := hr 0 _ rfl
   cases hp
   simp at hu
   subst hu
   cases hrep
   refine ⟨_, (Lib.fields s.data.toList).map fun l => Value.string ⟨l.toArray⟩, 9, rfl, by simp, fun j a hj => ?_, ?_⟩
   ·rw [List.getElem?_map] at hj ⊢
    cases hl : (Lib.fields s.data.toList)[j]? with
    | none => rw [hl] at hj; cases hj
    | some l =>
     rw [hl] at hj
     simp only [Option.map_some, Option.some.injEq] at hj
     subst hj
     exact ⟨_, rfl, .str _, rfl⟩
   ·rw [hP]
    have := Any.strings_Fields_core Tryz.lays157 (by kernel_rfl) s w (Nat.le_of_ble_eq_true hc.2) (fun j b hb => by
     have := List.all_eq_true.1 hc.1 b (List.mem_of_getElem? hb)
     exact Nat.le_of_ble_eq_true this) (fun c hc => by
     obtain ⟨u, hu, hrep⟩ := glob_cell hG hg (j := c) (c := .int .u8 (if Lib.isSp (UInt8.ofNat c) then 1 else 0)) (by
      unfold asciiL
      rw [List.getElem?_map, List.getElem?_range hc]; rfl)
     cases hrep
     exact hu)
    simp only [List.length_map]
    exact this
 ·cases hx
theorem contains_ok {cx : Cx} {m : Int} (hP : cx.P = Tryz.prog) (hg : cx.glob 2 = some [.int .i64 m]) : ExtOk cx 157 containsE := by
 refine ext_value ?_
 intro xs x hx w g vs wf hG hl hr
 unfold containsE at hx
 split at hx
 ·rename_i s t
  cases hc : small s with
  | false => rw [hc] at hx; cases hx
  | true =>
   rw [hc, cond_true, Option.some.injEq] at hx
   subst hx
   obtain ⟨v, v', rfl⟩ := vs_two rfl hl
   obtain ⟨p, u, hp, hu, hrep⟩ := hr 0 _ rfl
   obtain ⟨p', u', hp', hu', hrep'⟩ := hr 1 _ rfl
   cases hp; cases hp'
   simp at hu hu'
   subst hu; subst hu'
   cases hrep; cases hrep'
   obtain ⟨u, hu, hrep⟩ := glob_cell hG hg (j := 0) rfl
   cases hrep
   refine ⟨_, _, rfl, .bool _, ?_⟩
   rw [hP]
   exact Any.strings_Contains Tryz.lays144 s t m w (Nat.le_of_ble_eq_true hc) hu
 ·cases hx
end Go.Proofs.YtoblgjmllmomhaaGreatDoor
namespace Go.Proofs.YtoblgjmllmomhaaGreatDoor
open Go Go.Proofs.Am
def inP (l : List (Nat × Nat)) (r i : Nat) : Bool := l.any fun p => Nat.beq p.1 r && Nat.beq p.2 i
def takeF (f r i : Nat) : Bool :=
 match f with
 | 16 => inP [(1, 20), (5, 1), (5, 22), (9, 1), (9, 27), (15, 1), (15, 6), (19, 1), (19, 24), (23, 1), (23, 24), (27, 1), (27, 20)] r i
 | 17 => inP [(3, 8), (7, 1), (7, 12), (17, 1), (17, 10), (27, 1), (27, 10), (30, 11)] r i
 | 35 => inP [(9, 0), (9, 4)] r i
 | 38 => inP [(2, 1), (2, 6)] r i
 | 39 => inP [(9, 2), (13, 0), (13, 3)] r i
 | 76 => inP [(6, 0), (6, 4)] r i
 | 78 => inP [(5, 9), (6, 0), (6, 1)] r i
 | 88 => inP [(4, 4)] r i
 | 102 => inP [(7, 0), (7, 4)] r i
 | 120 => inP [(7, 0), (7, 4)] r i
 | 123 => inP [(1, 1), (6, 0), (6, 11), (7, 0), (7, 11), (17, 0), (17, 12), (18, 0), (18, 12)] r i
 | 125 => inP [(1, 10), (10, 1), (10, 10)] r i
 | 137 => inP [(1, 1), (8, 0), (8, 6), (13, 0), (13, 7)] r i
 | 146 => inP [(1, 47)] r i
 | _ => false
def heapF (f r i : Nat) : Bool :=
 match f with
 | 5 => inP [(14, 7), (14, 8), (18, 3), (18, 4)] r i
 | 10 => inP [(3, 2), (5, 3)] r i
 | 12 => inP [(3, 2), (5, 3)] r i
 | 17 => inP [(0, 0), (1, 5), (1, 11), (1, 20), (1, 26), (3, 0), (3, 3), (3, 7), (3, 8), (4, 1), (7, 1), (7, 12), (10, 1), (17, 1), (17, 10), (19, 1), (24, 1), (27, 1), (27, 10), (29, 1), (29, 3), (30, 3), (30, 11), (32, 5), (33, 0)] r i
 | 21 => inP [(0, 3), (1, 4), (1, 10), (1, 17), (5, 3), (9, 3), (9, 9), (11, 4), (11, 9), (11, 13), (11, 19), (12, 4), (12, 8), (12, 14), (1, 14)] r i
 | 25 => inP [(0, 3), (1, 3), (2, 5), (2, 14), (4, 8), (7, 3), (9, 3), (11, 3), (12, 5), (12, 9), (12, 16), (2, 1), (2, 6), (2, 11), (12, 1), (12, 13)] r i
 | 32 => inP [(1, 3), (1, 4)] r i
 | 34 => inP [(3, 3), (3, 5), (4, 1), (4, 5), (4, 9)] r i
 | 38 => inP [(0, 5), (2, 1), (2, 6)] r i
 | 53 => inP [(1, 3), (1, 7), (1, 10)] r i
 | 54 => inP [(0, 3), (1, 4)] r i
 | 55 => inP [(4, 4), (4, 7), (4, 10)] r i
 | 58 => inP [(19, 5), (22, 6), (24, 5)] r i
 | 60 => inP [(0, 3), (1, 4)] r i
 | 61 => inP [(1, 5), (1, 12)] r i
 | 88 => inP [(10, 6)] r i
 | 89 => inP [(3, 5)] r i
 | 90 => inP [(3, 5), (5, 4), (6, 8), (6, 21), (8, 4)] r i
 | 92 => inP [(3, 10), (4, 4), (5, 10), (6, 4), (6, 14)] r i
 | 93 => inP [(1, 5), (1, 9), (1, 13), (1, 16)] r i
 | 94 => inP [(2, 11)] r i
 | 95 => inP [(0, 0)] r i
 | 96 => inP [(2, 3), (2, 8), (3, 3), (6, 3), (6, 7), (7, 4), (7, 8), (7, 14), (6, 10), (6, 11)] r i
 | 99 => inP [(8, 6)] r i
 | 100 => inP [(0, 3), (1, 5), (1, 9), (1, 18), (2, 3), (2, 5), (2, 7), (1, 11), (1, 13), (2, 5)] r i
 | 101 => inP [(1, 7), (4, 3), (4, 7), (4, 12), (4, 14)] r i
 | 103 => inP [(0, 8), (0, 19), (2, 4)] r i
 | 104 => inP [(1, 3), (1, 7), (2, 3), (6, 3), (6, 7), (7, 5), (7, 9), (7, 16), (1, 10), (1, 11)] r i
 | 105 => inP [(4, 6), (6, 4), (7, 6), (9, 4), (10, 4)] r i
 | 106 => inP [(8, 13)] r i
 | 118 => inP [(14, 1), (24, 6), (24, 7), (31, 5), (31, 6)] r i
 | 119 => inP [(0, 0), (1, 1), (2, 1), (4, 3), (4, 6), (4, 9), (4, 11), (4, 13), (4, 15), (6, 3), (6, 6), (6, 8), (8, 2), (10, 1), (11, 1), (12, 2), (15, 1), (21, 2), (22, 0)] r i
 | 120 => inP [(9, 6), (9, 7), (13, 1)] r i
 | 121 => inP [(1, 4), (4, 3), (4, 7), (4, 12), (4, 14)] r i
 | 137 => inP [(14, 2), (18, 8), (18, 9)] r i
 | 142 => inP [(0, 3), (1, 3), (3, 3), (5, 3), (7, 9), (7, 12), (8, 6), (8, 13), (9, 3)] r i
 | 144 => inP [(1, 1)] r i
 | 155 => inP [(1, 3), (2, 3), (5, 3)] r i
 | 160 => inP [(6, 2)] r i
 | _ => false
def arrF (f r i : Nat) : Bool :=
 match f with
 | 10 => inP [(3, 1)] r i
 | 25 => inP [(2, 6), (12, 13)] r i
 | 118 => inP [(32, 1)] r i
 | 137 => inP [(20, 1)] r i
 | 160 => inP [(10, 1)] r i
 | _ => false
def pureF (f r i : Nat) : Bool :=
 match f with
 | 15 => inP [(14, 1), (20, 1)] r i
 | 17 => inP [(3, 1), (3, 4), (7, 4), (7, 7), (30, 9)] r i
 | 31 => inP [(4, 3), (6, 3)] r i
 | 80 => inP [(1, 1), (3, 0), (6, 2), (8, 11)] r i
 | 119 => inP [(1, 2), (4, 4), (4, 7), (6, 4)] r i
 | 139 => inP [(1, 1), (3, 1)] r i
 | 140 => inP [(1, 1), (3, 1), (5, 2), (5, 5)] r i
 | 141 => inP [(1, 2)] r i
 | 142 => inP [(0, 4), (1, 4), (3, 4), (5, 4), (7, 5), (8, 14)] r i
 | 155 => inP [(4, 5), (7, 3)] r i
 | 156 => inP [(1, 2)] r i
 | 157 => inP [(1, 2)] r i
 | 159 => inP [(1, 1)] r i
 | 160 => inP [(3, 5)] r i
 | 165 => inP [(1, 2)] r i
 | 167 => inP [(1, 4), (3, 2)] r i
 | 168 => inP [(5, 3), (9, 2), (17, 6), (25, 6), (26, 4), (31, 4)] r i
 | 171 => inP [(1, 2)] r i
 | 174 => inP [(1, 1)] r i
 | _ => false
def retF (f : Nat) : Bool := [78, 146].any fun k => Nat.beq f k
def cutF (f id : Nat) : Option Keep :=
 match f, id with
 | 5, 16 => some ⟨[1, 2, 5, 7, 8, 9, 12], [(0, 11), (1, 11), (2, 7)], 3⟩
 | 5, 12 => some ⟨[1, 2, 5, 7, 8, 9, 10, 11], [(0, 11), (1, 11), (2, 7)], 3⟩
 | 5, 9 => some ⟨[1, 2, 5, 7, 8, 9, 10], [(0, 11), (1, 11), (2, 7)], 3⟩
 | 8, 4 => some ⟨[0, 4, 5, 6], [], 0⟩
 | 9, 4 => some ⟨[1, 3], [(0, 7)], 1⟩
 | 11, 4 => some ⟨[0, 3], [], 0⟩
 | 14, 15 => some ⟨[1, 3, 7], [(0, 11)], 1⟩
 | 14, 11 => some ⟨[1, 3, 6], [(0, 11)], 1⟩
 | 14, 7 => some ⟨[1, 3, 5], [(0, 11)], 1⟩
 | 14, 3 => some ⟨[1, 3, 4], [(0, 11)], 1⟩
 | 16, 25 => some ⟨[1, 2, 3, 10], [(0, 11), (1, 11), (2, 11)], 3⟩
 | 16, 21 => some ⟨[1, 2, 3, 9], [(0, 11), (1, 11), (2, 11)], 3⟩
 | 16, 17 => some ⟨[1, 2, 3, 8], [(0, 11), (1, 11), (2, 11)], 3⟩
 | 16, 11 => some ⟨[1, 2, 3, 6], [(0, 11), (1, 11), (2, 11)], 3⟩
 | 16, 7 => some ⟨[1, 2, 3, 5], [(0, 11), (1, 11), (2, 11)], 3⟩
 | 16, 3 => some ⟨[1, 2, 3, 4], [(0, 11), (1, 11), (2, 11)], 3⟩
 | 17, 25 => some ⟨[1, 2, 4, 6, 118, 119, 120], [(0, 7)], 1⟩
 | 17, 20 => some ⟨[1, 2, 4, 6, 9, 106, 107, 108], [(0, 7)], 1⟩
 | 17, 11 => some ⟨[1, 2, 4, 6, 9, 78, 79, 80], [(0, 7)], 1⟩
 | 17, 5 => some ⟨[1, 2, 4, 6, 57, 58, 59], [(0, 7)], 1⟩
 | 18, 41 => some ⟨[2, 3, 5, 15], [(0, 11), (1, 11)], 2⟩
 | 18, 37 => some ⟨[2, 3, 5, 14], [(0, 11), (1, 11)], 2⟩
 | 18, 33 => some ⟨[2, 3, 5, 13], [(0, 11), (1, 11)], 2⟩
 | 18, 29 => some ⟨[2, 3, 5, 12], [(0, 11), (1, 11)], 2⟩
 | 18, 25 => some ⟨[2, 3, 5, 11], [(0, 11), (1, 11)], 2⟩
 | 18, 21 => some ⟨[2, 3, 5, 10], [(0, 11), (1, 11)], 2⟩
 | 18, 17 => some ⟨[2, 3, 5, 9], [(0, 11), (1, 11)], 2⟩
 | 18, 13 => some ⟨[2, 3, 5, 8], [(0, 11), (1, 11)], 2⟩
 | 18, 9 => some ⟨[2, 3, 5, 7], [(0, 11), (1, 11)], 2⟩
 | 18, 5 => some ⟨[2, 3, 5, 6], [(0, 11), (1, 11)], 2⟩
 | 21, 3 => some ⟨[0, 3, 32, 33, 34], [], 0⟩
 | 23, 2 => some ⟨[0, 3], [], 0⟩
 | 24, 18 => some ⟨[1, 3, 6, 8], [(0, 7)], 1⟩
 | 24, 14 => some ⟨[1, 3, 6, 7], [(0, 7)], 1⟩
 | 24, 11 => some ⟨[1, 3, 6], [(0, 7)], 1⟩
 | 24, 7 => some ⟨[1, 3, 5], [(0, 7)], 1⟩
 | 24, 3 => some ⟨[1, 3, 4], [(0, 7)], 1⟩
 | 25, 4 => some ⟨[0, 1, 3, 8, 9], [], 0⟩
 | 28, 4 => some ⟨[12, 13, 14], [], 1⟩
 | 29, 14 => some ⟨[1, 49, 50, 51], [(0, 11)], 1⟩
 | 29, 2 => some ⟨[1, 11, 12, 13], [(0, 11)], 1⟩
 | 30, 2 => some ⟨[1, 8, 9, 10], [(0, 11)], 1⟩
 | 31, 2 => some ⟨[1, 9, 10, 11], [(0, 11)], 1⟩
 | 32, 14 => some ⟨[1, 41, 42, 43], [(0, 11)], 1⟩
 | 32, 3 => some ⟨[1, 3, 15, 16, 17], [(0, 11)], 1⟩
 | 34, 2 => some ⟨[1, 7, 8, 9], [(0, 11)], 1⟩
 | 35, 3 => some ⟨[0, 3, 4], [], 0⟩
 | 39, 11 => some ⟨[6, 25, 26, 27], [], 0⟩
 | 39, 3 => some ⟨[0, 3, 9, 10, 11], [], 0⟩
 | 40, 4 => some ⟨[0, 1, 5], [], 0⟩
 | 41, 4 => some ⟨[0, 1, 5], [], 0⟩
 | 55, 1 => some ⟨[0, 6, 7, 8], [], 0⟩
 | 56, 10 => some ⟨[1, 7], [(0, 9)], 1⟩
 | 62, 16 => some ⟨[1, 49, 50, 51], [(0, 11)], 1⟩
 | 62, 10 => some ⟨[1, 31, 32, 33], [(0, 11)], 1⟩
 | 62, 4 => some ⟨[1, 13, 14, 15], [(0, 11)], 1⟩
 | 76, 3 => some ⟨[1, 5, 9, 10, 11], [], 1⟩
 | 79, 2 => some ⟨[0, 1, 7, 8], [], 0⟩
 | 80, 4 => some ⟨[0, 2, 11, 12, 13], [(0, 7)], 1⟩
 | 85, 2 => some ⟨[0, 1, 7, 8], [], 0⟩
 | 86, 2 => some ⟨[0, 1, 7, 8], [], 0⟩
 | 87, 2 => some ⟨[0, 1, 7, 8], [], 0⟩
 | 97, 3 => some ⟨[0, 3, 4], [], 0⟩
 | 102, 9 => some ⟨[0, 4, 8], [], 1⟩
 | 102, 3 => some ⟨[0, 3, 4, 5], [(0, 9)], 1⟩
 | 103, 9 => some ⟨[0, 6, 7], [(0, 2)], 1⟩
 | 106, 13 => some ⟨[0, 3, 5, 7, 8], [(0, 9), (1, 7)], 2⟩
 | 106, 4 => some ⟨[0, 3, 4, 5, 6], [(0, 9), (1, 7)], 2⟩
 | 111, 2 => some ⟨[0, 1, 7, 8], [], 0⟩
 | 114, 17 => some ⟨[1, 2, 43, 44, 45], [], 0⟩
 | 114, 1 => some ⟨[0, 1, 2], [], 0⟩
 | 115, 2 => some ⟨[0, 1, 7, 8], [], 0⟩
 | 118, 27 => some ⟨[0, 9, 10, 12], [], 0⟩
 | 118, 21 => some ⟨[0, 9, 10, 11, 12], [], 0⟩
 | 118, 18 => some ⟨[0, 9, 10, 12], [], 0⟩
 | 118, 5 => some ⟨[0, 3, 4, 5, 6], [], 0⟩
 | 120, 3 => some ⟨[0, 4, 11, 12, 13], [], 1⟩
 | 122, 1 => some ⟨[0, 1, 3], [], 0⟩
 | 123, 10 => some ⟨[1, 4, 5], [], 0⟩
 | 123, 4 => some ⟨[1, 2, 3], [], 0⟩
 | 124, 1 => some ⟨[0, 1, 4], [], 0⟩
 | 125, 4 => some ⟨[1, 2, 3, 4, 5], [(0, 5), (1, 7), (2, 7)], 3⟩
 | 126, 3 => some ⟨[4, 5, 12, 13, 14], [], 0⟩
 | 137, 16 => some ⟨[0, 9, 47, 48, 49], [], 0⟩
 | 137, 4 => some ⟨[0, 1, 5, 6, 14], [], 0⟩
 | 145, 4 => some ⟨[0, 1, 12, 13], [], 0⟩
 | 151, 2 => some ⟨[0, 1, 7, 8], [], 0⟩
 | 152, 2 => some ⟨[0, 1, 7, 8], [], 0⟩
 | 153, 2 => some ⟨[0, 1, 7, 8], [], 0⟩
 | 154, 2 => some ⟨[0, 1, 7, 8], [], 0⟩
 | 160, 8 => some ⟨[7, 8], [], 0⟩
 | 161, 2 => some ⟨[0, 1, 7, 8], [], 0⟩
 | 162, 14 => some ⟨[0, 1, 7, 8], [], 0⟩
 | 162, 3 => some ⟨[0, 1, 19, 20], [], 0⟩
 | 163, 14 => some ⟨[0, 1, 7, 8], [], 0⟩
 | 163, 3 => some ⟨[0, 1, 15, 16], [], 0⟩
 | 168, 15 => some ⟨[0, 1, 5, 6, 7, 8, 9, 10], [], 0⟩
 | 174, 11 => some ⟨[0, 1, 5, 6, 7, 8, 10], [], 0⟩
 | 174, 5 => some ⟨[0, 1, 5, 6, 7, 8, 9], [], 0⟩
 | 176, 8 => some ⟨[4, 6, 7, 8], [], 0⟩
 | 176, 3 => some ⟨[0, 4, 5], [], 0⟩
 | _, _ => none
def extF (f : Nat) : Option (List LV -> Option LV) :=
 match f with
 | 118 => some fieldsE
 | 157 => some containsE
 | _ => none
noncomputable def cxS (m : Int) : Cx :=
  { P := Tryz.prog, cut := fun _ _ => none, take := takeF, heap := heapF, arr := arrF, pure := pureF, retOw := retF, ext := extF,
    glob := fun i => match i with | 0 => some asciiL | 2 => some [.int .i64 m] | _ => none }
def bodyOf (P : Program) (g : FuncId) : List Item := match P.funcs[g]? with | some f => (match f.body with | some c => [.code c] | none => []) | none => []
end Go.Proofs.YtoblgjmllmomhaaGreatDoor
