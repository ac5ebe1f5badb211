/-
  Any expression, put into a slice of bytes in a heap box.
-/
import Derived.Test.YthcjapmfchidhaaGreatDoorAmS6h
import Derived.Test.YthcjapmfchidhaaGreatDoorAmS6HwZ
import Derived.Test.YthcjapmfchidhaaGreatDoorAmHeap
import Derived.Test.YthcjapmfchidhaaGreatDoorAmS6s
namespace Go.Proofs.YthcjapmfchidhaaGreatDoor
set_option maxRecDepth 100000
open Go Go.Proofs.Am
def cellsB (bs : List Nat) : List LV := bs.map fun (x : Nat) => LV.v (AV.int .u8 (x : Int))
theorem cellsB_len (bs : List Nat) : (cellsB bs).length = bs.length := by simp [cellsB]
def SlN (h : Heap) (id : Nat) (bs : List Nat) : Prop := h.bx[id]? = some (cellsB bs) ∧ 0 < bs.length
theorem flat_by : ∀ ys : List Nat, flatV (encBy ys) = cellsB ys
 | [] => rfl
 | y :: ys => by
  have ih := flat_by ys
  unfold flatV encBy cellsB at *
  simp only [List.map_cons, List.flatten_cons, List.singleton_append]
  rw [ih]
theorem roomB {n : Nat} (h : n ≤ 140737488355328) : roomW n 1 = true := by
 unfold roomW
 rw [Bool.and_eq_true, Bool.or_eq_true]
 exact ⟨.inl (Nat.ble_eq_true_of_le (by omega)), rfl⟩
theorem ap_H {h : Heap} {id : Nat} {bs : List Nat} (H : SlN h id bs) (ys : List Nat) (hl : bs.length + ys.length ≤ 140737488355328) :
  ∃ id' h', apG h (.arr 1 id 0 bs.length) 1 1 (encBy ys) = some (.arr 1 id' 0 (bs ++ ys).length, h') ∧ SlN h' id' (bs ++ ys) := by
 cases ys with
 | nil => exact ⟨id, h, by rw [List.append_nil]; rfl, by rw [List.append_nil]; exact H⟩
 | cons y ys =>
  obtain ⟨hb, hp⟩ := H
  have h1 : apG h (.arr 1 id 0 bs.length) 1 1 (encBy (y :: ys)) = apH h (.arr 1 id 0 bs.length) 1 1 (encBy (y :: ys)) := rfl
  refine ⟨h.bx.length, { h with bx := h.bx.set id [] ++ [cellsB (bs ++ y :: ys)] }, ?_, ?_, by rw [List.length_append]; omega⟩
  ·rw [h1]
   unfold apH
   simp only
   rw [encBy_fit, encBy_len, roomB (by exact hl), hb]
   simp only [Nat.beq_refl, Bool.and_self, Bool.true_and, Option.bind_some]
   rw [show Nat.blt 0 (y :: ys).length = true from rfl, cond_true, show Nat.ble (0 + (bs.length + (y :: ys).length) * 1) (cellsB bs).length = false from by
    rw [Bool.eq_false_iff]
    intro hh
    have := Nat.le_of_ble_eq_true hh
    rw [cellsB_len, List.length_cons] at this
    omega, cond_false]
   rw [show (Nat.ble (bs.length * 1) (cellsB bs).length && Nat.blt 0 (cellsB bs).length) = true from by
    rw [Bool.and_eq_true, cellsB_len]
    exact ⟨Nat.ble_eq_true_of_le (by omega), by rw [Nat.blt_eq]; exact hp⟩, cond_true, flat_by, Nat.mul_one, List.take_of_length_le (by rw [cellsB_len]; exact Nat.le_refl _)]
   rw [List.length_append]
   congr 3
   unfold cellsB
   rw [List.map_append]
  ·show (h.bx.set id [] ++ _)[h.bx.length]? = _
   rw [List.getElem?_append_right (by rw [List.length_set]; exact Nat.le_refl _), List.length_set, Nat.sub_self]
   rfl
theorem ap_H1 {h : Heap} {id : Nat} {bs : List Nat} (H : SlN h id bs) {x : Int} {y : Nat} (hx : x = (y : Int)) (hl : bs.length + 1 ≤ 140737488355328) :
  ∃ id' h', apG h (.arr 1 id 0 bs.length) 1 1 [[.int .u8 x]] = some (.arr 1 id' 0 (bs ++ [y]).length, h') ∧ SlN h' id' (bs ++ [y]) := by
 subst hx
 exact ap_H H [y] hl
def To (r : Option (LV × Heap)) (bs : List Nat) : Prop := ∃ id h', r = some (.v (.arr 1 id 0 bs.length), h') ∧ SlN h' id bs
namespace H
section
variable {m : Int} {h : Heap}
theorem exH {f : FuncId} {xs : List LV} {y : LV × Heap} {fn : Func} (hf : Tryz.prog.funcs[f]? = some fn) (hs : fn.body.isSome = true) (he : (YthcjapmfchidhaaGreatDoor.cxZ m).ext f = none) (hh : (YthcjapmfchidhaaGreatDoor.cxZ m).exh f = none) (hr : (YthcjapmfchidhaaGreatDoor.cxZ m).exr f = none)
  (hx : (cxZ m).exh f = some (runE (YthcjapmfchidhaaGreatDoor.cxZ m) f)) (hv : xs.all LV.isV = true) (hy : callF (YthcjapmfchidhaaGreatDoor.cxZ m) (blk (YthcjapmfchidhaaGreatDoor.cxZ m)) f xs h = some y) : callF (cxZ m) (blk (cxZ m)) f xs h = some y := by
 obtain ⟨c, hc⟩ := Option.isSome_iff_exists.1 hs
 have e : body_ Tryz.prog f = [.code c] := body_eq hf hc
 refine callF_exh he hx hv ?_
 have := callF_inv (cx := YthcjapmfchidhaaGreatDoor.cxZ m) hf hc he hh hr hy
 unfold runE
 show blk _ f (body_ Tryz.prog f) xs h = _
 rw [e]
 exact this
theorem putU_H {v : Nat} (hv : v < 2 ^ 64) : callF (cxZ m) (blk (cxZ m)) 79 [.v (.int .u64 (v : Int))] h = some (.v (.imm (encBy (uB 10 v))), h) := exH Tryz.func79 (by kernel_rfl) rfl rfl rfl rfl rfl (putU_Z hv)
theorem putS_H {v : Int} (hv : -9223372036854775808 ≤ v ∧ v < 9223372036854775808) : callF (cxZ m) (blk (cxZ m)) 60 [.v (.int .i64 v)] h = some (.v (.imm (encBy (sB 10 v))), h) := exH Tryz.func60 (by kernel_rfl) rfl rfl rfl rfl rfl (putS_Z hv)
theorem blockT_H {t : Int} (h0 : 0 ≤ t) (h2 : t ≤ 2) : callF (cxZ m) (blk (cxZ m)) 58 [.v (.int .i64 t)] h = some (.v (.int .u8 ((resB t : Nat) : Int)), h) := exH Tryz.func58 (by kernel_rfl) rfl rfl rfl rfl rfl (blockT h0 h2)
theorem mayL_H {xs : List Ins} (hc : cL xs < 2 ^ 62) (h : Heap) : callF (cxZ m) (blk (cxZ m)) 19 [.v (.imm (encIs xs))] h = some (.v (.bool (mayL opI xs)), h) := exH Tryz.func19 (by kernel_rfl) rfl rfl rfl rfl rfl (mayL_Z hc h)
theorem put_loop {xs : List Int} (hx : xs.all numZ = true) (hl : xs.length < 2 ^ 62) : ∀ (suf pre : List Int) {bs : List Nat} {id : Nat} {h : Heap}, pre ++ suf = xs → bs.length + 10 * suf.length ≤ 140737488355328 → SlN h id bs →
  To (blk (cxZ m) 59 (at_ Tryz.prog 59 2) [.v (.arr 1 id 0 bs.length), .v (.imm (encN xs)), .v (.int .i64 (Int.ofNat (encN xs).length)), .v (.int .i64 (Int.ofNat pre.length))] h) (bs ++ (suf.map uL).flatten)
 | [], pre, bs, id, h, hp, _, H => by
  rw [List.append_nil] at hp
  subst hp
  rw [List.map_nil, List.flatten_nil, List.append_nil]
  exact ⟨id, h, p59_2_1 (k0 := ltZ_f (by rw [encN_len]; exact Int.le_refl _)), H⟩
 | a :: suf, pre, bs, id, h, hp, hb, H => by
  have hlt : pre.length < xs.length := by rw [← hp]; simp
  have hg : xs[pre.length]? = some a := by rw [← hp, List.getElem?_append_right (Nat.le_refl _), Nat.sub_self]; rfl
  have ha : numZ a = true := List.all_eq_true.1 hx a (List.mem_of_getElem? hg)
  have k1 : ixA (.imm (encN xs)) (Int.ofNat pre.length) 1 = some [.int .i64 a] := ix_map (f := fun x : Int => [AV.int .i64 x]) hg rfl
  have hlen := uB_len 10 a.toNat
  rw [List.length_cons] at hb
  obtain ⟨i1, h1, k3, H1⟩ := ap_H H (uL a) (by unfold uL; omega)
  have hw : IntKind.wrap .u64 a = ((a.toNat : Nat) : Int) := by
   unfold numZ at ha
   rw [Bool.and_eq_true, decide_eq_true_eq, decide_eq_true_eq] at ha
   rw [wrapU64]; omega
  obtain ⟨i2, h2, e2, H2⟩ := put_loop hx hl suf (pre ++ [a]) (bs := bs ++ uL a) (by rw [List.append_assoc]; exact hp) (by rw [List.length_append]; unfold uL; omega) H1
  rw [List.map_cons, List.flatten_cons, ← List.append_assoc]
  rw [show (pre ++ [a]).length = pre.length + 1 by simp] at e2
  exact ⟨i2, h2, p59_2_0 (k0 := ltZ_t (by rw [encN_len, ofN, ofN]; omega)) (k1 := k1) (k2 := by rw [hw]; exact putU_H (YthcjapmfchidhaaGreatDoor.uL_lt ha)) (k3 := k3) (k4 := by rw [wrapS (by omega)]; exact e2), H2⟩
theorem put_H {xs : List Int} {bs : List Nat} {id : Nat} (hx : xs.all numZ = true) (hl : xs.length < 2 ^ 62) (hb : bs.length + 10 * xs.length ≤ 140737488355328) (H : SlN h id bs) : To (callF (cxZ m) (blk (cxZ m)) 59 [.v (.arr 1 id 0 bs.length), .v (.imm (encN xs))] h) (bs ++ (xs.map uL).flatten) := by
 obtain ⟨i1, h1, e1, H1⟩ := put_loop (m := m) hx hl xs [] rfl hb H
 exact ⟨i1, h1, callF_of rfl rfl (by kernel_rfl) (p59_0 (k0 := e1)), H1⟩
theorem put1_H {a : Int} {bs : List Nat} {id : Nat} (ha : numZ a = true) (hb : bs.length + 10 ≤ 140737488355328) (H : SlN h id bs) : To (callF (cxZ m) (blk (cxZ m)) 59 [.v (.arr 1 id 0 bs.length), .v (.imm [[.int .i64 a]])] h) (bs ++ uL a) := by
 have := put_H (m := m) (xs := [a]) (bs := bs) (by simp [ha]) (by show 1 < 2 ^ 62; decide) hb H
 simpa [encN] using this
theorem put2_H {a b : Int} {bs : List Nat} {id : Nat} (ha : numZ a = true) (hb : numZ b = true) (hl : bs.length + 20 ≤ 140737488355328) (H : SlN h id bs) : To (callF (cxZ m) (blk (cxZ m)) 59 [.v (.arr 1 id 0 bs.length), .v (.imm [[.int .i64 a], [.int .i64 b]])] h) (bs ++ (uL a ++ uL b)) := by
 have := put_H (m := m) (xs := [a, b]) (bs := bs) (by simp [ha, hb]) (by show 2 < 2 ^ 62; decide) hl H
 simpa [encN] using this
end
end H
end Go.Proofs.YthcjapmfchidhaaGreatDoor
namespace Go.Proofs.YthcjapmfchidhaaGreatDoor.H
set_option maxRecDepth 100000
open Go Go.Proofs.Am
theorem ix_H {bs : List Nat} {I : Nat} {h : Heap} (Hs : h.bx[I]? = some (cellsB bs)) {i : Nat} {z : Int} {x : Nat} (hz : z = (i : Int)) (h1 : bs[i]? = some x) : ixP (.arr 1 I 0 bs.length) z 1 = some (.ptr I (i * 1)) ∧ ldP h (.ptr I (i * 1)) 1 false = some (.int .u8 (x : Int)) :=
 ⟨ixP_arr hz (List.getElem?_eq_some_iff.1 h1).1, ldP_at Hs (by rw [Nat.mul_one]; unfold cellsB; rw [List.getElem?_map, h1]; rfl)⟩
section
variable {m : Int} {h : Heap}
theorem raw_loop {bs : List Nat} {I : Nat} (Hs : h.bx[I]? = some (cellsB bs)) (hb : ∀ x, x ∈ bs → x < 256) (hl : bs.length < 2 ^ 62) {B K : Nat} (hB : (B = 32 ∧ K = 5) ∨ (B = 64 ∧ K = 10)) : ∀ (k j p acc : Nat), j + k = K → p ≤ bs.length → acc < 2 ^ (7 * j) → acc < 18446744073709551616 →
  blk (cxZ m) 98 (at_ Tryz.prog 98 3) [.v (.arr 1 I 0 bs.length), .v (.int .i64 (p : Int)), .v (.int .i64 (B : Int)), .v (.int .u64 (acc : Int)), .v (.int .i64 ((7 * j : Nat) : Int))] h = some (rawV bs k p j acc, h)
 | 0, j, p, acc, hk, _, _, _ => by
  unfold rawV digN
  exact p98_3_3 (k0 := ltZ_f (by omega))
 | k + 1, j, p, acc, hk, hp, ha, ha2 => by
  have k0 : ltZ ((7 * j : Nat) : Int) (B : Int) = true := ltZ_t (by omega)
  unfold rawV digN
  cases hx : bs[p]? with
  | none =>
   have := List.getElem?_eq_none_iff.1 hx
   exact p98_3_0 (k0 := k0) (k1 := leZ_t (by rw [ofN]; omega))
  | some x =>
   have hlt := (List.getElem?_eq_some_iff.1 hx).1
   have h256 := hb x (List.mem_of_getElem? hx)
   have k1 : leZ (Int.ofNat bs.length) (p : Int) = false := leZ_f (by rw [ofN]; omega)
   obtain ⟨k2, k2'⟩ := ix_H Hs (z := (p : Int)) rfl hx
   have w7 : IntKind.wrap .i64 (((7 * j : Nat) : Int) + Int.ofNat 7) = ((7 * (j + 1) : Nat) : Int) := by rw [ofN, wrapI (by unfold InZ; omega)]; omega
   have wp : IntKind.wrap .i64 ((p : Int) + Int.ofNat 1) = ((p + 1 : Nat) : Int) := by rw [ofN, wrapI (by unfold InZ; omega)]; omega
   have hp7 : 2 ^ 64 = 2 ^ (7 * j) * 2 ^ (64 - 7 * j) := by rw [← Nat.pow_add, show 7 * j + (64 - 7 * j) = 64 by omega]
   have h64 : (2 : Nat) ^ 64 = 18446744073709551616 := by decide
   have hs : x % 128 * 2 ^ (7 * j) % 18446744073709551616 = 2 ^ (7 * j) * (x % 128 % 2 ^ (64 - 7 * j)) := by
    rw [← h64, hp7, Nat.mul_comm (x % 128), Nat.mul_mod_mul_left]
   have hsl : 2 ^ (7 * j) * (x % 128 % 2 ^ (64 - 7 * j)) < 18446744073709551616 := by rw [← hs]; exact Nat.mod_lt _ (by decide)
   have e8 : (Int.ofNat (BitVec.toNat (BitVec.ofInt (IntKind.bits .u8) (x : Int) &&& BitVec.ofInt (IntKind.bits .u8) 127) % 256 % 18446744073709551616)) = ((x % 128 : Nat) : Int) := by
    have := and8n h256
    have h2 := Int.ofNat.inj this
    rw [h2]
    show ((x % 128 % 18446744073709551616 : Nat) : Int) = _
    congr 1; omega
   have k3 : binF Tryz.prog .shl 46 false (.int .u64 (Int.ofNat (BitVec.toNat (BitVec.ofInt (IntKind.bits .u8) (x : Int) &&& BitVec.ofInt (IntKind.bits .u8) 127) % 256 % 18446744073709551616))) (.int .i64 ((7 * j : Nat) : Int)) = some (.int .u64 ((2 ^ (7 * j) * (x % 128 % 2 ^ (64 - 7 * j)) : Nat) : Int)) := by
    rw [e8, shl_F rfl, wrapU64, ← hs]
    have : min (7 * j) (IntKind.bits .u64) = 7 * j := Nat.min_eq_left (by show 7 * j ≤ 64; omega)
    rw [this]
    congr 2
   have hor := or64 (i := 7 * j) (c := x % 128 % 2 ^ (64 - 7 * j)) ha hsl ha2
   have hlt2 : acc + 2 ^ (7 * j) * (x % 128 % 2 ^ (64 - 7 * j)) < 18446744073709551616 := by
    have e3 := Nat.two_pow_add_eq_or_of_lt ha (x % 128 % 2 ^ (64 - 7 * j))
    have : 2 ^ (7 * j) * (x % 128 % 2 ^ (64 - 7 * j)) ||| acc < 2 ^ 64 := Nat.or_lt_two_pow (show _ < 2 ^ 64 from hsl) (show acc < 2 ^ 64 from ha2)
    rw [← e3, h64] at this
    omega
   have hacc : ∀ D : Nat, (acc + 2 ^ (7 * j) * (x % 128 % 2 ^ (64 - 7 * j)) + D * 2 ^ (7 * (j + 1))) % 18446744073709551616 = (acc + (x % 128 + 128 * D) * 2 ^ (7 * j)) % 18446744073709551616 := fun D => by
    rw [← hs, show (7 * (j + 1)) = 7 * j + 7 by omega, Nat.pow_add, Nat.add_mul, show 128 * D * 2 ^ (7 * j) = D * (2 ^ (7 * j) * 2 ^ 7) by rw [show (2 : Nat) ^ 7 = 128 by decide, Nat.mul_comm 128 D, Nat.mul_assoc, Nat.mul_comm 128]]
    generalize x % 128 * 2 ^ (7 * j) = A
    generalize D * (2 ^ (7 * j) * 2 ^ 7) = E
    omega
   simp only
   by_cases h1 : x < 128
   ·rw [if_pos h1]
    have := p98_3_1 (m := m) (h := h) (v := (acc : Int)) (k0 := k0) (k1 := k1) (k2 := k2) (k3 := k2') (k4 := k3) (k5 := ltZ_t (b := Int.ofNat 128) (by rw [ofN]; omega))
    rw [hor, w7, wp] at this
    have h0 := hacc 0
    rw [Nat.zero_mul, Nat.add_zero, Nat.mod_eq_of_lt hlt2, Nat.mul_zero, Nat.add_zero] at h0
    rw [h0] at this
    simp only [valD, List.length_singleton, Nat.mul_zero, Nat.add_zero]
    rw [Nat.mod_eq_of_lt h1] at this
    rw [show 7 * j + 7 * 1 = 7 * (j + 1) by omega]
    exact this
   ·rw [if_neg h1]
    have hlt3 : acc + 2 ^ (7 * j) * (x % 128 % 2 ^ (64 - 7 * j)) < 2 ^ (7 * (j + 1)) := by
     have e : 2 ^ (7 * (j + 1)) = 2 ^ (7 * j) * 128 := by rw [show (7 * (j + 1)) = 7 * j + 7 by omega, Nat.pow_add]
     have hle : x % 128 % 2 ^ (64 - 7 * j) ≤ 127 := by have := Nat.mod_le (x % 128) (2 ^ (64 - 7 * j)); omega
     have := Nat.mul_le_mul_left (2 ^ (7 * j)) hle
     rw [e]
     have e2 : 2 ^ (7 * j) * 128 = 2 ^ (7 * j) * 127 + 2 ^ (7 * j) := by rw [← Nat.mul_succ]
     omega
    have ih := raw_loop Hs hb hl hB k (j + 1) (p + 1) (acc + 2 ^ (7 * j) * (x % 128 % 2 ^ (64 - 7 * j))) (by omega) (by omega) hlt3 hlt2
    have := p98_3_2 (m := m) (h := h) (v := (acc : Int)) (k0 := k0) (k1 := k1) (k2 := k2) (k3 := k2') (k4 := k3) (k5 := ltZ_f (b := Int.ofNat 128) (by rw [ofN]; omega)) (k6 := by rw [hor, w7, wp]; exact ih)
    refine this.trans ?_
    unfold rawV
    cases digN bs k (p + 1) with
    | none => rfl
    | some r =>
     simp only [Option.map_some, valD, List.length_cons]
     rw [hacc]
     congr 4
     congr 2
     omega
theorem raw98 {bs : List Nat} {I : Nat} (Hs : h.bx[I]? = some (cellsB bs)) (hb : ∀ x, x ∈ bs → x < 256) (hl : bs.length < 2 ^ 62) {B K p : Nat} (hB : (B = 32 ∧ K = 5) ∨ (B = 64 ∧ K = 10)) (hp : p ≤ bs.length) :
  callF (cxZ m) (blk (cxZ m)) 98 [.v (.arr 1 I 0 bs.length), .v (.int .i64 (p : Int)), .v (.int .i64 (B : Int))] h = some (rawV bs K p 0 0, h) :=
 callF_of rfl rfl (by kernel_rfl) (p98_0 (k0 := raw_loop (m := m) (h := h) Hs hb hl hB K 0 p 0 (by omega) hp (by decide) (by decide)))
theorem may97 {bs : List Nat} {I : Nat} {B p : Nat} (hB : B = 32 ∨ B = 64) (hp : p ≤ bs.length) : callF (cxZ m) (blk (cxZ m)) 97 [.v (.arr 1 I 0 bs.length), .v (.int .i64 (p : Int)), .v (.int .i64 (B : Int))] h = some (.v (.bool true), h) := by
 have := callF_of (cx := cxZ m) rfl rfl (by kernel_rfl) (p97_0 (m := m) (h := h) (p := (p : Int)) (b := (B : Int)) (I := I) (n := bs.length) (k0 := leZ_t (a := Int.ofNat 1) (by rw [ofN]; omega)) (k1 := leZ_t (b := Int.ofNat 64) (by rw [ofN]; omega)) (k2 := leZ_t (a := Int.ofNat 0) (by rw [ofN]; omega)))
 rw [leZ_t (by rw [ofN]; omega)] at this
 exact this
theorem u89 {bs : List Nat} {I : Nat} (Hs : h.bx[I]? = some (cellsB bs)) (hb : ∀ x, x ∈ bs → x < 256) (hl : bs.length < 2 ^ 62) {p : Nat} (hp : p ≤ bs.length) :
  callF (cxZ m) (blk (cxZ m)) 89 [.v (.arr 1 I 0 bs.length), .v (.int .i64 (p : Int)), .v (.int .i64 (Int.ofNat 32))] h = some (uV bs p, h) := by
 have hm := may97 (m := m) (h := h) (bs := bs) (I := I) (B := 32) (p := p) (.inl rfl) hp
 have hr := raw98 (m := m) (h := h) Hs hb hl (B := 32) (K := 5) (p := p) (.inl ⟨rfl, rfl⟩) hp
 unfold rawV at hr
 unfold uV
 cases hd : digN bs 5 p with
 | none =>
  rw [hd] at hr
  exact callF_of rfl rfl (by kernel_rfl) (p89_1 (k0 := hm) (k1 := rfl) (k2 := hr) (k3 := rfl))
 | some r =>
  obtain ⟨d, q⟩ := r
  rw [hd] at hr
  obtain ⟨d1, d2, d3, d4, d5⟩ := digN_ok _ _ hd
  obtain ⟨y, low, y1, y2, y3, y4⟩ := digN_last _ _ hd
  have hV := valD_lt d5
  have hV5 : 128 ^ d.length ≤ 128 ^ 5 := Nat.pow_le_pow_right (by decide) d2
  have e5 : (128 : Nat) ^ 5 = 34359738368 := by decide
  simp only [Nat.mul_zero, Nat.zero_add, Nat.pow_zero, Nat.mul_one] at hr
  rw [Nat.mod_eq_of_lt (by omega)] at hr
  simp only
  by_cases h5 : d.length = 5
  ·rw [h5] at hr y3 y4
   have k4 : ltZ (Int.ofNat 32) ((7 * 5 : Nat) : Int) = true := by decide
   obtain ⟨k5, k5'⟩ := ix_H Hs (z := IntKind.wrap .i64 ((q : Int) - Int.ofNat 1)) (i := q - 1) (by rw [ofN, wrapI (by unfold InZ; omega)]; omega) y1
   have k6 : binF Tryz.prog .shr 5 false (.int .u8 (y : Int)) (.int .i64 (IntKind.wrap .i64 (IntKind.wrap .i64 (Int.ofNat 32 + Int.ofNat 7) - ((7 * 5 : Nat) : Int)))) = some (.int .u8 ((y / 16 : Nat) : Int)) := by
    rw [shr_F (g := 4) (by kernel_rfl)]
    show some (AV.int .u8 ((y : Int).fdiv 16)) = _
    rw [Int.fdiv_eq_ediv_of_nonneg _ (by decide)]
    rfl
   have e4 : (128 : Nat) ^ (5 - 1) = 268435456 := by decide
   rw [e4] at y3 y4
   by_cases hy : y / 16 = 0
   ·rw [if_pos (by omega)]
    exact callF_of rfl rfl (by kernel_rfl) (p89_3 (k0 := hm) (k1 := rfl) (k2 := hr) (k3 := rfl) (k4 := k4) (k5 := k5) (k6 := k5') (k7 := k6) (k8 := congrArg not (eqZ_t (b := Int.ofNat 0) (by rw [hy]; rfl))))
   ·rw [if_neg (by omega)]
    exact callF_of rfl rfl (by kernel_rfl) (p89_2 (k0 := hm) (k1 := rfl) (k2 := hr) (k3 := rfl) (k4 := k4) (k5 := k5) (k6 := k5') (k7 := k6) (k8 := congrArg not (eqZ_f (b := Int.ofNat 0) (by rw [ofN]; omega))))
  ·have h4 : 128 ^ d.length ≤ 128 ^ 4 := Nat.pow_le_pow_right (by decide) (by omega)
   have e4 : (128 : Nat) ^ 4 = 268435456 := by decide
   rw [if_pos (by omega)]
   exact callF_of rfl rfl (by kernel_rfl) (p89_4 (k0 := hm) (k1 := rfl) (k2 := hr) (k3 := rfl) (k4 := ltZ_f (a := Int.ofNat 32) (by rw [ofN]; omega)))
theorem s90 {bs : List Nat} {I : Nat} (Hs : h.bx[I]? = some (cellsB bs)) (hb : ∀ x, x ∈ bs → x < 256) (hl : bs.length < 2 ^ 62) {B K p : Nat} (hB : (B = 32 ∧ K = 5) ∨ (B = 64 ∧ K = 10)) (hp : p ≤ bs.length) :
  callF (cxZ m) (blk (cxZ m)) 90 [.v (.arr 1 I 0 bs.length), .v (.int .i64 (p : Int)), .v (.int .i64 (B : Int))] h = some (sV bs B K p, h) := by
 have hm := may97 (m := m) (h := h) (bs := bs) (I := I) (B := B) (p := p) (by omega) hp
 have hr := raw98 (m := m) (h := h) Hs hb hl (B := B) (K := K) (p := p) hB hp
 unfold rawV at hr
 unfold sV
 cases hd : digN bs K p with
 | none =>
  rw [hd] at hr
  exact callF_of rfl rfl (by kernel_rfl) (p90_1 (k0 := hm) (k1 := rfl) (k2 := hr) (k3 := rfl))
 | some r =>
  obtain ⟨d, q⟩ := r
  rw [hd] at hr
  obtain ⟨d1, d2, d3, d4, d5⟩ := digN_ok _ _ hd
  obtain ⟨y, low, y1, y2, y3, y4⟩ := digN_last _ _ hd
  have hV := valD_lt d5
  simp only [Nat.mul_zero, Nat.zero_add, Nat.pow_zero, Nat.mul_one] at hr
  simp only
  generalize hVd : valD d = V at *
  generalize hn : d.length = n at *
  obtain ⟨k4, k4'⟩ := ix_H Hs (z := IntKind.wrap .i64 ((q : Int) - Int.ofNat 1)) (i := q - 1) (by rw [ofN, wrapI (by unfold InZ; omega)]; omega) y1
  have e64 := and64n y2
  have w64 : ∀ z : Nat, z < 18446744073709551616 → IntKind.wrap .i64 (z : Int) = IntKind.wrap .i64 (z : Int) := fun _ _ => rfl
  have hP : 2 ^ (7 * n) = 128 * 128 ^ (n - 1) := by rw [← pow128, ← Nat.pow_succ', show (n - 1).succ = n by omega]
  have hsg : y < 64 ↔ 2 * V < 2 ^ (7 * n) := by
   rw [hP, y3]
   generalize 128 ^ (n - 1) = P at *
   constructor
   ·intro hy
    have : y * P ≤ 63 * P := Nat.mul_le_mul_right _ (by omega)
    omega
   ·intro hv
    rcases Nat.lt_or_ge y 64 with hh | hh
    ·exact hh
    ·have : 64 * P ≤ y * P := Nat.mul_le_mul_right _ hh
     omega
  by_cases h10 : n = 10
  ·
   have hB64 : B = 64 ∧ K = 10 := by omega
   obtain ⟨rfl, rfl⟩ := hB64
   subst h10
   have e9 : (128 : Nat) ^ (10 - 1) = 9223372036854775808 := by decide
   have e10 : (128 : Nat) ^ 10 = 1180591620717411303424 := by decide
   rw [e9] at y3 y4
   rw [e10] at hV
   have k5 : ltZ (Int.ofNat 64) ((7 * 10 : Nat) : Int) = true := by decide
   have k6 : binF Tryz.prog .shr 5 false (.int .u8 (y : Int)) (.int .i64 (IntKind.wrap .i64 (IntKind.wrap .i64 (IntKind.wrap .i64 (Int.ofNat 64 + Int.ofNat 7) - ((7 * 10 : Nat) : Int)) - Int.ofNat 1))) = some (.int .u8 (y : Int)) := by
    rw [shr_F (g := 0) (by kernel_rfl)]
    show some (AV.int .u8 ((y : Int).fdiv 1)) = _
    rw [Int.fdiv_eq_ediv_of_nonneg _ (by decide), Int.ediv_one]
   have k8 : binF Tryz.prog .shr 5 true (.int .u8 (Int.ofNat 127)) (.int .i64 (IntKind.wrap .i64 (IntKind.wrap .i64 (IntKind.wrap .i64 (Int.ofNat 64 + Int.ofNat 7) - ((7 * 10 : Nat) : Int)) - Int.ofNat 1))) = some (.int .u8 (Int.ofNat 127)) := by
    rw [shr_F (g := 0) (by kernel_rfl)]
    kernel_rfl
   have n64 : ltZ ((7 * 10 : Nat) : Int) (Int.ofNat 64) = false := by decide
   rw [rdS_10 hV]
   by_cases y0 : y = 0
   ·rw [if_pos (by omega), ← Nat.mod_eq_of_lt (show V < 18446744073709551616 by omega)]
    exact callF_of rfl rfl (by kernel_rfl) (p90_8 (k0 := hm) (k1 := rfl) (k2 := hr) (k3 := rfl) (k4 := k4) (k5 := k4') (k6 := k5) (k7 := k6) (k8 := congrArg not (eqZ_t (b := Int.ofNat 0) (by rw [y0]; rfl))) (k9 := n64))
   ·have k7 : (!eqZ (y : Int) (Int.ofNat 0)) = true := congrArg not (eqZ_f (b := Int.ofNat 0) (by rw [ofN]; omega))
    rw [if_neg (by omega)]
    by_cases y127 : y = 127
    ·rw [if_neg (by omega), if_pos (by omega), show (((V : Int) - 1180591620717411303424) % 18446744073709551616).toNat = V % 18446744073709551616 by omega]
     exact callF_of rfl rfl (by kernel_rfl) (p90_5 (k0 := hm) (k1 := rfl) (k2 := hr) (k3 := rfl) (k4 := k4) (k5 := k4') (k6 := k5) (k7 := k6) (k8 := k7) (k9 := k8) (k10 := congrArg not (eqZ_t (b := Int.ofNat 127) (by rw [y127]; rfl))) (k11 := n64))
    ·have hnone : (if 2 * V < 1180591620717411303424 then none else if 1180591620717411303424 ≤ V + 9223372036854775808 then some ((((V : Int) - 1180591620717411303424) % 18446744073709551616).toNat) else none : Option Nat) = none := by
      split
      ·rfl
      ·rw [if_neg (by omega)]
     rw [hnone]
     exact callF_of rfl rfl (by kernel_rfl) (p90_2 (k0 := hm) (k1 := rfl) (k2 := hr) (k3 := rfl) (k4 := k4) (k5 := k4') (k6 := k5) (k7 := k6) (k8 := k7) (k9 := k8) (k10 := congrArg not (eqZ_f (b := Int.ofNat 127) (by rw [ofN]; omega))))
  ·
   have h9 : n ≤ 9 := by omega
   have hV' : V < 2 ^ (7 * n) := by rw [← pow128]; exact hV
   have hle : 2 ^ (7 * n) ≤ 2 ^ 63 := Nat.pow_le_pow_right (by decide) (by omega)
   have h63 : (2 : Nat) ^ 63 = 9223372036854775808 := by decide
   have hVm : V % 18446744073709551616 = V := Nat.mod_eq_of_lt (by omega)
   have hx := ext_val d1 h9 hV'
   have k64 : ltZ ((7 * n : Nat) : Int) (Int.ofNat 64) = true := ltZ_t (by rw [ofN]; omega)
   rw [hVm] at hr
   have hE := ext_F h9
   have hor := or64 (a := V) (c := 2 ^ (64 - 7 * n) - 1) hV' (by
    have hp : 2 ^ (7 * n) * (2 ^ (64 - 7 * n) - 1) = 18446744073709551616 - 2 ^ (7 * n) := by
     rw [Nat.mul_sub, ← Nat.pow_add, show 7 * n + (64 - 7 * n) = 64 by omega, Nat.mul_one]
    have hp0 : 0 < 2 ^ (7 * n) := Nat.pow_pos (by decide)
    omega) (by omega)
   have res : ∀ {r0 : LV}, (y < 64 → r0 = .tup [.int .i64 (IntKind.wrap .i64 (V : Int)), .int .i64 (q : Int), .nilI]) → (¬ y < 64 → r0 = .tup [.int .i64 (IntKind.wrap .i64 ((V + 2 ^ (7 * n) * (2 ^ (64 - 7 * n) - 1) : Nat) : Int)), .int .i64 (q : Int), .nilI]) → r0 = .tup [.int .i64 (IntKind.wrap .i64 (((sxt V (7 * n) % (2 : Int) ^ 64).toNat : Nat) : Int)), .int .i64 (q : Int), .nilI] := fun h1 h2 => by
    rw [hx]
    by_cases hy : y < 64
    ·rw [if_pos (hsg.1 hy)]; exact h1 hy
    ·rw [if_neg (fun hh => hy (hsg.2 hh))]; exact h2 hy
   by_cases h5 : B = 32 ∧ n = 5
   ·obtain ⟨rfl, rfl⟩ := h5
    have e4 : (128 : Nat) ^ (5 - 1) = 268435456 := by decide
    have e5 : (2 : Nat) ^ (7 * 5) = 34359738368 := by decide
    rw [e4] at y3 y4
    have k5 : ltZ (Int.ofNat 32) ((7 * 5 : Nat) : Int) = true := by decide
    have k6 : binF Tryz.prog .shr 5 false (.int .u8 (y : Int)) (.int .i64 (IntKind.wrap .i64 (IntKind.wrap .i64 (IntKind.wrap .i64 (Int.ofNat 32 + Int.ofNat 7) - ((7 * 5 : Nat) : Int)) - Int.ofNat 1))) = some (.int .u8 ((y / 8 : Nat) : Int)) := by
     rw [shr_F (g := 3) (by kernel_rfl)]
     show some (AV.int .u8 ((y : Int).fdiv 8)) = _
     rw [Int.fdiv_eq_ediv_of_nonneg _ (by decide)]
     rfl
    have k8 : binF Tryz.prog .shr 5 true (.int .u8 (Int.ofNat 127)) (.int .i64 (IntKind.wrap .i64 (IntKind.wrap .i64 (IntKind.wrap .i64 (Int.ofNat 32 + Int.ofNat 7) - ((7 * 5 : Nat) : Int)) - Int.ofNat 1))) = some (.int .u8 (Int.ofNat 15)) := by
     rw [shr_F (g := 3) (by kernel_rfl)]
     kernel_rfl
    have hrd := rdS_5 (V := V) (by rw [e5] at hV'; exact hV')
    by_cases y0 : y / 8 = 0
    ·have hy : y < 64 := by omega
     have kz : (!eqZ ((y / 8 : Nat) : Int) (Int.ofNat 0)) = false := congrArg not (eqZ_t (b := Int.ofNat 0) (by rw [y0]; rfl))
     rw [hrd, if_pos (by omega)]
     exact callF_of rfl rfl (by kernel_rfl) (p90_7 (k0 := hm) (k1 := rfl) (k2 := hr) (k3 := rfl) (k4 := k4) (k5 := k4') (k6 := k5) (k7 := k6) (k8 := kz) (k9 := k64) (k10 := by rw [e64, if_pos hy]; rfl))
    ·have k7 : (!eqZ ((y / 8 : Nat) : Int) (Int.ofNat 0)) = true := congrArg not (eqZ_f (b := Int.ofNat 0) (by rw [ofN]; omega))
     rw [hrd, if_neg (by omega)]
     by_cases y15 : y / 8 = 15
     ·have hy : ¬ y < 64 := by omega
      have ex : ((((V : Int) - 34359738368) % 18446744073709551616).toNat) = V + 2 ^ (7 * 5) * (2 ^ (64 - 7 * 5) - 1) := by
       rw [show 2 ^ (7 * 5) * (2 ^ (64 - 7 * 5) - 1) = 18446744039349813248 by decide]; omega
      rw [if_neg (by omega), if_pos (by omega), ex]
      have := callF_of (cx := cxZ m) rfl rfl (by kernel_rfl) (p90_3 (k0 := hm) (k1 := rfl) (k2 := hr) (k3 := rfl) (k4 := k4) (k5 := k4') (k6 := k5) (k7 := k6) (k8 := k7) (k9 := k8) (k10 := congrArg not (eqZ_t (b := Int.ofNat 15) (by rw [y15]; rfl))) (k11 := k64) (k12 := by rw [e64, if_neg hy]; rfl) (k13 := hE))
      rw [hor] at this
      exact this
     ·have hnone : (if 2 * V < 34359738368 then none else if 34359738368 ≤ V + 2147483648 then some ((((V : Int) - 34359738368) % 18446744073709551616).toNat) else none : Option Nat) = none := by
       split
       ·rfl
       ·rw [if_neg (by omega)]
      rw [hnone]
      exact callF_of rfl rfl (by kernel_rfl) (p90_2 (k0 := hm) (k1 := rfl) (k2 := hr) (k3 := rfl) (k4 := k4) (k5 := k4') (k6 := k5) (k7 := k6) (k8 := k7) (k9 := k8) (k10 := congrArg not (eqZ_f (b := Int.ofNat 15) (by rw [ofN]; omega))))
   ·have hfit : 7 * n ≤ B := by omega
    have k5 : ltZ (B : Int) ((7 * n : Nat) : Int) = false := ltZ_f (by omega)
    have hrd : rdS V n B = some ((sxt V (7 * n) % (2 : Int) ^ 64).toNat) := by unfold rdS; rw [if_pos (.inl hfit)]
    rw [hrd]
    simp only
    rw [hx]
    by_cases hy : y < 64
    ·rw [if_pos (hsg.1 hy)]
     exact callF_of rfl rfl (by kernel_rfl) (p90_10 (k0 := hm) (k1 := rfl) (k2 := hr) (k3 := rfl) (k4 := k4) (k5 := k4') (k6 := k5) (k7 := k64) (k8 := by rw [e64, if_pos hy]; rfl))
    ·rw [if_neg (fun hh => hy (hsg.2 hh))]
     have := callF_of (cx := cxZ m) rfl rfl (by kernel_rfl) (p90_9 (k0 := hm) (k1 := rfl) (k2 := hr) (k3 := rfl) (k4 := k4) (k5 := k4') (k6 := k5) (k7 := k64) (k8 := by rw [e64, if_neg hy]; rfl) (k9 := hE))
     rw [hor] at this
     exact this
end
end Go.Proofs.YthcjapmfchidhaaGreatDoor.H
namespace Go.Proofs.YthcjapmfchidhaaGreatDoor.H
set_option maxRecDepth 100000
open Go Go.Proofs.Am
section
variable {m : Int}
def Buf (h : Heap) (a : AV) (bs : List Nat) : Prop := (∃ id, a = .arr 1 id 0 bs.length ∧ SlN h id bs) ∨ (a = .nilS ∧ bs = [])
def OneR (m : Int) (x : Ins) : Prop := mayI opI x = true → v64I x = true → ∀ ⦃h : Heap⦄ ⦃a : AV⦄ ⦃bs : List Nat⦄, Buf h a bs → bs.length + 32 * cI x ≤ 68719476736 →
 To (callF (cxZ m) (blk (cxZ m)) 34 [.v a, .v (.agg (encI x))] h) (bs ++ insB opI x)
def LstR (m : Int) (xs : List Ins) : Prop := mayL opI xs = true → v64L xs = true → ∀ ⦃h : Heap⦄ ⦃id : Nat⦄ ⦃bs : List Nat⦄, SlN h id bs → bs.length + 32 * cL xs ≤ 68719476736 →
 To (callF (cxZ m) (blk (cxZ m)) 20 [.v (.arr 1 id 0 bs.length), .v (.imm (encIs xs))] h) (bs ++ lstB opI xs)
theorem one_of {o a b v t : Int} {l : List Int} {bd el : List Ins} {q : Bool} (hb : LstR m bd) (he : LstR m el) : OneR m (.mk o a b v t l bd el q) := by
 intro hm hv h av bs hB hl
 unfold mayI at hm
 cases hop : opI o with
 | none => rw [hop] at hm; cases hm
 | some r =>
 rw [hop] at hm
 simp only at hm
 have hlk := op_some hop
 obtain ⟨o0, o1⟩ := opLaw.rng hop
 have f2 := opLaw.k2 hop
 have f3 := opLaw.k3 hop
 have f4 := opLaw.k4 hop
 have f10 := opLaw.k10 hop
 have g10 := opLaw.g10 hop
 rw [cI] at hl
 unfold v64I at hv
 simp only [Bool.and_eq_true, decide_eq_true_eq] at hv
 obtain ⟨⟨hvv, vb⟩, ve⟩ := hv
 have hw : IntKind.wrap .u8 o = ((o.toNat : Nat) : Int) := wrap8i (by omega) (by omega)
 have hk0 : (lookV o, h) = (LV.tup [opA o r.nm r.kind (encN r.takes) r.gives r.bytes r.sg, .nilI], h) := by rw [hlk]
 have key : ∀ {bs : List Nat} {id : Nat} {h : Heap}, SlN h id bs → bs.length + 32 * (1 + l.length + cL bd + cL el) ≤ 68719476737 → ∀ rest, insB opI (.mk o a b v t l bd el q) = o.toNat :: rest →
   To (blk (cxZ m) 34 (at_ Tryz.prog 34 5) [.v (.arr 1 id 0 bs.length), .lp 0 0, .lp 1 0, .v (.int .i64 o), .v (.int .i64 a), .v (.int .i64 b), .v (.int .u64 v), .v (.int .i64 t), .v (.imm (encN l)), .v (.imm (encIs bd)), .v (.imm (encIs el)), .v (.bool q), .v (.int .i64 o), .v (.str r.nm), .v (.int .i64 r.kind), .v (.imm (encN r.takes)), .v (.int .i64 r.gives), .v (.int .i64 r.bytes), .v (.bool r.sg)] h) (bs ++ rest) := by
  clear hB hl bs av
  intro bs id h H hl rest hrest
  rw [insB, hop] at hrest
  simp only [List.cons.injEq, true_and] at hrest
  subst hrest
  by_cases h2 : r.kind = 2
  ·rw [if_pos h2] at hm ⊢
   simp only [Bool.and_eq_true, decide_eq_true_eq] at hm
   obtain ⟨⟨⟨⟨⟨⟨t0, t2⟩, mb⟩, me⟩, _⟩, _⟩, _⟩ := hm
   have lb := lstB_len opI bd
   have le := lstB_len opI el
   have e2 := eqZ_t (a := r.kind) (b := Int.ofNat 2) h2
   have k1 := blockT_H (m := m) (h := h) t0 t2
   obtain ⟨i1, g1, k2, H1⟩ := ap_H1 H (y := resB t) rfl (by omega)
   obtain ⟨i2, g2, k3, H2⟩ := hb mb vb H1 (by rw [List.length_append, List.length_singleton]; omega)
   cases q with
   | false =>
    obtain ⟨i3, g3, k5, H3⟩ := ap_H1 H2 (x := Int.ofNat 11) (y := 11) rfl (by simp only [List.length_append, List.length_singleton]; omega)
    have e : bs ++ [resB t] ++ lstB opI bd ++ [11] = bs ++ (resB t :: (lstB opI bd ++ ((if false = true then 5 :: lstB opI el else []) ++ [11]))) := by simp
    rw [← e]
    exact ⟨i3, g3, p34_5_1 (k0 := e2) (k1 := k1) (k2 := k2) (k3 := k3) (k4 := rfl) (k5 := k5), H3⟩
   | true =>
    obtain ⟨i3, g3, k5, H3⟩ := ap_H1 H2 (x := Int.ofNat 5) (y := 5) rfl (by simp only [List.length_append, List.length_singleton]; omega)
    obtain ⟨i4, g4, k6, H4⟩ := he me ve H3 (by simp only [List.length_append, List.length_singleton]; omega)
    obtain ⟨i5, g5, k7, H5⟩ := ap_H1 H4 (x := Int.ofNat 11) (y := 11) rfl (by simp only [List.length_append, List.length_singleton]; omega)
    have e : bs ++ [resB t] ++ lstB opI bd ++ [5] ++ lstB opI el ++ [11] = bs ++ (resB t :: (lstB opI bd ++ ((if true = true then 5 :: lstB opI el else []) ++ [11]))) := by simp
    rw [← e]
    exact ⟨i5, g5, p34_5_0 (k0 := e2) (k1 := k1) (k2 := k2) (k3 := k3) (k4 := rfl) (k5 := k5) (k6 := k6) (k7 := k7), H5⟩
  ·rw [if_neg h2] at hm ⊢
   rw [Bool.and_eq_true] at hm
   have hm := hm.1
   have n2 := eqZ_f (a := r.kind) (b := Int.ofNat 2) h2
   unfold mayP at hm
   unfold plainB
   by_cases h78 : r.kind = 7 ∨ r.kind = 8
   ·rw [if_neg (by omega), if_pos h78] at hm
    rw [if_pos h78]
    simp only [Bool.and_eq_true] at hm
    obtain ⟨i1, g1, k, H1⟩ := put2_H (m := m) hm.1.1 hm.1.2 (by omega) H
    by_cases h7 : r.kind = 7
    ·exact ⟨i1, g1, p34_5_2 (k0 := n2) (k1 := eqZ_t (b := Int.ofNat 7) h7) (k2 := k), H1⟩
    ·exact ⟨i1, g1, p34_5_3 (k0 := n2) (k1 := eqZ_f (b := Int.ofNat 7) h7) (k2 := eqZ_t (b := Int.ofNat 8) (show r.kind = 8 from by omega)) (k3 := k), H1⟩
   rw [if_neg h78]
   rw [if_neg h78] at hm
   have n7 := eqZ_f (a := r.kind) (b := Int.ofNat 7) (fun hh => h78 (.inl hh))
   have n8 := eqZ_f (a := r.kind) (b := Int.ofNat 8) (fun hh => h78 (.inr hh))
   by_cases h9 : r.kind = 9
   ·rw [if_pos h9]
    obtain ⟨i1, g1, k, H1⟩ := ap_H1 H (x := Int.ofNat 0) (y := 0) rfl (by omega)
    exact ⟨i1, g1, p34_5_4 (k0 := n2) (k1 := n7) (k2 := n8) (k3 := eqZ_t (b := Int.ofNat 9) h9) (k4 := k), H1⟩
   rw [if_neg h9]
   have n9 := eqZ_f (a := r.kind) (b := Int.ofNat 9) h9
   by_cases h65 : o = 65
   ·have hk : r.kind = 10 := f10.2 (.inl h65)
    rw [if_pos hk] at hm
    rw [if_pos h65]
    simp only [Bool.and_eq_true, decide_eq_true_eq, Bool.not_eq_true', Bool.and_eq_false_imp, decide_eq_false_iff_not] at hm
    have hg := (g10 hk).2 h65
    have hv32 : v ≤ 4294967295 := by have := hm.1 hg; omega
    have ls := sB_len 10 (sg32 v)
    have k6 := putS_H (m := m) (h := h) (sg32_rng hvv.1 hv32)
    rw [← sg32_wrap hvv.1 hv32] at k6
    rw [← sg32_wrap hvv.1 hv32] at ls ⊢
    obtain ⟨i1, g1, k7, H1⟩ := ap_H H (sB 10 (IntKind.wrap .i64 (IntKind.wrap .i32 (IntKind.wrap .u32 v)))) (by omega)
    exact ⟨i1, g1, p34_5_5 (k0 := n2) (k1 := n7) (k2 := n8) (k3 := n9) (k4 := eqZ_t (b := Int.ofNat 10) hk) (k5 := eqZ_t (b := Int.ofNat 1) hg) (k6 := k6) (k7 := k7), H1⟩
   rw [if_neg h65]
   by_cases h66 : o = 66
   ·have hk : r.kind = 10 := f10.2 (.inr h66)
    rw [if_pos h66]
    have hg : r.gives ≠ 1 := fun hh => h65 ((g10 hk).1 hh)
    have ls := sB_len 10 (sg64 v)
    have k6 := putS_H (m := m) (h := h) (sg64_rng hvv.1 hvv.2)
    rw [← sg64_wrap hvv.1 hvv.2] at k6
    rw [← sg64_wrap hvv.1 hvv.2] at ls ⊢
    obtain ⟨i1, g1, k7, H1⟩ := ap_H H (sB 10 (IntKind.wrap .i64 v)) (by omega)
    exact ⟨i1, g1, p34_5_6 (k0 := n2) (k1 := n7) (k2 := n8) (k3 := n9) (k4 := eqZ_t (b := Int.ofNat 10) hk) (k5 := eqZ_f (b := Int.ofNat 1) hg) (k6 := k6) (k7 := k7), H1⟩
   rw [if_neg h66]
   have hk10 : r.kind ≠ 10 := fun hh => by rcases f10.1 hh with e | e <;> omega
   have n10 := eqZ_f (a := r.kind) (b := Int.ofNat 10) hk10
   rw [if_neg hk10] at hm
   by_cases h14 : o = 14
   ·rw [if_pos h14] at hm ⊢
    simp only [Bool.and_eq_true, Bool.not_eq_true'] at hm
    obtain ⟨⟨hne, hall⟩, _⟩ := hm
    have hpos : 0 < l.length := by
     cases l with
     | nil => cases hne
     | cons x l => simp
    have hz : numZ ((l.length : Int) - 1) = true := by unfold numZ; rw [Bool.and_eq_true, decide_eq_true_eq, decide_eq_true_eq]; omega
    obtain ⟨i1, g1, k6, H1⟩ := put1_H (m := m) hz (by omega) H
    obtain ⟨i2, g2, k7, H2⟩ := put_H (m := m) hall (by omega) (by have := uB_len 10 ((l.length : Int) - 1).toNat; unfold uL; rw [List.length_append]; omega) H1
    rw [List.append_assoc] at k7 H2
    have w1 : IntKind.wrap .i64 (Int.ofNat (encN l).length - Int.ofNat 1) = (l.length : Int) - 1 := by rw [encN_len, ofN, ofN, wrapI (by unfold InZ; omega)]; rfl
    exact ⟨i2, g2, p34_5_15 (k0 := n2) (k1 := n7) (k2 := n8) (k3 := n9) (k4 := n10) (k5 := eqZ_t (b := Int.ofNat 14) h14) (k6 := by rw [w1]; exact k6) (k7 := k7), H2⟩
   rw [if_neg h14]
   rw [if_neg h14] at hm
   have n14 := eqZ_f (a := o) (b := Int.ofNat 14) h14
   by_cases h17 : o = 17
   ·have hk : r.kind = 4 := f4.2 (by omega)
    rw [if_pos (.inl hk)] at hm
    rw [if_pos h17]
    simp only [Bool.and_eq_true] at hm
    obtain ⟨i1, g1, k7, H1⟩ := put1_H (m := m) hm.1 (by omega) H
    obtain ⟨i2, g2, k8, H2⟩ := ap_H1 H1 (x := Int.ofNat 0) (y := 0) rfl (by have := uB_len 10 a.toNat; unfold uL; rw [List.length_append]; omega)
    rw [List.append_assoc] at k8 H2
    exact ⟨i2, g2, p34_5_16 (k0 := n2) (k1 := n7) (k2 := n8) (k3 := n9) (k4 := n10) (k5 := n14) (k6 := eqZ_t (b := Int.ofNat 17) h17) (k7 := k7) (k8 := k8), H2⟩
   rw [if_neg h17]
   have n17 := eqZ_f (a := o) (b := Int.ofNat 17) h17
   by_cases hc : r.kind = 4 ∨ r.kind = 6 ∨ o = 12 ∨ o = 13
   ·rw [if_pos (by omega)] at hm
    rw [if_pos hc]
    simp only [Bool.and_eq_true] at hm
    obtain ⟨i1, g1, k, H1⟩ := put1_H (m := m) hm.1 (by omega) H
    by_cases c4 : r.kind = 4
    ·exact ⟨i1, g1, p34_5_17 (k0 := n2) (k1 := n7) (k2 := n8) (k3 := n9) (k4 := n10) (k5 := n14) (k6 := n17) (k7 := eqZ_t (b := Int.ofNat 4) c4) (k8 := k), H1⟩
    have n4 := eqZ_f (a := r.kind) (b := Int.ofNat 4) c4
    by_cases c6 : r.kind = 6
    ·exact ⟨i1, g1, p34_5_18 (k0 := n2) (k1 := n7) (k2 := n8) (k3 := n9) (k4 := n10) (k5 := n14) (k6 := n17) (k7 := n4) (k8 := eqZ_t (b := Int.ofNat 6) c6) (k9 := k), H1⟩
    have n6 := eqZ_f (a := r.kind) (b := Int.ofNat 6) c6
    by_cases c12 : o = 12
    ·exact ⟨i1, g1, p34_5_19 (k0 := n2) (k1 := n7) (k2 := n8) (k3 := n9) (k4 := n10) (k5 := n14) (k6 := n17) (k7 := n4) (k8 := n6) (k9 := eqZ_t (b := Int.ofNat 12) c12) (k10 := k), H1⟩
    ·exact ⟨i1, g1, p34_5_20 (k0 := n2) (k1 := n7) (k2 := n8) (k3 := n9) (k4 := n10) (k5 := n14) (k6 := n17) (k7 := n4) (k8 := n6) (k9 := eqZ_f (b := Int.ofNat 12) c12) (k10 := eqZ_t (b := Int.ofNat 13) (show o = 13 from by omega)) (k11 := k), H1⟩
   ·rw [if_neg hc, List.append_nil]
    exact ⟨id, h, p34_5_21 (k0 := n2) (k1 := n7) (k2 := n8) (k3 := n9) (k4 := n10) (k5 := n14) (k6 := n17) (k7 := eqZ_f (b := Int.ofNat 4) (fun hh => hc (.inl hh))) (k8 := eqZ_f (b := Int.ofNat 6) (fun hh => hc (.inr (.inl hh)))) (k9 := eqZ_f (b := Int.ofNat 12) (fun hh => hc (.inr (.inr (.inl hh))))) (k10 := eqZ_f (b := Int.ofNat 13) (fun hh => hc (.inr (.inr (.inr hh))))), H⟩
 obtain ⟨rest, hrest⟩ : ∃ rest, insB opI (.mk o a b v t l bd el q) = o.toNat :: rest := by rw [insB, hop]; exact ⟨_, rfl⟩
 rw [hrest]
 rcases hB with ⟨id, rfl, H⟩ | ⟨rfl, rfl⟩
 ·obtain ⟨i1, g1, k3, H1⟩ := ap_H1 H (x := IntKind.wrap .u8 o) (y := o.toNat) hw (by omega)
  obtain ⟨i2, g2, k4, H2⟩ := key H1 (by rw [List.length_append, List.length_singleton]; omega) rest hrest
  rw [show bs ++ o.toNat :: rest = bs ++ [o.toNat] ++ rest by simp]
  exact ⟨i2, g2, callF_of rfl rfl (by kernel_rfl) (p34_1 (k0 := hk0) (k1 := err_neq none) (k2 := rfl) (k3 := k3) (k4 := k4)), H2⟩
 ·obtain ⟨i2, g2, k4, H2⟩ := key (bs := [o.toNat]) (id := h.bx.length) (h := ⟨h.bx ++ [[.v (.int .u8 (IntKind.wrap .u8 o))]], h.mp⟩) ⟨by
   show (h.bx ++ _)[h.bx.length]? = _
   rw [List.getElem?_append_right (Nat.le_refl _), Nat.sub_self, hw]; rfl, Nat.one_pos⟩ (by simp only [List.length_nil] at hl; rw [List.length_singleton]; omega) rest hrest
  rw [List.nil_append, show o.toNat :: rest = [o.toNat] ++ rest by simp]
  exact ⟨i2, g2, callF_of rfl rfl (by kernel_rfl) (p34n_1 (k0 := hk0) (k1 := err_neq none) (k2 := rfl) (k3 := k4)), H2⟩
def ToB (r : Option (LV × Heap)) (a : AV) (h : Heap) (xs : List Ins) (bs : List Nat) : Prop := (xs = [] ∧ r = some (.v a, h)) ∨ (xs ≠ [] ∧ To r (bs ++ lstB opI xs))
theorem list_loop {xs : List Ins} (hx : ∀ x, x ∈ xs → OneR m x) (hm : mayL opI xs = true) (hv : v64L xs = true) (hl : xs.length < 2 ^ 62) : ∀ (suf pre : List Ins) {h : Heap} {a : AV} {bs : List Nat}, pre ++ suf = xs → Buf h a bs → bs.length + 32 * cL suf ≤ 68719476736 →
  ToB (blk (cxZ m) 20 (at_ Tryz.prog 20 2) [.v a, .v (.imm (encIs xs)), .v (.int .i64 (Int.ofNat (encIs xs).length)), .v (.int .i64 (Int.ofNat pre.length))] h) a h suf bs
 | [], pre, h, a, bs, hp, hB, _ => by
  rw [List.append_nil] at hp
  subst hp
  have k0 : ltZ (Int.ofNat pre.length) (Int.ofNat (encIs pre).length) = false := ltZ_f (by rw [encIs_len]; exact Int.le_refl _)
  rcases hB with ⟨id, rfl, H⟩ | ⟨rfl, rfl⟩
  ·exact .inl ⟨rfl, p20_2_1 (k0 := k0)⟩
  ·exact .inl ⟨rfl, p20_2n_1 (k0 := k0)⟩
 | x :: suf, pre, h, a, bs, hp, hB, hb => by
  have hlt : pre.length < xs.length := by rw [← hp]; simp
  have hg : xs[pre.length]? = some x := by rw [← hp, List.getElem?_append_right (Nat.le_refl _), Nat.sub_self]; rfl
  have hmem := List.mem_of_getElem? hg
  have mx : mayI opI x = true := by rw [mayL_mem] at hm; exact List.all_eq_true.1 hm x hmem
  have vx : v64I x = true := v64_mem hv hmem
  have k0 : ltZ (Int.ofNat pre.length) (Int.ofNat (encIs xs).length) = true := ltZ_t (by rw [encIs_len, ofN, ofN]; omega)
  have k1 : ixA (.imm (encIs xs)) (Int.ofNat pre.length) 9 = some (encI x) := by rw [encIs_map]; exact ix_map (f := encI) hg (encI_len x)
  rw [cL] at hb
  have hlen := insB_len opI x
  obtain ⟨i1, h1, k2, H1⟩ := hx x hmem mx vx hB (by omega)
  have ih := list_loop hx hm hv hl suf (pre ++ [x]) (bs := bs ++ insB opI x) (by rw [List.append_assoc]; exact hp) (.inl ⟨i1, rfl, H1⟩) (by rw [List.length_append]; omega)
  rw [show (pre ++ [x]).length = pre.length + 1 by simp] at ih
  have w := wrapS (n := pre.length) (by omega)
  have go : ∀ {r}, blk (cxZ m) 20 (at_ Tryz.prog 20 2) [.v (.arr 1 i1 0 (bs ++ insB opI x).length), .v (.imm (encIs xs)), .v (.int .i64 (Int.ofNat (encIs xs).length)), .v (.int .i64 (Int.ofNat (pre.length + 1)))] h1 = some r →
    blk (cxZ m) 20 (at_ Tryz.prog 20 2) [.v a, .v (.imm (encIs xs)), .v (.int .i64 (Int.ofNat (encIs xs).length)), .v (.int .i64 (Int.ofNat pre.length))] h = some r := fun {r} hr => by
   obtain ⟨o, a', b, v, t, l, bd, el, q⟩ := x
   rcases hB with ⟨id, rfl, H⟩ | ⟨rfl, rfl⟩
   ·exact p20_2_0 (k0 := k0) (k1 := k1) (k2 := k2) (k3 := by rw [w]; exact hr)
   ·exact p20_2n_0 (k0 := k0) (k1 := k1) (k2 := k2) (k3 := by rw [w]; exact hr)
  refine .inr ⟨by simp, ?_⟩
  rw [lstB, ← List.append_assoc]
  rcases ih with ⟨rfl, e⟩ | ⟨_, i2, h2, e, H2⟩
  ·rw [lstB, List.append_nil]
   exact ⟨i1, h1, go e, H1⟩
  ·exact ⟨i2, h2, go e, H2⟩
theorem list_of1 {xs : List Ins} (hx : ∀ x, x ∈ xs → OneR m x) (hl : xs.length < 2 ^ 62) : LstR m xs := by
 intro hm hv h id bs H hb
 rcases list_loop hx hm hv hl xs [] rfl (.inl ⟨id, rfl, H⟩) hb with ⟨rfl, e⟩ | ⟨_, i2, h2, e, H2⟩
 ·rw [lstB, List.append_nil]
  exact ⟨id, h, callF_of rfl rfl (by kernel_rfl) (p20_0 (k0 := e)), H⟩
 ·exact ⟨i2, h2, callF_of rfl rfl (by kernel_rfl) (p20_0 (k0 := e)), H2⟩
mutual
theorem one_R : ∀ x : Ins, cI x < 2 ^ 62 → OneR m x
 | .mk _ _ _ _ _ l bd el _ => fun h => by
  rw [cI] at h
  have h1 := cL_len bd
  have h2 := cL_len el
  exact one_of (list_of1 (one_Rs bd (by omega)) (by omega)) (list_of1 (one_Rs el (by omega)) (by omega))
theorem one_Rs : ∀ xs : List Ins, cL xs < 2 ^ 62 → ∀ x, x ∈ xs → OneR m x
 | [] => fun _ x hx => by cases hx
 | y :: ys => fun h x hx => by
  rw [cL] at h
  have h1 := one_R y (by omega)
  have h2 := one_Rs ys (by omega)
  rcases List.mem_cons.1 hx with e | hx
  ·rw [e]; exact h1
  ·exact h2 x hx
end
theorem p9_2 {xs : List (List AV)} {b0 : Bool} {h h0 h1 : Heap} (k0 : cA m 19 [vM xs] h = some (vB b0, h1)) (k1 : (!b0) = false) (k2 : cA m 20 [LV.v AV.nilS, vM xs] h1 = some (LV.v .nilS, h0)) :
  bB m 9 [vM xs] h = some ((LV.tup [.arr 1 h0.bx.length 0 1, AV.nilI], ⟨h0.bx ++ [[.v (.int .u8 (.ofNat 11))]], h0.mp⟩)) :=
 bY (qS [] [1099994] [] [(1, 1, vB b0, h1), (3, 1, LV.v AV.nilS, h0)]) (tA k0 (tZ k1 (tA k2 (tR ((LV.tup [.arr 1 h0.bx.length 0 1, AV.nilI], ⟨h0.bx ++ [[.v (.int .u8 (.ofNat 11))]], h0.mp⟩)))))) (by kernel_rfl)
theorem put9 {xs : List Ins} (hv : v64L xs = true) (hc : 32 * cL xs + 1 ≤ 68719476736) (h : Heap) :
  (mayL opI xs = false ∧ blk (cxZ m) 9 (body_ Tryz.prog 9) [.v (.imm (encIs xs))] h = some (.tup [.imm [], .ifc 32 (.int .i64 (Int.ofNat 1))], h)) ∨
  (mayL opI xs = true ∧ ∃ id h', blk (cxZ m) 9 (body_ Tryz.prog 9) [.v (.imm (encIs xs))] h = some (.tup [.arr 1 id 0 (lstB opI xs ++ [11]).length, .nilI], h') ∧ SlN h' id (lstB opI xs ++ [11])) := by
 have hM := mayL_H (m := m) (xs := xs) (by omega) h
 have hlen := cL_len xs
 have hll := lstB_len opI xs
 cases hm : mayL opI xs with
 | false =>
  rw [hm] at hM
  exact .inl ⟨rfl, p9_0 (k0 := hM) (k1 := rfl)⟩
 | true =>
  rw [hm] at hM
  refine .inr ⟨rfl, ?_⟩
  rcases list_loop (m := m) (one_Rs xs (by omega)) hm hv (by omega) xs [] (h := h) (a := .nilS) (bs := []) rfl (.inr ⟨rfl, rfl⟩) (by simp only [List.length_nil]; omega) with ⟨rfl, e⟩ | ⟨_, i2, h2, e, H2⟩
  ·have h20 := callF_of (cx := cxZ m) rfl rfl (by kernel_rfl) (p20n_0 (k0 := e))
   refine ⟨_, _, p9_2 (k0 := hM) (k1 := rfl) (k2 := h20), ?_, Nat.one_pos⟩
   show (h.bx ++ _)[h.bx.length]? = _
   rw [List.getElem?_append_right (Nat.le_refl _), Nat.sub_self]; rfl
  ·have h20 := callF_of (cx := cxZ m) rfl rfl (by kernel_rfl) (p20n_0 (k0 := e))
   rw [List.nil_append] at h20 H2
   obtain ⟨i3, h3, k3, H3⟩ := ap_H1 H2 (x := Int.ofNat 11) (y := 11) rfl (by omega)
   exact ⟨i3, h3, p9_1 (k0 := hM) (k1 := rfl) (k2 := h20) (k3 := k3), H3⟩
end
end Go.Proofs.YthcjapmfchidhaaGreatDoor.H
