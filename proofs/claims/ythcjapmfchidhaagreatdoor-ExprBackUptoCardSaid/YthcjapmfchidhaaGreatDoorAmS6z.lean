/-
  The document's numbers, put: the fewest digits that are read as the number.
-/
import Derived.Test.YthcjapmfchidhaaGreatDoorAmS6s
import Derived.Test.YthcjapmfchidhaaGreatDoorAmS6gc
namespace Go.Proofs.YthcjapmfchidhaaGreatDoor
set_option maxRecDepth 100000
open Go Go.Proofs.Am
def nat2 (l : List Nat) : List Int := l.map fun (x : Nat) => (x : Int)
theorem nat2_app (a b : List Nat) : nat2 (a ++ b) = nat2 a ++ nat2 b := by simp [nat2]
theorem nat2_len (l : List Nat) : (nat2 l).length = l.length := by simp [nat2]
theorem nat2_get {l : List Nat} {i : Nat} {x : Nat} (h : l[i]? = some x) : (nat2 l)[i]? = some (x : Int) := by simp [nat2, h]
theorem encNt_len (l : List Nat) : (encN (nat2 l)).length = l.length := by rw [encN_len, nat2_len]
theorem ix_nat {l : List Nat} {i : Nat} {z : Int} {x : Nat} (hz : z = (i : Int)) (h : l[i]? = some x) : ixA (.imm (encN (nat2 l))) z 1 = some [.int .i64 (x : Int)] := by
 subst hz
 exact ix_map (f := fun x : Int => [AV.int .i64 x]) (nat2_get h) rfl
theorem ap_nat {out : List Nat} {z : Int} {y : Nat} (hz : z = (y : Int)) (h : out.length + 1 ≤ 1000000) : apL (.ow 1 (encN (nat2 out))) 1 8 [[.int .i64 z]] = some (.ow 1 (encN (nat2 (out ++ [y])))) := by
 subst hz
 rw [ap_int (by rw [nat2_len]; omega), nat2_app]
 rfl
section
variable {m : Int} {h : Heap}
def noDig : LV := .tup [.imm [], .int .i64 (Int.ofNat 0), .bool false]
def digV (bs : List Nat) (k p : Nat) : LV := match digN bs k p with | none => noDig | some r => .tup [.imm (encN (nat2 r.1)), .int .i64 (r.2 : Int), .bool true]
theorem digits_loop {bs : List Nat} (hb : ∀ x, x ∈ bs → x < 256) (hl : bs.length < 2 ^ 62) {k : Nat} (hk : k ≤ 1000) : ∀ (j p : Nat) (out : List Nat), out.length + j = k → p ≤ bs.length →
  blk (cxZ m) 81 (at_ Tryz.prog 81 2) [.v (.imm (encBy bs)), .v (.int .i64 (p : Int)), .v (.int .i64 (k : Int)), .ow 1 (encN (nat2 out))] h =
   some (match digN bs j p with | none => noDig | some r => .tup [.imm (encN (nat2 (out ++ r.1))), .int .i64 (r.2 : Int), .bool true], h)
 | 0, p, out, ho, hp => by
  rw [digN]
  exact p81_2_3 (k0 := ltZ_f (by rw [encNt_len, ofN]; omega))
 | j + 1, p, out, ho, hp => by
  have k0 : ltZ (Int.ofNat (encN (nat2 out)).length) (k : Int) = true := ltZ_t (by rw [encNt_len, ofN]; omega)
  rw [digN]
  cases hx : bs[p]? with
  | none =>
   have := List.getElem?_eq_none_iff.1 hx
   exact p81_2_2 (k0 := k0) (k1 := ltZ_f (by rw [encBy_len, ofN]; omega))
  | some x =>
   have hlt := (List.getElem?_eq_some_iff.1 hx).1
   have h256 := hb x (List.mem_of_getElem? hx)
   have k1 : ltZ (p : Int) (Int.ofNat (encBy bs).length) = true := ltZ_t (by rw [encBy_len, ofN]; omega)
   have k2 := ix_by (l := bs) (z := (p : Int)) rfl hx
   have w1 : IntKind.wrap .i64 ((p : Int) + Int.ofNat 1) = ((p + 1 : Nat) : Int) := by rw [ofN, wrapI (by unfold InZ; omega)]; omega
   have w2 : IntKind.wrap .i64 (((p + 1 : Nat) : Int) - Int.ofNat 1) = (p : Int) := by rw [ofN, wrapI (by unfold InZ; omega)]; omega
   have k4 := ix_by (l := bs) (z := IntKind.wrap .i64 (IntKind.wrap .i64 ((p : Int) + Int.ofNat 1) - Int.ofNat 1)) (by rw [w1, w2]) hx
   have wx : IntKind.wrap .i64 (x : Int) = (x : Int) := wrapI (by unfold InZ; omega)
   have k3 := ap_nat (out := out) (z := Int.tmod (IntKind.wrap .i64 (x : Int)) (Int.ofNat 128)) (y := x % 128) (by rw [wx]; rfl) (by omega)
   simp only
   by_cases h1 : x < 128
   ·rw [if_pos h1]
    have := p81_2_0 (m := m) (h := h) (k0 := k0) (k1 := k1) (k2 := k2) (k3 := k3) (k4 := k4) (k5 := ltZ_t (b := Int.ofNat 128) (by rw [ofN]; omega))
    rw [w1, Nat.mod_eq_of_lt h1] at this
    exact this
   ·rw [if_neg h1]
    have ih := digits_loop hb hl hk j (p + 1) (out ++ [x % 128]) (by rw [List.length_append, List.length_singleton]; omega) (by omega)
    have := p81_2_1 (m := m) (h := h) (k0 := k0) (k1 := k1) (k2 := k2) (k3 := k3) (k4 := k4) (k5 := ltZ_f (b := Int.ofNat 128) (by rw [ofN]; omega)) (k6 := by rw [w1]; exact ih)
    refine this.trans ?_
    cases digN bs j (p + 1) with
    | none => rfl
    | some r =>
     simp only [Option.map_some]
     rw [List.append_assoc, List.singleton_append]
theorem digits_Z {bs : List Nat} (hb : ∀ x, x ∈ bs → x < 256) (hl : bs.length < 2 ^ 62) {k p : Nat} (hk : k ≤ 1000) (hp : p ≤ bs.length) : callF (cxZ m) (blk (cxZ m)) 81 [.v (.imm (encBy bs)), .v (.int .i64 (p : Int)), .v (.int .i64 (k : Int))] h = some (digV bs k p, h) :=
 callF_of rfl rfl (by kernel_rfl) (p81_0 (k0 := (digits_loop (m := m) (h := h) hb hl hk k p [] (by simp) hp).trans (by unfold digV; cases digN bs k p <;> rfl)))
def bitsN : Nat → Nat → List Nat
 | 0, _ => []
 | j + 1, x => x % 2 :: bitsN j (x / 2)
theorem bitsN7 (x : Nat) : bitsN 7 x = bits7 x := by
 simp only [bitsN, bits7, Nat.div_div_eq_div_mul]
theorem bits_le {x y : Nat} (h : y ∈ bits7 x) : y ≤ 1 := by
 unfold bits7 at h
 simp only [List.mem_cons, List.not_mem_nil, or_false] at h
 omega
theorem bitsF_le : ∀ {d : List Nat} {y : Nat}, y ∈ bitsF d → y ≤ 1
 | [], y, h => by simp [bitsF] at h
 | x :: d, y, h => by
  unfold bitsF at h
  rw [List.map_cons, List.flatten_cons] at h
  rcases List.mem_append.1 h with h | h
  ·exact bits_le h
  ·exact bitsF_le (d := d) h
theorem bitsF_len : ∀ d : List Nat, (bitsF d).length = 7 * d.length
 | [] => rfl
 | x :: d => by
  have := bitsF_len d
  unfold bitsF at this ⊢
  rw [List.map_cons, List.flatten_cons, List.length_append, List.length_cons, this, bits7_len]; omega
section
variable {b sg : Bool} {bb nx : Int} {ds : List Nat} {r : LV × Heap} {q : Bool}
theorem bits_in {i : Int} : ∀ (j x : Nat) (l : List Nat) (k : Nat), k + j = 7 → x < 2 ^ 62 → l.length + j ≤ 900000 →
  blk (cxZ m) 62 (at_ Tryz.prog 62 7) [.v (.int .i64 bb), .v (.bool q), .v (.imm (encN (nat2 ds))), .v (.int .i64 nx), .ow 1 (encN (nat2 (l ++ bitsN j x))), .v (.int .i64 (IntKind.wrap .i64 (i + Int.ofNat 1)))] h = some r →
  blk (cxZ m) 62 (at_ Tryz.prog 62 11) [.v (.int .i64 bb), .v (.bool q), .v (.imm (encN (nat2 ds))), .v (.int .i64 nx), .ow 1 (encN (nat2 l)), .v (.int .i64 i), .v (.int .i64 (x : Int)), .v (.int .i64 (k : Int))] h = some r
 | 0, x, l, k, hk, _, _, hr => by
  rw [bitsN, List.append_nil] at hr
  exact p62_11_1 (k0 := ltZ_f (b := Int.ofNat 7) (by rw [ofN]; omega)) (k1 := hr)
 | j + 1, x, l, k, hk, hx, hl, hr => by
  have k1 := ap_nat (out := l) (z := Int.tmod (x : Int) (Int.ofNat 2)) (y := x % 2) rfl (by omega)
  have w1 : IntKind.wrap .i64 (Int.tdiv (x : Int) (Int.ofNat 2)) = ((x / 2 : Nat) : Int) := by
   rw [show Int.tdiv (x : Int) (Int.ofNat 2) = ((x / 2 : Nat) : Int) from rfl, wrapI (by unfold InZ; omega)]
  have w2 : IntKind.wrap .i64 ((k : Int) + Int.ofNat 1) = ((k + 1 : Nat) : Int) := by rw [ofN, wrapI (by unfold InZ; omega)]; omega
  rw [bitsN] at hr
  have ih := bits_in (i := i) j (x / 2) (l ++ [x % 2]) (k + 1) (by omega) (by omega) (by rw [List.length_append, List.length_singleton]; omega) (by rw [List.append_assoc, List.singleton_append]; exact hr)
  exact p62_11_0 (k0 := ltZ_t (b := Int.ofNat 7) (by rw [ofN]; omega)) (k1 := k1) (k2 := by rw [w1, w2]; exact ih)
theorem bits_out (hd : ∀ x, x ∈ ds → x < 128) (hn : ds.length ≤ 100) : ∀ (suf pre l : List Nat), pre ++ suf = ds → l.length + 7 * suf.length ≤ 800000 →
  blk (cxZ m) 62 (at_ Tryz.prog 62 7) [.v (.int .i64 bb), .v (.bool q), .v (.imm (encN (nat2 ds))), .v (.int .i64 nx), .ow 1 (encN (nat2 (l ++ bitsF suf))), .v (.int .i64 (ds.length : Int))] h = some r →
  blk (cxZ m) 62 (at_ Tryz.prog 62 7) [.v (.int .i64 bb), .v (.bool q), .v (.imm (encN (nat2 ds))), .v (.int .i64 nx), .ow 1 (encN (nat2 l)), .v (.int .i64 (pre.length : Int))] h = some r
 | [], pre, l, hp, _, hr => by
  rw [List.append_nil] at hp
  subst hp
  have e : bitsF [] = [] := rfl
  rw [e, List.append_nil] at hr
  exact hr
 | x :: suf, pre, l, hp, hl, hr => by
  have hlt : pre.length < ds.length := by rw [← hp]; simp
  have hg : ds[pre.length]? = some x := by rw [← hp, List.getElem?_append_right (Nat.le_refl _), Nat.sub_self]; rfl
  have hx := hd x (List.mem_of_getElem? hg)
  rw [List.length_cons] at hl
  have eF : bitsF (x :: suf) = bits7 x ++ bitsF suf := by unfold bitsF; rw [List.map_cons, List.flatten_cons]
  have ih := bits_out hd hn suf (pre ++ [x]) (l ++ bits7 x) (by rw [List.append_assoc]; exact hp) (by rw [List.length_append, bits7_len]; omega) (by rw [List.append_assoc, ← eF]; exact hr)
  rw [List.length_append, List.length_singleton] at ih
  refine p62_7_0 (k0 := ltZ_t (by rw [encNt_len, ofN]; omega)) (k1 := ix_nat rfl hg) (k2 := ?_)
  refine bits_in (i := (pre.length : Int)) 7 x l 0 rfl (by omega) (by omega) ?_
  rw [bitsN7, show IntKind.wrap .i64 ((pre.length : Int) + Int.ofNat 1) = ((pre.length + 1 : Nat) : Int) by rw [ofN, wrapI (by unfold InZ; omega)]; omega]
  exact ih
end
theorem horner {L : List Nat} {b nx : Int} {B mo : Nat} (hb : b = (B : Int)) (hB : B ≤ 64) (hL : L.length ≤ 1000) (h1 : ∀ y, y ∈ L → y ≤ 1) (hm : mo ≤ 1) : ∀ (j k : Nat), k + j = 64 → vDn (fun i => if i < L.length ∧ i < B then L.getD i 0 else mo) k < 2 ^ k →
  blk (cxZ m) 62 (at_ Tryz.prog 62 27) [.v (.int .i64 b), .v (.int .i64 nx), .ow 1 (encN (nat2 L)), .v (.int .i64 (mo : Int)), .v (.int .u64 ((vDn (fun i => if i < L.length ∧ i < B then L.getD i 0 else mo) k : Nat) : Int)), .v (.int .i64 ((63 : Int) - k))] h =
   some (.tup [.int .u64 ((vDn (fun i => if i < L.length ∧ i < B then L.getD i 0 else mo) 64 : Nat) : Int), .int .i64 nx, .bool true], h)
 | 0, k, hk, _ => by
  obtain rfl : k = 64 := by omega
  exact p62_27_3 (k0 := leZ_f (a := Int.ofNat 0) (by rw [ofN]; omega))
 | j + 1, k, hk, hv => by
  have hp : (2 : Nat) ^ (k + 1) ≤ 2 ^ 64 := Nat.pow_le_pow_right (by decide) (by omega)
  have h64 : (2 : Nat) ^ 64 = 18446744073709551616 := by decide
  rw [Nat.pow_succ] at hp
  have xle : ∀ i, (if i < L.length ∧ i < B then L.getD i 0 else mo) ≤ 1 := fun i => by
   split
   ·rename_i hi
    rw [List.getD_eq_getElem?_getD, List.getElem?_eq_getElem hi.1]
    exact h1 _ (List.getElem_mem _)
   ·exact hm
  have hx := xle (63 - k)
  have hs : vDn (fun i => if i < L.length ∧ i < B then L.getD i 0 else mo) (k + 1) = vDn (fun i => if i < L.length ∧ i < B then L.getD i 0 else mo) k * 2 + (if 63 - k < L.length ∧ 63 - k < B then L.getD (63 - k) 0 else mo) := rfl
  have hv' : vDn (fun i => if i < L.length ∧ i < B then L.getD i 0 else mo) (k + 1) < 2 ^ (k + 1) := by rw [hs, Nat.pow_succ]; omega
  have ih := horner (nx := nx) hb hB hL h1 hm j (k + 1) (by omega) hv'
  have wi : IntKind.wrap .i64 ((63 : Int) - k - Int.ofNat 1) = (63 : Int) - ((k + 1 : Nat) : Int) := by rw [ofN, wrapI (by unfold InZ; omega)]; omega
  have wv : ∀ y : Nat, y ≤ 1 → IntKind.wrap .u64 (IntKind.wrap .u64 (((vDn (fun i => if i < L.length ∧ i < B then L.getD i 0 else mo) k : Nat) : Int) * Int.ofNat 2) + IntKind.wrap .u64 (y : Int)) = ((vDn (fun i => if i < L.length ∧ i < B then L.getD i 0 else mo) k * 2 + y : Nat) : Int) := fun y hy => by
   rw [wrapU64, wrapU64, wrapU64, ofN]; omega
  have k0 : leZ (Int.ofNat 0) ((63 : Int) - k) = true := leZ_t (by rw [ofN]; omega)
  by_cases hi : 63 - k < L.length ∧ 63 - k < B
  ·have hg : L[63 - k]? = some (L.getD (63 - k) 0) := by rw [List.getD_eq_getElem?_getD, List.getElem?_eq_getElem hi.1]; rfl
   rw [if_pos hi] at hs hx
   exact p62_27_0 (k0 := k0) (k1 := ltZ_t (by rw [encNt_len, ofN]; omega)) (k2 := ltZ_t (by rw [hb]; omega)) (k3 := ix_nat (by omega) hg) (k4 := by rw [wi, wv _ hx, ← hs]; exact ih)
  ·rw [if_neg hi] at hs hx
   by_cases h2 : 63 - k < L.length
   ·exact p62_27_1 (k0 := k0) (k1 := ltZ_t (by rw [encNt_len, ofN]; omega)) (k2 := ltZ_f (by rw [hb]; omega)) (k3 := by rw [wi, wv _ hx, ← hs]; exact ih)
   ·exact p62_27_2 (k0 := k0) (k1 := ltZ_f (by rw [encNt_len, ofN]; omega)) (k2 := by rw [wi, wv _ hx, ← hs]; exact ih)
def noNum : LV := .tup [.int .u64 (Int.ofNat 0), .int .i64 (Int.ofNat 0), .bool false]
theorem check_loop {L : List Nat} {b nx : Int} {mo : Nat} {r : LV × Heap} (hL : L.length ≤ 1000) : ∀ (suf : List Nat) (i : Nat), L.drop i = suf → (suf.all (fun x => x == mo) = true → blk (cxZ m) 62 (at_ Tryz.prog 62 27) [.v (.int .i64 b), .v (.int .i64 nx), .ow 1 (encN (nat2 L)), .v (.int .i64 (mo : Int)), .v (.int .u64 (Int.ofNat 0)), .v (.int .i64 (Int.ofNat 63))] h = some r) →
  (suf.all (fun x => x == mo) = false → r = (noNum, h)) →
  blk (cxZ m) 62 (at_ Tryz.prog 62 21) [.v (.int .i64 b), .v (.int .i64 nx), .ow 1 (encN (nat2 L)), .v (.int .i64 (mo : Int)), .v (.int .i64 (i : Int))] h = some r
 | [], i, hs, h1, _ => by
  have hi : L.length ≤ i := List.drop_eq_nil_iff.1 hs
  exact p62_21_2 (k0 := ltZ_f (by rw [encNt_len, ofN]; omega)) (k1 := h1 rfl)
 | x :: suf, i, hs, h1, h2 => by
  have hi : i < L.length := by
   rcases Nat.lt_or_ge i L.length with hh | hh
   ·exact hh
   ·rw [List.drop_eq_nil_of_le hh] at hs; cases hs
  rw [List.drop_eq_getElem_cons hi] at hs
  injection hs with hx hs
  have hg : L[i]? = some x := by rw [List.getElem?_eq_getElem hi, hx]
  have k0 : ltZ (i : Int) (Int.ofNat (encN (nat2 L)).length) = true := ltZ_t (by rw [encNt_len, ofN]; omega)
  by_cases hm : x = mo
  ·subst hm
   have e : (List.all (x :: suf) fun y => y == x) = suf.all fun y => y == x := by simp
   rw [e] at h1 h2
   have ih := check_loop hL suf (i + 1) hs h1 h2
   exact p62_21_1 (k0 := k0) (k1 := ix_nat rfl hg) (k2 := congrArg not (eqZ_t rfl)) (k3 := by rw [show IntKind.wrap .i64 ((i : Int) + Int.ofNat 1) = ((i + 1 : Nat) : Int) by rw [ofN, wrapI (by unfold InZ; omega)]; omega]; exact ih)
  ·have e : (List.all (x :: suf) fun y => y == mo) = false := by simp [hm]
   rw [h2 e]
   exact p62_21_0 (k0 := k0) (k1 := ix_nat rfl hg) (k2 := congrArg not (eqZ_f (by omega)))
def readV (bs : List Nat) (B : Nat) (sg : Bool) (p : Nat) : LV :=
 match digN bs (if B = 64 then 10 else 5) p with
 | none => noNum
 | some r => match readF (bitsF r.1) B sg with
  | none => noNum
  | some v => .tup [.int .u64 (v : Int), .int .i64 (r.2 : Int), .bool true]
theorem more_le {L : List Nat} {B : Nat} {sg : Bool} (h1 : ∀ y, y ∈ L → y ≤ 1) : moreF L B sg ≤ 1 := by
 have g : ∀ i, L.getD i 0 ≤ 1 := fun i => by
  rw [List.getD_eq_getElem?_getD]
  cases hi : L[i]? with
  | none => exact Nat.zero_le _
  | some y => exact h1 y (List.mem_of_getElem? hi)
 unfold moreF
 split
 ·split
  ·exact g _
  ·exact g _
 ·exact Nat.zero_le _
theorem read_Z {bs : List Nat} (hb : ∀ x, x ∈ bs → x < 256) (hl : bs.length < 2 ^ 62) {B p : Nat} {sg : Bool} (hB : B = 32 ∨ B = 64) (hp : p ≤ bs.length) :
  callF (cxZ m) (blk (cxZ m)) 62 [.v (.imm (encBy bs)), .v (.int .i64 (p : Int)), .v (.int .i64 (B : Int)), .v (.bool sg)] h = some (readV bs B sg p, h) := by
 have hk : IntKind.wrap .i64 (Int.tdiv (IntKind.wrap .i64 ((B : Int) + Int.ofNat 6)) (Int.ofNat 7)) = (((if B = 64 then 10 else 5 : Nat)) : Int) := by
  rcases hB with rfl | rfl
  ·kernel_rfl
  ·kernel_rfl
 have hd := digits_Z (m := m) (h := h) hb hl (k := if B = 64 then 10 else 5) (p := p) (by split <;> decide) hp
 rw [← hk] at hd
 unfold digV at hd
 unfold readV
 cases hg : digN bs (if B = 64 then 10 else 5) p with
 | none =>
  rw [hg] at hd
  exact callF_of rfl rfl (by kernel_rfl) (p62_0 (k0 := hd) (k1 := rfl))
 | some r =>
  rw [hg] at hd
  obtain ⟨d, nx⟩ := r
  obtain ⟨d1, d2, _, _, d5⟩ := digN_ok _ _ hg
  simp only at hd ⊢
  have hd10 : d.length ≤ 10 := by
   split at d2 <;> omega
  have hL : (bitsF d).length ≤ 1000 := by rw [bitsF_len]; omega
  have h1 : ∀ y, y ∈ bitsF d → y ≤ 1 := fun y hy => bitsF_le hy
  have hm := more_le (B := B) (sg := sg) h1
  have fin : ∃ x, x = (match readF (bitsF d) B sg with | none => noNum | some v => .tup [.int .u64 (v : Int), .int .i64 (nx : Int), .bool true]) ∧
    blk (cxZ m) 62 (at_ Tryz.prog 62 21) [.v (.int .i64 (B : Int)), .v (.int .i64 (nx : Int)), .ow 1 (encN (nat2 (bitsF d))), .v (.int .i64 (moreF (bitsF d) B sg : Int)), .v (.int .i64 (B : Int))] h = some (x, h) := by
   refine ⟨_, rfl, check_loop hL _ B rfl (fun ha => ?_) (fun ha => ?_)⟩
   ·unfold readF
    rw [if_pos ha]
    exact horner (nx := (nx : Int)) (b := (B : Int)) rfl (by omega) hL h1 hm 64 0 rfl (by show 0 < 1; decide)
   ·unfold readF
    rw [if_neg (by rw [ha]; decide)]
  obtain ⟨x, hx, hf⟩ := fin
  rw [← hx]
  refine callF_of rfl rfl (by kernel_rfl) (p62_1 (k0 := hd) (k1 := rfl) (k2 := ?_))
  refine bits_out d5 (by omega) d [] [] rfl (by simp; omega) ?_
  rw [List.nil_append]
  have k0 : ltZ (d.length : Int) (Int.ofNat (encN (nat2 d)).length) = false := ltZ_f (by rw [encNt_len, ofN]; exact Int.le_refl _)
  have hlen : (bitsF d).length = 7 * d.length := bitsF_len d
  cases sg with
  | false => exact p62_7_3 (k0 := k0) (k1 := rfl) (k2 := hf)
  | true =>
   have g : ∀ i, i < (bitsF d).length → (bitsF d)[i]? = some ((bitsF d).getD i 0) := fun i hi => by rw [List.getD_eq_getElem?_getD, List.getElem?_eq_getElem hi]; rfl
   have kl := ix_nat (z := IntKind.wrap .i64 (Int.ofNat (encN (nat2 (bitsF d))).length - Int.ofNat 1)) (i := (bitsF d).length - 1) (by rw [encNt_len, ofN, ofN, wrapI (by unfold InZ; omega)]; omega) (g ((bitsF d).length - 1) (by omega))
   by_cases hbig : B < (bitsF d).length
   ·have kb := ix_nat (z := IntKind.wrap .i64 ((B : Int) - Int.ofNat 1)) (i := B - 1) (by rw [ofN, wrapI (by unfold InZ; omega)]; omega) (g (B - 1) (by omega))
    unfold moreF at hf
    rw [if_pos rfl, if_pos hbig] at hf
    exact p62_7_1 (k0 := k0) (k1 := rfl) (k2 := kl) (k3 := ltZ_t (by rw [encNt_len, ofN]; omega)) (k4 := kb) (k5 := hf)
   ·unfold moreF at hf
    rw [if_pos rfl, if_neg hbig] at hf
    exact p62_7_2 (k0 := k0) (k1 := rfl) (k2 := kl) (k3 := ltZ_f (by rw [encNt_len, ofN]; omega)) (k4 := hf)
end
end Go.Proofs.YthcjapmfchidhaaGreatDoor
namespace Go.Proofs.YthcjapmfchidhaaGreatDoor
set_option maxRecDepth 100000
open Go Go.Proofs.Am
section
variable {m : Int} {h : Heap} {v n : Nat} {sg : Bool} {r : LV × Heap}
theorem digs_in (hn : n ≤ 10) : ∀ (j i : Nat) (w : Int) (out : List Nat), i + j = n → (sg = true ∧ 9223372036854775808 ≤ v ↔ w < 0) → -9223372036854775808 ≤ w → w < 18446744073709551616 → out.length ≤ i →
  (∀ x : Int, blk (cxZ m) 39 (at_ Tryz.prog 39 7) [.v (.int .u64 (v : Int)), .v (.bool sg), .v (.int .i64 (n : Int)), .ow 1 (encBy (out ++ dgR j w)), .v (.int .u64 x), .v (.int .i64 (n : Int))] h = some r) →
  blk (cxZ m) 39 (at_ Tryz.prog 39 7) [.v (.int .u64 (v : Int)), .v (.bool sg), .v (.int .i64 (n : Int)), .ow 1 (encBy out), .v (.int .u64 (w % 18446744073709551616)), .v (.int .i64 (i : Int))] h = some r
 | 0, i, w, out, hi, _, _, _, _, hr => by
  obtain rfl : i = n := by omega
  rw [dgR, List.append_nil] at hr
  exact hr _
 | j + 1, i, w, out, hi, hs, hw1, hw2, ho, hr => by
  have k0 : ltZ (i : Int) (n : Int) = true := ltZ_t (by omega)
  have wn : IntKind.wrap .i64 ((n : Int) - Int.ofNat 1) = (n : Int) - 1 := by rw [ofN, wrapI (by unfold InZ; omega)]; rfl
  have wi : IntKind.wrap .i64 ((i : Int) + Int.ofNat 1) = ((i + 1 : Nat) : Int) := by rw [ofN, wrapI (by unfold InZ; omega)]; omega
  have x0 : 0 ≤ w % 18446744073709551616 := Int.emod_nonneg _ (by decide)
  have tm : Int.tmod (w % 18446744073709551616) (Int.ofNat 128) = w % 128 := by
   rw [Int.tmod_eq_emod_of_nonneg x0]
   show w % 18446744073709551616 % 128 = w % 128
   omega
  have td : Int.tdiv (w % 18446744073709551616) (Int.ofNat 128) = w % 18446744073709551616 / 128 := Int.tdiv_eq_ediv_of_nonneg x0
  have xp : IntKind.wrap .u64 (IntKind.wrap .u64 (Int.tdiv (w % 18446744073709551616) (Int.ofNat 128)) + Int.ofNat 18302628885633695744) = if w < 0 then (w / 128) % 18446744073709551616 else IntKind.wrap .u64 (IntKind.wrap .u64 (Int.tdiv (w % 18446744073709551616) (Int.ofNat 128)) + Int.ofNat 18302628885633695744) := by
   by_cases hn : w < 0
   ·rw [if_pos hn, td, wrapU64, wrapU64, ofN]
    show (w % 18446744073709551616 / 128 % 18446744073709551616 + 18302628885633695744) % 18446744073709551616 = _
    omega
   ·rw [if_neg hn]
  have xq : ¬ w < 0 → IntKind.wrap .u64 (Int.tdiv (w % 18446744073709551616) (Int.ofNat 128)) = (w / 128) % 18446744073709551616 := fun hn => by
   rw [td, wrapU64]; omega
  have hs' : sg = true ∧ 9223372036854775808 ≤ v ↔ w / 128 < 0 := by rw [hs]; omega
  have rest : ∀ (y : Nat), (∃ t, dgR (j + 1) w = y :: t ∧ t = dgR j (w / 128)) → ∀ x : Int, x = (w / 128) % 18446744073709551616 →
    blk (cxZ m) 39 (at_ Tryz.prog 39 7) [.v (.int .u64 (v : Int)), .v (.bool sg), .v (.int .i64 (n : Int)), .ow 1 (encBy (out ++ [y])), .v (.int .u64 x), .v (.int .i64 (IntKind.wrap .i64 ((i : Int) + Int.ofNat 1)))] h = some r := fun y ⟨t, h1, h2⟩ x hx => by
   rw [hx, wi]
   refine digs_in hn j (i + 1) (w / 128) (out ++ [y]) (by omega) hs' (by omega) (by omega) (by rw [List.length_append, List.length_singleton]; omega) (fun x => ?_)
   have := hr x
   rw [h1, h2] at this
   rw [List.append_assoc, List.singleton_append]
   exact this
  by_cases hj : j = 0
  ·
   subst hj
   have k3 : ltZ (i : Int) (IntKind.wrap .i64 ((n : Int) - Int.ofNat 1)) = false := ltZ_f (by rw [wn]; omega)
   have kd := ap_by1 (out := out) (x := IntKind.wrap .u8 (Int.tmod (w % 18446744073709551616) (Int.ofNat 128))) (y := (w % 128).toNat) (by rw [tm, wrap8]; omega) (by omega)
   have R := rest (w % 128).toNat ⟨[], rfl, rfl⟩
   cases sg with
   | false =>
    have hn0 : ¬ w < 0 := fun hh => absurd (hs.2 hh).1 (by decide)
    exact p39_7_5 (k0 := k0) (k1 := rfl) (k2 := k3) (k3 := kd) (k4 := R _ (xq hn0))
   | true =>
    by_cases hv : 9223372036854775808 ≤ v
    ·have hneg : w < 0 := hs.1 ⟨rfl, hv⟩
     rw [if_pos hneg] at xp
     exact p39_7_1 (k0 := k0) (k1 := rfl) (k2 := leZ_t (a := Int.ofNat 9223372036854775808) (by rw [ofN]; omega)) (k3 := k3) (k4 := kd) (k5 := R _ xp)
    ·have hn0 : ¬ w < 0 := fun hh => absurd (hs.2 hh).2 hv
     exact p39_7_3 (k0 := k0) (k1 := rfl) (k2 := leZ_f (a := Int.ofNat 9223372036854775808) (by rw [ofN]; omega)) (k3 := k3) (k4 := kd) (k5 := R _ (xq hn0))
  ·obtain ⟨j, rfl⟩ : ∃ k, j = k + 1 := ⟨j - 1, by omega⟩
   have k3 : ltZ (i : Int) (IntKind.wrap .i64 ((n : Int) - Int.ofNat 1)) = true := ltZ_t (by rw [wn]; omega)
   have kd := ap_by1 (out := out) (x := IntKind.wrap .u8 (IntKind.wrap .u64 (Int.tmod (w % 18446744073709551616) (Int.ofNat 128) + Int.ofNat 128))) (y := (w % 128).toNat + 128) (by rw [tm, wrap8, wrapU64, ofN]; omega) (by omega)
   have R := rest ((w % 128).toNat + 128) ⟨_, rfl, rfl⟩
   cases sg with
   | false =>
    have hn0 : ¬ w < 0 := fun hh => absurd (hs.2 hh).1 (by decide)
    exact p39_7_4 (k0 := k0) (k1 := rfl) (k2 := k3) (k3 := kd) (k4 := R _ (xq hn0))
   | true =>
    by_cases hv : 9223372036854775808 ≤ v
    ·have hneg : w < 0 := hs.1 ⟨rfl, hv⟩
     rw [if_pos hneg] at xp
     exact p39_7_0 (k0 := k0) (k1 := rfl) (k2 := leZ_t (a := Int.ofNat 9223372036854775808) (by rw [ofN]; omega)) (k3 := k3) (k4 := kd) (k5 := R _ xp)
    ·have hn0 : ¬ w < 0 := fun hh => absurd (hs.2 hh).2 hv
     exact p39_7_2 (k0 := k0) (k1 := rfl) (k2 := leZ_f (a := Int.ofNat 9223372036854775808) (by rw [ofN]; omega)) (k3 := k3) (k4 := kd) (k5 := R _ (xq hn0))
def asRead (w : Int) (sg : Bool) (n : Nat) : Option Nat := readF (bitsF (dgs n w)) 64 sg
theorem read_digs {w : Int} (h1 : 1 ≤ n) (hn : n ≤ 10) : readV (dgR n w) 64 sg 0 = match asRead w sg n with | none => noNum | some x => .tup [.int .u64 (x : Int), .int .i64 (n : Int), .bool true] := by
 have h := digN_dg (pre := []) (more := []) n 10 w h1 hn
 simp only [List.nil_append, List.append_nil, List.length_nil, Nat.zero_add] at h
 unfold readV asRead
 rw [if_pos rfl, h]
 all_goals rfl
theorem put_try {w : Int} {N : Nat} (hN : N ≤ 10) (hs : sg = true ∧ 9223372036854775808 ≤ v ↔ w < 0) (hw1 : -9223372036854775808 ≤ w) (hw2 : w < 18446744073709551616) (hv : (v : Int) = w % 18446744073709551616)
  (hr : asRead w sg N = some v) (hne : ∀ j, 1 ≤ j → j < N → asRead w sg j ≠ some v) : ∀ (k n : Nat), n + k = N → 1 ≤ n →
  blk (cxZ m) 39 (at_ Tryz.prog 39 2) [.v (.int .u64 (v : Int)), .v (.bool sg), .v (.int .i64 (n : Int))] h = some (.v (.imm (encBy (dgR N w))), h) := by
 intro k
 induction k with
 | zero =>
  intro n hn h1
  obtain rfl : n = N := by omega
  refine p39_2_0 (k0 := leZ_t (b := Int.ofNat 10) (by rw [ofN]; omega)) (k1 := ?_)
  have := digs_in (m := m) (h := h) (v := v) (sg := sg) (r := (.v (.imm (encBy (dgR n w))), h)) hN n 0 w [] (by omega) hs hw1 hw2 (Nat.le_refl _) (fun x => by
   have hR := read_Z (m := m) (h := h) (bs := dgR n w) (sg := sg) (B := 64) (p := 0) (dgR_lt n w) (by rw [dgR_len]; omega) (.inr rfl) (Nat.zero_le _)
   rw [read_digs h1 hN, hr] at hR
   rw [List.nil_append]
   exact p39_7_6 (k0 := ltZ_f (Int.le_refl _)) (k1 := hR) (k2 := rfl) (k3 := eqZ_t rfl))
  rw [← hv] at this
  exact this
 | succ k ih =>
  intro n hn h1
  refine p39_2_0 (k0 := leZ_t (b := Int.ofNat 10) (by rw [ofN]; omega)) (k1 := ?_)
  have ih := ih (n + 1) (by omega) (by omega)
  have wn : IntKind.wrap .i64 ((n : Int) + Int.ofNat 1) = ((n + 1 : Nat) : Int) := by rw [ofN, wrapI (by unfold InZ; omega)]; omega
  have := digs_in (m := m) (h := h) (n := n) (v := v) (sg := sg) (r := (.v (.imm (encBy (dgR N w))), h)) (by omega) n 0 w [] (by omega) hs hw1 hw2 (Nat.le_refl _) (fun x => by
   have hR := read_Z (m := m) (h := h) (bs := dgR n w) (sg := sg) (B := 64) (p := 0) (dgR_lt n w) (by rw [dgR_len]; omega) (.inr rfl) (Nat.zero_le _)
   rw [read_digs h1 (by omega)] at hR
   have hj := hne n h1 (by omega)
   rw [List.nil_append]
   cases ha : asRead w sg n with
   | none =>
    rw [ha] at hR
    exact p39_7_8 (k0 := ltZ_f (Int.le_refl _)) (k1 := hR) (k2 := rfl) (k3 := by rw [wn]; exact ih)
   | some y =>
    rw [ha] at hR hj
    exact p39_7_7 (k0 := ltZ_f (Int.le_refl _)) (k1 := hR) (k2 := rfl) (k3 := eqZ_f (by intro e; exact hj (congrArg some (Int.ofNat.inj e)))) (k4 := by rw [wn]; exact ih))
  rw [← hv] at this
  exact this
theorem asRead_eq {w : Int} (h1 : 1 ≤ n) (hn : n ≤ 10) : asRead w sg n = if sg then rdS (valD (dgs n w)) n 64 else rdU (valD (dgs n w)) 64 := by
 have hV := valD_lt (dgs_lt n w)
 rw [dgs_len, pow128] at hV
 unfold asRead
 rw [bitsF_eq (dgs_lt n w), dgs_len]
 cases sg with
 | false => rw [readU (.inr rfl) hV]; rfl
 | true => rw [readS (.inr ⟨rfl, hn⟩) h1 hV]; rfl
theorem refPutU (hv : v < 2 ^ 64) : callF (cxZ m) (blk (cxZ m)) 39 [.v (.int .u64 (v : Int)), .v (.bool false)] h = some (.v (.imm (encBy (uB 10 v))), h) := by
 have h64 : (2 : Nat) ^ 64 = 18446744073709551616 := by decide
 obtain ⟨n, h1, h2, h3⟩ := fewest64 hv
 rw [uB_dgR n 10 v h2 h3 (by omega)]
 refine callF_of rfl rfl (by kernel_rfl) (p39_0 (k0 := ?_))
 refine put_try (w := (v : Int)) (N := n + 1) (by omega) ⟨fun hh => absurd hh.1 (by decide), fun hh => by omega⟩ (by omega) (by omega) (by omega) ?_ (fun j j1 j2 hj => ?_) n 1 (by omega) (Nat.le_refl _)
 ·rw [asRead_eq (by omega) (by omega)]
  exact (rdU_put hv).2 h2
 ·rw [asRead_eq (by omega) (by omega)] at hj
  have hlt := (rdU_put hv).1 hj
  have h5 : 128 ^ n ≤ v := h3.resolve_left (by omega)
  have h6 : 128 ^ j ≤ 128 ^ n := Nat.pow_le_pow_right (by decide) (by omega)
  omega
theorem refPutS (hv : v < 2 ^ 64) : callF (cxZ m) (blk (cxZ m)) 39 [.v (.int .u64 (v : Int)), .v (.bool true)] h = some (.v (.imm (encBy (sB 10 (sg64 (v : Int))))), h) := by
 have h64 : (2 : Nat) ^ 64 = 18446744073709551616 := by decide
 have hw : -9223372036854775808 ≤ sg64 (v : Int) ∧ sg64 (v : Int) < 9223372036854775808 := by unfold sg64; split <;> omega
 have hm : (v : Int) = sg64 (v : Int) % 18446744073709551616 := by unfold sg64; split <;> omega
 have hs : true = true ∧ 9223372036854775808 ≤ v ↔ sg64 (v : Int) < 0 := by
  simp only [true_and]
  unfold sg64; split <;> omega
 obtain ⟨n, h1, h2, h3, h4⟩ := sB_is hw
 rw [h2]
 refine callF_of rfl rfl (by kernel_rfl) (p39_0 (k0 := ?_))
 have hmn : (sg64 (v : Int) % 18446744073709551616).toNat = v := by omega
 refine put_try (w := sg64 (v : Int)) (N := n + 1) (by omega) hs hw.1 (by omega) hm ?_ (fun j j1 j2 hj => ?_) n 1 (by omega) (Nat.le_refl _)
 ·rw [asRead_eq (by omega) (by omega), if_pos rfl, (rdS_put hw h1).2 h3, hmn]
 ·obtain ⟨j, rfl⟩ : ∃ k, j = k + 1 := ⟨j - 1, by omega⟩
  rw [asRead_eq (by omega) (by omega), if_pos rfl] at hj
  exact h4 j (by omega) ((rdS_put hw (by omega)).1 (by rw [hj, hmn]))
end
end Go.Proofs.YthcjapmfchidhaaGreatDoor
