/-
  The laws' own: counted, too long, the examples.
-/
import Derived.Test.YthcjapmfchidhaaGreatDoorAmS6s
import Derived.Test.YthcjapmfchidhaaGreatDoorAmS6twM
import Derived.Test.YthcjapmfchidhaaGreatDoorAmS6RwN
import Derived.Test.YthcjapmfchidhaaGreatDoorAmS6gc
import Derived.Test.YthcjapmfchidhaaGreatDoorAmS6z
import Derived.Test.YthcjapmfchidhaaGreatDoorAmS6wE
import Derived.Test.YthcjapmfchidhaaGreatDoorAmS6gf
import Derived.Test.YthcjapmfchidhaaGreatDoorAmExpD
namespace Go.Proofs.YthcjapmfchidhaaGreatDoor
set_option maxRecDepth 100000
open Go Go.Proofs.Am
section
variable {m : Int}
theorem ints_loop {l : List Int} (hl : l.length < 2 ^ 62) {h : Heap} : ∀ (k i : Nat), i + k = l.length → blk (cxZ m) 28 (at_ Tryz.prog 28 4) [.v (.imm (encN l)), .v (.imm (encN l)), .v (.int .i64 (Int.ofNat i))] h = some (.v (.bool true), h)
 | 0, i, hi => w12_4_2 (k0 := ltZ_f (by rw [ofN, ofN, encN_len]; omega))
 | k + 1, i, hi => by
  have h1 : l[i]? = some l[i] := List.getElem?_eq_getElem (by omega)
  have e1 : ixA (.imm (encN l)) (Int.ofNat i) 1 = some [.int .i64 l[i]] := ix_map (f := fun x => [AV.int .i64 x]) h1 rfl
  exact w12_4_1 (k0 := ltZ_t (by rw [ofN, ofN, encN_len]; omega)) (k1 := e1) (k2 := e1) (k3 := congrArg not (eqZ_t rfl)) (k4 := by rw [wrapS (by omega)]; exact ints_loop hl k (i + 1) (by omega))
theorem ints_Z {l : List Int} (hl : l.length < 2 ^ 62) (h : Heap) : callF (cxZ m) (blk (cxZ m)) 28 [.v (.imm (encN l)), .v (.imm (encN l))] h = some (.v (.bool true), h) :=
 callF_of rfl rfl (by kernel_rfl) (w12_1 (k0 := congrArg not (eqZ_t rfl)) (k1 := ints_loop hl l.length 0 (by omega)))
theorem ap_ints {l : List Int} (hl : l.length < 2 ^ 40) : apL (.ow 1 []) 1 8 (encN l) = some (.ow 1 (encN l)) := by
 have := ap_owned (n := 1) (b := 8) (out := []) (ys := encN l) (by cases l <;> rfl) (by rw [encN_len]; simp; omega) (by decide)
 simpa using this
def CountR (m : Int) (xs : List Ins) : Prop := ∀ h : Heap, ∃ n d, callF (cxZ m) (blk (cxZ m)) 8 [.v (.imm (encIs xs))] h = some (.tup [.int .i64 n, .int .i64 d], h)
def CntI (m : Int) : Ins → Prop
 | .mk _ _ _ _ _ _ bd el _ => CountR m bd ∧ CountR m el
theorem count_loop {xs : List Ins} (hx : ∀ x, x ∈ xs → CntI m x) (hl : xs.length < 2 ^ 62) {h : Heap} : ∀ (k i : Nat), i + k = xs.length → ∀ c d : Int, ∃ n e, blk (cxZ m) 8 (at_ Tryz.prog 8 4) [.v (.imm (encIs xs)), .v (.int .i64 c), .v (.int .i64 d), .v (.int .i64 (Int.ofNat i))] h = some (.tup [.int .i64 n, .int .i64 e], h)
 | 0, i, hi, c, d => ⟨c, d, w7_4_6 (k0 := ltZ_f (by rw [ofN, ofN, encIs_len]; omega))⟩
 | k + 1, i, hi, c, d => by
  have h1 : xs[i]? = some xs[i] := List.getElem?_eq_getElem (by omega)
  have e1 : ixA (.imm (encIs xs)) (Int.ofNat i) 9 = some (encI xs[i]) := by rw [encIs_map]; exact ix_map (f := encI) h1 (encI_len _)
  have hc := hx xs[i] (List.getElem_mem _)
  have k0 : ltZ (Int.ofNat i) (Int.ofNat (encIs xs).length) = true := ltZ_t (by rw [ofN, ofN, encIs_len]; omega)
  have ih := count_loop hx hl (h := h) k (i + 1) (by omega)
  generalize xs[i] = x at e1 hc
  obtain ⟨o, a, b, v, t, l, bd, el, q⟩ := x
  obtain ⟨n1, d1, c1⟩ := hc.1 h
  obtain ⟨n2, d2, c2⟩ := hc.2 h
  have hw := wrapS (n := i) (by omega)
  cases q1 : leZ (Int.ofNat 2) o with
  | false =>
   obtain ⟨n, e, hr⟩ := ih (IntKind.wrap .i64 (IntKind.wrap .i64 (IntKind.wrap .i64 (c + Int.ofNat 1) + n1) + n2)) d
   exact ⟨n, e, w7_4_5 (k0 := k0) (k1 := e1) (k2 := c1) (k3 := e1) (k4 := c2) (k5 := e1) (k6 := q1) (k7 := by rw [hw]; exact hr)⟩
  | true =>
   cases q2 : leZ o (Int.ofNat 4) with
   | false =>
    obtain ⟨n, e, hr⟩ := ih (IntKind.wrap .i64 (IntKind.wrap .i64 (IntKind.wrap .i64 (c + Int.ofNat 1) + n1) + n2)) d
    exact ⟨n, e, w7_4_4 (k0 := k0) (k1 := e1) (k2 := c1) (k3 := e1) (k4 := c2) (k5 := e1) (k6 := q1) (k7 := e1) (k8 := q2) (k9 := by rw [hw]; exact hr)⟩
   | true =>
    cases q3 : ltZ d (IntKind.wrap .i64 (d1 + Int.ofNat 1)) with
    | true =>
     cases q4 : ltZ (IntKind.wrap .i64 (d1 + Int.ofNat 1)) (IntKind.wrap .i64 (d2 + Int.ofNat 1)) with
     | true =>
      obtain ⟨n, e, hr⟩ := ih (IntKind.wrap .i64 (IntKind.wrap .i64 (IntKind.wrap .i64 (c + Int.ofNat 1) + n1) + n2)) (IntKind.wrap .i64 (d2 + Int.ofNat 1))
      exact ⟨n, e, w7_4_0 (k0 := k0) (k1 := e1) (k2 := c1) (k3 := e1) (k4 := c2) (k5 := e1) (k6 := q1) (k7 := e1) (k8 := q2) (k9 := q3) (k10 := q4) (k11 := by rw [hw]; exact hr)⟩
     | false =>
      obtain ⟨n, e, hr⟩ := ih (IntKind.wrap .i64 (IntKind.wrap .i64 (IntKind.wrap .i64 (c + Int.ofNat 1) + n1) + n2)) (IntKind.wrap .i64 (d1 + Int.ofNat 1))
      exact ⟨n, e, w7_4_1 (k0 := k0) (k1 := e1) (k2 := c1) (k3 := e1) (k4 := c2) (k5 := e1) (k6 := q1) (k7 := e1) (k8 := q2) (k9 := q3) (k10 := q4) (k11 := by rw [hw]; exact hr)⟩
    | false =>
     cases q4 : ltZ d (IntKind.wrap .i64 (d2 + Int.ofNat 1)) with
     | true =>
      obtain ⟨n, e, hr⟩ := ih (IntKind.wrap .i64 (IntKind.wrap .i64 (IntKind.wrap .i64 (c + Int.ofNat 1) + n1) + n2)) (IntKind.wrap .i64 (d2 + Int.ofNat 1))
      exact ⟨n, e, w7_4_2 (k0 := k0) (k1 := e1) (k2 := c1) (k3 := e1) (k4 := c2) (k5 := e1) (k6 := q1) (k7 := e1) (k8 := q2) (k9 := q3) (k10 := q4) (k11 := by rw [hw]; exact hr)⟩
     | false =>
      obtain ⟨n, e, hr⟩ := ih (IntKind.wrap .i64 (IntKind.wrap .i64 (IntKind.wrap .i64 (c + Int.ofNat 1) + n1) + n2)) d
      exact ⟨n, e, w7_4_3 (k0 := k0) (k1 := e1) (k2 := c1) (k3 := e1) (k4 := c2) (k5 := e1) (k6 := q1) (k7 := e1) (k8 := q2) (k9 := q3) (k10 := q4) (k11 := by rw [hw]; exact hr)⟩
theorem count_of {xs : List Ins} (hx : ∀ x, x ∈ xs → CntI m x) (hl : xs.length < 2 ^ 62) : CountR m xs := fun h => by
 obtain ⟨n, d, hr⟩ := count_loop hx hl (h := h) xs.length 0 (by omega) (Int.ofNat 0) (Int.ofNat 0)
 exact ⟨n, d, callF_of rfl rfl (by kernel_rfl) (w7_0 (k0 := hr))⟩
def CopyR (m : Int) (xs : List Ins) : Prop := ∀ h : Heap, callF (cxZ m) (blk (cxZ m)) 17 [.v (.imm (encIs xs))] h = some (.v (.imm (encIs xs)), h)
def CpI (m : Int) : Ins → Prop
 | .mk _ _ _ _ _ l bd el _ => l.length < 2 ^ 40 ∧ CopyR m bd ∧ CopyR m el
theorem copy_loop {xs : List Ins} (hx : ∀ x, x ∈ xs → CpI m x) (hl : xs.length < 2 ^ 40) {h : Heap} : ∀ (k i : Nat), i + k = xs.length → blk (cxZ m) 17 (at_ Tryz.prog 17 3) [.v (.imm (encIs xs)), .ow 9 (encIs (xs.take i)), .v (.int .i64 (Int.ofNat i))] h = some (.v (.imm (encIs xs)), h)
 | 0, i, hi => by
  rw [List.take_of_length_le (by omega)]
  exact w10_3_1 (k0 := ltZ_f (by rw [ofN, ofN, encIs_len]; omega))
 | k + 1, i, hi => by
  have h1 : xs[i]? = some xs[i] := List.getElem?_eq_getElem (by omega)
  have e1 : ixA (.imm (encIs xs)) (Int.ofNat i) 9 = some (encI xs[i]) := by rw [encIs_map]; exact ix_map (f := encI) h1 (encI_len _)
  have hc := hx xs[i] (List.getElem_mem _)
  have ih := copy_loop hx hl (h := h) k (i + 1) (by omega)
  have ht : xs.take (i + 1) = xs.take i ++ [xs[i]] := by rw [List.take_add_one, h1]; rfl
  rw [ht] at ih
  generalize xs[i] = x at e1 hc ih
  obtain ⟨o, a, b, v, t, l, bd, el, q⟩ := x
  obtain ⟨c0, c1, c2⟩ := hc
  have ap : apL (.ow 9 (encIs (xs.take i))) 9 120 [encI (.mk o a b v t l bd el q)] = some (.ow 9 (encIs (xs.take i ++ [.mk o a b v t l bd el q]))) := by
   have := ap_owned (n := 9) (b := 120) (out := encIs (xs.take i)) (ys := [encI (.mk o a b v t l bd el q)]) rfl (by rw [encIs_len, List.length_take]; simp; omega) (by decide)
   rw [this, encIs_map, encIs_map, List.map_append]
   rfl
  exact w10_3_0 (k0 := ltZ_t (by rw [ofN, ofN, encIs_len]; omega)) (k1 := e1) (k2 := ap_ints c0) (k3 := c1 h) (k4 := c2 h) (k5 := ap) (k6 := by rw [wrapS (by omega)]; exact ih)
theorem copy_of {xs : List Ins} (hx : ∀ x, x ∈ xs → CpI m x) (hl : xs.length < 2 ^ 40) : CopyR m xs := fun h =>
 callF_of rfl rfl (by kernel_rfl) (w10_0 (k0 := copy_loop hx hl xs.length 0 (by omega)))
def SelfR (m : Int) (xs : List Ins) : Prop := ∀ h : Heap, callF (cxZ m) (blk (cxZ m)) 15 [.v (.imm (encIs xs)), .v (.imm (encIs xs))] h = some (.v (.bool true), h)
def SfI (m : Int) : Ins → Prop
 | .mk _ _ _ _ _ l bd el _ => l.length < 2 ^ 62 ∧ SelfR m bd ∧ SelfR m el
theorem self_loop {xs : List Ins} (hx : ∀ x, x ∈ xs → SfI m x) (hl : xs.length < 2 ^ 62) {h : Heap} : ∀ (k i : Nat), i + k = xs.length → blk (cxZ m) 15 (at_ Tryz.prog 15 4) [.v (.imm (encIs xs)), .v (.imm (encIs xs)), .v (.int .i64 (Int.ofNat i))] h = some (.v (.bool true), h)
 | 0, i, hi => w11_4_10 (k0 := ltZ_f (by rw [ofN, ofN, encIs_len]; omega))
 | k + 1, i, hi => by
  have h1 : xs[i]? = some xs[i] := List.getElem?_eq_getElem (by omega)
  have e1 : ixA (.imm (encIs xs)) (Int.ofNat i) 9 = some (encI xs[i]) := by rw [encIs_map]; exact ix_map (f := encI) h1 (encI_len _)
  have hc := hx xs[i] (List.getElem_mem _)
  have ih := self_loop hx hl (h := h) k (i + 1) (by omega)
  generalize xs[i] = x at e1 hc
  obtain ⟨o, a, b, v, t, l, bd, el, q⟩ := x
  obtain ⟨c0, c1, c2⟩ := hc
  have z : ∀ n : Int, (!eqZ n n) = false := fun n => congrArg not (eqZ_t rfl)
  exact w11_4_9 (k0 := ltZ_t (by rw [ofN, ofN, encIs_len]; omega)) (k1 := e1) (k2 := e1) (k3 := z o) (k4 := z a) (k5 := z b) (k6 := z v) (k7 := z t) (k8 := by cases q <;> rfl) (k9 := ints_Z c0 h) (k10 := rfl) (k11 := c1 h) (k12 := rfl) (k13 := c2 h) (k14 := rfl) (k15 := by rw [wrapS (by omega)]; exact ih)
theorem self_of {xs : List Ins} (hx : ∀ x, x ∈ xs → SfI m x) (hl : xs.length < 2 ^ 62) : SelfR m xs := fun h =>
 callF_of rfl rfl (by kernel_rfl) (w11_1 (k0 := congrArg not (eqZ_t rfl)) (k1 := self_loop hx hl xs.length 0 (by omega)))
def AllR (m : Int) (xs : List Ins) : Prop := CountR m xs ∧ CopyR m xs ∧ SelfR m xs
def AllI (m : Int) (x : Ins) : Prop := CntI m x ∧ CpI m x ∧ SfI m x
theorem all_of {xs : List Ins} (hx : ∀ x, x ∈ xs → AllI m x) (hl : xs.length < 2 ^ 40) : AllR m xs :=
 ⟨count_of (fun x h => (hx x h).1) (by omega), copy_of (fun x h => (hx x h).2.1) hl, self_of (fun x h => (hx x h).2.2) (by omega)⟩
mutual
theorem allI_Z : ∀ x : Ins, cI x < 2 ^ 40 → AllI m x
 | .mk _ _ _ _ _ l bd el _ => fun h => by
  rw [cI] at h
  have h1 := cL_len bd
  have h2 := cL_len el
  obtain ⟨a1, a2, a3⟩ := all_of (allL_Z bd (by omega)) (by omega)
  obtain ⟨b1, b2, b3⟩ := all_of (allL_Z el (by omega)) (by omega)
  exact ⟨⟨a1, b1⟩, ⟨by omega, a2, b2⟩, ⟨by omega, a3, b3⟩⟩
theorem allL_Z : ∀ xs : List Ins, cL xs < 2 ^ 40 → ∀ x, x ∈ xs → AllI m x
 | [] => fun _ x hx => by cases hx
 | y :: ys => fun h x hx => by
  rw [cL] at h
  have h1 := allI_Z y (by omega)
  have h2 := allL_Z ys (by omega)
  rcases List.mem_cons.1 hx with e | hx
  ·rw [e]; exact h1
  ·exact h2 x hx
end
end
end Go.Proofs.YthcjapmfchidhaaGreatDoor
namespace Go.Proofs.YthcjapmfchidhaaGreatDoor
set_option maxRecDepth 100000
open Go Go.Proofs.Am
theorem sg64_wrap {v : Int} (h0 : 0 ≤ v) (h1 : v < 18446744073709551616) : IntKind.wrap .i64 v = sg64 v := by
 rw [wrapI64]; unfold sg64; split <;> split <;> omega
theorem sg32_wrap {v : Int} (h0 : 0 ≤ v) (h1 : v ≤ 4294967295) : IntKind.wrap .i64 (IntKind.wrap .i32 (IntKind.wrap .u32 v)) = sg32 v := by
 rw [wrapU32, wrapI32]
 unfold sg32
 have h : InZ (if 2147483648 ≤ v % 4294967296 % 4294967296 then v % 4294967296 % 4294967296 - 4294967296 else v % 4294967296 % 4294967296) := by unfold InZ; split <;> omega
 rw [wrapI h]
 split <;> split <;> omega
theorem sg64_rng {v : Int} (h0 : 0 ≤ v) (h1 : v < 18446744073709551616) : -9223372036854775808 ≤ sg64 v ∧ sg64 v < 9223372036854775808 := by unfold sg64; split <;> omega
theorem sg32_rng {v : Int} (h0 : 0 ≤ v) (h1 : v ≤ 4294967295) : -9223372036854775808 ≤ sg32 v ∧ sg32 v < 9223372036854775808 := by unfold sg32; split <;> omega
theorem plain_len (r : OpR) (o a b v : Int) (l : List Int) : (plainB r o a b v l).length ≤ 31 + 10 * l.length := by
 have h1 := uB_len 10 a.toNat
 have h2 := uB_len 10 b.toNat
 have h3 := uB_len 10 ((l.length : Int) - 1).toNat
 have h4 := uLs_len l
 have h5 := sB_len 10 (sg32 v)
 have h6 := sB_len 10 (sg64 v)
 unfold plainB
 unfold uL at *
 split
 ·rw [List.length_append]; omega
 split
 ·simp only [List.length_singleton]; omega
 split
 ·omega
 split
 ·omega
 split
 ·rw [List.length_append]; omega
 split
 ·rw [List.length_append, List.length_singleton]; omega
 split
 ·omega
 ·simp only [List.length_nil]; omega
mutual
theorem insB_len (OP : Int → Option OpR) : ∀ x : Ins, (insB OP x).length ≤ 32 * cI x
 | .mk o a b v t l bd el q => by
  have h1 := lstB_len OP bd
  have h2 := lstB_len OP el
  rw [insB, cI]
  cases OP o with
  | none => simp
  | some r =>
   have h3 := plain_len r o a b v l
   simp only [List.length_cons]
   split
   ·cases q <;> simp only [List.length_cons, List.length_append, if_true, Bool.false_eq_true, if_false, List.length_nil, Nat.zero_add] <;> omega
   ·omega
theorem lstB_len (OP : Int → Option OpR) : ∀ xs : List Ins, (lstB OP xs).length ≤ 32 * cL xs
 | [] => Nat.le_refl _
 | x :: xs => by
  have h1 := insB_len OP x
  have h2 := lstB_len OP xs
  rw [lstB, cL, List.length_append]; omega
end
section
variable {m : Int} {h : Heap}
def Buf (b0 : LV) (bs : List Nat) : Prop := b0 = .ow 1 (encBy bs) ∨ (b0 = .v .nilS ∧ bs = [])
def OneR (m : Int) (x : Ins) : Prop := mayI opI x = true → v64I x = true → ∀ ⦃h : Heap⦄ ⦃b0 : LV⦄ ⦃bs : List Nat⦄, Buf b0 bs → bs.length + 32 * cI x ≤ 68719476736 →
 callF (cxZ m) (blk (cxZ m)) 34 [b0, .v (.agg (encI x))] h = some (.ow 1 (encBy (bs ++ insB opI x)), h)
def LstR (m : Int) (xs : List Ins) : Prop := mayL opI xs = true → v64L xs = true → ∀ ⦃h : Heap⦄ ⦃bs : List Nat⦄, bs.length + 32 * cL xs ≤ 68719476736 →
 callF (cxZ m) (blk (cxZ m)) 20 [.ow 1 (encBy bs), .v (.imm (encIs xs))] h = some (.ow 1 (encBy (bs ++ lstB opI xs)), h)
theorem blockT {t : Int} (h0 : 0 ≤ t) (h2 : t ≤ 2) : callF (cxZ m) (blk (cxZ m)) 58 [.v (.int .i64 t)] h = some (.v (.int .u8 ((resB t : Nat) : Int)), h) := by
 have ht : t = 0 ∨ t = 1 ∨ t = 2 := by omega
 rcases ht with rfl | rfl | rfl
 ·exact callF_of rfl rfl (by kernel_rfl) (p58_2 (k0 := rfl) (k1 := rfl))
 ·exact callF_of rfl rfl (by kernel_rfl) (p58_0 (k0 := rfl))
 ·exact callF_of rfl rfl (by kernel_rfl) (p58_1 (k0 := rfl) (k1 := rfl))
theorem one_of {o a b v t : Int} {l : List Int} {bd el : List Ins} {q : Bool} (hb : LstR m bd) (he : LstR m el) : OneR m (.mk o a b v t l bd el q) := by
 intro hm hv h b0 bs hB hl
 unfold mayI at hm
 cases hop : opI o with
 | none => rw [hop] at hm; cases hm
 | some r =>
 rw [hop] at hm
 simp only at hm
 have hlk := op_some hop
 obtain ⟨o0, o1⟩ := opLaw.rng hop
 have f2 := opLaw.k2 hop
 have f3 := opLaw.k3 hop
 have f4 := opLaw.k4 hop
 have f10 := opLaw.k10 hop
 have g10 := opLaw.g10 hop
 rw [cI] at hl
 unfold v64I at hv
 simp only [Bool.and_eq_true, decide_eq_true_eq] at hv
 obtain ⟨⟨hvv, vb⟩, ve⟩ := hv
 have hw : IntKind.wrap .u8 o = ((o.toNat : Nat) : Int) := wrap8i (by omega) (by omega)
 have hk0 : (lookV o, h) = (LV.tup [opA o r.nm r.kind (encN r.takes) r.gives r.bytes r.sg, .nilI], h) := by rw [hlk]
 have key : ∀ {bs : List Nat}, bs.length + 32 * (1 + l.length + cL bd + cL el) ≤ 68719476737 → ∀ rest, insB opI (.mk o a b v t l bd el q) = o.toNat :: rest →
   blk (cxZ m) 34 (at_ Tryz.prog 34 5) [.ow 1 (encBy bs), .lp 0 0, .lp 1 0, .v (.int .i64 o), .v (.int .i64 a), .v (.int .i64 b), .v (.int .u64 v), .v (.int .i64 t), .v (.imm (encN l)), .v (.imm (encIs bd)), .v (.imm (encIs el)), .v (.bool q), .v (.int .i64 o), .v (.str r.nm), .v (.int .i64 r.kind), .v (.imm (encN r.takes)), .v (.int .i64 r.gives), .v (.int .i64 r.bytes), .v (.bool r.sg)] h
    = some (.ow 1 (encBy (bs ++ rest)), h) := by
  clear hB hl bs b0
  intro bs hl rest hrest
  rw [insB, hop] at hrest
  simp only [List.cons.injEq, true_and] at hrest
  subst hrest
  by_cases h2 : r.kind = 2
  ·rw [if_pos h2] at hm ⊢
   simp only [Bool.and_eq_true, decide_eq_true_eq] at hm
   obtain ⟨⟨⟨⟨⟨⟨t0, t2⟩, mb⟩, me⟩, _⟩, _⟩, _⟩ := hm
   have lb := lstB_len opI bd
   have le := lstB_len opI el
   have e2 := eqZ_t (a := r.kind) (b := Int.ofNat 2) h2
   have k1 := blockT (m := m) (h := h) t0 t2
   have k2 := ap_by1 (out := bs) (y := resB t) rfl (by omega)
   have k3 := hb mb vb (h := h) (bs := bs ++ [resB t]) (by rw [List.length_append, List.length_singleton]; omega)
   cases q with
   | false =>
    have k5 := ap_by1 (out := bs ++ [resB t] ++ lstB opI bd) (x := Int.ofNat 11) (y := 11) rfl (by simp only [List.length_append, List.length_singleton]; omega)
    have e : bs ++ [resB t] ++ lstB opI bd ++ [11] = bs ++ (resB t :: (lstB opI bd ++ ((if false = true then 5 :: lstB opI el else []) ++ [11]))) := by simp
    rw [← e]
    exact p34_5_1 (k0 := e2) (k1 := k1) (k2 := k2) (k3 := k3) (k4 := rfl) (k5 := k5)
   | true =>
    have k5 := ap_by1 (out := bs ++ [resB t] ++ lstB opI bd) (x := Int.ofNat 5) (y := 5) rfl (by simp only [List.length_append, List.length_singleton]; omega)
    have k6 := he me ve (h := h) (bs := bs ++ [resB t] ++ lstB opI bd ++ [5]) (by simp only [List.length_append, List.length_singleton]; omega)
    have k7 := ap_by1 (out := bs ++ [resB t] ++ lstB opI bd ++ [5] ++ lstB opI el) (x := Int.ofNat 11) (y := 11) rfl (by simp only [List.length_append, List.length_singleton]; omega)
    have e : bs ++ [resB t] ++ lstB opI bd ++ [5] ++ lstB opI el ++ [11] = bs ++ (resB t :: (lstB opI bd ++ ((if true = true then 5 :: lstB opI el else []) ++ [11]))) := by simp
    rw [← e]
    exact p34_5_0 (k0 := e2) (k1 := k1) (k2 := k2) (k3 := k3) (k4 := rfl) (k5 := k5) (k6 := k6) (k7 := k7)
  ·rw [if_neg h2] at hm ⊢
   rw [Bool.and_eq_true] at hm
   have hm := hm.1
   have n2 := eqZ_f (a := r.kind) (b := Int.ofNat 2) h2
   unfold mayP at hm
   unfold plainB
   by_cases h78 : r.kind = 7 ∨ r.kind = 8
   ·rw [if_neg (by omega), if_pos h78] at hm
    rw [if_pos h78]
    simp only [Bool.and_eq_true] at hm
    have k := put2_Z (m := m) (h := h) (bs := bs) hm.1.1 hm.1.2 (by omega)
    by_cases h7 : r.kind = 7
    ·exact p34_5_2 (k0 := n2) (k1 := eqZ_t (b := Int.ofNat 7) h7) (k2 := k)
    ·exact p34_5_3 (k0 := n2) (k1 := eqZ_f (b := Int.ofNat 7) h7) (k2 := eqZ_t (b := Int.ofNat 8) (show r.kind = 8 from by omega)) (k3 := k)
   rw [if_neg h78]
   rw [if_neg h78] at hm
   have n7 := eqZ_f (a := r.kind) (b := Int.ofNat 7) (fun hh => h78 (.inl hh))
   have n8 := eqZ_f (a := r.kind) (b := Int.ofNat 8) (fun hh => h78 (.inr hh))
   by_cases h9 : r.kind = 9
   ·rw [if_pos h9]
    exact p34_5_4 (k0 := n2) (k1 := n7) (k2 := n8) (k3 := eqZ_t (b := Int.ofNat 9) h9) (k4 := ap_by1 rfl (by omega))
   rw [if_neg h9]
   have n9 := eqZ_f (a := r.kind) (b := Int.ofNat 9) h9
   by_cases h65 : o = 65
   ·have hk : r.kind = 10 := f10.2 (.inl h65)
    rw [if_pos hk] at hm
    rw [if_pos h65]
    simp only [Bool.and_eq_true, decide_eq_true_eq, Bool.not_eq_true', Bool.and_eq_false_imp, decide_eq_false_iff_not] at hm
    have hg := (g10 hk).2 h65
    have hv32 : v ≤ 4294967295 := by have := hm.1 hg; omega
    have ls := sB_len 10 (sg32 v)
    have k6 := putS_Z (m := m) (h := h) (sg32_rng hvv.1 hv32)
    rw [← sg32_wrap hvv.1 hv32] at k6
    rw [← sg32_wrap hvv.1 hv32] at ls ⊢
    exact p34_5_5 (k0 := n2) (k1 := n7) (k2 := n8) (k3 := n9) (k4 := eqZ_t (b := Int.ofNat 10) hk) (k5 := eqZ_t (b := Int.ofNat 1) hg) (k6 := k6) (k7 := ap_by (by omega))
   rw [if_neg h65]
   by_cases h66 : o = 66
   ·have hk : r.kind = 10 := f10.2 (.inr h66)
    rw [if_pos h66]
    have hg : r.gives ≠ 1 := fun hh => h65 ((g10 hk).1 hh)
    have ls := sB_len 10 (sg64 v)
    have k6 := putS_Z (m := m) (h := h) (sg64_rng hvv.1 hvv.2)
    rw [← sg64_wrap hvv.1 hvv.2] at k6
    rw [← sg64_wrap hvv.1 hvv.2] at ls ⊢
    exact p34_5_6 (k0 := n2) (k1 := n7) (k2 := n8) (k3 := n9) (k4 := eqZ_t (b := Int.ofNat 10) hk) (k5 := eqZ_f (b := Int.ofNat 1) hg) (k6 := k6) (k7 := ap_by (by omega))
   rw [if_neg h66]
   have hk10 : r.kind ≠ 10 := fun hh => by rcases f10.1 hh with e | e <;> omega
   have n10 := eqZ_f (a := r.kind) (b := Int.ofNat 10) hk10
   rw [if_neg hk10] at hm
   by_cases h14 : o = 14
   ·rw [if_pos h14] at hm ⊢
    simp only [Bool.and_eq_true, Bool.not_eq_true'] at hm
    obtain ⟨⟨hne, hall⟩, _⟩ := hm
    have hpos : 0 < l.length := by
     cases l with
     | nil => cases hne
     | cons x l => simp
    have hz : numZ ((l.length : Int) - 1) = true := by unfold numZ; rw [Bool.and_eq_true, decide_eq_true_eq, decide_eq_true_eq]; omega
    have k6 := put1_Z (m := m) (h := h) (bs := bs) hz (by omega)
    have k7 := put_Z (m := m) (h := h) (bs := bs ++ uL ((l.length : Int) - 1)) hall (by omega) (by have := uB_len 10 ((l.length : Int) - 1).toNat; unfold uL; rw [List.length_append]; omega)
    rw [List.append_assoc] at k7
    have w1 : IntKind.wrap .i64 (Int.ofNat (encN l).length - Int.ofNat 1) = (l.length : Int) - 1 := by rw [encN_len, ofN, ofN, wrapI (by unfold InZ; omega)]; rfl
    exact p34_5_15 (k0 := n2) (k1 := n7) (k2 := n8) (k3 := n9) (k4 := n10) (k5 := eqZ_t (b := Int.ofNat 14) h14) (k6 := by rw [w1]; exact k6) (k7 := k7)
   rw [if_neg h14]
   rw [if_neg h14] at hm
   have n14 := eqZ_f (a := o) (b := Int.ofNat 14) h14
   by_cases h17 : o = 17
   ·have hk : r.kind = 4 := f4.2 (by omega)
    rw [if_pos (.inl hk)] at hm
    rw [if_pos h17]
    simp only [Bool.and_eq_true] at hm
    have k7 := put1_Z (m := m) (h := h) (bs := bs) hm.1 (by omega)
    have k8 := ap_by1 (out := bs ++ uL a) (x := Int.ofNat 0) (y := 0) rfl (by have := uB_len 10 a.toNat; unfold uL; rw [List.length_append]; omega)
    rw [List.append_assoc] at k8
    exact p34_5_16 (k0 := n2) (k1 := n7) (k2 := n8) (k3 := n9) (k4 := n10) (k5 := n14) (k6 := eqZ_t (b := Int.ofNat 17) h17) (k7 := k7) (k8 := k8)
   rw [if_neg h17]
   have n17 := eqZ_f (a := o) (b := Int.ofNat 17) h17
   by_cases hc : r.kind = 4 ∨ r.kind = 6 ∨ o = 12 ∨ o = 13
   ·rw [if_pos (by omega)] at hm
    rw [if_pos hc]
    simp only [Bool.and_eq_true] at hm
    have k := put1_Z (m := m) (h := h) (bs := bs) hm.1 (by omega)
    by_cases c4 : r.kind = 4
    ·exact p34_5_17 (k0 := n2) (k1 := n7) (k2 := n8) (k3 := n9) (k4 := n10) (k5 := n14) (k6 := n17) (k7 := eqZ_t (b := Int.ofNat 4) c4) (k8 := k)
    have n4 := eqZ_f (a := r.kind) (b := Int.ofNat 4) c4
    by_cases c6 : r.kind = 6
    ·exact p34_5_18 (k0 := n2) (k1 := n7) (k2 := n8) (k3 := n9) (k4 := n10) (k5 := n14) (k6 := n17) (k7 := n4) (k8 := eqZ_t (b := Int.ofNat 6) c6) (k9 := k)
    have n6 := eqZ_f (a := r.kind) (b := Int.ofNat 6) c6
    by_cases c12 : o = 12
    ·exact p34_5_19 (k0 := n2) (k1 := n7) (k2 := n8) (k3 := n9) (k4 := n10) (k5 := n14) (k6 := n17) (k7 := n4) (k8 := n6) (k9 := eqZ_t (b := Int.ofNat 12) c12) (k10 := k)
    ·exact p34_5_20 (k0 := n2) (k1 := n7) (k2 := n8) (k3 := n9) (k4 := n10) (k5 := n14) (k6 := n17) (k7 := n4) (k8 := n6) (k9 := eqZ_f (b := Int.ofNat 12) c12) (k10 := eqZ_t (b := Int.ofNat 13) (show o = 13 from by omega)) (k11 := k)
   ·rw [if_neg hc, List.append_nil]
    exact p34_5_21 (k0 := n2) (k1 := n7) (k2 := n8) (k3 := n9) (k4 := n10) (k5 := n14) (k6 := n17) (k7 := eqZ_f (b := Int.ofNat 4) (fun hh => hc (.inl hh))) (k8 := eqZ_f (b := Int.ofNat 6) (fun hh => hc (.inr (.inl hh)))) (k9 := eqZ_f (b := Int.ofNat 12) (fun hh => hc (.inr (.inr (.inl hh))))) (k10 := eqZ_f (b := Int.ofNat 13) (fun hh => hc (.inr (.inr (.inr hh)))))
 obtain ⟨rest, hrest⟩ : ∃ rest, insB opI (.mk o a b v t l bd el q) = o.toNat :: rest := by rw [insB, hop]; exact ⟨_, rfl⟩
 rcases hB with rfl | ⟨rfl, rfl⟩
 ·have k3 := ap_by1 (out := bs) (x := IntKind.wrap .u8 o) (y := o.toNat) hw (by omega)
  have := key (bs := bs ++ [o.toNat]) (by rw [List.length_append, List.length_singleton]; omega) rest hrest
  rw [hrest, show bs ++ o.toNat :: rest = bs ++ [o.toNat] ++ rest by simp]
  exact callF_of rfl rfl (by kernel_rfl) (p34_1 (k0 := hk0) (k1 := err_neq none) (k2 := rfl) (k3 := k3) (k4 := this))
 ·have := key (bs := [o.toNat]) (by simp only [List.length_nil] at hl; rw [List.length_singleton]; omega) rest hrest
  rw [hrest, List.nil_append, show o.toNat :: rest = [o.toNat] ++ rest by simp]
  exact callF_of rfl rfl (by kernel_rfl) (p34n_1 (k0 := hk0) (k1 := err_neq none) (k2 := rfl) (k3 := by rw [hw]; exact this))
end
end Go.Proofs.YthcjapmfchidhaaGreatDoor
namespace Go.Proofs.YthcjapmfchidhaaGreatDoor
set_option maxRecDepth 100000
open Go Go.Proofs.Am
section
variable {m : Int} {h : Heap}
theorem v64_mem : ∀ {xs : List Ins} {x : Ins}, v64L xs = true → x ∈ xs → v64I x = true
 | [], x, _, h => by cases h
 | y :: ys, x, hv, h => by
  rw [v64L, Bool.and_eq_true] at hv
  rcases List.mem_cons.1 h with rfl | h
  ·exact hv.1
  ·exact v64_mem hv.2 h
theorem list_loop {xs : List Ins} (hx : ∀ x, x ∈ xs → OneR m x) (hm : mayL opI xs = true) (hv : v64L xs = true) (hl : xs.length < 2 ^ 62) : ∀ (suf pre : List Ins) {b0 : LV} {bs : List Nat}, pre ++ suf = xs → Buf b0 bs → bs.length + 32 * cL suf ≤ 68719476736 →
  blk (cxZ m) 20 (at_ Tryz.prog 20 2) [b0, .v (.imm (encIs xs)), .v (.int .i64 (Int.ofNat (encIs xs).length)), .v (.int .i64 (Int.ofNat pre.length))] h =
   some (if suf = [] then b0 else .ow 1 (encBy (bs ++ lstB opI suf)), h)
 | [], pre, b0, bs, hp, hB, _ => by
  rw [List.append_nil] at hp
  subst hp
  have k0 : ltZ (Int.ofNat pre.length) (Int.ofNat (encIs pre).length) = false := ltZ_f (by rw [encIs_len]; exact Int.le_refl _)
  rw [if_pos rfl]
  rcases hB with rfl | ⟨rfl, rfl⟩
  ·exact p20_2_1 (k0 := k0)
  ·exact p20_2n_1 (k0 := k0)
 | x :: suf, pre, b0, bs, hp, hB, hb => by
  have hlt : pre.length < xs.length := by rw [← hp]; simp
  have hg : xs[pre.length]? = some x := by rw [← hp, List.getElem?_append_right (Nat.le_refl _), Nat.sub_self]; rfl
  have hmem := List.mem_of_getElem? hg
  have mx : mayI opI x = true := by rw [mayL_mem] at hm; exact List.all_eq_true.1 hm x hmem
  have vx : v64I x = true := v64_mem hv hmem
  have k0 : ltZ (Int.ofNat pre.length) (Int.ofNat (encIs xs).length) = true := ltZ_t (by rw [encIs_len, ofN, ofN]; omega)
  have k1 : ixA (.imm (encIs xs)) (Int.ofNat pre.length) 9 = some (encI x) := by rw [encIs_map]; exact ix_map (f := encI) hg (encI_len x)
  rw [cL] at hb
  have hlen := insB_len opI x
  have k2 := hx x hmem mx vx (h := h) hB (by omega)
  have ih := list_loop hx hm hv hl suf (pre ++ [x]) (b0 := .ow 1 (encBy (bs ++ insB opI x))) (bs := bs ++ insB opI x) (by rw [List.append_assoc]; exact hp) (.inl rfl) (by rw [List.length_append]; omega)
  rw [List.length_append, List.length_singleton] at ih
  have e : (if suf = [] then LV.ow 1 (encBy (bs ++ insB opI x)) else .ow 1 (encBy (bs ++ insB opI x ++ lstB opI suf))) = .ow 1 (encBy (bs ++ lstB opI (x :: suf))) := by
   rw [lstB, ← List.append_assoc]
   split
   ·rename_i hs; subst hs; rw [lstB, List.append_nil]
   ·rfl
  rw [e] at ih
  rw [if_neg (by simp)]
  have w := wrapS (n := pre.length) (by omega)
  obtain ⟨o, a, b, v, t, l, bd, el, q⟩ := x
  rcases hB with rfl | ⟨rfl, rfl⟩
  ·exact p20_2_0 (k0 := k0) (k1 := k1) (k2 := k2) (k3 := by rw [w]; exact ih)
  ·exact p20_2n_0 (k0 := k0) (k1 := k1) (k2 := k2) (k3 := by rw [w]; exact ih)
theorem list_of1 {xs : List Ins} (hx : ∀ x, x ∈ xs → OneR m x) (hl : xs.length < 2 ^ 62) : LstR m xs := by
 intro hm hv h bs hb
 have := list_loop (h := h) hx hm hv hl xs [] (b0 := .ow 1 (encBy bs)) rfl (.inl rfl) hb
 have e : (if xs = [] then LV.ow 1 (encBy bs) else .ow 1 (encBy (bs ++ lstB opI xs))) = .ow 1 (encBy (bs ++ lstB opI xs)) := by
  split
  ·rename_i hs; subst hs; rw [lstB, List.append_nil]
  ·rfl
 rw [e] at this
 exact callF_of rfl rfl (by kernel_rfl) (p20_0 (k0 := this))
mutual
theorem one_R : ∀ x : Ins, cI x < 2 ^ 62 → OneR m x
 | .mk _ _ _ _ _ l bd el _ => fun h => by
  rw [cI] at h
  have h1 := cL_len bd
  have h2 := cL_len el
  exact one_of (list_of1 (one_Rs bd (by omega)) (by omega)) (list_of1 (one_Rs el (by omega)) (by omega))
theorem one_Rs : ∀ xs : List Ins, cL xs < 2 ^ 62 → ∀ x, x ∈ xs → OneR m x
 | [] => fun _ x hx => by cases hx
 | y :: ys => fun h x hx => by
  rw [cL] at h
  have h1 := one_R y (by omega)
  have h2 := one_Rs ys (by omega)
  rcases List.mem_cons.1 hx with e | hx
  ·rw [e]; exact h1
  ·exact h2 x hx
end
theorem p9_2 {xs : List (List AV)} {b0 : Bool} {h h0 h1 : Heap} (k0 : cA m 19 [vM xs] h = some (vB b0, h1)) (k1 : (!b0) = false) (k2 : cA m 20 [LV.v AV.nilS, vM xs] h1 = some (LV.v .nilS, h0)) :
  bB m 9 [vM xs] h = some ((LV.tup [aM [[AV.int IntKind.u8 (.ofNat 11)]], AV.nilI], h0)) :=
 bY (qS [] [1099994] [] [(1, 1, vB b0, h1), (3, 1, LV.v AV.nilS, h0)]) (tA k0 (tZ k1 (tA k2 (tR ((LV.tup [aM [[AV.int IntKind.u8 (.ofNat 11)]], AV.nilI], h0)))))) (by kernel_rfl)
def putV (xs : List Ins) : LV := if mayL opI xs = true then .tup [.imm (encBy (lstB opI xs ++ [11])), .nilI] else .tup [.imm [], .ifc 32 (.int .i64 (Int.ofNat 1))]
theorem put9 {xs : List Ins} (hv : v64L xs = true) (hc : 32 * cL xs + 1 ≤ 68719476736) (h : Heap) : callF (cxZ m) (blk (cxZ m)) 9 [.v (.imm (encIs xs))] h = some (putV xs, h) := by
 have hM := mayL_Z (m := m) (xs := xs) (by omega) h
 have hlen := cL_len xs
 have hll := lstB_len opI xs
 unfold putV
 cases hm : mayL opI xs with
 | false =>
  rw [hm] at hM
  rw [if_neg (by decide)]
  exact callF_of rfl rfl (by kernel_rfl) (p9_0 (k0 := hM) (k1 := rfl))
 | true =>
  rw [hm] at hM
  rw [if_pos rfl]
  have := list_loop (m := m) (h := h) (one_Rs xs (by omega)) hm hv (by omega) xs [] (b0 := .v .nilS) (bs := []) rfl (.inr ⟨rfl, rfl⟩) (by simp only [List.length_nil]; omega)
  have h20 : callF (cxZ m) (blk (cxZ m)) 20 [.v .nilS, .v (.imm (encIs xs))] h = some (if xs = [] then .v .nilS else .ow 1 (encBy ([] ++ lstB opI xs)), h) := callF_of rfl rfl (by kernel_rfl) (p20n_0 (k0 := this))
  by_cases hx : xs = []
  ·subst hx
   rw [if_pos rfl] at h20
   exact callF_of rfl rfl (by kernel_rfl) (p9_2 (k0 := hM) (k1 := rfl) (k2 := h20))
  ·rw [if_neg hx, List.nil_append] at h20
   exact callF_of rfl rfl (by kernel_rfl) (p9_1 (k0 := hM) (k1 := rfl) (k2 := h20) (k3 := ap_by1 rfl (by omega)))
def DocI (m : Int) (x : Ins) : Prop := mayI opI x = true → v64I x = true → 32 * cI x ≤ 68719476736 → ∀ h : Heap, callF (cxZ m) (blk (cxZ m)) 22 [.v (.agg (encI x))] h = some (.v (.imm (encBy (insB opI x))), h)
def DocL (m : Int) (xs : List Ins) : Prop := mayL opI xs = true → v64L xs = true → 32 * cL xs ≤ 68719476736 → ∀ h : Heap, callF (cxZ m) (blk (cxZ m)) 11 [.v (.imm (encIs xs))] h = some (.v (.imm (encBy (lstB opI xs))), h)
end
end Go.Proofs.YthcjapmfchidhaaGreatDoor
namespace Go.Proofs.YthcjapmfchidhaaGreatDoor
set_option maxRecDepth 100000
open Go Go.Proofs.Am
section
variable {m : Int}
def CntN (m : Int) (xs : List Ins) : Prop := ∀ h : Heap, callF (cxZ m) (blk (cxZ m)) 8 [.v (.imm (encIs xs))] h = some (.tup [.int .i64 (nL xs : Int), .int .i64 (dL xs : Int)], h)
def CntM (m : Int) : Ins → Prop
 | .mk _ _ _ _ _ _ bd el _ => CntN m bd ∧ CntN m el
theorem cntN_loop {xs : List Ins} (hx : ∀ x, x ∈ xs → CntM m x) (hl : cL xs < 2 ^ 61) {h : Heap} : ∀ (suf pre : List Ins), pre ++ suf = xs → ∀ c d : Nat, c + nL suf < 2 ^ 61 → d < 2 ^ 61 →
  blk (cxZ m) 8 (at_ Tryz.prog 8 4) [.v (.imm (encIs xs)), .v (.int .i64 (c : Int)), .v (.int .i64 (d : Int)), .v (.int .i64 (Int.ofNat pre.length))] h = some (.tup [.int .i64 ((c + nL suf : Nat) : Int), .int .i64 ((max d (dL suf) : Nat) : Int)], h)
 | [], pre, hp, c, d, _, _ => by
  rw [List.append_nil] at hp
  subst hp
  rw [nL, dL, Nat.add_zero, Nat.max_zero]
  exact w7_4_6 (k0 := ltZ_f (by rw [ofN, ofN, encIs_len]; omega))
 | x :: suf, pre, hp, c, d, hc, hd => by
  have hlen := cL_len xs
  have hlt : pre.length < xs.length := by rw [← hp]; simp
  have h1 : xs[pre.length]? = some x := by rw [← hp, List.getElem?_append_right (Nat.le_refl _), Nat.sub_self]; rfl
  have e1 : ixA (.imm (encIs xs)) (Int.ofNat pre.length) 9 = some (encI x) := by rw [encIs_map]; exact ix_map (f := encI) h1 (encI_len _)
  have hcx := hx x (List.mem_of_getElem? h1)
  have k0 : ltZ (Int.ofNat pre.length) (Int.ofNat (encIs xs).length) = true := ltZ_t (by rw [ofN, ofN, encIs_len]; omega)
  have ih := cntN_loop hx hl (h := h) suf (pre ++ [x]) (by rw [List.append_assoc]; exact hp)
  rw [List.length_append, List.length_singleton] at ih
  obtain ⟨o, a, b, v, t, l, bd, el, q⟩ := x
  have c1 := hcx.1 h
  have c2 := hcx.2 h
  have hw := wrapS (n := pre.length) (by omega)
  rw [nL, nI] at hc ⊢
  rw [dL, dI]
  have hdb := dL_n bd
  have hde := dL_n el
  have w1 : IntKind.wrap .i64 (IntKind.wrap .i64 (IntKind.wrap .i64 ((c : Int) + Int.ofNat 1) + (nL bd : Int)) + (nL el : Int)) = ((c + (1 + nL bd + nL el) : Nat) : Int) := by
   rw [ofN, wrapI (i := (c : Int) + _) (by unfold InZ; omega), wrapI (i := _ + (nL bd : Int)) (by unfold InZ; omega), wrapI (by unfold InZ; omega)]
   omega
  have w2 : ∀ e : Nat, e < 2 ^ 61 → IntKind.wrap .i64 ((e : Int) + Int.ofNat 1) = ((e + 1 : Nat) : Int) := fun e he => by rw [ofN, wrapI (by unfold InZ; omega)]; omega
  have w2b := w2 (dL bd) (by omega)
  have w2e := w2 (dL el) (by omega)
  have fin : ∀ d' : Nat, d' < 2 ^ 61 → blk (cxZ m) 8 (at_ Tryz.prog 8 4) [.v (.imm (encIs xs)), .v (.int .i64 (IntKind.wrap .i64 (IntKind.wrap .i64 (IntKind.wrap .i64 ((c : Int) + Int.ofNat 1) + (nL bd : Int)) + (nL el : Int)))), .v (.int .i64 (d' : Int)), .v (.int .i64 (IntKind.wrap .i64 (Int.ofNat pre.length.succ)))] h = some (.tup [.int .i64 ((c + (1 + nL bd + nL el + nL suf) : Nat) : Int), .int .i64 ((max d' (dL suf) : Nat) : Int)], h) := fun d' hd' => by
   rw [w1, hw]
   have := ih (c + (1 + nL bd + nL el)) d' (by omega) hd'
   rw [show c + (1 + nL bd + nL el) + nL suf = c + (1 + nL bd + nL el + nL suf) by omega] at this
   exact this
  have fin' : ∀ d' : Nat, d' < 2 ^ 61 → ∀ D : Nat, D = max d' (dL suf) → blk (cxZ m) 8 (at_ Tryz.prog 8 4) [.v (.imm (encIs xs)), .v (.int .i64 (IntKind.wrap .i64 (IntKind.wrap .i64 (IntKind.wrap .i64 ((c : Int) + Int.ofNat 1) + (nL bd : Int)) + (nL el : Int)))), .v (.int .i64 (d' : Int)), .v (.int .i64 (IntKind.wrap .i64 (Int.ofNat pre.length.succ)))] h = some (.tup [.int .i64 ((c + (1 + nL bd + nL el + nL suf) : Nat) : Int), .int .i64 (D : Int)], h) := fun d' hd' D hD => by
   rw [hD]; exact fin d' hd'
  cases q1 : leZ (Int.ofNat 2) o with
  | false =>
   have ho : ¬(2 ≤ o ∧ o ≤ 4) := fun hh => by rw [leZ_t (a := Int.ofNat 2) hh.1] at q1; cases q1
   rw [if_neg ho]
   exact w7_4_5 (k0 := k0) (k1 := e1) (k2 := c1) (k3 := e1) (k4 := c2) (k5 := e1) (k6 := q1) (k7 := fin' d hd _ (by omega))
  | true =>
   cases q2 : leZ o (Int.ofNat 4) with
   | false =>
    have ho : ¬(2 ≤ o ∧ o ≤ 4) := fun hh => by rw [leZ_t (b := Int.ofNat 4) hh.2] at q2; cases q2
    rw [if_neg ho]
    exact w7_4_4 (k0 := k0) (k1 := e1) (k2 := c1) (k3 := e1) (k4 := c2) (k5 := e1) (k6 := q1) (k7 := e1) (k8 := q2) (k9 := fin' d hd _ (by omega))
   | true =>
    have o2 : (2 : Int) ≤ o := by
     by_cases hh : (2 : Int) ≤ o
     ·exact hh
     ·rw [leZ_f (a := Int.ofNat 2) (by rw [ofN]; omega)] at q1; cases q1
    have o4 : o ≤ 4 := by
     by_cases hh : o ≤ 4
     ·exact hh
     ·rw [leZ_f (b := Int.ofNat 4) (by rw [ofN]; omega)] at q2; cases q2
    rw [if_pos ⟨o2, o4⟩]
    by_cases q3 : d < dL bd + 1
    ·have k3 : ltZ (d : Int) (IntKind.wrap .i64 ((dL bd : Int) + Int.ofNat 1)) = true := by rw [w2b]; exact ltZ_t (by omega)
     by_cases q4 : dL bd + 1 < dL el + 1
     ·have k4 : ltZ (IntKind.wrap .i64 ((dL bd : Int) + Int.ofNat 1)) (IntKind.wrap .i64 ((dL el : Int) + Int.ofNat 1)) = true := by rw [w2b, w2e]; exact ltZ_t (by omega)
      exact w7_4_0 (k0 := k0) (k1 := e1) (k2 := c1) (k3 := e1) (k4 := c2) (k5 := e1) (k6 := q1) (k7 := e1) (k8 := q2) (k9 := k3) (k10 := k4) (k11 := by rw [w2e]; exact fin' (dL el + 1) (by omega) _ (by omega))
     ·have k4 : ltZ (IntKind.wrap .i64 ((dL bd : Int) + Int.ofNat 1)) (IntKind.wrap .i64 ((dL el : Int) + Int.ofNat 1)) = false := by rw [w2b, w2e]; exact ltZ_f (by omega)
      exact w7_4_1 (k0 := k0) (k1 := e1) (k2 := c1) (k3 := e1) (k4 := c2) (k5 := e1) (k6 := q1) (k7 := e1) (k8 := q2) (k9 := k3) (k10 := k4) (k11 := by rw [w2b]; exact fin' (dL bd + 1) (by omega) _ (by omega))
    ·have k3 : ltZ (d : Int) (IntKind.wrap .i64 ((dL bd : Int) + Int.ofNat 1)) = false := by rw [w2b]; exact ltZ_f (by omega)
     by_cases q4 : d < dL el + 1
     ·have k4 : ltZ (d : Int) (IntKind.wrap .i64 ((dL el : Int) + Int.ofNat 1)) = true := by rw [w2e]; exact ltZ_t (by omega)
      exact w7_4_2 (k0 := k0) (k1 := e1) (k2 := c1) (k3 := e1) (k4 := c2) (k5 := e1) (k6 := q1) (k7 := e1) (k8 := q2) (k9 := k3) (k10 := k4) (k11 := by rw [w2e]; exact fin' (dL el + 1) (by omega) _ (by omega))
     ·have k4 : ltZ (d : Int) (IntKind.wrap .i64 ((dL el : Int) + Int.ofNat 1)) = false := by rw [w2e]; exact ltZ_f (by omega)
      exact w7_4_3 (k0 := k0) (k1 := e1) (k2 := c1) (k3 := e1) (k4 := c2) (k5 := e1) (k6 := q1) (k7 := e1) (k8 := q2) (k9 := k3) (k10 := k4) (k11 := fin' d hd _ (by omega))
theorem cntN_of {xs : List Ins} (hx : ∀ x, x ∈ xs → CntM m x) (hl : cL xs < 2 ^ 61) : CntN m xs := fun h => by
 have hn := nL_c xs
 have := cntN_loop hx hl (h := h) xs [] rfl 0 0 (by omega) (by decide)
 rw [Nat.zero_add, Nat.zero_max] at this
 exact callF_of rfl rfl (by kernel_rfl) (w7_0 (k0 := this))
mutual
theorem cntM : ∀ x : Ins, cI x < 2 ^ 61 → CntM m x
 | .mk _ _ _ _ _ l bd el _ => fun h => by
  rw [cI] at h
  exact ⟨cntN_of (cntMs bd (by omega)) (by omega), cntN_of (cntMs el (by omega)) (by omega)⟩
theorem cntMs : ∀ xs : List Ins, cL xs < 2 ^ 61 → ∀ x, x ∈ xs → CntM m x
 | [] => fun _ x hx => by cases hx
 | y :: ys => fun h x hx => by
  rw [cL] at h
  have h1 := cntM y (by omega)
  have h2 := cntMs ys (by omega)
  rcases List.mem_cons.1 hx with e | hx
  ·rw [e]; exact h1
  ·exact h2 x hx
end
theorem cnt8 {xs : List Ins} (hl : cL xs < 2 ^ 61) : CntN m xs := cntN_of (cntMs xs hl) hl
def LgN (m : Int) (xs : List Ins) : Prop := ∀ h : Heap, callF (cxZ m) (blk (cxZ m)) 16 [.v (.imm (encIs xs))] h = some (.v (.bool (lgL xs)), h)
def LgM (m : Int) : Ins → Prop
 | .mk _ _ _ _ _ _ bd el _ => LgN m bd ∧ LgN m el
theorem cv_by {bs : List Nat} (hb : ∀ x, x ∈ bs → x < 256) : cvA (Cx.P (cxZ m)) 26 9 (.imm (encBy bs)) = some (.v (.str (txt bs))) := by
 have e : cvA (Cx.P (cxZ m)) 26 9 (.imm (encBy bs)) = (bytesOf (encBy bs)).bind fun r => some (.v (.str ⟨r.toArray⟩)) := by kernel_rfl
 rw [e, bytes_by hb]
 rfl
theorem told18 {h : Heap} {id : Nat} {e : PErr} (hb : h.bx[id]? = some [.v (.int .i64 (e.1 : Int)), .v (.ifc 32 (.int .i64 e.2))]) : callF (cxZ m) (blk (cxZ m)) 18 [.v (.ifc 63 (.ptr id 0)), .v (.int .i64 (e.1 : Int)), .v (.int .i64 e.2)] h = some (.v (.bool true), h) := by
 refine callF_exr (e := isS) rfl rfl rfl rfl ?_
 unfold isS
 simp only [hb]
 simp
theorem qNil : qE m .nilI true := by
 show binF (Cx.P (cxZ m)) .eql 28 true .nilI .nilI = some (.bool true)
 kernel_rfl
def exA : List Ins := [.mk 65 0 0 4294967295 0 [] [] [] false]
theorem up7 (h : Heap) : ∃ h', callF (cxZ m) (blk (cxZ m)) 7 [] h = some (.v (.bool true), h') := by
 have hp := put9 (m := m) (xs := exA) (by decide) (by decide) h
 have hm : putV exA = .tup [.imm (encBy [65, 127, 11]), .nilI] := by
  have h1 : mayL opI exA = true := by kernel_rfl
  have h2 : lstB opI exA = [65, 127] := by kernel_rfl
  unfold putV
  rw [if_pos h1, h2]
  rfl
 rw [hm] at hp
 obtain ⟨h', x, hc, _, _, hx⟩ := get12 (m := m) (bs := [67]) (p := 0) (by decide) (by decide) (by decide) h
 have he : pExpr opI floB [67] 0 = .error (0, 3) := by kernel_rfl
 rw [he] at hx
 obtain ⟨id, _, rfl, hb⟩ := hx
 exact ⟨h', callF_of rfl rfl (by kernel_rfl) (p7_0 (k0 := hp) (k1 := hc) (k2 := qNil) (k3 := rfl) (k4 := cv_by (by decide)) (k5 := by kernel_rfl) (k6 := told18 hb))⟩
end
end Go.Proofs.YthcjapmfchidhaaGreatDoor
