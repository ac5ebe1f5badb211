/-
  What 'may' tells of any instruction; how many a list counts, and how deep it is.
-/
import Derived.Test.YtmgjnbhofkchmaaDoorAmS05p
import Derived.Test.YtmgjnbhofkchmaaDoorAmS05m

namespace Go.Proofs.YtmgjnbhofkchmaaDoor
open Go Go.Proofs.Am

open Classical in
/-- What 'may' tells, where it tells. -/
noncomputable def mayB (m : Int) (x : Ins) : Bool := if h : ∃ b, MT m x b then Classical.choose h else false
/-! ### Count -/
mutual
def cI : Ins → Nat
  | .mk _ _ _ _ _ _ bd el _ => 1 + cL bd + cL el
def cL : List Ins → Nat
  | [] => 0
  | x :: xs => cI x + cL xs
end
def mx (a b : Int) : Int := bif decide (b < a) then a else b
theorem mx_max (a b : Int) : mx a b = max a b := by
  unfold mx
  cases h : decide (b < a) with
  | true => have := of_decide_eq_true h; rw [cond_true]; omega
  | false => have := of_decide_eq_false h; rw [cond_false]; omega
mutual
def dI (B : Ins → Bool) : Ins → Int
  | .mk o a b v t l bd el q => bif B (.mk o a b v t l bd el q) then max (IntKind.wrap .i64 (1 + dL B bd)) (IntKind.wrap .i64 (1 + dL B el)) else 0
def dL (B : Ins → Bool) : List Ins → Int
  | [] => 0
  | x :: xs => max (dI B x) (dL B xs)
end
theorem dL_nn (B : Ins → Bool) : ∀ l, 0 ≤ dL B l
  | [] => by rw [dL]; omega
  | x :: l => by have := dL_nn B l; rw [dL]; omega
def WC (n : Nat) : Int := IntKind.wrap .i64 (Int.ofNat n)
/-- What Count tells of a list. -/
def CT (m : Int) (B : Ins → Bool) (l : List Ins) : Prop := ∀ h, callF (cxZ m) (blk (cxZ m)) 8 [.v (.imm (encIs l))] h = some (.tup [.int .i64 (WC (cL l)), .int .i64 (dL B l)], h)
/-- An instruction is a block, or not. -/
def BT (m : Int) (x : Ins) (b : Bool) : Prop := ∀ h, callF (cxZ m) (blk (cxZ m)) 20 [.v (.agg (encI x))] h = some (.v (.bool b), h)
theorem bt_all (m : Int) (x : Ins) : ∃ b, BT m x b := by
  obtain ⟨o, a, b, v, t, l, bd, el, q⟩ := x
  exact s20_call m o a b v t (encN l) (encIs bd) (encIs el) q
noncomputable def bB (m : Int) (x : Ins) : Bool := Classical.choose (bt_all m x)
theorem bB_of (m : Int) (x : Ins) : BT m x (bB m x) := Classical.choose_spec (bt_all m x)

theorem wc_step (c b e : Nat) : IntKind.wrap .i64 (WC c + IntKind.wrap .i64 (IntKind.wrap .i64 (Int.ofNat 1 + WC b) + WC e)) = WC (c + (1 + b + e)) := by
  unfold WC
  simp only [IntKind.wrap_i64, show ∀ n : Nat, Int.ofNat n = (n : Int) from fun _ => rfl]
  omega
theorem d_step {x : Bool} {d b e : Int} (hx : x = true) :
    (bif decide (IntKind.wrap IntKind.i64 (1 + e) > bif decide (IntKind.wrap IntKind.i64 (1 + b) > d) then IntKind.wrap IntKind.i64 (1 + b) else d) then IntKind.wrap IntKind.i64 (Int.ofNat 1 + e) else bif decide (IntKind.wrap IntKind.i64 (1 + b) > d) then IntKind.wrap IntKind.i64 (Int.ofNat 1 + b) else d)
      = max d (bif x then max (IntKind.wrap .i64 (1 + b)) (IntKind.wrap .i64 (1 + e)) else 0) := by
  subst hx
  rw [cond_true, show (Int.ofNat 1 : Int) = 1 from rfl]
  show mx (IntKind.wrap .i64 (1 + e)) (mx (IntKind.wrap .i64 (1 + b)) d) = _
  rw [mx_max, mx_max]
  omega
theorem loop8 (m : Int) (l : List Ins) (hl : l.length ≤ maxLen) (hc : ∀ o a b v t ll bd el q, Ins.mk o a b v t ll bd el q ∈ l → CT m (bB m) bd ∧ CT m (bB m) el) : ∀ (k i : Nat), i + k = l.length → ∀ (c : Nat) (d : Int) (_ : 0 ≤ d) (h : Heap),
    blk (cxZ m) 8 (at_ Tryd.prog 8 3) [.v (.int .i64 (WC c)), .v (.int .i64 d), .v (.imm (encIs l)), .v (.int .i64 (Int.ofNat l.length)), .v (.int .i64 (Int.ofNat i))] h = some (.tup [.int .i64 (WC (c + cL (l.drop i))), .int .i64 (max d (dL (bB m) (l.drop i)))], h)
  | 0, i, hi, c, d, hd, h => by
    obtain rfl : i = l.length := by omega
    rw [List.drop_length, cL, dL, Nat.add_zero, show max d 0 = d from by omega]
    exact s8_3_2 m _ _ _ _ _ h (ltZ_false (Nat.le_refl _))
  | k + 1, i, hi, c, d, hd, h => by
    have hlt : i < l.length := by omega
    have hm : l[i] ∈ l := List.getElem_mem hlt
    have hB := bB_of m l[i]
    have hix := ix_enc hlt
    rw [List.drop_eq_getElem_cons hlt, cL, dL, ← Nat.add_assoc, ← Int.max_assoc]
    generalize l[i] = x at hm hix hB
    obtain ⟨o, a, bb, v, t, ll, bd, el, q⟩ := x
    obtain ⟨h1, h2⟩ := hc _ _ _ _ _ _ _ _ _ hm
    cases hb : bB m (.mk o a bb v t ll bd el q) with
    | true =>
      rw [hb] at hB
      refine s8_3_0 m _ _ _ _ i h _ _ _ _ _ _ _ _ _ _ _ h _ _ h true h _ (ltZ_true hlt) hix (h1 h) (h2 h) (hB h) rfl ?_
      rw [wc_step, d_step rfl, show Int.ofNat (Nat.succ i) = Int.ofNat (i + 1) from rfl, wrapN (by have := maxLen_eq; omega)]
      rw [cI, dI, hb, cond_true]
      exact loop8 m l hl hc k (i + 1) (by omega) _ _ (by omega) h
    | false =>
      rw [hb] at hB
      refine s8_3_1 m _ _ _ _ i h _ _ _ _ _ _ _ _ _ _ _ h _ _ h false h _ (ltZ_true hlt) hix (h1 h) (h2 h) (hB h) rfl ?_
      rw [wc_step, show Int.ofNat (Nat.succ i) = Int.ofNat (i + 1) from rfl, wrapN (by have := maxLen_eq; omega)]
      rw [cI, dI, hb, cond_false, show max d 0 = d from by omega]
      exact loop8 m l hl hc k (i + 1) (by omega) _ _ hd h
theorem ct_of (m : Int) (l : List Ins) (hl : l.length ≤ maxLen) (hc : ∀ o a b v t ll bd el q, Ins.mk o a b v t ll bd el q ∈ l → CT m (bB m) bd ∧ CT m (bB m) el) : CT m (bB m) l := by
  intro h
  refine callZ rfl (by kernel_rfl) (by kernel_rfl) (s8_0 m _ h _ ?_)
  have := loop8 m l hl hc l.length 0 (by omega) 0 0 (by omega) h
  rw [List.drop_zero, Nat.zero_add, show max 0 (dL (bB m) l) = dL (bB m) l from by have := dL_nn (bB m) l; omega] at this
  rw [encIs_len]
  exact this
theorem ct_ins (m : Int) {x : Ins} (hx : Fit x) : ∀ o a b v t ll bd el q, x = Ins.mk o a b v t ll bd el q → CT m (bB m) bd ∧ CT m (bB m) el := by
  induction hx with
  | mk o a b v t l bd el q hl hb he h1 h2 i1 i2 =>
    intro o' a' b' v' t' l' bd' el' q' e
    cases e
    exact ⟨ct_of m bd hb fun o a b v t ll bd el q hm => i1 _ hm o a b v t ll bd el q rfl,
      ct_of m el he fun o a b v t ll bd el q hm => i2 _ hm o a b v t ll bd el q rfl⟩
theorem count8 (m : Int) (l : List Ins) (hl : l.length ≤ maxLen) (hf : ∀ x, x ∈ l → Fit x) : CT m (bB m) l :=
  ct_of m l hl fun o a b v t ll bd el q hm => ct_ins m (hf _ hm) o a b v t ll bd el q rfl

/-! ### The document's Count tells something -/
def RT (m : Int) (l : List Ins) : Prop := ∃ n d : Int, ∀ h, callF (cxZ m) (blk (cxZ m)) 7 [.v (.imm (encIs l))] h = some (.tup [.int .i64 n, .int .i64 d], h)
theorem loop7 (m : Int) (l : List Ins) (hl : l.length ≤ maxLen) (hc : ∀ o a b v t ll bd el q, Ins.mk o a b v t ll bd el q ∈ l → RT m bd ∧ RT m el) : ∀ (k i : Nat), i + k = l.length → ∀ (c d : Int), ∃ n d' : Int, ∀ (h : Heap),
    blk (cxZ m) 7 (at_ Tryd.prog 7 4) [.v (.imm (encIs l)), .v (.int .i64 c), .v (.int .i64 d), .v (.int .i64 (Int.ofNat i))] h = some (.tup [.int .i64 n, .int .i64 d'], h)
  | 0, i, hi, c, d => by
    obtain rfl : i = l.length := by omega
    exact ⟨c, d, fun h => s7_4_6 m _ _ _ _ h (by rw [encIs_len]; exact ltZ_false (Nat.le_refl _))⟩
  | k + 1, i, hi, c, d => by
    have hlt : i < l.length := by omega
    have hm : l[i] ∈ l := List.getElem_mem hlt
    have hix := ix_enc hlt
    have hl1 : ltZ (Int.ofNat i) (Int.ofNat (encIs l).length) = true := by rw [encIs_len]; exact ltZ_true hlt
    have ih := loop7 m l hl hc k (i + 1) (by omega)
    have hw : IntKind.wrap .i64 (Int.ofNat (Nat.succ i)) = Int.ofNat (i + 1) := wrapN (by have := maxLen_eq; omega)
    rw [← hw] at ih
    generalize l[i] = x at hm hix
    obtain ⟨o, a, bb, v, t, ll, bd, el, q⟩ := x
    obtain ⟨⟨n1, d1, h1⟩, ⟨n2, d2, h2⟩⟩ := hc _ _ _ _ _ _ _ _ _ hm
    cases q1 : leZ (Int.ofNat 2) o with
    | false =>
      obtain ⟨n', d', hh⟩ := ih _ _
      exact ⟨n', d', fun h => s7_4_5 m _ _ _ i h _ _ _ _ _ _ _ _ _ _ _ _ _ _ _ _ _ _ _ _ _ _ _ _ _ _ _ _ _ _ _ _ _ _ hl1 hix (h1 h) hix (h2 h) hix q1 (hh h)⟩
    | true =>
      cases q2 : leZ o (Int.ofNat 4) with
      | false =>
        obtain ⟨n', d', hh⟩ := ih _ _
        exact ⟨n', d', fun h => s7_4_4 m _ _ _ i h _ _ _ _ _ _ _ _ _ _ _ _ _ _ _ _ _ _ _ _ _ _ _ _ _ _ _ _ _ _ _ _ _ _ _ _ _ _ _ _ _ _ _ hl1 hix (h1 h) hix (h2 h) hix q1 hix q2 (hh h)⟩
      | true =>
        cases q3 : ltZ d (IntKind.wrap IntKind.i64 (d1 + Int.ofNat 1)) with
        | true =>
          cases q4 : ltZ (IntKind.wrap IntKind.i64 (d1 + Int.ofNat 1)) (IntKind.wrap IntKind.i64 (d2 + Int.ofNat 1)) with
          | true =>
            obtain ⟨n', d', hh⟩ := ih _ _
            exact ⟨n', d', fun h => s7_4_0 m _ _ _ i h _ _ _ _ _ _ _ _ _ _ _ _ _ _ _ _ _ _ _ _ _ _ _ _ _ _ _ _ _ _ _ _ _ _ _ _ _ _ _ _ _ _ _ hl1 hix (h1 h) hix (h2 h) hix q1 hix q2 q3 q4 (hh h)⟩
          | false =>
            obtain ⟨n', d', hh⟩ := ih _ _
            exact ⟨n', d', fun h => s7_4_1 m _ _ _ i h _ _ _ _ _ _ _ _ _ _ _ _ _ _ _ _ _ _ _ _ _ _ _ _ _ _ _ _ _ _ _ _ _ _ _ _ _ _ _ _ _ _ _ hl1 hix (h1 h) hix (h2 h) hix q1 hix q2 q3 q4 (hh h)⟩
        | false =>
          cases q4 : ltZ d (IntKind.wrap IntKind.i64 (d2 + Int.ofNat 1)) with
          | true =>
            obtain ⟨n', d', hh⟩ := ih _ _
            exact ⟨n', d', fun h => s7_4_2 m _ _ _ i h _ _ _ _ _ _ _ _ _ _ _ _ _ _ _ _ _ _ _ _ _ _ _ _ _ _ _ _ _ _ _ _ _ _ _ _ _ _ _ _ _ _ _ hl1 hix (h1 h) hix (h2 h) hix q1 hix q2 q3 q4 (hh h)⟩
          | false =>
            obtain ⟨n', d', hh⟩ := ih _ _
            exact ⟨n', d', fun h => s7_4_3 m _ _ _ i h _ _ _ _ _ _ _ _ _ _ _ _ _ _ _ _ _ _ _ _ _ _ _ _ _ _ _ _ _ _ _ _ _ _ _ _ _ _ _ _ _ _ _ hl1 hix (h1 h) hix (h2 h) hix q1 hix q2 q3 q4 (hh h)⟩
theorem rt_of (m : Int) (l : List Ins) (hl : l.length ≤ maxLen) (hc : ∀ o a b v t ll bd el q, Ins.mk o a b v t ll bd el q ∈ l → RT m bd ∧ RT m el) : RT m l := by
  obtain ⟨n, d, hh⟩ := loop7 m l hl hc l.length 0 (by omega) (Int.ofNat 0) (Int.ofNat 0)
  exact ⟨n, d, fun h => callZ rfl (by kernel_rfl) (by kernel_rfl) (s7_0 m _ h _ (hh h))⟩
theorem rt_ins (m : Int) {x : Ins} (hx : Fit x) : ∀ o a b v t ll bd el q, x = Ins.mk o a b v t ll bd el q → RT m bd ∧ RT m el := by
  induction hx with
  | mk o a b v t l bd el q hl hb he h1 h2 i1 i2 =>
    intro o' a' b' v' t' l' bd' el' q' e
    cases e
    exact ⟨rt_of m bd hb fun o a b v t ll bd el q hm => i1 _ hm o a b v t ll bd el q rfl,
      rt_of m el he fun o a b v t ll bd el q hm => i2 _ hm o a b v t ll bd el q rfl⟩
theorem count7 (m : Int) (l : List Ins) (hl : l.length ≤ maxLen) (hf : ∀ x, x ∈ l → Fit x) : RT m l :=
  rt_of m l hl fun o a b v t ll bd el q hm => rt_ins m (hf _ hm) o a b v t ll bd el q rfl
end Go.Proofs.YtmgjnbhofkchmaaDoor
