/-
  What is read: it may be put, and is no longer then.
-/
import Derived.Test.YtacfojpdccahhaaGreatDoorAmLebC
namespace Go.Proofs.Am
open Go
theorem rdS_32 {w : Int} (hw : -2147483648 ≤ w ∧ w < 2147483648) {n : Nat} (hn : n ≤ 4) (hi : inR n w) : rdS (valD (dgs (n + 1) w)) (n + 1) 32 = some (w % 18446744073709551616).toNat := by
 have hv := valD_dgs (n + 1) w
 generalize valD (dgs (n + 1) w) = V at *
 unfold rdS sxt
 unfold inR at hi
 have hc : n = 0 ∨ n = 1 ∨ n = 2 ∨ n = 3 ∨ n = 4 := by omega
 rcases hc with rfl | rfl | rfl | rfl | rfl
 all_goals
  simp only [Nat.reduceAdd, Nat.reduceMul, Nat.reducePow, Int.reducePow, Int.reduceMul, Int.reduceNeg, Nat.reduceLeDiff, true_or, if_true, false_or, Nat.reduceSub] at hv hi ⊢
  split
  ·first
    | (rw [if_pos (by omega)]; simp only [Option.some.injEq]; omega)
    | (simp only [Option.some.injEq]; omega)
  ·first
    | (rw [if_pos (by omega)]; simp only [Option.some.injEq]; omega)
    | (simp only [Option.some.injEq]; omega)
theorem uL_is {a : Int} (h : numZ a = true) : ∃ n, n ≤ 4 ∧ uL a = dgR (n + 1) a ∧ a < 128 ^ (n + 1) := by
 unfold numZ at h
 rw [Bool.and_eq_true, decide_eq_true_eq, decide_eq_true_eq] at h
 obtain ⟨n, h1, h2, h3⟩ := fewest (v := a.toNat) 4 (by simp only [Nat.reduceAdd, Nat.reducePow]; omega)
 refine ⟨n, h1, ?_, ?_⟩
 ·unfold uL
  rw [uB_dgR n 10 a.toNat h2 h3 (by omega), Int.toNat_of_nonneg h.1]
 ·have : ((a.toNat : Nat) : Int) < ((128 ^ (n + 1) : Nat) : Int) := Int.ofNat_lt.2 h2
  rw [Int.toNat_of_nonneg h.1, Int.natCast_pow] at this
  exact this
theorem pNum_put {a : Int} (h : numZ a = true) (pre more : List Nat) : pNum (pre ++ (uL a ++ more)) pre.length = .ok (a, pre.length + (uL a).length) := by
 obtain ⟨n, h1, h2, h3⟩ := uL_is h
 unfold numZ at h
 rw [Bool.and_eq_true, decide_eq_true_eq, decide_eq_true_eq] at h
 have hv := valD_dgs (n + 1) a
 rw [Int.emod_eq_of_lt h.1 h3] at hv
 unfold pNum
 rw [h2, digN_dg (n + 1) 5 a (by omega) (by omega), dgR_len]
 simp only
 rw [hv, if_pos (by show valD (dgs (n + 1) a) < 4294967296; omega)]
theorem pCon32_put {v : Int} (h0 : 0 ≤ v) (h1 : v ≤ 4294967295) (pre more : List Nat) : pCon (pre ++ (sB 10 (sg32 v) ++ more)) false pre.length = .ok (v, pre.length + (sB 10 (sg32 v)).length) := by
 have hw : -2147483648 ≤ sg32 v ∧ sg32 v < 2147483648 := by unfold sg32; split <;> omega
 have hm : (sg32 v % 18446744073709551616).toNat % 4294967296 = v.toNat := by unfold sg32; split <;> omega
 obtain ⟨n, k1, k2, k3⟩ := fewestS (w := sg32 v) 4 (by unfold inR; rw [show (128 : Int) ^ 4 = 268435456 by decide]; omega)
 have e := sB_dg n 10 (sg32 v) k2 (by cases n with | zero => exact .inl rfl | succ n => exact .inr (k3 n (by omega))) (by omega)
 unfold pCon
 rw [e, if_neg (by decide), digN_dg (n + 1) 5 _ (by omega) (by omega), dgR_len]
 simp only [Bool.false_eq_true, if_false]
 rw [dgs_len, rdS_32 hw k1 k2]
 simp only
 rw [hm, Int.toNat_of_nonneg h0]
theorem pCon64_put {v : Int} (h0 : 0 ≤ v) (h1 : v < 18446744073709551616) (pre more : List Nat) : pCon (pre ++ (sB 10 (sg64 v) ++ more)) true pre.length = .ok (v, pre.length + (sB 10 (sg64 v)).length) := by
 have hw : -9223372036854775808 ≤ sg64 v ∧ sg64 v < 9223372036854775808 := by unfold sg64; split <;> omega
 have hm : (sg64 v % 18446744073709551616).toNat = v.toNat := by unfold sg64; split <;> omega
 obtain ⟨n, k1, k2, k3, k4⟩ := sB_is hw
 unfold pCon
 rw [k2, if_pos rfl, digN_dg (n + 1) 10 _ (by omega) (by omega), dgR_len]
 simp only [if_true]
 rw [dgs_len, (rdS_put hw k1).2 k3]
 simp only
 rw [hm, Int.toNat_of_nonneg h0]
theorem pNums_put : ∀ (l : List Int) (pre more : List Nat), l.all numZ = true → pNums (pre ++ ((l.map uL).flatten ++ more)) l.length pre.length = .ok (l, pre.length + ((l.map uL).flatten).length)
 | [], pre, more, _ => by simp [pNums]
 | a :: l, pre, more, h => by
  rw [List.all_cons, Bool.and_eq_true] at h
  have h1 := pNum_put h.1 pre ((l.map uL).flatten ++ more)
  have ih := pNums_put l (pre ++ uL a) more h.2
  rw [List.map_cons, List.flatten_cons, List.append_assoc, List.length_cons, pNums, h1]
  simp only
  rw [List.append_assoc, List.length_append] at ih
  rw [ih]
  simp only
  congr 2
  rw [List.length_append]; omega
structure OpLaw (OP : Int → Option OpR) : Prop where
 rng : ∀ {z r}, OP z = some r → 0 ≤ z ∧ z < 192
 k2 : ∀ {z r}, OP z = some r → (r.kind = 2 ↔ 2 ≤ z ∧ z ≤ 4)
 k3 : ∀ {z r}, OP z = some r → (r.kind = 3 ↔ 12 ≤ z ∧ z ≤ 15)
 k4 : ∀ {z r}, OP z = some r → (r.kind = 4 ↔ 16 ≤ z ∧ z ≤ 17)
 k10 : ∀ {z r}, OP z = some r → (r.kind = 10 ↔ z = 65 ∨ z = 66)
 g10 : ∀ {z r}, OP z = some r → r.kind = 10 → (r.gives = 1 ↔ z = 65)
 no : OP 5 = none ∧ OP 11 = none
mutual
def nI : Ins → Nat
 | .mk _ _ _ _ _ _ bd el _ => 1 + nL bd + nL el
def nL : List Ins → Nat
 | [] => 0
 | x :: xs => nI x + nL xs
end
mutual
def dI : Ins → Nat
 | .mk o _ _ _ _ _ bd el _ => if 2 ≤ o ∧ o ≤ 4 then max (dL bd) (dL el) + 1 else 0
def dL : List Ins → Nat
 | [] => 0
 | x :: xs => max (dI x) (dL xs)
end
mutual
def lgI : Ins → Bool
 | .mk _ _ _ _ _ l bd el _ => decide (64 < l.length) || lgL bd || lgL el
def lgL : List Ins → Bool
 | [] => false
 | x :: xs => lgI x || lgL xs
end
theorem pMust0 (pre more : List Nat) : pMust (pre ++ (0 :: more)) 0 pre.length = .ok ((), pre.length + 1) := by
 unfold pMust pByte
 rw [List.getElem?_append_right (Nat.le_refl _), Nat.sub_self, List.getElem?_cons_zero]
 simp
theorem isE {A : Type} {l : List A} (h : l.isEmpty = true) : l = [] := List.isEmpty_iff.1 h
theorem pPlain_put {OP : Int → Option OpR} (F : OpLaw OP) {r : OpR} {o a b v : Int} {l : List Int} (hop : OP o = some r) (hm : mayP r o a b v l = true) (hv : 0 ≤ v ∧ v < 18446744073709551616) (hl : l.length ≤ 64) (pre more : List Nat) :
  pPlain (pre ++ (plainB r o a b v l ++ more)) r o pre.length = .ok (.mk o a b v 0 l [] [] false, pre.length + (plainB r o a b v l).length) := by
 have f3 := F.k3 hop
 have f4 := F.k4 hop
 have f10 := F.k10 hop
 unfold mayP at hm
 unfold pPlain plainB
 by_cases h78 : r.kind = 7 ∨ r.kind = 8
 ·rw [if_neg (by omega), if_pos h78] at hm
  simp only [if_pos h78]
  simp only [Bool.and_eq_true, decide_eq_true_eq] at hm
  obtain ⟨⟨ha, hb⟩, hv0, hl0⟩ := hm
  obtain rfl := isE hl0
  subst hv0
  have h1 := pNum_put ha pre (uL b ++ more)
  have h2 := pNum_put hb (pre ++ uL a) more
  rw [List.append_assoc, List.length_append] at h2
  unfold pNum2
  rw [List.append_assoc, h1]
  simp only
  rw [h2]
  simp only
  rw [List.length_append, Nat.add_assoc]
 simp only [if_neg h78]
 rw [if_neg h78] at hm
 by_cases h9 : r.kind = 9
 ·rw [if_neg (by omega), if_neg (by omega), if_neg (by omega)] at hm
  simp only [Bool.and_eq_true, decide_eq_true_eq] at hm
  obtain ⟨⟨⟨rfl, rfl⟩, rfl⟩, hl0⟩ := hm
  obtain rfl := isE hl0
  simp only [if_pos h9]
  rw [List.singleton_append, pMust0]
  rfl
 simp only [if_neg h9]
 by_cases h65 : o = 65
 ·have hk : r.kind = 10 := f10.2 (.inl h65)
  rw [if_pos hk] at hm
  simp only [Bool.and_eq_true, decide_eq_true_eq, Bool.not_eq_true', Bool.and_eq_false_imp, decide_eq_false_iff_not] at hm
  obtain ⟨h1, ⟨rfl, rfl⟩, hl0⟩ := hm
  obtain rfl := isE hl0
  simp only [if_pos h65]
  rw [pCon32_put hv.1 (by have := h1 ((F.g10 hop hk).2 h65); omega)]
 simp only [if_neg h65]
 by_cases h66 : o = 66
 ·have hk : r.kind = 10 := f10.2 (.inr h66)
  rw [if_pos hk] at hm
  simp only [Bool.and_eq_true, decide_eq_true_eq] at hm
  obtain ⟨_, ⟨rfl, rfl⟩, hl0⟩ := hm
  obtain rfl := isE hl0
  simp only [if_pos h66]
  rw [pCon64_put hv.1 hv.2]
 simp only [if_neg h66]
 rw [if_neg (by omega)] at hm
 by_cases h14 : o = 14
 ·rw [if_pos h14] at hm
  simp only [Bool.and_eq_true, decide_eq_true_eq, Bool.not_eq_true'] at hm
  obtain ⟨⟨hne, hall⟩, ⟨rfl, rfl⟩, rfl⟩ := hm
  simp only [if_pos h14]
  have hpos : 0 < l.length := by
   cases l with
   | nil => cases hne
   | cons x l => simp
  have h1 := pNum_put (a := (l.length : Int) - 1) (by unfold numZ; rw [Bool.and_eq_true, decide_eq_true_eq, decide_eq_true_eq]; omega) pre ((l.map uL).flatten ++ more)
  have h2 := pNums_put l (pre ++ uL ((l.length : Int) - 1)) more hall
  rw [List.append_assoc, List.length_append] at h2
  unfold pLabs
  rw [List.append_assoc, h1]
  simp only
  rw [if_neg (by omega), show ((l.length : Int) - 1).toNat + 1 = l.length by omega, h2]
  simp only
  rw [List.length_append, Nat.add_assoc]
 simp only [if_neg h14]
 rw [if_neg h14] at hm
 by_cases h17 : o = 17
 ·have hk : r.kind = 4 := f4.2 (by omega)
  rw [if_pos (.inl hk)] at hm
  simp only [Bool.and_eq_true, decide_eq_true_eq] at hm
  obtain ⟨ha, ⟨rfl, rfl⟩, hl0⟩ := hm
  obtain rfl := isE hl0
  simp only [if_pos h17]
  have h1 := pNum_put ha pre ([0] ++ more)
  have h2 := pMust0 (pre ++ uL a) more
  rw [List.append_assoc, List.length_append] at h2
  rw [List.append_assoc, h1]
  simp only
  rw [List.singleton_append, h2]
  simp only
  rw [List.length_append, Nat.add_assoc]; rfl
 simp only [if_neg h17]
 by_cases hc : r.kind = 4 ∨ r.kind = 6 ∨ o = 12 ∨ o = 13
 ·rw [if_pos (by omega)] at hm
  simp only [Bool.and_eq_true, decide_eq_true_eq] at hm
  obtain ⟨ha, ⟨rfl, rfl⟩, hl0⟩ := hm
  obtain rfl := isE hl0
  simp only [if_pos hc]
  rw [pNum_put ha]
 ·rw [if_neg (by omega)] at hm
  simp only [Bool.and_eq_true, decide_eq_true_eq] at hm
  obtain ⟨⟨⟨rfl, rfl⟩, rfl⟩, hl0⟩ := hm
  obtain rfl := isE hl0
  simp only [if_neg hc]
  rfl
mutual
def v64I : Ins → Bool
 | .mk _ _ _ v _ _ bd el _ => decide (0 ≤ v) && decide (v < 18446744073709551616) && v64L bd && v64L el
def v64L : List Ins → Bool
 | [] => true
 | x :: xs => v64I x && v64L xs
end
section
variable {OP : Int → Option OpR} {FL : Int → Bool}
theorem nL_len : ∀ xs : List Ins, xs.length ≤ nL xs
 | [] => Nat.le_refl _
 | .mk _ _ _ _ _ _ _ _ _ :: xs => by have := nL_len xs; simp only [List.length_cons, nL, nI]; omega
theorem pRes_put {t : Int} (h0 : 0 ≤ t) (h2 : t ≤ 2) (pre more : List Nat) : pRes (pre ++ (resB t :: more)) pre.length = .ok (t, pre.length + 1) := by
 unfold pRes pByte
 rw [List.getElem?_append_right (Nat.le_refl _), Nat.sub_self, List.getElem?_cons_zero]
 simp only
 have ht : t = 0 ∨ t = 1 ∨ t = 2 := by omega
 rcases ht with rfl | rfl | rfl <;> rfl
theorem get_mid (pre : List Nat) (x : Nat) (more : List Nat) : (pre ++ x :: more)[pre.length]? = some x := by
 rw [List.getElem?_append_right (Nat.le_refl _), Nat.sub_self, List.getElem?_cons_zero]
theorem back (F : OpLaw OP) : ∀ (f : Nat) (xs : List Ins) (d n : Nat) (pre : List Nat) (last : Nat) (more : List Nat), mayL OP xs = true → v64L xs = true → lgL xs = false → n + nL xs ≤ 512 → d + dL xs ≤ 32 → last = 11 ∨ last = 5 → (lstB OP xs).length < f →
  pList OP FL (pre ++ (lstB OP xs ++ last :: more)) f d pre.length n = .ok (xs, last, pre.length + (lstB OP xs).length + 1, n + nL xs) := by
 intro f
 induction f with
 | zero => intro xs d n pre last more _ _ _ _ _ _ h; omega
 | succ f ih =>
  intro xs d n pre last more hm hv hg hn hd hlast hf
  cases xs with
  | nil =>
   rw [lstB, List.nil_append, pList, get_mid]
   simp only
   rw [if_pos hlast]
   simp [nL]
  | cons x xs =>
   obtain ⟨o, a, b, v, t, l, bd, el, q⟩ := x
   rw [mayL, Bool.and_eq_true] at hm
   rw [v64L, Bool.and_eq_true] at hv
   rw [lgL, Bool.or_eq_false_iff] at hg
   rw [nL] at hn
   rw [dL] at hd
   obtain ⟨hmx, hms⟩ := hm
   unfold mayI at hmx
   cases hop : OP o with
   | none => rw [hop] at hmx; cases hmx
   | some r =>
   rw [hop] at hmx
   simp only at hmx
   obtain ⟨g0, g1⟩ := F.rng hop
   have k2 := F.k2 hop
   have ho : (o.toNat : Int) = o := Int.toNat_of_nonneg g0
   have hne : ¬ (o.toNat = 11 ∨ o.toNat = 5) := by
    intro hc
    rcases hc with hc | hc
    ·rw [show o = 11 by omega, F.no.2] at hop; cases hop
    ·rw [show o = 5 by omega, F.no.1] at hop; cases hop
   have hv1 := hv.1
   unfold v64I at hv1
   simp only [Bool.and_eq_true, decide_eq_true_eq] at hv1
   obtain ⟨⟨hvv, vb⟩, ve⟩ := hv1
   have hg1 := hg.1
   unfold lgI at hg1
   simp only [Bool.or_eq_false_iff, decide_eq_false_iff_not] at hg1
   obtain ⟨⟨gl, gb⟩, ge⟩ := hg1
   unfold nI at hn
   unfold dI at hd
   have rest : ∀ (W : List Nat), lstB OP (.mk o a b v t l bd el q :: xs) = W ++ lstB OP xs → (lstB OP xs).length < f →
     pList OP FL (pre ++ (lstB OP (.mk o a b v t l bd el q :: xs) ++ last :: more)) f d (pre.length + W.length) (n + nI (.mk o a b v t l bd el q)) = .ok (xs, last, pre.length + (lstB OP (.mk o a b v t l bd el q :: xs)).length + 1, n + nL (.mk o a b v t l bd el q :: xs)) := by
    intro W hW hlt
    have := ih xs d (n + nI (.mk o a b v t l bd el q)) (pre ++ W) last more hms hv.2 hg.2 (by unfold nI; omega) (by omega) hlast hlt
    rw [List.length_append] at this
    rw [hW, List.append_assoc, ← List.append_assoc pre, this]
    congr 4
    ·rw [List.length_append]; omega
    ·rw [nL]; omega
   by_cases h2 : r.kind = 2
   ·rw [if_pos h2] at hmx
    simp only [Bool.and_eq_true, decide_eq_true_eq, Bool.not_eq_true'] at hmx
    obtain ⟨⟨⟨⟨⟨⟨t0, t2⟩, mb⟩, me⟩, hq4⟩, hqe⟩, ⟨⟨⟨rfl, rfl⟩, rfl⟩, hl0⟩⟩ := hmx
    obtain rfl := isE hl0
    have ho4 := k2.1 h2
    rw [if_pos ho4] at hd
    have hW : lstB OP (.mk o 0 0 0 t [] bd el q :: xs) = (o.toNat :: resB t :: (lstB OP bd ++ ((if q then 5 :: lstB OP el else []) ++ [11]))) ++ lstB OP xs := by
     rw [lstB, insB, hop]
     simp only [if_pos h2]
    have R := rest _ hW
    rw [hW] at R hf ⊢
    simp only [List.append_assoc, List.cons_append, List.nil_append, List.length_append, List.length_cons, List.length_nil] at R hf ⊢
    rw [pList, get_mid]
    simp only
    rw [if_neg hne, ho, hop]
    simp only
    rw [if_neg (by omega), pIns, if_pos h2]
    have hres := pRes_put t0 t2 (pre ++ [o.toNat]) ((lstB OP bd ++ ((if q then 5 :: lstB OP el else []) ++ [11])) ++ lstB OP xs ++ last :: more)
    simp only [List.append_assoc, List.cons_append, List.nil_append, List.length_append, List.length_cons, List.length_nil] at hres
    rw [hres]
    simp only
    cases q with
    | false =>
     simp only [Bool.false_eq_true, if_false, List.nil_append, List.length_nil, Nat.zero_add] at R hf ⊢
     have hb := ih bd (d + 1) (n + 1) (pre ++ [o.toNat, resB t]) 11 (lstB OP xs ++ last :: more) mb vb gb (by omega) (by omega) (.inl rfl) (by simp at hf; omega)
     simp only [List.append_assoc, List.cons_append, List.nil_append, List.length_append, List.length_cons, List.length_nil] at hb
     have hel : el = [] := by
      cases el with
      | nil => rfl
      | cons => simp at hqe
     subst hel
     rw [show pre.length + 1 + 1 = pre.length + (0 + 1 + 1) by omega, hb]
     simp only
     rw [if_neg (by decide)]
     simp only
     have R2 := R (by simp at hf; omega)
     simp only [nI, nL, Nat.add_zero] at R2
     rw [show pre.length + (0 + 1 + 1) + (lstB OP bd).length + 1 = pre.length + ((lstB OP bd).length + 1 + 1 + 1) by omega, show n + 1 + nL bd = n + (1 + nL bd) by omega, R2]
     simp only [nL, nI, Nat.add_zero]
    | true =>
     have o4 : o = 4 := by simpa using hq4
     simp only [if_true, List.cons_append, List.length_cons, Nat.zero_add] at R hf ⊢
     have hb := ih bd (d + 1) (n + 1) (pre ++ [o.toNat, resB t]) 5 (lstB OP el ++ 11 :: (lstB OP xs ++ last :: more)) mb vb gb (by omega) (by omega) (.inr rfl) (by simp at hf; omega)
     have he := ih el (d + 1) (n + 1 + nL bd) (pre ++ o.toNat :: resB t :: (lstB OP bd ++ [5])) 11 (lstB OP xs ++ last :: more) me ve ge (by omega) (by omega) (.inl rfl) (by simp at hf; omega)
     simp only [List.append_assoc, List.cons_append, List.nil_append, List.length_append, List.length_cons, List.length_nil] at hb he
     rw [show pre.length + 1 + 1 = pre.length + (0 + 1 + 1) by omega, hb]
     simp only
     rw [if_pos trivial, if_pos o4, show pre.length + (0 + 1 + 1) + (lstB OP bd).length + 1 = pre.length + ((lstB OP bd).length + (0 + 1) + 1 + 1) by omega, he]
     simp only
     rw [if_neg (by decide)]
     simp only
     have R2 := R (by simp at hf; omega)
     simp only [nI] at R2
     rw [show pre.length + ((lstB OP bd).length + (0 + 1) + 1 + 1) + (lstB OP el).length + 1 = pre.length + ((lstB OP bd).length + ((lstB OP el).length + (0 + 1) + 1) + 1 + 1) by omega, show n + 1 + nL bd + nL el = n + (1 + nL bd + nL el) by omega, R2]
   ·rw [if_neg h2] at hmx
    simp only [Bool.and_eq_true, decide_eq_true_eq, Bool.not_eq_true'] at hmx
    obtain ⟨hp, ⟨⟨rfl, hb0⟩, he0⟩, rfl⟩ := hmx
    obtain rfl := isE hb0
    obtain rfl := isE he0
    have hW : lstB OP (.mk o a b v 0 l [] [] false :: xs) = (o.toNat :: plainB r o a b v l) ++ lstB OP xs := by
     rw [lstB, insB, hop]
     simp only [if_neg h2]
    have R := rest _ hW
    rw [hW] at R hf ⊢
    simp only [List.append_assoc, List.cons_append, List.length_append, List.length_cons] at R hf ⊢
    rw [pList, get_mid]
    simp only
    rw [if_neg hne, ho, hop]
    simp only
    rw [if_neg (by omega), pIns, if_neg h2]
    have hpp := pPlain_put F hop hp hvv (by omega) (pre ++ [o.toNat]) (lstB OP xs ++ last :: more)
    simp only [List.append_assoc, List.cons_append, List.nil_append, List.length_append, List.length_cons, List.length_nil] at hpp
    rw [hpp]
    simp only
    have R2 := R (by omega)
    simp only [nI, nL, Nat.add_zero] at R2
    rw [show pre.length + 1 + (plainB r o a b v l).length = pre.length + ((plainB r o a b v l).length + 1) by omega, R2]
    simp only [nL, nI, Nat.add_zero]
end
end Go.Proofs.Am
namespace Go.Proofs.Am
open Go
structure ListOk (OP : Int → Option OpR) (bs : List Nat) (d p n : Nat) (xs : List Ins) (l q n' : Nat) : Prop where
 sz : p + (lstB OP xs).length + 1 ≤ q
 qb : q ≤ bs.length
 ne : n' = n + nL xs
 n5 : n ≤ 512 → n' ≤ 512
 lb : l = 11 ∨ l = 5
 may : mayL OP xs = true
 vv : v64L xs = true
 lg : lgL xs = false
 dd : d ≤ 32 → d + dL xs ≤ 32
structure InsOk (OP : Int → Option OpR) (bs : List Nat) (o : Int) (d p n : Nat) (x : Ins) (q n' : Nat) : Prop where
 sz : p + (insB OP x).length ≤ q + 1
 qb : q ≤ bs.length
 ne : n' = n + (nI x - 1)
 n5 : n ≤ 512 → n' ≤ 512
 may : mayI OP x = true
 vv : v64I x = true
 lg : lgI x = false
 dd : d ≤ 32 → d + dI x ≤ 32
 n1 : 1 ≤ nI x
end Go.Proofs.Am
