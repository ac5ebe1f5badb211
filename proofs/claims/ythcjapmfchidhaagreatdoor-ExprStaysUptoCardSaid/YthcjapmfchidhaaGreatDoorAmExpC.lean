/-
  What is read: it may be put, and is no longer then.
-/
import Derived.Test.YthcjapmfchidhaaGreatDoorAmHeap
namespace Go.Proofs.Am
open Go
theorem rdS_32 {w : Int} (hw : -2147483648 ≤ w ∧ w < 2147483648) {n : Nat} (hn : n ≤ 4) (hi : inR n w) : rdS (valD (dgs (n + 1) w)) (n + 1) 32 = some (w % 18446744073709551616).toNat := by
 have hv := valD_dgs (n + 1) w
 generalize valD (dgs (n + 1) w) = V at *
 unfold rdS sxt
 unfold inR at hi
 have hc : n = 0 ∨ n = 1 ∨ n = 2 ∨ n = 3 ∨ n = 4 := by omega
 rcases hc with rfl | rfl | rfl | rfl | rfl
 all_goals
  simp only [Nat.reduceAdd, Nat.reduceMul, Nat.reducePow, Int.reducePow, Int.reduceMul, Int.reduceNeg, Nat.reduceLeDiff, true_or, if_true, false_or, Nat.reduceSub] at hv hi ⊢
  split
  ·first
    | (rw [if_pos (by omega)]; simp only [Option.some.injEq]; omega)
    | (simp only [Option.some.injEq]; omega)
  ·first
    | (rw [if_pos (by omega)]; simp only [Option.some.injEq]; omega)
    | (simp only [Option.some.injEq]; omega)
theorem uL_is {a : Int} (h : numZ a = true) : ∃ n, n ≤ 4 ∧ uL a = dgR (n + 1) a ∧ a < 128 ^ (n + 1) := by
 unfold numZ at h
 rw [Bool.and_eq_true, decide_eq_true_eq, decide_eq_true_eq] at h
 obtain ⟨n, h1, h2, h3⟩ := fewest (v := a.toNat) 4 (by simp only [Nat.reduceAdd, Nat.reducePow]; omega)
 refine ⟨n, h1, ?_, ?_⟩
 ·unfold uL
  rw [uB_dgR n 10 a.toNat h2 h3 (by omega), Int.toNat_of_nonneg h.1]
 ·have : ((a.toNat : Nat) : Int) < ((128 ^ (n + 1) : Nat) : Int) := Int.ofNat_lt.2 h2
  rw [Int.toNat_of_nonneg h.1, Int.natCast_pow] at this
  exact this
theorem pNum_put {a : Int} (h : numZ a = true) (pre more : List Nat) : pNum (pre ++ (uL a ++ more)) pre.length = .ok (a, pre.length + (uL a).length) := by
 obtain ⟨n, h1, h2, h3⟩ := uL_is h
 unfold numZ at h
 rw [Bool.and_eq_true, decide_eq_true_eq, decide_eq_true_eq] at h
 have hv := valD_dgs (n + 1) a
 rw [Int.emod_eq_of_lt h.1 h3] at hv
 unfold pNum
 rw [h2, digN_dg (n + 1) 5 a (by omega) (by omega), dgR_len]
 simp only
 rw [hv, if_pos (by show valD (dgs (n + 1) a) < 4294967296; omega)]
theorem pCon32_put {v : Int} (h0 : 0 ≤ v) (h1 : v ≤ 4294967295) (pre more : List Nat) : pCon (pre ++ (sB 10 (sg32 v) ++ more)) false pre.length = .ok (v, pre.length + (sB 10 (sg32 v)).length) := by
 have hw : -2147483648 ≤ sg32 v ∧ sg32 v < 2147483648 := by unfold sg32; split <;> omega
 have hm : (sg32 v % 18446744073709551616).toNat % 4294967296 = v.toNat := by unfold sg32; split <;> omega
 obtain ⟨n, k1, k2, k3⟩ := fewestS (w := sg32 v) 4 (by unfold inR; rw [show (128 : Int) ^ 4 = 268435456 by decide]; omega)
 have e := sB_dg n 10 (sg32 v) k2 (by cases n with | zero => exact .inl rfl | succ n => exact .inr (k3 n (by omega))) (by omega)
 unfold pCon
 rw [e, if_neg (by decide), digN_dg (n + 1) 5 _ (by omega) (by omega), dgR_len]
 simp only [Bool.false_eq_true, if_false]
 rw [dgs_len, rdS_32 hw k1 k2]
 simp only
 rw [hm, Int.toNat_of_nonneg h0]
theorem pCon64_put {v : Int} (h0 : 0 ≤ v) (h1 : v < 18446744073709551616) (pre more : List Nat) : pCon (pre ++ (sB 10 (sg64 v) ++ more)) true pre.length = .ok (v, pre.length + (sB 10 (sg64 v)).length) := by
 have hw : -9223372036854775808 ≤ sg64 v ∧ sg64 v < 9223372036854775808 := by unfold sg64; split <;> omega
 have hm : (sg64 v % 18446744073709551616).toNat = v.toNat := by unfold sg64; split <;> omega
 obtain ⟨n, k1, k2, k3, k4⟩ := sB_is hw
 unfold pCon
 rw [k2, if_pos rfl, digN_dg (n + 1) 10 _ (by omega) (by omega), dgR_len]
 simp only [if_true]
 rw [dgs_len, (rdS_put hw k1).2 k3]
 simp only
 rw [hm, Int.toNat_of_nonneg h0]
theorem pNums_put : ∀ (l : List Int) (pre more : List Nat), l.all numZ = true → pNums (pre ++ ((l.map uL).flatten ++ more)) l.length pre.length = .ok (l, pre.length + ((l.map uL).flatten).length)
 | [], pre, more, _ => by simp [pNums]
 | a :: l, pre, more, h => by
  rw [List.all_cons, Bool.and_eq_true] at h
  have h1 := pNum_put h.1 pre ((l.map uL).flatten ++ more)
  have ih := pNums_put l (pre ++ uL a) more h.2
  rw [List.map_cons, List.flatten_cons, List.append_assoc, List.length_cons, pNums, h1]
  simp only
  rw [List.append_assoc, List.length_append] at ih
  rw [ih]
  simp only
  congr 2
  rw [List.length_append]; omega
structure OpLaw (OP : Int → Option OpR) : Prop where
 rng : ∀ {z r}, OP z = some r → 0 ≤ z ∧ z < 192
 k2 : ∀ {z r}, OP z = some r → (r.kind = 2 ↔ 2 ≤ z ∧ z ≤ 4)
 k3 : ∀ {z r}, OP z = some r → (r.kind = 3 ↔ 12 ≤ z ∧ z ≤ 15)
 k4 : ∀ {z r}, OP z = some r → (r.kind = 4 ↔ 16 ≤ z ∧ z ≤ 17)
 k10 : ∀ {z r}, OP z = some r → (r.kind = 10 ↔ z = 65 ∨ z = 66)
 g10 : ∀ {z r}, OP z = some r → r.kind = 10 → (r.gives = 1 ↔ z = 65)
 no : OP 5 = none ∧ OP 11 = none
mutual
def nI : Ins → Nat
 | .mk _ _ _ _ _ _ bd el _ => 1 + nL bd + nL el
def nL : List Ins → Nat
 | [] => 0
 | x :: xs => nI x + nL xs
end
mutual
def dI : Ins → Nat
 | .mk o _ _ _ _ _ bd el _ => if 2 ≤ o ∧ o ≤ 4 then max (dL bd) (dL el) + 1 else 0
def dL : List Ins → Nat
 | [] => 0
 | x :: xs => max (dI x) (dL xs)
end
mutual
def lgI : Ins → Bool
 | .mk _ _ _ _ _ l bd el _ => decide (64 < l.length) || lgL bd || lgL el
def lgL : List Ins → Bool
 | [] => false
 | x :: xs => lgI x || lgL xs
end
theorem pMust0 (pre more : List Nat) : pMust (pre ++ (0 :: more)) 0 pre.length = .ok ((), pre.length + 1) := by
 unfold pMust pByte
 rw [List.getElem?_append_right (Nat.le_refl _), Nat.sub_self, List.getElem?_cons_zero]
 simp
theorem isE {A : Type} {l : List A} (h : l.isEmpty = true) : l = [] := List.isEmpty_iff.1 h
theorem pPlain_put {OP : Int → Option OpR} (F : OpLaw OP) {r : OpR} {o a b v : Int} {l : List Int} (hop : OP o = some r) (hm : mayP r o a b v l = true) (hv : 0 ≤ v ∧ v < 18446744073709551616) (hl : l.length ≤ 64) (pre more : List Nat) :
  pPlain (pre ++ (plainB r o a b v l ++ more)) r o pre.length = .ok (.mk o a b v 0 l [] [] false, pre.length + (plainB r o a b v l).length) := by
 have f3 := F.k3 hop
 have f4 := F.k4 hop
 have f10 := F.k10 hop
 unfold mayP at hm
 unfold pPlain plainB
 by_cases h78 : r.kind = 7 ∨ r.kind = 8
 ·rw [if_neg (by omega), if_pos h78] at hm
  simp only [if_pos h78]
  simp only [Bool.and_eq_true, decide_eq_true_eq] at hm
  obtain ⟨⟨ha, hb⟩, hv0, hl0⟩ := hm
  obtain rfl := isE hl0
  subst hv0
  have h1 := pNum_put ha pre (uL b ++ more)
  have h2 := pNum_put hb (pre ++ uL a) more
  rw [List.append_assoc, List.length_append] at h2
  unfold pNum2
  rw [List.append_assoc, h1]
  simp only
  rw [h2]
  simp only
  rw [List.length_append, Nat.add_assoc]
 simp only [if_neg h78]
 rw [if_neg h78] at hm
 by_cases h9 : r.kind = 9
 ·rw [if_neg (by omega), if_neg (by omega), if_neg (by omega)] at hm
  simp only [Bool.and_eq_true, decide_eq_true_eq] at hm
  obtain ⟨⟨⟨rfl, rfl⟩, rfl⟩, hl0⟩ := hm
  obtain rfl := isE hl0
  simp only [if_pos h9]
  rw [List.singleton_append, pMust0]
  rfl
 simp only [if_neg h9]
 by_cases h65 : o = 65
 ·have hk : r.kind = 10 := f10.2 (.inl h65)
  rw [if_pos hk] at hm
  simp only [Bool.and_eq_true, decide_eq_true_eq, Bool.not_eq_true', Bool.and_eq_false_imp, decide_eq_false_iff_not] at hm
  obtain ⟨h1, ⟨rfl, rfl⟩, hl0⟩ := hm
  obtain rfl := isE hl0
  simp only [if_pos h65]
  rw [pCon32_put hv.1 (by have := h1 ((F.g10 hop hk).2 h65); omega)]
 simp only [if_neg h65]
 by_cases h66 : o = 66
 ·have hk : r.kind = 10 := f10.2 (.inr h66)
  rw [if_pos hk] at hm
  simp only [Bool.and_eq_true, decide_eq_true_eq] at hm
  obtain ⟨_, ⟨rfl, rfl⟩, hl0⟩ := hm
  obtain rfl := isE hl0
  simp only [if_pos h66]
  rw [pCon64_put hv.1 hv.2]
 simp only [if_neg h66]
 rw [if_neg (by omega)] at hm
 by_cases h14 : o = 14
 ·rw [if_pos h14] at hm
  simp only [Bool.and_eq_true, decide_eq_true_eq, Bool.not_eq_true'] at hm
  obtain ⟨⟨hne, hall⟩, ⟨rfl, rfl⟩, rfl⟩ := hm
  simp only [if_pos h14]
  have hpos : 0 < l.length := by
   cases l with
   | nil => cases hne
   | cons x l => simp
  have h1 := pNum_put (a := (l.length : Int) - 1) (by unfold numZ; rw [Bool.and_eq_true, decide_eq_true_eq, decide_eq_true_eq]; omega) pre ((l.map uL).flatten ++ more)
  have h2 := pNums_put l (pre ++ uL ((l.length : Int) - 1)) more hall
  rw [List.append_assoc, List.length_append] at h2
  unfold pLabs
  rw [List.append_assoc, h1]
  simp only
  rw [if_neg (by omega), show ((l.length : Int) - 1).toNat + 1 = l.length by omega, h2]
  simp only
  rw [List.length_append, Nat.add_assoc]
 simp only [if_neg h14]
 rw [if_neg h14] at hm
 by_cases h17 : o = 17
 ·have hk : r.kind = 4 := f4.2 (by omega)
  rw [if_pos (.inl hk)] at hm
  simp only [Bool.and_eq_true, decide_eq_true_eq] at hm
  obtain ⟨ha, ⟨rfl, rfl⟩, hl0⟩ := hm
  obtain rfl := isE hl0
  simp only [if_pos h17]
  have h1 := pNum_put ha pre ([0] ++ more)
  have h2 := pMust0 (pre ++ uL a) more
  rw [List.append_assoc, List.length_append] at h2
  rw [List.append_assoc, h1]
  simp only
  rw [List.singleton_append, h2]
  simp only
  rw [List.length_append, Nat.add_assoc]; rfl
 simp only [if_neg h17]
 by_cases hc : r.kind = 4 ∨ r.kind = 6 ∨ o = 12 ∨ o = 13
 ·rw [if_pos (by omega)] at hm
  simp only [Bool.and_eq_true, decide_eq_true_eq] at hm
  obtain ⟨ha, ⟨rfl, rfl⟩, hl0⟩ := hm
  obtain rfl := isE hl0
  simp only [if_pos hc]
  rw [pNum_put ha]
 ·rw [if_neg (by omega)] at hm
  simp only [Bool.and_eq_true, decide_eq_true_eq] at hm
  obtain ⟨⟨⟨rfl, rfl⟩, rfl⟩, hl0⟩ := hm
  obtain rfl := isE hl0
  simp only [if_neg hc]
  rfl
mutual
def v64I : Ins → Bool
 | .mk _ _ _ v _ _ bd el _ => decide (0 ≤ v) && decide (v < 18446744073709551616) && v64L bd && v64L el
def v64L : List Ins → Bool
 | [] => true
 | x :: xs => v64I x && v64L xs
end
section
variable {OP : Int → Option OpR} {FL : Int → Bool}
theorem pRes_put {t : Int} (h0 : 0 ≤ t) (h2 : t ≤ 2) (pre more : List Nat) : pRes (pre ++ (resB t :: more)) pre.length = .ok (t, pre.length + 1) := by
 unfold pRes pByte
 rw [List.getElem?_append_right (Nat.le_refl _), Nat.sub_self, List.getElem?_cons_zero]
 simp only
 have ht : t = 0 ∨ t = 1 ∨ t = 2 := by omega
 rcases ht with rfl | rfl | rfl <;> rfl
theorem get_mid (pre : List Nat) (x : Nat) (more : List Nat) : (pre ++ x :: more)[pre.length]? = some x := by
 rw [List.getElem?_append_right (Nat.le_refl _), Nat.sub_self, List.getElem?_cons_zero]
theorem back (F : OpLaw OP) : ∀ (f : Nat) (xs : List Ins) (d n : Nat) (pre : List Nat) (last : Nat) (more : List Nat), mayL OP xs = true → v64L xs = true → lgL xs = false → n + nL xs ≤ 512 → d + dL xs ≤ 32 → last = 11 ∨ last = 5 → (lstB OP xs).length < f →
  pList OP FL (pre ++ (lstB OP xs ++ last :: more)) f d pre.length n = .ok (xs, last, pre.length + (lstB OP xs).length + 1, n + nL xs) := by
 intro f
 induction f with
 | zero => intro xs d n pre last more _ _ _ _ _ _ h; omega
 | succ f ih =>
  intro xs d n pre last more hm hv hg hn hd hlast hf
  cases xs with
  | nil =>
   rw [lstB, List.nil_append, pList, get_mid]
   simp only
   rw [if_pos hlast]
   simp [nL]
  | cons x xs =>
   obtain ⟨o, a, b, v, t, l, bd, el, q⟩ := x
   rw [mayL, Bool.and_eq_true] at hm
   rw [v64L, Bool.and_eq_true] at hv
   rw [lgL, Bool.or_eq_false_iff] at hg
   rw [nL] at hn
   rw [dL] at hd
   obtain ⟨hmx, hms⟩ := hm
   unfold mayI at hmx
   cases hop : OP o with
   | none => rw [hop] at hmx; cases hmx
   | some r =>
   rw [hop] at hmx
   simp only at hmx
   obtain ⟨g0, g1⟩ := F.rng hop
   have k2 := F.k2 hop
   have ho : (o.toNat : Int) = o := Int.toNat_of_nonneg g0
   have hne : ¬ (o.toNat = 11 ∨ o.toNat = 5) := by
    intro hc
    rcases hc with hc | hc
    ·rw [show o = 11 by omega, F.no.2] at hop; cases hop
    ·rw [show o = 5 by omega, F.no.1] at hop; cases hop
   have hv1 := hv.1
   unfold v64I at hv1
   simp only [Bool.and_eq_true, decide_eq_true_eq] at hv1
   obtain ⟨⟨hvv, vb⟩, ve⟩ := hv1
   have hg1 := hg.1
   unfold lgI at hg1
   simp only [Bool.or_eq_false_iff, decide_eq_false_iff_not] at hg1
   obtain ⟨⟨gl, gb⟩, ge⟩ := hg1
   unfold nI at hn
   unfold dI at hd
   have rest : ∀ (W : List Nat), lstB OP (.mk o a b v t l bd el q :: xs) = W ++ lstB OP xs → (lstB OP xs).length < f →
     pList OP FL (pre ++ (lstB OP (.mk o a b v t l bd el q :: xs) ++ last :: more)) f d (pre.length + W.length) (n + nI (.mk o a b v t l bd el q)) = .ok (xs, last, pre.length + (lstB OP (.mk o a b v t l bd el q :: xs)).length + 1, n + nL (.mk o a b v t l bd el q :: xs)) := by
    intro W hW hlt
    have := ih xs d (n + nI (.mk o a b v t l bd el q)) (pre ++ W) last more hms hv.2 hg.2 (by unfold nI; omega) (by omega) hlast hlt
    rw [List.length_append] at this
    rw [hW, List.append_assoc, ← List.append_assoc pre, this]
    congr 4
    ·rw [List.length_append]; omega
    ·rw [nL]; omega
   by_cases h2 : r.kind = 2
   ·rw [if_pos h2] at hmx
    simp only [Bool.and_eq_true, decide_eq_true_eq, Bool.not_eq_true'] at hmx
    obtain ⟨⟨⟨⟨⟨⟨t0, t2⟩, mb⟩, me⟩, hq4⟩, hqe⟩, ⟨⟨⟨rfl, rfl⟩, rfl⟩, hl0⟩⟩ := hmx
    obtain rfl := isE hl0
    have ho4 := k2.1 h2
    rw [if_pos ho4] at hd
    have hW : lstB OP (.mk o 0 0 0 t [] bd el q :: xs) = (o.toNat :: resB t :: (lstB OP bd ++ ((if q then 5 :: lstB OP el else []) ++ [11]))) ++ lstB OP xs := by
     rw [lstB, insB, hop]
     simp only [if_pos h2]
    have R := rest _ hW
    rw [hW] at R hf ⊢
    simp only [List.append_assoc, List.cons_append, List.nil_append, List.length_append, List.length_cons, List.length_nil] at R hf ⊢
    rw [pList, get_mid]
    simp only
    rw [if_neg hne, ho, hop]
    simp only
    rw [if_neg (by omega), pIns, if_pos h2]
    have hres := pRes_put t0 t2 (pre ++ [o.toNat]) ((lstB OP bd ++ ((if q then 5 :: lstB OP el else []) ++ [11])) ++ lstB OP xs ++ last :: more)
    simp only [List.append_assoc, List.cons_append, List.nil_append, List.length_append, List.length_cons, List.length_nil] at hres
    rw [hres]
    simp only
    cases q with
    | false =>
     simp only [Bool.false_eq_true, if_false, List.nil_append, List.length_nil, Nat.zero_add] at R hf ⊢
     have hb := ih bd (d + 1) (n + 1) (pre ++ [o.toNat, resB t]) 11 (lstB OP xs ++ last :: more) mb vb gb (by omega) (by omega) (.inl rfl) (by simp at hf; omega)
     simp only [List.append_assoc, List.cons_append, List.nil_append, List.length_append, List.length_cons, List.length_nil] at hb
     have hel : el = [] := by
      cases el with
      | nil => rfl
      | cons => simp at hqe
     subst hel
     rw [show pre.length + 1 + 1 = pre.length + (0 + 1 + 1) by omega, hb]
     simp only
     rw [if_neg (by decide)]
     simp only
     have R2 := R (by simp at hf; omega)
     simp only [nI, nL, Nat.add_zero] at R2
     rw [show pre.length + (0 + 1 + 1) + (lstB OP bd).length + 1 = pre.length + ((lstB OP bd).length + 1 + 1 + 1) by omega, show n + 1 + nL bd = n + (1 + nL bd) by omega, R2]
     simp only [nL, nI, Nat.add_zero]
    | true =>
     have o4 : o = 4 := by simpa using hq4
     simp only [if_true, List.cons_append, List.length_cons, Nat.zero_add] at R hf ⊢
     have hb := ih bd (d + 1) (n + 1) (pre ++ [o.toNat, resB t]) 5 (lstB OP el ++ 11 :: (lstB OP xs ++ last :: more)) mb vb gb (by omega) (by omega) (.inr rfl) (by simp at hf; omega)
     have he := ih el (d + 1) (n + 1 + nL bd) (pre ++ o.toNat :: resB t :: (lstB OP bd ++ [5])) 11 (lstB OP xs ++ last :: more) me ve ge (by omega) (by omega) (.inl rfl) (by simp at hf; omega)
     simp only [List.append_assoc, List.cons_append, List.nil_append, List.length_append, List.length_cons, List.length_nil] at hb he
     rw [show pre.length + 1 + 1 = pre.length + (0 + 1 + 1) by omega, hb]
     simp only
     rw [if_pos trivial, if_pos o4, show pre.length + (0 + 1 + 1) + (lstB OP bd).length + 1 = pre.length + ((lstB OP bd).length + (0 + 1) + 1 + 1) by omega, he]
     simp only
     rw [if_neg (by decide)]
     simp only
     have R2 := R (by simp at hf; omega)
     simp only [nI] at R2
     rw [show pre.length + ((lstB OP bd).length + (0 + 1) + 1 + 1) + (lstB OP el).length + 1 = pre.length + ((lstB OP bd).length + ((lstB OP el).length + (0 + 1) + 1) + 1 + 1) by omega, show n + 1 + nL bd + nL el = n + (1 + nL bd + nL el) by omega, R2]
   ·rw [if_neg h2] at hmx
    simp only [Bool.and_eq_true, decide_eq_true_eq, Bool.not_eq_true'] at hmx
    obtain ⟨hp, ⟨⟨rfl, hb0⟩, he0⟩, rfl⟩ := hmx
    obtain rfl := isE hb0
    obtain rfl := isE he0
    have hW : lstB OP (.mk o a b v 0 l [] [] false :: xs) = (o.toNat :: plainB r o a b v l) ++ lstB OP xs := by
     rw [lstB, insB, hop]
     simp only [if_neg h2]
    have R := rest _ hW
    rw [hW] at R hf ⊢
    simp only [List.append_assoc, List.cons_append, List.length_append, List.length_cons] at R hf ⊢
    rw [pList, get_mid]
    simp only
    rw [if_neg hne, ho, hop]
    simp only
    rw [if_neg (by omega), pIns, if_neg h2]
    have hpp := pPlain_put F hop hp hvv (by omega) (pre ++ [o.toNat]) (lstB OP xs ++ last :: more)
    simp only [List.append_assoc, List.cons_append, List.nil_append, List.length_append, List.length_cons, List.length_nil] at hpp
    rw [hpp]
    simp only
    have R2 := R (by omega)
    simp only [nI, nL, Nat.add_zero] at R2
    rw [show pre.length + 1 + (plainB r o a b v l).length = pre.length + ((plainB r o a b v l).length + 1) by omega, R2]
    simp only [nL, nI, Nat.add_zero]
end
end Go.Proofs.Am
namespace Go.Proofs.Am
open Go
theorem pNum_ok {bs : List Nat} {p : Nat} {x : Int} {q : Nat} (h : pNum bs p = .ok (x, q)) : p + (uL x).length ≤ q ∧ p < q ∧ q ≤ bs.length ∧ numZ x = true := by
 unfold pNum at h
 cases hd : digN bs 5 p with
 | none => rw [hd] at h; cases h
 | some r =>
  rw [hd] at h
  simp only at h
  split at h
  ·rename_i hv
   have e32 : (2 : Nat) ^ 32 = 4294967296 := by decide
   rw [e32] at hv
   obtain ⟨d1, d2, d3, d4, d5⟩ := digN_ok 5 p (d := r.1) (q := r.2) hd
   cases h
   have hV := valD_lt d5
   obtain ⟨n, h1, h2, h3⟩ := fewest (v := valD r.1) 4 (by simp only [Nat.reduceAdd, Nat.reducePow]; omega)
   have hl : (uL ((valD r.1 : Nat) : Int)).length = n + 1 := by
    unfold uL
    rw [Int.toNat_natCast, uB_dgR n 10 _ h2 h3 (by omega), dgR_len]
   have hn : n + 1 ≤ r.1.length := by
    rcases h3 with h3 | h3
    ·omega
    ·rcases Nat.lt_or_ge n r.1.length with hh | hh
     ·exact hh
     ·have : 128 ^ r.1.length ≤ 128 ^ n := Nat.pow_le_pow_right (by decide) hh
      omega
   refine ⟨by rw [hl, d3]; omega, by omega, d4, ?_⟩
   unfold numZ
   rw [Bool.and_eq_true, decide_eq_true_eq, decide_eq_true_eq]
   omega
  ·cases h
theorem sxt_inR {V n : Nat} (hn : 1 ≤ n) (hV : V < 2 ^ (7 * n)) : inR (n - 1) (sxt V (7 * n)) := by
 unfold inR sxt
 have hP : (2 : Nat) ^ (7 * n) = 128 * 128 ^ (n - 1) := by rw [← pow128, ← Nat.pow_succ', show (n - 1).succ = n by omega]
 have hi : (2 : Int) ^ (7 * n) = ((2 ^ (7 * n) : Nat) : Int) := by push_cast; rfl
 have hj : (128 : Int) ^ (n - 1) = ((128 ^ (n - 1) : Nat) : Int) := by push_cast; rfl
 rw [hi, hj, hP]
 rw [hP] at hV
 generalize (128 : Nat) ^ (n - 1) = P at *
 split <;> omega
theorem sB_short {s : Int} {n k : Nat} (h : inR n s) (hk : n < k) : (sB k s).length ≤ n + 1 := by
 obtain ⟨j, h1, h2, h3⟩ := fewestS n h
 rw [sB_dg j k s h2 (by cases j with | zero => exact .inl rfl | succ j => exact .inr (h3 j (by omega))) (by omega), dgR_len]
 omega
theorem rdS_ok {V n b x : Nat} (h : rdS V n b = some x) : (7 * n ≤ b ∨ (-((2 : Int) ^ (b - 1)) ≤ sxt V (7 * n) ∧ sxt V (7 * n) < (2 : Int) ^ (b - 1))) ∧ x = (sxt V (7 * n) % 18446744073709551616).toNat := by
 have h64 : (2 : Int) ^ 64 = 18446744073709551616 := by decide
 unfold rdS at h
 rw [h64] at h
 by_cases hc : 7 * n ≤ b ∨ (-((2 : Int) ^ (b - 1)) ≤ sxt V (7 * n) ∧ sxt V (7 * n) < (2 : Int) ^ (b - 1))
 ·rw [if_pos hc] at h
  exact ⟨hc, (Option.some.inj h).symm⟩
 ·rw [if_neg hc] at h; cases h
theorem inR_le {n k : Nat} {s : Int} (h : inR n s) (hk : n ≤ k) : -(64 * ((128 ^ k : Nat) : Int)) ≤ s ∧ s < 64 * ((128 ^ k : Nat) : Int) := by
 unfold inR at h
 have hle : (128 : Nat) ^ n ≤ 128 ^ k := Nat.pow_le_pow_right (by decide) hk
 have hj : (128 : Int) ^ n = ((128 ^ n : Nat) : Int) := by push_cast; rfl
 rw [hj] at h
 omega
theorem pCon_ok {bs : List Nat} {w : Bool} {p : Nat} {v : Int} {q : Nat} (h : pCon bs w p = .ok (v, q)) :
  p + (sB 10 (if w then sg64 v else sg32 v)).length ≤ q ∧ p < q ∧ q ≤ bs.length ∧ 0 ≤ v ∧ v < 18446744073709551616 ∧ (w = false → v ≤ 4294967295) := by
 unfold pCon at h
 cases w with
 | false =>
  rw [if_neg (by decide)] at h
  cases hd : digN bs 5 p with
  | none => rw [hd] at h; cases h
  | some r =>
   rw [hd] at h
   simp only [Bool.false_eq_true, if_false] at h ⊢
   obtain ⟨d1, d2, d3, d4, d5⟩ := digN_ok _ p (d := r.1) (q := r.2) hd
   have hV := valD_lt d5
   rw [pow128] at hV
   have hin := sxt_inR d1 hV
   cases hr : rdS (valD r.1) r.1.length 32 with
   | none => rw [hr] at h; cases h
   | some x =>
    rw [hr] at h
    simp only at h
    obtain ⟨hc, hx⟩ := rdS_ok hr
    have h31 : (2 : Int) ^ (32 - 1) = 2147483648 := by decide
    rw [h31] at hc
    generalize sxt (valD r.1) (7 * r.1.length) = s at *
    have hb : -2147483648 ≤ s ∧ s < 2147483648 := by
     rcases hc with hc | hc
     ·have := inR_le hin (k := 3) (by omega)
      have h3 : (128 : Nat) ^ 3 = 2097152 := by decide
      rw [h3] at this
      omega
     ·exact hc
    cases h
    have hv : sg32 ((x % 4294967296 : Nat) : Int) = s := by unfold sg32; split <;> omega
    rw [hv]
    have := sB_short (k := 10) hin (by omega)
    exact ⟨by omega, by omega, d4, by omega, by omega, fun _ => by omega⟩
 | true =>
  rw [if_pos rfl] at h
  cases hd : digN bs 10 p with
  | none => rw [hd] at h; cases h
  | some r =>
   rw [hd] at h
   simp only [if_true] at h ⊢
   obtain ⟨d1, d2, d3, d4, d5⟩ := digN_ok _ p (d := r.1) (q := r.2) hd
   have hV := valD_lt d5
   rw [pow128] at hV
   have hin := sxt_inR d1 hV
   cases hr : rdS (valD r.1) r.1.length 64 with
   | none => rw [hr] at h; cases h
   | some x =>
    rw [hr] at h
    simp only at h
    obtain ⟨hc, hx⟩ := rdS_ok hr
    have h63 : (2 : Int) ^ (64 - 1) = 9223372036854775808 := by decide
    rw [h63] at hc
    generalize sxt (valD r.1) (7 * r.1.length) = s at *
    have hb : -9223372036854775808 ≤ s ∧ s < 9223372036854775808 := by
     rcases hc with hc | hc
     ·have := inR_le hin (k := 8) (by omega)
      have h3 : (128 : Nat) ^ 8 = 72057594037927936 := by decide
      rw [h3] at this
      omega
     ·exact hc
    cases h
    have hv : sg64 (x : Int) = s := by unfold sg64; split <;> omega
    rw [hv]
    have := sB_short (k := 10) hin (by omega)
    exact ⟨by omega, by omega, d4, by omega, by omega, fun hh => by cases hh⟩
theorem pMust_ok {bs : List Nat} {x p q : Nat} (h : pMust bs x p = .ok ((), q)) : q = p + 1 ∧ q ≤ bs.length := by
 unfold pMust pByte at h
 cases hx : bs[p]? with
 | none => rw [hx] at h; cases h
 | some y =>
  rw [hx] at h
  have hlt := (List.getElem?_eq_some_iff.1 hx).1
  simp only at h
  split at h
  ·cases h; exact ⟨rfl, hlt⟩
  ·cases h
theorem pRes_ok {bs : List Nat} {p q : Nat} {t : Int} (h : pRes bs p = .ok (t, q)) : q = p + 1 ∧ q ≤ bs.length ∧ 0 ≤ t ∧ t ≤ 2 := by
 unfold pRes pByte at h
 cases hx : bs[p]? with
 | none => rw [hx] at h; cases h
 | some y =>
  rw [hx] at h
  have hlt := (List.getElem?_eq_some_iff.1 hx).1
  simp only at h
  split at h
  ·cases h; exact ⟨rfl, hlt, by decide, by decide⟩
  split at h
  ·cases h; exact ⟨rfl, hlt, by decide, by decide⟩
  split at h
  ·cases h; exact ⟨rfl, hlt, by decide, by decide⟩
  split at h <;> cases h
theorem pNums_ok {bs : List Nat} : ∀ (k p : Nat) {l : List Int} {q : Nat}, pNums bs k p = .ok (l, q) → p ≤ bs.length → p + ((l.map uL).flatten).length ≤ q ∧ q ≤ bs.length ∧ l.length = k ∧ l.all numZ = true
 | 0, p, l, q, h, hp => by
  rw [pNums] at h
  cases h
  exact ⟨Nat.le_refl _, hp, rfl, rfl⟩
 | k + 1, p, l, q, h, hp => by
  rw [pNums] at h
  cases hn : pNum bs p with
  | error e => rw [hn] at h; cases h
  | ok r =>
   rw [hn] at h
   simp only at h
   obtain ⟨a1, a2, a3, a4⟩ := pNum_ok (x := r.1) (q := r.2) hn
   cases hm : pNums bs k r.2 with
   | error e => rw [hm] at h; cases h
   | ok s =>
    rw [hm] at h
    cases h
    obtain ⟨b1, b2, b3, b4⟩ := pNums_ok k r.2 (l := s.1) (q := s.2) hm a3
    refine ⟨?_, b2, by rw [List.length_cons, b3], by rw [List.all_cons, a4, b4]; rfl⟩
    rw [List.map_cons, List.flatten_cons, List.length_append]
    omega
theorem pPlain_ok {OP : Int → Option OpR} (F : OpLaw OP) {bs : List Nat} {r : OpR} {o : Int} {p : Nat} {i : Ins} {q : Nat} (hop : OP o = some r) (hp : p ≤ bs.length) (h : pPlain bs r o p = .ok (i, q)) :
  ∃ a b v l, i = .mk o a b v 0 l [] [] false ∧ p + (plainB r o a b v l).length ≤ q ∧ q ≤ bs.length ∧ mayP r o a b v l = true ∧ 0 ≤ v ∧ v < 18446744073709551616 ∧ l.length ≤ 64 := by
 have f3 := F.k3 hop
 have f4 := F.k4 hop
 have f10 := F.k10 hop
 have g10 := F.g10 hop
 unfold pPlain at h
 unfold mayP plainB
 by_cases h78 : r.kind = 7 ∨ r.kind = 8
 ·rw [if_pos h78] at h
  unfold pNum2 at h
  cases hn : pNum bs p with
  | error e => rw [hn] at h; cases h
  | ok x =>
   rw [hn] at h
   simp only at h
   obtain ⟨a1, a2, a3, a4⟩ := pNum_ok (x := x.1) (q := x.2) hn
   cases hm : pNum bs x.2 with
   | error e => rw [hm] at h; cases h
   | ok y =>
    rw [hm] at h
    cases h
    obtain ⟨b1, b2, b3, b4⟩ := pNum_ok (x := y.1) (q := y.2) hm
    refine ⟨_, _, _, _, rfl, ?_, b3, ?_, by decide, by decide, by simp⟩
    ·rw [if_pos h78, List.length_append]; dsimp only; omega
    ·rw [if_neg (by omega), if_pos h78, a4, b4]; rfl
 rw [if_neg h78] at h
 by_cases h9 : r.kind = 9
 ·rw [if_pos h9] at h
  cases hn : pMust bs 0 p with
  | error e => rw [hn] at h; cases h
  | ok x =>
   rw [hn] at h
   cases h
   obtain ⟨a1, a2⟩ := pMust_ok (q := x.2) hn
   refine ⟨_, _, _, _, rfl, ?_, a2, ?_, by decide, by decide, by simp⟩
   ·rw [if_neg h78, if_pos h9, List.length_singleton]; omega
   ·rw [if_neg (by omega), if_neg h78, if_neg (by omega), if_neg (by omega)]; rfl
 rw [if_neg h9] at h
 by_cases h65 : o = 65
 ·rw [if_pos h65] at h
  have hk : r.kind = 10 := f10.2 (.inl h65)
  cases hn : pCon bs false p with
  | error e => rw [hn] at h; cases h
  | ok x =>
   rw [hn] at h
   cases h
   obtain ⟨a1, a2, a3, a4, a5, a6⟩ := pCon_ok (v := x.1) (q := x.2) hn
   simp only [Bool.false_eq_true, if_false] at a1
   refine ⟨_, _, _, _, rfl, ?_, a3, ?_, a4, a5, by simp⟩
   ·rw [if_neg h78, if_neg h9, if_pos h65]; exact a1
   ·rw [if_pos hk]
    have := a6 rfl
    simp only [Bool.and_eq_true, Bool.not_eq_true', Bool.and_eq_false_imp, decide_eq_true_eq, decide_eq_false_iff_not, List.isEmpty_nil, and_true]
    intro _; omega
 rw [if_neg h65] at h
 by_cases h66 : o = 66
 ·rw [if_pos h66] at h
  have hk : r.kind = 10 := f10.2 (.inr h66)
  have hg : r.gives ≠ 1 := fun hh => h65 ((g10 hk).1 hh)
  cases hn : pCon bs true p with
  | error e => rw [hn] at h; cases h
  | ok x =>
   rw [hn] at h
   cases h
   obtain ⟨a1, a2, a3, a4, a5, a6⟩ := pCon_ok (v := x.1) (q := x.2) hn
   simp only [if_true] at a1
   refine ⟨_, _, _, _, rfl, ?_, a3, ?_, a4, a5, by simp⟩
   ·rw [if_neg h78, if_neg h9, if_neg h65, if_pos h66]; exact a1
   ·rw [if_pos hk, decide_eq_false hg]; rfl
 rw [if_neg h66] at h
 have hk10 : r.kind ≠ 10 := fun hh => by rcases f10.1 hh with e | e <;> omega
 by_cases h14 : o = 14
 ·rw [if_pos h14] at h
  unfold pLabs at h
  cases hn : pNum bs p with
  | error e => rw [hn] at h; cases h
  | ok x =>
   rw [hn] at h
   simp only at h
   obtain ⟨a1, a2, a3, a4⟩ := pNum_ok (x := x.1) (q := x.2) hn
   unfold numZ at a4
   rw [Bool.and_eq_true, decide_eq_true_eq, decide_eq_true_eq] at a4
   by_cases h64 : 64 ≤ x.1
   ·rw [if_pos h64] at h; cases h
   ·rw [if_neg h64] at h
    cases hm : pNums bs (x.1.toNat + 1) x.2 with
    | error e => rw [hm] at h; cases h
    | ok y =>
     rw [hm] at h
     cases h
     obtain ⟨b1, b2, b3, b4⟩ := pNums_ok _ _ (l := y.1) (q := y.2) hm a3
     refine ⟨_, _, _, _, rfl, ?_, b2, ?_, by decide, by decide, by omega⟩
     ·rw [if_neg h78, if_neg h9, if_neg h65, if_neg h66, if_pos h14, List.length_append]
      have : (y.1.length : Int) - 1 = x.1 := by omega
      rw [this]; omega
     ·rw [if_neg hk10, if_neg h78, if_pos h14, b4]
      have : y.1.isEmpty = false := by
       cases hy : y.1 with
       | nil => rw [hy] at b3; simp at b3
       | cons => rfl
      rw [this]; rfl
 rw [if_neg h14] at h
 by_cases h17 : o = 17
 ·rw [if_pos h17] at h
  cases hn : pNum bs p with
  | error e => rw [hn] at h; cases h
  | ok x =>
   rw [hn] at h
   simp only at h
   obtain ⟨a1, a2, a3, a4⟩ := pNum_ok (x := x.1) (q := x.2) hn
   cases hm : pMust bs 0 x.2 with
   | error e => rw [hm] at h; cases h
   | ok y =>
    rw [hm] at h
    cases h
    obtain ⟨b1, b2⟩ := pMust_ok (q := y.2) hm
    have hk : r.kind = 4 := f4.2 (by omega)
    refine ⟨_, _, _, _, rfl, ?_, b2, ?_, by decide, by decide, by simp⟩
    ·rw [if_neg h78, if_neg h9, if_neg h65, if_neg h66, if_neg h14, if_pos h17, List.length_append, List.length_singleton]; omega
    ·rw [if_neg hk10, if_neg h78, if_neg h14, if_pos (.inl hk), a4]; rfl
 rw [if_neg h17] at h
 by_cases hc : r.kind = 4 ∨ r.kind = 6 ∨ o = 12 ∨ o = 13
 ·rw [if_pos hc] at h
  cases hn : pNum bs p with
  | error e => rw [hn] at h; cases h
  | ok x =>
   rw [hn] at h
   cases h
   obtain ⟨a1, a2, a3, a4⟩ := pNum_ok (x := x.1) (q := x.2) hn
   refine ⟨_, _, _, _, rfl, ?_, a3, ?_, by decide, by decide, by simp⟩
   ·rw [if_neg h78, if_neg h9, if_neg h65, if_neg h66, if_neg h14, if_neg h17, if_pos hc]; exact a1
   ·rw [if_neg hk10, if_neg h78, if_neg h14, if_pos (by omega), a4]; rfl
 ·rw [if_neg hc] at h
  cases h
  refine ⟨_, _, _, _, rfl, ?_, hp, ?_, by decide, by decide, by simp⟩
  ·rw [if_neg h78, if_neg h9, if_neg h65, if_neg h66, if_neg h14, if_neg h17, if_neg hc]; exact Nat.le_refl _
  ·rw [if_neg hk10, if_neg h78, if_neg h14, if_neg (by omega)]; rfl
structure ListOk (OP : Int → Option OpR) (bs : List Nat) (d p n : Nat) (xs : List Ins) (l q n' : Nat) : Prop where
 sz : p + (lstB OP xs).length + 1 ≤ q
 qb : q ≤ bs.length
 ne : n' = n + nL xs
 n5 : n ≤ 512 → n' ≤ 512
 lb : l = 11 ∨ l = 5
 may : mayL OP xs = true
 vv : v64L xs = true
 lg : lgL xs = false
 dd : d ≤ 32 → d + dL xs ≤ 32
structure InsOk (OP : Int → Option OpR) (bs : List Nat) (o : Int) (d p n : Nat) (x : Ins) (q n' : Nat) : Prop where
 sz : p + (insB OP x).length ≤ q + 1
 qb : q ≤ bs.length
 ne : n' = n + (nI x - 1)
 n5 : n ≤ 512 → n' ≤ 512
 may : mayI OP x = true
 vv : v64I x = true
 lg : lgI x = false
 dd : d ≤ 32 → d + dI x ≤ 32
 n1 : 1 ≤ nI x
theorem ins_ok {OP : Int → Option OpR} (F : OpLaw OP) {bs : List Nat} {rec : Nat → Nat → Nat → PL} {d : Nat} {r : OpR} {o : Int} {p n : Nat} {x : Ins} {q n' : Nat} (hop : OP o = some r) (hp : p ≤ bs.length) (hd : r.kind = 2 → d < 32)
  (hrec : ∀ {d p n xs l q n'}, p ≤ bs.length → rec d p n = .ok (xs, l, q, n') → ListOk OP bs d p n xs l q n') (h : pIns bs rec d r o p n = .ok (x, q, n')) : InsOk OP bs o d p n x q n' := by
 have k2 := F.k2 hop
 obtain ⟨o0, o1⟩ := F.rng hop
 unfold pIns at h
 by_cases h2 : r.kind = 2
 ·rw [if_pos h2] at h
  have ho := k2.1 h2
  have hd := hd h2
  cases hn : pRes bs p with
  | error e => rw [hn] at h; cases h
  | ok t =>
   rw [hn] at h
   simp only at h
   obtain ⟨a1, a2, a3, a4⟩ := pRes_ok (t := t.1) (q := t.2) hn
   cases hb : rec (d + 1) t.2 n with
   | error e => rw [hb] at h; cases h
   | ok y =>
    obtain ⟨bd, last, p2, n2⟩ := y
    rw [hb] at h
    simp only at h
    have B := hrec a2 hb
    by_cases h5 : last = 5
    ·rw [if_pos h5] at h
     by_cases h4 : o = 4
     ·rw [if_pos h4] at h
      cases he : rec (d + 1) p2 n2 with
      | error e => rw [he] at h; cases h
      | ok z =>
       obtain ⟨el, last2, p3, n3⟩ := z
       rw [he] at h
       simp only at h
       by_cases h55 : last2 = 5
       ·rw [if_pos h55] at h; cases h
       ·rw [if_neg h55] at h
        cases h
        have E := hrec B.qb he
        have e1 := B.sz
        have e2 := E.sz
        have e3 := B.ne
        have e4 := E.ne
        refine ⟨?_, E.qb, by unfold nI; omega, fun hh => E.n5 (B.n5 hh), ?_, ?_, ?_, fun hh => ?_, by unfold nI; omega⟩
        ·rw [insB, hop]
         simp only [if_pos h2, if_true, List.length_cons, List.length_append, List.length_nil]; omega
        ·unfold mayI
         rw [hop]
         simp only [if_pos h2]
         rw [B.may, E.may, decide_eq_true a3, decide_eq_true a4, h4]
         rfl
        ·unfold v64I
         rw [B.vv, E.vv]; rfl
        ·unfold lgI
         rw [B.lg, E.lg]; rfl
        ·unfold dI
         have := B.dd (by omega)
         have := E.dd (by omega)
         rw [if_pos ho]; omega
     ·rw [if_neg h4] at h; cases h
    ·rw [if_neg h5] at h
     cases h
     have e1 := B.sz
     have e3 := B.ne
     refine ⟨?_, B.qb, by rw [nI, show nL [] = 0 from rfl]; omega, B.n5, ?_, ?_, ?_, fun hh => ?_, by unfold nI; omega⟩
     ·rw [insB, hop]
      simp only [if_pos h2, Bool.false_eq_true, if_false, List.nil_append, List.length_cons, List.length_append, List.length_nil]; omega
     ·unfold mayI
      rw [hop]
      simp only [if_pos h2]
      rw [B.may, decide_eq_true a3, decide_eq_true a4]
      simp [mayL]
     ·unfold v64I
      rw [B.vv]; rfl
     ·unfold lgI
      rw [B.lg]; rfl
     ·unfold dI
      have := B.dd (by omega)
      rw [if_pos ho, dL]; omega
 ·rw [if_neg h2] at h
  cases hn : pPlain bs r o p with
  | error e => rw [hn] at h; cases h
  | ok s =>
   rw [hn] at h
   cases h
   obtain ⟨a, b, v, l, e0, e1, e2, e3, e4, e5, e6⟩ := pPlain_ok F (i := s.1) (q := s.2) hop hp hn
   rw [e0]
   refine ⟨?_, e2, by rw [nI, show nL [] = 0 from rfl]; omega, fun hh => hh, ?_, ?_, ?_, fun hh => ?_, by unfold nI; omega⟩
   ·rw [insB, hop]
    simp only [if_neg h2, List.length_cons]; omega
   ·unfold mayI
    rw [hop]
    simp only [if_neg h2]
    rw [e3]; rfl
   ·unfold v64I
    rw [decide_eq_true e4, decide_eq_true e5]; rfl
   ·unfold lgI
    rw [decide_eq_false (by omega)]; rfl
   ·unfold dI
    rw [if_neg (by omega)]; omega
theorem list_ok {OP : Int → Option OpR} {FL : Int → Bool} (F : OpLaw OP) {bs : List Nat} : ∀ (f : Nat) {d p n : Nat} {xs : List Ins} {l q n' : Nat}, p ≤ bs.length → pList OP FL bs f d p n = .ok (xs, l, q, n') → ListOk OP bs d p n xs l q n' := by
 intro f
 induction f with
 | zero => intro d p n xs l q n' _ h; rw [pList] at h; cases h
 | succ f ih =>
  intro d p n xs l q n' hp h
  rw [pList] at h
  cases hx : bs[p]? with
  | none => rw [hx] at h; cases h
  | some x =>
   rw [hx] at h
   have hlt := (List.getElem?_eq_some_iff.1 hx).1
   simp only at h
   by_cases h11 : x = 11 ∨ x = 5
   ·rw [if_pos h11] at h
    cases h
    exact ⟨by simp [lstB], hlt, by simp [nL], fun hh => hh, h11, rfl, rfl, rfl, fun hh => by simp [dL, hh]⟩
   ·rw [if_neg h11] at h
    cases hop : OP x with
    | none => rw [hop] at h; cases h
    | some r =>
     rw [hop] at h
     simp only at h
     by_cases hbig : 512 ≤ n ∨ (r.kind = 2 ∧ 32 ≤ d)
     ·rw [if_pos hbig] at h; cases h
     ·rw [if_neg hbig] at h
      cases hi : pIns bs (pList OP FL bs f) d r x (p + 1) (n + 1) with
      | error e => rw [hi] at h; cases h
      | ok y =>
       obtain ⟨i, p2, n2⟩ := y
       rw [hi] at h
       simp only at h
       have I := ins_ok F hop hlt (fun hh => by omega) (fun {d p n xs l q n'} hp hr => ih hp hr) hi
       cases hr : pList OP FL bs f d p2 n2 with
       | error e => rw [hr] at h; cases h
       | ok z =>
        obtain ⟨is, last, p3, n3⟩ := z
        rw [hr] at h
        cases h
        have R := ih I.qb hr
        have e1 := I.sz
        have e2 := R.sz
        have e3 := I.ne
        have e4 := R.ne
        have e5 := I.n1
        refine ⟨by rw [lstB, List.length_append]; omega, R.qb, by rw [nL]; omega, fun hh => R.n5 (I.n5 (by omega)), R.lb, by rw [mayL, I.may, R.may]; rfl, by rw [v64L, I.vv, R.vv]; rfl, by rw [lgL, I.lg, R.lg]; rfl, fun hh => ?_⟩
        have := I.dd hh
        have := R.dd hh
        rw [dL]; omega
end Go.Proofs.Am
