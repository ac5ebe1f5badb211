/-
  The laws, as the machine answers them: ExprPuts, ExprGets, ExprBack.
-/
import Derived.Test.YthcjapmfchidhaaGreatDoorAmS6gc
import Derived.Test.YthcjapmfchidhaaGreatDoorAmS6RwN
import Derived.Test.YthcjapmfchidhaaGreatDoorAmS6RwQ
import Derived.Test.YthcjapmfchidhaaGreatDoorAmS6h
namespace Go.Proofs.YthcjapmfchidhaaGreatDoor
set_option maxRecDepth 100000
open Go Go.Proofs.Am
theorem ntF {a b : Int} (h : a = b) : (!eqZ a b) = false := by rw [eqZ_t h]; rfl
theorem ntT {a b : Int} (h : a ≠ b) : (!eqZ a b) = true := by rw [eqZ_f h]; rfl
section
variable {m : Int} {h : Heap} {o a b v t k : Int} {l : List Int} {bd el : List Ins} {q mb me : Bool}
theorem num98 (z : Int) : callF (cxZ m) (blk (cxZ m)) 36 [.v (.int .i64 z)] h = some (.v (.bool (numZ z)), h) := by
 unfold numZ
 by_cases h0 : 0 ≤ z
 ·rw [decide_eq_true h0, Bool.true_and, ← leZ_eq]
  exact callF_of rfl rfl (by kernel_rfl) (r98_0 (k0 := leZ_t (a := Int.ofNat 0) h0))
 ·rw [decide_eq_false h0, Bool.false_and]
  exact callF_of rfl rfl (by kernel_rfl) (r98_1 (k0 := leZ_f (a := Int.ofNat 0) (by rw [ofN]; omega)))
theorem nums_loop (hl : l.length < 2 ^ 62) (hb : callF (cxZ m) (blk (cxZ m)) 10 [.v (.imm (encIs bd))] h = some (.v (.bool mb), h)) (he : callF (cxZ m) (blk (cxZ m)) 10 [.v (.imm (encIs el))] h = some (.v (.bool me), h)) : ∀ (suf pre : List Int), pre ++ suf = l →
  blk (cxZ m) 21 (at_ Tryz.prog 21 10) [.lp 0 0, .v (.int .i64 (pre.length : Int)), .v (.int .i64 o), .v (.int .i64 a), .v (.int .i64 b), .v (.int .u64 v), .v (.int .i64 t), .v (.imm (encN l)), .v (.imm (encIs bd)), .v (.imm (encIs el)), .v (.bool q)] h = some (.v (.bool (suf.all numZ && mb && me)), h)
 | [], pre, hp => by
  rw [List.append_nil] at hp
  subst hp
  have k0 := ltZ_f (a := (pre.length : Int)) (b := Int.ofNat (encN pre).length) (by rw [ofN, encN_len]; omega)
  cases mb with
  | true => exact r56_10_2 (k0 := k0) (k1 := hb) (k2 := rfl) (k3 := he)
  | false => exact r56_10_3 (k0 := k0) (k1 := hb) (k2 := rfl)
 | n :: suf, pre, hp => by
  have hlt : pre.length < l.length := by rw [← hp]; simp
  have hg : l[pre.length]? = some n := by rw [← hp, List.getElem?_append_right (Nat.le_refl _), Nat.sub_self]; rfl
  have k0 := ltZ_t (a := (pre.length : Int)) (b := Int.ofNat (encN l).length) (by rw [ofN, encN_len]; omega)
  have k1 : ixA (.imm (encN l)) (pre.length : Int) 1 = some [.int .i64 n] := ix_map (f := fun x : Int => [AV.int .i64 x]) hg rfl
  have k2 := num98 (m := m) (h := h) n
  have ih := nums_loop hl hb he suf (pre ++ [n]) (by rw [List.append_assoc]; exact hp)
  rw [List.all_cons]
  cases hn : numZ n with
  | false =>
   rw [hn] at k2
   exact r56_10_0 (k0 := k0) (k1 := k1) (k2 := k2) (k3 := rfl)
  | true =>
   rw [hn] at k2
   refine r56_10_1 (k0 := k0) (k1 := k1) (k2 := k2) (k3 := rfl) (k4 := ?_)
   rw [wrap1 (by omega)]
   rw [List.length_append] at ih
   exact ih
def tailB (o a b v t : Int) (l : List Int) (el : List Ins) (q mb me : Bool) : Bool :=
 !(decide (o ≠ 4) && q) && !(!q && !el.isEmpty) && numZ a && numZ b && decide (0 ≤ t) && decide (t ≤ 2) && !(decide (o = 65) && decide (4294967295 < v)) && (l.all numZ && mb && me)
theorem tail7 (hl : l.length < 2 ^ 62) (hb : callF (cxZ m) (blk (cxZ m)) 10 [.v (.imm (encIs bd))] h = some (.v (.bool mb), h)) (he : callF (cxZ m) (blk (cxZ m)) 10 [.v (.imm (encIs el))] h = some (.v (.bool me), h)) :
  blk (cxZ m) 21 (at_ Tryz.prog 21 7) [.lp 0 0, .v (.int .i64 o), .v (.int .i64 a), .v (.int .i64 b), .v (.int .u64 v), .v (.int .i64 t), .v (.imm (encN l)), .v (.imm (encIs bd)), .v (.imm (encIs el)), .v (.bool q)] h = some (.v (.bool (tailB o a b v t l el q mb me)), h) := by
 have na := num98 (m := m) (h := h) a
 have nb := num98 (m := m) (h := h) b
 have lp := nums_loop (m := m) (o := o) (a := a) (b := b) (v := v) (t := t) (q := q) hl hb he l [] rfl
 have elT : ∀ x xs, el = x :: xs → ltZ (Int.ofNat 0) (Int.ofNat (encIs el).length) = true := fun x xs e => ltZ_t (by rw [encIs_len, e, ofN, ofN]; simp)
 have elF : el = [] → ltZ (Int.ofNat 0) (Int.ofNat (encIs el).length) = false := fun e => by rw [e]; rfl
 by_cases h4 : o = 4
 ·have k0 := ntF (b := Int.ofNat 4) h4
  cases q with
  | false =>
   by_cases hel : el = []
   ·have ke := elF hel
    cases qa : numZ a with
    | false =>
     rw [qa] at na
     rw [show tailB o a b v t l el false mb me = false by simp [tailB, h4, hel, qa]]
     exact r56_7_17 (k0 := k0) (k1 := rfl) (k2 := ke) (k3 := na) (k4 := rfl)
    | true =>
    rw [qa] at na
    cases qb : numZ b with
    | false =>
     rw [qb] at nb
     rw [show tailB o a b v t l el false mb me = false by simp [tailB, h4, hel, qb]]
     exact r56_7_18 (k0 := k0) (k1 := rfl) (k2 := ke) (k3 := na) (k4 := rfl) (k5 := nb) (k6 := rfl)
    | true =>
    rw [qb] at nb
    by_cases t0 : t < 0
    ·rw [show tailB o a b v t l el false mb me = false by simp [tailB, show ¬ 0 ≤ t by omega]]
     exact r56_7_19 (k0 := k0) (k1 := rfl) (k2 := ke) (k3 := na) (k4 := rfl) (k5 := nb) (k6 := rfl) (k7 := ltZ_t (b := Int.ofNat 0) t0)
    have t0f := ltZ_f (a := t) (b := Int.ofNat 0) (by rw [ofN]; omega)
    by_cases t2 : 2 < t
    ·rw [show tailB o a b v t l el false mb me = false by simp [tailB, show ¬ t ≤ 2 by omega]]
     exact r56_7_20 (k0 := k0) (k1 := rfl) (k2 := ke) (k3 := na) (k4 := rfl) (k5 := nb) (k6 := rfl) (k7 := t0f) (k8 := ltZ_t (a := Int.ofNat 2) t2)
    have t2f := ltZ_f (a := Int.ofNat 2) (b := t) (by rw [ofN]; omega)
    by_cases o65 : o = 65
    ·by_cases vv : 4294967295 < v
     ·rw [show tailB o a b v t l el false mb me = false by simp [tailB, o65, vv]]
      exact r56_7_21 (k0 := k0) (k1 := rfl) (k2 := ke) (k3 := na) (k4 := rfl) (k5 := nb) (k6 := rfl) (k7 := t0f) (k8 := t2f) (k9 := eqZ_t (b := Int.ofNat 65) o65) (k10 := ltZ_t (a := Int.ofNat 4294967295) vv)
     ·rw [show tailB o a b v t l el false mb me = (l.all numZ && mb && me) by simp [tailB, h4, hel, qa, qb, show 0 ≤ t by omega, show t ≤ 2 by omega, vv]]
      exact r56_7_22 (k0 := k0) (k1 := rfl) (k2 := ke) (k3 := na) (k4 := rfl) (k5 := nb) (k6 := rfl) (k7 := t0f) (k8 := t2f) (k9 := eqZ_t (b := Int.ofNat 65) o65) (k10 := ltZ_f (a := Int.ofNat 4294967295) (b := v) (by rw [ofN]; omega)) (k11 := lp)
    ·rw [show tailB o a b v t l el false mb me = (l.all numZ && mb && me) by simp [tailB, h4, hel, qa, qb, show 0 ≤ t by omega, show t ≤ 2 by omega]]
     exact r56_7_23 (k0 := k0) (k1 := rfl) (k2 := ke) (k3 := na) (k4 := rfl) (k5 := nb) (k6 := rfl) (k7 := t0f) (k8 := t2f) (k9 := eqZ_f (b := Int.ofNat 65) o65) (k10 := lp)
   ·obtain ⟨x, xs, hx⟩ := List.exists_cons_of_ne_nil hel
    rw [show tailB o a b v t l el false mb me = false by simp [tailB, hx]]
    exact r56_7_16 (k0 := k0) (k1 := rfl) (k2 := elT x xs hx)
  | true =>
   cases qa : numZ a with
   | false =>
    rw [qa] at na
    rw [show tailB o a b v t l el true mb me = false by simp [tailB, h4, qa]]
    exact r56_7_24 (k0 := k0) (k1 := rfl) (k2 := na) (k3 := rfl)
   | true =>
   rw [qa] at na
   cases qb : numZ b with
   | false =>
    rw [qb] at nb
    rw [show tailB o a b v t l el true mb me = false by simp [tailB, h4, qb]]
    exact r56_7_25 (k0 := k0) (k1 := rfl) (k2 := na) (k3 := rfl) (k4 := nb) (k5 := rfl)
   | true =>
   rw [qb] at nb
   by_cases t0 : t < 0
   ·rw [show tailB o a b v t l el true mb me = false by simp [tailB, show ¬ 0 ≤ t by omega]]
    exact r56_7_26 (k0 := k0) (k1 := rfl) (k2 := na) (k3 := rfl) (k4 := nb) (k5 := rfl) (k6 := ltZ_t (b := Int.ofNat 0) t0)
   have t0f := ltZ_f (a := t) (b := Int.ofNat 0) (by rw [ofN]; omega)
   by_cases t2 : 2 < t
   ·rw [show tailB o a b v t l el true mb me = false by simp [tailB, show ¬ t ≤ 2 by omega]]
    exact r56_7_27 (k0 := k0) (k1 := rfl) (k2 := na) (k3 := rfl) (k4 := nb) (k5 := rfl) (k6 := t0f) (k7 := ltZ_t (a := Int.ofNat 2) t2)
   have t2f := ltZ_f (a := Int.ofNat 2) (b := t) (by rw [ofN]; omega)
   by_cases o65 : o = 65
   ·by_cases vv : 4294967295 < v
    ·rw [show tailB o a b v t l el true mb me = false by simp [tailB, o65, vv]]
     exact r56_7_28 (k0 := k0) (k1 := rfl) (k2 := na) (k3 := rfl) (k4 := nb) (k5 := rfl) (k6 := t0f) (k7 := t2f) (k8 := eqZ_t (b := Int.ofNat 65) o65) (k9 := ltZ_t (a := Int.ofNat 4294967295) vv)
    ·rw [show tailB o a b v t l el true mb me = (l.all numZ && mb && me) by simp [tailB, h4, qa, qb, show 0 ≤ t by omega, show t ≤ 2 by omega, vv]]
     exact r56_7_29 (k0 := k0) (k1 := rfl) (k2 := na) (k3 := rfl) (k4 := nb) (k5 := rfl) (k6 := t0f) (k7 := t2f) (k8 := eqZ_t (b := Int.ofNat 65) o65) (k9 := ltZ_f (a := Int.ofNat 4294967295) (b := v) (by rw [ofN]; omega)) (k10 := lp)
   ·rw [show tailB o a b v t l el true mb me = (l.all numZ && mb && me) by simp [tailB, h4, qa, qb, show 0 ≤ t by omega, show t ≤ 2 by omega]]
    exact r56_7_30 (k0 := k0) (k1 := rfl) (k2 := na) (k3 := rfl) (k4 := nb) (k5 := rfl) (k6 := t0f) (k7 := t2f) (k8 := eqZ_f (b := Int.ofNat 65) o65) (k9 := lp)
 ·have k0 := ntT (b := Int.ofNat 4) h4
  cases q with
  | true =>
   rw [show tailB o a b v t l el true mb me = false by simp [tailB, h4]]
   exact r56_7_0 (k0 := k0) (k1 := rfl)
  | false =>
   by_cases hel : el = []
   ·have ke := elF hel
    cases qa : numZ a with
    | false =>
     rw [qa] at na
     rw [show tailB o a b v t l el false mb me = false by simp [tailB, h4, hel, qa]]
     exact r56_7_2 (k0 := k0) (k1 := rfl) (k2 := rfl) (k3 := ke) (k4 := na) (k5 := rfl)
    | true =>
    rw [qa] at na
    cases qb : numZ b with
    | false =>
     rw [qb] at nb
     rw [show tailB o a b v t l el false mb me = false by simp [tailB, h4, hel, qb]]
     exact r56_7_3 (k0 := k0) (k1 := rfl) (k2 := rfl) (k3 := ke) (k4 := na) (k5 := rfl) (k6 := nb) (k7 := rfl)
    | true =>
    rw [qb] at nb
    by_cases t0 : t < 0
    ·rw [show tailB o a b v t l el false mb me = false by simp [tailB, show ¬ 0 ≤ t by omega]]
     exact r56_7_4 (k0 := k0) (k1 := rfl) (k2 := rfl) (k3 := ke) (k4 := na) (k5 := rfl) (k6 := nb) (k7 := rfl) (k8 := ltZ_t (b := Int.ofNat 0) t0)
    have t0f := ltZ_f (a := t) (b := Int.ofNat 0) (by rw [ofN]; omega)
    by_cases t2 : 2 < t
    ·rw [show tailB o a b v t l el false mb me = false by simp [tailB, show ¬ t ≤ 2 by omega]]
     exact r56_7_5 (k0 := k0) (k1 := rfl) (k2 := rfl) (k3 := ke) (k4 := na) (k5 := rfl) (k6 := nb) (k7 := rfl) (k8 := t0f) (k9 := ltZ_t (a := Int.ofNat 2) t2)
    have t2f := ltZ_f (a := Int.ofNat 2) (b := t) (by rw [ofN]; omega)
    by_cases o65 : o = 65
    ·by_cases vv : 4294967295 < v
     ·rw [show tailB o a b v t l el false mb me = false by simp [tailB, o65, vv]]
      exact r56_7_6 (k0 := k0) (k1 := rfl) (k2 := rfl) (k3 := ke) (k4 := na) (k5 := rfl) (k6 := nb) (k7 := rfl) (k8 := t0f) (k9 := t2f) (k10 := eqZ_t (b := Int.ofNat 65) o65) (k11 := ltZ_t (a := Int.ofNat 4294967295) vv)
     ·rw [show tailB o a b v t l el false mb me = (l.all numZ && mb && me) by simp [tailB, h4, hel, qa, qb, show 0 ≤ t by omega, show t ≤ 2 by omega, vv]]
      exact r56_7_7 (k0 := k0) (k1 := rfl) (k2 := rfl) (k3 := ke) (k4 := na) (k5 := rfl) (k6 := nb) (k7 := rfl) (k8 := t0f) (k9 := t2f) (k10 := eqZ_t (b := Int.ofNat 65) o65) (k11 := ltZ_f (a := Int.ofNat 4294967295) (b := v) (by rw [ofN]; omega)) (k12 := lp)
    ·rw [show tailB o a b v t l el false mb me = (l.all numZ && mb && me) by simp [tailB, h4, hel, qa, qb, show 0 ≤ t by omega, show t ≤ 2 by omega, o65]]
     exact r56_7_8 (k0 := k0) (k1 := rfl) (k2 := rfl) (k3 := ke) (k4 := na) (k5 := rfl) (k6 := nb) (k7 := rfl) (k8 := t0f) (k9 := t2f) (k10 := eqZ_f (b := Int.ofNat 65) o65) (k11 := lp)
   ·obtain ⟨x, xs, hx⟩ := List.exists_cons_of_ne_nil hel
    rw [show tailB o a b v t l el false mb me = false by simp [tailB, hx]]
    exact r56_7_1 (k0 := k0) (k1 := rfl) (k2 := rfl) (k3 := elT x xs hx)
def headB (A B LL C K : Bool) (a b v t : Int) (l : List Int) (bd : List Ins) : Bool :=
 (A || decide (a = 0)) && (B || decide (b = 0)) && (C || decide (v = 0)) && (K || decide (t = 0) && bd.isEmpty) && (bif LL then !l.isEmpty else l.isEmpty)
theorem fam_p (hk : k ≠ 0) (h10 : k ≠ 10) (h2 : k ≠ 2) (hl : l.length < 2 ^ 62) (hb : callF (cxZ m) (blk (cxZ m)) 10 [.v (.imm (encIs bd))] h = some (.v (.bool mb), h)) (he : callF (cxZ m) (blk (cxZ m)) 10 [.v (.imm (encIs el))] h = some (.v (.bool me), h)) :
  blk (cxZ m) 21 (at_ Tryz.prog 21 5) [.lp 0 0, .v (.int .i64 k), .v (.bool false), .v (.bool false), .v (.bool false), .v (.int .i64 o), .v (.int .i64 a), .v (.int .i64 b), .v (.int .u64 v), .v (.int .i64 t), .v (.imm (encN l)), .v (.imm (encIs bd)), .v (.imm (encIs el)), .v (.bool q)] h = some (.v (.bool (headB false false false false false a b v t l bd && tailB o a b v t l el q mb me)), h) := by
 have k0 := eqZ_f (b := Int.ofNat 0) hk
 by_cases za : a = 0
 case neg =>
  rw [show (headB false false false false false a b v t l bd && tailB o a b v t l el q mb me) = false by simp [headB, za]]
  exact r56_5p_0 (k0 := k0) (k1 := ntT (b := Int.ofNat 0) za)
 by_cases zb : b = 0
 case neg =>
  rw [show (headB false false false false false a b v t l bd && tailB o a b v t l el q mb me) = false by simp [headB, zb]]
  exact r56_5p_1 (k0 := k0) (k1 := ntF (b := Int.ofNat 0) za) (k2 := ntT (b := Int.ofNat 0) zb)
 by_cases zv : v = 0
 case neg =>
  rw [show (headB false false false false false a b v t l bd && tailB o a b v t l el q mb me) = false by simp [headB, zv]]
  exact r56_5p_2 (k0 := k0) (k1 := ntF (b := Int.ofNat 0) za) (k2 := ntF (b := Int.ofNat 0) zb) (k3 := ntT (b := Int.ofNat 10) h10) (k4 := ntT (b := Int.ofNat 0) zv)
 by_cases zt : t = 0
 case neg =>
  rw [show (headB false false false false false a b v t l bd && tailB o a b v t l el q mb me) = false by simp [headB, zt]]
  exact r56_5p_3 (k0 := k0) (k1 := ntF (b := Int.ofNat 0) za) (k2 := ntF (b := Int.ofNat 0) zb) (k3 := ntT (b := Int.ofNat 10) h10) (k4 := ntF (b := Int.ofNat 0) zv) (k5 := ntT (b := Int.ofNat 2) h2) (k6 := ntT (b := Int.ofNat 0) zt)
 by_cases zd : bd = []
 case neg =>
  obtain ⟨x, xs, hx⟩ := List.exists_cons_of_ne_nil zd
  rw [show (headB false false false false false a b v t l bd && tailB o a b v t l el q mb me) = false by simp [headB, hx]]
  exact r56_5p_4 (k0 := k0) (k1 := ntF (b := Int.ofNat 0) za) (k2 := ntF (b := Int.ofNat 0) zb) (k3 := ntT (b := Int.ofNat 10) h10) (k4 := ntF (b := Int.ofNat 0) zv) (k5 := ntT (b := Int.ofNat 2) h2) (k6 := ntF (b := Int.ofNat 0) zt) (k7 := ltZ_t (by rw [encIs_len, hx, ofN, ofN]; simp))
 by_cases zl : l = []
 case neg =>
  obtain ⟨x, xs, hx⟩ := List.exists_cons_of_ne_nil zl
  rw [show (headB false false false false false a b v t l bd && tailB o a b v t l el q mb me) = false by simp [headB, hx]]
  exact r56_5p_5 (k0 := k0) (k1 := ntF (b := Int.ofNat 0) za) (k2 := ntF (b := Int.ofNat 0) zb) (k3 := ntT (b := Int.ofNat 10) h10) (k4 := ntF (b := Int.ofNat 0) zv) (k5 := ntT (b := Int.ofNat 2) h2) (k6 := ntF (b := Int.ofNat 0) zt) (k7 := (by rw [zd]; rfl)) (k8 := ltZ_t (by rw [encN_len, hx, ofN, ofN]; simp))
 rw [show (headB false false false false false a b v t l bd && tailB o a b v t l el q mb me) = tailB o a b v t l el q mb me by simp [headB, za, zb, zv, zt, zd, zl]]
 exact r56_5p_6 (k0 := k0) (k1 := ntF (b := Int.ofNat 0) za) (k2 := ntF (b := Int.ofNat 0) zb) (k3 := ntT (b := Int.ofNat 10) h10) (k4 := ntF (b := Int.ofNat 0) zv) (k5 := ntT (b := Int.ofNat 2) h2) (k6 := ntF (b := Int.ofNat 0) zt) (k7 := (by rw [zd]; rfl)) (k8 := (by rw [zl]; rfl)) (k9 := tail7 hl hb he)
theorem fam_a (hk : k ≠ 0) (h10 : k ≠ 10) (h2 : k ≠ 2) (hl : l.length < 2 ^ 62) (hb : callF (cxZ m) (blk (cxZ m)) 10 [.v (.imm (encIs bd))] h = some (.v (.bool mb), h)) (he : callF (cxZ m) (blk (cxZ m)) 10 [.v (.imm (encIs el))] h = some (.v (.bool me), h)) :
  blk (cxZ m) 21 (at_ Tryz.prog 21 5) [.lp 0 0, .v (.int .i64 k), .v (.bool true), .v (.bool false), .v (.bool false), .v (.int .i64 o), .v (.int .i64 a), .v (.int .i64 b), .v (.int .u64 v), .v (.int .i64 t), .v (.imm (encN l)), .v (.imm (encIs bd)), .v (.imm (encIs el)), .v (.bool q)] h = some (.v (.bool (headB true false false false false a b v t l bd && tailB o a b v t l el q mb me)), h) := by
 have k0 := eqZ_f (b := Int.ofNat 0) hk
 by_cases zb : b = 0
 case neg =>
  rw [show (headB true false false false false a b v t l bd && tailB o a b v t l el q mb me) = false by simp [headB, zb]]
  exact r56_5a_0 (k0 := k0) (k1 := ntT (b := Int.ofNat 0) zb)
 by_cases zv : v = 0
 case neg =>
  rw [show (headB true false false false false a b v t l bd && tailB o a b v t l el q mb me) = false by simp [headB, zv]]
  exact r56_5a_1 (k0 := k0) (k1 := ntF (b := Int.ofNat 0) zb) (k2 := ntT (b := Int.ofNat 10) h10) (k3 := ntT (b := Int.ofNat 0) zv)
 by_cases zt : t = 0
 case neg =>
  rw [show (headB true false false false false a b v t l bd && tailB o a b v t l el q mb me) = false by simp [headB, zt]]
  exact r56_5a_2 (k0 := k0) (k1 := ntF (b := Int.ofNat 0) zb) (k2 := ntT (b := Int.ofNat 10) h10) (k3 := ntF (b := Int.ofNat 0) zv) (k4 := ntT (b := Int.ofNat 2) h2) (k5 := ntT (b := Int.ofNat 0) zt)
 by_cases zd : bd = []
 case neg =>
  obtain ⟨x, xs, hx⟩ := List.exists_cons_of_ne_nil zd
  rw [show (headB true false false false false a b v t l bd && tailB o a b v t l el q mb me) = false by simp [headB, hx]]
  exact r56_5a_3 (k0 := k0) (k1 := ntF (b := Int.ofNat 0) zb) (k2 := ntT (b := Int.ofNat 10) h10) (k3 := ntF (b := Int.ofNat 0) zv) (k4 := ntT (b := Int.ofNat 2) h2) (k5 := ntF (b := Int.ofNat 0) zt) (k6 := ltZ_t (by rw [encIs_len, hx, ofN, ofN]; simp))
 by_cases zl : l = []
 case neg =>
  obtain ⟨x, xs, hx⟩ := List.exists_cons_of_ne_nil zl
  rw [show (headB true false false false false a b v t l bd && tailB o a b v t l el q mb me) = false by simp [headB, hx]]
  exact r56_5a_4 (k0 := k0) (k1 := ntF (b := Int.ofNat 0) zb) (k2 := ntT (b := Int.ofNat 10) h10) (k3 := ntF (b := Int.ofNat 0) zv) (k4 := ntT (b := Int.ofNat 2) h2) (k5 := ntF (b := Int.ofNat 0) zt) (k6 := (by rw [zd]; rfl)) (k7 := ltZ_t (by rw [encN_len, hx, ofN, ofN]; simp))
 rw [show (headB true false false false false a b v t l bd && tailB o a b v t l el q mb me) = tailB o a b v t l el q mb me by simp [headB, zb, zv, zt, zd, zl]]
 exact r56_5a_5 (k0 := k0) (k1 := ntF (b := Int.ofNat 0) zb) (k2 := ntT (b := Int.ofNat 10) h10) (k3 := ntF (b := Int.ofNat 0) zv) (k4 := ntT (b := Int.ofNat 2) h2) (k5 := ntF (b := Int.ofNat 0) zt) (k6 := (by rw [zd]; rfl)) (k7 := (by rw [zl]; rfl)) (k8 := tail7 hl hb he)
theorem fam_m (hk : k ≠ 0) (h10 : k ≠ 10) (h2 : k ≠ 2) (hl : l.length < 2 ^ 62) (hb : callF (cxZ m) (blk (cxZ m)) 10 [.v (.imm (encIs bd))] h = some (.v (.bool mb), h)) (he : callF (cxZ m) (blk (cxZ m)) 10 [.v (.imm (encIs el))] h = some (.v (.bool me), h)) :
  blk (cxZ m) 21 (at_ Tryz.prog 21 5) [.lp 0 0, .v (.int .i64 k), .v (.bool true), .v (.bool true), .v (.bool false), .v (.int .i64 o), .v (.int .i64 a), .v (.int .i64 b), .v (.int .u64 v), .v (.int .i64 t), .v (.imm (encN l)), .v (.imm (encIs bd)), .v (.imm (encIs el)), .v (.bool q)] h = some (.v (.bool (headB true true false false false a b v t l bd && tailB o a b v t l el q mb me)), h) := by
 have k0 := eqZ_f (b := Int.ofNat 0) hk
 by_cases zv : v = 0
 case neg =>
  rw [show (headB true true false false false a b v t l bd && tailB o a b v t l el q mb me) = false by simp [headB, zv]]
  exact r56_5m_0 (k0 := k0) (k1 := ntT (b := Int.ofNat 10) h10) (k2 := ntT (b := Int.ofNat 0) zv)
 by_cases zt : t = 0
 case neg =>
  rw [show (headB true true false false false a b v t l bd && tailB o a b v t l el q mb me) = false by simp [headB, zt]]
  exact r56_5m_1 (k0 := k0) (k1 := ntT (b := Int.ofNat 10) h10) (k2 := ntF (b := Int.ofNat 0) zv) (k3 := ntT (b := Int.ofNat 2) h2) (k4 := ntT (b := Int.ofNat 0) zt)
 by_cases zd : bd = []
 case neg =>
  obtain ⟨x, xs, hx⟩ := List.exists_cons_of_ne_nil zd
  rw [show (headB true true false false false a b v t l bd && tailB o a b v t l el q mb me) = false by simp [headB, hx]]
  exact r56_5m_2 (k0 := k0) (k1 := ntT (b := Int.ofNat 10) h10) (k2 := ntF (b := Int.ofNat 0) zv) (k3 := ntT (b := Int.ofNat 2) h2) (k4 := ntF (b := Int.ofNat 0) zt) (k5 := ltZ_t (by rw [encIs_len, hx, ofN, ofN]; simp))
 by_cases zl : l = []
 case neg =>
  obtain ⟨x, xs, hx⟩ := List.exists_cons_of_ne_nil zl
  rw [show (headB true true false false false a b v t l bd && tailB o a b v t l el q mb me) = false by simp [headB, hx]]
  exact r56_5m_3 (k0 := k0) (k1 := ntT (b := Int.ofNat 10) h10) (k2 := ntF (b := Int.ofNat 0) zv) (k3 := ntT (b := Int.ofNat 2) h2) (k4 := ntF (b := Int.ofNat 0) zt) (k5 := (by rw [zd]; rfl)) (k6 := ltZ_t (by rw [encN_len, hx, ofN, ofN]; simp))
 rw [show (headB true true false false false a b v t l bd && tailB o a b v t l el q mb me) = tailB o a b v t l el q mb me by simp [headB, zv, zt, zd, zl]]
 exact r56_5m_4 (k0 := k0) (k1 := ntT (b := Int.ofNat 10) h10) (k2 := ntF (b := Int.ofNat 0) zv) (k3 := ntT (b := Int.ofNat 2) h2) (k4 := ntF (b := Int.ofNat 0) zt) (k5 := (by rw [zd]; rfl)) (k6 := (by rw [zl]; rfl)) (k7 := tail7 hl hb he)
theorem fam_c (hk : k ≠ 0) (h10 : k = 10) (h2 : k ≠ 2) (hl : l.length < 2 ^ 62) (hb : callF (cxZ m) (blk (cxZ m)) 10 [.v (.imm (encIs bd))] h = some (.v (.bool mb), h)) (he : callF (cxZ m) (blk (cxZ m)) 10 [.v (.imm (encIs el))] h = some (.v (.bool me), h)) :
  blk (cxZ m) 21 (at_ Tryz.prog 21 5) [.lp 0 0, .v (.int .i64 k), .v (.bool false), .v (.bool false), .v (.bool false), .v (.int .i64 o), .v (.int .i64 a), .v (.int .i64 b), .v (.int .u64 v), .v (.int .i64 t), .v (.imm (encN l)), .v (.imm (encIs bd)), .v (.imm (encIs el)), .v (.bool q)] h = some (.v (.bool (headB false false false true false a b v t l bd && tailB o a b v t l el q mb me)), h) := by
 have k0 := eqZ_f (b := Int.ofNat 0) hk
 by_cases za : a = 0
 case neg =>
  rw [show (headB false false false true false a b v t l bd && tailB o a b v t l el q mb me) = false by simp [headB, za]]
  exact r56_5c_0 (k0 := k0) (k1 := ntT (b := Int.ofNat 0) za)
 by_cases zb : b = 0
 case neg =>
  rw [show (headB false false false true false a b v t l bd && tailB o a b v t l el q mb me) = false by simp [headB, zb]]
  exact r56_5c_1 (k0 := k0) (k1 := ntF (b := Int.ofNat 0) za) (k2 := ntT (b := Int.ofNat 0) zb)
 by_cases zt : t = 0
 case neg =>
  rw [show (headB false false false true false a b v t l bd && tailB o a b v t l el q mb me) = false by simp [headB, zt]]
  exact r56_5c_2 (k0 := k0) (k1 := ntF (b := Int.ofNat 0) za) (k2 := ntF (b := Int.ofNat 0) zb) (k3 := ntF (b := Int.ofNat 10) h10) (k4 := ntT (b := Int.ofNat 2) h2) (k5 := ntT (b := Int.ofNat 0) zt)
 by_cases zd : bd = []
 case neg =>
  obtain ⟨x, xs, hx⟩ := List.exists_cons_of_ne_nil zd
  rw [show (headB false false false true false a b v t l bd && tailB o a b v t l el q mb me) = false by simp [headB, hx]]
  exact r56_5c_3 (k0 := k0) (k1 := ntF (b := Int.ofNat 0) za) (k2 := ntF (b := Int.ofNat 0) zb) (k3 := ntF (b := Int.ofNat 10) h10) (k4 := ntT (b := Int.ofNat 2) h2) (k5 := ntF (b := Int.ofNat 0) zt) (k6 := ltZ_t (by rw [encIs_len, hx, ofN, ofN]; simp))
 by_cases zl : l = []
 case neg =>
  obtain ⟨x, xs, hx⟩ := List.exists_cons_of_ne_nil zl
  rw [show (headB false false false true false a b v t l bd && tailB o a b v t l el q mb me) = false by simp [headB, hx]]
  exact r56_5c_4 (k0 := k0) (k1 := ntF (b := Int.ofNat 0) za) (k2 := ntF (b := Int.ofNat 0) zb) (k3 := ntF (b := Int.ofNat 10) h10) (k4 := ntT (b := Int.ofNat 2) h2) (k5 := ntF (b := Int.ofNat 0) zt) (k6 := (by rw [zd]; rfl)) (k7 := ltZ_t (by rw [encN_len, hx, ofN, ofN]; simp))
 rw [show (headB false false false true false a b v t l bd && tailB o a b v t l el q mb me) = tailB o a b v t l el q mb me by simp [headB, za, zb, zt, zd, zl]]
 exact r56_5c_5 (k0 := k0) (k1 := ntF (b := Int.ofNat 0) za) (k2 := ntF (b := Int.ofNat 0) zb) (k3 := ntF (b := Int.ofNat 10) h10) (k4 := ntT (b := Int.ofNat 2) h2) (k5 := ntF (b := Int.ofNat 0) zt) (k6 := (by rw [zd]; rfl)) (k7 := (by rw [zl]; rfl)) (k8 := tail7 hl hb he)
theorem fam_b (hk : k ≠ 0) (h10 : k ≠ 10) (h2 : k = 2) (hl : l.length < 2 ^ 62) (hb : callF (cxZ m) (blk (cxZ m)) 10 [.v (.imm (encIs bd))] h = some (.v (.bool mb), h)) (he : callF (cxZ m) (blk (cxZ m)) 10 [.v (.imm (encIs el))] h = some (.v (.bool me), h)) :
  blk (cxZ m) 21 (at_ Tryz.prog 21 5) [.lp 0 0, .v (.int .i64 k), .v (.bool false), .v (.bool false), .v (.bool false), .v (.int .i64 o), .v (.int .i64 a), .v (.int .i64 b), .v (.int .u64 v), .v (.int .i64 t), .v (.imm (encN l)), .v (.imm (encIs bd)), .v (.imm (encIs el)), .v (.bool q)] h = some (.v (.bool (headB false false false false true a b v t l bd && tailB o a b v t l el q mb me)), h) := by
 have k0 := eqZ_f (b := Int.ofNat 0) hk
 by_cases za : a = 0
 case neg =>
  rw [show (headB false false false false true a b v t l bd && tailB o a b v t l el q mb me) = false by simp [headB, za]]
  exact r56_5b_0 (k0 := k0) (k1 := ntT (b := Int.ofNat 0) za)
 by_cases zb : b = 0
 case neg =>
  rw [show (headB false false false false true a b v t l bd && tailB o a b v t l el q mb me) = false by simp [headB, zb]]
  exact r56_5b_1 (k0 := k0) (k1 := ntF (b := Int.ofNat 0) za) (k2 := ntT (b := Int.ofNat 0) zb)
 by_cases zv : v = 0
 case neg =>
  rw [show (headB false false false false true a b v t l bd && tailB o a b v t l el q mb me) = false by simp [headB, zv]]
  exact r56_5b_2 (k0 := k0) (k1 := ntF (b := Int.ofNat 0) za) (k2 := ntF (b := Int.ofNat 0) zb) (k3 := ntT (b := Int.ofNat 10) h10) (k4 := ntT (b := Int.ofNat 0) zv)
 by_cases zl : l = []
 case neg =>
  obtain ⟨x, xs, hx⟩ := List.exists_cons_of_ne_nil zl
  rw [show (headB false false false false true a b v t l bd && tailB o a b v t l el q mb me) = false by simp [headB, hx]]
  exact r56_5b_3 (k0 := k0) (k1 := ntF (b := Int.ofNat 0) za) (k2 := ntF (b := Int.ofNat 0) zb) (k3 := ntT (b := Int.ofNat 10) h10) (k4 := ntF (b := Int.ofNat 0) zv) (k5 := ntF (b := Int.ofNat 2) h2) (k6 := ltZ_t (by rw [encN_len, hx, ofN, ofN]; simp))
 rw [show (headB false false false false true a b v t l bd && tailB o a b v t l el q mb me) = tailB o a b v t l el q mb me by simp [headB, za, zb, zv, zl]]
 exact r56_5b_4 (k0 := k0) (k1 := ntF (b := Int.ofNat 0) za) (k2 := ntF (b := Int.ofNat 0) zb) (k3 := ntT (b := Int.ofNat 10) h10) (k4 := ntF (b := Int.ofNat 0) zv) (k5 := ntF (b := Int.ofNat 2) h2) (k6 := (by rw [zl]; rfl)) (k7 := tail7 hl hb he)
theorem fam_t (hk : k ≠ 0) (h10 : k ≠ 10) (h2 : k ≠ 2) (hl : l.length < 2 ^ 62) (hb : callF (cxZ m) (blk (cxZ m)) 10 [.v (.imm (encIs bd))] h = some (.v (.bool mb), h)) (he : callF (cxZ m) (blk (cxZ m)) 10 [.v (.imm (encIs el))] h = some (.v (.bool me), h)) :
  blk (cxZ m) 21 (at_ Tryz.prog 21 5) [.lp 0 0, .v (.int .i64 k), .v (.bool false), .v (.bool false), .v (.bool true), .v (.int .i64 o), .v (.int .i64 a), .v (.int .i64 b), .v (.int .u64 v), .v (.int .i64 t), .v (.imm (encN l)), .v (.imm (encIs bd)), .v (.imm (encIs el)), .v (.bool q)] h = some (.v (.bool (headB false false true false false a b v t l bd && tailB o a b v t l el q mb me)), h) := by
 have k0 := eqZ_f (b := Int.ofNat 0) hk
 by_cases za : a = 0
 case neg =>
  rw [show (headB false false true false false a b v t l bd && tailB o a b v t l el q mb me) = false by simp [headB, za]]
  exact r56_5t_0 (k0 := k0) (k1 := ntT (b := Int.ofNat 0) za)
 by_cases zb : b = 0
 case neg =>
  rw [show (headB false false true false false a b v t l bd && tailB o a b v t l el q mb me) = false by simp [headB, zb]]
  exact r56_5t_1 (k0 := k0) (k1 := ntF (b := Int.ofNat 0) za) (k2 := ntT (b := Int.ofNat 0) zb)
 by_cases zv : v = 0
 case neg =>
  rw [show (headB false false true false false a b v t l bd && tailB o a b v t l el q mb me) = false by simp [headB, zv]]
  exact r56_5t_2 (k0 := k0) (k1 := ntF (b := Int.ofNat 0) za) (k2 := ntF (b := Int.ofNat 0) zb) (k3 := ntT (b := Int.ofNat 10) h10) (k4 := ntT (b := Int.ofNat 0) zv)
 by_cases zt : t = 0
 case neg =>
  rw [show (headB false false true false false a b v t l bd && tailB o a b v t l el q mb me) = false by simp [headB, zt]]
  exact r56_5t_3 (k0 := k0) (k1 := ntF (b := Int.ofNat 0) za) (k2 := ntF (b := Int.ofNat 0) zb) (k3 := ntT (b := Int.ofNat 10) h10) (k4 := ntF (b := Int.ofNat 0) zv) (k5 := ntT (b := Int.ofNat 2) h2) (k6 := ntT (b := Int.ofNat 0) zt)
 by_cases zd : bd = []
 case neg =>
  obtain ⟨x, xs, hx⟩ := List.exists_cons_of_ne_nil zd
  rw [show (headB false false true false false a b v t l bd && tailB o a b v t l el q mb me) = false by simp [headB, hx]]
  exact r56_5t_4 (k0 := k0) (k1 := ntF (b := Int.ofNat 0) za) (k2 := ntF (b := Int.ofNat 0) zb) (k3 := ntT (b := Int.ofNat 10) h10) (k4 := ntF (b := Int.ofNat 0) zv) (k5 := ntT (b := Int.ofNat 2) h2) (k6 := ntF (b := Int.ofNat 0) zt) (k7 := ltZ_t (by rw [encIs_len, hx, ofN, ofN]; simp))
 by_cases zl : l ≠ []
 case neg =>
  rw [show (headB false false true false false a b v t l bd && tailB o a b v t l el q mb me) = false by simp [headB, Decidable.not_not.1 zl]]
  exact r56_5t_5 (k0 := k0) (k1 := ntF (b := Int.ofNat 0) za) (k2 := ntF (b := Int.ofNat 0) zb) (k3 := ntT (b := Int.ofNat 10) h10) (k4 := ntF (b := Int.ofNat 0) zv) (k5 := ntT (b := Int.ofNat 2) h2) (k6 := ntF (b := Int.ofNat 0) zt) (k7 := (by rw [zd]; rfl)) (k8 := eqZ_t (by rw [encN_len, Decidable.not_not.1 zl]; rfl))
 rw [show (headB false false true false false a b v t l bd && tailB o a b v t l el q mb me) = tailB o a b v t l el q mb me by simp [headB, za, zb, zv, zt, zd, zl]]
 exact r56_5t_6 (k0 := k0) (k1 := ntF (b := Int.ofNat 0) za) (k2 := ntF (b := Int.ofNat 0) zb) (k3 := ntT (b := Int.ofNat 10) h10) (k4 := ntF (b := Int.ofNat 0) zv) (k5 := ntT (b := Int.ofNat 2) h2) (k6 := ntF (b := Int.ofNat 0) zt) (k7 := (by rw [zd]; rfl)) (k8 := eqZ_f (by rw [encN_len, ofN, ofN]; have := List.length_pos_iff.2 zl; omega)) (k9 := tail7 hl hb he)
end
end Go.Proofs.YthcjapmfchidhaaGreatDoor
namespace Go.Proofs.YthcjapmfchidhaaGreatDoor
set_option maxRecDepth 100000
open Go Go.Proofs.Am
section
variable {m : Int} {h : Heap} {o a b v t k : Int} {l : List Int} {bd el : List Ins} {q : Bool}
def May5 (m : Int) (xs : List Ins) : Prop := ∀ h : Heap, callF (cxZ m) (blk (cxZ m)) 10 [.v (.imm (encIs xs))] h = some (.v (.bool (mayL opI xs)), h)
def One5 (m : Int) (x : Ins) : Prop := ∀ h : Heap, callF (cxZ m) (blk (cxZ m)) 21 [.v (.agg (encI x))] h = some (.v (.bool (mayI opI x)), h)
theorem num0 : numZ 0 = true := rfl
theorem may_none (hop : opI o = none) : mayI opI (.mk o a b v t l bd el q) = false := by unfold mayI; rw [hop]
theorem may_blk {r : OpR} (hop : opI o = some r) (h2 : r.kind = 2) (ho : o ≠ 65) : mayI opI (.mk o a b v t l bd el q) = (headB false false false false true a b v t l bd && tailB o a b v t l el q (mayL opI bd) (mayL opI el)) := by
 unfold mayI
 rw [hop]
 simp only [if_pos h2]
 by_cases za : a = 0
 case neg => simp [headB, za]
 by_cases zb : b = 0
 case neg => simp [headB, zb]
 by_cases zv : v = 0
 case neg => simp [headB, zv]
 by_cases zl : l = []
 case neg => have fl : l.isEmpty = false := List.isEmpty_eq_false_iff.2 zl; simp [headB, fl]
 subst za zb zv zl
 simp [headB, tailB, num0, ho, Bool.and_comm, Bool.and_left_comm, Bool.and_assoc]
theorem may_pl {r : OpR} (hop : opI o = some r) (h2 : r.kind ≠ 2) (o4 : o ≠ 4) {A B LL C : Bool} (hp : mayP r o a b v l = (headB A B LL C false a b v 0 l [] && (numZ a && numZ b && !(decide (o = 65) && decide (4294967295 < v)) && l.all numZ))) :
  mayI opI (.mk o a b v t l bd el q) = (headB A B LL C false a b v t l bd && tailB o a b v t l el q (mayL opI bd) (mayL opI el)) := by
 unfold mayI
 rw [hop]
 simp only [if_neg h2]
 by_cases zt : t = 0
 case neg => simp [headB, zt]
 by_cases zd : bd = []
 case neg => have fl : bd.isEmpty = false := List.isEmpty_eq_false_iff.2 zd; simp [headB, fl]
 subst zt zd
 cases q with
 | true => simp [tailB, o4]
 | false =>
  by_cases ze : el = []
  case neg => have fl : el.isEmpty = false := List.isEmpty_eq_false_iff.2 ze; simp [tailB, fl]
  subst ze
  rw [hp]
  simp [headB, tailB, mayL, Bool.and_assoc]
theorem one_5 (hl : l.length < 2 ^ 62) (hb : May5 m bd) (he : May5 m el) : One5 m (.mk o a b v t l bd el q) := by
 intro h
 have k0 := kind_Q (m := m) (h := h) o
 rcases op_row o with ⟨hop, hf⟩ | ⟨r, x, hop, hq⟩
 ·rw [may_none hop]
  have hk : kindQ o = 0 := by unfold kindQ; rw [hf]
  rw [hk] at k0
  have no : ∀ n : Nat, (findQ (n : Int) rowsT).isSome = true → o ≠ n := fun n hn e => by rw [e] at hf; rw [hf] at hn; cases hn
  have n12 := eqZ_f (b := Int.ofNat 12) (no 12 (by kernel_rfl))
  have n13 := eqZ_f (b := Int.ofNat 13) (no 13 (by kernel_rfl))
  have n14 := eqZ_f (b := Int.ofNat 14) (no 14 (by kernel_rfl))
  exact callF_of rfl rfl (by kernel_rfl) (r56_11 (k0 := k0) (k1 := rfl) (k2 := rfl) (k3 := n12) (k4 := n13) (k5 := rfl) (k6 := by rw [n14]; exact r56_5z_0 (k0 := rfl)))
 ·rw [kind_some hq] at k0
  obtain ⟨s3, s4, s5, s6, s2, s1, h0⟩ := hq.ks
  have hk0 : r.kind ≠ 0 := fun e => by
   obtain ⟨n, _, hc⟩ := hq.kk
   have : x.k = 0 := by have := hq.k; omega
   have hm := (findQ_mem hq.fd).1
   have := List.all_eq_true.1 rows_k0 x hm
   rw [‹x.k = 0›] at this
   cases this
  have hbm := hb h
  have hem := he h
  by_cases h4 : r.kind = 4 ∨ r.kind = 6 ∨ o = 12 ∨ o = 13
  ·have o14 : o ≠ 14 := by omega
   have e14 := eqZ_f (b := Int.ofNat 14) o14
   have h2 : r.kind ≠ 2 := by omega
   have o4 : o ≠ 4 := by omega
   have hp : mayP r o a b v l = (headB true false false false false a b v 0 l [] && (numZ a && numZ b && !(decide (o = 65) && decide (4294967295 < v)) && l.all numZ)) := by
    unfold mayP
    rw [if_neg (by omega), if_neg (by omega), if_neg o14, if_pos (by omega)]
    by_cases zb : b = 0
    case neg => simp [headB, zb]
    by_cases zv : v = 0
    case neg => simp [headB, zv]
    by_cases zl : l = []
    case neg => have fl : l.isEmpty = false := List.isEmpty_eq_false_iff.2 zl; simp [headB, fl]
    subst zb zv zl
    simp [headB, num0]
   rw [may_pl hop h2 o4 hp]
   have fa := fam_a (m := m) (o := o) (a := a) (b := b) (v := v) (t := t) (q := q) hk0 (show r.kind ≠ 10 by omega) h2 hl hbm hem
   have n7 := eqZ_f (b := Int.ofNat 7) (show r.kind ≠ 7 by omega)
   have n8 := eqZ_f (b := Int.ofNat 8) (show r.kind ≠ 8 by omega)
   by_cases k4 : r.kind = 4
   ·exact callF_of rfl rfl (by kernel_rfl) (r56_1 (k0 := k0) (k1 := eqZ_t (b := Int.ofNat 4) k4) (k2 := n7) (k3 := by rw [n8, e14]; exact fa))
   ·have n4 := eqZ_f (b := Int.ofNat 4) k4
    by_cases k6 : r.kind = 6
    ·exact callF_of rfl rfl (by kernel_rfl) (r56_3 (k0 := k0) (k1 := n4) (k2 := eqZ_t (b := Int.ofNat 6) k6) (k3 := n7) (k4 := by rw [n8, e14]; exact fa))
    ·have n6 := eqZ_f (b := Int.ofNat 6) k6
     by_cases o12 : o = 12
     ·exact callF_of rfl rfl (by kernel_rfl) (r56_5 (k0 := k0) (k1 := n4) (k2 := n6) (k3 := eqZ_t (b := Int.ofNat 12) o12) (k4 := n7) (k5 := by rw [n8, e14]; exact fa))
     ·have o13 : o = 13 := by omega
      exact callF_of rfl rfl (by kernel_rfl) (r56_7 (k0 := k0) (k1 := n4) (k2 := n6) (k3 := eqZ_f (b := Int.ofNat 12) o12) (k4 := eqZ_t (b := Int.ofNat 13) o13) (k5 := n7) (k6 := by rw [n8, e14]; exact fa))
  ·have n4 := eqZ_f (b := Int.ofNat 4) (show r.kind ≠ 4 by omega)
   have n6 := eqZ_f (b := Int.ofNat 6) (show r.kind ≠ 6 by omega)
   have n12 := eqZ_f (b := Int.ofNat 12) (show o ≠ 12 by omega)
   have n13 := eqZ_f (b := Int.ofNat 13) (show o ≠ 13 by omega)
   by_cases h78 : r.kind = 7 ∨ r.kind = 8
   ·have o14 : o ≠ 14 := by omega
    have e14 := eqZ_f (b := Int.ofNat 14) o14
    have h2 : r.kind ≠ 2 := by omega
    have hp : mayP r o a b v l = (headB true true false false false a b v 0 l [] && (numZ a && numZ b && !(decide (o = 65) && decide (4294967295 < v)) && l.all numZ)) := by
     unfold mayP
     rw [if_neg (by omega), if_pos h78]
     by_cases zv : v = 0
     case neg => simp [headB, zv]
     by_cases zl : l = []
     case neg => have fl : l.isEmpty = false := List.isEmpty_eq_false_iff.2 zl; simp [headB, fl]
     subst zv zl
     simp [headB]
    rw [may_pl hop h2 (by omega) hp]
    have fm := fam_m (m := m) (o := o) (a := a) (b := b) (v := v) (t := t) (q := q) hk0 (show r.kind ≠ 10 by omega) h2 hl hbm hem
    by_cases k7 : r.kind = 7
    ·exact callF_of rfl rfl (by kernel_rfl) (r56_8 (k0 := k0) (k1 := n4) (k2 := n6) (k3 := n12) (k4 := n13) (k5 := eqZ_t (b := Int.ofNat 7) k7) (k6 := by rw [e14]; exact fm))
    ·exact callF_of rfl rfl (by kernel_rfl) (r56_11 (k0 := k0) (k1 := n4) (k2 := n6) (k3 := n12) (k4 := n13) (k5 := eqZ_f (b := Int.ofNat 7) k7) (k6 := by rw [eqZ_t (b := Int.ofNat 8) (show r.kind = 8 by omega), e14]; exact fm))
   ·have n7 := eqZ_f (b := Int.ofNat 7) (show r.kind ≠ 7 by omega)
    have n8 := eqZ_f (b := Int.ofNat 8) (show r.kind ≠ 8 by omega)
    by_cases k10 : r.kind = 10
    ·have o14 : o ≠ 14 := by omega
     have e14 := eqZ_f (b := Int.ofNat 14) o14
     have hp : mayP r o a b v l = (headB false false false true false a b v 0 l [] && (numZ a && numZ b && !(decide (o = 65) && decide (4294967295 < v)) && l.all numZ)) := by
      unfold mayP
      rw [if_pos k10]
      have hd : decide (r.gives = 1) = decide (o = 65) := decide_eq_decide.2 (hq.c10 k10)
      rw [hd]
      by_cases za : a = 0
      case neg => simp [headB, za]
      by_cases zb : b = 0
      case neg => simp [headB, zb]
      by_cases zl : l = []
      case neg => have fl : l.isEmpty = false := List.isEmpty_eq_false_iff.2 zl; simp [headB, fl]
      subst za zb zl
      simp [headB, num0]
     rw [may_pl hop (by omega) (by omega) hp]
     exact callF_of rfl rfl (by kernel_rfl) (r56_11 (k0 := k0) (k1 := n4) (k2 := n6) (k3 := n12) (k4 := n13) (k5 := n7) (k6 := by rw [n8, e14]; exact fam_c (m := m) (o := o) (a := a) (b := b) (v := v) (t := t) (q := q) hk0 k10 (by omega) hl hbm hem))
    ·by_cases h2 : r.kind = 2
     ·have e14 := eqZ_f (b := Int.ofNat 14) (show o ≠ 14 by omega)
      rw [may_blk hop h2 (by omega)]
      exact callF_of rfl rfl (by kernel_rfl) (r56_11 (k0 := k0) (k1 := n4) (k2 := n6) (k3 := n12) (k4 := n13) (k5 := n7) (k6 := by rw [n8, e14]; exact fam_b (m := m) (o := o) (a := a) (b := b) (v := v) (t := t) (q := q) hk0 k10 h2 hl hbm hem))
     ·by_cases o14 : o = 14
      ·have e14 := eqZ_t (b := Int.ofNat 14) o14
       have hp : mayP r o a b v l = (headB false false true false false a b v 0 l [] && (numZ a && numZ b && !(decide (o = 65) && decide (4294967295 < v)) && l.all numZ)) := by
        unfold mayP
        rw [if_neg k10, if_neg h78, if_pos o14]
        by_cases za : a = 0
        case neg => simp [headB, za]
        by_cases zb : b = 0
        case neg => simp [headB, zb]
        by_cases zv : v = 0
        case neg => simp [headB, zv]
        subst za zb zv
        simp [headB, num0]
       rw [may_pl hop h2 (by omega) hp]
       exact callF_of rfl rfl (by kernel_rfl) (r56_11 (k0 := k0) (k1 := n4) (k2 := n6) (k3 := n12) (k4 := n13) (k5 := n7) (k6 := by rw [n8, e14]; exact fam_t (m := m) (o := o) (a := a) (b := b) (v := v) (t := t) (q := q) hk0 k10 h2 hl hbm hem))
      ·have e14 := eqZ_f (b := Int.ofNat 14) o14
       have hp : mayP r o a b v l = (headB false false false false false a b v 0 l [] && (numZ a && numZ b && !(decide (o = 65) && decide (4294967295 < v)) && l.all numZ)) := by
        unfold mayP
        rw [if_neg k10, if_neg h78, if_neg o14, if_neg (by omega)]
        by_cases za : a = 0
        case neg => simp [headB, za]
        by_cases zb : b = 0
        case neg => simp [headB, zb]
        by_cases zv : v = 0
        case neg => simp [headB, zv]
        by_cases zl : l = []
        case neg => have fl : l.isEmpty = false := List.isEmpty_eq_false_iff.2 zl; simp [headB, fl]
        subst za zb zv zl
        simp [headB, num0]
       rw [may_pl hop h2 (by omega) hp]
       exact callF_of rfl rfl (by kernel_rfl) (r56_11 (k0 := k0) (k1 := n4) (k2 := n6) (k3 := n12) (k4 := n13) (k5 := n7) (k6 := by rw [n8, e14]; exact fam_p (m := m) (o := o) (a := a) (b := b) (v := v) (t := t) (q := q) hk0 k10 h2 hl hbm hem))
theorem may5_loop {xs : List Ins} (hx : ∀ x, x ∈ xs → One5 m x) (hl : xs.length < 2 ^ 62) : ∀ (suf pre : List Ins), pre ++ suf = xs →
  blk (cxZ m) 10 (at_ Tryz.prog 10 2) [.v (.imm (encIs xs)), .v (.int .i64 (pre.length : Int))] h = some (.v (.bool (suf.all (mayI opI))), h)
 | [], pre, hp => by
  rw [List.append_nil] at hp
  subst hp
  exact r23_2_2 (k0 := ltZ_f (by rw [ofN, encIs_len]; omega))
 | x :: suf, pre, hp => by
  have hlt : pre.length < xs.length := by rw [← hp]; simp
  have hg : xs[pre.length]? = some x := by rw [← hp, List.getElem?_append_right (Nat.le_refl _), Nat.sub_self]; rfl
  have k0 := ltZ_t (a := (pre.length : Int)) (b := Int.ofNat (encIs xs).length) (by rw [ofN, encIs_len]; omega)
  have k1 : ixA (.imm (encIs xs)) (pre.length : Int) 9 = some (encI x) := by
   rw [encIs_map]
   exact ix_map (f := encI) hg (encI_len x)
  have k2 := hx x (List.mem_of_getElem? hg) h
  have ih := may5_loop hx hl suf (pre ++ [x]) (by rw [List.append_assoc]; exact hp)
  rw [List.all_cons]
  cases hn : mayI opI x with
  | false =>
   rw [hn] at k2
   cases x
   exact r23_2_0 (k0 := k0) (k1 := k1) (k2 := k2) (k3 := rfl)
  | true =>
   rw [hn] at k2
   cases x
   refine r23_2_1 (k0 := k0) (k1 := k1) (k2 := k2) (k3 := rfl) (k4 := ?_)
   rw [wrap1 (by omega)]
   rw [List.length_append] at ih
   exact ih
theorem may5_of {xs : List Ins} (hx : ∀ x, x ∈ xs → One5 m x) (hl : xs.length < 2 ^ 62) : May5 m xs := fun h => by
 rw [mayL_mem]
 exact callF_of rfl rfl (by kernel_rfl) (r23_0 (k0 := may5_loop hx hl xs [] rfl))
mutual
theorem one5 : ∀ x : Ins, cI x < 2 ^ 41 → One5 m x
 | .mk o a b v t l bd el q, hc => by
  rw [cI] at hc
  have h1 := cL_len bd
  have h2 := cL_len el
  exact one_5 (by omega) (may5_of (one5s bd (by omega)) (by omega)) (may5_of (one5s el (by omega)) (by omega))
theorem one5s : ∀ xs : List Ins, cL xs < 2 ^ 41 → ∀ x, x ∈ xs → One5 m x
 | [], _, x, hx => by cases hx
 | y :: ys, hc, x, hx => by
  rw [cL] at hc
  rcases List.mem_cons.1 hx with h | h
  ·rw [h]; exact one5 y (by omega)
  ·exact one5s ys (by omega) x h
end
end
end Go.Proofs.YthcjapmfchidhaaGreatDoor
namespace Go.Proofs.YthcjapmfchidhaaGreatDoor
set_option maxRecDepth 100000
open Go Go.Proofs.Am
theorem expr_ok {bs : List Nat} {p : Nat} {xs : List Ins} {q : Nat} (hp : p ≤ bs.length) (h : pExpr opI floB bs p = .ok (xs, q)) :
  p + (lstB opI xs).length + 1 ≤ q ∧ q ≤ bs.length ∧ nL xs ≤ 512 ∧ mayL opI xs = true ∧ v64L xs = true ∧ lgL xs = false ∧ dL xs ≤ 32 := by
 unfold pExpr at h
 cases hL : pList opI floB bs (bs.length + 1) 0 p 0 with
 | error e => rw [hL] at h; cases h
 | ok y =>
  obtain ⟨ys, l, r, n'⟩ := y
  have B := list_q (f := bs.length + 1) hp hL
  rw [hL] at h
  simp only at h
  split at h
  ·cases h
  ·cases h
   have h1 := B.ne
   have h2 := B.n5 (by decide)
   have h3 := B.dd (by decide)
   exact ⟨B.sz, B.qb, by omega, B.may, B.vv, B.lg, by omega⟩
theorem expr_back {xs : List Ins} (more : List Nat) (hm : mayL opI xs = true) (hv : v64L xs = true) (hg : lgL xs = false) (hn : nL xs ≤ 512) (hd : dL xs ≤ 32) :
  pExpr opI floB (lstB opI xs ++ 11 :: more) 0 = .ok (xs, (lstB opI xs).length + 1) := by
 have h := back (FL := floB) opLaw ((lstB opI xs ++ 11 :: more).length + 1) xs 0 0 [] 11 more hm hv hg (by omega) (by omega) (.inl rfl) (by simp only [List.length_append, List.length_cons]; omega)
 simp only [List.nil_append, List.length_nil, Nat.zero_add] at h
 unfold pExpr
 rw [h]
 rfl
section
variable {m : Int}
theorem self15 {xs : List Ins} (hc : cL xs < 2 ^ 40) (h : Heap) : callF (cxZ m) (blk (cxZ m)) 15 [.v (.imm (encIs xs)), .v (.imm (encIs xs))] h = some (.v (.bool true), h) :=
 (all_of (allL_Z (m := m) xs hc) (by have := cL_len xs; omega)).2.2 h
theorem small_c {xs : List Ins} (hg : lgL xs = false) (hn : nL xs ≤ 512) : cL xs ≤ 33280 := by
 have := cL_n xs hg
 omega
theorem tail5 {bs : List Nat} (hb : ∀ x, x ∈ bs → x < 256) (hl : bs.length < 2 ^ 61) (h : Heap) :
  (∃ h' id, callF (cxZ m) (blk (cxZ m)) 12 [.v (.imm (encBy bs)), .v (.int .i64 (Int.ofNat 0))] h = some (.tup [.imm [], .int .i64 (Int.ofNat 0), .ifc 63 (.ptr id 0)], h')) ∨
  (∃ h1 h2 ks nx qs, callF (cxZ m) (blk (cxZ m)) 12 [.v (.imm (encBy bs)), .v (.int .i64 (Int.ofNat 0))] h = some (.tup [.imm (encIs ks), .int .i64 nx, .nilI], h1) ∧
   callF (cxZ m) (blk (cxZ m)) 9 [.v (.imm (encIs ks))] h1 = some (.tup [.imm qs, .nilI], h1) ∧ leZ (Int.ofNat qs.length) nx = true ∧
   callF (cxZ m) (blk (cxZ m)) 12 [.v (.imm qs), .v (.int .i64 (Int.ofNat 0))] h1 = some (.tup [.imm (encIs ks), .int .i64 (Int.ofNat qs.length), .nilI], h2) ∧
   callF (cxZ m) (blk (cxZ m)) 15 [.v (.imm (encIs ks)), .v (.imm (encIs ks))] h2 = some (.v (.bool true), h2)) := by
 obtain ⟨h1, x, hg, _, _, hx⟩ := get12 (m := m) hb hl (p := 0) (Nat.zero_le _) h
 cases he : pExpr opI floB bs 0 with
 | error e =>
  rw [he] at hx
  obtain ⟨id, _, rfl, _⟩ := hx
  exact .inl ⟨h1, id, hg⟩
 | ok y =>
  obtain ⟨ks, r⟩ := y
  rw [he] at hx
  have hx : x = .tup [.imm (encIs ks), .int .i64 (r : Int), .nilI] := hx
  subst hx
  obtain ⟨s1, s2, s3, s4, s5, s6, s7⟩ := expr_ok (Nat.zero_le _) he
  have hc := small_c s6 s3
  have hp := put9 (m := m) s5 (by omega) h1
  unfold putV at hp
  rw [if_pos s4] at hp
  have hlt := lstB_lt opLaw ks s4
  have hlen := lstB_len opI ks
  obtain ⟨h2, z, hg2, _, _, hz⟩ := get12 (m := m) (bs := lstB opI ks ++ [11]) (p := 0) (fun x hx => by
   rcases List.mem_append.1 hx with hx | hx
   ·exact hlt x hx
   ·rcases List.mem_singleton.1 hx with rfl; omega) (by rw [List.length_append, List.length_singleton]; omega) (Nat.zero_le _) h1
  rw [expr_back [] s4 s5 s6 s3 s7] at hz
  have hz : z = .tup [.imm (encIs ks), .int .i64 (((lstB opI ks).length + 1 : Nat) : Int), .nilI] := hz
  subst hz
  have hL : (encBy (lstB opI ks ++ [11])).length = (lstB opI ks).length + 1 := by rw [encBy_len, List.length_append, List.length_singleton]
  refine .inr ⟨h1, h2, ks, (r : Int), encBy (lstB opI ks ++ [11]), hg, hp, leZ_t (by rw [hL, ofN]; omega), ?_, self15 (by omega) h2⟩
  rw [hL]
  exact hg2
theorem blk5 {xs : List Ins} {mo bs : List Nat} (hv : v64L xs = true) (hc : 32 * cL xs + 1 ≤ 68719476736) (hmo : ∀ x, x ∈ mo → x < 256) (hb : ∀ x, x ∈ bs → x < 256) (h : Heap) :
  ∃ h', blk (cxZ m) 5 (body_ Tryz.prog 5) [.v (.imm (encIs xs)), .v (.imm (encBy mo)), .v (.imm (encBy bs))] h = some (.v (.bool true), h') := by
 obtain ⟨h1, hu⟩ := up7 (m := m) h
 have hn := cnt8 (m := m) (xs := xs) (by omega) h1
 by_cases q1 : 512 < nL xs
 ·exact ⟨h1, (p5_0 (k0 := hu) (k1 := hn) (k2 := ltZ_t (by rw [ofN]; omega)))⟩
 have k2 : ltZ (Int.ofNat 512) (nL xs : Int) = false := ltZ_f (by rw [ofN]; omega)
 by_cases q2 : 32 < dL xs
 ·exact ⟨h1, (p5_1 (k0 := hu) (k1 := hn) (k2 := k2) (k3 := ltZ_t (by rw [ofN]; omega)))⟩
 have k3 : ltZ (Int.ofNat 32) (dL xs : Int) = false := ltZ_f (by rw [ofN]; omega)
 by_cases q3 : 1000 < mo.length
 ·exact ⟨h1, (p5_2 (k0 := hu) (k1 := hn) (k2 := k2) (k3 := k3) (k4 := ltZ_t (by rw [ofN, ofN, encBy_len]; omega)))⟩
 have k4 : ltZ (Int.ofNat 1000) (Int.ofNat (encBy mo).length) = false := ltZ_f (by rw [ofN, ofN, encBy_len]; omega)
 by_cases q4 : 3000 < bs.length
 ·exact ⟨h1, (p5_3 (k0 := hu) (k1 := hn) (k2 := k2) (k3 := k3) (k4 := k4) (k5 := ltZ_t (by rw [ofN, ofN, encBy_len]; omega)))⟩
 have k5 : ltZ (Int.ofNat 3000) (Int.ofNat (encBy bs).length) = false := ltZ_f (by rw [ofN, ofN, encBy_len]; omega)
 have hp := put9 (m := m) hv hc h1
 have hg := lg16 (m := m) (xs := xs) (by omega) h1
 unfold putV at hp
 cases hm : mayL opI xs with
 | false =>
  rw [hm] at hp
  rw [if_neg (by decide)] at hp
  rcases tail5 (m := m) hb (by omega) h1 with ⟨h', id, t1⟩ | ⟨h2, h3, ks, nx, qs, t1, t2, t3, t4, t5⟩
  ·exact ⟨h', (p5_21 (k0 := hu) (k1 := hn) (k2 := k2) (k3 := k3) (k4 := k4) (k5 := k5) (k6 := hp) (k7 := hg) (k8 := qCode _) (k9 := rfl) (k10 := t1) (k11 := nSpot _) (k12 := rfl))⟩
  ·exact ⟨h3, (p5_22 (k0 := hu) (k1 := hn) (k2 := k2) (k3 := k3) (k4 := k4) (k5 := k5) (k6 := hp) (k7 := hg) (k8 := qCode _) (k9 := rfl) (k10 := t1) (k11 := nNil) (k12 := rfl) (k13 := t2) (k14 := t4) (k15 := rfl) (k16 := qNil) (k17 := rfl) (k18 := t3) (k19 := qNil) (k20 := rfl) (k21 := eqZ_t rfl) (k22 := t5))⟩
 | true =>
  rw [hm] at hp
  rw [if_pos rfl] at hp
  cases hL : lgL xs with
  | true =>
   rw [hL] at hg
   rcases tail5 (m := m) hb (by omega) h1 with ⟨h', id, t1⟩ | ⟨h2, h3, ks, nx, qs, t1, t2, t3, t4, t5⟩
   ·exact ⟨h', (p5_14 (k0 := hu) (k1 := hn) (k2 := k2) (k3 := k3) (k4 := k4) (k5 := k5) (k6 := hp) (k7 := hg) (k8 := qNil) (k9 := rfl) (k10 := rfl) (k11 := t1) (k12 := nSpot _) (k13 := rfl))⟩
   ·exact ⟨h3, (p5_15 (k0 := hu) (k1 := hn) (k2 := k2) (k3 := k3) (k4 := k4) (k5 := k5) (k6 := hp) (k7 := hg) (k8 := qNil) (k9 := rfl) (k10 := rfl) (k11 := t1) (k12 := nNil) (k13 := rfl) (k14 := t2) (k15 := t4) (k16 := rfl) (k17 := qNil) (k18 := rfl) (k19 := t3) (k20 := qNil) (k21 := rfl) (k22 := eqZ_t rfl) (k23 := t5))⟩
  | false =>
   rw [hL] at hg
   have hlt := lstB_lt opLaw xs hm
   have hlen := lstB_len opI xs
   have hsm := small_c hL (by omega)
   have a1 := ap_by (out := []) (ys := lstB opI xs ++ [11]) (by rw [List.length_append, List.length_singleton, List.length_nil]; omega)
   have a2 := ap_by (out := [] ++ (lstB opI xs ++ [11])) (ys := mo) (by rw [List.nil_append, List.length_append, List.length_singleton]; omega)
   have hall : [] ++ (lstB opI xs ++ [11]) ++ mo = lstB opI xs ++ 11 :: mo := by simp
   obtain ⟨h2, z, hg2, _, _, hz⟩ := get12 (m := m) (bs := [] ++ (lstB opI xs ++ [11]) ++ mo) (p := 0) (fun x hx => by
    rw [hall] at hx
    rcases List.mem_append.1 hx with hx | hx
    ·exact hlt x hx
    ·rcases List.mem_cons.1 hx with rfl | hx
     ·omega
     ·exact hmo x hx) (by rw [hall, List.length_append, List.length_cons]; omega) (Nat.zero_le _) h1
   rw [hall, expr_back mo hm hv hL (by omega) (by omega)] at hz
   have hz : z = .tup [.imm (encIs xs), .int .i64 (((lstB opI xs).length + 1 : Nat) : Int), .nilI] := hz
   subst hz
   have k16 : (!eqZ (((lstB opI xs).length + 1 : Nat) : Int) (Int.ofNat (encBy (lstB opI xs ++ [11])).length)) = false := congrArg not (eqZ_t (by rw [encBy_len, List.length_append, List.length_singleton, ofN]))
   have hs := self15 (m := m) (xs := xs) (by omega) h2
   rcases tail5 (m := m) hb (by omega) h2 with ⟨h', id, t1⟩ | ⟨h3, h4, ks, nx, qs, t1, t2, t3, t4, t5⟩
   ·exact ⟨h', (p5_7 (k0 := hu) (k1 := hn) (k2 := k2) (k3 := k3) (k4 := k4) (k5 := k5) (k6 := hp) (k7 := hg) (k8 := qNil) (k9 := rfl) (k10 := rfl) (k11 := a1) (k12 := a2) (k13 := hg2) (k14 := nNil) (k15 := rfl) (k16 := k16) (k17 := hs) (k18 := rfl) (k19 := t1) (k20 := nSpot _) (k21 := rfl))⟩
   ·exact ⟨h4, (p5_8 (k0 := hu) (k1 := hn) (k2 := k2) (k3 := k3) (k4 := k4) (k5 := k5) (k6 := hp) (k7 := hg) (k8 := qNil) (k9 := rfl) (k10 := rfl) (k11 := a1) (k12 := a2) (k13 := hg2) (k14 := nNil) (k15 := rfl) (k16 := k16) (k17 := hs) (k18 := rfl) (k19 := t1) (k20 := nNil) (k21 := rfl) (k22 := t2) (k23 := t4) (k24 := rfl) (k25 := qNil) (k26 := rfl) (k27 := t3) (k28 := qNil) (k29 := rfl) (k30 := eqZ_t rfl) (k31 := t5))⟩
end
end Go.Proofs.YthcjapmfchidhaaGreatDoor
