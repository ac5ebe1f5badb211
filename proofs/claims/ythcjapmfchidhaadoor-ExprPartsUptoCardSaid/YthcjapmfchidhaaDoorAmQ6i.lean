/-
  The laws, as the machine answers them: ExprPuts, ExprGets, ExprBack.
-/
import Derived.Test.YthcjapmfchidhaaDoorAmQ6ga
import Derived.Test.YthcjapmfchidhaaDoorAmExpC
import Derived.Test.YthcjapmfchidhaaDoorAmQ6wP
import Derived.Test.YthcjapmfchidhaaDoorAmQ6wH
import Derived.Test.YthcjapmfchidhaaDoorAmQ6z
import Derived.Test.YthcjapmfchidhaaDoorAmExpD
namespace Go.Proofs.YthcjapmfchidhaaDoor
set_option maxRecDepth 100000
open Go Go.Proofs.Am
def pL (bs : List Nat) (f : Nat) : Nat → Nat → Nat → PL := pList opI floB bs f
section
variable {m : Int} {L : Nat} {h : Heap} {bs : List Nat}
theorem list_E {e : PErr} (H : RdE L h bs e) (out : List (List AV)) (d : Int) : blk (cxZ m) 11 (at_ Tryd.prog 11 2) [.v (.ptr L 0), .v (.int .i64 d), .ow 9 out] h = some (.tup [.imm [], .int .i64 (Int.ofNat 0)], h) := by
 obtain ⟨p, n, H⟩ := H
 obtain ⟨a, h3, hq, _⟩ := H.ld3
 exact p23_2_15 (k0 := h3) (k1 := hq) (k2 := rfl)
theorem listC_E {e : PErr} (H : RdE L h bs e) (d : Int) : callF (cxZ m) (blk (cxZ m)) 11 [.v (.ptr L 0), .v (.int .i64 d)] h = some (.tup [.imm [], .int .i64 (Int.ofNat 0)], h) :=
 callF_of rfl rfl (by kernel_rfl) (p23_0 (k0 := list_E H [] d))
def ResL (L : Nat) (h : Heap) (bs : List Nat) (out : List Ins) (r : PL) (vs : List Ins) (last : Int) : Prop :=
 match r with
 | .ok x => vs = out ++ x.1 ∧ last = (x.2.1 : Int) ∧ Rd L h bs (x.2.2.1 : Int) (x.2.2.2 : Int) none
 | .error e => RdE L h bs e
def ResI (L : Nat) (h : Heap) (bs : List Nat) (r : PI) (v : Ins) : Prop :=
 match r with
 | .ok x => v = x.1 ∧ Rd L h bs (x.2.1 : Int) (x.2.2 : Int) none
 | .error e => RdE L h bs e
def ListW (m : Int) (L : Nat) (bs : List Nat) (f : Nat) : Prop := ∀ ⦃d p n : Nat⦄ ⦃h : Heap⦄ ⦃out : List Ins⦄, p ≤ bs.length → bs.length < p + f → n ≤ 512 → out.length ≤ n → d ≤ 33 → Rd L h bs (p : Int) (n : Int) none →
 ∃ h' vs last, blk (cxZ m) 11 (at_ Tryd.prog 11 2) [.v (.ptr L 0), .v (.int .i64 (d : Int)), .ow 9 (encIs out)] h = some (.tup [.imm (encIs vs), .int .i64 last], h') ∧ Fr L h h' ∧ ResL L h' bs out (pL bs f d p n) vs last
theorem listC {f : Nat} (W : ListW m L bs f) {d p n : Nat} (hp : p ≤ bs.length) (hf : bs.length < p + f) (hn : n ≤ 512) (hd : d ≤ 33) (H : Rd L h bs (p : Int) (n : Int) none) :
  ∃ h' vs last, callF (cxZ m) (blk (cxZ m)) 11 [.v (.ptr L 0), .v (.int .i64 (d : Int))] h = some (.tup [.imm (encIs vs), .int .i64 last], h') ∧ Fr L h h' ∧ ResL L h' bs [] (pL bs f d p n) vs last := by
 obtain ⟨h', vs, last, hc, F, R⟩ := W (out := []) hp hf hn (Nat.zero_le _) hd H
 exact ⟨h', vs, last, callF_of rfl rfl (by kernel_rfl) (p23_0 (k0 := hc)), F, R⟩
theorem list_q {f d p n : Nat} {xs : List Ins} {l q n' : Nat} (hp : p ≤ bs.length) (h : pL bs f d p n = .ok (xs, l, q, n')) : ListOk opI bs d p n xs l q n' := list_ok opLaw f hp h
theorem block_R (hb : ∀ x, x ∈ bs → x < 256) (hl : bs.length < 2 ^ 61) {f : Nat} (W : ListW m L bs f) {o : Int} {r : OpR} {d p n : Nat} (h2 : r.kind = 2) (_hp : p ≤ bs.length) (hf : bs.length < p + f) (hn : n ≤ 512) (hd : d < 32) (H : Rd L h bs (p : Int) (n : Int) none) :
  ∃ h' v, callF (cxZ m) (blk (cxZ m)) 41 [.v (.ptr L 0), .v (.agg (encI (.mk o 0 0 0 0 [] [] [] false))), .v (.int .i64 ((d + 1 : Nat) : Int))] h = some (.v (.agg (encI v)), h') ∧ Fr L h h' ∧ ResI L h' bs (pIns bs (pL bs f) d r o p n) v := by
 obtain ⟨h1, t, hc1, F1, R1⟩ := res_R (m := m) hb hl H
 unfold pIns
 rw [if_pos h2]
 have nil : (AV.imm [] : AV) = .imm (encIs []) := rfl
 cases hr : pRes bs p with
 | error e =>
  rw [hr] at R1
  have R1 : RdE L h1 bs e := R1
  have hc2 := listC_E (m := m) R1 ((d + 1 : Nat) : Int)
  exact ⟨h1, .mk o 0 0 0 t [] [] [] false, callF_of rfl rfl (by kernel_rfl) (p67_4 (k0 := hc1) (k1 := hc2) (k2 := rfl)), F1, R1⟩
 | ok x =>
  rw [hr] at R1
  obtain ⟨ht, R1⟩ := R1
  obtain ⟨a1, a2, _, _⟩ := pRes_ok (t := x.1) (q := x.2) hr
  obtain ⟨h2', vs, last, hc2, F2, R2⟩ := listC W (d := d + 1) a2 (by omega) hn (by omega) R1
  simp only
  cases hL : pL bs f (d + 1) x.2 n with
  | error e =>
   rw [hL] at R2
   have R2 : RdE L h2' bs e := R2
   by_cases h5 : last = 5
   ·
    have hf2 := fail_E (m := m) R2
    have hc3 := listC_E (m := m) R2 ((d + 1 : Nat) : Int)
    obtain ⟨p', n', R3⟩ := R2
    by_cases h4 : o = 4
    ·exact ⟨h2', .mk o 0 0 0 t [] vs [] true, callF_of rfl rfl (by kernel_rfl) (p67_3 (k0 := hc1) (k1 := hc2) (k2 := eqZ_t (b := Int.ofNat 5) h5) (k3 := congrArg not (eqZ_t (b := Int.ofNat 4) h4)) (k4 := hc3) (k5 := rfl)), F1.trans F2, ⟨p', n', R3⟩⟩
    ·exact ⟨h2', .mk o 0 0 0 t [] vs [] true, callF_of rfl rfl (by kernel_rfl) (p67_1 (k0 := hc1) (k1 := hc2) (k2 := eqZ_t (b := Int.ofNat 5) h5) (k3 := congrArg not (eqZ_f (b := Int.ofNat 4) h4)) (k4 := R3.ld1) (k5 := hf2 _ _) (k6 := hc3) (k7 := rfl)), F1.trans F2, ⟨p', n', R3⟩⟩
   ·exact ⟨h2', .mk o 0 0 0 t [] vs [] false, callF_of rfl rfl (by kernel_rfl) (p67_4 (k0 := hc1) (k1 := hc2) (k2 := eqZ_f (b := Int.ofNat 5) h5)), F1.trans F2, R2⟩
  | ok y =>
   obtain ⟨bd, l, p2, n2⟩ := y
   have B := list_q a2 hL
   rw [hL] at R2
   obtain ⟨e1, e2, R2⟩ := R2
   have e1 : vs = bd := e1
   have e2 : last = (l : Int) := e2
   subst e1
   subst e2
   have ht' : t = x.1 := ht
   subst ht'
   have R2 : Rd L h2' bs (p2 : Int) (n2 : Int) none := R2
   simp only
   by_cases h5 : l = 5
   ·rw [if_pos h5]
    have k2 : eqZ (l : Int) (Int.ofNat 5) = true := eqZ_t (by rw [h5]; rfl)
    by_cases h4 : o = 4
    ·rw [if_pos h4]
     have sz := B.sz
     obtain ⟨h3, vs2, last2, hc3, F3, R3⟩ := listC W (d := d + 1) B.qb (by omega) (B.n5 hn) (by omega) R2
     have k3 : (!eqZ o (Int.ofNat 4)) = false := congrArg not (eqZ_t (b := Int.ofNat 4) h4)
     cases hL2 : pL bs f (d + 1) p2 n2 with
     | error e =>
      rw [hL2] at R3
      have R3 : RdE L h3 bs e := R3
      by_cases h55 : last2 = 5
      ·have hf2 := fail_E (m := m) R3
       obtain ⟨p', n', R4⟩ := R3
       exact ⟨h3, .mk o 0 0 0 x.1 [] vs vs2 true, callF_of rfl rfl (by kernel_rfl) (p67_2 (k0 := hc1) (k1 := hc2) (k2 := k2) (k3 := k3) (k4 := hc3) (k5 := eqZ_t (b := Int.ofNat 5) h55) (k6 := R4.ld1) (k7 := hf2 _ _)), (F1.trans F2).trans F3, ⟨p', n', R4⟩⟩
      ·exact ⟨h3, .mk o 0 0 0 x.1 [] vs vs2 true, callF_of rfl rfl (by kernel_rfl) (p67_3 (k0 := hc1) (k1 := hc2) (k2 := k2) (k3 := k3) (k4 := hc3) (k5 := eqZ_f (b := Int.ofNat 5) h55)), (F1.trans F2).trans F3, R3⟩
     | ok z =>
      obtain ⟨el, l2, p3, n3⟩ := z
      have E := list_q B.qb hL2
      have sz2 := E.sz
      rw [hL2] at R3
      obtain ⟨e1, e2, R3⟩ := R3
      have e1 : vs2 = el := e1
      have e2 : last2 = (l2 : Int) := e2
      subst e1
      subst e2
      have R3 : Rd L h3 bs (p3 : Int) (n3 : Int) none := R3
      simp only
      by_cases h55 : l2 = 5
      ·rw [if_pos h55]
       obtain ⟨h4', hf2, R4, F4⟩ := fail_R (m := m) R3 (p3 - 1) 2 (z := IntKind.wrap .i64 ((p3 : Int) - Int.ofNat 1)) (by rw [ofN, wrapI (by have := E.qb; unfold InZ; omega)]; omega)
       exact ⟨h4', .mk o 0 0 0 x.1 [] vs vs2 true, callF_of rfl rfl (by kernel_rfl) (p67_2 (k0 := hc1) (k1 := hc2) (k2 := k2) (k3 := k3) (k4 := hc3) (k5 := eqZ_t (b := Int.ofNat 5) (by rw [h55]; rfl)) (k6 := R3.ld1) (k7 := hf2)), ((F1.trans F2).trans F3).trans F4, ⟨_, _, R4⟩⟩
      ·rw [if_neg h55]
       exact ⟨h3, .mk o 0 0 0 x.1 [] vs vs2 true, callF_of rfl rfl (by kernel_rfl) (p67_3 (k0 := hc1) (k1 := hc2) (k2 := k2) (k3 := k3) (k4 := hc3) (k5 := eqZ_f (b := Int.ofNat 5) (by rw [ofN]; omega))), (F1.trans F2).trans F3, rfl, R3⟩
    ·rw [if_neg h4]
     have sz := B.sz
     obtain ⟨h4', hf2, R4, F4⟩ := fail_R (m := m) R2 (p2 - 1) 2 (z := IntKind.wrap .i64 ((p2 : Int) - Int.ofNat 1)) (by rw [ofN, wrapI (by have := B.qb; unfold InZ; omega)]; omega)
     have R4 : RdE L h4' bs (p2 - 1, 2) := ⟨_, _, R4⟩
     have hc3 := listC_E (m := m) R4 ((d + 1 : Nat) : Int)
     exact ⟨h4', .mk o 0 0 0 x.1 [] vs [] true, callF_of rfl rfl (by kernel_rfl) (p67_1 (k0 := hc1) (k1 := hc2) (k2 := k2) (k3 := congrArg not (eqZ_f (b := Int.ofNat 4) h4)) (k4 := R2.ld1) (k5 := hf2) (k6 := hc3) (k7 := rfl)), (F1.trans F2).trans F4, R4⟩
   ·rw [if_neg h5]
    exact ⟨h2', .mk o 0 0 0 x.1 [] vs [] false, callF_of rfl rfl (by kernel_rfl) (p67_4 (k0 := hc1) (k1 := hc2) (k2 := eqZ_f (b := Int.ofNat 5) (by rw [ofN]; omega))), F1.trans F2, rfl, R2⟩
theorem fields_R (hb : ∀ x, x ∈ bs → x < 256) (hl : bs.length < 2 ^ 61) {f : Nat} (W : ListW m L bs f) {o : Int} {r : OpR} {d p n : Nat} (hop : opI o = some r) (hp : p ≤ bs.length) (hf : bs.length < p + f) (hn : n ≤ 512) (hd : r.kind = 2 → d < 32) (hd33 : d ≤ 33) (H : Rd L h bs (p : Int) (n : Int) none) :
  ∃ h' v, callF (cxZ m) (blk (cxZ m)) 21 [.v (.ptr L 0), .v (opA o r.nm r.kind (encN r.takes) r.gives r.bytes r.sg), .v (.int .i64 (d : Int))] h = some (.v (.agg (encI v)), h') ∧ Fr L h h' ∧ ResI L h' bs (pIns bs (pL bs f) d r o p n) v := by
 have f3 := opLaw.k3 hop
 have f4 := opLaw.k4 hop
 have f10 := opLaw.k10 hop
 have g10 := opLaw.g10 hop
 by_cases h2 : r.kind = 2
 ·obtain ⟨h1, v, hc, F, R⟩ := block_R hb hl W (o := o) h2 hp hf hn (hd h2) H
  have wd : IntKind.wrap .i64 ((d : Int) + Int.ofNat 1) = ((d + 1 : Nat) : Int) := by rw [ofN, wrapI (by unfold InZ; omega)]; omega
  obtain ⟨o', a, b, v', t, l, bd, el, q⟩ := v
  exact ⟨h1, _, callF_of rfl rfl (by kernel_rfl) (p42_0 (k0 := eqZ_t (b := Int.ofNat 2) h2) (k1 := by rw [wd]; exact hc)), F, R⟩
 have n2 := eqZ_f (a := r.kind) (b := Int.ofNat 2) h2
 unfold pIns
 rw [if_neg h2]
 unfold pPlain
 by_cases h78 : r.kind = 7 ∨ r.kind = 8
 ·rw [if_pos h78]
  obtain ⟨h1, a, hc1, F1, R1⟩ := num_R (m := m) hb hl hp H
  unfold pNum2
  cases hn1 : pNum bs p with
  | error e =>
   rw [hn1] at R1
   have R1 : RdE L h1 bs e := R1
   have hc2 := num_E (m := m) R1
   by_cases h7 : r.kind = 7
   ·exact ⟨h1, .mk o a 0 0 0 [] [] [] false, callF_of rfl rfl (by kernel_rfl) (p42_1 (k0 := n2) (k1 := eqZ_t (b := Int.ofNat 7) h7) (k2 := hc1) (k3 := hc2)), F1, R1⟩
   ·exact ⟨h1, .mk o a 0 0 0 [] [] [] false, callF_of rfl rfl (by kernel_rfl) (p42_2 (k0 := n2) (k1 := eqZ_f (b := Int.ofNat 7) h7) (k2 := eqZ_t (b := Int.ofNat 8) (show r.kind = 8 from by omega)) (k3 := hc1) (k4 := hc2)), F1, R1⟩
  | ok x =>
   rw [hn1] at R1
   obtain ⟨e1, R1⟩ := R1
   obtain ⟨_, _, q1, _⟩ := pNum_ok (x := x.1) (q := x.2) hn1
   obtain ⟨h2', b, hc2, F2, R2⟩ := num_R (m := m) hb hl q1 R1
   dsimp only
   by_cases h7 : r.kind = 7
   ·exact ⟨h2', .mk o a b 0 0 [] [] [] false, callF_of rfl rfl (by kernel_rfl) (p42_1 (k0 := n2) (k1 := eqZ_t (b := Int.ofNat 7) h7) (k2 := hc1) (k3 := hc2)), F1.trans F2, by
    cases hn2 : pNum bs x.2 with
    | error e => rw [hn2] at R2; exact R2
    | ok y =>
     rw [hn2] at R2
     have e1 : a = x.1 := e1
     have e2 : b = y.1 := R2.1
     subst e1; subst e2
     exact ⟨rfl, R2.2⟩⟩
   ·exact ⟨h2', .mk o a b 0 0 [] [] [] false, callF_of rfl rfl (by kernel_rfl) (p42_2 (k0 := n2) (k1 := eqZ_f (b := Int.ofNat 7) h7) (k2 := eqZ_t (b := Int.ofNat 8) (show r.kind = 8 from by omega)) (k3 := hc1) (k4 := hc2)), F1.trans F2, by
    cases hn2 : pNum bs x.2 with
    | error e => rw [hn2] at R2; exact R2
    | ok y =>
     rw [hn2] at R2
     have e1 : a = x.1 := e1
     have e2 : b = y.1 := R2.1
     subst e1; subst e2
     exact ⟨rfl, R2.2⟩⟩
 rw [if_neg h78]
 have n7 := eqZ_f (a := r.kind) (b := Int.ofNat 7) (fun hh => h78 (.inl hh))
 have n8 := eqZ_f (a := r.kind) (b := Int.ofNat 8) (fun hh => h78 (.inr hh))
 by_cases h9 : r.kind = 9
 ·rw [if_pos h9]
  obtain ⟨h1, hc1, F1, R1⟩ := must_R (m := m) hb hl H
  refine ⟨h1, .mk o 0 0 0 0 [] [] [] false, callF_of rfl rfl (by kernel_rfl) (p42_3 (k0 := n2) (k1 := n7) (k2 := n8) (k3 := eqZ_t (b := Int.ofNat 9) h9) (k4 := hc1)), F1, by
   revert R1
   cases pMust bs 0 p with
   | error e => exact fun R => R
   | ok s => exact fun R => ⟨rfl, R.2⟩⟩
 rw [if_neg h9]
 have n9 := eqZ_f (a := r.kind) (b := Int.ofNat 9) h9
 by_cases h65 : o = 65
 ·have hk : r.kind = 10 := f10.2 (.inl h65)
  rw [if_pos h65]
  obtain ⟨h1, v, hc1, F1, R1⟩ := con_R (m := m) hb hl hp H (t := r.gives) (w := false) ⟨fun _ => (g10 hk).2 h65, fun _ => rfl⟩
  exact ⟨h1, .mk o 0 0 v 0 [] [] [] false, callF_of rfl rfl (by kernel_rfl) (p42_4 (k0 := n2) (k1 := n7) (k2 := n8) (k3 := n9) (k4 := eqZ_t (b := Int.ofNat 10) hk) (k5 := hc1)), F1, by
   revert R1
   cases pCon bs false p with
   | error e => exact fun R => R
   | ok s => exact fun R => ⟨by rw [show v = s.1 from R.1], R.2⟩⟩
 rw [if_neg h65]
 by_cases h66 : o = 66
 ·have hk : r.kind = 10 := f10.2 (.inr h66)
  rw [if_pos h66]
  obtain ⟨h1, v, hc1, F1, R1⟩ := con_R (m := m) hb hl hp H (t := r.gives) (w := true) ⟨fun hh => (by cases hh), fun hh => absurd ((g10 hk).1 hh) h65⟩
  exact ⟨h1, .mk o 0 0 v 0 [] [] [] false, callF_of rfl rfl (by kernel_rfl) (p42_4 (k0 := n2) (k1 := n7) (k2 := n8) (k3 := n9) (k4 := eqZ_t (b := Int.ofNat 10) hk) (k5 := hc1)), F1, by
   revert R1
   cases pCon bs true p with
   | error e => exact fun R => R
   | ok s => exact fun R => ⟨by rw [show v = s.1 from R.1], R.2⟩⟩
 rw [if_neg h66]
 have hk10 : r.kind ≠ 10 := fun hh => by rcases f10.1 hh with e | e <;> omega
 have n10 := eqZ_f (a := r.kind) (b := Int.ofNat 10) hk10
 by_cases h14 : o = 14
 ·rw [if_pos h14]
  obtain ⟨h1, v, hc1, F1, R1⟩ := labs_R (m := m) hb hl hp H
  exact ⟨h1, .mk o 0 0 0 0 v [] [] false, callF_of rfl rfl (by kernel_rfl) (p42_5 (k0 := n2) (k1 := n7) (k2 := n8) (k3 := n9) (k4 := n10) (k5 := eqZ_t (b := Int.ofNat 14) h14) (k6 := hc1)), F1, by
   revert R1
   cases pLabs bs p with
   | error e => exact fun R => R
   | ok s => exact fun R => ⟨by rw [show v = s.1 from R.1], R.2⟩⟩
 rw [if_neg h14]
 have n14 := eqZ_f (a := o) (b := Int.ofNat 14) h14
 by_cases h17 : o = 17
 ·rw [if_pos h17]
  obtain ⟨h1, a, hc1, F1, R1⟩ := num_R (m := m) hb hl hp H
  cases hn1 : pNum bs p with
  | error e =>
   rw [hn1] at R1
   have R1 : RdE L h1 bs e := R1
   exact ⟨h1, .mk o a 0 0 0 [] [] [] false, callF_of rfl rfl (by kernel_rfl) (p42_6 (k0 := n2) (k1 := n7) (k2 := n8) (k3 := n9) (k4 := n10) (k5 := n14) (k6 := eqZ_t (b := Int.ofNat 17) h17) (k7 := hc1) (k8 := must_E R1)), F1, R1⟩
  | ok x =>
   rw [hn1] at R1
   obtain ⟨e1, R1⟩ := R1
   have e1 : a = x.1 := e1
   subst e1
   obtain ⟨h2', hc2, F2, R2⟩ := must_R (m := m) hb hl R1
   dsimp only
   refine ⟨h2', .mk o x.1 0 0 0 [] [] [] false, callF_of rfl rfl (by kernel_rfl) (p42_6 (k0 := n2) (k1 := n7) (k2 := n8) (k3 := n9) (k4 := n10) (k5 := n14) (k6 := eqZ_t (b := Int.ofNat 17) h17) (k7 := hc1) (k8 := hc2)), F1.trans F2, by
    revert R2
    cases pMust bs 0 x.2 with
    | error e => exact fun R => R
    | ok s => exact fun R => ⟨rfl, R.2⟩⟩
 rw [if_neg h17]
 have n17 := eqZ_f (a := o) (b := Int.ofNat 17) h17
 by_cases hc : r.kind = 4 ∨ r.kind = 6 ∨ o = 12 ∨ o = 13
 ·rw [if_pos hc]
  obtain ⟨h1, a, hc1, F1, R1⟩ := num_R (m := m) hb hl hp H
  by_cases c4 : r.kind = 4
  ·exact ⟨h1, .mk o a 0 0 0 [] [] [] false, callF_of rfl rfl (by kernel_rfl) (p42_7 (k0 := n2) (k1 := n7) (k2 := n8) (k3 := n9) (k4 := n10) (k5 := n14) (k6 := n17) (k7 := eqZ_t (b := Int.ofNat 4) c4) (k8 := hc1)), F1, by
   revert R1
   cases pNum bs p with
   | error e => exact fun R => R
   | ok s => exact fun R => ⟨by rw [show a = s.1 from R.1], R.2⟩⟩
  have n4 := eqZ_f (a := r.kind) (b := Int.ofNat 4) c4
  by_cases c6 : r.kind = 6
  ·exact ⟨h1, .mk o a 0 0 0 [] [] [] false, callF_of rfl rfl (by kernel_rfl) (p42_8 (k0 := n2) (k1 := n7) (k2 := n8) (k3 := n9) (k4 := n10) (k5 := n14) (k6 := n17) (k7 := n4) (k8 := eqZ_t (b := Int.ofNat 6) c6) (k9 := hc1)), F1, by
   revert R1
   cases pNum bs p with
   | error e => exact fun R => R
   | ok s => exact fun R => ⟨by rw [show a = s.1 from R.1], R.2⟩⟩
  have n6 := eqZ_f (a := r.kind) (b := Int.ofNat 6) c6
  by_cases c12 : o = 12
  ·exact ⟨h1, .mk o a 0 0 0 [] [] [] false, callF_of rfl rfl (by kernel_rfl) (p42_9 (k0 := n2) (k1 := n7) (k2 := n8) (k3 := n9) (k4 := n10) (k5 := n14) (k6 := n17) (k7 := n4) (k8 := n6) (k9 := eqZ_t (b := Int.ofNat 12) c12) (k10 := hc1)), F1, by
   revert R1
   cases pNum bs p with
   | error e => exact fun R => R
   | ok s => exact fun R => ⟨by rw [show a = s.1 from R.1], R.2⟩⟩
  ·exact ⟨h1, .mk o a 0 0 0 [] [] [] false, callF_of rfl rfl (by kernel_rfl) (p42_10 (k0 := n2) (k1 := n7) (k2 := n8) (k3 := n9) (k4 := n10) (k5 := n14) (k6 := n17) (k7 := n4) (k8 := n6) (k9 := eqZ_f (b := Int.ofNat 12) c12) (k10 := eqZ_t (b := Int.ofNat 13) (show o = 13 from by omega)) (k11 := hc1)), F1, by
   revert R1
   cases pNum bs p with
   | error e => exact fun R => R
   | ok s => exact fun R => ⟨by rw [show a = s.1 from R.1], R.2⟩⟩
 ·rw [if_neg hc]
  exact ⟨h, .mk o 0 0 0 0 [] [] [] false, callF_of rfl rfl (by kernel_rfl) (p42_11 (k0 := n2) (k1 := n7) (k2 := n8) (k3 := n9) (k4 := n10) (k5 := n14) (k6 := n17) (k7 := eqZ_f (b := Int.ofNat 4) (fun hh => hc (.inl hh))) (k8 := eqZ_f (b := Int.ofNat 6) (fun hh => hc (.inr (.inl hh)))) (k9 := eqZ_f (b := Int.ofNat 12) (fun hh => hc (.inr (.inr (.inl hh))))) (k10 := eqZ_f (b := Int.ofNat 13) (fun hh => hc (.inr (.inr (.inr hh)))))), Fr.refl _ _, rfl, H⟩
end
end Go.Proofs.YthcjapmfchidhaaDoor
namespace Go.Proofs.YthcjapmfchidhaaDoor
set_option maxRecDepth 100000
open Go Go.Proofs.Am
section
variable {m : Int} {L : Nat} {h : Heap} {bs : List Nat}
theorem is_num30 (c : Int) : callF (cxZ m) (blk (cxZ m)) 14 [.v (.ifc 39 (.int .i64 c)), .v (.ifc 39 (.int .i64 (Int.ofNat 3)))] h = some (.v (.bool (c == 3)), h) := callF_ext (e := isE) rfl rfl rfl
theorem is_nil30 : callF (cxZ m) (blk (cxZ m)) 14 [.v .nilI, .v (.ifc 39 (.int .i64 (Int.ofNat 3)))] h = some (.v (.bool false), h) := callF_ext (e := isE) rfl rfl rfl
theorem ap_ins {out : List Ins} (h : out.length ≤ 100000) (x : Ins) : apL (.ow 9 (encIs out)) 9 120 [encI x] = some (.ow 9 (encIs (out ++ [x]))) := by
 have := ap_owned (n := 9) (b := 120) (out := encIs out) (ys := [encI x]) (fit_one (encI_len x)) (by rw [encIs_len]; simp only [List.length_singleton]; omega) (by decide)
 rw [this, encIs_map, encIs_map, List.map_append]
 rfl
theorem plain_code {bs : List Nat} {r : OpR} {o : Int} {p : Nat} {x : Ins} {q : Nat} (h : pPlain bs r o p = .ok (x, q)) : ∃ a b v t l bd el qq, x = .mk o a b v t l bd el qq := by
 unfold pPlain at h
 repeat' split at h
 all_goals first | (cases h; exact ⟨_, _, _, _, _, _, _, _, rfl⟩) | cases h
theorem ins_code {bs : List Nat} {rec : Nat → Nat → Nat → PL} {d : Nat} {r : OpR} {o : Int} {p n : Nat} {x : Ins} {q n' : Nat} (h : pIns bs rec d r o p n = .ok (x, q, n')) : ∃ a b v t l bd el qq, x = .mk o a b v t l bd el qq := by
 unfold pIns at h
 split at h
 ·repeat' split at h
  all_goals first | (cases h; exact ⟨_, _, _, _, _, _, _, _, rfl⟩) | cases h
 ·split at h
  ·cases h
  ·rename_i s hs
   obtain ⟨y, q'⟩ := s
   have := plain_code hs
   cases h
   exact this
theorem ins_adv {f d p n : Nat} {r : OpR} {o : Int} {x : Ins} {q n' : Nat} (hop : opI o = some r) (hp : p < bs.length) (hd : r.kind = 2 → d < 32) (h : pIns bs (pList opI floB bs f) d r o (p + 1) (n + 1) = .ok (x, q, n')) : p < q := by
 have I := ins_ok opLaw hop (show p + 1 ≤ bs.length by omega) hd (fun {d p n xs l q n'} hp hr => list_q (f := f) hp hr) h
 obtain ⟨a, b, v, t, l, bd, el, qq, rfl⟩ := ins_code h
 have := I.sz
 rw [insB, hop] at this
 simp only [List.length_cons] at this
 omega
theorem list_step (hb : ∀ x, x ∈ bs → x < 256) (hl : bs.length < 2 ^ 61) {f : Nat} (W : ListW m L bs f) : ListW m L bs (f + 1) := by
 intro d p n h out hp hf hn ho hd H
 obtain ⟨a, h3, hq, _⟩ := H.ld3
 obtain ⟨h0, v, hc, F0, R0⟩ := byte_R (m := m) hb hl H
 unfold pL pByte at *
 rw [pList]
 cases hx : bs[p]? with
 | none =>
  rw [hx] at R0
  have R0 : RdE L h0 bs (bs.length, 2) := R0
  obtain ⟨p', n', R1⟩ := R0
  obtain ⟨a', h3', _, hq'⟩ := R1.ld3
  exact ⟨h0, out, v, p23_2_0 (k0 := h3) (k1 := hq) (k2 := rfl) (k3 := H.ld1) (k4 := hc) (k5 := h3') (k6 := hq') (k7 := rfl), F0, ⟨p', n', R1⟩⟩
 | some x =>
 rw [hx] at R0
 obtain ⟨hv, R0⟩ := R0
 have hv : v = (x : Int) := hv
 subst hv
 have R0 : Rd L h0 bs ((p + 1 : Nat) : Int) (n : Int) none := R0
 have hlt := (List.getElem?_eq_some_iff.1 hx).1
 obtain ⟨a1, h31, _, hq1⟩ := R0.ld3
 simp only
 by_cases h11 : x = 11
 ·rw [if_pos (.inl h11)]
  exact ⟨h0, out, (x : Int), p23_2_1 (k0 := h3) (k1 := hq) (k2 := rfl) (k3 := H.ld1) (k4 := hc) (k5 := h31) (k6 := hq1) (k7 := rfl) (k8 := eqZ_t (b := Int.ofNat 11) (by rw [h11]; rfl)), F0, (List.append_nil out).symm, rfl, R0⟩
 have n11 : eqZ (x : Int) (Int.ofNat 11) = false := eqZ_f (by rw [ofN]; omega)
 by_cases h5 : x = 5
 ·rw [if_pos (.inr h5)]
  exact ⟨h0, out, (x : Int), p23_2_2 (k0 := h3) (k1 := hq) (k2 := rfl) (k3 := H.ld1) (k4 := hc) (k5 := h31) (k6 := hq1) (k7 := rfl) (k8 := n11) (k9 := eqZ_t (b := Int.ofNat 5) (by rw [h5]; rfl)), F0, (List.append_nil out).symm, rfl, R0⟩
 have n5 : eqZ (x : Int) (Int.ofNat 5) = false := eqZ_f (by rw [ofN]; omega)
 rw [if_neg (by omega)]
 have wn : IntKind.wrap .i64 ((n : Int) + Int.ofNat 1) = ((n + 1 : Nat) : Int) := by rw [ofN, wrapI (by unfold InZ; omega)]; omega
 cases hop : opI (x : Int) with
 | none =>
  obtain ⟨ob, nm, k, tk, gv, bz, sg, c, hlk, hfl⟩ := op_none hop
  have hlk0 : (lookV (x : Int), h0) = (LV.tup [opA ob nm k tk gv bz sg, .ifc 39 (.int .i64 c)], h0) := by rw [hlk]
  simp only
  by_cases c3 : c = 3
  ·rw [if_pos (hfl.1 c3)]
   obtain ⟨h1, hfc, R1, F1⟩ := fail_R (m := m) R0 p 3 (z := (p : Int)) rfl
   obtain ⟨h2, hs, R2, F2⟩ := R1.set2 (IntKind.wrap .i64 ((n : Int) + Int.ofNat 1))
   obtain ⟨a2, h32, hq2, _⟩ := R2.ld3
   have R2 : RdE L h2 bs (p, 3) := ⟨_, _, R2⟩
   exact ⟨h2, [], _, p23_2_4 (k0 := h3) (k1 := hq) (k2 := rfl) (k3 := H.ld1) (k4 := hc) (k5 := h31) (k6 := hq1) (k7 := rfl) (k8 := n11) (k9 := n5) (k10 := hlk0) (k11 := is_num30 c) (k12 := by rw [c3]; rfl) (k13 := hfc) (k14 := R1.ld2) (k15 := hs) (k16 := h32) (k17 := hq2) (k18 := rfl) (k19 := list_E R2 _ _), (F0.trans F1).trans F2, R2⟩
  ·rw [if_neg (fun hh => c3 (hfl.2 hh))]
   obtain ⟨h1, hfc, R1, F1⟩ := fail_R (m := m) R0 p 2 (z := (p : Int)) rfl
   obtain ⟨h2, hs, R2, F2⟩ := R1.set2 (IntKind.wrap .i64 ((n : Int) + Int.ofNat 1))
   obtain ⟨a2, h32, hq2, _⟩ := R2.ld3
   have R2 : RdE L h2 bs (p, 2) := ⟨_, _, R2⟩
   exact ⟨h2, [], _, p23_2_6 (k0 := h3) (k1 := hq) (k2 := rfl) (k3 := H.ld1) (k4 := hc) (k5 := h31) (k6 := hq1) (k7 := rfl) (k8 := n11) (k9 := n5) (k10 := hlk0) (k11 := is_num30 c) (k12 := by simp [c3]) (k13 := err_neq (some c)) (k14 := rfl) (k15 := hfc) (k16 := R1.ld2) (k17 := hs) (k18 := h32) (k19 := hq2) (k20 := rfl) (k21 := list_E R2 _ _), (F0.trans F1).trans F2, R2⟩
 | some r =>
  have hlk := op_some hop
  have hlk0 : (lookV (x : Int), h0) = (LV.tup [opA (x : Int) r.nm r.kind (encN r.takes) r.gives r.bytes r.sg, .nilI], h0) := by rw [hlk]
  simp only
  by_cases hbig : 512 ≤ n
  ·rw [if_pos (.inl hbig)]
   obtain ⟨h1, hfc, R1, F1⟩ := fail_R (m := m) R0 p 7 (z := (p : Int)) rfl
   obtain ⟨h2, hs, R2, F2⟩ := R1.set2 (IntKind.wrap .i64 ((n : Int) + Int.ofNat 1))
   obtain ⟨a2, h32, hq2, _⟩ := R2.ld3
   have R2 : RdE L h2 bs (p, 7) := ⟨_, _, R2⟩
   exact ⟨h2, [], _, p23_2_8 (k0 := h3) (k1 := hq) (k2 := rfl) (k3 := H.ld1) (k4 := hc) (k5 := h31) (k6 := hq1) (k7 := rfl) (k8 := n11) (k9 := n5) (k10 := hlk0) (k11 := is_nil30) (k12 := rfl) (k13 := err_neq none) (k14 := rfl) (k15 := R0.ld2) (k16 := leZ_t (a := Int.ofNat 512) (by rw [ofN]; omega)) (k17 := hfc) (k18 := R1.ld2) (k19 := hs) (k20 := h32) (k21 := hq2) (k22 := rfl) (k23 := list_E R2 _ _), (F0.trans F1).trans F2, R2⟩
  have n512 : leZ (Int.ofNat 512) (n : Int) = false := leZ_f (by rw [ofN]; omega)
  by_cases hdp : r.kind = 2 ∧ 32 ≤ d
  ·rw [if_pos (.inr hdp)]
   obtain ⟨h1, hfc, R1, F1⟩ := fail_R (m := m) R0 p 7 (z := (p : Int)) rfl
   obtain ⟨h2, hs, R2, F2⟩ := R1.set2 (IntKind.wrap .i64 ((n : Int) + Int.ofNat 1))
   obtain ⟨a2, h32, hq2, _⟩ := R2.ld3
   have R2 : RdE L h2 bs (p, 7) := ⟨_, _, R2⟩
   exact ⟨h2, [], _, p23_2_10 (k0 := h3) (k1 := hq) (k2 := rfl) (k3 := H.ld1) (k4 := hc) (k5 := h31) (k6 := hq1) (k7 := rfl) (k8 := n11) (k9 := n5) (k10 := hlk0) (k11 := is_nil30) (k12 := rfl) (k13 := err_neq none) (k14 := rfl) (k15 := R0.ld2) (k16 := n512) (k17 := eqZ_t (b := Int.ofNat 2) hdp.1) (k18 := leZ_t (a := Int.ofNat 32) (by rw [ofN]; omega)) (k19 := hfc) (k20 := R1.ld2) (k21 := hs) (k22 := h32) (k23 := hq2) (k24 := rfl) (k25 := list_E R2 _ _), (F0.trans F1).trans F2, R2⟩
  rw [if_neg (by omega)]
  obtain ⟨h2, hs, R2, F2⟩ := R0.set2 (IntKind.wrap .i64 ((n : Int) + Int.ofNat 1))
  obtain ⟨a2, h32, hq2, _⟩ := R2.ld3
  rw [wn] at R2
  obtain ⟨h4, i, hfi, F4, R4⟩ := fields_R (m := m) hb hl W hop hlt (by omega) (by omega) (fun hk => by omega) hd R2
  unfold pL at R4
  have hap := ap_ins (out := out) (by omega) i
  have key : ∃ h' vs last, blk (cxZ m) 11 (at_ Tryd.prog 11 2) [.v (.ptr L 0), .v (.int .i64 (d : Int)), .ow 9 (encIs (out ++ [i]))] h4 = some (.tup [.imm (encIs vs), .int .i64 last], h') ∧ Fr L h4 h' ∧
    ResL L h' bs out (match pIns bs (pList opI floB bs f) d r (x : Int) (p + 1) (n + 1) with | .error e => .error e | .ok (i, p2, n2) => match pList opI floB bs f d p2 n2 with | .error e => .error e | .ok (is, last, p3, n3) => .ok (i :: is, last, p3, n3)) vs last := by
   cases hi : pIns bs (pList opI floB bs f) d r (x : Int) (p + 1) (n + 1) with
   | error e =>
    rw [hi] at R4
    have R4 : RdE L h4 bs e := R4
    exact ⟨h4, [], _, list_E R4 _ _, Fr.refl _ _, R4⟩
   | ok y =>
    obtain ⟨i', p2, n2⟩ := y
    rw [hi] at R4
    obtain ⟨e1, R4⟩ := R4
    have e1 : i = i' := e1
    subst e1
    have R4 : Rd L h4 bs (p2 : Int) (n2 : Int) none := R4
    have I := ins_ok opLaw hop hlt (fun hk => by omega) (fun {d p n xs l q n'} hp hr => list_q (f := f) hp hr) hi
    have sz := I.sz
    have ne := I.ne
    have n1 := I.n1
    have hin : 1 ≤ (insB opI i).length ∨ True := .inr trivial
    have hp2 : p < p2 := ins_adv hop hlt (fun hk => by omega) hi
    obtain ⟨h5, vs, last, hc5, F5, R5⟩ := W (d := d) (p := p2) (n := n2) (out := out ++ [i]) I.qb (by omega) (I.n5 (by omega)) (by rw [List.length_append, List.length_singleton]; omega) hd R4
    refine ⟨h5, vs, last, hc5, F5, ?_⟩
    unfold pL at R5
    simp only
    cases hL : pList opI floB bs f d p2 n2 with
    | error e => rw [hL] at R5; exact R5
    | ok z =>
     obtain ⟨is, l, p3, n3⟩ := z
     rw [hL] at R5
     obtain ⟨e2, e3, R5⟩ := R5
     have e2 : vs = (out ++ [i]) ++ is := e2
     exact ⟨by rw [e2, List.append_assoc]; rfl, e3, R5⟩
  obtain ⟨h5, vs, last, hc5, F5, R5⟩ := key
  have FF := ((F0.trans F2).trans F4).trans F5
  obtain ⟨io, ia, ib, iv, it, il, ibd, iel, iq⟩ := i
  by_cases h2k : r.kind = 2
  ·exact ⟨h5, vs, last, p23_2_11 (k0 := h3) (k1 := hq) (k2 := rfl) (k3 := H.ld1) (k4 := hc) (k5 := h31) (k6 := hq1) (k7 := rfl) (k8 := n11) (k9 := n5) (k10 := hlk0) (k11 := is_nil30) (k12 := rfl) (k13 := err_neq none) (k14 := rfl) (k15 := R0.ld2) (k16 := n512) (k17 := eqZ_t (b := Int.ofNat 2) h2k) (k18 := leZ_f (a := Int.ofNat 32) (by rw [ofN]; omega)) (k19 := R0.ld2) (k20 := hs) (k21 := h32) (k22 := hq2) (k23 := rfl) (k24 := hfi) (k25 := hap) (k26 := hc5), FF, R5⟩
  ·exact ⟨h5, vs, last, p23_2_13 (k0 := h3) (k1 := hq) (k2 := rfl) (k3 := H.ld1) (k4 := hc) (k5 := h31) (k6 := hq1) (k7 := rfl) (k8 := n11) (k9 := n5) (k10 := hlk0) (k11 := is_nil30) (k12 := rfl) (k13 := err_neq none) (k14 := rfl) (k15 := R0.ld2) (k16 := n512) (k17 := eqZ_f (b := Int.ofNat 2) h2k) (k18 := R0.ld2) (k19 := hs) (k20 := h32) (k21 := hq2) (k22 := rfl) (k23 := hfi) (k24 := hap) (k25 := hc5), FF, R5⟩
theorem list_W (hb : ∀ x, x ∈ bs → x < 256) (hl : bs.length < 2 ^ 61) : ∀ f : Nat, ListW m L bs f
 | 0 => fun d p n h out hp hf => by omega
 | f + 1 => list_step hb hl (list_W hb hl f)
def GetR (h h' : Heap) (bs : List Nat) (p : Nat) (x : LV) : Prop :=
 (∀ q, q < h.bx.length → h'.bx[q]? = h.bx[q]?) ∧ h.bx.length ≤ h'.bx.length ∧
 match pExpr opI floB bs p with
 | .ok r => x = .tup [.imm (encIs r.1), .int .i64 (r.2 : Int), .nilI]
 | .error e => ∃ id, h.bx.length ≤ id ∧ x = .tup [.imm [], .int .i64 (Int.ofNat 0), .ifc 48 (.ptr id 0)] ∧ h'.bx[id]? = some [.v (.int .i64 (e.1 : Int)), .v (.ifc 39 (.int .i64 e.2))]
theorem get12 (hb : ∀ x, x ∈ bs → x < 256) (hl : bs.length < 2 ^ 61) {p : Nat} (hp : p ≤ bs.length) (h : Heap) :
  ∃ h' x, callF (cxZ m) (blk (cxZ m)) 7 [.v (.imm (encBy bs)), .v (.int .i64 (p : Int))] h = some (x, h') ∧ GetR h h' bs p x := by
 have k0 : ltZ (p : Int) (Int.ofNat 0) = false := ltZ_f (by rw [ofN]; omega)
 have k1 : ltZ (Int.ofNat (encBy bs).length) (p : Int) = false := ltZ_f (by rw [encBy_len, ofN]; omega)
 have H : Rd h.bx.length ⟨h.bx ++ [rdC bs (p : Int) (0 : Nat) .nilI], h.mp⟩ bs (p : Int) ((0 : Nat) : Int) none := by
  refine ⟨.nilI, ?_, rfl⟩
  show (h.bx ++ _)[h.bx.length]? = _
  rw [List.getElem?_append_right (Nat.le_refl _), Nat.sub_self]; rfl
 have old : ∀ q, q < h.bx.length → (Heap.mk (h.bx ++ [rdC bs (p : Int) (0 : Nat) .nilI]) h.mp).bx[q]? = h.bx[q]? := fun q hq => by
  show (h.bx ++ _)[q]? = _
  rw [List.getElem?_append_left hq]
 have olen : (Heap.mk (h.bx ++ [rdC bs (p : Int) (0 : Nat) .nilI]) h.mp).bx.length = h.bx.length + 1 := by
  show (h.bx ++ _).length = _
  rw [List.length_append]; rfl
 obtain ⟨h1, vs, last, hc, F, R⟩ := listC (list_W (m := m) (L := h.bx.length) hb hl (bs.length + 1)) (d := 0) hp (by omega) (by decide) (by decide) H
 have fr : ∀ {h' : Heap}, Fr h.bx.length ⟨h.bx ++ [rdC bs (p : Int) (0 : Nat) .nilI], h.mp⟩ h' → (∀ q, q < h.bx.length → h'.bx[q]? = h.bx[q]?) ∧ h.bx.length ≤ h'.bx.length := fun F => by
  refine ⟨fun q hq => (F.1 q (by rw [olen]; omega) (by omega)).trans (old q hq), ?_⟩
  have := F.2
  rw [olen] at this
  omega
 have bad : ∀ {h' : Heap} {e : PErr}, Fr h.bx.length ⟨h.bx ++ [rdC bs (p : Int) (0 : Nat) .nilI], h.mp⟩ h' → RdE h.bx.length h' bs e → ∃ a, ldP h' (.ptr h.bx.length 3) 1 false = some a ∧ binF Tryd.prog .neq 28 true a .nilI = some (.bool true) ∧
   ∃ id, h.bx.length ≤ id ∧ a = .ifc 48 (.ptr id 0) ∧ h'.bx[id]? = some [.v (.int .i64 (e.1 : Int)), .v (.ifc 39 (.int .i64 e.2))] := fun {h' e} F ⟨p', n', a, e1, e2⟩ => by
  refine ⟨a, ldP_at e1 rfl, e2.qn.2, ?_⟩
  obtain ⟨id, i1, i2, i3⟩ := e2
  refine ⟨id, ?_, i2, i3⟩
  omega
 unfold GetR pExpr
 unfold pL at R
 cases hL : pList opI floB bs (bs.length + 1) 0 p 0 with
 | error e =>
  rw [hL] at R
  have R : RdE h.bx.length h1 bs e := R
  obtain ⟨a, b1, b2, id, b3, rfl, b4⟩ := bad F R
  obtain ⟨f1, f2⟩ := fr F
  by_cases h5 : last = 5
  ·have hf := fail_E (m := m) R
   obtain ⟨p', n', R1⟩ := R
   exact ⟨h1, _, callF_of rfl rfl (by kernel_rfl) (p12_2 (k0 := k0) (k1 := k1) (k2 := hc) (k3 := eqZ_t (b := Int.ofNat 5) h5) (k4 := R1.ld1) (k5 := hf _ _) (k6 := b1) (k7 := b2) (k8 := rfl) (k9 := b1)), f1, f2, id, b3, rfl, b4⟩
  ·exact ⟨h1, _, callF_of rfl rfl (by kernel_rfl) (p12_4 (k0 := k0) (k1 := k1) (k2 := hc) (k3 := eqZ_f (b := Int.ofNat 5) h5) (k4 := b1) (k5 := b2) (k6 := rfl) (k7 := b1)), f1, f2, id, b3, rfl, b4⟩
 | ok y =>
  obtain ⟨xs, l, q, n'⟩ := y
  have B := list_q (f := bs.length + 1) hp hL
  rw [hL] at R
  obtain ⟨e1, e2, R⟩ := R
  have e1 : vs = xs := e1
  have e2 : last = (l : Int) := e2
  subst e1; subst e2
  have R : Rd h.bx.length h1 bs (q : Int) (n' : Int) none := R
  simp only
  by_cases h5 : l = 5
  ·rw [if_pos h5]
   have sz := B.sz
   obtain ⟨h2, hf, R2, F2⟩ := fail_R (m := m) R (q - 1) 2 (z := IntKind.wrap .i64 ((q : Int) - Int.ofNat 1)) (by rw [ofN, wrapI (by have := B.qb; unfold InZ; omega)]; omega)
   have F3 := F.trans F2
   obtain ⟨a, b1, b2, id, b3, rfl, b4⟩ := bad F3 ⟨_, _, R2⟩
   obtain ⟨f1, f2⟩ := fr F3
   exact ⟨h2, _, callF_of rfl rfl (by kernel_rfl) (p12_2 (k0 := k0) (k1 := k1) (k2 := hc) (k3 := eqZ_t (b := Int.ofNat 5) (by rw [h5]; rfl)) (k4 := R.ld1) (k5 := hf) (k6 := b1) (k7 := b2) (k8 := rfl) (k9 := b1)), f1, f2, id, b3, rfl, b4⟩
  ·rw [if_neg h5]
   obtain ⟨a, h3, _, hq⟩ := R.ld3
   obtain ⟨f1, f2⟩ := fr F
   exact ⟨h1, _, callF_of rfl rfl (by kernel_rfl) (p12_5 (k0 := k0) (k1 := k1) (k2 := hc) (k3 := eqZ_f (b := Int.ofNat 5) (by rw [ofN]; omega)) (k4 := h3) (k5 := hq) (k6 := rfl) (k7 := R.ld1)), f1, f2, rfl⟩
end
end Go.Proofs.YthcjapmfchidhaaDoor
namespace Go.Proofs.YthcjapmfchidhaaDoor
set_option maxRecDepth 100000
open Go Go.Proofs.Am
def qdC (bs : List Nat) (p n b w : Int) : List LV := [.v (.imm (encBy bs)), .v (.int .i64 p), .v (.int .i64 n), .v (.int .i64 b), .v (.int .i64 w)]
def bdO : Option PErr → Int
 | none => 0
 | some e => e.2
def Qd (L : Nat) (h : Heap) (bs : List Nat) (p n : Int) (e : Option PErr) : Prop := ∃ w : Int, h.bx[L]? = some (qdC bs p n (bdO e) w) ∧ ∀ e', e = some e' → w = (e'.1 : Int) ∧ e'.2 ≠ 0
section
variable {m : Int} {L : Nat} {h : Heap} {bs : List Nat} {p n : Int} {e : Option PErr}
theorem Qd.ld0 (H : Qd L h bs p n e) : ldP h (.ptr L 0) 1 false = some (.imm (encBy bs)) := by obtain ⟨a, h1, _⟩ := H; exact ldP_at h1 rfl
theorem Qd.ld1 (H : Qd L h bs p n e) : ldP h (.ptr L 1) 1 false = some (.int .i64 p) := by obtain ⟨a, h1, _⟩ := H; exact ldP_at h1 rfl
theorem Qd.ld2 (H : Qd L h bs p n e) : ldP h (.ptr L 2) 1 false = some (.int .i64 n) := by obtain ⟨a, h1, _⟩ := H; exact ldP_at h1 rfl
theorem Qd.ld3 (H : Qd L h bs p n e) : ldP h (.ptr L 3) 1 false = some (.int .i64 (bdO e)) := by obtain ⟨a, h1, _⟩ := H; exact ldP_at h1 rfl
theorem Qd.set1 (H : Qd L h bs p n e) (p' : Int) : ∃ h', stP h (.ptr L 1) [.v (.int .i64 p')] = some h' ∧ Qd L h' bs p' n e ∧ Fr L h h' := by
 obtain ⟨a, h1, h2⟩ := H
 refine ⟨_, stP_at h1 (show 1 < 5 by decide), ⟨a, ?_, h2⟩, Fr.put _ _ _⟩
 rw [put_same h1]; rfl
theorem Qd.set2 (H : Qd L h bs p n e) (n' : Int) : ∃ h', stP h (.ptr L 2) [.v (.int .i64 n')] = some h' ∧ Qd L h' bs p n' e ∧ Fr L h h' := by
 obtain ⟨a, h1, h2⟩ := H
 refine ⟨_, stP_at h1 (show 2 < 5 by decide), ⟨a, ?_, h2⟩, Fr.put _ _ _⟩
 rw [put_same h1]; rfl
end
end Go.Proofs.YthcjapmfchidhaaDoor
namespace Go.Proofs.YthcjapmfchidhaaDoor
set_option maxRecDepth 100000
open Go Go.Proofs.Am
section
variable {m : Int} {L : Nat} {h : Heap} {bs : List Nat}
end
end Go.Proofs.YthcjapmfchidhaaDoor
namespace Go.Proofs.YthcjapmfchidhaaDoor
set_option maxRecDepth 100000
open Go Go.Proofs.Am
section
variable {m : Int} {L : Nat} {h : Heap} {bs : List Nat}
end
end Go.Proofs.YthcjapmfchidhaaDoor
namespace Go.Proofs.YthcjapmfchidhaaDoor
set_option maxRecDepth 100000
open Go Go.Proofs.Am
section
variable {m : Int}
end
end Go.Proofs.YthcjapmfchidhaaDoor
namespace Go.Proofs.YthcjapmfchidhaaDoor
set_option maxRecDepth 100000
open Go Go.Proofs.Am
theorem sg64_wrap {v : Int} (h0 : 0 ≤ v) (h1 : v < 18446744073709551616) : IntKind.wrap .i64 v = sg64 v := by
 rw [wrapI64]; unfold sg64; split <;> split <;> omega
theorem sg32_wrap {v : Int} (h0 : 0 ≤ v) (h1 : v ≤ 4294967295) : IntKind.wrap .i64 (IntKind.wrap .i32 (IntKind.wrap .u32 v)) = sg32 v := by
 rw [wrapU32, wrapI32]
 unfold sg32
 have h : InZ (if 2147483648 ≤ v % 4294967296 % 4294967296 then v % 4294967296 % 4294967296 - 4294967296 else v % 4294967296 % 4294967296) := by unfold InZ; split <;> omega
 rw [wrapI h]
 split <;> split <;> omega
theorem sg64_rng {v : Int} (h0 : 0 ≤ v) (h1 : v < 18446744073709551616) : -9223372036854775808 ≤ sg64 v ∧ sg64 v < 9223372036854775808 := by unfold sg64; split <;> omega
theorem sg32_rng {v : Int} (h0 : 0 ≤ v) (h1 : v ≤ 4294967295) : -9223372036854775808 ≤ sg32 v ∧ sg32 v < 9223372036854775808 := by unfold sg32; split <;> omega
theorem plain_len (r : OpR) (o a b v : Int) (l : List Int) : (plainB r o a b v l).length ≤ 31 + 10 * l.length := by
 have h1 := uB_len 10 a.toNat
 have h2 := uB_len 10 b.toNat
 have h3 := uB_len 10 ((l.length : Int) - 1).toNat
 have h4 := uLs_len l
 have h5 := sB_len 10 (sg32 v)
 have h6 := sB_len 10 (sg64 v)
 unfold plainB
 unfold uL at *
 split
 ·rw [List.length_append]; omega
 split
 ·simp only [List.length_singleton]; omega
 split
 ·omega
 split
 ·omega
 split
 ·rw [List.length_append]; omega
 split
 ·rw [List.length_append, List.length_singleton]; omega
 split
 ·omega
 ·simp only [List.length_nil]; omega
mutual
theorem insB_len (OP : Int → Option OpR) : ∀ x : Ins, (insB OP x).length ≤ 32 * cI x
 | .mk o a b v t l bd el q => by
  have h1 := lstB_len OP bd
  have h2 := lstB_len OP el
  rw [insB, cI]
  cases OP o with
  | none => simp
  | some r =>
   have h3 := plain_len r o a b v l
   simp only [List.length_cons]
   split
   ·cases q <;> simp only [List.length_cons, List.length_append, if_true, Bool.false_eq_true, if_false, List.length_nil, Nat.zero_add] <;> omega
   ·omega
theorem lstB_len (OP : Int → Option OpR) : ∀ xs : List Ins, (lstB OP xs).length ≤ 32 * cL xs
 | [] => Nat.le_refl _
 | x :: xs => by
  have h1 := insB_len OP x
  have h2 := lstB_len OP xs
  rw [lstB, cL, List.length_append]; omega
end
section
variable {m : Int} {h : Heap}
def Buf (b0 : LV) (bs : List Nat) : Prop := b0 = .ow 1 (encBy bs) ∨ (b0 = .v .nilS ∧ bs = [])
def OneR (m : Int) (x : Ins) : Prop := mayI opI x = true → v64I x = true → ∀ ⦃h : Heap⦄ ⦃b0 : LV⦄ ⦃bs : List Nat⦄, Buf b0 bs → bs.length + 32 * cI x ≤ 68719476736 →
 callF (cxZ m) (blk (cxZ m)) 18 [b0, .v (.agg (encI x))] h = some (.ow 1 (encBy (bs ++ insB opI x)), h)
def LstR (m : Int) (xs : List Ins) : Prop := mayL opI xs = true → v64L xs = true → ∀ ⦃h : Heap⦄ ⦃bs : List Nat⦄, bs.length + 32 * cL xs ≤ 68719476736 →
 callF (cxZ m) (blk (cxZ m)) 10 [.ow 1 (encBy bs), .v (.imm (encIs xs))] h = some (.ow 1 (encBy (bs ++ lstB opI xs)), h)
theorem blockT {t : Int} (h0 : 0 ≤ t) (h2 : t ≤ 2) : callF (cxZ m) (blk (cxZ m)) 34 [.v (.int .i64 t)] h = some (.v (.int .u8 ((resB t : Nat) : Int)), h) := by
 have ht : t = 0 ∨ t = 1 ∨ t = 2 := by omega
 rcases ht with rfl | rfl | rfl
 ·exact callF_of rfl rfl (by kernel_rfl) (p58_2 (k0 := rfl) (k1 := rfl))
 ·exact callF_of rfl rfl (by kernel_rfl) (p58_0 (k0 := rfl))
 ·exact callF_of rfl rfl (by kernel_rfl) (p58_1 (k0 := rfl) (k1 := rfl))
theorem one_of {o a b v t : Int} {l : List Int} {bd el : List Ins} {q : Bool} (hb : LstR m bd) (he : LstR m el) : OneR m (.mk o a b v t l bd el q) := by
 intro hm hv h b0 bs hB hl
 unfold mayI at hm
 cases hop : opI o with
 | none => rw [hop] at hm; cases hm
 | some r =>
 rw [hop] at hm
 simp only at hm
 have hlk := op_some hop
 obtain ⟨o0, o1⟩ := opLaw.rng hop
 have f2 := opLaw.k2 hop
 have f3 := opLaw.k3 hop
 have f4 := opLaw.k4 hop
 have f10 := opLaw.k10 hop
 have g10 := opLaw.g10 hop
 rw [cI] at hl
 unfold v64I at hv
 simp only [Bool.and_eq_true, decide_eq_true_eq] at hv
 obtain ⟨⟨hvv, vb⟩, ve⟩ := hv
 have hw : IntKind.wrap .u8 o = ((o.toNat : Nat) : Int) := wrap8i (by omega) (by omega)
 have hk0 : (lookV o, h) = (LV.tup [opA o r.nm r.kind (encN r.takes) r.gives r.bytes r.sg, .nilI], h) := by rw [hlk]
 have key : ∀ {bs : List Nat}, bs.length + 32 * (1 + l.length + cL bd + cL el) ≤ 68719476737 → ∀ rest, insB opI (.mk o a b v t l bd el q) = o.toNat :: rest →
   blk (cxZ m) 18 (at_ Tryd.prog 18 5) [.ow 1 (encBy bs), .lp 0 0, .lp 1 0, .v (.int .i64 o), .v (.int .i64 a), .v (.int .i64 b), .v (.int .u64 v), .v (.int .i64 t), .v (.imm (encN l)), .v (.imm (encIs bd)), .v (.imm (encIs el)), .v (.bool q), .v (.int .i64 o), .v (.str r.nm), .v (.int .i64 r.kind), .v (.imm (encN r.takes)), .v (.int .i64 r.gives), .v (.int .i64 r.bytes), .v (.bool r.sg)] h
    = some (.ow 1 (encBy (bs ++ rest)), h) := by
  clear hB hl bs b0
  intro bs hl rest hrest
  rw [insB, hop] at hrest
  simp only [List.cons.injEq, true_and] at hrest
  subst hrest
  by_cases h2 : r.kind = 2
  ·rw [if_pos h2] at hm ⊢
   simp only [Bool.and_eq_true, decide_eq_true_eq] at hm
   obtain ⟨⟨⟨⟨⟨⟨t0, t2⟩, mb⟩, me⟩, _⟩, _⟩, _⟩ := hm
   have lb := lstB_len opI bd
   have le := lstB_len opI el
   have e2 := eqZ_t (a := r.kind) (b := Int.ofNat 2) h2
   have k1 := blockT (m := m) (h := h) t0 t2
   have k2 := ap_by1 (out := bs) (y := resB t) rfl (by omega)
   have k3 := hb mb vb (h := h) (bs := bs ++ [resB t]) (by rw [List.length_append, List.length_singleton]; omega)
   cases q with
   | false =>
    have k5 := ap_by1 (out := bs ++ [resB t] ++ lstB opI bd) (x := Int.ofNat 11) (y := 11) rfl (by simp only [List.length_append, List.length_singleton]; omega)
    have e : bs ++ [resB t] ++ lstB opI bd ++ [11] = bs ++ (resB t :: (lstB opI bd ++ ((if false = true then 5 :: lstB opI el else []) ++ [11]))) := by simp
    rw [← e]
    exact p34_5_1 (k0 := e2) (k1 := k1) (k2 := k2) (k3 := k3) (k4 := rfl) (k5 := k5)
   | true =>
    have k5 := ap_by1 (out := bs ++ [resB t] ++ lstB opI bd) (x := Int.ofNat 5) (y := 5) rfl (by simp only [List.length_append, List.length_singleton]; omega)
    have k6 := he me ve (h := h) (bs := bs ++ [resB t] ++ lstB opI bd ++ [5]) (by simp only [List.length_append, List.length_singleton]; omega)
    have k7 := ap_by1 (out := bs ++ [resB t] ++ lstB opI bd ++ [5] ++ lstB opI el) (x := Int.ofNat 11) (y := 11) rfl (by simp only [List.length_append, List.length_singleton]; omega)
    have e : bs ++ [resB t] ++ lstB opI bd ++ [5] ++ lstB opI el ++ [11] = bs ++ (resB t :: (lstB opI bd ++ ((if true = true then 5 :: lstB opI el else []) ++ [11]))) := by simp
    rw [← e]
    exact p34_5_0 (k0 := e2) (k1 := k1) (k2 := k2) (k3 := k3) (k4 := rfl) (k5 := k5) (k6 := k6) (k7 := k7)
  ·rw [if_neg h2] at hm ⊢
   rw [Bool.and_eq_true] at hm
   have hm := hm.1
   have n2 := eqZ_f (a := r.kind) (b := Int.ofNat 2) h2
   unfold mayP at hm
   unfold plainB
   by_cases h78 : r.kind = 7 ∨ r.kind = 8
   ·rw [if_neg (by omega), if_pos h78] at hm
    rw [if_pos h78]
    simp only [Bool.and_eq_true] at hm
    have k := put2_Z (m := m) (h := h) (bs := bs) hm.1.1 hm.1.2 (by omega)
    by_cases h7 : r.kind = 7
    ·exact p34_5_2 (k0 := n2) (k1 := eqZ_t (b := Int.ofNat 7) h7) (k2 := k)
    ·exact p34_5_3 (k0 := n2) (k1 := eqZ_f (b := Int.ofNat 7) h7) (k2 := eqZ_t (b := Int.ofNat 8) (show r.kind = 8 from by omega)) (k3 := k)
   rw [if_neg h78]
   rw [if_neg h78] at hm
   have n7 := eqZ_f (a := r.kind) (b := Int.ofNat 7) (fun hh => h78 (.inl hh))
   have n8 := eqZ_f (a := r.kind) (b := Int.ofNat 8) (fun hh => h78 (.inr hh))
   by_cases h9 : r.kind = 9
   ·rw [if_pos h9]
    exact p34_5_4 (k0 := n2) (k1 := n7) (k2 := n8) (k3 := eqZ_t (b := Int.ofNat 9) h9) (k4 := ap_by1 rfl (by omega))
   rw [if_neg h9]
   have n9 := eqZ_f (a := r.kind) (b := Int.ofNat 9) h9
   by_cases h65 : o = 65
   ·have hk : r.kind = 10 := f10.2 (.inl h65)
    rw [if_pos hk] at hm
    rw [if_pos h65]
    simp only [Bool.and_eq_true, decide_eq_true_eq, Bool.not_eq_true', Bool.and_eq_false_imp, decide_eq_false_iff_not] at hm
    have hg := (g10 hk).2 h65
    have hv32 : v ≤ 4294967295 := by have := hm.1 hg; omega
    have ls := sB_len 10 (sg32 v)
    have k6 := putS_Z (m := m) (h := h) (sg32_rng hvv.1 hv32)
    rw [← sg32_wrap hvv.1 hv32] at k6
    rw [← sg32_wrap hvv.1 hv32] at ls ⊢
    exact p34_5_5 (k0 := n2) (k1 := n7) (k2 := n8) (k3 := n9) (k4 := eqZ_t (b := Int.ofNat 10) hk) (k5 := eqZ_t (b := Int.ofNat 1) hg) (k6 := k6) (k7 := ap_by (by omega))
   rw [if_neg h65]
   by_cases h66 : o = 66
   ·have hk : r.kind = 10 := f10.2 (.inr h66)
    rw [if_pos h66]
    have hg : r.gives ≠ 1 := fun hh => h65 ((g10 hk).1 hh)
    have ls := sB_len 10 (sg64 v)
    have k6 := putS_Z (m := m) (h := h) (sg64_rng hvv.1 hvv.2)
    rw [← sg64_wrap hvv.1 hvv.2] at k6
    rw [← sg64_wrap hvv.1 hvv.2] at ls ⊢
    exact p34_5_6 (k0 := n2) (k1 := n7) (k2 := n8) (k3 := n9) (k4 := eqZ_t (b := Int.ofNat 10) hk) (k5 := eqZ_f (b := Int.ofNat 1) hg) (k6 := k6) (k7 := ap_by (by omega))
   rw [if_neg h66]
   have hk10 : r.kind ≠ 10 := fun hh => by rcases f10.1 hh with e | e <;> omega
   have n10 := eqZ_f (a := r.kind) (b := Int.ofNat 10) hk10
   rw [if_neg hk10] at hm
   by_cases h14 : o = 14
   ·rw [if_pos h14] at hm ⊢
    simp only [Bool.and_eq_true, Bool.not_eq_true'] at hm
    obtain ⟨⟨hne, hall⟩, _⟩ := hm
    have hpos : 0 < l.length := by
     cases l with
     | nil => cases hne
     | cons x l => simp
    have hz : numZ ((l.length : Int) - 1) = true := by unfold numZ; rw [Bool.and_eq_true, decide_eq_true_eq, decide_eq_true_eq]; omega
    have k6 := put1_Z (m := m) (h := h) (bs := bs) hz (by omega)
    have k7 := put_Z (m := m) (h := h) (bs := bs ++ uL ((l.length : Int) - 1)) hall (by omega) (by have := uB_len 10 ((l.length : Int) - 1).toNat; unfold uL; rw [List.length_append]; omega)
    rw [List.append_assoc] at k7
    have w1 : IntKind.wrap .i64 (Int.ofNat (encN l).length - Int.ofNat 1) = (l.length : Int) - 1 := by rw [encN_len, ofN, ofN, wrapI (by unfold InZ; omega)]; rfl
    exact p34_5_15 (k0 := n2) (k1 := n7) (k2 := n8) (k3 := n9) (k4 := n10) (k5 := eqZ_t (b := Int.ofNat 14) h14) (k6 := by rw [w1]; exact k6) (k7 := k7)
   rw [if_neg h14]
   rw [if_neg h14] at hm
   have n14 := eqZ_f (a := o) (b := Int.ofNat 14) h14
   by_cases h17 : o = 17
   ·have hk : r.kind = 4 := f4.2 (by omega)
    rw [if_pos (.inl hk)] at hm
    rw [if_pos h17]
    simp only [Bool.and_eq_true] at hm
    have k7 := put1_Z (m := m) (h := h) (bs := bs) hm.1 (by omega)
    have k8 := ap_by1 (out := bs ++ uL a) (x := Int.ofNat 0) (y := 0) rfl (by have := uB_len 10 a.toNat; unfold uL; rw [List.length_append]; omega)
    rw [List.append_assoc] at k8
    exact p34_5_16 (k0 := n2) (k1 := n7) (k2 := n8) (k3 := n9) (k4 := n10) (k5 := n14) (k6 := eqZ_t (b := Int.ofNat 17) h17) (k7 := k7) (k8 := k8)
   rw [if_neg h17]
   have n17 := eqZ_f (a := o) (b := Int.ofNat 17) h17
   by_cases hc : r.kind = 4 ∨ r.kind = 6 ∨ o = 12 ∨ o = 13
   ·rw [if_pos (by omega)] at hm
    rw [if_pos hc]
    simp only [Bool.and_eq_true] at hm
    have k := put1_Z (m := m) (h := h) (bs := bs) hm.1 (by omega)
    by_cases c4 : r.kind = 4
    ·exact p34_5_17 (k0 := n2) (k1 := n7) (k2 := n8) (k3 := n9) (k4 := n10) (k5 := n14) (k6 := n17) (k7 := eqZ_t (b := Int.ofNat 4) c4) (k8 := k)
    have n4 := eqZ_f (a := r.kind) (b := Int.ofNat 4) c4
    by_cases c6 : r.kind = 6
    ·exact p34_5_18 (k0 := n2) (k1 := n7) (k2 := n8) (k3 := n9) (k4 := n10) (k5 := n14) (k6 := n17) (k7 := n4) (k8 := eqZ_t (b := Int.ofNat 6) c6) (k9 := k)
    have n6 := eqZ_f (a := r.kind) (b := Int.ofNat 6) c6
    by_cases c12 : o = 12
    ·exact p34_5_19 (k0 := n2) (k1 := n7) (k2 := n8) (k3 := n9) (k4 := n10) (k5 := n14) (k6 := n17) (k7 := n4) (k8 := n6) (k9 := eqZ_t (b := Int.ofNat 12) c12) (k10 := k)
    ·exact p34_5_20 (k0 := n2) (k1 := n7) (k2 := n8) (k3 := n9) (k4 := n10) (k5 := n14) (k6 := n17) (k7 := n4) (k8 := n6) (k9 := eqZ_f (b := Int.ofNat 12) c12) (k10 := eqZ_t (b := Int.ofNat 13) (show o = 13 from by omega)) (k11 := k)
   ·rw [if_neg hc, List.append_nil]
    exact p34_5_21 (k0 := n2) (k1 := n7) (k2 := n8) (k3 := n9) (k4 := n10) (k5 := n14) (k6 := n17) (k7 := eqZ_f (b := Int.ofNat 4) (fun hh => hc (.inl hh))) (k8 := eqZ_f (b := Int.ofNat 6) (fun hh => hc (.inr (.inl hh)))) (k9 := eqZ_f (b := Int.ofNat 12) (fun hh => hc (.inr (.inr (.inl hh))))) (k10 := eqZ_f (b := Int.ofNat 13) (fun hh => hc (.inr (.inr (.inr hh)))))
 obtain ⟨rest, hrest⟩ : ∃ rest, insB opI (.mk o a b v t l bd el q) = o.toNat :: rest := by rw [insB, hop]; exact ⟨_, rfl⟩
 rcases hB with rfl | ⟨rfl, rfl⟩
 ·have k3 := ap_by1 (out := bs) (x := IntKind.wrap .u8 o) (y := o.toNat) hw (by omega)
  have := key (bs := bs ++ [o.toNat]) (by rw [List.length_append, List.length_singleton]; omega) rest hrest
  rw [hrest, show bs ++ o.toNat :: rest = bs ++ [o.toNat] ++ rest by simp]
  exact callF_of rfl rfl (by kernel_rfl) (p34_1 (k0 := hk0) (k1 := err_neq none) (k2 := rfl) (k3 := k3) (k4 := this))
 ·have := key (bs := [o.toNat]) (by simp only [List.length_nil] at hl; rw [List.length_singleton]; omega) rest hrest
  rw [hrest, List.nil_append, show o.toNat :: rest = [o.toNat] ++ rest by simp]
  exact callF_of rfl rfl (by kernel_rfl) (p34n_1 (k0 := hk0) (k1 := err_neq none) (k2 := rfl) (k3 := by rw [hw]; exact this))
end
end Go.Proofs.YthcjapmfchidhaaDoor
namespace Go.Proofs.YthcjapmfchidhaaDoor
set_option maxRecDepth 100000
open Go Go.Proofs.Am
section
variable {m : Int} {h : Heap}
theorem v64_mem : ∀ {xs : List Ins} {x : Ins}, v64L xs = true → x ∈ xs → v64I x = true
 | [], x, _, h => by cases h
 | y :: ys, x, hv, h => by
  rw [v64L, Bool.and_eq_true] at hv
  rcases List.mem_cons.1 h with rfl | h
  ·exact hv.1
  ·exact v64_mem hv.2 h
theorem list_loop {xs : List Ins} (hx : ∀ x, x ∈ xs → OneR m x) (hm : mayL opI xs = true) (hv : v64L xs = true) (hl : xs.length < 2 ^ 62) : ∀ (suf pre : List Ins) {b0 : LV} {bs : List Nat}, pre ++ suf = xs → Buf b0 bs → bs.length + 32 * cL suf ≤ 68719476736 →
  blk (cxZ m) 10 (at_ Tryd.prog 10 2) [b0, .v (.imm (encIs xs)), .v (.int .i64 (Int.ofNat (encIs xs).length)), .v (.int .i64 (Int.ofNat pre.length))] h =
   some (if suf = [] then b0 else .ow 1 (encBy (bs ++ lstB opI suf)), h)
 | [], pre, b0, bs, hp, hB, _ => by
  rw [List.append_nil] at hp
  subst hp
  have k0 : ltZ (Int.ofNat pre.length) (Int.ofNat (encIs pre).length) = false := ltZ_f (by rw [encIs_len]; exact Int.le_refl _)
  rw [if_pos rfl]
  rcases hB with rfl | ⟨rfl, rfl⟩
  ·exact p20_2_1 (k0 := k0)
  ·exact p20_2n_1 (k0 := k0)
 | x :: suf, pre, b0, bs, hp, hB, hb => by
  have hlt : pre.length < xs.length := by rw [← hp]; simp
  have hg : xs[pre.length]? = some x := by rw [← hp, List.getElem?_append_right (Nat.le_refl _), Nat.sub_self]; rfl
  have hmem := List.mem_of_getElem? hg
  have mx : mayI opI x = true := by rw [mayL_mem] at hm; exact List.all_eq_true.1 hm x hmem
  have vx : v64I x = true := v64_mem hv hmem
  have k0 : ltZ (Int.ofNat pre.length) (Int.ofNat (encIs xs).length) = true := ltZ_t (by rw [encIs_len, ofN, ofN]; omega)
  have k1 : ixA (.imm (encIs xs)) (Int.ofNat pre.length) 9 = some (encI x) := by rw [encIs_map]; exact ix_map (f := encI) hg (encI_len x)
  rw [cL] at hb
  have hlen := insB_len opI x
  have k2 := hx x hmem mx vx (h := h) hB (by omega)
  have ih := list_loop hx hm hv hl suf (pre ++ [x]) (b0 := .ow 1 (encBy (bs ++ insB opI x))) (bs := bs ++ insB opI x) (by rw [List.append_assoc]; exact hp) (.inl rfl) (by rw [List.length_append]; omega)
  rw [List.length_append, List.length_singleton] at ih
  have e : (if suf = [] then LV.ow 1 (encBy (bs ++ insB opI x)) else .ow 1 (encBy (bs ++ insB opI x ++ lstB opI suf))) = .ow 1 (encBy (bs ++ lstB opI (x :: suf))) := by
   rw [lstB, ← List.append_assoc]
   split
   ·rename_i hs; subst hs; rw [lstB, List.append_nil]
   ·rfl
  rw [e] at ih
  rw [if_neg (by simp)]
  have w := wrapS (n := pre.length) (by omega)
  obtain ⟨o, a, b, v, t, l, bd, el, q⟩ := x
  rcases hB with rfl | ⟨rfl, rfl⟩
  ·exact p20_2_0 (k0 := k0) (k1 := k1) (k2 := k2) (k3 := by rw [w]; exact ih)
  ·exact p20_2n_0 (k0 := k0) (k1 := k1) (k2 := k2) (k3 := by rw [w]; exact ih)
theorem list_of1 {xs : List Ins} (hx : ∀ x, x ∈ xs → OneR m x) (hl : xs.length < 2 ^ 62) : LstR m xs := by
 intro hm hv h bs hb
 have := list_loop (h := h) hx hm hv hl xs [] (b0 := .ow 1 (encBy bs)) rfl (.inl rfl) hb
 have e : (if xs = [] then LV.ow 1 (encBy bs) else .ow 1 (encBy (bs ++ lstB opI xs))) = .ow 1 (encBy (bs ++ lstB opI xs)) := by
  split
  ·rename_i hs; subst hs; rw [lstB, List.append_nil]
  ·rfl
 rw [e] at this
 exact callF_of rfl rfl (by kernel_rfl) (p20_0 (k0 := this))
mutual
theorem one_R : ∀ x : Ins, cI x < 2 ^ 62 → OneR m x
 | .mk _ _ _ _ _ l bd el _ => fun h => by
  rw [cI] at h
  have h1 := cL_len bd
  have h2 := cL_len el
  exact one_of (list_of1 (one_Rs bd (by omega)) (by omega)) (list_of1 (one_Rs el (by omega)) (by omega))
theorem one_Rs : ∀ xs : List Ins, cL xs < 2 ^ 62 → ∀ x, x ∈ xs → OneR m x
 | [] => fun _ x hx => by cases hx
 | y :: ys => fun h x hx => by
  rw [cL] at h
  have h1 := one_R y (by omega)
  have h2 := one_Rs ys (by omega)
  rcases List.mem_cons.1 hx with e | hx
  ·rw [e]; exact h1
  ·exact h2 x hx
end
theorem p9_2 {xs : List (List AV)} {b0 : Bool} {h h0 h1 : Heap} (k0 : cA m 9 [vM xs] h = some (vB b0, h1)) (k1 : (!b0) = false) (k2 : cA m 10 [LV.v AV.nilS, vM xs] h1 = some (LV.v .nilS, h0)) :
  bB m 6 [vM xs] h = some ((LV.tup [aM [[AV.int IntKind.u8 (.ofNat 11)]], AV.nilI], h0)) :=
 bY (qS [] [1099994] [] [(1, 1, vB b0, h1), (3, 1, LV.v AV.nilS, h0)]) (tA k0 (tZ k1 (tA k2 (tR ((LV.tup [aM [[AV.int IntKind.u8 (.ofNat 11)]], AV.nilI], h0)))))) (by kernel_rfl)
def putV (xs : List Ins) : LV := if mayL opI xs = true then .tup [.imm (encBy (lstB opI xs ++ [11])), .nilI] else .tup [.imm [], .ifc 39 (.int .i64 (Int.ofNat 1))]
theorem put9 {xs : List Ins} (hv : v64L xs = true) (hc : 32 * cL xs + 1 ≤ 68719476736) (h : Heap) : callF (cxZ m) (blk (cxZ m)) 6 [.v (.imm (encIs xs))] h = some (putV xs, h) := by
 have hM := mayL_Z (m := m) (xs := xs) (by omega) h
 have hlen := cL_len xs
 have hll := lstB_len opI xs
 unfold putV
 cases hm : mayL opI xs with
 | false =>
  rw [hm] at hM
  rw [if_neg (by decide)]
  exact callF_of rfl rfl (by kernel_rfl) (p9_0 (k0 := hM) (k1 := rfl))
 | true =>
  rw [hm] at hM
  rw [if_pos rfl]
  have := list_loop (m := m) (h := h) (one_Rs xs (by omega)) hm hv (by omega) xs [] (b0 := .v .nilS) (bs := []) rfl (.inr ⟨rfl, rfl⟩) (by simp only [List.length_nil]; omega)
  have h20 : callF (cxZ m) (blk (cxZ m)) 10 [.v .nilS, .v (.imm (encIs xs))] h = some (if xs = [] then .v .nilS else .ow 1 (encBy ([] ++ lstB opI xs)), h) := callF_of rfl rfl (by kernel_rfl) (p20n_0 (k0 := this))
  by_cases hx : xs = []
  ·subst hx
   rw [if_pos rfl] at h20
   exact callF_of rfl rfl (by kernel_rfl) (p9_2 (k0 := hM) (k1 := rfl) (k2 := h20))
  ·rw [if_neg hx, List.nil_append] at h20
   exact callF_of rfl rfl (by kernel_rfl) (p9_1 (k0 := hM) (k1 := rfl) (k2 := h20) (k3 := ap_by1 rfl (by omega)))
end
end Go.Proofs.YthcjapmfchidhaaDoor
namespace Go.Proofs.YthcjapmfchidhaaDoor
set_option maxRecDepth 100000
open Go Go.Proofs.Am
section
variable {m : Int}
def CntN (m : Int) (xs : List Ins) : Prop := ∀ h : Heap, callF (cxZ m) (blk (cxZ m)) 5 [.v (.imm (encIs xs))] h = some (.tup [.int .i64 (nL xs : Int), .int .i64 (dL xs : Int)], h)
def CntM (m : Int) : Ins → Prop
 | .mk _ _ _ _ _ _ bd el _ => CntN m bd ∧ CntN m el
theorem cntN_loop {xs : List Ins} (hx : ∀ x, x ∈ xs → CntM m x) (hl : cL xs < 2 ^ 61) {h : Heap} : ∀ (suf pre : List Ins), pre ++ suf = xs → ∀ c d : Nat, c + nL suf < 2 ^ 61 → d < 2 ^ 61 →
  blk (cxZ m) 5 (at_ Tryd.prog 5 4) [.v (.imm (encIs xs)), .v (.int .i64 (c : Int)), .v (.int .i64 (d : Int)), .v (.int .i64 (Int.ofNat pre.length))] h = some (.tup [.int .i64 ((c + nL suf : Nat) : Int), .int .i64 ((max d (dL suf) : Nat) : Int)], h)
 | [], pre, hp, c, d, _, _ => by
  rw [List.append_nil] at hp
  subst hp
  rw [nL, dL, Nat.add_zero, Nat.max_zero]
  exact w7_4_6 (k0 := ltZ_f (by rw [ofN, ofN, encIs_len]; omega))
 | x :: suf, pre, hp, c, d, hc, hd => by
  have hlen := cL_len xs
  have hlt : pre.length < xs.length := by rw [← hp]; simp
  have h1 : xs[pre.length]? = some x := by rw [← hp, List.getElem?_append_right (Nat.le_refl _), Nat.sub_self]; rfl
  have e1 : ixA (.imm (encIs xs)) (Int.ofNat pre.length) 9 = some (encI x) := by rw [encIs_map]; exact ix_map (f := encI) h1 (encI_len _)
  have hcx := hx x (List.mem_of_getElem? h1)
  have k0 : ltZ (Int.ofNat pre.length) (Int.ofNat (encIs xs).length) = true := ltZ_t (by rw [ofN, ofN, encIs_len]; omega)
  have ih := cntN_loop hx hl (h := h) suf (pre ++ [x]) (by rw [List.append_assoc]; exact hp)
  rw [List.length_append, List.length_singleton] at ih
  obtain ⟨o, a, b, v, t, l, bd, el, q⟩ := x
  have c1 := hcx.1 h
  have c2 := hcx.2 h
  have hw := wrapS (n := pre.length) (by omega)
  rw [nL, nI] at hc ⊢
  rw [dL, dI]
  have hdb := dL_n bd
  have hde := dL_n el
  have w1 : IntKind.wrap .i64 (IntKind.wrap .i64 (IntKind.wrap .i64 ((c : Int) + Int.ofNat 1) + (nL bd : Int)) + (nL el : Int)) = ((c + (1 + nL bd + nL el) : Nat) : Int) := by
   rw [ofN, wrapI (i := (c : Int) + _) (by unfold InZ; omega), wrapI (i := _ + (nL bd : Int)) (by unfold InZ; omega), wrapI (by unfold InZ; omega)]
   omega
  have w2 : ∀ e : Nat, e < 2 ^ 61 → IntKind.wrap .i64 ((e : Int) + Int.ofNat 1) = ((e + 1 : Nat) : Int) := fun e he => by rw [ofN, wrapI (by unfold InZ; omega)]; omega
  have w2b := w2 (dL bd) (by omega)
  have w2e := w2 (dL el) (by omega)
  have fin : ∀ d' : Nat, d' < 2 ^ 61 → blk (cxZ m) 5 (at_ Tryd.prog 5 4) [.v (.imm (encIs xs)), .v (.int .i64 (IntKind.wrap .i64 (IntKind.wrap .i64 (IntKind.wrap .i64 ((c : Int) + Int.ofNat 1) + (nL bd : Int)) + (nL el : Int)))), .v (.int .i64 (d' : Int)), .v (.int .i64 (IntKind.wrap .i64 (Int.ofNat pre.length.succ)))] h = some (.tup [.int .i64 ((c + (1 + nL bd + nL el + nL suf) : Nat) : Int), .int .i64 ((max d' (dL suf) : Nat) : Int)], h) := fun d' hd' => by
   rw [w1, hw]
   have := ih (c + (1 + nL bd + nL el)) d' (by omega) hd'
   rw [show c + (1 + nL bd + nL el) + nL suf = c + (1 + nL bd + nL el + nL suf) by omega] at this
   exact this
  have fin' : ∀ d' : Nat, d' < 2 ^ 61 → ∀ D : Nat, D = max d' (dL suf) → blk (cxZ m) 5 (at_ Tryd.prog 5 4) [.v (.imm (encIs xs)), .v (.int .i64 (IntKind.wrap .i64 (IntKind.wrap .i64 (IntKind.wrap .i64 ((c : Int) + Int.ofNat 1) + (nL bd : Int)) + (nL el : Int)))), .v (.int .i64 (d' : Int)), .v (.int .i64 (IntKind.wrap .i64 (Int.ofNat pre.length.succ)))] h = some (.tup [.int .i64 ((c + (1 + nL bd + nL el + nL suf) : Nat) : Int), .int .i64 (D : Int)], h) := fun d' hd' D hD => by
   rw [hD]; exact fin d' hd'
  cases q1 : leZ (Int.ofNat 2) o with
  | false =>
   have ho : ¬(2 ≤ o ∧ o ≤ 4) := fun hh => by rw [leZ_t (a := Int.ofNat 2) hh.1] at q1; cases q1
   rw [if_neg ho]
   exact w7_4_5 (k0 := k0) (k1 := e1) (k2 := c1) (k3 := e1) (k4 := c2) (k5 := e1) (k6 := q1) (k7 := fin' d hd _ (by omega))
  | true =>
   cases q2 : leZ o (Int.ofNat 4) with
   | false =>
    have ho : ¬(2 ≤ o ∧ o ≤ 4) := fun hh => by rw [leZ_t (b := Int.ofNat 4) hh.2] at q2; cases q2
    rw [if_neg ho]
    exact w7_4_4 (k0 := k0) (k1 := e1) (k2 := c1) (k3 := e1) (k4 := c2) (k5 := e1) (k6 := q1) (k7 := e1) (k8 := q2) (k9 := fin' d hd _ (by omega))
   | true =>
    have o2 : (2 : Int) ≤ o := by
     by_cases hh : (2 : Int) ≤ o
     ·exact hh
     ·rw [leZ_f (a := Int.ofNat 2) (by rw [ofN]; omega)] at q1; cases q1
    have o4 : o ≤ 4 := by
     by_cases hh : o ≤ 4
     ·exact hh
     ·rw [leZ_f (b := Int.ofNat 4) (by rw [ofN]; omega)] at q2; cases q2
    rw [if_pos ⟨o2, o4⟩]
    by_cases q3 : d < dL bd + 1
    ·have k3 : ltZ (d : Int) (IntKind.wrap .i64 ((dL bd : Int) + Int.ofNat 1)) = true := by rw [w2b]; exact ltZ_t (by omega)
     by_cases q4 : dL bd + 1 < dL el + 1
     ·have k4 : ltZ (IntKind.wrap .i64 ((dL bd : Int) + Int.ofNat 1)) (IntKind.wrap .i64 ((dL el : Int) + Int.ofNat 1)) = true := by rw [w2b, w2e]; exact ltZ_t (by omega)
      exact w7_4_0 (k0 := k0) (k1 := e1) (k2 := c1) (k3 := e1) (k4 := c2) (k5 := e1) (k6 := q1) (k7 := e1) (k8 := q2) (k9 := k3) (k10 := k4) (k11 := by rw [w2e]; exact fin' (dL el + 1) (by omega) _ (by omega))
     ·have k4 : ltZ (IntKind.wrap .i64 ((dL bd : Int) + Int.ofNat 1)) (IntKind.wrap .i64 ((dL el : Int) + Int.ofNat 1)) = false := by rw [w2b, w2e]; exact ltZ_f (by omega)
      exact w7_4_1 (k0 := k0) (k1 := e1) (k2 := c1) (k3 := e1) (k4 := c2) (k5 := e1) (k6 := q1) (k7 := e1) (k8 := q2) (k9 := k3) (k10 := k4) (k11 := by rw [w2b]; exact fin' (dL bd + 1) (by omega) _ (by omega))
    ·have k3 : ltZ (d : Int) (IntKind.wrap .i64 ((dL bd : Int) + Int.ofNat 1)) = false := by rw [w2b]; exact ltZ_f (by omega)
     by_cases q4 : d < dL el + 1
     ·have k4 : ltZ (d : Int) (IntKind.wrap .i64 ((dL el : Int) + Int.ofNat 1)) = true := by rw [w2e]; exact ltZ_t (by omega)
      exact w7_4_2 (k0 := k0) (k1 := e1) (k2 := c1) (k3 := e1) (k4 := c2) (k5 := e1) (k6 := q1) (k7 := e1) (k8 := q2) (k9 := k3) (k10 := k4) (k11 := by rw [w2e]; exact fin' (dL el + 1) (by omega) _ (by omega))
     ·have k4 : ltZ (d : Int) (IntKind.wrap .i64 ((dL el : Int) + Int.ofNat 1)) = false := by rw [w2e]; exact ltZ_f (by omega)
      exact w7_4_3 (k0 := k0) (k1 := e1) (k2 := c1) (k3 := e1) (k4 := c2) (k5 := e1) (k6 := q1) (k7 := e1) (k8 := q2) (k9 := k3) (k10 := k4) (k11 := fin' d hd _ (by omega))
theorem cntN_of {xs : List Ins} (hx : ∀ x, x ∈ xs → CntM m x) (hl : cL xs < 2 ^ 61) : CntN m xs := fun h => by
 have hn := nL_c xs
 have := cntN_loop hx hl (h := h) xs [] rfl 0 0 (by omega) (by decide)
 rw [Nat.zero_add, Nat.zero_max] at this
 exact callF_of rfl rfl (by kernel_rfl) (w7_0 (k0 := this))
mutual
theorem cntM : ∀ x : Ins, cI x < 2 ^ 61 → CntM m x
 | .mk _ _ _ _ _ l bd el _ => fun h => by
  rw [cI] at h
  exact ⟨cntN_of (cntMs bd (by omega)) (by omega), cntN_of (cntMs el (by omega)) (by omega)⟩
theorem cntMs : ∀ xs : List Ins, cL xs < 2 ^ 61 → ∀ x, x ∈ xs → CntM m x
 | [] => fun _ x hx => by cases hx
 | y :: ys => fun h x hx => by
  rw [cL] at h
  have h1 := cntM y (by omega)
  have h2 := cntMs ys (by omega)
  rcases List.mem_cons.1 hx with e | hx
  ·rw [e]; exact h1
  ·exact h2 x hx
end
theorem cnt8 {xs : List Ins} (hl : cL xs < 2 ^ 61) : CntN m xs := cntN_of (cntMs xs hl) hl
theorem cv_by {bs : List Nat} (hb : ∀ x, x ∈ bs → x < 256) : cvA (Cx.P (cxZ m)) 26 9 (.imm (encBy bs)) = some (.v (.str (txt bs))) := by
 have e : cvA (Cx.P (cxZ m)) 26 9 (.imm (encBy bs)) = (bytesOf (encBy bs)).bind fun r => some (.v (.str ⟨r.toArray⟩)) := by kernel_rfl
 rw [e, bytes_by hb]
 rfl
theorem told18 {h : Heap} {id : Nat} {e : PErr} (hb : h.bx[id]? = some [.v (.int .i64 (e.1 : Int)), .v (.ifc 39 (.int .i64 e.2))]) : callF (cxZ m) (blk (cxZ m)) 8 [.v (.ifc 48 (.ptr id 0)), .v (.int .i64 (e.1 : Int)), .v (.int .i64 e.2)] h = some (.v (.bool true), h) := by
 refine callF_exr (e := isS) rfl rfl rfl rfl ?_
 unfold isS
 simp only [hb]
 simp
theorem qNil : qE m .nilI true := by
 show binF (Cx.P (cxZ m)) .eql 28 true .nilI .nilI = some (.bool true)
 kernel_rfl
theorem nNil : nE m .nilI false := by
 show binF (Cx.P (cxZ m)) .neq 28 true .nilI .nilI = some (.bool false)
 kernel_rfl
def exA : List Ins := [.mk 65 0 0 4294967295 0 [] [] [] false]
theorem up7 (h : Heap) : ∃ h', callF (cxZ m) (blk (cxZ m)) 4 [] h = some (.v (.bool true), h') := by
 have hp := put9 (m := m) (xs := exA) (by decide) (by decide) h
 have hm : putV exA = .tup [.imm (encBy [65, 127, 11]), .nilI] := by
  have h1 : mayL opI exA = true := by kernel_rfl
  have h2 : lstB opI exA = [65, 127] := by kernel_rfl
  unfold putV
  rw [if_pos h1, h2]
  rfl
 rw [hm] at hp
 obtain ⟨h', x, hc, _, _, hx⟩ := get12 (m := m) (bs := [67]) (p := 0) (by decide) (by decide) (by decide) h
 have he : pExpr opI floB [67] 0 = .error (0, 3) := by kernel_rfl
 rw [he] at hx
 obtain ⟨id, _, rfl, hb⟩ := hx
 exact ⟨h', callF_of rfl rfl (by kernel_rfl) (p7_0 (k0 := hp) (k1 := hc) (k2 := qNil) (k3 := rfl) (k4 := cv_by (by decide)) (k5 := by kernel_rfl) (k6 := told18 hb))⟩
end
end Go.Proofs.YthcjapmfchidhaaDoor
namespace Go.Proofs.YthcjapmfchidhaaDoor
set_option maxRecDepth 100000
open Go Go.Proofs.Am
section
variable {m : Int} {h : Heap} {o a b v t k : Int} {l : List Int} {bd el : List Ins} {q mb me : Bool}
end
end Go.Proofs.YthcjapmfchidhaaDoor
namespace Go.Proofs.YthcjapmfchidhaaDoor
set_option maxRecDepth 100000
open Go Go.Proofs.Am
section
variable {m : Int} {h : Heap} {o a b v t k : Int} {l : List Int} {bd el : List Ins} {q : Bool}
end
end Go.Proofs.YthcjapmfchidhaaDoor
namespace Go.Proofs.YthcjapmfchidhaaDoor
set_option maxRecDepth 100000
open Go Go.Proofs.Am
section
variable {m : Int}
end
end Go.Proofs.YthcjapmfchidhaaDoor
