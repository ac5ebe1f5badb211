/-
  The document's state in the heap: any code, gone through.
-/
import Derived.Test.YtoblgjmllmomhaaGreatDoorAmSRl
import Derived.Test.YtoblgjmllmomhaaGreatDoorAmS15q
namespace Go.Proofs.YtoblgjmllmomhaaGreatDoor
set_option maxRecDepth 100000
open Go Go.Proofs.Am
section
variable {m : Int} {s : Scp} {L R : Nat}
def LoopQ (m : Int) (s : Scp) (L R : Nat) (xs : List Ins) : Prop := mayL opI xs = true -> ∀ (pre : List Ins) (re : Int) (fr : Nat) ⦃h : Heap⦄ ⦃ρ : RS⦄ ⦃N : Nat⦄, (pre ++ xs).length < 2 ^ 40 -> RM N ρ -> N + (R + 6) * cL xs + 1 < 2 ^ 41 -> Q s L h ρ ->
 ∃ h', bA m 25 4 [vP L 0, .v (.imm (encIs (pre ++ xs))), vI re, vI (fr : Int), vI (Int.ofNat pre.length)] h = some (.tup [], h') /\ Q s L h' (RS.runL opI s xs re fr ρ)
def InstrQ (m : Int) (s : Scp) (L R : Nat) (x : Ins) : Prop := mayI opI x = true -> ∀ ⦃h : Heap⦄ ⦃ρ : RS⦄ ⦃N : Nat⦄, RM N ρ -> N + (R + 6) * cI x < 2 ^ 41 -> Q s L h ρ ->
 ∃ h', cA m 58 [vP L 0, .v (.agg (encI x))] h = some (.tup [], h') /\ Q s L h' (RS.instr opI s x ρ)
theorem code_Q {xs : List Ins} (hl : LoopQ m s L R xs) (hm : mayL opI xs = true) (la re : Int) {h : Heap} {ρ : RS} {N : Nat} (I : RM0 N ρ) (hN : N + 1 + (R + 6) * cL xs + 1 < 2 ^ 41) (H : Q s L h ρ) :
  ∃ h', cA m 25 [vP L 0, vM (encIs xs), vI la, vI re] h = some (.tup [], h') /\ Q s L h' (RS.code opI s xs la re ρ) := by
 have hc : cL xs <= (R + 6) * cL xs := Nat.le_mul_of_pos_left _ (by omega)
 have hc6 : 6 * cL xs <= (R + 6) * cL xs := Nat.mul_le_mul_right _ (by omega)
 have hlen := cL_len xs
 unfold RS.code
 by_cases hb : ρ.bad ≠ 0
 ·rw [if_pos hb]
  obtain ⟨pb, H⟩ := H
  exact ⟨h, cO (r25_0 (k0 := H.ld9) (k1 := ntT hb)), pb, H⟩
 ·rw [if_neg hb]
  have hb0 := Decidable.not_not.1 hb
  have hbz := I.bz
  have key : ∀ h1, Q s L h1 (ρ.opn la) -> ∃ h', bA m 25 4 [vP L 0, vM (encIs xs), vI re, vI (ρ.row.length : Int), vI (Int.ofNat 0)] h1 = some (.tup [], h') /\ Q s L h' (RS.runL opI s xs re ρ.row.length (ρ.opn la)) := fun h1 H1 =>
   hl hm [] re ρ.row.length (by simpa using (by omega : xs.length < 2 ^ 40)) (I.opn la) (by omega) H1
  exact opn_ex H hb0 (by omega) key
theorem loopQ_nil : LoopQ m s L R [] := by
 intro _ pre re fr h ρ N hl I hN H
 rw [RS.runL]
 have hi : ((encIs (pre ++ [])).length : Int) <= Int.ofNat pre.length := by rw [encIs_len, List.append_nil]; exact Int.le_refl _
 by_cases hb : ρ.bad ≠ 0
 ·rw [if_pos hb]
  obtain ⟨pb, H⟩ := H
  exact ⟨h, r25_4_8 (k0 := ltZ_f (a := Int.ofNat pre.length) (b := Int.ofNat (encIs (pre ++ [])).length) hi) (k1 := H.ld9) (k2 := ntT hb), pb, H⟩
 ·rw [if_neg hb]
  exact fin_Q H (Decidable.not_not.1 hb) I (by omega) hi
theorem loopQ_cons (hR : TyLen R s) {x : Ins} {xs : List Ins} (hx : InstrQ m s L R x) (hxs : LoopQ m s L R xs) : LoopQ m s L R (x :: xs) := by
 intro hm pre re fr h ρ N hl I hN H
 rw [mayL, Bool.and_eq_true] at hm
 have hc : (R + 6) * cL (x :: xs) = (R + 6) * cI x + (R + 6) * cL xs := by rw [cL, Nat.mul_add]
 have hlen : (pre ++ x :: xs).length = pre.length + xs.length + 1 := by simp; omega
 have hget : (pre ++ x :: xs)[pre.length]? = some x := by simp
 have hix : ixA (.imm (encIs (pre ++ x :: xs))) (Int.ofNat pre.length) 9 = some (encI x) := by
  rw [encIs_map]
  exact ix_map (f := encI) hget (encI_len x)
 have k0 : ltZ (Int.ofNat pre.length) (Int.ofNat (encIs (pre ++ x :: xs)).length) = true := ltZ_t (by rw [encIs_len, ofN, ofN]; omega)
 rw [RS.runL]
 by_cases hb : ρ.bad ≠ 0
 ·rw [if_pos hb]
  obtain ⟨pb, H⟩ := H
  exact ⟨h, r25_4_1 (k0 := k0) (k1 := H.ld9) (k2 := eqZ_f hb) (k3 := H.ld9) (k4 := ntT hb), pb, H⟩
 ·rw [if_neg hb]
  have hb0 := Decidable.not_not.1 hb
  obtain ⟨h1, c1, H1⟩ := hx hm.1 I (by omega) H
  have hR' : ∀ y, y ∈ s.ty -> y.r.length <= R := fun y hy => (hR y hy).2
  have I1 := (gr_instr (OP := opI) hR' x N ρ I).1
  obtain ⟨h2, c2, H2⟩ := hxs hm.2 (pre ++ [x]) re fr (by simp; omega) I1 (by omega) H1
  obtain ⟨pb, H⟩ := H
  refine ⟨h2, ?_, H2⟩
  rw [show (pre ++ [x]) ++ xs = pre ++ x :: xs by simp, List.length_append] at c2
  cases x
  refine r25_4_0 (k0 := k0) (k1 := H.ld9) (k2 := eqZ_t hb0) (k3 := hix) (k4 := c1) (k5 := ?_)
  rw [ofN, wrap1 (by omega)]
  exact c2
theorem ld9b {h : Heap} {ρ : RS} (H : Q s L h ρ) : ldP h (.ptr L 9) 1 false = some (.int .i64 ρ.bad) := by
 obtain ⟨pb, H⟩ := H
 exact H.ld9
theorem block_Q {o a b v t : Int} {l : List (List AV)} {bd el : List Ins} {q : Bool} (hR : TyLen R s) (hb : LoopQ m s L R bd) (hl : LoopQ m s L R el) (mb : mayL opI bd = true) (ml : mayL opI el = true) {h : Heap} {ρ : RS} {N : Nat} (I : RM N ρ)
  (hN : N + (R + 6) * cL bd + (R + 6) * cL el + 5 < 2 ^ 41) (H : Q s L h ρ) :
  ∃ h', cA m 99 [vP L 0, .v (.agg [.int .i64 o, .int .i64 a, .int .i64 b, .int .u64 v, .int .i64 t, .imm l, .imm (encIs bd), .imm (encIs el), .bool q])] h = some (.tup [], h') /\ Q s L h' (ρ.block opI s o t bd el q) := by
 have hR' : ∀ y, y ∈ s.ty -> y.r.length <= R := fun y hy => (hR y hy).2
 have gb := gr_runL (OP := opI) hR' bd
 unfold RS.block
 by_cases h3 : o = 3
 ·rw [if_pos h3]
  obtain ⟨h1, c1, H1⟩ := code_Q (m := m) hb mb 0 t I.toRM0 (by omega) H
  exact ⟨h1, cO (r99_0 (k0 := eqZ_t (b := Int.ofNat 3) h3) (k1 := c1)), H1⟩
 ·rw [if_neg h3]
  have n3 := eqZ_f (b := Int.ofNat 3) h3
  have IA := (gr_ahead o t q N ρ I).1
  have tail : ∀ {h1 : Heap}, Q s L h1 (ρ.ahead o t q) -> ∃ h2, cA m 25 [vP L 0, vM (encIs bd), vI t, vI t] h1 = some (.tup [], h2) /\
    ((q = false /\ Q s L h2 (if q = true /\ (RS.code opI s bd t t (ρ.ahead o t q)).bad = 0 then RS.code opI s el t t ((RS.code opI s bd t t (ρ.ahead o t q)).want t) else RS.code opI s bd t t (ρ.ahead o t q))) ∨
     (∃ i : Int, ldP h2 (.ptr L 9) 1 false = some (.int .i64 i) /\ q = true /\ i ≠ 0 /\ Q s L h2 (if q = true /\ (RS.code opI s bd t t (ρ.ahead o t q)).bad = 0 then RS.code opI s el t t ((RS.code opI s bd t t (ρ.ahead o t q)).want t) else RS.code opI s bd t t (ρ.ahead o t q))) ∨
     (∃ (i : Int) (h3 h4 : Heap), ldP h2 (.ptr L 9) 1 false = some (.int .i64 i) /\ q = true /\ i = 0 /\ cA m 59 [vP L 0, vI t] h2 = some (.tup [], h3) /\
      cA m 25 [vP L 0, vM (encIs el), vI t, vI t] h3 = some (.tup [], h4) /\ Q s L h4 (if q = true /\ (RS.code opI s bd t t (ρ.ahead o t q)).bad = 0 then RS.code opI s el t t ((RS.code opI s bd t t (ρ.ahead o t q)).want t) else RS.code opI s bd t t (ρ.ahead o t q)))) := by
   intro h1 H1
   obtain ⟨h2, c2, H2⟩ := code_Q (m := m) hb mb t t IA.toRM0 (by omega) H1
   have I2 := (gr_codeM gb t t N _ IA).1
   refine ⟨h2, c2, ?_⟩
   cases hq : q with
   | false =>
    left
    rw [hq] at H2
    rw [if_neg (by simp)]
    exact ⟨rfl, H2⟩
   | true =>
    right
    rw [hq] at H2 I2
    have hl9 := ld9b H2
    by_cases hbad : (RS.code opI s bd t t (ρ.ahead o t true)).bad = 0
    ·right
     rw [if_pos ⟨rfl, hbad⟩]
     obtain ⟨h3', c3, H3⟩ := want_Q (m := m) H2 I2 (by omega) t
     obtain ⟨h4, c4, H4⟩ := code_Q (m := m) hl ml t t (I2.want t).1.toRM0 (by omega) H3
     exact ⟨_, h3', h4, hl9, rfl, hbad, c3, c4, H4⟩
    ·left
     rw [if_neg (fun hc => hbad hc.2)]
     exact ⟨_, hl9, rfl, hbad, H2⟩
  by_cases h4 : o = 4
  ·have y4 := eqZ_t (b := Int.ofNat 4) h4
   obtain ⟨h1, c1, H1⟩ := want_Q (m := m) H I (by omega) 1
   by_cases hqt : q = false /\ t ≠ 0
   ·have ha : ρ.ahead o t q = (ρ.want 1).amiss 4 := by unfold RS.ahead; rw [if_pos h4, if_pos hqt]
    obtain ⟨h2, c2, H2⟩ := amiss_Q (m := m) H1 4
    rw [← ha] at H2
    obtain ⟨h3, c3, ht⟩ := tail H2
    have kq : (!q) = true := by rw [hqt.1]; rfl
    rcases ht with ⟨hq, H3⟩ | ⟨i, hi, hq, hz, H3⟩ | ⟨i, h5, h6, hi, hq, hz, c5, c6, H6⟩
    ·exact ⟨h3, cO (r99_3 (k0 := n3) (k1 := y4) (k2 := c1) (k3 := kq) (k4 := ntT hqt.2) (k5 := c2) (k6 := c3) (k7 := hq)), H3⟩
    ·rw [hqt.1] at hq; cases hq
    ·rw [hqt.1] at hq; cases hq
   ·have ha : ρ.ahead o t q = ρ.want 1 := by unfold RS.ahead; rw [if_pos h4, if_neg hqt]
    rw [← ha] at H1
    obtain ⟨h3, c3, ht⟩ := tail H1
    rcases ht with ⟨hq, H3⟩ | ⟨i, hi, hq, hz, H3⟩ | ⟨i, h5, h6, hi, hq, hz, c5, c6, H6⟩
    ·have ht0 : t = 0 := Decidable.not_not.1 fun hne => hqt ⟨hq, hne⟩
     exact ⟨h3, cO (r99_6 (k0 := n3) (k1 := y4) (k2 := c1) (k3 := by rw [hq]; rfl) (k4 := ntF ht0) (k5 := c3) (k6 := hq)), H3⟩
    ·exact ⟨h3, cO (r99_8 (k0 := n3) (k1 := y4) (k2 := c1) (k3 := by rw [hq]; rfl) (k4 := c3) (k5 := hq) (k6 := hi) (k7 := eqZ_f hz)), H3⟩
    ·exact ⟨h6, cO (r99_7 (k0 := n3) (k1 := y4) (k2 := c1) (k3 := by rw [hq]; rfl) (k4 := c3) (k5 := hq) (k6 := hi) (k7 := eqZ_t hz) (k8 := c5) (k9 := c6)), H6⟩
  ·have n4 := eqZ_f (b := Int.ofNat 4) h4
   have ha : ρ.ahead o t q = ρ := by unfold RS.ahead; rw [if_neg h4]
   have H1 := H
   rw [← ha] at H1
   obtain ⟨h3, c3, ht⟩ := tail H1
   rcases ht with ⟨hq, H3⟩ | ⟨i, hi, hq, hz, H3⟩ | ⟨i, h5, h6, hi, hq, hz, c5, c6, H6⟩
   ·exact ⟨h3, cO (r99_12 (k0 := n3) (k1 := n4) (k2 := c3) (k3 := hq)), H3⟩
   ·exact ⟨h3, cO (r99_11 (k0 := n3) (k1 := n4) (k2 := c3) (k3 := hq) (k4 := hi) (k5 := eqZ_f hz)), H3⟩
   ·exact ⟨h6, cO (r99_10 (k0 := n3) (k1 := n4) (k2 := c3) (k3 := hq) (k4 := hi) (k5 := eqZ_t hz) (k6 := c5) (k7 := c6)), H6⟩
theorem instrQ_of (hR : TyLen R s) {o a b v t : Int} {l : List Int} {bd el : List Ins} {q : Bool} (hb : LoopQ m s L R bd) (hl : LoopQ m s L R el) : InstrQ m s L R (.mk o a b v t l bd el q) := by
 intro hm h ρ N I hN H
 have hc2 : (R + 6) * cI (.mk o a b v t l bd el q) = (R + 6) + (R + 6) * l.length + (R + 6) * cL bd + (R + 6) * cL el := by rw [cI, Nat.mul_add, Nat.mul_add, Nat.mul_add, Nat.mul_one]
 have hl6 : 6 * l.length <= (R + 6) * l.length := Nat.mul_le_mul_right _ (by omega)
 unfold mayI at hm
 rcases op_row o with ⟨hop, _⟩ | ⟨r, x, hop, hq⟩
 ·rw [hop] at hm; cases hm
 ·rw [hop] at hm
  simp only at hm
  rw [instrR_some hop]
  have f := op_facts hop
  by_cases h2 : r.kind = 2
  ·rw [if_pos h2] at hm
   rw [if_pos h2]
   simp only [Bool.and_eq_true] at hm
   obtain ⟨h1, c1, H1⟩ := block_Q (m := m) (o := o) (a := a) (b := b) (v := v) (t := t) (l := encN l) (q := q) hR hb hl hm.1.1.1.1.2 hm.1.1.1.2 I (by omega) H
   have k0 : cA m 97 [vI o] h = some (.v (.int .i64 r.kind), h) := by rw [← kind_some hq]; exact kind_Q o
   exact ⟨h1, cO (r58_0 (k0 := k0) (k1 := eqZ_t (b := Int.ofNat 2) h2) (k2 := c1)), H1⟩
  ·rw [if_neg h2] at hm
   rw [if_neg h2]
   rw [Bool.and_eq_true] at hm
   exact one_Q hR hq h2 f hm.1 H I (by omega) (by omega)
mutual
theorem instrQ (hR : TyLen R s) : ∀ x : Ins, InstrQ m s L R x
 | .mk _ _ _ _ _ _ bd el _ => instrQ_of hR (loopQ hR bd) (loopQ hR el)
theorem loopQ (hR : TyLen R s) : ∀ xs : List Ins, LoopQ m s L R xs
 | [] => loopQ_nil
 | x :: xs => loopQ_cons hR (instrQ hR x) (loopQ hR xs)
end
end
end Go.Proofs.YtoblgjmllmomhaaGreatDoor
