/-
  The document's Check: the number that the program's Check tells.
-/
import Derived.Test.YtoblgjmllmomhaaGreatDoorAmSRm
import Derived.Test.YtoblgjmllmomhaaGreatDoorAmSRo
import Derived.Test.YtoblgjmllmomhaaGreatDoorAmSRwL
import Derived.Test.YtoblgjmllmomhaaGreatDoorAmRefF
namespace Go.Proofs.YtoblgjmllmomhaaGreatDoor
set_option maxRecDepth 100000
open Go Go.Proofs.Am
section
variable {m : Int} {h : Heap} {s : Scp}
def valB (t : Int) : Bool := !odd t
theorem val_Z (t : Int) : cA m 57 [vI t] h = some (.v (.bool (valB t)), h) := by
 unfold valB odd
 by_cases h1 : t = 1
 ·rw [show (!(decide (t ≠ 1) && decide (t ≠ 2))) = true by simp [h1]]
  exact cO (r57_0 (k0 := eqZ_t (b := Int.ofNat 1) h1))
 ·rw [show (!(decide (t ≠ 1) && decide (t ≠ 2))) = eqZ t (Int.ofNat 2) by
   by_cases h2 : t = 2
   ·rw [eqZ_t (b := Int.ofNat 2) h2]; simp [h2]
   ·rw [eqZ_f (b := Int.ofNat 2) h2]; simp [h1, h2]]
  exact cO (r57_1 (k0 := eqZ_f (b := Int.ofNat 1) h1))
def mayR (s : Scp) : Bool := (decide (0 <= s.re) && decide (s.re <= 2)) && s.lo.all valB && (s.gl.all fun g => valB g.t) && s.ty.all fun x => x.p.all valB && x.r.all valB
def C1 (k : Bool) (i : Int) (s : Scp) : List LV := .lp 0 0 :: .v (.bool k) :: .v (.int .i64 i) :: s.enc.map .v
def C2 (k : Bool) (i j : Int) (s : Scp) : List LV := .lp 0 0 :: .v (.bool k) :: .v (.int .i64 i) :: .v (.int .i64 j) :: s.enc.map .v
theorem lo_loop (hs : ScpLen (2 ^ 62) s) : ∀ (suf pre : List Int) (k : Bool) (r : LV × Heap), pre ++ suf = s.lo -> bA m 24 7 (C1 (k && suf.all valB) (Int.ofNat 0) s) h = some r ->
  bA m 24 3 (C1 k (pre.length : Int) s) h = some r
 | [], pre, k, r, hp, hr => by
  have := hs.lo
  rw [List.append_nil] at hp
  rw [List.all_nil, Bool.and_true] at hr
  exact r24_3_2 (k0 := ltZ_f (by rw [ofN, encN_len, ← hp]; omega)) (k1 := hr)
 | n :: suf, pre, k, r, hp, hr => by
  have := hs.lo
  have hlt : pre.length < s.lo.length := by rw [← hp]; simp
  have hg : s.lo[pre.length]? = some n := by rw [← hp, List.getElem?_append_right (Nat.le_refl _), Nat.sub_self]; rfl
  have k0 := ltZ_t (a := (pre.length : Int)) (b := Int.ofNat (encN s.lo).length) (by rw [ofN, encN_len]; omega)
  have k1 : ixA (.imm (encN s.lo)) (pre.length : Int) 1 = some [.int .i64 n] := ix_map (f := fun x : Int => [AV.int .i64 x]) hg rfl
  rw [List.all_cons] at hr
  have hp' : (pre ++ [n]) ++ suf = s.lo := by rw [List.append_assoc]; exact hp
  cases k with
  | false =>
   rw [Bool.false_and] at hr
   have ih := lo_loop hs suf (pre ++ [n]) false r hp' (by rw [Bool.false_and]; exact hr)
   refine r24_3_1 (k0 := k0) (k1 := rfl) (k2 := ?_)
   rw [wrap1 (by omega)]
   rw [List.length_append] at ih
   exact ih
  | true =>
   rw [Bool.true_and] at hr
   have ih := lo_loop hs suf (pre ++ [n]) (valB n) r hp' hr
   refine r24_3_0 (k0 := k0) (k1 := rfl) (k2 := k1) (k3 := val_Z n) (k4 := ?_)
   rw [wrap1 (by omega)]
   rw [List.length_append] at ih
   exact ih
theorem gl_loop (hs : ScpLen (2 ^ 62) s) : ∀ (suf pre : List Glo) (k : Bool) (r : LV × Heap), pre ++ suf = s.gl -> bA m 24 11 (C1 (k && suf.all fun g => valB g.t) (Int.ofNat 0) s) h = some r ->
  bA m 24 7 (C1 k (pre.length : Int) s) h = some r
 | [], pre, k, r, hp, hr => by
  have := hs.gl
  rw [List.append_nil] at hp
  rw [List.all_nil, Bool.and_true] at hr
  exact r24_7_2 (k0 := ltZ_f (by rw [ofN, List.length_map, ← hp]; omega)) (k1 := hr)
 | n :: suf, pre, k, r, hp, hr => by
  have := hs.gl
  have hlt : pre.length < s.gl.length := by rw [← hp]; simp
  have hg : s.gl[pre.length]? = some n := by rw [← hp, List.getElem?_append_right (Nat.le_refl _), Nat.sub_self]; rfl
  have k0 := ltZ_t (a := (pre.length : Int)) (b := Int.ofNat (s.gl.map Glo.enc).length) (by rw [ofN, List.length_map]; omega)
  have k1 : ixA (.imm (s.gl.map Glo.enc)) (pre.length : Int) 11 = some n.enc := ix_map (f := Glo.enc) hg n.enc_len
  rw [List.all_cons] at hr
  have hp' : (pre ++ [n]) ++ suf = s.gl := by rw [List.append_assoc]; exact hp
  cases k with
  | false =>
   rw [Bool.false_and] at hr
   have ih := gl_loop hs suf (pre ++ [n]) false r hp' (by rw [Bool.false_and]; exact hr)
   refine r24_7_1 (k0 := k0) (k1 := rfl) (k2 := ?_)
   rw [wrap1 (by omega)]
   rw [List.length_append] at ih
   exact ih
  | true =>
   rw [Bool.true_and] at hr
   have ih := gl_loop hs suf (pre ++ [n]) (valB n.t) r hp' hr
   obtain ⟨nt, nm, ni⟩ := n
   obtain ⟨io, ia, ib, iv, it, il, ibd, iel, iq⟩ := ni
   refine r24_7_0 (k0 := k0) (k1 := rfl) (k2 := k1) (k3 := val_Z nt) (k4 := ?_)
   rw [wrap1 (by omega)]
   rw [List.length_append] at ih
   exact ih
theorem p_loop {x : FTy} {i : Int} (hx : ixA (.imm (s.ty.map FTy.enc)) i 2 = some [.imm (encN x.p), .imm (encN x.r)]) (hl : x.p.length < 2 ^ 62) : ∀ (suf pre : List Int) (k : Bool) (r : LV × Heap), pre ++ suf = x.p -> bA m 24 18 (C2 (k && suf.all valB) i (Int.ofNat 0) s) h = some r ->
  bA m 24 14 (C2 k i (pre.length : Int) s) h = some r
 | [], pre, k, r, hp, hr => by
  rw [List.append_nil] at hp
  rw [List.all_nil, Bool.and_true] at hr
  exact r24_14_2 (k0 := hx) (k1 := ltZ_f (by rw [ofN, encN_len, ← hp]; omega)) (k2 := hr)
 | n :: suf, pre, k, r, hp, hr => by
  have hlt : pre.length < x.p.length := by rw [← hp]; simp
  have hg : x.p[pre.length]? = some n := by rw [← hp, List.getElem?_append_right (Nat.le_refl _), Nat.sub_self]; rfl
  have k0 := ltZ_t (a := (pre.length : Int)) (b := Int.ofNat (encN x.p).length) (by rw [ofN, encN_len]; omega)
  have k1 : ixA (.imm (encN x.p)) (pre.length : Int) 1 = some [.int .i64 n] := ix_map (f := fun x : Int => [AV.int .i64 x]) hg rfl
  rw [List.all_cons] at hr
  have hp' : (pre ++ [n]) ++ suf = x.p := by rw [List.append_assoc]; exact hp
  cases k with
  | false =>
   rw [Bool.false_and] at hr
   have ih := p_loop hx hl suf (pre ++ [n]) false r hp' (by rw [Bool.false_and]; exact hr)
   refine r24_14_1 (k0 := hx) (k1 := k0) (k2 := rfl) (k3 := ?_)
   rw [wrap1 (by omega)]
   rw [List.length_append] at ih
   exact ih
  | true =>
   rw [Bool.true_and] at hr
   have ih := p_loop hx hl suf (pre ++ [n]) (valB n) r hp' hr
   refine r24_14_0 (k0 := hx) (k1 := k0) (k2 := rfl) (k3 := hx) (k4 := k1) (k5 := val_Z n) (k6 := ?_)
   rw [wrap1 (by omega)]
   rw [List.length_append] at ih
   exact ih
theorem r_loop {x : FTy} {i : Nat} (hi : i < 2 ^ 62) (hx : ixA (.imm (s.ty.map FTy.enc)) (i : Int) 2 = some [.imm (encN x.p), .imm (encN x.r)]) (hl : x.r.length < 2 ^ 62) : ∀ (suf pre : List Int) (k : Bool) (r : LV × Heap), pre ++ suf = x.r -> bA m 24 11 (C1 (k && suf.all valB) ((i + 1 : Nat) : Int) s) h = some r ->
  bA m 24 18 (C2 k (i : Int) (pre.length : Int) s) h = some r
 | [], pre, k, r, hp, hr => by
  rw [List.append_nil] at hp
  rw [List.all_nil, Bool.and_true] at hr
  refine r24_18_2 (k0 := hx) (k1 := ltZ_f (by rw [ofN, encN_len, ← hp]; omega)) (k2 := ?_)
  rw [wrap1 hi]
  exact hr
 | n :: suf, pre, k, r, hp, hr => by
  have hlt : pre.length < x.r.length := by rw [← hp]; simp
  have hg : x.r[pre.length]? = some n := by rw [← hp, List.getElem?_append_right (Nat.le_refl _), Nat.sub_self]; rfl
  have k0 := ltZ_t (a := (pre.length : Int)) (b := Int.ofNat (encN x.r).length) (by rw [ofN, encN_len]; omega)
  have k1 : ixA (.imm (encN x.r)) (pre.length : Int) 1 = some [.int .i64 n] := ix_map (f := fun x : Int => [AV.int .i64 x]) hg rfl
  rw [List.all_cons] at hr
  have hp' : (pre ++ [n]) ++ suf = x.r := by rw [List.append_assoc]; exact hp
  cases k with
  | false =>
   rw [Bool.false_and] at hr
   have ih := r_loop hi hx hl suf (pre ++ [n]) false r hp' (by rw [Bool.false_and]; exact hr)
   refine r24_18_1 (k0 := hx) (k1 := k0) (k2 := rfl) (k3 := ?_)
   rw [wrap1 (by omega)]
   rw [List.length_append] at ih
   exact ih
  | true =>
   rw [Bool.true_and] at hr
   have ih := r_loop hi hx hl suf (pre ++ [n]) (valB n) r hp' hr
   refine r24_18_0 (k0 := hx) (k1 := k0) (k2 := rfl) (k3 := hx) (k4 := k1) (k5 := val_Z n) (k6 := ?_)
   rw [wrap1 (by omega)]
   rw [List.length_append] at ih
   exact ih
theorem ty_loop (hs : ScpLen (2 ^ 62) s) : ∀ (suf pre : List FTy) (k : Bool), pre ++ suf = s.ty ->
  bA m 24 11 (C1 k (pre.length : Int) s) h = some (.v (.bool (k && suf.all fun x => x.p.all valB && x.r.all valB)), h)
 | [], pre, k, hp => by
  have := hs.ty
  rw [List.append_nil] at hp
  rw [List.all_nil, Bool.and_true]
  exact r24_11_1 (k0 := ltZ_f (by rw [ofN, List.length_map, ← hp]; omega))
 | x :: suf, pre, k, hp => by
  have := hs.ty
  have hlt : pre.length < s.ty.length := by rw [← hp]; simp
  have hg : s.ty[pre.length]? = some x := by rw [← hp, List.getElem?_append_right (Nat.le_refl _), Nat.sub_self]; rfl
  have k0 := ltZ_t (a := (pre.length : Int)) (b := Int.ofNat (s.ty.map FTy.enc).length) (by rw [ofN, List.length_map]; omega)
  have hx : ixA (.imm (s.ty.map FTy.enc)) (pre.length : Int) 2 = some [.imm (encN x.p), .imm (encN x.r)] := ix_map (f := FTy.enc) hg rfl
  have hl := hs.tl x (List.mem_of_getElem? hg)
  have ih := ty_loop hs suf (pre ++ [x]) (k && x.p.all valB && x.r.all valB) (by rw [List.append_assoc]; exact hp)
  rw [List.length_append] at ih
  have h1 := r_loop (m := m) (h := h) (s := s) (by omega) hx hl.2 x.r [] (k && x.p.all valB) _ rfl ih
  have h2 := p_loop (m := m) (h := h) (s := s) hx hl.1 x.p [] k _ rfl h1
  rw [List.all_cons]
  have e : (k && (x.p.all valB && x.r.all valB && suf.all fun x => x.p.all valB && x.r.all valB)) = (k && x.p.all valB && x.r.all valB && suf.all fun x => x.p.all valB && x.r.all valB) := by
   simp only [Bool.and_assoc]
  rw [e]
  exact r24_11_0 (k0 := k0) (k1 := h2)
theorem may13_Z (hs : ScpLen (2 ^ 62) s) : cA m 24 [.v (.agg s.enc)] h = some (.v (.bool (mayR s)), h) := by
 have key : ∀ k : Bool, bA m 24 3 (C1 k (Int.ofNat 0) s) h = some (.v (.bool (k && s.lo.all valB && (s.gl.all fun g => valB g.t) && s.ty.all fun x => x.p.all valB && x.r.all valB)), h) := fun k =>
  lo_loop hs s.lo [] k _ rfl (gl_loop hs s.gl [] (k && s.lo.all valB) _ rfl (ty_loop hs s.ty [] _ rfl))
 unfold mayR
 by_cases h0 : 0 <= s.re
 ·rw [decide_eq_true h0, Bool.true_and, ← leZ_eq]
  exact cO (r24_0 (k0 := leZ_t (a := Int.ofNat 0) h0) (k1 := key _))
 ·rw [decide_eq_false h0, Bool.false_and]
  exact cO (r24_1 (k0 := leZ_f (a := Int.ofNat 0) (by rw [ofN]; omega)) (k1 := key _))
theorem any_not {A : Type} (l : List A) (f : A -> Bool) : (!(l.any f)) = l.all fun x => !f x := by
 induction l with
 | nil => rfl
 | cons x l ih => rw [List.any_cons, List.all_cons, ← ih, Bool.not_or]
theorem mayR_eq (s : Scp) : mayR s = mayS s := by
 unfold mayR mayS valB
 rw [any_not, any_not, any_not]
 have e : (s.ty.all fun x => !(x.p.any odd || x.r.any odd)) = s.ty.all fun x => (x.p.all fun t => !odd t) && (x.r.all fun t => !odd t) := by
  congr 1
  funext x
  rw [Bool.not_or, any_not, any_not]
 rw [e]
 simp only [Bool.and_comm, Bool.and_left_comm, Bool.and_assoc]
theorem opT : OpT opI where
 ks := fun o r h => by
  rcases op_row o with ⟨hn, _⟩ | ⟨r', x, hr, hq⟩
  ·rw [h] at hn; cases hn
  ·rw [h] at hr; cases hr; exact hq.ks
 tk := fun o r h t ht => by
  rcases op_row o with ⟨hn, _⟩ | ⟨r', x, hr, hq⟩
  ·rw [h] at hn; cases hn
  ·rw [h] at hr; cases hr
   rw [← hq.tk] at ht
   obtain ⟨n, hn, rfl⟩ := List.mem_map.1 ht
   have := (hq.t2 n hn).1
   show (0 : Int) < (n : Int)
   omega
 gv := fun o r h => by
  rcases op_row o with ⟨hn, _⟩ | ⟨r', x, hr, hq⟩
  ·rw [h] at hn; cases hn
  ·rw [h] at hr; cases hr
   have := hq.gv
   omega
 by8 := fun o r h => by
  rcases op_row o with ⟨hn, _⟩ | ⟨r', x, hr, hq⟩
  ·rw [h] at hn; cases hn
  ·rw [h] at hr; cases hr
   have := hq.y
   have := hq.y8
   omega
theorem odd_pos {t : Int} (h : odd t = false) : 0 < t := by
 unfold odd at h
 simp at h
 by_cases h1 : t = 1
 ·omega
 ·have := h h1; omega
theorem sok (h : mayS s = true) : SOk s := by
 unfold mayS at h
 simp only [Bool.and_eq_true, Bool.not_eq_true', decide_eq_true_eq, List.any_eq_false] at h
 obtain ⟨⟨⟨⟨h1, h2⟩, h3⟩, h4⟩, _⟩ := h
 refine ⟨fun x hx => ?_, fun t ht => ?_, fun g hg => ?_, h4⟩
 ·have := h1 x hx
  simp only [Bool.or_eq_true, not_or, Bool.not_eq_true, List.any_eq_false] at this
  exact ⟨fun t ht => odd_pos (by simpa using this.1 t ht), fun t ht => odd_pos (by simpa using this.2 t ht)⟩
 ·exact odd_pos (by simpa using h3 t ht)
 ·exact odd_pos (by simpa using h2 g hg)
theorem check13_Z {R : Nat} {xs : List Ins} (hR : TyLen R s) (hs : ScpLen (2 ^ 62) s) (hx : (R + 6) * cL xs + 4 < 2 ^ 41) (h : Heap) :
  ∃ h' c, cA m 12 [.v (.agg s.enc), vM (encIs xs)] h = some (.v (.int .i64 c), h') /\ ((c = 0 /\ checkP s xs = none) ∨ ((c = 1 ∨ c = 4 ∨ c = 5) /\ checkP s xs = some c)) := by
 have h2 : cL xs <= (R + 6) * cL xs := Nat.le_mul_of_pos_left _ (by omega)
 have c1 := may5 (m := m) (xs := xs) (by omega) h
 have c2 := may13_Z (m := m) (h := h) hs
 rw [mayR_eq] at c2
 unfold checkP
 cases q1 : mayL opI xs with
 | false =>
  rw [q1] at c1
  exact ⟨h, 1, cO (r12_0 (k0 := c1) (k1 := rfl)), .inr ⟨.inl rfl, if_neg (by simp)⟩⟩
 | true =>
  rw [q1] at c1
  cases q2 : mayS s with
  | false =>
   rw [q2] at c2
   exact ⟨h, 1, cO (r12_1 (k0 := c1) (k1 := rfl) (k2 := c2) (k3 := rfl)), .inr ⟨.inl rfl, if_neg (by simp)⟩⟩
  | true =>
   rw [q2] at c2
   rw [if_pos (show (true && true) = true from rfl)]
   let h0 : Heap := { bx := h.bx ++ [[vM (s.ty.map FTy.enc), vM (encN s.fn), vM (s.gl.map Glo.enc), .v (.bool s.tb), .v (.bool s.mm), vM (encN s.lo), .v (.int .i64 s.re), .v (.imm []), .v (.imm []), vI (Int.ofNat 0)]], mp := h.mp }
   have H0 : Q s h.bx.length h0 ⟨[], [], 0⟩ := ⟨.imm [], by
    show (h.bx ++ _)[h.bx.length]? = _
    rw [List.getElem?_append_right (Nat.le_refl _), Nat.sub_self]
    rfl, .inl ⟨rfl, .inr rfl⟩⟩
   have I0 : RM0 0 ⟨[], [], 0⟩ := ⟨by simp, by simp, Nat.le_refl _, Nat.le_refl _⟩
   obtain ⟨h3, c3, H3⟩ := code_Q (m := m) (loopQ (m := m) (s := s) (L := h.bx.length) hR xs) q1 s.re s.re I0 (by omega) H0
   have l9 := ld9b H3
   have hsc := same_check (sok q2) opT q1
   refine ⟨h3, _, cO (r12_2 (k0 := c1) (k1 := rfl) (k2 := c2) (k3 := rfl) (k4 := c3) (k5 := l9)), ?_⟩
   rcases hsc with ⟨e1, e2⟩ | ⟨c, hc, e1, e2⟩
   ·rw [e1]
    exact .inl ⟨rfl, e2⟩
   ·rw [e1]
    exact .inr ⟨.inr hc, e2⟩
theorem qE_n : qE m .nilI true := by
 show binF (Cx.P (cxZ m)) BinOp.eql 33 true .nilI .nilI = some (.bool true)
 kernel_rfl
theorem qE_c (c : Int) : qE m (.ifc 56 (.int .i64 c)) false := by
 show binF (Cx.P (cxZ m)) BinOp.eql 33 true (.ifc 56 (.int .i64 c)) .nilI = some (.bool false)
 kernel_rfl
theorem num_0 : cA m 11 [.v .nilI] h = some (.v (.int .i64 (Int.ofNat 0)), h) := cO (r11_0 (k0 := qE_n) (k1 := rfl))
theorem num_c {c : Nat} (hc : c = 1 ∨ c = 4 ∨ c = 5) : cA m 11 [.v (.ifc 56 (.int .i64 (c : Int)))] h = some (.v (.int .i64 (c : Int)), h) := by
 refine cO (r11_1 (k0 := qE_c _) (k1 := rfl) (k2 := ?_))
 rcases hc with rfl | rfl | rfl
 ·exact r11_4_0 (k0 := rfl) (k1 := by kernel_rfl) (k2 := rfl)
 ·exact r11_4_1 (k0 := rfl) (k1 := by kernel_rfl) (k2 := rfl) (k3 := r11_4_1 (k0 := rfl) (k1 := by kernel_rfl) (k2 := rfl) (k3 := r11_4_1 (k0 := rfl) (k1 := by kernel_rfl) (k2 := rfl) (k3 := r11_4_0 (k0 := rfl) (k1 := by kernel_rfl) (k2 := rfl))))
 ·exact r11_4_1 (k0 := rfl) (k1 := by kernel_rfl) (k2 := rfl) (k3 := r11_4_1 (k0 := rfl) (k1 := by kernel_rfl) (k2 := rfl) (k3 := r11_4_1 (k0 := rfl) (k1 := by kernel_rfl) (k2 := rfl) (k3 := r11_4_1 (k0 := rfl) (k1 := by kernel_rfl) (k2 := rfl) (k3 := r11_4_0 (k0 := rfl) (k1 := by kernel_rfl) (k2 := rfl)))))
end
end Go.Proofs.YtoblgjmllmomhaaGreatDoor
