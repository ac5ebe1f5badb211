/-
  The document's state in the heap: calls, tables of labels, blocks' beginnings.
-/
import Derived.Test.YtoblgjmllmomhaaGreatDoorAmSRwB
import Derived.Test.YtoblgjmllmomhaaGreatDoorAmMod
import Derived.Test.YtoblgjmllmomhaaGreatDoorAmRefC
import Derived.Test.YtoblgjmllmomhaaGreatDoorAmS15m
namespace Go.Proofs.YtoblgjmllmomhaaGreatDoor
set_option maxRecDepth 100000
open Go Go.Proofs.Am
def encR (b : RBk) : List AV := [.int .i64 b.lab, .int .i64 b.ht, .bool b.nv]
def stC (s : Scp) (row : List Int) (pb : AV) (bad : Int) : List LV := s.enc.map .v ++ [vM (encN row), .v pb, vI bad]
def Bs (h : Heap) (L : Nat) (l : List RBk) (pb : AV) : Prop :=
 (l = [] /\ (pb = .nilE ∨ pb = .imm [])) ∨ ∃ id, l ≠ [] /\ pb = .arr 3 id 0 l.length /\ id ≠ L /\ Sl h 3 (l.map encR) (some id) pb
structure QR (s : Scp) (L : Nat) (h : Heap) (pb : AV) (ρ : RS) : Prop where
 lk : h.bx[L]? = some (stC s ρ.row pb ρ.bad)
 bl : Bs h L ρ.blk pb
def Q (s : Scp) (L : Nat) (h : Heap) (ρ : RS) : Prop := ∃ pb, QR s L h pb ρ
theorem ntT {a b : Int} (h : a ≠ b) : (!eqZ a b) = true := by rw [eqZ_f h]; rfl
theorem ntF {a b : Int} (h : a = b) : (!eqZ a b) = false := by rw [eqZ_t h]; rfl
theorem encR_el (l : List RBk) : ∀ x, x ∈ l.map encR -> x.length = 3 := by
 intro x hx
 obtain ⟨z, _, rfl⟩ := List.mem_map.1 hx
 rfl
section
variable {m : Int} {s : Scp} {L : Nat} {h : Heap} {pb : AV} {ρ : RS} {N : Nat}
theorem QR.ld (H : QR s L h pb ρ) {k : Nat} {a : AV} (hk : (stC s ρ.row pb ρ.bad)[k]? = some (.v a)) : ldP h (.ptr L k) 1 false = some a := ldP_at H.lk hk
theorem QR.ld7 (H : QR s L h pb ρ) : ldP h (.ptr L 7) 1 false = some (.imm (encN ρ.row)) := H.ld rfl
theorem QR.ld8 (H : QR s L h pb ρ) : ldP h (.ptr L 8) 1 false = some pb := H.ld rfl
theorem QR.ld9 (H : QR s L h pb ρ) : ldP h (.ptr L 9) 1 false = some (.int .i64 ρ.bad) := H.ld rfl
theorem Q.ldS (H : Q s L h ρ) {k : Nat} {a : AV} (hk : s.enc[k]? = some a) : ldP h (.ptr L k) 1 false = some a := by
 obtain ⟨pb, H⟩ := H
 refine H.ld ?_
 unfold stC
 have hl : k < (s.enc.map LV.v).length := by rw [List.length_map]; exact (List.getElem?_eq_some_iff.1 hk).1
 rw [List.getElem?_append_left hl, List.getElem?_map, hk]
 rfl
theorem stC_len (s : Scp) (row : List Int) (pb : AV) (bad : Int) : (stC s row pb bad).length = 10 := rfl
theorem Bs.put {l : List RBk} (hb : Bs h L l pb) (bx : List LV) : Bs (h.put L bx) L l pb := by
 rcases hb with h1 | ⟨id, h1, h2, h3, h4⟩
 ·exact .inl h1
 ·exact .inr ⟨id, h1, h2, h3, h4.put (by rintro e; cases e; exact h3 rfl)⟩
theorem Bs.ln {l : List RBk} (hb : Bs h L l pb) : lnS pb = some (l.length : Int) := by
 rcases hb with ⟨rfl, rfl | rfl⟩ | ⟨id, h1, rfl, _⟩
 ·rfl
 ·rfl
 ·rfl
theorem Bs.sl {l : List RBk} (hb : Bs h L l pb) (hn : l ≠ []) : ∃ id, pb = .arr 3 id 0 l.length /\ id ≠ L /\ Sl h 3 (l.map encR) (some id) pb := by
 rcases hb with ⟨rfl, _⟩ | ⟨id, h1, rfl, h3, h4⟩
 ·exact absurd rfl hn
 ·exact ⟨id, rfl, h3, h4⟩
theorem Bs.get {l : List RBk} (hb : Bs h L l pb) {k j : Nat} {b : RBk} {c : AV} (hk : l[k]? = some b) (hc : (encR b)[j]? = some c) :
  ∃ id, pb = .arr 3 id 0 l.length /\ id ≠ L /\ ixP pb (k : Int) 3 = some (.ptr id (k * 3)) /\ ldP h (.ptr id (k * 3 + j)) 1 false = some c := by
 have hn : l ≠ [] := by rintro rfl; simp at hk
 obtain ⟨id, e, hL, hs⟩ := hb.sl hn
 subst e
 have hlt := (List.getElem?_eq_some_iff.1 hk).1
 exact ⟨id, rfl, hL, ixP_arr rfl hlt, hs.get (encR_el l) (by rw [List.getElem?_map, hk]; rfl) hc⟩
theorem flat3 {l : List RBk} (J : List LV) : ∀ {k : Nat} {b : RBk}, l[k]? = some b -> ((flatV (l.map encR) ++ J).drop (k * 3)).take 3 = (encR b).map .v := by
 induction l with
 | nil => intro k b h; simp at h
 | cons c l ih =>
  intro k b hk
  have e : flatV ((c :: l).map encR) = (encR c).map .v ++ flatV (l.map encR) := by simp [flatV]
  rw [e, List.append_assoc]
  cases k with
  | zero =>
   simp only [List.getElem?_cons_zero, Option.some.injEq] at hk
   subst hk
   rfl
  | succ k =>
   have := ih (k := k) (b := b) (by simpa using hk)
   rw [show (k + 1) * 3 = ((encR c).map LV.v).length + k * 3 by simp [encR]; omega, List.drop_append, List.drop_eq_nil_of_le (by omega), List.nil_append, Nat.add_sub_cancel_left]
   exact this
theorem Bs.agg {l : List RBk} (hb : Bs h L l pb) {k : Nat} {b : RBk} (hk : l[k]? = some b) : ∃ id, ixP pb (k : Int) 3 = some (.ptr id (k * 3)) /\ ldP h (.ptr id (k * 3)) 3 true = some (.agg (encR b)) := by
 rcases hb with ⟨rfl, _⟩ | ⟨id, h1, rfl, h3, h4⟩
 ·simp at hk
 ·have hlt := (List.getElem?_eq_some_iff.1 hk).1
  refine ⟨id, ixP_arr rfl hlt, ?_⟩
  obtain ⟨_, J, hJ, _⟩ := h4
  simp only [ldP, hJ, Option.bind_some, flat3 J hk]
  rfl
theorem QR.put (H : QR s L h pb ρ) {ρ' : RS} (hb : ρ'.blk = ρ.blk) : QR s L (h.put L (stC s ρ'.row pb ρ'.bad)) pb ρ' := ⟨put_same H.lk, by rw [hb]; exact H.bl.put _⟩
theorem amiss_Q (H : Q s L h ρ) (c : Int) : ∃ h', cA m 60 [vP L 0, vI c] h = some (.tup [], h') /\ Q s L h' (ρ.amiss c) := by
 obtain ⟨pb, H⟩ := H
 unfold RS.amiss
 by_cases h0 : ρ.bad = 0
 ·rw [if_pos h0]
  have hst := stP_at (x := .v (.int .i64 c)) H.lk (k := 9) (by rw [stC_len]; omega)
  have hset : (stC s ρ.row pb ρ.bad).set 9 (.v (.int .i64 c)) = stC s ρ.row pb c := rfl
  rw [hset] at hst
  exact ⟨_, cO (r60_0 (k0 := H.ld9) (k1 := eqZ_t h0) (k2 := hst)), pb, H.put (ρ' := { ρ with bad := c }) rfl⟩
 ·rw [if_neg h0]
  exact ⟨h, cO (r60_1 (k0 := H.ld9) (k1 := eqZ_f h0)), pb, H⟩
theorem apL_1 {xs : List (List AV)} (hf : fitE 1 xs = true) (hl : xs.length < 2 ^ 41) : apL (.ow 1 []) 1 8 xs = some (.ow 1 xs) := by
 have h1 : roomW (([] : List (List AV)).length + xs.length) 8 = true := by
  rw [List.length_nil, Nat.zero_add]
  cases hx : xs.length with
  | zero => rfl
  | succ k => exact room8 (by omega)
 simp only [apL, Nat.beq_refl, hf, h1, Bool.and_self, cond_true, List.nil_append]
theorem apL_2 {xs : List (List AV)} {z : Int} (hl : xs.length < 2 ^ 41) : apL (.ow 1 xs) 1 8 [[.int .i64 z]] = some (.ow 1 (xs ++ [[.int .i64 z]])) := by
 have hf : fitE 1 [[AV.int .i64 z]] = true := fit_one rfl
 have h1 : roomW (xs.length + [[AV.int .i64 z]].length) 8 = true := room8 hl
 simp only [apL, Nat.beq_refl, hf, h1, Bool.and_self, cond_true]
theorem fit_N : ∀ l : List Int, fitE 1 (encN l) = true
 | [] => rfl
 | _ :: _ => rfl
theorem slN {l : List Int} {k : Nat} (hk : k <= l.length) {z : Int} (hz : z = k) : slA (Cx.P (cxZ m)) 23 (.imm (encN l)) none (some z) = some (.imm (encN (l.take k))) := by
 subst hz
 obtain ⟨i, hi, hn⟩ := Option.map_eq_some_iff.1 sz3
 have h1 : decide ((0 : Int) <= 0) = true := by decide
 have h2 : decide ((0 : Int) <= (k : Int)) = true := decide_eq_true (by omega)
 have h3 : decide ((k : Int) <= ((encN l).length : Int)) = true := decide_eq_true (by rw [encN_len]; omega)
 have hf : fitE i.size (encN l) = true := by rw [hn]; exact fit_N l
 show slA Tryz.prog 23 (.imm (encN l)) none (some (k : Int)) = _
 unfold slA
 rw [und23]
 simp only [hi, Option.bind_some, Option.getD_none, Option.getD_some, h1, h2, h3, hf, Bool.and_self, cond_true, Int.toNat_zero, List.drop_zero, Int.toNat_natCast]
 simp [encN, List.map_take]
theorem QR.row (H : QR s L h pb ρ) (r : List Int) : ∃ h', stP h (.ptr L 7) [vM (encN r)] = some h' /\ QR s L h' pb { ρ with row := r } := by
 have hst := stP_at (x := .v (.imm (encN r))) H.lk (k := 7) (by rw [stC_len]; omega)
 exact ⟨_, hst, H.put (ρ' := { ρ with row := r }) rfl⟩
theorem push_Q (H : Q s L h ρ) (hN : ρ.row.length < 2 ^ 41) (t : Int) : ∃ h', cA m 61 [vP L 0, vI t] h = some (.tup [], h') /\ Q s L h' (ρ.push t) := by
 obtain ⟨pb, H⟩ := H
 unfold RS.push
 by_cases h0 : t = 0
 ·rw [if_pos h0]
  exact ⟨h, cO (r61_1 (k0 := ntF h0)), pb, H⟩
 ·rw [if_neg h0]
  obtain ⟨h', e, H'⟩ := H.row (ρ.row ++ [t])
  rw [encN_app] at e
  refine ⟨h', cO (r61_0 (k0 := ntT h0) (k1 := H.ld7) (k2 := apL_1 (fit_N _) (by rw [encN_len]; exact hN)) (k3 := apL_2 (by rw [encN_len]; exact hN)) (k4 := e)), pb, H'⟩
theorem last_get {A : Type} {l : List A} {b : A} (hb : l.getLast? = some b) : l[l.length - 1]? = some b := by rw [← List.getLast?_eq_getElem?]; exact hb
theorem pop_Q (H : Q s L h ρ) (I : RM N ρ) (hN : N < 2 ^ 41) : ∃ h', cA m 104 [vP L 0] h = some (.v (.int .i64 ρ.pop.2), h') /\ Q s L h' ρ.pop.1 := by
 obtain ⟨pb, H⟩ := H
 have hrz := I.rz
 have hbz := I.bz
 have hpos := List.length_pos_iff.2 I.ne
 have hw := wrapN (n := ρ.blk.length) (by omega) hpos
 obtain ⟨b, hb, hc⟩ := pop_cases ρ I.ne
 obtain ⟨id, hix, hag⟩ := H.bl.agg (last_get hb)
 have hix' : ixP pb (IntKind.wrap .i64 ((ρ.blk.length : Int) - Int.ofNat 1)) 3 = some (.ptr id ((ρ.blk.length - 1) * 3)) := by rw [hw]; exact hix
 have hble := I.le b (List.mem_of_getLast? hb)
 have hlen : ((encN ρ.row).length : Int) = (ρ.row.length : Int) := by rw [encN_len]
 rcases hc with ⟨hl, e⟩ | ⟨hl, e⟩
 ·rw [e]
  have k6 : leZ (Int.ofNat (encN ρ.row).length) (b.ht : Int) = true := leZ_t (by rw [ofN, hlen]; omega)
  cases hn : b.nv with
  | true =>
   rw [hn] at e
   exact ⟨h, cO (r104_1 (k0 := H.ld8) (k1 := H.ld8) (k2 := H.bl.ln) (k3 := hix') (k4 := hag) (k5 := H.ld7) (k6 := k6) (k7 := by rw [hn]; rfl)), pb, H⟩
  | false =>
   obtain ⟨h1, c1, H1⟩ := amiss_Q (m := m) ⟨pb, H⟩ 4
   exact ⟨h1, cO (r104_0 (k0 := H.ld8) (k1 := H.ld8) (k2 := H.bl.ln) (k3 := hix') (k4 := hag) (k5 := H.ld7) (k6 := k6) (k7 := by rw [hn]; rfl) (k8 := c1)), H1⟩
 ·rw [e]
  have k6 : leZ (Int.ofNat (encN ρ.row).length) (b.ht : Int) = false := leZ_f (by rw [ofN, hlen]; omega)
  have hrn : ρ.row ≠ [] := by rintro e; rw [e] at hl; simp at hl
  have hx : ρ.row.getLast? = some (ρ.row.getLastD 0) := by
   rw [List.getLastD_eq_getLast?, List.getLast?_eq_some_getLast hrn]; rfl
  have hwr := wrapN (n := ρ.row.length) (by omega) (by omega)
  have k9 : ixA (.imm (encN ρ.row)) (IntKind.wrap .i64 (Int.ofNat (encN ρ.row).length - Int.ofNat 1)) 1 = some [.int .i64 (ρ.row.getLastD 0)] := by
   rw [encN_len, ofN, hwr]
   exact ix_map (f := fun x : Int => [AV.int .i64 x]) (last_get hx) rfl
  have k12 := slN (m := m) (l := ρ.row) (k := ρ.row.length - 1) (by omega) (z := IntKind.wrap .i64 (Int.ofNat (encN ρ.row).length - Int.ofNat 1)) (by rw [encN_len, ofN, hwr])
  rw [← List.dropLast_eq_take] at k12
  obtain ⟨h', es, H'⟩ := H.row ρ.row.dropLast
  exact ⟨h', cO (r104_2 (k0 := H.ld8) (k1 := H.ld8) (k2 := H.bl.ln) (k3 := hix') (k4 := hag) (k5 := H.ld7) (k6 := k6) (k7 := H.ld7) (k8 := H.ld7) (k9 := k9) (k10 := H.ld7) (k11 := H.ld7) (k12 := k12)
   (k13 := apL_1 (fit_N _) (by rw [encN_len, List.length_dropLast]; omega)) (k14 := es)), pb, H'⟩
theorem want_Q (H : Q s L h ρ) (I : RM N ρ) (hN : N < 2 ^ 41) (t : Int) : ∃ h', cA m 59 [vP L 0, vI t] h = some (.tup [], h') /\ Q s L h' (ρ.want t) := by
 unfold RS.want
 by_cases h0 : t = 0
 ·rw [if_pos h0]
  exact ⟨h, cO (r59_0 (k0 := eqZ_t h0)), H⟩
 ·rw [if_neg h0]
  obtain ⟨h1, c1, H1⟩ := pop_Q (m := m) H I hN
  by_cases hp : 0 <= ρ.pop.2
  ·by_cases hq : ρ.pop.2 = t
   ·rw [if_neg (by rintro ⟨_, h⟩; exact h hq)]
    exact ⟨h1, cO (r59_2 (k0 := eqZ_f h0) (k1 := c1) (k2 := leZ_t hp) (k3 := ntF hq)), H1⟩
   ·rw [if_pos ⟨hp, hq⟩]
    obtain ⟨h2, c2, H2⟩ := amiss_Q (m := m) H1 4
    exact ⟨h2, cO (r59_1 (k0 := eqZ_f h0) (k1 := c1) (k2 := leZ_t hp) (k3 := ntT hq) (k4 := c2)), H2⟩
  ·rw [if_neg (by rintro ⟨h, _⟩; exact hp h)]
   exact ⟨h1, cO (r59_3 (k0 := eqZ_f h0) (k1 := c1) (k2 := leZ_f (by rw [ofN]; omega))), H1⟩
theorem wants_loop {ts : List Int} (hl : ts.length < 2 ^ 41) (hN : N < 2 ^ 41) : ∀ (pre suf : List Int) {h : Heap} {ρ0 : RS}, pre ++ suf = ts -> Q s L h (RS.wants suf ρ0) -> RM N (RS.wants suf ρ0) ->
    ∃ h', bA m 124 1 [vP L 0, vM (encN ts), .v (.int .i64 ((pre.length : Int) - 1))] h = some (.tup [], h') /\ Q s L h' (RS.wants ts ρ0) := by
  intro pre
  generalize hn : pre.length = n
  induction n generalizing pre with
  | zero =>
    intro suf h ρ0 hts H I
    have : pre = [] := List.eq_nil_of_length_eq_zero hn
    subst this
    rw [List.nil_append] at hts
    subst hts
    exact ⟨h, r124_1_1 (k0 := leZ_f (by rw [ofN]; omega)), H⟩
  | succ n ih =>
    intro suf h ρ0 hts H I
    have hne : pre ≠ [] := by rintro rfl; simp at hn
    obtain ⟨t, ht⟩ : ∃ t, pre.getLast? = some t := ⟨_, List.getLast?_eq_some_getLast hne⟩
    have hsp : pre = pre.dropLast ++ [t] := by
      have := List.dropLast_concat_getLast hne
      rw [List.getLast?_eq_some_getLast hne] at ht
      cases ht
      exact this.symm
    have hd : pre.dropLast.length = n := by rw [List.length_dropLast, hn]; rfl
    have hpl : pre.length <= ts.length := by rw [← hts, List.length_append]; omega
    obtain ⟨h1, c1, H1⟩ := want_Q (m := m) H I hN t
    have hts' : pre.dropLast ++ (t :: suf) = ts := by rw [← hts]; conv => rhs; rw [hsp]
                                                      simp
    have I1 : RM N (RS.wants (t :: suf) ρ0) := (I.want t).1
    obtain ⟨h2, c2, H2⟩ := ih pre.dropLast hd (t :: suf) hts' H1 I1
    have hg : ts[n]? = some t := by
      rw [← hts', List.getElem?_append_right (by omega), hd, Nat.sub_self]
      rfl
    have e0 : (((n + 1 : Nat) : Int) - 1) = (n : Int) := by omega
    rw [e0]
    refine ⟨h2, r124_1_0 (k0 := leZ_t (by rw [ofN]; omega)) (k1 := ix_map (f := fun x : Int => [AV.int .i64 x]) (i := n) hg rfl) (k2 := c1) (k3 := ?_), H2⟩
    have hw : IntKind.wrap .i64 ((n : Int) - Int.ofNat 1) = (n : Int) - 1 := by
      rw [ofN]
      exact wrapI (by unfold InZ; omega)
    rw [hw]
    exact c2
theorem wants_Q (H : Q s L h ρ) (I : RM N ρ) (hN : N < 2 ^ 41) {ts : List Int} (hl : ts.length < 2 ^ 41) : ∃ h', cA m 124 [vP L 0, vM (encN ts)] h = some (.tup [], h') /\ Q s L h' (ρ.wants ts) := by
 obtain ⟨h', c, H'⟩ := wants_loop (m := m) hl hN ts [] (ρ0 := ρ) (List.append_nil ts) H I
 refine ⟨h', cO (r124_0 (k0 := ?_)), H'⟩
 have hw : IntKind.wrap .i64 (Int.ofNat (encN ts).length - Int.ofNat 1) = (ts.length : Int) - 1 := by
  rw [encN_len, ofN, ofN]
  exact wrapI (by unfold InZ; omega)
 rw [hw]
 exact c
theorem nvR_set : ∀ {l : List RBk} {b : RBk}, l.getLast? = some b -> nvR l = l.set (l.length - 1) { b with nv := true }
 | [], b, h => by simp at h
 | [c], b, h => by
  simp only [List.getLast?_singleton, Option.some.injEq] at h
  subst h
  rfl
 | c :: d :: l, b, h => by
  have := nvR_set (l := d :: l) (b := b) (by simpa using h)
  rw [nvR, this]
  simp
theorem stop_Q (H : Q s L h ρ) (I : RM N ρ) (hN : N < 2 ^ 41) : ∃ h', cA m 100 [vP L 0] h = some (.tup [], h') /\ Q s L h' ρ.stop := by
 obtain ⟨pb, H⟩ := H
 have hrz := I.rz
 have hbz := I.bz
 have hpos := List.length_pos_iff.2 I.ne
 have hw := wrapN (n := ρ.blk.length) (by omega) hpos
 obtain ⟨b, hb, _⟩ := lastR I.ne
 have hble := I.le b (List.mem_of_getLast? hb)
 obtain ⟨id, hpb, hL, hix, hht⟩ := H.bl.get (j := 1) (c := .int .i64 b.ht) (last_get hb) rfl
 have hix' : ixP pb (IntKind.wrap .i64 ((ρ.blk.length : Int) - Int.ofNat 1)) 3 = some (.ptr id ((ρ.blk.length - 1) * 3)) := by rw [hw]; exact hix
 obtain ⟨h1, es, H1⟩ := H.row (ρ.row.take b.ht)
 obtain ⟨id2, hpb2, _, hs⟩ := H1.bl.sl I.ne
 rw [hpb] at hpb2
 cases hpb2
 obtain ⟨h2, e2, hs2, hf2, hl2⟩ := hs.setN (encR_el _) (k := ρ.blk.length - 1) (j := 2) (x := encR b) (by
  show (ρ.blk.map encR)[ρ.blk.length - 1]? = _
  rw [List.getElem?_map, last_get hb]; rfl) (by decide) (.bool true)
 have hst : ρ.stop = { ρ with row := ρ.row.take b.ht, blk := nvR ρ.blk } := by unfold RS.stop; rw [hb]
 rw [hst]
 refine ⟨h2, cO (r100_0 (k0 := H.ld8) (k1 := H.bl.ln) (k2 := H.ld7) (k3 := H.ld8) (k4 := hix') (k5 := hht) (k6 := slN (m := m) (k := b.ht) (by omega) rfl) (k7 := apL_1 (fit_N _) (by rw [encN_len, List.length_take]; omega)) (k8 := es)
  (k9 := H1.ld8) (k10 := hix') (k11 := e2)), pb, ?_, ?_⟩
 ·rw [hf2 L (Ne.symm hL)]
  exact H1.lk
 ·have hset : (ρ.blk.map encR).set (ρ.blk.length - 1) ((encR b).set 2 (.bool true)) = (nvR ρ.blk).map encR := by
   rw [nvR_set hb, List.map_set]
   rfl
  rw [hset] at hs2
  refine .inr ⟨id, ?_, ?_, hL, ?_⟩
  ·intro e
   have := congrArg List.length e
   rw [nvR_len, List.length_nil] at this
   omega
  ·rw [nvR_len, hpb]
  ·exact hs2
theorem label_Q (H : Q s L h ρ) (I : RM N ρ) (hN : N < 2 ^ 41) {z : Int} (hz : z < 2 ^ 62) : (ρ.lbl z = none /\ ∃ h', cA m 101 [vP L 0, vI z] h = some (.tup [.int .i64 (Int.ofNat 0), .bool false], h') /\ Q s L h' (ρ.amiss 5)) ∨
  (∃ t, ρ.lbl z = some t /\ cA m 101 [vP L 0, vI z] h = some (.tup [.int .i64 t, .bool true], h)) := by
 obtain ⟨pb, H⟩ := H
 have hbz := I.bz
 have hpos := List.length_pos_iff.2 I.ne
 have hw := wrapN (n := ρ.blk.length) (by omega) hpos
 unfold RS.lbl
 by_cases h0 : z < 0
 ·rw [if_pos (.inl h0)]
  obtain ⟨h1, c1, H1⟩ := amiss_Q (m := m) ⟨pb, H⟩ 5
  exact .inl ⟨rfl, h1, cO (r101_0 (k0 := ltZ_t h0) (k1 := c1)), H1⟩
 ·by_cases h2 : (ρ.blk.length : Int) <= z
  ·rw [if_pos (.inr h2)]
   obtain ⟨h1, c1, H1⟩ := amiss_Q (m := m) ⟨pb, H⟩ 5
   exact .inl ⟨rfl, h1, cO (r101_1 (k0 := ltZ_f (by rw [ofN]; omega)) (k1 := H.ld8) (k2 := H.bl.ln) (k3 := leZ_t h2) (k4 := c1)), H1⟩
  ·rw [if_neg (by omega)]
   have hlt : ρ.blk.length - 1 - z.toNat < ρ.blk.length := by omega
   have hg : ρ.blk[ρ.blk.length - 1 - z.toNat]? = some ρ.blk[ρ.blk.length - 1 - z.toNat] := List.getElem?_eq_getElem hlt
   generalize ρ.blk[ρ.blk.length - 1 - z.toNat] = b at hg
   obtain ⟨id, hpb, hL, hix, hla⟩ := H.bl.get (j := 0) (c := .int .i64 b.lab) hg rfl
   rw [Nat.add_zero] at hla
   have hw2 : IntKind.wrap .i64 (IntKind.wrap .i64 ((ρ.blk.length : Int) - Int.ofNat 1) - z) = ((ρ.blk.length - 1 - z.toNat : Nat) : Int) := by
    rw [hw, wrapI (by unfold InZ; omega)]
    omega
   exact .inr ⟨b.lab, by rw [hg]; rfl, cO (r101_2 (k0 := ltZ_f (by rw [ofN]; omega)) (k1 := H.ld8) (k2 := H.bl.ln) (k3 := leZ_f (by omega)) (k4 := H.ld8) (k5 := H.ld8) (k6 := H.bl.ln) (k7 := by rw [hw2]; exact hix) (k8 := hla))⟩
end
end Go.Proofs.YtoblgjmllmomhaaGreatDoor
namespace Go.Proofs.YtoblgjmllmomhaaGreatDoor
set_option maxRecDepth 100000
open Go Go.Proofs.Am
section
variable {m : Int} {s : Scp} {L : Nat} {h : Heap} {ρ : RS} {N R : Nat}
theorem wrap1 {n : Nat} (h : n < 2 ^ 62) : IntKind.wrap .i64 ((n : Int) + Int.ofNat 1) = ((n + 1 : Nat) : Int) := by
 rw [ofN, wrapI (by unfold InZ; omega)]
 omega
theorem pushes_loop {pa re : List Int} (hl : re.length < 2 ^ 41) : ∀ (suf pre : List Int) {h : Heap} {ρ : RS} {N : Nat}, pre ++ suf = re -> Q s L h ρ -> RM N ρ -> N + suf.length < 2 ^ 41 ->
  ∃ h', bA m 103 9 [vP L 0, .lp 0 0, vI (pre.length : Int), vM (encN pa), vM (encN re)] h = some (.tup [], h') /\ Q s L h' (ρ.pushes suf)
 | [], pre, h, ρ, N, hp, H, _, _ => by
  rw [List.append_nil] at hp
  subst hp
  exact ⟨h, r103_9_1 (k0 := ltZ_f (by rw [ofN, encN_len]; omega)), H⟩
 | t :: suf, pre, h, ρ, N, hp, H, I, hN => by
  rw [List.length_cons] at hN
  obtain ⟨h1, c1, H1⟩ := push_Q (m := m) H (by have := I.rz; omega) t
  obtain ⟨h2, c2, H2⟩ := pushes_loop hl suf (pre ++ [t]) (by rw [List.append_assoc]; exact hp) H1 (I.push t) (by omega)
  have hlt : pre.length < re.length := by rw [← hp]; simp
  have hg : re[pre.length]? = some t := by rw [← hp, List.getElem?_append_right (Nat.le_refl _), Nat.sub_self]; rfl
  refine ⟨h2, r103_9_0 (k0 := ltZ_t (by rw [ofN, encN_len]; omega)) (k1 := ix_map (f := fun x : Int => [AV.int .i64 x]) hg rfl) (k2 := c1) (k3 := ?_), H2⟩
  rw [wrap1 (by omega)]
  rw [List.length_append] at c2
  exact c2
theorem call_Q (hR : TyLen R s) (H : Q s L h ρ) (I : RM N ρ) (hN : N + R < 2 ^ 41) (t : Int) (th : Bool) :
  ∃ h', cA m 103 [vP L 0, vI t, vB th] h = some (.tup [], h') /\ Q s L h' (ρ.call s t th) := by
 have l0 : ldP h (.ptr L 0) 1 false = some (.imm (s.ty.map FTy.enc)) := H.ldS rfl
 have l3 : ldP h (.ptr L 3) 1 false = some (.bool s.tb) := H.ldS rfl
 have hln : (Int.ofNat (s.ty.map FTy.enc).length) = (s.ty.length : Int) := by rw [List.length_map]; rfl
 unfold RS.call
 by_cases hc : t < 0 ∨ (s.ty.length : Int) <= t ∨ (th = true /\ s.tb = false)
 ·rw [if_pos hc]
  obtain ⟨h1, c1, H1⟩ := amiss_Q (m := m) H 5
  by_cases h0 : t < 0
  ·exact ⟨h1, cO (r103_0 (k0 := ltZ_t h0) (k1 := c1)), H1⟩
  ·by_cases h2 : (s.ty.length : Int) <= t
   ·exact ⟨h1, cO (r103_1 (k0 := ltZ_f (by rw [ofN]; omega)) (k1 := l0) (k2 := leZ_t (by rw [hln]; exact h2)) (k3 := c1)), H1⟩
   ·have h3 : th = true /\ s.tb = false := by
     rcases hc with h | h | h
     ·exact absurd h h0
     ·exact absurd h h2
     ·exact h
    exact ⟨h1, cO (r103_2 (k0 := ltZ_f (by rw [ofN]; omega)) (k1 := l0) (k2 := leZ_f (by rw [hln]; omega)) (k3 := h3.1) (k4 := l3) (k5 := by rw [h3.2]; rfl) (k6 := c1)), H1⟩
 ·rw [if_neg hc]
  have h0 : ¬ t < 0 := fun h => hc (.inl h)
  have h2 : ¬ (s.ty.length : Int) <= t := fun h => hc (.inr (.inl h))
  have hg : s.ty[t.toNat]? = some s.ty[t.toNat] := List.getElem?_eq_getElem (by omega)
  rw [hg]
  have hx := hR _ (List.mem_of_getElem? hg)
  generalize s.ty[t.toNat] = x at hg hx ⊢
  have k7 : ixA (.imm (s.ty.map FTy.enc)) t 2 = some [.imm (encN x.p), .imm (encN x.r)] := ix_mapZ (f := FTy.enc) (by omega) hg rfl
  have kt := ltZ_f (a := t) (b := Int.ofNat 0) (by rw [ofN]; omega)
  have kl := leZ_f (a := Int.ofNat (s.ty.map FTy.enc).length) (b := t) (by rw [hln]; omega)
  have hrl : (Int.ofNat (encN x.r).length) = (x.r.length : Int) := by rw [encN_len]; rfl
  cases hth : th with
  | true =>
   have hb : s.tb = true := by
    cases hb : s.tb with
    | true => rfl
    | false => exact absurd (.inr (.inr ⟨hth, hb⟩)) hc
   by_cases h1 : 1 < x.r.length
   ·simp only [if_pos h1]
    obtain ⟨h1', c1, H1⟩ := amiss_Q (m := m) H 4
    obtain ⟨h2', c2, H2⟩ := want_Q (m := m) H1 (I.amiss 4) (by omega) 1
    have I2 := ((I.amiss 4).want 1).1
    obtain ⟨h3', c3, H3⟩ := wants_Q (m := m) H2 I2 (by omega) (ts := x.p) (by omega)
    obtain ⟨h4', c4, H4⟩ := pushes_loop (m := m) (pa := x.p) (by omega) x.r [] (re := x.r) rfl H3 (I2.wants x.p).1 (by omega)
    exact ⟨h4', cO (r103_3 (k0 := kt) (k1 := l0) (k2 := kl) (k3 := rfl) (k4 := l3) (k5 := by rw [hb]; rfl) (k6 := l0) (k7 := k7) (k8 := ltZ_t (by rw [ofN, hrl]; omega)) (k9 := c1) (k10 := c2) (k11 := c3) (k12 := c4)), H4⟩
   ·simp only [if_neg h1]
    obtain ⟨h2', c2, H2⟩ := want_Q (m := m) H I (by omega) 1
    have I2 := (I.want 1).1
    obtain ⟨h3', c3, H3⟩ := wants_Q (m := m) H2 I2 (by omega) (ts := x.p) (by omega)
    obtain ⟨h4', c4, H4⟩ := pushes_loop (m := m) (pa := x.p) (by omega) x.r [] (re := x.r) rfl H3 (I2.wants x.p).1 (by omega)
    exact ⟨h4', cO (r103_5 (k0 := kt) (k1 := l0) (k2 := kl) (k3 := rfl) (k4 := l3) (k5 := by rw [hb]; rfl) (k6 := l0) (k7 := k7) (k8 := ltZ_f (by rw [hrl, ofN]; omega)) (k9 := c2) (k10 := c3) (k11 := c4)), H4⟩
  | false =>
   by_cases h1 : 1 < x.r.length
   ·simp only [if_pos h1]
    obtain ⟨h1', c1, H1⟩ := amiss_Q (m := m) H 4
    have I2 := I.amiss 4
    obtain ⟨h3', c3, H3⟩ := wants_Q (m := m) H1 I2 (by omega) (ts := x.p) (by omega)
    obtain ⟨h4', c4, H4⟩ := pushes_loop (m := m) (pa := x.p) (by omega) x.r [] (re := x.r) rfl H3 (I2.wants x.p).1 (by omega)
    exact ⟨h4', cO (r103_8 (k0 := kt) (k1 := l0) (k2 := kl) (k3 := rfl) (k4 := l0) (k5 := k7) (k6 := ltZ_t (by rw [ofN, hrl]; omega)) (k7 := c1) (k8 := c3) (k9 := c4)), H4⟩
   ·simp only [if_neg h1]
    obtain ⟨h3', c3, H3⟩ := wants_Q (m := m) H I (by omega) (ts := x.p) (by omega)
    obtain ⟨h4', c4, H4⟩ := pushes_loop (m := m) (pa := x.p) (by omega) x.r [] (re := x.r) rfl H3 (I.wants x.p).1 (by omega)
    exact ⟨h4', cO (r103_10 (k0 := kt) (k1 := l0) (k2 := kl) (k3 := rfl) (k4 := l0) (k5 := k7) (k6 := ltZ_f (by rw [hrl, ofN]; omega)) (k7 := c3) (k8 := c4)), H4⟩
theorem odd_cons (t : Int) (ts : List Int) (w : Int) (ρ : RS) : RS.odd (t :: ts) w ρ = RS.odd ts w (if t ≠ w then ρ.amiss 4 else ρ) := by
 unfold RS.odd
 by_cases h : t = w
 ·subst h
  simp
 ·have hb : (ρ.amiss 4).amiss 4 = ρ.amiss 4 := by
   unfold RS.amiss
   by_cases h0 : ρ.bad = 0
   ·rw [if_pos h0]; rfl
   ·rw [if_neg h0, if_neg h0]
  simp only [List.any_cons, ne_eq, h, not_false_eq_true, decide_true, Bool.true_or, if_true]
  split
  ·exact hb.symm
  ·rfl
theorem odd_loop {ts : List Int} {w : Int} (hw : ts.getLast? = some w) (hl : ts.length < 2 ^ 41) (hN : N < 2 ^ 41) : ∀ (suf pre : List Int) {h : Heap} {ρ : RS}, pre ++ suf = ts -> Q s L h ρ -> RM N ρ ->
  ∃ h', bA m 102 9 [vP L 0, .ow 1 (encN ts), vI (pre.length : Int)] h = some (.tup [], h') /\ Q s L h' ((((ρ.odd suf w).want 1).want w).stop)
 | [], pre, h, ρ, hp, H, I => by
  rw [List.append_nil] at hp
  subst hp
  have hwr := wrapN (n := pre.length) hl (by cases pre with | nil => cases hw | cons _ _ => exact Nat.succ_pos _)
  have k2 : ixA (.imm (encN pre)) (IntKind.wrap .i64 (Int.ofNat (encN pre).length - Int.ofNat 1)) 1 = some [.int .i64 w] := by
   rw [encN_len, ofN, hwr]
   exact ix_map (f := fun x : Int => [AV.int .i64 x]) (last_get hw) rfl
  obtain ⟨h1, c1, H1⟩ := want_Q (m := m) H I hN 1
  have I1 := (I.want 1).1
  obtain ⟨h2, c2, H2⟩ := want_Q (m := m) H1 I1 hN w
  have I2 := (I1.want w).1
  obtain ⟨h3, c3, H3⟩ := stop_Q (m := m) H2 I2 hN
  exact ⟨h3, r102_9_2 (k0 := ltZ_f (by rw [ofN, encN_len]; omega)) (k1 := c1) (k2 := k2) (k3 := c2) (k4 := c3), H3⟩
 | t :: suf, pre, h, ρ, hp, H, I => by
  rw [odd_cons]
  have hlt : pre.length < ts.length := by rw [← hp]; simp
  have hg : ts[pre.length]? = some t := by rw [← hp, List.getElem?_append_right (Nat.le_refl _), Nat.sub_self]; rfl
  have hwr := wrapN (n := ts.length) hl (by omega)
  have k2 : ixA (.imm (encN ts)) (IntKind.wrap .i64 (Int.ofNat (encN ts).length - Int.ofNat 1)) 1 = some [.int .i64 w] := by
   rw [encN_len, ofN, hwr]
   exact ix_map (f := fun x : Int => [AV.int .i64 x]) (last_get hw) rfl
  have k0 := ltZ_t (a := (pre.length : Int)) (b := Int.ofNat (encN ts).length) (by rw [ofN, encN_len]; omega)
  have k1 : ixA (.imm (encN ts)) (pre.length : Int) 1 = some [.int .i64 t] := ix_map (f := fun x : Int => [AV.int .i64 x]) hg rfl
  have hp' : (pre ++ [t]) ++ suf = ts := by rw [List.append_assoc]; exact hp
  by_cases htw : t = w
  ·rw [if_neg (fun h => h htw)]
   obtain ⟨h2, c2, H2⟩ := odd_loop hw hl hN suf (pre ++ [t]) hp' H I
   refine ⟨h2, r102_9_1 (k0 := k0) (k1 := k1) (k2 := k2) (k3 := ntF htw) (k4 := ?_), H2⟩
   rw [wrap1 (by omega)]
   rw [List.length_append] at c2
   exact c2
  ·rw [if_pos htw]
   obtain ⟨h1, c1, H1⟩ := amiss_Q (m := m) H 4
   obtain ⟨h2, c2, H2⟩ := odd_loop hw hl hN suf (pre ++ [t]) hp' H1 (I.amiss 4)
   refine ⟨h2, r102_9_0 (k0 := k0) (k1 := k1) (k2 := k2) (k3 := ntT htw) (k4 := c1) (k5 := ?_), H2⟩
   rw [wrap1 (by omega)]
   rw [List.length_append] at c2
   exact c2
theorem tbl_len : ∀ (l acc : List Int) (ρ : RS) {ts : List Int}, RS.tbl l acc ρ = some ts -> ts.length = acc.length + l.length
 | [], acc, ρ, ts, h => by cases h; rfl
 | n :: ns, acc, ρ, ts, h => by
  rw [RS.tbl] at h
  split at h
  ·cases h
  ·have := tbl_len ns _ ρ h
   rw [this, List.length_append, List.length_cons]
   simp only [List.length_cons, List.length_nil]; omega
variable {o a b v t : Int} {bd el : List (List AV)} {q : Bool}
theorem tbl_loop {l : List Int} (hl : l.length < 2 ^ 41) (hz : ∀ z, z ∈ l -> z < 2 ^ 62) (hN : N < 2 ^ 41) (H : Q s L h ρ) (I : RM N ρ) : ∀ (suf pre acc : List Int), pre ++ suf = l -> acc.length = pre.length ->
  (RS.tbl suf acc ρ = none -> ∃ h', bA m 102 3 [vP L 0, .lp 0 0, .ow 1 (encN acc), vI (pre.length : Int), vI o, vI a, vI b, .v (.int .u64 v), vI t, vM (encN l), vM bd, vM el, vB q] h = some (.tup [], h') /\ Q s L h' (ρ.amiss 5)) /\
  (∀ ts r, RS.tbl suf acc ρ = some ts -> bA m 102 9 [vP L 0, .ow 1 (encN ts), vI (Int.ofNat 0)] h = some r ->
   bA m 102 3 [vP L 0, .lp 0 0, .ow 1 (encN acc), vI (pre.length : Int), vI o, vI a, vI b, .v (.int .u64 v), vI t, vM (encN l), vM bd, vM el, vB q] h = some r)
 | [], pre, acc, hp, ha => by
  rw [List.append_nil] at hp
  subst hp
  refine ⟨fun hno => absurd hno (by simp [RS.tbl]), fun ts r hts hr => ?_⟩
  rw [RS.tbl] at hts
  cases hts
  exact r102_3_2 (k0 := ltZ_f (by rw [ofN, encN_len]; omega)) (k1 := hr)
 | n :: suf, pre, acc, hp, ha => by
  have hlt : pre.length < l.length := by rw [← hp]; simp
  have hg : l[pre.length]? = some n := by rw [← hp, List.getElem?_append_right (Nat.le_refl _), Nat.sub_self]; rfl
  have k0 := ltZ_t (a := (pre.length : Int)) (b := Int.ofNat (encN l).length) (by rw [ofN, encN_len]; omega)
  have k1 : ixA (.imm (encN l)) (pre.length : Int) 1 = some [.int .i64 n] := ix_map (f := fun x : Int => [AV.int .i64 x]) hg rfl
  have hp' : (pre ++ [n]) ++ suf = l := by rw [List.append_assoc]; exact hp
  rw [RS.tbl]
  rcases label_Q (m := m) H I hN (hz n (List.mem_of_getElem? hg)) with ⟨hn, h1, c1, H1⟩ | ⟨w, hw, c1⟩
  ·rw [hn]
   exact ⟨fun _ => ⟨h1, r102_3_0 (k0 := k0) (k1 := k1) (k2 := c1) (k3 := rfl), H1⟩, fun ts r hts => by cases hts⟩
  ·rw [hw]
   have ih := tbl_loop hl hz hN H I suf (pre ++ [n]) (acc ++ [w]) hp' (by rw [List.length_append, List.length_append, ha]; rfl)
   have k4 : apL (.ow 1 (encN acc)) 1 8 [[.int .i64 w]] = some (.ow 1 (encN (acc ++ [w]))) := by rw [encN_app]; exact apL_2 (by rw [encN_len]; omega)
   have hw1 := wrap1 (n := pre.length) (by omega)
   have e1 : (((pre ++ [n]).length : Nat) : Int) = ((pre.length + 1 : Nat) : Int) := by rw [List.length_append]; rfl
   rw [e1] at ih
   refine ⟨fun hno => ?_, fun ts r hts hr => ?_⟩
   ·obtain ⟨h', c', H'⟩ := ih.1 hno
    exact ⟨h', r102_3_1 (k0 := k0) (k1 := k1) (k2 := c1) (k3 := rfl) (k4 := k4) (k5 := by rw [hw1]; exact c'), H'⟩
   ·have c' := ih.2 ts r hts hr
    exact r102_3_1 (k0 := k0) (k1 := k1) (k2 := c1) (k3 := rfl) (k4 := k4) (k5 := by rw [hw1]; exact c')
theorem table_Q (H : Q s L h ρ) (I : RM N ρ) (hN : N < 2 ^ 41) {l : List Int} (hne : l ≠ []) (hl : l.length < 2 ^ 41) (hz : ∀ z, z ∈ l -> z < 2 ^ 62) :
  ∃ h', cA m 102 [vP L 0, .v (.agg [.int .i64 o, .int .i64 a, .int .i64 b, .int .u64 v, .int .i64 t, .imm (encN l), .imm bd, .imm el, .bool q])] h = some (.tup [], h') /\ Q s L h' (ρ.table l) := by
 have hlp := tbl_loop (m := m) (o := o) (a := a) (b := b) (v := v) (t := t) (bd := bd) (el := el) (q := q) hl hz hN H I l [] [] rfl rfl
 unfold RS.table
 cases ht : RS.tbl l [] ρ with
 | none =>
  obtain ⟨h', c', H'⟩ := hlp.1 ht
  exact ⟨h', cO (r102_0 (k0 := c')), H'⟩
 | some ts =>
  have hlen := tbl_len l [] ρ ht
  rw [List.length_nil, Nat.zero_add] at hlen
  have htn : ts ≠ [] := by
   rintro rfl
   exact hne (List.eq_nil_of_length_eq_zero hlen.symm)
  have hw : ts.getLast? = some (ts.getLastD 0) := by rw [List.getLastD_eq_getLast?, List.getLast?_eq_some_getLast htn]; rfl
  obtain ⟨h', c', H'⟩ := odd_loop (m := m) hw (by omega) hN ts [] rfl H I
  exact ⟨h', cO (r102_0 (k0 := hlp.2 ts _ ht c')), H'⟩
end
end Go.Proofs.YtoblgjmllmomhaaGreatDoor
