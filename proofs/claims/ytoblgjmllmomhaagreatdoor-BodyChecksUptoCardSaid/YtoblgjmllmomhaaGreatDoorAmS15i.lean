/-
  The looker: what is given, what never goes on, labels.
-/
import Derived.Test.YtoblgjmllmomhaaGreatDoorAmS15wA
import Derived.Test.YtoblgjmllmomhaaGreatDoorAmMod
import Derived.Test.YtoblgjmllmomhaaGreatDoorAmBodyC
import Derived.Test.YtoblgjmllmomhaaGreatDoorAmS15wB
namespace Go.Proofs.YtoblgjmllmomhaaGreatDoor
set_option maxRecDepth 100000
open Go Go.Proofs.Am
def errA : Option Int -> AV
 | none => .nilI
 | some c => .ifc 56 (.int .i64 c)
def encB (b : Blk) : List AV := [.imm (encN b.lab), .imm (encN b.res), .int .i64 b.ht, .bool b.nv]
def lkC (s : Scp) (pr pb : AV) (e : Option Int) : List LV := s.enc.map .v ++ [.v pr, .v pb, .v (errA e)]
structure HR (s : Scp) (L : Nat) (h : Heap) (r b : Option Nat) (pr pb : AV) (σ : LS) : Prop where
 lk : h.bx[L]? = some (lkC s pr pb σ.err)
 row : Sl h 1 (encN σ.row) r pr
 blk : Sl h 4 (σ.blk.map encB) b pb
 rL : r ≠ some L
 bL : b ≠ some L
 rb : ∀ i, r = some i -> b ≠ some i
def Rel (s : Scp) (L : Nat) (h : Heap) (σ : LS) : Prop := ∃ r b pr pb, HR s L h r b pr pb σ
def Frm (L : Nat) (h h' : Heap) : Prop := (∀ q, q ≠ L -> h'.bx[q]? = h.bx[q]?) /\ h'.bx.length = h.bx.length
theorem Frm.refl (L : Nat) (h : Heap) : Frm L h h := ⟨fun _ _ => rfl, rfl⟩
theorem Frm.trans {L : Nat} {h h1 h2 : Heap} (a : Frm L h h1) (b : Frm L h1 h2) : Frm L h h2 := ⟨fun q hq => (b.1 q hq).trans (a.1 q hq), b.2.trans a.2⟩
theorem Frm.put (h : Heap) (L : Nat) (bx : List LV) : Frm L h (h.put L bx) := ⟨fun _ hq => put_ne (Ne.symm hq), put_len _ _ _⟩
theorem encN_el (l : List Int) : ∀ x, x ∈ encN l -> x.length = 1 := by
 intro x hx
 obtain ⟨z, _, rfl⟩ := List.mem_map.1 hx
 rfl
theorem encB_el (l : List Blk) : ∀ x, x ∈ l.map encB -> x.length = 4 := by
 intro x hx
 obtain ⟨z, _, rfl⟩ := List.mem_map.1 hx
 rfl
theorem err_eql (o : Option Int) : binF Tryz.prog .eql 33 true (errA o) .nilI = some (.bool o.isNone) := by
 cases o with
 | none => kernel_rfl
 | some c => kernel_rfl
theorem err_neq (o : Option Int) : binF Tryz.prog .neq 33 true (errA o) .nilI = some (.bool o.isSome) := by
 cases o with
 | none => kernel_rfl
 | some c => kernel_rfl
theorem und23 : Tryz.prog.underlying 23 = some (.slice 3) := by kernel_rfl
theorem und50 : Tryz.prog.underlying 63 = some (.slice 110) := by kernel_rfl
theorem sz3 : (Tryz.prog.info? 3).map (·.size) = some 1 := by kernel_rfl
theorem sz64 : (Tryz.prog.info? 110).map (·.size) = some 4 := by kernel_rfl
theorem sl23 {id len k : Nat} (hk : k <= len) {z : Int} (hz : z = k) : slA Tryz.prog 23 (.arr 1 id 0 len) none (some z) = some (.arr 1 id 0 k) := by
 obtain ⟨i, hi, hn⟩ := Option.map_eq_some_iff.1 sz3
 exact slA_arr und23 hi hn hk hz
theorem sl23n {z : Int} (hz : z = 0) : slA Tryz.prog 23 .nilS none (some z) = some .nilS := by
 obtain ⟨i, hi, hn⟩ := Option.map_eq_some_iff.1 sz3
 exact slA_nil und23 hi hz
theorem sl50 {id len k : Nat} (hk : k <= len) {z : Int} (hz : z = k) : slA Tryz.prog 63 (.arr 4 id 0 len) none (some z) = some (.arr 4 id 0 k) := by
 obtain ⟨i, hi, hn⟩ := Option.map_eq_some_iff.1 sz64
 exact slA_arr und50 hi hn hk hz
section
variable {m : Int} {e : FuncId -> Option (List LV -> Heap -> Option (LV × Heap))} {s : Scp} {L : Nat} {h : Heap} {r b : Option Nat} {pr pb : AV} {σ : LS}
theorem HR.ld (H : HR s L h r b pr pb σ) {k : Nat} {a : AV} (hk : (lkC s pr pb σ.err)[k]? = some (.v a)) : ldP h (.ptr L k) 1 false = some a := ldP_at H.lk hk
theorem HR.ld7 (H : HR s L h r b pr pb σ) : ldP h (.ptr L 7) 1 false = some pr := H.ld rfl
theorem HR.ld8 (H : HR s L h r b pr pb σ) : ldP h (.ptr L 8) 1 false = some pb := H.ld rfl
theorem HR.ld9 (H : HR s L h r b pr pb σ) : ldP h (.ptr L 9) 1 false = some (errA σ.err) := H.ld rfl
theorem lkC_len (s : Scp) (pr pb : AV) (er : Option Int) : (lkC s pr pb er).length = 10 := rfl
theorem HR.put (H : HR s L h r b pr pb σ) {pr' : AV} {σ' : LS} (hb : σ'.blk = σ.blk) (hr : Sl h 1 (encN σ'.row) r pr') : HR s L (h.put L (lkC s pr' pb σ'.err)) r b pr' pb σ' :=
 ⟨put_same H.lk, hr.put H.rL, by rw [hb]; exact H.blk.put H.bL, H.rL, H.bL, H.rb⟩
theorem fail_H (h29 : e 54 = none) (H : HR s L h r b pr pb σ) (c : Int) : ∃ h', callF (cxE m e) (blk (cxE m e)) 54 [vP L 0, .v (.ifc 56 (.int .i64 c))] h = some (.tup [], h') /\ HR s L h' r b pr pb (σ.fail c) /\ Frm L h h' := by
 have hq := err_eql σ.err
 cases he : σ.err with
 | none =>
  rw [he] at hq
  have hld := H.ld9
  rw [he] at hld
  have e1 : σ.fail c = { σ with err := some c } := by unfold LS.fail; rw [he]; rfl
  have hst := stP_at (x := .v (.ifc 56 (.int .i64 c))) H.lk (k := 9) (by rw [lkC_len]; omega)
  have hset : (lkC s pr pb σ.err).set 9 (.v (.ifc 56 (.int .i64 c))) = lkC s pr pb (some c) := rfl
  rw [hset] at hst
  refine ⟨_, callF_of rfl rfl (by kernel_rfl) (w29_0 (c := c) (k0 := hld) (k1 := hq) (k2 := rfl) (k3 := hst)) h29, ?_, Frm.put _ _ _⟩
  rw [e1]
  exact H.put (σ' := { σ with err := some c }) rfl H.row
 | some q =>
  rw [he] at hq
  have hld := H.ld9
  rw [he] at hld
  exact ⟨h, callF_of rfl rfl (by kernel_rfl) (w29_1 (c := c) (k0 := hld) (k1 := hq) (k2 := rfl)) h29, by rw [fail_keep he]; exact H, Frm.refl _ _⟩
theorem HR.bid (H : HR s L h r b pr pb σ) (hne : σ.blk ≠ []) : ∃ id, b = some id /\ pb = .arr 4 id 0 σ.blk.length := by
 have hb := H.blk
 cases b with
 | none =>
  obtain ⟨_, h2⟩ := hb
  simp at h2
  exact absurd h2 hne
 | some id => exact ⟨id, rfl, by rw [hb.1, List.length_map]⟩
theorem top_H (h28 : e 53 = none) (H : HR s L h r b pr pb σ) (hne : σ.blk ≠ []) (hB : σ.blk.length < 2 ^ 41) : ∃ id, b = some id /\ callF (cxE m e) (blk (cxE m e)) 53 [vP L 0] h = some (.v (.ptr id ((σ.blk.length - 1) * 4)), h) := by
 obtain ⟨id, rfl, hpb⟩ := H.bid hne
 refine ⟨id, rfl, callF_exr (e := topE) rfl h28 rfl rfl ?_⟩
 have hl : σ.blk.length = (σ.blk.length - 1) + 1 := by
  have := List.length_pos_iff.2 hne
  omega
 have hld := H.ld8
 rw [hpb, hl] at hld
 unfold topE
 have hk : Nat.ble (σ.blk.length - 1) 4611686018427387904 = true := Nat.ble_eq_true_of_le (by omega)
 simp only [hld, Nat.beq_refl, hk, Bool.and_self, cond_true, Nat.zero_add]
theorem HR.last (H : HR s L h r b pr pb σ) {bl : Blk} (hb : σ.blk.getLast? = some bl) {id : Nat} (hid : b = some id) {j : Nat} {c : AV} (hc : (encB bl)[j]? = some c) : ldP h (.ptr id ((σ.blk.length - 1) * 4 + j)) 1 false = some c := by
 subst hid
 refine H.blk.get (encB_el _) ?_ hc
 rw [List.getElem?_map, ← List.getLast?_eq_getElem?, hb]
 rfl
theorem wrapN {n : Nat} (h : n < 2 ^ 41) (hp : 0 < n) : IntKind.wrap .i64 ((n : Int) - Int.ofNat 1) = ((n - 1 : Nat) : Int) := by
 have h1 : InZ ((n : Int) - Int.ofNat 1) := by
  unfold InZ
  rw [ofN]
  omega
 rw [wrapI h1, ofN]
 omega
theorem take_H (h28 : e 53 = none) (h29 : e 54 = none) (h48 : e 96 = none) (H : HR s L h r b pr pb σ) (hw : WF σ) (hB : σ.row.length + σ.blk.length < 2 ^ 41) (z : Int) :
  ∃ h' pr', callF (cxE m e) (blk (cxE m e)) 96 [vP L 0, vI z] h = some (.v (.int .i64 (σ.take z).2), h') /\ HR s L h' r b pr' pb (σ.take z).1 /\ Frm L h h' := by
 obtain ⟨bl, hbl, _⟩ := last_of hw.ne
 obtain ⟨id, rfl, htop⟩ := top_H (m := m) h28 H hw.ne (by omega)
 have hht : ldP h (.ptr id ((σ.blk.length - 1) * 4 + 2)) 1 false = some (.int .i64 bl.ht) := H.last hbl rfl rfl
 have hnv : ldP h (.ptr id ((σ.blk.length - 1) * 4 + 3)) 1 false = some (.bool bl.nv) := H.last hbl rfl rfl
 have hln := H.row.ln
 rw [encN_len] at hln
 have hle := hw.le bl (List.mem_of_getLast? hbl)
 unfold LS.take
 rw [hbl]
 simp only
 by_cases heq : σ.row.length = bl.ht
 ·rw [if_pos heq]
  have hz : eqZ (σ.row.length : Int) (bl.ht : Int) = true := eqZ_t (by omega)
  cases hn : bl.nv with
  | false =>
   rw [hn] at hnv
   obtain ⟨h', hf, hR, hF⟩ := fail_H (m := m) h29 H 4
   rw [if_neg (by simp)]
   exact ⟨h', pr, callF_of rfl rfl (by kernel_rfl) (w48_0 (z := z) (k0 := htop) (k1 := H.ld7) (k2 := hln) (k3 := hht) (k4 := hz) (k5 := hnv) (k6 := rfl) (k7 := hf)) h48, hR, hF⟩
  | true =>
   rw [hn] at hnv
   rw [if_pos rfl]
   exact ⟨h, pr, callF_of rfl rfl (by kernel_rfl) (w48_1 (z := z) (k0 := htop) (k1 := H.ld7) (k2 := hln) (k3 := hht) (k4 := hz) (k5 := hnv) (k6 := rfl)) h48, H, Frm.refl _ _⟩
 ·rw [if_neg heq]
  have hz : eqZ (σ.row.length : Int) (bl.ht : Int) = false := eqZ_f (by omega)
  have hpos : 0 < σ.row.length := by omega
  have hne : σ.row ≠ [] := List.length_pos_iff.1 hpos
  obtain ⟨got, hgot⟩ : ∃ got, σ.row.getLast? = some got := ⟨_, List.getLast?_eq_some_getLast hne⟩
  rw [hgot]
  simp only
  have hrow := H.row
  cases r with
  | none =>
   obtain ⟨_, h2⟩ := hrow
   simp [encN] at h2
   exact absurd h2 hne
  | some id7 =>
   have hpr : pr = .arr 1 id7 0 σ.row.length := by rw [hrow.1, encN_len]
   have hix := ixP_arr (n := 1) (id := id7) (len := σ.row.length) (wrapN (show σ.row.length < 2 ^ 41 by omega) hpos) (show σ.row.length - 1 < σ.row.length by omega)
   rw [← hpr] at hix
   have hg : ldP h (.ptr id7 ((σ.row.length - 1) * 1)) 1 false = some (.int .i64 got) := by
    have := hrow.get (encN_el _) (k := σ.row.length - 1) (j := 0) (x := [.int .i64 got]) (by
     show ((σ.row.map fun x => [AV.int .i64 x]) : List (List AV))[σ.row.length - 1]? = _
     rw [List.getElem?_map, ← List.getLast?_eq_getElem?, hgot]; rfl) rfl
    exact this
   have hsl : slA Tryz.prog 23 pr none (some (IntKind.wrap .i64 ((σ.row.length : Int) - Int.ofNat 1))) = some (.arr 1 id7 0 (σ.row.length - 1)) := by
    rw [hpr]
    exact sl23 (Nat.sub_le _ _) (wrapN (show σ.row.length < 2 ^ 41 by omega) hpos)
   have hst := stP_at (x := .v (.arr 1 id7 0 (σ.row.length - 1))) H.lk (k := 7) (by rw [lkC_len]; omega)
   have hset : (lkC s pr pb σ.err).set 7 (.v (.arr 1 id7 0 (σ.row.length - 1))) = lkC s (.arr 1 id7 0 (σ.row.length - 1)) pb σ.err := rfl
   rw [hset] at hst
   have hdl : encN σ.row.dropLast = (encN σ.row).take (σ.row.length - 1) := by
    unfold encN
    rw [List.dropLast_eq_take, List.map_take]
   have H1 : HR s L (h.put L (lkC s (.arr 1 id7 0 (σ.row.length - 1)) pb σ.err)) (some id7) (some id) (.arr 1 id7 0 (σ.row.length - 1)) pb { σ with row := σ.row.dropLast } := by
    have := H.put (pr' := .arr 1 id7 0 (σ.row.length - 1)) (σ' := { σ with row := σ.row.dropLast }) rfl (by
     show Sl h 1 (encN σ.row.dropLast) _ _
     rw [hdl]
     exact hrow.takeN (by rw [encN_len]; omega))
    exact this
   have F1 := Frm.put h L (lkC s (.arr 1 id7 0 (σ.row.length - 1)) pb σ.err)
   obtain ⟨h2, hf, H2, F2⟩ := fail_H (m := m) h29 H1 4
   have F3 := F1.trans F2
   by_cases g1 : got = z
   ·rw [if_neg (show ¬(got ≠ z /\ got ≠ -1 /\ z ≠ -1) from fun hh => hh.1 g1)]
    have z1 : (!eqZ got z) = false := by rw [eqZ_t g1]; rfl
    by_cases g2 : got = -1
    ·rw [if_pos g2]
     exact ⟨_, _, callF_of rfl rfl (by kernel_rfl) (w48_16 (z := z) (k0 := htop) (k1 := H.ld7) (k2 := hln) (k3 := hht) (k4 := hz) (k5 := H.ld7) (k6 := H.ld7) (k7 := hln) (k8 := hix) (k9 := hg) (k10 := H.ld7) (k11 := H.ld7) (k12 := hln) (k13 := hsl) (k14 := hst) (k15 := z1) (k16 := eqZ_t g2)) h48, H1, F1⟩
    ·rw [if_neg g2]
     exact ⟨_, _, callF_of rfl rfl (by kernel_rfl) (w48_17 (z := z) (k0 := htop) (k1 := H.ld7) (k2 := hln) (k3 := hht) (k4 := hz) (k5 := H.ld7) (k6 := H.ld7) (k7 := hln) (k8 := hix) (k9 := hg) (k10 := H.ld7) (k11 := H.ld7) (k12 := hln) (k13 := hsl) (k14 := hst) (k15 := z1) (k16 := eqZ_f g2)) h48, H1, F1⟩
   ·have z1 : (!eqZ got z) = true := by rw [eqZ_f g1]; rfl
    by_cases g2 : got = -1
    ·rw [if_neg (show ¬(got ≠ z /\ got ≠ -1 /\ z ≠ -1) from fun hh => hh.2.1 g2), if_pos g2]
     have z2 : (!eqZ got (Int.negSucc 0)) = false := congrArg not (eqZ_t (b := Int.negSucc 0) g2)
     exact ⟨_, _, callF_of rfl rfl (by kernel_rfl) (w48_14 (z := z) (k0 := htop) (k1 := H.ld7) (k2 := hln) (k3 := hht) (k4 := hz) (k5 := H.ld7) (k6 := H.ld7) (k7 := hln) (k8 := hix) (k9 := hg) (k10 := H.ld7) (k11 := H.ld7) (k12 := hln) (k13 := hsl) (k14 := hst) (k15 := z1) (k16 := z2) (k17 := eqZ_t g2)) h48, H1, F1⟩
    ·have z2 : (!eqZ got (Int.negSucc 0)) = true := congrArg not (eqZ_f (b := Int.negSucc 0) g2)
     rw [if_neg g2]
     by_cases g3 : z = -1
     ·rw [if_neg (show ¬(got ≠ z /\ got ≠ -1 /\ z ≠ -1) from fun hh => hh.2.2 g3)]
      have z3 : (!eqZ z (Int.negSucc 0)) = false := congrArg not (eqZ_t (b := Int.negSucc 0) g3)
      exact ⟨_, _, callF_of rfl rfl (by kernel_rfl) (w48_13 (z := z) (k0 := htop) (k1 := H.ld7) (k2 := hln) (k3 := hht) (k4 := hz) (k5 := H.ld7) (k6 := H.ld7) (k7 := hln) (k8 := hix) (k9 := hg) (k10 := H.ld7) (k11 := H.ld7) (k12 := hln) (k13 := hsl) (k14 := hst) (k15 := z1) (k16 := z2) (k17 := z3) (k18 := eqZ_f g2)) h48, H1, F1⟩
     ·rw [if_pos (show (got ≠ z /\ got ≠ -1 /\ z ≠ -1) from ⟨g1, g2, g3⟩)]
      have z3 : (!eqZ z (Int.negSucc 0)) = true := congrArg not (eqZ_f (b := Int.negSucc 0) g3)
      exact ⟨_, _, callF_of rfl rfl (by kernel_rfl) (w48_11 (z := z) (k0 := htop) (k1 := H.ld7) (k2 := hln) (k3 := hht) (k4 := hz) (k5 := H.ld7) (k6 := H.ld7) (k7 := hln) (k8 := hix) (k9 := hg) (k10 := H.ld7) (k11 := H.ld7) (k12 := hln) (k13 := hsl) (k14 := hst) (k15 := z1) (k16 := z2) (k17 := z3) (k18 := hf) (k19 := eqZ_f g2)) h48, H2, F3⟩
end
def LS.takeL : List Int -> LS -> LS
 | [], σ => σ
 | z :: zs, σ => LS.takeL zs (σ.take z).1
theorem takeL_app : ∀ (xs ys : List Int) (σ : LS), LS.takeL (xs ++ ys) σ = LS.takeL ys (LS.takeL xs σ)
 | [], _, _ => rfl
 | _ :: xs, ys, _ => takeL_app xs ys _
theorem all_takeL : ∀ (ts : List Int) (σ : LS), σ.all ts = LS.takeL ts.reverse σ
 | [], _ => rfl
 | t :: ts, σ => by
  rw [LS.all, all_takeL ts σ, List.reverse_cons, takeL_app]
  rfl
theorem takes_H {m : Int} {s : Scp} {L : Nat} {r b : Option Nat} {pb : AV} : ∀ (zs : List Int) {h : Heap} {pr : AV} {σ : LS}, HR s L h r b pr pb σ -> WF σ -> σ.row.length + σ.blk.length < 2 ^ 41 ->
  ∃ h' pr', takesR m (.ptr L 0) zs h = some h' /\ HR s L h' r b pr' pb (LS.takeL zs σ) /\ Frm L h h'
 | [], h, pr, σ, H, _, _ => ⟨h, pr, rfl, H, Frm.refl _ _⟩
 | z :: zs, h, pr, σ, H, hw, hB => by
  obtain ⟨h1, pr1, hc, H1, F1⟩ := take_H (m := m) (e := fun _ => none) rfl rfl rfl H hw hB z
  obtain ⟨h2, pr2, hc2, H2, F2⟩   := takes_H (m := m) zs H1 (hw.take z) (by rw [take_blk]; exact Nat.lt_of_le_of_lt (Nat.add_le_add_right (take_len z σ) _) hB)
  refine ⟨h2, pr2, ?_, H2, F1.trans F2⟩
  simp only [takesR, takeR, hc, Option.map_some, Option.bind_some, hc2]
theorem intsX_enc : ∀ zs : List Int, intsX (encN zs) = some zs
 | [] => rfl
 | z :: zs => by
  have := intsX_enc zs
  simp only [encN, List.map_cons, intsX] at this ⊢
  rw [this]; rfl
theorem all_H {m : Int} {s : Scp} {L : Nat} {h : Heap} {r b : Option Nat} {pr pb : AV} {σ : LS} (H : HR s L h r b pr pb σ) (hw : WF σ) (hB : σ.row.length + σ.blk.length < 2 ^ 41) {ts : List Int} (ht : ts.length < 2 ^ 41) :
  ∃ h' pr', cA m 52 [vP L 0, vM (encN ts)] h = some (.tup [], h') /\ HR s L h' r b pr' pb (σ.all ts) /\ Frm L h h' := by
 obtain ⟨h', pr', hc, H', F'⟩ := takes_H (m := m) ts.reverse H hw hB
 refine ⟨h', pr', callF_exh (e := allE m) rfl rfl rfl ?_, by rw [all_takeL]; exact H', F'⟩
 have hf : Fine m (.ptr L 0) h := fun zs => by
  obtain ⟨h2, _, hc2, _⟩ := takes_H (m := m) zs H hw hB
  exact ⟨h2, hc2⟩
 have hb : Nat.ble (ts.length * 8) 140737488351232 = true := Nat.ble_eq_true_of_le (by omega)
 simp only [allE, intsA, intsX_enc, Option.bind_some, hb, cond_true, if_pos hf, hc]
end Go.Proofs.YtoblgjmllmomhaaGreatDoor
namespace Go.Proofs.YtoblgjmllmomhaaGreatDoor
set_option maxRecDepth 100000
open Go Go.Proofs.Am
variable {m : Int} {s : Scp} {L : Nat} {h : Heap} {r b : Option Nat} {pr pb : AV} {σ : LS}
theorem fail_Z (H : HR s L h r b pr pb σ) (c : Int) : ∃ h', cA m 54 [vP L 0, .v (.ifc 56 (.int .i64 c))] h = some (.tup [], h') /\ HR s L h' r b pr pb (σ.fail c) /\ Frm L h h' :=
 fail_H (m := m) (e := exhZ m) rfl H c
theorem top_Z (H : HR s L h r b pr pb σ) (hne : σ.blk ≠ []) (hB : σ.blk.length < 2 ^ 41) : ∃ id, b = some id /\ cA m 53 [vP L 0] h = some (.v (.ptr id ((σ.blk.length - 1) * 4)), h) :=
 top_H (m := m) (e := exhZ m) rfl H hne hB
theorem take_Z (H : HR s L h r b pr pb σ) (hw : WF σ) (hB : σ.row.length + σ.blk.length < 2 ^ 41) (z : Int) :
  ∃ h' pr', cA m 96 [vP L 0, vI z] h = some (.v (.int .i64 (σ.take z).2), h') /\ HR s L h' r b pr' pb (σ.take z).1 /\ Frm L h h' :=
 take_H (m := m) (e := exhZ m) rfl rfl rfl H hw hB z
theorem room8 {n : Nat} (h : n < 2 ^ 41) : roomW (n + 1) 8 = true := by
 unfold roomW
 rw [Bool.and_eq_true, Bool.or_eq_true]
 exact ⟨.inl (Nat.ble_eq_true_of_le (by omega)), rfl⟩
theorem room64 {n : Nat} (h : n < 2 ^ 41) : roomW (n + 1) 64 = true := by
 unfold roomW
 rw [Bool.and_eq_true, Bool.or_eq_true]
 exact ⟨.inl (Nat.ble_eq_true_of_le (by omega)), rfl⟩
theorem HR.more (H : HR s L h r b pr pb σ) (hB : σ.row.length < 2 ^ 41) (z : Int) : ∃ id h1 h2, apH h pr 1 8 [[.int .i64 z]] = some (.arr 1 id 0 (σ.row.length + 1), h1) /\ stP h1 (.ptr L 7) [.v (.arr 1 id 0 (σ.row.length + 1))] = some h2 /\
  HR s L h2 (some id) b (.arr 1 id 0 (σ.row.length + 1)) pb { σ with row := σ.row ++ [z] } := by
 obtain ⟨id, h1, ha, hs, hf, hid, hl⟩ := apH_one (y := [.int .i64 z]) (bytes := 8) H.row (encN_el _) rfl (by decide) (by rw [encN_len]; exact room8 hB)
 rw [encN_len] at ha hs
 have hLl : L < h.bx.length := (List.getElem?_eq_some_iff.1 H.lk).1
 have hlk : h1.bx[L]? = some (lkC s pr pb σ.err) := (hf L H.rL hLl).trans H.lk
 have hst := stP_at (x := .v (.arr 1 id 0 (σ.row.length + 1))) hlk (k := 7) (by rw [lkC_len]; omega)
 have hset : (lkC s pr pb σ.err).set 7 (.v (.arr 1 id 0 (σ.row.length + 1))) = lkC s (.arr 1 id 0 (σ.row.length + 1)) pb σ.err := rfl
 rw [hset] at hst
 have hbs : Sl h1 4 (σ.blk.map encB) b pb := H.blk.same fun i hi => by
  subst hi
  exact hf i (fun e => H.rb i e rfl) H.blk.lt
 have hiL : some id ≠ some L := by
  rcases hid with e | e
  ·rw [← e]; exact H.rL
  ·intro e2; cases e2; omega
 refine ⟨id, h1, _, ha, hst, put_same hlk, ?_, hbs.put H.bL, hiL, H.bL, ?_⟩
 ·have : encN (σ.row ++ [z]) = encN σ.row ++ [[.int .i64 z]] := by rw [encN_app]; rfl
  rw [this]
  exact hs.put hiL
 ·intro i hi
  cases hi
  rcases hid with e | e
  ·exact H.rb _ e
  ·intro e2
   have := H.blk
   rw [e2] at this
   have := this.lt
   omega
theorem give_loop (ts : List Int) (ht : ts.length < 2 ^ 41) : ∀ (k i : Nat) {h : Heap} {r : Option Nat} {pr : AV} {σ : LS}, i + k = ts.length -> HR s L h r b pr pb σ -> σ.row.length + k < 2 ^ 41 ->
  ∃ h' r' pr', bA m 55 1 [vP L 0, vM (encN ts), vI (ts.length : Int), vI (i : Int)] h = some (.tup [], h') /\ HR s L h' r' b pr' pb (σ.give (ts.drop i))
 | 0, i, h, r, pr, σ, hi, H, _ => by
  refine ⟨h, r, pr, w30_1_2 (k0 := ltZ_f (by omega)), ?_⟩
  rw [List.drop_of_length_le (by omega)]
  simpa [LS.give] using H
 | k + 1, i, h, r, pr, σ, hi, H, hB => by
  have hlt : i < ts.length := by omega
  have hget : ts[i]? = some ts[i] := List.getElem?_eq_getElem hlt
  have hix : ixA (.imm (encN ts)) (i : Int) 1 = some [.int .i64 ts[i]] := ix_map (f := fun x => [AV.int .i64 x]) hget rfl
  have hw : IntKind.wrap .i64 ((i : Int) + Int.ofNat 1) = ((i + 1 : Nat) : Int) := wrapI (by unfold InZ; rw [ofN]; omega)
  have hd := drop_get hget
  by_cases hz : ts[i] = 0
  ·obtain ⟨h', r', pr', hc, H'⟩ := give_loop ts ht k (i + 1) (by omega) H (by omega)
   refine ⟨h', r', pr', w30_1_1 (k0 := ltZ_t (by omega)) (k1 := hix) (k2 := congrArg not (eqZ_t (b := Int.ofNat 0) hz)) (k3 := by rw [hw]; exact hc), ?_⟩
   have e : σ.give (ts.drop i) = σ.give (ts.drop (i + 1)) := by
    unfold LS.give
    rw [hd, List.filter_cons_of_neg (by simp [hz])]
   rw [e]; exact H'
  ·obtain ⟨id, h1, h2, ha, hst, H2⟩ := H.more (by omega) ts[i]
   obtain ⟨h', r', pr', hc, H'⟩ := give_loop ts ht k (i + 1) (by omega) H2 (by simp; omega)
   refine ⟨h', r', pr', w30_1_0 (k0 := ltZ_t (by omega)) (k1 := hix) (k2 := congrArg not (eqZ_f (b := Int.ofNat 0) hz)) (k3 := H.ld7) (k4 := ha) (k5 := hst) (k6 := by rw [hw]; exact hc), ?_⟩
   have e : σ.give (ts.drop i) = ({ σ with row := σ.row ++ [ts[i]] } : LS).give (ts.drop (i + 1)) := by
    unfold LS.give
    rw [hd, List.filter_cons_of_pos (by simp [hz])]
    simp
   rw [e]; exact H'
theorem give_Z (H : HR s L h r b pr pb σ) {ts : List Int} (hB : σ.row.length + ts.length < 2 ^ 41) :
  ∃ h' r' pr', cA m 55 [vP L 0, vM (encN ts)] h = some (.tup [], h') /\ HR s L h' r' b pr' pb (σ.give ts) := by
 obtain ⟨h', r', pr', hc, H'⟩ := give_loop (m := m) ts (by omega) ts.length 0 (by omega) H hB
 exact ⟨h', r', pr', callF_of rfl rfl (by kernel_rfl) (w30_0 (k0 := by show some _ = some _; rw [encN_len]) (k1 := hc)), H'⟩
theorem setNv_eq : ∀ (l : List Blk) (x : Blk), l.getLast? = some x -> setNv l = l.set (l.length - 1) { x with nv := true }
 | [], x, h => by simp at h
 | [y], x, h => by simp at h; subst h; rfl
 | y :: z :: l, x, h => by
  have := setNv_eq (z :: l) x (by simpa using h)
  rw [setNv, this]
  rfl
theorem stop_Z (H : HR s L h r b pr pb σ) (hw : WF σ) (hB : σ.blk.length < 2 ^ 41) : ∃ h' pr', cA m 93 [vP L 0] h = some (.tup [], h') /\ HR s L h' r b pr' pb σ.stop := by
 obtain ⟨bl, hbl, _⟩ := last_of hw.ne
 obtain ⟨id, rfl, htop⟩ := top_Z (m := m) H hw.ne hB
 have hht : ldP h (.ptr id ((σ.blk.length - 1) * 4 + 2)) 1 false = some (.int .i64 bl.ht) := H.last hbl rfl rfl
 have hle := hw.le bl (List.mem_of_getLast? hbl)
 have hmem : (σ.blk.map encB)[σ.blk.length - 1]? = some (encB bl) := by
  rw [List.getElem?_map, ← List.getLast?_eq_getElem?, hbl]; rfl
 have hstop : σ.stop = { σ with row := σ.row.take bl.ht, blk := setNv σ.blk } := by
  unfold LS.stop
  rw [hbl]
 have hnv : (σ.blk.map encB).set (σ.blk.length - 1) ((encB bl).set 3 (.bool true)) = (setNv σ.blk).map encB := by
  rw [setNv_eq _ _ hbl, List.map_set]
  rfl
 have key : ∀ (pr' : AV), Sl h 1 (encN (σ.row.take bl.ht)) r pr' -> slA Tryz.prog 23 pr none (some (bl.ht : Int)) = some pr' ->
   ∃ h1 h2, stP h (.ptr L 7) [.v pr'] = some h1 /\ stP h1 (.ptr id ((σ.blk.length - 1) * 4 + 3)) [vB true] = some h2 /\ HR s L h2 r (some id) pr' pb σ.stop := by
  intro pr' hsl _
  have hst := stP_at (x := .v pr') H.lk (k := 7) (by rw [lkC_len]; omega)
  have hset : (lkC s pr pb σ.err).set 7 (.v pr') = lkC s pr' pb σ.err := rfl
  rw [hset] at hst
  have H1 : HR s L (h.put L (lkC s pr' pb σ.err)) r (some id) pr' pb { σ with row := σ.row.take bl.ht } := H.put (σ' := { σ with row := σ.row.take bl.ht }) rfl hsl
  obtain ⟨h2, hs2, hb2, hf2, hl2⟩ := H1.blk.setN (encB_el _) (j := 3) hmem (by omega) (.bool true)
  refine ⟨_, h2, hst, hs2, ?_⟩
  rw [hstop]
  refine ⟨(hf2 L (fun e => H.bL (by rw [e]))).trans H1.lk, H1.row.same fun i hi => hf2 i (fun e => H.rb i hi (by rw [e])), ?_, H.rL, H.bL, H.rb⟩
  show Sl h2 4 ((setNv σ.blk).map encB) (some id) pb
  rw [← hnv]
  exact hb2
 have htk : encN (σ.row.take bl.ht) = (encN σ.row).take bl.ht := by unfold encN; rw [List.map_take]
 cases r with
 | none =>
  obtain ⟨rfl, he⟩ := H.row
  have hrow : σ.row = [] := by simpa [encN] using he
  rw [hrow] at hle
  have h0 : bl.ht = 0 := by simpa using hle
  have hs0 : slA Tryz.prog 23 .nilS none (some (bl.ht : Int)) = some .nilS := sl23n (by omega)
  obtain ⟨h1, h2, e1, e2, H2⟩ := key .nilS ⟨rfl, by rw [htk, he]; simp⟩ hs0
  exact ⟨h2, _, callF_of rfl rfl (by kernel_rfl) (w45_0 (k0 := htop) (k1 := H.ld7) (k2 := hht) (k3 := hs0) (k4 := e1) (k5 := e2)), H2⟩
 | some id7 =>
  have hpr : pr = .arr 1 id7 0 σ.row.length := by rw [H.row.1, encN_len]
  have hs0 : slA Tryz.prog 23 pr none (some (bl.ht : Int)) = some (.arr 1 id7 0 bl.ht) := by rw [hpr]; exact sl23 hle rfl
  obtain ⟨h1, h2, e1, e2, H2⟩ := key (.arr 1 id7 0 bl.ht) (by rw [htk]; exact H.row.takeN (by rw [encN_len]; exact hle)) hs0
  exact ⟨h2, _, callF_of rfl rfl (by kernel_rfl) (w45_1 (k0 := htop) (k1 := H.ld7) (k2 := hht) (k3 := hs0) (k4 := e1) (k5 := e2)), H2⟩
theorem lbl_Z (H : HR s L h r b pr pb σ) (hne : σ.blk ≠ []) (hB : σ.blk.length < 2 ^ 41) {n : Int} (h0 : 0 <= n) :
  (∃ t, σ.lbl n = some t /\ cA m 121 [vP L 0, vI n] h = some (.tup [.imm (encN t), .bool true], h)) ∨
  (σ.lbl n = none /\ ∃ h', cA m 121 [vP L 0, vI n] h = some (.tup [.imm [], .bool false], h') /\ HR s L h' r b pr pb (σ.fail 5)) := by
 obtain ⟨id, rfl, hpb⟩ := H.bid hne
 have hln := H.blk.ln
 rw [List.length_map] at hln
 have hpos := List.length_pos_iff.2 hne
 unfold LS.lbl
 by_cases hn : n < σ.blk.length
 ·left
  have hk : σ.blk.length - 1 - n.toNat < σ.blk.length := by omega
  have hg : σ.blk[σ.blk.length - 1 - n.toNat]? = some σ.blk[σ.blk.length - 1 - n.toNat] := List.getElem?_eq_getElem hk
  rw [if_pos hn, hg]
  refine ⟨_, rfl, callF_of rfl rfl (by kernel_rfl) (w54_1 (x4_12_i := id) (x4_12_o := (σ.blk.length - 1 - n.toNat) * 4) (k0 := H.ld8) (k1 := hln) (k2 := leZ_f hn) (k3 := H.ld8) (k4 := H.ld8) (k5 := hln) (k6 := ?_) (k7 := ?_))⟩
  ·rw [hpb, wrapN hB hpos]
   refine ixP_arr ?_ hk
   rw [wrapI (by unfold InZ; omega)]
   omega
  ·exact H.blk.get (encB_el _) (j := 0) (by rw [List.getElem?_map, hg]; rfl) rfl
 ·right
  rw [if_neg hn]
  obtain ⟨h', hf, H', _⟩ := fail_Z (m := m) H 5
  exact ⟨rfl, h', callF_of rfl rfl (by kernel_rfl) (w54_0 (k0 := H.ld8) (k1 := hln) (k2 := leZ_t (by omega)) (k3 := hf)), H'⟩
theorem list_Z (t : Int) (h : Heap) : cA m 22 [vI t] h = some (.v (.imm (encN (rsl t))), h) := by
 unfold rsl
 by_cases ht : t = 0
 ·rw [if_pos ht]
  exact callF_of rfl rfl (by kernel_rfl) (w16_0 (k0 := eqZ_t ht))
 ·rw [if_neg ht]
  exact callF_of rfl rfl (by kernel_rfl) (w16_1 (k0 := eqZ_f ht))
end Go.Proofs.YtoblgjmllmomhaaGreatDoor
