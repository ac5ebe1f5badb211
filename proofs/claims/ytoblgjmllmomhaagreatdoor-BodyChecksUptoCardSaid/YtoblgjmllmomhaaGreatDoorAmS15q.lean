/-
  The looker: any instruction, any code.
-/
import Derived.Test.YtoblgjmllmomhaaGreatDoorAmS15m
import Derived.Test.YtoblgjmllmomhaaGreatDoorAmS15wB
import Derived.Test.YtoblgjmllmomhaaGreatDoorAmBodyC
namespace Go.Proofs.YtoblgjmllmomhaaGreatDoor
set_option maxRecDepth 100000
open Go Go.Proofs.Am
section
variable {m : Int} {s : Scp} {L : Nat} {h : Heap} {σ : LS} {N : Nat}
theorem push_H {r b : Option Nat} {pr pb : AV} (H : HR s L h r b pr pb σ) (hB : σ.blk.length < 2 ^ 41) (la re : List Int) : ∃ id h1 h2, apH h pb 4 64 [[.imm (encN la), .imm (encN re), .int .i64 (σ.row.length : Int), .bool false]] = some (.arr 4 id 0 (σ.blk.length + 1), h1) /\
  stP h1 (.ptr L 8) [.v (.arr 4 id 0 (σ.blk.length + 1))] = some h2 /\ HR s L h2 r (some id) pr (.arr 4 id 0 (σ.blk.length + 1)) (σ.push la re) := by
 obtain ⟨id, h1, ha, hs, hf, hid, hl⟩ := apH_one (y := encB ⟨la, re, σ.row.length, false⟩) (bytes := 64) H.blk (encB_el _) rfl (by decide) (by rw [List.length_map]; exact room64 hB)
 rw [List.length_map] at ha hs
 have hLl : L < h.bx.length := (List.getElem?_eq_some_iff.1 H.lk).1
 have hlk : h1.bx[L]? = some (lkC s pr pb σ.err) := (hf L H.bL hLl).trans H.lk
 have hst := stP_at (x := .v (.arr 4 id 0 (σ.blk.length + 1))) hlk (k := 8) (by rw [lkC_len]; omega)
 have hset : (lkC s pr pb σ.err).set 8 (.v (.arr 4 id 0 (σ.blk.length + 1))) = lkC s pr (.arr 4 id 0 (σ.blk.length + 1)) σ.err := rfl
 rw [hset] at hst
 have hrs : Sl h1 1 (encN σ.row) r pr := H.row.same fun i hi => by
  subst hi
  exact hf i (fun e => H.rb i rfl e) H.row.lt
 have hiL : some id ≠ some L := by
  rcases hid with e | e
  ·rw [← e]; exact H.bL
  ·intro e2; cases e2; omega
 refine ⟨id, h1, _, ha, hst, put_same hlk, hrs.put H.rL, ?_, H.rL, hiL, ?_⟩
 ·have : (σ.push la re).blk.map encB = σ.blk.map encB ++ [encB ⟨la, re, σ.row.length, false⟩] := by simp [LS.push]
  rw [this]
  exact hs.put hiL
 ·intro i hi e2
  cases e2
  rcases hid with e | e
  ·exact H.rb _ hi e
  ·have := H.row
   rw [hi] at this
   have := this.lt
   omega
theorem ld9R (H : Rel s L h σ) : ldP h (.ptr L 9) 1 false = some (errA σ.err) := H.ld fun _ _ => rfl
theorem code_R {xs : List Ins} {la re : List Int} (H : Rel s L h σ) (I : Inv N σ) (hN : N < 2 ^ 41)
  (hloop : ∀ {h1 : Heap}, Rel s L h1 (σ.push la re) -> ∃ h', bA m 21 3 [vP L 0, vM (encN re), vM (encIs xs), .v (.int .i64 (Int.ofNat (encIs xs).length)), vI (Int.ofNat 0)] h1 = some (.tup [], h') /\ Rel s L h' (LS.runL opI s xs re (σ.push la re))) :
  ∃ h', cA m 21 [vP L 0, vM (encIs xs), vM (encN la), vM (encN re)] h = some (.tup [], h') /\ Rel s L h' (if σ.err.isSome then σ else LS.runL opI s xs re (σ.push la re)) := by
 have h9 := ld9R H
 have hq := err_neq σ.err
 cases he : σ.err with
 | some c =>
  rw [he] at h9 hq
  exact ⟨h, cO (w15_0 (k0 := h9) (k1 := hq) (k2 := rfl)), by rw [if_pos (show (some c).isSome = true from rfl)]; exact H⟩
 | none =>
  rw [he] at h9 hq
  have hsz := I.sz
  obtain ⟨r, b, pr, pb, H⟩ := H
  obtain ⟨id, h1, h2, ha, hst, H2⟩ := push_H H (by omega) la re
  obtain ⟨h', hc, H'⟩ := hloop ⟨_, _, _, _, H2⟩
  have hln := H.row.ln
  rw [encN_len] at hln
  exact ⟨h', cO (w15_1 (k0 := h9) (k1 := hq) (k2 := rfl) (k3 := H.ld8) (k4 := H.ld7) (k5 := hln) (k6 := ha) (k7 := hst) (k8 := hc)), by rw [if_neg (by simp)]; exact H'⟩
theorem min_eq (a b : Nat) : (bif decide ((a : Int) < (b : Int)) then (a : Int) else (b : Int)) = ((min b a : Nat) : Int) := by
 by_cases h : (a : Int) < (b : Int)
 ·rw [decide_eq_true h, cond_true]; omega
 ·rw [decide_eq_false h, cond_false]; omega
theorem fin_R {re : List Int} {xs : List (List AV)} (hre : re.length <= 1) (H : Rel s L h σ) (I : Inv N σ) (hN : N + 1 < 2 ^ 41) {n : Int} {i : Nat} (hi : n <= (i : Int)) :
  ∃ h', bA m 21 3 [vP L 0, vM (encN re), vM xs, vI n, vI (Int.ofNat i)] h = some (.tup [], h') /\ Rel s L h' (σ.fin re) := by
 have k0 : ltZ (Int.ofNat i) n = false := ltZ_f (by rw [ofN]; exact hi)
 obtain ⟨h1, c1, H1, _⟩ := all_R (m := m) H I (by omega) (ts := re) (by omega)
 have I1 := I.all re
 unfold LS.fin
 generalize σ.all re = τ at H1 I1 ⊢
 obtain ⟨bl, hbl, _⟩ := last_of I1.wf.ne
 have hle := I1.wf.le bl (List.mem_of_getLast? hbl)
 have hsz := I1.sz
 have hpos := I1.pos
 unfold LS.fin1
 rw [hbl]
 simp only
 obtain ⟨r, b, pr, pb, H1⟩ := H1
 obtain ⟨id, rfl, htop⟩ := top_Z (m := m) H1 I1.wf.ne (by omega)
 have hht : ldP h1 (.ptr id ((τ.blk.length - 1) * 4 + 2)) 1 false = some (.int .i64 bl.ht) := H1.last hbl rfl rfl
 have hln := H1.row.ln
 rw [encN_len] at hln
 have tail : ∀ {h2 : Heap} {τ2 : LS}, HR s L h2 r (some id) pr pb τ2 -> Inv N τ2 -> τ2.row = τ.row -> τ2.blk = τ.blk ->
   ∃ pr' pb' h3 h4 h5, pb' = .arr 4 id 0 (τ.blk.length - 1) /\ ((pr = .nilS /\ pr' = .nilS) ∨ (∃ q, pr' = .arr 1 q 0 (min bl.ht τ.row.length))) /\ slA Tryz.prog 23 pr none (some (bif decide ((τ.row.length : Int) < (bl.ht : Int)) then (τ.row.length : Int) else (bl.ht : Int))) = some pr' /\ stP h2 (.ptr L 7) [.v pr'] = some h3 /\
    ldP h3 (.ptr L 8) 1 false = some pb /\ lnS pb = some (τ.blk.length : Int) /\ slA Tryz.prog 63 pb none (some (IntKind.wrap .i64 ((τ.blk.length : Int) - Int.ofNat 1))) = some pb' /\ stP h3 (.ptr L 8) [.v pb'] = some h4 /\
    cA m 55 [vP L 0, vM (encN re)] h4 = some (.tup [], h5) /\ Rel s L h5 (τ2.fin2 re bl) := by
  intro h2 τ2 H2 I2 er eb
  have hpb : pb = .arr 4 id 0 τ.blk.length := by rw [H2.blk.1, List.length_map, eb]
  have hw : IntKind.wrap .i64 ((τ.blk.length : Int) - Int.ofNat 1) = ((τ.blk.length - 1 : Nat) : Int) := wrapN (by omega) hpos
  have hmin := min_eq τ.row.length bl.ht
  have hmle : min bl.ht τ.row.length <= τ.row.length := Nat.min_le_right _ _
  have htk : encN (τ.row.take (min bl.ht τ.row.length)) = (encN τ.row).take (min bl.ht τ.row.length) := by unfold encN; rw [List.map_take]
  have hrow : ∃ pr', ((pr = .nilS /\ pr' = .nilS) ∨ (∃ q, pr' = .arr 1 q 0 (min bl.ht τ.row.length))) /\ slA Tryz.prog 23 pr none (some ((min bl.ht τ.row.length : Nat) : Int)) = some pr' /\ Sl h2 1 (encN (τ.row.take (min bl.ht τ.row.length))) r pr' := by
   have hr := H2.row
   rw [er] at hr
   cases r with
   | none =>
    obtain ⟨e1, e2⟩ := hr
    have e3 : τ.row = [] := by simpa [encN] using e2
    refine ⟨.nilS, .inl ⟨e1, rfl⟩, ?_, rfl, by rw [htk, e2]; simp⟩
    rw [e1]
    exact sl23n (by rw [e3]; simp)
   | some q =>
    have hpr : pr = .arr 1 q 0 τ.row.length := by rw [hr.1, encN_len]
    refine ⟨.arr 1 q 0 (min bl.ht τ.row.length), .inr ⟨q, rfl⟩, ?_, ?_⟩
    ·rw [hpr]; exact sl23 hmle rfl
    ·rw [htk]
     exact hr.takeN (by rw [encN_len]; exact hmle)
  obtain ⟨pr', hpr', hsl, hS⟩ := hrow
  have hst7 := stP_at (x := .v pr') H2.lk (k := 7) (by rw [lkC_len]; omega)
  have hset7 : (lkC s pr pb τ2.err).set 7 (.v pr') = lkC s pr' pb τ2.err := rfl
  rw [hset7] at hst7
  have H3 : HR s L (h2.put L (lkC s pr' pb τ2.err)) r (some id) pr' pb { τ2 with row := τ.row.take (min bl.ht τ.row.length) } := H2.put (σ' := { τ2 with row := τ.row.take (min bl.ht τ.row.length) }) rfl hS
  have hst8 := stP_at (x := .v (.arr 4 id 0 (τ.blk.length - 1))) H3.lk (k := 8) (by rw [lkC_len]; omega)
  have hset8 : (lkC s pr' pb τ2.err).set 8 (.v (.arr 4 id 0 (τ.blk.length - 1))) = lkC s pr' (.arr 4 id 0 (τ.blk.length - 1)) τ2.err := rfl
  rw [hset8] at hst8
  have hdl : τ.blk.dropLast.map encB = (τ.blk.map encB).take (τ.blk.length - 1) := by rw [List.dropLast_eq_take, List.map_take]
  have H4 : Rel s L ((h2.put L (lkC s pr' pb τ2.err)).put L (lkC s pr' (.arr 4 id 0 (τ.blk.length - 1)) τ2.err)) { τ2 with row := τ.row.take (min bl.ht τ.row.length), blk := τ.blk.dropLast } := by
   refine ⟨r, some id, pr', .arr 4 id 0 (τ.blk.length - 1), put_same H3.lk, H3.row.put H3.rL, ?_, H3.rL, H3.bL, H3.rb⟩
   show Sl _ 4 (τ.blk.dropLast.map encB) (some id) _
   rw [hdl]
   have hb3 := H3.blk
   simp only [eb] at hb3
   exact (hb3.takeN (by rw [List.length_map]; omega)).put H3.bL
  obtain ⟨r5, b5, pr5, pb5, H4⟩ := H4
  obtain ⟨h5, r6, pr6, c5, H5⟩ := give_Z (m := m) H4 (ts := re) (by
   simp only [List.length_take]; omega)
  refine ⟨pr', _, _, _, h5, rfl, hpr', by rw [hmin]; exact hsl, hst7, H3.ld8, by rw [hpb]; rfl, by rw [hw, hpb]; exact sl50 (Nat.sub_le _ _) rfl, hst8, c5, ⟨r6, b5, pr6, pb5, ?_⟩⟩
  have e : τ2.fin2 re bl = LS.give re { τ2 with row := τ.row.take (min bl.ht τ.row.length), blk := τ.blk.dropLast } := by
   unfold LS.fin2
   rw [er, eb]
  rw [e]
  exact H5
 by_cases heq : τ.row.length = bl.ht
 ·rw [if_pos heq]
  have hz : (!eqZ (τ.row.length : Int) (bl.ht : Int)) = false := congrArg not (eqZ_t (by omega))
  obtain ⟨pr', pb', h3, h4, h5, rfl, hor, hsl, hst7, hl8, hlb, hslb, hst8, hg, H5⟩ := tail H1 I1 rfl rfl
  refine ⟨h5, ?_, H5⟩
  rcases hor with ⟨rfl, rfl⟩ | ⟨q, rfl⟩
  ·exact w15_3_7 (k0 := k0) (k1 := c1) (k2 := H1.ld7) (k3 := hln) (k4 := htop) (k5 := hht) (k6 := hz) (k7 := H1.ld7) (k8 := htop) (k9 := hht) (k10 := H1.ld7) (k11 := hln) (k12 := hsl) (k13 := hst7) (k14 := hl8) (k15 := hl8) (k16 := hlb) (k17 := hslb) (k18 := hst8) (k19 := hg)
  ·exact w15_3_9 (k0 := k0) (k1 := c1) (k2 := H1.ld7) (k3 := hln) (k4 := htop) (k5 := hht) (k6 := hz) (k7 := H1.ld7) (k8 := htop) (k9 := hht) (k10 := H1.ld7) (k11 := hln) (k12 := hsl) (k13 := hst7) (k14 := hl8) (k15 := hl8) (k16 := hlb) (k17 := hslb) (k18 := hst8) (k19 := hg)
 ·rw [if_neg heq]
  have hz : (!eqZ (τ.row.length : Int) (bl.ht : Int)) = true := congrArg not (eqZ_f (by omega))
  obtain ⟨h2, c2, H2, _⟩ := fail_Z (m := m) H1 4
  have hbl2 : (τ.fail 4).blk.getLast? = some bl := by rw [fail_blk]; exact hbl
  obtain ⟨id2, e2, htop2⟩ := top_Z (m := m) H2 (I1.fail 4).wf.ne (by rw [fail_blk]; omega)
  cases e2
  have hht2 : ldP h2 (.ptr id (((τ.fail 4).blk.length - 1) * 4 + 2)) 1 false = some (.int .i64 bl.ht) := H2.last hbl2 rfl rfl
  obtain ⟨pr', pb', h3, h4, h5, rfl, hor, hsl, hst7, hl8, hlb, hslb, hst8, hg, H5⟩ := tail H2 (I1.fail 4) (fail_row _ _) (fail_blk _ _)
  refine ⟨h5, ?_, H5⟩
  rcases hor with ⟨rfl, rfl⟩ | ⟨q, rfl⟩
  ·exact w15_3_3 (k0 := k0) (k1 := c1) (k2 := H1.ld7) (k3 := hln) (k4 := htop) (k5 := hht) (k6 := hz) (k7 := c2) (k8 := H2.ld7) (k9 := htop2) (k10 := hht2) (k11 := H2.ld7) (k12 := hln) (k13 := hsl) (k14 := hst7) (k15 := hl8) (k16 := hl8) (k17 := hlb) (k18 := hslb) (k19 := hst8) (k20 := hg)
  ·exact w15_3_5 (k0 := k0) (k1 := c1) (k2 := H1.ld7) (k3 := hln) (k4 := htop) (k5 := hht) (k6 := hz) (k7 := c2) (k8 := H2.ld7) (k9 := htop2) (k10 := hht2) (k11 := H2.ld7) (k12 := hln) (k13 := hsl) (k14 := hst7) (k15 := hl8) (k16 := hl8) (k17 := hlb) (k18 := hslb) (k19 := hst8) (k20 := hg)
end
end Go.Proofs.YtoblgjmllmomhaaGreatDoor
namespace Go.Proofs.YtoblgjmllmomhaaGreatDoor
set_option maxRecDepth 100000
open Go Go.Proofs.Am
section
variable {m : Int} {s : Scp} {L R : Nat}
def codeB (s : Scp) (xs : List Ins) (la re : List Int) (σ : LS) : LS := if σ.err.isSome then σ else LS.runL opI s xs re (σ.push la re)
def endB (s : Scp) (t : Int) (q : Bool) (el : List Ins) (σ : LS) : LS := if q = true /\ σ.err = none then codeB s el (rsl t) (rsl t) (σ.all (rsl t)) else σ
def CodeR (m : Int) (s : Scp) (L : Nat) (xs : List Ins) (c : Nat) : Prop := ∀ ⦃h : Heap⦄ ⦃la re : List Int⦄ ⦃N : Nat⦄ ⦃σ : LS⦄, la.length <= 1 -> re.length <= 1 -> Inv N σ -> N + c + 2 < 2 ^ 41 -> Rel s L h σ ->
 ∃ h', cA m 21 [vP L 0, vM (encIs xs), vM (encN la), vM (encN re)] h = some (.tup [], h') /\ Rel s L h' (codeB s xs la re σ)
theorem instr_none {o a b v t : Int} {l : List Int} {bd el : List Ins} {q : Bool} {σ : LS} (h : opI o = none) : LS.instr opI s (.mk o a b v t l bd el q) σ = σ.fail 1 := by
 unfold LS.instr
 rw [h]
theorem instr_some {o a b v t : Int} {l : List Int} {bd el : List Ins} {q : Bool} {σ : LS} {r : OpR} (h : opI o = some r) : LS.instr opI s (.mk o a b v t l bd el q) σ =
  if r.kind = 2 then (if o = 3 then codeB s bd [] (rsl t) σ else endB s t q el (codeB s bd (rsl t) (rsl t) (LS.cond o t q σ)))
  else if r.kind = 3 then σ.jump s o a l
   else if r.kind = 4 then σ.call s o a
   else if r.kind = 5 then σ.any o
   else if r.kind = 6 then σ.var s o a
   else if o = 0 then σ.stop
   else σ.plain s r a := by
 unfold LS.instr
 rw [h]
 rfl
variable {o a b v t : Int} {ll : List (List AV)} {bd el : List Ins} {q : Bool} {ob ok gv bz : Int} {tk : List (List AV)} {sg : Bool} {h : Heap} {σ : LS} {N cb cl : Nat}
theorem tail_R (hl : CodeR m s L el cl) {τ : LS} {h9 : Heap} {M : Nat} (H : Rel s L h9 τ) (I : Inv M τ) (hM : M + cl + 2 < 2 ^ 41) (t : Int) (he : τ.err = none) :
  ∃ h11 h12, cA m 52 [vP L 0, .v (.imm (encN (rsl t)))] h9 = some (.tup [], h11) /\ cA m 21 [vP L 0, vM (encIs el), .v (.imm (encN (rsl t))), .v (.imm (encN (rsl t)))] h11 = some (.tup [], h12) /\ Rel s L h12 (endB s t true el τ) := by
 have hr := rsl_len t
 obtain ⟨h11, c1, H1, _⟩ := all_R (m := m) H I (by omega) (ts := rsl t) (by omega)
 obtain ⟨h12, c2, H2⟩ := hl hr hr (I.all (rsl t)) hM H1
 refine ⟨h11, h12, c1, c2, ?_⟩
 unfold endB
 rw [if_pos ⟨rfl, he⟩]
 exact H2
theorem endB_err {τ : LS} {c : Int} (he : τ.err = some c) : endB s t q el τ = τ := by
 unfold endB
 rw [if_neg (by rw [he]; simp)]
theorem endB_no {τ : LS} : endB s t false el τ = τ := by
 unfold endB
 rw [if_neg (by simp)]
theorem loopB_R (hb : CodeR m s L bd cb) (I : Inv N σ) (hN : N + cb + 2 < 2 ^ 41) (H : Rel s L h σ) :
  ∃ h', cA m 88 [vP L 0, .v (opA ob (sb [108, 111, 111, 112]) ok tk gv bz sg), .v (inA o a b v t ll (encIs bd) (encIs el) q)] h = some (.tup [], h') /\ Rel s L h' (codeB s bd [] (rsl t) σ) := by
 obtain ⟨h', c, H'⟩ := hb (la := []) (by simp) (rsl_len t) I hN H
 exact ⟨h', cO (w40l_0 (k0 := list_Z _ _) (k1 := c)), H'⟩
theorem g_codeB (hg : RunL opI s cb bd) {la re : List Int} (hl : la.length <= 1) (hr : re.length <= 1) (I : Inv N σ) : Inv (N + (cb + 1)) (codeB s bd la re σ) := (g_code hg hl hr N σ I).1
theorem blockB_R (hb : CodeR m s L bd cb) (hg : RunL opI s cb bd) (hl : CodeR m s L el cl) (I : Inv N σ) (hN : N + cb + cl + 3 < 2 ^ 41) (H : Rel s L h σ) :
  ∃ h', cA m 88 [vP L 0, .v (opA ob (sb [98, 108, 111, 99, 107]) ok tk gv bz sg), .v (inA o a b v t ll (encIs bd) (encIs el) q)] h = some (.tup [], h') /\ Rel s L h' (endB s t q el (codeB s bd (rsl t) (rsl t) σ)) := by
 have hr := rsl_len t
 obtain ⟨h9, c1, H1⟩ := hb hr hr I (by omega) H
 have I1 := g_codeB hg hr hr I
 generalize codeB s bd (rsl t) (rsl t) σ = τ at H1 I1 ⊢
 cases q with
 | false =>
  rw [endB_no]
  exact ⟨h9, cO (w40b_2 (k0 := list_Z _ _) (k1 := c1) (k2 := rfl)), H1⟩
 | true =>
  have l9 := ld9R H1
  have hq := err_eql τ.err
  cases he : τ.err with
  | some c =>
   rw [he] at l9 hq
   rw [endB_err he]
   exact ⟨h9, cO (w40b_1 (k0 := list_Z _ _) (k1 := c1) (k2 := rfl) (k3 := l9) (k4 := hq) (k5 := rfl)), H1⟩
  | none =>
   rw [he] at l9 hq
   obtain ⟨h11, h12, c2, c3, H2⟩ := tail_R hl H1 I1 (by omega) t he
   exact ⟨h12, cO (w40b_0 (k0 := list_Z _ _) (k1 := c1) (k2 := rfl) (k3 := l9) (k4 := hq) (k5 := rfl) (k6 := c2) (k7 := c3)), H2⟩
theorem ifB_R (hb : CodeR m s L bd cb) (hg : RunL opI s cb bd) (hl : CodeR m s L el cl) (I : Inv N σ) (hN : N + cb + cl + 3 < 2 ^ 41) (H : Rel s L h σ) :
  ∃ h', cA m 88 [vP L 0, .v (opA ob (sb [105, 102]) ok tk gv bz sg), .v (inA o a b v t ll (encIs bd) (encIs el) q)] h = some (.tup [], h') /\ Rel s L h' (endB s t q el (codeB s bd (rsl t) (rsl t) (LS.cond 4 t q σ))) := by
 have hr := rsl_len t
 obtain ⟨h6, c6, H6, _⟩ := take_R (m := m) H I (by omega) 1
 have I6 := I.take 1
 cases q with
 | false =>
  rw [endB_no]
  by_cases ht : t = 0
  ·have e : LS.cond 4 t false σ = (σ.take 1).1 := by
    unfold LS.cond
    rw [if_pos rfl, if_neg (by rintro ⟨_, x⟩; exact x ht)]
   rw [e]
   obtain ⟨h9, c1, H1⟩ := hb hr hr I6 (by omega) H6
   exact ⟨h9, cO (w40i_5 (k0 := list_Z _ _) (k1 := c6) (k2 := rfl) (k3 := congrArg not (eqZ_t (b := Int.ofNat 0) ht)) (k4 := c1) (k5 := rfl)), H1⟩
  ·have e : LS.cond 4 t false σ = (σ.take 1).1.fail 4 := by
    unfold LS.cond
    rw [if_pos rfl, if_pos ⟨rfl, ht⟩]
   rw [e]
   obtain ⟨h8, c8, H8, _⟩ := fail_R (m := m) H6 4
   obtain ⟨h9, c1, H1⟩ := hb hr hr (I6.fail 4) (by omega) H8
   exact ⟨h9, cO (w40i_2 (k0 := list_Z _ _) (k1 := c6) (k2 := rfl) (k3 := congrArg not (eqZ_f (b := Int.ofNat 0) ht)) (k4 := c8) (k5 := c1) (k6 := rfl)), H1⟩
 | true =>
  have e : LS.cond 4 t true σ = (σ.take 1).1 := by
   unfold LS.cond
   rw [if_pos rfl, if_neg (by simp)]
  rw [e]
  obtain ⟨h9, c1, H1⟩ := hb hr hr I6 (by omega) H6
  have I1 := g_codeB hg hr hr I6
  generalize codeB s bd (rsl t) (rsl t) (σ.take 1).1 = τ at H1 I1 ⊢
  have l9 := ld9R H1
  have hq := err_eql τ.err
  cases he : τ.err with
  | some c =>
   rw [he] at l9 hq
   rw [endB_err he]
   exact ⟨h9, cO (w40i_7 (k0 := list_Z _ _) (k1 := c6) (k2 := rfl) (k3 := c1) (k4 := rfl) (k5 := l9) (k6 := hq) (k7 := rfl)), H1⟩
  | none =>
   rw [he] at l9 hq
   obtain ⟨h11, h12, c2, c3, H2⟩ := tail_R hl H1 I1 (by omega) t he
   exact ⟨h12, cO (w40i_6 (k0 := list_Z _ _) (k1 := c6) (k2 := rfl) (k3 := c1) (k4 := rfl) (k5 := l9) (k6 := hq) (k7 := rfl) (k8 := c2) (k9 := c3)), H2⟩
theorem may_a {o a b v : Int} {l : List Int} {r : OpR} (h : mayP r o a b v l = true) (f : OpFacts o r) :
  (r.kind = 3 -> o = 15 ∨ (o = 14 /\ l ≠ [] /\ ∀ n, n ∈ l -> 0 <= n) ∨ 0 <= a) /\ (r.kind = 4 -> 0 <= a) /\ (r.kind = 6 -> 0 <= a) /\ (r.kind = 7 ∨ r.kind = 8 -> 0 <= a) := by
 have num : ∀ {n : Int}, numZ n = true -> 0 <= n := fun {n} hn => by
  unfold numZ at hn
  rw [Bool.and_eq_true, decide_eq_true_eq] at hn
  exact hn.1
 unfold mayP at h
 refine ⟨fun hk => ?_, fun hk => ?_, fun hk => ?_, fun hk => ?_⟩
 ·rw [if_neg (by omega), if_neg (by omega)] at h
  by_cases h14 : o = 14
  ·rw [if_pos h14] at h
   simp only [Bool.and_eq_true, Bool.not_eq_true', List.all_eq_true] at h
   refine .inr (.inl ⟨h14, fun e => ?_, fun n hn => num (h.1.2 n hn)⟩)
   rw [e] at h
   exact absurd h.1.1 (by simp)
  ·rw [if_neg h14] at h
   by_cases h15 : o = 15
   ·exact .inl h15
   ·rw [if_pos (.inr (.inr ⟨hk, h15⟩))] at h
    simp only [Bool.and_eq_true] at h
    exact .inr (.inr (num h.1))
 ·have := f.k4 hk
  rw [if_neg (by omega), if_neg (by omega), if_neg (by omega), if_pos (.inl hk)] at h
  simp only [Bool.and_eq_true] at h
  exact num h.1
 ·have := f.k6 hk
  rw [if_neg (by omega), if_neg (by omega), if_neg (by omega), if_pos (.inr (.inl hk))] at h
  simp only [Bool.and_eq_true] at h
  exact num h.1
 ·rw [if_neg (by omega), if_pos hk] at h
  simp only [Bool.and_eq_true] at h
  exact num h.1.1
theorem cL_len : ∀ xs : List Ins, xs.length <= cL xs
 | [] => Nat.le_refl _
 | x :: xs => by
  have := cL_len xs
  have h1 : 1 <= cI x := by cases x; rw [cI]; omega
  rw [cL, List.length_cons]
  omega
end
end Go.Proofs.YtoblgjmllmomhaaGreatDoor
namespace Go.Proofs.YtoblgjmllmomhaaGreatDoor
set_option maxRecDepth 100000
open Go Go.Proofs.Am
section
variable {m : Int} {s : Scp} {L R : Nat}
def InstrR (m : Int) (s : Scp) (L R : Nat) (x : Ins) : Prop := mayI opI x = true -> ∀ ⦃h : Heap⦄ ⦃σ : LS⦄ ⦃N : Nat⦄, Inv N σ -> N + (R + 6) * cI x < 2 ^ 41 -> Rel s L h σ ->
 ∃ h', cA m 51 [vP L 0, .v (.agg (encI x))] h = some (.tup [], h') /\ Rel s L h' (LS.instr opI s x σ)
def LoopR (m : Int) (s : Scp) (L R : Nat) (xs : List Ins) : Prop := mayL opI xs = true -> ∀ (pre : List Ins) ⦃re : List Int⦄ ⦃h : Heap⦄ ⦃σ : LS⦄ ⦃N : Nat⦄, re.length <= 1 -> (pre ++ xs).length < 2 ^ 40 -> Inv N σ -> N + (R + 6) * cL xs + 1 < 2 ^ 41 -> Rel s L h σ ->
 ∃ h', bA m 21 3 [vP L 0, vM (encN re), .v (.imm (encIs (pre ++ xs))), .v (.int .i64 (Int.ofNat (encIs (pre ++ xs)).length)), vI (Int.ofNat pre.length)] h = some (.tup [], h') /\ Rel s L h' (LS.runL opI s xs re σ)
theorem code_of_loop {xs : List Ins} (h : LoopR m s L R xs) (hm : mayL opI xs = true) : CodeR m s L xs ((R + 6) * cL xs + 1) := by
 intro h0 la re N σ hl hr I hN H
 have hlen := cL_len xs
 have h2 : cL xs <= (R + 6) * cL xs := Nat.le_mul_of_pos_left _ (by omega)
 have h6 : 6 * cL xs <= (R + 6) * cL xs := Nat.mul_le_mul_right _ (by omega)
 exact code_R H I (by omega) (fun {h1} H1 => h hm [] hr (by simpa using (by omega : xs.length < 2 ^ 40)) (I.push hl re) (by omega) H1)
theorem instr_of (hR : TyLen R s) {o a b v t : Int} {l : List Int} {bd el : List Ins} {q : Bool} (hb : LoopR m s L R bd) (hl : LoopR m s L R el) : InstrR m s L R (.mk o a b v t l bd el q) := by
 intro hm h σ N I hN H
 have hc2 : (R + 6) * cI (.mk o a b v t l bd el q) = (R + 6) + (R + 6) * l.length + (R + 6) * cL bd + (R + 6) * cL el := by rw [cI, Nat.mul_add, Nat.mul_add, Nat.mul_add, Nat.mul_one]
 have hl6 : 6 * l.length <= (R + 6) * l.length := Nat.mul_le_mul_right _ (by omega)
 cases hop : opI o with
 | none =>
  rw [instr_none hop]
  rcases look_cases o with ⟨_, _, _, hr, _⟩ | ⟨_, hno⟩
  ·rw [hop] at hr; cases hr
  obtain ⟨ob, nm, k, tk, gv, bz, sg, c, hlk⟩ := isNo_eq hno
  obtain ⟨h1, c1, H1, _⟩ := fail_R (m := m) H 1
  have hlk2 : (lookV o, h) = (LV.tup [opA ob nm k tk gv bz sg, errA (some c)], h) := by rw [hlk]; rfl
  exact ⟨h1, cO (w26_0 (k0 := hlk2) (k1 := err_neq (some c)) (k2 := rfl) (k3 := c1)), H1⟩
 | some r =>
  have f := op_facts hop
  have hlk : (lookV o, h) = (LV.tup [opA r.byte r.nm r.kind (encN r.takes) r.gives r.bytes r.sg, .nilI], h) := by
   have := opP_some hop
   unfold opI at *
   rw [this]
  have k1 := err_neq none
  rw [instr_some hop]
  unfold mayI at hm
  rw [hop] at hm
  simp only at hm
  by_cases h2 : r.kind = 2
  ·rw [if_pos h2] at hm
   rw [if_pos h2]
   simp only [Bool.and_eq_true] at hm
   have mb := hm.1.1.1.1.2
   have ml := hm.1.1.1.2
   have e2 := eqZ_t (b := Int.ofNat 2) h2
   have cb := code_of_loop hb mb
   have cl := code_of_loop hl ml
   have gb := g_runL (OP := opI) (s := s) hR bd
   rcases f.k2 h2 with ⟨rfl, hn⟩ | ⟨rfl, hn⟩ | ⟨rfl, hn⟩
   ·rw [if_neg (by decide)]
    have hcond : LS.cond 2 t q σ = σ := if_neg (by decide)
    rw [hcond]
    obtain ⟨h1, c1, H1⟩ := blockB_R (m := m) (ob := r.byte) (ok := r.kind) (tk := encN r.takes) (gv := r.gives) (bz := r.bytes) (sg := r.sg) (o := 2) (a := a) (b := b) (v := v) (t := t) (ll := encN l) (q := q) cb gb cl I (by omega) H
    rw [← hn] at c1
    exact ⟨h1, cO (w26_1 (k0 := hlk) (k1 := k1) (k2 := rfl) (k3 := e2) (k4 := c1)), H1⟩
   ·rw [if_pos rfl]
    obtain ⟨h1, c1, H1⟩ := loopB_R (m := m) (ob := r.byte) (ok := r.kind) (tk := encN r.takes) (gv := r.gives) (bz := r.bytes) (sg := r.sg) (o := 3) (a := a) (b := b) (v := v) (t := t) (ll := encN l) (el := el) (q := q) cb I (by omega) H
    rw [← hn] at c1
    exact ⟨h1, cO (w26_1 (k0 := hlk) (k1 := k1) (k2 := rfl) (k3 := e2) (k4 := c1)), H1⟩
   ·rw [if_neg (by decide)]
    obtain ⟨h1, c1, H1⟩ := ifB_R (m := m) (ob := r.byte) (ok := r.kind) (tk := encN r.takes) (gv := r.gives) (bz := r.bytes) (sg := r.sg) (o := 4) (a := a) (b := b) (v := v) (t := t) (ll := encN l) (q := q) cb gb cl I (by omega) H
    rw [← hn] at c1
    exact ⟨h1, cO (w26_1 (k0 := hlk) (k1 := k1) (k2 := rfl) (k3 := e2) (k4 := c1)), H1⟩
  ·rw [if_neg h2] at hm
   rw [if_neg h2, ]
   simp only [Bool.and_eq_true] at hm
   obtain ⟨m3, m4, m6, m7⟩ := may_a hm.1 f
   have e2 := eqZ_f (b := Int.ofNat 2) h2
   by_cases h3 : r.kind = 3
   ·rw [if_pos h3]
    have e3 := eqZ_t (b := Int.ofNat 3) h3
    have key : ∃ h', cA m 89 [vP L 0, .v (opA r.byte r.nm r.kind (encN r.takes) r.gives r.bytes r.sg), .v (inA o a b v t (encN l) (encIs bd) (encIs el) q)] h = some (.tup [], h') /\ Rel s L h' (σ.jump s o a l) := by
     rcases f.k3 h3 with ⟨rfl, hn⟩ | ⟨rfl, hn⟩ | ⟨rfl, hn⟩ | ⟨rfl, hn⟩
     ·rw [hn]
      exact br_R H I (by omega) ((m3 h3).elim (fun e => absurd e (by decide)) fun e => e.elim (fun e => absurd e.1 (by decide)) fun e => e)
     ·rw [hn]
      exact bri_R H I (by omega) ((m3 h3).elim (fun e => absurd e (by decide)) fun e => e.elim (fun e => absurd e.1 (by decide)) fun e => e)
     ·rw [hn]
      have hle : l ≠ [] /\ ∀ n, n ∈ l -> 0 <= n := by
       unfold mayP at hm
       rw [if_neg (by omega), if_neg (by omega), if_pos rfl] at hm
       simp only [Bool.and_eq_true, Bool.not_eq_true', List.all_eq_true] at hm
       refine ⟨fun e => ?_, fun n hn => ?_⟩
       ·rw [e] at hm
        exact absurd hm.1.1.1 (by simp)
       ·have := hm.1.1.2 n hn
        unfold numZ at this
        rw [Bool.and_eq_true, decide_eq_true_eq] at this
        exact this.1
      exact brt_R H I (by omega) hle.2 (by omega) hle.1
     ·rw [hn]
      exact ret_R H I (by omega)
    obtain ⟨h1, c1, H1⟩ := key
    exact ⟨h1, cO (w26_2 (k0 := hlk) (k1 := k1) (k2 := rfl) (k3 := e2) (k4 := e3) (k5 := c1)), H1⟩
   ·rw [if_neg h3]
    have e3 := eqZ_f (b := Int.ofNat 3) h3
    by_cases h4 : r.kind = 4
    ·rw [if_pos h4]
     have e4 := eqZ_t (b := Int.ofNat 4) h4
     have key : ∃ h', cA m 90 [vP L 0, .v (opA r.byte r.nm r.kind (encN r.takes) r.gives r.bytes r.sg), .v (inA o a b v t (encN l) (encIs bd) (encIs el) q)] h = some (.tup [], h') /\ Rel s L h' (σ.call s o a) := by
      rcases f.k4 h4 with ⟨rfl, hn⟩ | ⟨rfl, hn⟩
      ·rw [hn]; exact call_R hR H I (by omega) (m4 h4)
      ·rw [hn]; exact calli_R hR H I (by omega)
     obtain ⟨h1, c1, H1⟩ := key
     exact ⟨h1, cO (w26_3 (k0 := hlk) (k1 := k1) (k2 := rfl) (k3 := e2) (k4 := e3) (k5 := e4) (k6 := c1)), H1⟩
    ·rw [if_neg h4]
     have e4 := eqZ_f (b := Int.ofNat 4) h4
     by_cases h5 : r.kind = 5
     ·rw [if_pos h5]
      have e5 := eqZ_t (b := Int.ofNat 5) h5
      have key : ∃ h', cA m 91 [vP L 0, .v (opA r.byte r.nm r.kind (encN r.takes) r.gives r.bytes r.sg)] h = some (.tup [], h') /\ Rel s L h' (σ.any o) := by
       rcases f.k5 h5 with ⟨rfl, hn⟩ | ⟨rfl, hn⟩
       ·rw [hn]; exact drop_R H I (by omega)
       ·rw [hn]; exact sel_R H I (by omega)
      obtain ⟨h1, c1, H1⟩ := key
      exact ⟨h1, cO (w26_4 (k0 := hlk) (k1 := k1) (k2 := rfl) (k3 := e2) (k4 := e3) (k5 := e4) (k6 := e5) (k7 := c1)), H1⟩
     ·rw [if_neg h5]
      have e5 := eqZ_f (b := Int.ofNat 5) h5
      by_cases h6 : r.kind = 6
      ·rw [if_pos h6]
       have e6 := eqZ_t (b := Int.ofNat 6) h6
       have key : ∃ h', cA m 92 [vP L 0, .v (opA r.byte r.nm r.kind (encN r.takes) r.gives r.bytes r.sg), .v (inA o a b v t (encN l) (encIs bd) (encIs el) q)] h = some (.tup [], h') /\ Rel s L h' (σ.var s o a) := by
        have hby := f.byte
        rcases f.k6 h6 with ⟨rfl, hn⟩ | ⟨rfl, hn⟩ | ⟨rfl, hn⟩ | ⟨rfl, hn⟩ | ⟨rfl, hn⟩
        ·rw [hn, hby]; exact lget_R H I (by omega) (m6 h6)
        ·rw [hn, hby]; exact lset_R H I (by omega) (m6 h6)
        ·rw [hn, hby]; exact ltee_R H I (by omega) (m6 h6)
        ·rw [hn, hby]; exact gget_R H I (by omega) (m6 h6)
        ·rw [hn, hby]; exact gset_R H I (by omega) (m6 h6)
       obtain ⟨h1, c1, H1⟩ := key
       exact ⟨h1, cO (w26_5 (k0 := hlk) (k1 := k1) (k2 := rfl) (k3 := e2) (k4 := e3) (k5 := e4) (k6 := e5) (k7 := e6) (k8 := c1)), H1⟩
      ·rw [if_neg h6]
       have e6 := eqZ_f (b := Int.ofNat 6) h6
       have hk0 := f.k0 (by omega)
       by_cases h0 : o = 0
       ·rw [if_pos h0]
        rw [decide_eq_true h0] at hk0
        obtain ⟨h1, c1, H1⟩ := stop_R (m := m) H I (by omega)
        exact ⟨h1, cO (w26_6 (k0 := hlk) (k1 := k1) (k2 := rfl) (k3 := e2) (k4 := e3) (k5 := e4) (k6 := e5) (k7 := e6) (k8 := hk0) (k9 := c1)), H1⟩
       ·rw [if_neg h0]
        rw [decide_eq_false h0] at hk0
        obtain ⟨h1, c1, H1⟩ := plain_R (m := m) (ob := r.byte) (sg := r.sg) (o := o) (a := a) (b := b) (v := v) (t := t) (ll := encN l) (bd := encIs bd) (el := encIs el) (q := q) (r := r) (on := r.nm) (by have := f.takes; omega) H I (by omega) m7
        exact ⟨h1, cO (w26_7 (k0 := hlk) (k1 := k1) (k2 := rfl) (k3 := e2) (k4 := e3) (k5 := e4) (k6 := e5) (k7 := e6) (k8 := hk0) (k9 := c1)), H1⟩
theorem loop_nil : LoopR m s L R [] := by
 intro _ pre re h σ N hr hl I hN H
 rw [LS.runL]
 exact fin_R hr H I (by omega) (by rw [encIs_len, List.append_nil, ofN]; exact Int.le_refl _)
theorem loop_cons (hR : TyLen R s) {x : Ins} {xs : List Ins} (hx : InstrR m s L R x) (hxs : LoopR m s L R xs) : LoopR m s L R (x :: xs) := by
 intro hm pre re h σ N hr hl I hN H
 rw [mayL, Bool.and_eq_true] at hm
 have hc : (R + 6) * cL (x :: xs) = (R + 6) * cI x + (R + 6) * cL xs := by rw [cL, Nat.mul_add]
 have hlen : (pre ++ x :: xs).length = pre.length + xs.length + 1 := by simp; omega
 have hget : (pre ++ x :: xs)[pre.length]? = some x := by simp
 have hix : ixA (.imm (encIs (pre ++ x :: xs))) (Int.ofNat pre.length) 9 = some (encI x) := by
  rw [encIs_map]
  exact ix_map (f := encI) hget (encI_len x)
 have k0 : ltZ (Int.ofNat pre.length) (Int.ofNat (encIs (pre ++ x :: xs)).length) = true := ltZ_t (by rw [encIs_len, ofN, ofN]; omega)
 have h9 := ld9R H
 have hq := err_neq σ.err
 rw [LS.runL]
 cases he : σ.err with
 | some c =>
  rw [he] at h9 hq
  rw [if_pos (show (some c).isSome = true from rfl)]
  cases x
  exact ⟨h, w15_3_0 (k0 := k0) (k1 := hix) (k2 := h9) (k3 := hq) (k4 := rfl), H⟩
 | none =>
  rw [he] at h9 hq
  rw [if_neg (by simp)]
  obtain ⟨h1, c1, H1⟩ := hx hm.1 I (by omega) H
  obtain ⟨I1, _⟩ := g_instr (OP := opI) hR x N σ I
  obtain ⟨h2, c2, H2⟩ := hxs hm.2 (pre ++ [x]) hr (by rw [List.append_assoc]; exact hl) I1 (by omega) H1
  have e1 : (pre ++ [x]) ++ xs = pre ++ x :: xs := by simp
  have e2 : (pre ++ [x]).length = pre.length + 1 := by simp
  rw [e1, e2] at c2
  cases x
  exact ⟨h2, w15_3_1 (k0 := k0) (k1 := hix) (k2 := h9) (k3 := hq) (k4 := rfl) (k5 := c1) (k6 := by rw [wrapS (by omega)]; exact c2), H2⟩
mutual
theorem instr_R (hR : TyLen R s) : ∀ x : Ins, InstrR m s L R x
 | .mk _ _ _ _ _ _ bd el _ => instr_of hR (loop_R hR bd) (loop_R hR el)
theorem loop_R (hR : TyLen R s) : ∀ xs : List Ins, LoopR m s L R xs
 | [] => loop_nil
 | x :: xs => loop_cons hR (instr_R hR x) (loop_R hR xs)
end
end
end Go.Proofs.YtoblgjmllmomhaaGreatDoor
