/-
  Code that fits: with more in the scope, in a block of its result, behind unreachable.
-/
import Derived.Test.YtoblgjmllmomhaaGreatDoorAmBodyC
namespace Go.Proofs.Am
open Go
def Keeps (F : LS -> LS) : Prop := ∀ (σ : LS) (c : Int), σ.err = some c -> (F σ).err = some c
theorem Keeps.none {F : LS -> LS} (h : Keeps F) {σ : LS} (he : (F σ).err = none) : σ.err = none := by
 cases hc : σ.err with
 | none => rfl
 | some c => rw [h σ c hc] at he; cases he
theorem k_id : Keeps fun σ => σ := fun _ _ h => h
theorem Keeps.comp {F G : LS -> LS} (h : Keeps F) (k : Keeps G) : Keeps fun σ => G (F σ) := fun σ c hc => k _ c (h σ c hc)
theorem k_ite {F G : LS -> LS} (p : LS -> Prop) [∀ σ, Decidable (p σ)] (h : Keeps F) (k : Keeps G) : Keeps fun σ => if p σ then F σ else G σ := fun σ c hc => by
 by_cases hp : p σ
 ·simp only [if_pos hp]; exact h σ c hc
 ·simp only [if_neg hp]; exact k σ c hc
theorem k_fail (c : Int) : Keeps (LS.fail c) := fun σ e h => by rw [fail_keep h]; exact h
theorem fail_some (c : Int) (σ : LS) : (σ.fail c).err ≠ none := fun h => (fail_err c σ).1 h
theorem k_take (w : Int) : Keeps fun σ => (σ.take w).1 := fun σ c h => by
 show (σ.take w).1.err = some c
 unfold LS.take
 split
 ·exact h
 ·split
  ·split
   ·exact h
   ·exact k_fail 4 σ c h
  ·split
   ·exact h
   ·simp only
    split
    ·exact k_fail 4 _ c h
    ·exact h
theorem k_all : ∀ ts : List Int, Keeps (LS.all ts)
 | [] => k_id
 | t :: ts => fun σ c h => k_take t _ c (k_all ts σ c h)
theorem k_give (ts : List Int) : Keeps (LS.give ts) := fun _ _ h => h
theorem k_stop : Keeps LS.stop := fun σ c h => by
 unfold LS.stop
 split
 ·exact h
 ·exact h
theorem k_fin (res : List Int) : Keeps (LS.fin res) := fun σ c h => by
 have h1 := k_all res σ c h
 unfold LS.fin LS.fin1
 split
 ·exact h1
 ·show (if _ then _ else _ : LS).err = some c
  split
  ·exact h1
  ·exact k_fail 4 _ c h1
theorem k_table (l : List Int) : Keeps (LS.table l) := fun σ c h => by
 unfold LS.table
 split
 ·exact k_fail 5 σ c h
 ·rename_i ts _
  exact (((k_ite (fun _ => ts.any (· ≠ ts.getLastD []) = true) (k_fail 4) k_id).comp (k_take 1)).comp (k_all _)).comp k_stop σ c h
theorem k_thr (q : Bool) : Keeps (LS.thr q) := by
 cases q with
 | false => exact k_id
 | true => exact k_take 1
section
variable {s : Scp}
theorem k_jump (o a : Int) (l : List Int) : Keeps (LS.jump s o a l) := fun σ c h => by
 unfold LS.jump
 split
 ·exact ((k_all _).comp k_stop) σ c h
 ·split
  ·exact k_table l σ c h
  ·split
   ·exact k_fail 5 σ c h
   ·rename_i t _
    split
    ·exact (((k_take 1).comp (k_all t)).comp (k_give t)) σ c h
    ·exact ((k_all t).comp k_stop) σ c h
theorem k_callT (thr : Bool) (n : Int) : Keeps (LS.callT s thr n) := fun σ c h => by
 unfold LS.callT
 split
 ·exact k_fail 5 σ c h
 ·split
  ·exact h
  ·rename_i t _
   exact ((((k_ite (fun _ => 1 < t.r.length) (k_fail 4) k_id).comp (k_thr thr)).comp (k_all t.p)).comp (k_give t.r)) σ c h
variable {OP : Int -> Option OpR}
def codeC (OP : Int -> Option OpR) (s : Scp) (xs : List Ins) (la re : List Int) (σ : LS) : LS := if σ.err.isSome then σ else LS.runL OP s xs re (σ.push la re)
def endC (OP : Int -> Option OpR) (s : Scp) (t : Int) (q : Bool) (el : List Ins) (σ : LS) : LS := if q = true /\ σ.err = none then codeC OP s el (rsl t) (rsl t) (σ.all (rsl t)) else σ
theorem instr_is {o a b v t : Int} {l : List Int} {bd el : List Ins} {q : Bool} {σ : LS} {r : OpR} (h : OP o = some r) : LS.instr OP s (.mk o a b v t l bd el q) σ =
  if r.kind = 2 then (if o = 3 then codeC OP s bd [] (rsl t) σ else endC OP s t q el (codeC OP s bd (rsl t) (rsl t) (LS.cond o t q σ)))
  else if r.kind = 3 then σ.jump s o a l
   else if r.kind = 4 then σ.call s o a
   else if r.kind = 5 then σ.any o
   else if r.kind = 6 then σ.var s o a
   else if o = 0 then σ.stop
   else σ.plain s r a := by
 unfold LS.instr
 rw [h]
 rfl
theorem k_codeC {xs : List Ins} (la re : List Int) : Keeps (codeC OP s xs la re) := fun σ c h => by
 unfold codeC
 rw [if_pos (by rw [h]; rfl)]
 exact h
theorem k_endC {t : Int} {q : Bool} {el : List Ins} : Keeps (endC OP s t q el) := fun σ c h => by
 unfold endC
 rw [if_neg (by rw [h]; simp)]
 exact h
theorem k_runL : ∀ (xs : List Ins) (re : List Int), Keeps (LS.runL OP s xs re)
 | [], re => fun σ c h => by rw [LS.runL]; exact k_fin re σ c h
 | x :: xs, re => fun σ c h => by
  rw [LS.runL, if_pos (by rw [h]; rfl)]
  exact h
end
structure Sim (U : List Blk -> List Blk) : Prop where
 last : ∀ (l : List Blk) (b : Blk), l.getLast? = some b -> ∃ b', (U l).getLast? = some b' /\ b'.ht = b.ht /\ (b.nv = true -> b'.nv = true)
 snoc : ∀ (l : List Blk) (b : Blk), l ≠ [] -> U (l ++ [b]) = U l ++ [b]
 nv : ∀ l : List Blk, l ≠ [] -> U (setNv l) = setNv (U l)
 drop : ∀ l : List Blk, l ≠ [] -> (U l).dropLast = U l.dropLast
 lbl : ∀ (l : List Blk) (n : Nat), n < l.length -> n < (U l).length /\ ((U l)[(U l).length - 1 - n]?).map (·.lab) = (l[l.length - 1 - n]?).map (·.lab)
def tr (U : List Blk -> List Blk) (σ : LS) : LS := { σ with blk := U σ.blk }
structure Wider (s s' : Scp) : Prop where
 ty : ∀ (n : Nat) t, s.ty[n]? = some t -> s'.ty[n]? = some t
 fn : ∀ (n : Nat) t, s.fn[n]? = some t -> s'.fn[n]? = some t
 gl : ∀ (n : Nat) t, s.gl[n]? = some t -> s'.gl[n]? = some t
 lo : ∀ (n : Nat) t, s.lo[n]? = some t -> s'.lo[n]? = some t
 tb : s.tb = true -> s'.tb = true
 mm : s.mm = true -> s'.mm = true
 re : s'.re = s.re
theorem Wider.refl (s : Scp) : Wider s s := ⟨fun _ _ h => h, fun _ _ h => h, fun _ _ h => h, fun _ _ h => h, fun h => h, fun h => h, rfl⟩
theorem lt_of_get {A : Type} {l l' : List A} (h : ∀ (n : Nat) t, l[n]? = some t -> l'[n]? = some t) {n : Nat} (hn : n < l.length) : n < l'.length :=
 (List.getElem?_eq_some_iff.1 (h n _ (List.getElem?_eq_getElem hn))).1
section
variable {U : List Blk -> List Blk}
def Sims (U : List Blk -> List Blk) (F F' : LS -> LS) : Prop := ∀ (N : Nat) (σ : LS), Inv N σ -> (F σ).err = none -> F' (tr U σ) = tr U (F σ)
theorem Sims.comp {F F' G G' : LS -> LS} {c : Nat} (h : Sims U F F') (k : Sims U G G') (hg : Grows c F) (hk : Keeps G) : Sims U (fun σ => G (F σ)) (fun σ => G' (F' σ)) := fun N σ I he => by
 have h1 := h N σ I (hk.none he)
 simp only [h1]
 exact k _ _ (hg N σ I).1 he
theorem s_id : Sims U (fun σ => σ) (fun σ => σ) := fun _ _ _ _ => rfl
theorem s_ifail {p : Prop} [Decidable p] (c : Int) : Sims U (fun σ => if p then σ.fail c else σ) (fun σ => if p then σ.fail c else σ) := fun N σ I he => by
 by_cases hp : p
 ·simp only [if_pos hp] at he; exact absurd he (fail_some c σ)
 ·simp only [if_neg hp]
theorem take_sim (hU : Sim U) (w : Int) {N : Nat} {σ : LS} (I : Inv N σ) (he : (σ.take w).1.err = none) : (tr U σ).take w = (tr U (σ.take w).1, (σ.take w).2) := by
 obtain ⟨b, hb, _⟩ := last_of I.wf.ne
 obtain ⟨b', hb', h1, h2⟩ := hU.last _ b hb
 have hb2 : (tr U σ).blk.getLast? = some b' := hb'
 unfold LS.take at he ⊢
 rw [hb] at he
 rw [hb, hb2]
 simp only at he ⊢
 have hrow : (tr U σ).row = σ.row := rfl
 rw [hrow, h1]
 by_cases heq : σ.row.length = b.ht
 ·rw [if_pos heq] at he
  rw [if_pos heq, if_pos heq]
  cases hn : b.nv with
  | true => rw [if_pos (h2 hn), if_pos rfl]
  | false =>
   rw [hn, if_neg (by simp)] at he
   exact absurd he (fail_some 4 σ)
 ·rw [if_neg heq] at he
  rw [if_neg heq, if_neg heq]
  cases hg : σ.row.getLast? with
  | none => rfl
  | some got =>
   rw [hg] at he
   simp only at he ⊢
   by_cases hc : got ≠ w /\ got ≠ -1 /\ w ≠ -1
   ·rw [if_pos hc] at he
    exact absurd he (fail_some 4 _)
   ·rw [if_neg hc, if_neg hc]
    rfl
theorem s_take (hU : Sim U) (w : Int) : Sims U (fun σ => (σ.take w).1) (fun σ => (σ.take w).1) := fun N σ I he => by
 show ((tr U σ).take w).1 = _
 rw [take_sim hU w I he]
theorem s_all (hU : Sim U) : ∀ ts : List Int, Sims U (LS.all ts) (LS.all ts)
 | [] => s_id
 | t :: ts => (s_all hU ts).comp (s_take hU t) (g_all ts) (k_take t)
theorem s_give (ts : List Int) : Sims U (LS.give ts) (LS.give ts) := fun _ _ _ _ => rfl
theorem s_stop (hU : Sim U) : Sims U LS.stop LS.stop := fun N σ I _ => by
 obtain ⟨b, hb, _⟩ := last_of I.wf.ne
 obtain ⟨b', hb', h1, _⟩ := hU.last _ b hb
 have hb2 : (tr U σ).blk.getLast? = some b' := hb'
 unfold LS.stop
 rw [hb, hb2]
 simp only [tr, h1, hU.nv _ I.wf.ne]
theorem s_push (hU : Sim U) {σ : LS} (hne : σ.blk ≠ []) (lab res : List Int) : (tr U σ).push lab res = tr U (σ.push lab res) := by
 simp only [LS.push, tr, hU.snoc _ _ hne]
theorem s_lbl (hU : Sim U) {σ : LS} {n : Int} {t : List Int} (h : σ.lbl n = some t) (h0 : 0 <= n) : (tr U σ).lbl n = some t := by
 unfold LS.lbl at h ⊢
 split at h
 ·rename_i hn
  obtain ⟨h1, h2⟩ := hU.lbl σ.blk n.toNat (by omega)
  have h3 : n < ((tr U σ).blk.length : Int) := by
   show n < ((U σ.blk).length : Int)
   omega
  rw [if_pos h3]
  exact h2.trans h
 ·cases h
theorem s_tbl (hU : Sim U) {σ : LS} : ∀ (l : List Int) (acc ts : List (List Int)), (∀ n, n ∈ l -> 0 <= n) -> σ.tbl l acc = some ts -> (tr U σ).tbl l acc = some ts
 | [], acc, ts, _, h => h
 | n :: ns, acc, ts, h0, h => by
  unfold LS.tbl at h ⊢
  split at h
  ·cases h
  ·rename_i t ht
   rw [s_lbl hU ht (h0 n (by simp))]
   exact s_tbl hU ns _ ts (fun m hm => h0 m (by simp [hm])) h
theorem s_fin (hU : Sim U) (res : List Int) : Sims U (LS.fin res) (LS.fin res) := fun N σ I he => by
 have k1 : Keeps (LS.fin1 res) := fun σ c h => by
  unfold LS.fin1
  split
  ·exact h
  ·show (if _ then _ else _ : LS).err = some c
   split
   ·exact h
   ·exact k_fail 4 _ c h
 have ha := s_all hU res N σ I (k1.none he)
 have I1 := I.all res
 unfold LS.fin at he ⊢
 rw [ha]
 generalize σ.all res = τ at he I1 ⊢
 obtain ⟨b, hb, _⟩ := last_of I1.wf.ne
 obtain ⟨b', hb', h1, _⟩ := hU.last _ b hb
 have hb2 : (tr U τ).blk.getLast? = some b' := hb'
 unfold LS.fin1 at he ⊢
 rw [hb] at he
 rw [hb, hb2]
 simp only at he ⊢
 have heq : τ.row.length = b.ht := by
  apply Classical.byContradiction
  intro hn
  rw [if_neg hn] at he
  exact fail_some 4 τ he
 rw [if_pos heq, if_pos (show (tr U τ).row.length = b'.ht by rw [h1]; exact heq)]
 simp only [LS.fin2, LS.give, tr, h1, hU.drop _ I1.wf.ne]
theorem s_table (hU : Sim U) {l : List Int} (h0 : ∀ n, n ∈ l -> 0 <= n) : Sims U (LS.table l) (LS.table l) := fun N σ I he => by
 unfold LS.table at he ⊢
 split at he
 ·exact absurd he (fail_some 5 σ)
 ·rename_i ts hts
  rw [s_tbl hU l [] ts h0 hts]
  have G1 : Grows 0 fun σ : LS => if ts.any (· ≠ ts.getLastD []) then σ.fail 4 else σ := g_ite (fun _ => ts.any (· ≠ ts.getLastD []) = true) (g_fail 4) g_id
  exact ((((s_ifail (U := U) (p := ts.any (· ≠ ts.getLastD []) = true) 4).comp (s_take hU 1) G1 (k_take 1)).comp (s_all hU _) (G1.comp (g_take 1)) (k_all _)).comp (s_stop hU) ((G1.comp (g_take 1)).comp (g_all _)) k_stop) N σ I he
variable {s s' : Scp} {R : Nat}
theorem s_jump (hU : Sim U) (hs : Wider s s') {o a : Int} {l : List Int} (h0 : (o = 14 -> ∀ n, n ∈ l -> 0 <= n) /\ (o = 14 ∨ o = 15 ∨ 0 <= a)) : Sims U (LS.jump s o a l) (LS.jump s' o a l) := fun N σ I he => by
 unfold LS.jump at he ⊢
 rw [hs.re]
 by_cases h15 : o = 15
 ·rw [if_pos h15] at he
  rw [if_pos h15, if_pos h15]
  exact ((s_all hU _).comp (s_stop hU) (g_all _) k_stop) N σ I he
 ·rw [if_neg h15] at he
  rw [if_neg h15, if_neg h15]
  by_cases h14 : o = 14
  ·rw [if_pos h14] at he
   rw [if_pos h14, if_pos h14]
   exact s_table hU (h0.1 h14) N σ I he
  ·rw [if_neg h14] at he
   rw [if_neg h14, if_neg h14]
   have ha : 0 <= a := by
    rcases h0.2 with h | h | h
    ·exact absurd h h14
    ·exact absurd h h15
    ·exact h
   split at he
   ·exact absurd he (fail_some 5 σ)
   ·rename_i t ht
    rw [s_lbl hU ht ha]
    simp only
    split at he
    ·rename_i h13
     rw [if_pos h13, if_pos h13]
     exact (((s_take hU 1).comp (s_all hU t) (g_take 1) (k_all t)).comp (s_give t) ((g_take 1).comp (g_all t)) (k_give t)) N σ I he
    ·rename_i h13
     rw [if_neg h13, if_neg h13]
     exact ((s_all hU t).comp (s_stop hU) (g_all t) k_stop) N σ I he
end
end Go.Proofs.Am
namespace Go.Proofs.Am
open Go
section
variable {U : List Blk -> List Blk} {s s' : Scp} {R : Nat}
theorem s_thr (hU : Sim U) (q : Bool) : Sims U (LS.thr q) (LS.thr q) := by
 cases q with
 | false => exact s_id
 | true => exact s_take hU 1
theorem g_thr (q : Bool) : Grows 0 (LS.thr q) := by
 cases q with
 | false => exact g_id
 | true => exact g_take 1
theorem s_callT (hU : Sim U) (hs : Wider s s') (thr : Bool) (n : Int) : Sims U (LS.callT s thr n) (LS.callT s' thr n) := fun N σ I he => by
 unfold LS.callT at he ⊢
 by_cases hn : n < 0 ∨ (s.ty.length : Int) <= n ∨ (thr = true /\ s.tb = false)
 ·rw [if_pos hn] at he
  exact absurd he (fail_some 5 σ)
 ·rw [if_neg hn] at he
  rw [if_neg hn]
  have hlt : n.toNat < s.ty.length := by omega
  have hg : s.ty[n.toNat]? = some s.ty[n.toNat] := List.getElem?_eq_getElem hlt
  have hlt' := lt_of_get hs.ty hlt
  have hn' : ¬(n < 0 ∨ (s'.ty.length : Int) <= n ∨ (thr = true /\ s'.tb = false)) := by
   rintro (h | h | ⟨h, h2⟩)
   ·omega
   ·omega
   ·have : s.tb = true := by
     cases hb : s.tb with
     | true => rfl
     | false => exact absurd (.inr (.inr ⟨h, hb⟩)) hn
    rw [hs.tb this] at h2; cases h2
  rw [if_neg hn', hs.ty _ _ hg, hg]
  rw [hg] at he
  simp only at he ⊢
  generalize s.ty[n.toNat] = t at he
  have G1 : Grows 0 fun σ : LS => if 1 < t.r.length then σ.fail 4 else σ := g_ite (fun _ => 1 < t.r.length) (g_fail 4) g_id
  exact ((((s_ifail (U := U) (p := 1 < t.r.length) 4).comp (s_thr hU thr) G1 (k_thr thr)).comp (s_all hU t.p) (G1.comp (g_thr thr)) (k_all t.p)).comp (s_give t.r) ((G1.comp (g_thr thr)).comp (g_all t.p)) (k_give t.r)) N σ I he
theorem s_call (hU : Sim U) (hs : Wider s s') {o a : Int} (h0 : 0 <= a) : Sims U (LS.call s o a) (LS.call s' o a) := fun N σ I he => by
 unfold LS.call at he ⊢
 by_cases h16 : o = 16
 ·rw [if_pos h16] at he
  rw [if_pos h16, if_pos h16]
  by_cases ha : (s.fn.length : Int) <= a
  ·rw [if_pos ha] at he
   exact absurd he (fail_some 5 σ)
  ·rw [if_neg ha] at he
   have hlt : a.toNat < s.fn.length := by omega
   have hg : s.fn[a.toNat]? = some s.fn[a.toNat] := List.getElem?_eq_getElem hlt
   have hlt' := lt_of_get hs.fn hlt
   rw [if_neg ha, if_neg (show ¬((s'.fn.length : Int) <= a) by omega), hs.fn _ _ hg, hg]
   rw [hg] at he
   exact s_callT hU hs _ _ N σ I he
 ·rw [if_neg h16] at he
  rw [if_neg h16, if_neg h16]
  exact s_callT hU hs _ _ N σ I he
theorem s_any (hU : Sim U) (o : Int) : Sims U (LS.any o) (LS.any o) := fun N σ I he => by
 unfold LS.any at he ⊢
 by_cases h : o = 26
 ·rw [if_pos h] at he
  rw [if_pos h, if_pos h]
  exact s_take hU (-1) N σ I he
 ·rw [if_neg h] at he
  rw [if_neg h, if_neg h]
  unfold LS.sel at he ⊢
  have e3 : (((σ.take 1).1.take (-1)).1.take ((σ.take 1).1.take (-1)).2).1.err = none := he
  have e2 := (k_take _).none e3
  have e1 := (k_take (-1)).none e2
  have t1 := take_sim hU 1 I e1
  have t2 := take_sim hU (-1) (I.take 1) e2
  have t3 := take_sim hU (((σ.take 1).1.take (-1)).2) ((I.take 1).take (-1)) e3
  rw [t1, t2, t3]
  rfl
theorem s_varT (hU : Sim U) (o t : Int) {q q' : Bool} (hq : q = q') : Sims U (LS.varT o t q) (LS.varT o t q') := fun N σ I he => by
 subst hq
 unfold LS.varT at he ⊢
 by_cases h1 : o = 32 ∨ o = 35
 ·rw [if_pos h1, if_pos h1]
  rfl
 ·rw [if_neg h1] at he
  rw [if_neg h1, if_neg h1]
  by_cases h2 : o = 34
  ·rw [if_pos h2] at he
   rw [if_pos h2, if_pos h2]
   exact ((s_take hU t).comp (s_give [t]) (g_take t) (k_give [t])) N σ I he
  ·rw [if_neg h2] at he
   rw [if_neg h2, if_neg h2]
   exact ((s_ifail (U := U) (p := q = false /\ o = 36) 4).comp (s_take hU t) (g_ite (fun _ => q = false /\ o = 36) (g_fail 4) g_id) (k_take t)) N σ I he
theorem s_var (hU : Sim U) (hs : Wider s s') {o a : Int} (h0 : 0 <= a) : Sims U (LS.var s o a) (LS.var s' o a) := fun N σ I he => by
 unfold LS.var at he ⊢
 by_cases ho : o < 35
 ·rw [if_pos ho] at he
  rw [if_pos ho, if_pos ho]
  by_cases ha : a < s.lo.length
  ·rw [if_pos ha] at he
   have hg : s.lo[a.toNat]? = some s.lo[a.toNat] := List.getElem?_eq_getElem (by omega)
   have hlt' := lt_of_get hs.lo (show a.toNat < s.lo.length by omega)
   rw [if_pos ha, if_pos (show a < s'.lo.length by omega), hs.lo _ _ hg, hg]
   rw [hg] at he
   exact s_varT hU _ _ rfl N σ I he
  ·rw [if_neg ha] at he
   exact absurd he (fail_some 5 σ)
 ·rw [if_neg ho] at he
  rw [if_neg ho, if_neg ho]
  by_cases ha : a < s.gl.length
  ·rw [if_pos ha] at he
   have hg : s.gl[a.toNat]? = some s.gl[a.toNat] := List.getElem?_eq_getElem (by omega)
   have hlt' := lt_of_get hs.gl (show a.toNat < s.gl.length by omega)
   rw [if_pos ha, if_pos (show a < s'.gl.length by omega), hs.gl _ _ hg, hg]
   rw [hg] at he
   exact s_varT hU _ _ rfl N σ I he
  ·rw [if_neg ha] at he
   exact absurd he (fail_some 5 σ)
theorem s_plain (hU : Sim U) (hs : Wider s s') (r : OpR) (a : Int) : Sims U (LS.plain s r a) (LS.plain s' r a) := fun N σ I he => by
 unfold LS.plain at he ⊢
 by_cases hm : (r.kind = 7 ∨ r.kind = 8 ∨ r.kind = 9) /\ s.mm = false
 ·rw [if_pos hm] at he
  exact absurd he (fail_some 5 σ)
 ·rw [if_neg hm] at he
  have hm' : ¬((r.kind = 7 ∨ r.kind = 8 ∨ r.kind = 9) /\ s'.mm = false) := by
   rintro ⟨h1, h2⟩
   have : s.mm = true := by
    cases hb : s.mm with
    | true => rfl
    | false => exact absurd ⟨h1, hb⟩ hm
   rw [hs.mm this] at h2; cases h2
  rw [if_neg hm, if_neg hm']
  have G1 : Grows 0 fun σ : LS => if (r.kind = 7 ∨ r.kind = 8) /\ (3 < a ∨ r.bytes < (2 : Int) ^ a.toNat) then σ.fail 4 else σ := g_ite (fun _ => (r.kind = 7 ∨ r.kind = 8) /\ (3 < a ∨ r.bytes < (2 : Int) ^ a.toNat)) (g_fail 4) g_id
  exact (((s_ifail (U := U) (p := (r.kind = 7 ∨ r.kind = 8) /\ (3 < a ∨ r.bytes < (2 : Int) ^ a.toNat)) 4).comp (s_all hU r.takes) G1 (k_all r.takes)).comp (s_give [r.gives]) (G1.comp (g_all r.takes)) (k_give [r.gives])) N σ I he
theorem s_cond (hU : Sim U) (o t : Int) (q : Bool) : Sims U (LS.cond o t q) (LS.cond o t q) := fun N σ I he => by
 unfold LS.cond at he ⊢
 by_cases h4 : o = 4
 ·rw [if_pos h4] at he
  rw [if_pos h4, if_pos h4]
  by_cases hq : q = false /\ t ≠ 0
  ·rw [if_pos hq] at he
   exact absurd he (fail_some 4 _)
  ·rw [if_neg hq] at he
   rw [if_neg hq, if_neg hq]
   exact s_take hU 1 N σ I he
 ·rw [if_neg h4, if_neg h4]
variable {OP : Int -> Option OpR}
def SimL (U : List Blk -> List Blk) (OP : Int -> Option OpR) (s s' : Scp) (xs : List Ins) : Prop := ∀ re : List Int, re.length <= 1 -> Sims U (LS.runL OP s xs re) (LS.runL OP s' xs re)
theorem s_codeC (hU : Sim U) {xs : List Ins} (h : SimL U OP s s' xs) {la re : List Int} (hl : la.length <= 1) (hr : re.length <= 1) : Sims U (codeC OP s xs la re) (codeC OP s' xs la re) := fun N σ I he => by
 have e0 := (k_codeC (OP := OP) (s := s) la re).none he
 have n1 : ¬ σ.err.isSome = true := by rw [e0]; simp
 have n2 : ¬ (tr U σ).err.isSome = true := n1
 unfold codeC at he ⊢
 rw [if_neg n1] at he
 rw [if_neg n2, if_neg n1, s_push hU I.wf.ne]
 exact h re hr (N + 1) _ (I.push hl re) he
theorem s_endC (hU : Sim U) {el : List Ins} (h : SimL U OP s s' el) (t : Int) (q : Bool) : Sims U (endC OP s t q el) (endC OP s' t q el) := fun N σ I he => by
 have e0 := (k_endC (OP := OP) (s := s) (t := t) (q := q) (el := el)).none he
 unfold endC at he ⊢
 have hr := rsl_len t
 by_cases hq : q = true
 ·have n1 : q = true /\ σ.err = none := ⟨hq, e0⟩
  have n2 : q = true /\ (tr U σ).err = none := ⟨hq, e0⟩
  rw [if_pos n1] at he
  refine (if_pos n2).trans ?_
  rw [if_pos n1]
  exact ((s_all hU (rsl t)).comp (s_codeC hU h hr hr) (g_all _) (k_codeC _ _)) N σ I he
 ·rw [if_neg (fun hh => hq hh.1), if_neg (fun hh => hq hh.1)]
theorem num_of {n : Int} (h : numZ n = true) : 0 <= n := by
 unfold numZ at h
 rw [Bool.and_eq_true, decide_eq_true_eq] at h
 exact h.1
theorem may_j {o a b v : Int} {l : List Int} {r : OpR} (h : mayP r o a b v l = true) (hk : r.kind = 3) : (o = 14 -> ∀ n, n ∈ l -> 0 <= n) /\ (o = 14 ∨ o = 15 ∨ 0 <= a) := by
 unfold mayP at h
 rw [if_neg (by omega), if_neg (by omega)] at h
 by_cases h14 : o = 14
 ·rw [if_pos h14] at h
  simp only [Bool.and_eq_true, List.all_eq_true] at h
  exact ⟨fun _ n hn => num_of (h.1.2 n hn), .inl h14⟩
 ·rw [if_neg h14] at h
  by_cases h15 : o = 15
  ·exact ⟨fun e => absurd e h14, .inr (.inl h15)⟩
  ·rw [if_pos (.inr (.inr ⟨hk, h15⟩))] at h
   simp only [Bool.and_eq_true] at h
   exact ⟨fun e => absurd e h14, .inr (.inr (num_of h.1))⟩
theorem may_46 {o a b v : Int} {l : List Int} {r : OpR} (h : mayP r o a b v l = true) (hk : r.kind = 4 ∨ r.kind = 6) (h14 : o ≠ 14) : 0 <= a := by
 unfold mayP at h
 rw [if_neg (by omega), if_neg (by omega), if_neg h14, if_pos (by omega)] at h
 simp only [Bool.and_eq_true] at h
 exact num_of h.1
theorem s_instr_of (hU : Sim U) (hs : Wider s s') (hR : ∀ x, x ∈ s.ty -> x.p.length <= R /\ x.r.length <= R) (hOP : ∀ o r, OP o = some r -> r.kind = 4 ∨ r.kind = 6 -> o ≠ 14) {o a b v t : Int} {l : List Int} {bd el : List Ins} {q : Bool}
  (hm : mayI OP (.mk o a b v t l bd el q) = true) (hb : mayL OP bd = true -> SimL U OP s s' bd) (he : mayL OP el = true -> SimL U OP s s' el) : Sims U (LS.instr OP s (.mk o a b v t l bd el q)) (LS.instr OP s' (.mk o a b v t l bd el q)) := fun N σ I hn => by
 unfold mayI at hm
 cases hop : OP o with
 | none => rw [hop] at hm; cases hm
 | some r =>
  rw [hop] at hm
  simp only at hm
  rw [instr_is hop] at hn
  rw [instr_is hop, instr_is hop]
  have hr := rsl_len t
  by_cases h2 : r.kind = 2
  ·rw [if_pos h2] at hm hn
   rw [if_pos h2, if_pos h2]
   simp only [Bool.and_eq_true] at hm
   have mb := hb hm.1.1.1.1.2
   have me := he hm.1.1.1.2
   by_cases h3 : o = 3
   ·rw [if_pos h3] at hn
    rw [if_pos h3, if_pos h3]
    exact s_codeC hU mb (by simp) hr N σ I hn
   ·rw [if_neg h3] at hn
    rw [if_neg h3, if_neg h3]
    have gc := g_code (g_runL (OP := OP) (s := s) hR bd) hr hr
    exact (((s_cond hU o t q).comp (s_codeC hU mb hr hr) (g_cond o t q) (k_codeC _ _)).comp (s_endC hU me t q) ((g_cond o t q).comp gc) k_endC) N σ I hn
  ·rw [if_neg h2] at hm hn
   rw [if_neg h2, if_neg h2]
   simp only [Bool.and_eq_true] at hm
   by_cases h3 : r.kind = 3
   ·rw [if_pos h3] at hn
    rw [if_pos h3, if_pos h3]
    exact s_jump hU hs (may_j hm.1 h3) N σ I hn
   ·rw [if_neg h3] at hn
    rw [if_neg h3, if_neg h3]
    by_cases h4 : r.kind = 4
    ·rw [if_pos h4] at hn
     rw [if_pos h4, if_pos h4]
     exact s_call hU hs (may_46 hm.1 (.inl h4) (hOP o r hop (.inl h4))) N σ I hn
    ·rw [if_neg h4] at hn
     rw [if_neg h4, if_neg h4]
     by_cases h5 : r.kind = 5
     ·rw [if_pos h5] at hn
      rw [if_pos h5, if_pos h5]
      exact s_any hU o N σ I hn
     ·rw [if_neg h5] at hn
      rw [if_neg h5, if_neg h5]
      by_cases h6 : r.kind = 6
      ·rw [if_pos h6] at hn
       rw [if_pos h6, if_pos h6]
       exact s_var hU hs (may_46 hm.1 (.inr h6) (hOP o r hop (.inr h6))) N σ I hn
      ·rw [if_neg h6] at hn
       rw [if_neg h6, if_neg h6]
       by_cases h0 : o = 0
       ·rw [if_pos h0] at hn
        rw [if_pos h0, if_pos h0]
        exact s_stop hU N σ I hn
       ·rw [if_neg h0] at hn
        rw [if_neg h0, if_neg h0]
        exact s_plain hU hs r a N σ I hn
mutual
theorem s_instr (hU : Sim U) (hs : Wider s s') (hR : ∀ x, x ∈ s.ty -> x.p.length <= R /\ x.r.length <= R) (hOP : ∀ o r, OP o = some r -> r.kind = 4 ∨ r.kind = 6 -> o ≠ 14) : ∀ x : Ins, mayI OP x = true -> Sims U (LS.instr OP s x) (LS.instr OP s' x)
 | .mk _ _ _ _ _ _ bd el _ => fun hm => s_instr_of hU hs hR hOP hm (s_runL hU hs hR hOP bd) (s_runL hU hs hR hOP el)
theorem s_runL (hU : Sim U) (hs : Wider s s') (hR : ∀ x, x ∈ s.ty -> x.p.length <= R /\ x.r.length <= R) (hOP : ∀ o r, OP o = some r -> r.kind = 4 ∨ r.kind = 6 -> o ≠ 14) : ∀ xs : List Ins, mayL OP xs = true -> SimL U OP s s' xs
 | [] => fun _ re _ N σ I he => by
  rw [LS.runL] at he
  rw [LS.runL, LS.runL]
  exact s_fin hU re N σ I he
 | x :: xs => fun hm re hr N σ I he => by
  rw [mayL, Bool.and_eq_true] at hm
  have e0 := (k_runL (OP := OP) (s := s) (x :: xs) re).none he
  have n1 : ¬ σ.err.isSome = true := by rw [e0]; simp
  have n2 : ¬ (tr U σ).err.isSome = true := n1
  rw [LS.runL, if_neg n1] at he
  rw [LS.runL, LS.runL, if_neg n2, if_neg n1]
  exact ((s_instr hU hs hR hOP x hm.1).comp (s_runL hU hs hR hOP xs hm.2 re hr) (g_instr (OP := OP) hR x) (k_runL xs re)) N σ I he
end
end
def nv0 : List Blk -> List Blk
 | [] => []
 | b :: l => { b with nv := true } :: l
end Go.Proofs.Am
