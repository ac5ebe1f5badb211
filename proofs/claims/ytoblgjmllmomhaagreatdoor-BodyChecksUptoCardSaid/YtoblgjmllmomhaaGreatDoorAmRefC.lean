/-
  The document's answer: how great its rows grow; what is amiss stays; code that is gone through by both.
-/
import Derived.Test.YtoblgjmllmomhaaGreatDoorAmBodyC
import Derived.Test.YtoblgjmllmomhaaGreatDoorAmBodyE
namespace Go.Proofs.Am
open Go
structure RBk where
 lab : Int
 ht : Nat
 nv : Bool
structure RS where
 row : List Int
 blk : List RBk
 bad : Int
def RS.amiss (c : Int) (ρ : RS) : RS := if ρ.bad = 0 then { ρ with bad := c } else ρ
def RS.pop (ρ : RS) : RS × Int :=
 match ρ.blk.getLast? with
 | none => (ρ, -1)
 | some b => if ρ.row.length <= b.ht then (if b.nv then ρ else ρ.amiss 4, -1) else ({ ρ with row := ρ.row.dropLast }, ρ.row.getLastD 0)
def RS.want (t : Int) (ρ : RS) : RS := if t = 0 then ρ else if 0 <= ρ.pop.2 /\ ρ.pop.2 ≠ t then ρ.pop.1.amiss 4 else ρ.pop.1
def RS.wants : List Int -> RS -> RS
 | [], ρ => ρ
 | t :: ts, ρ => (RS.wants ts ρ).want t
def RS.push (t : Int) (ρ : RS) : RS := if t = 0 then ρ else { ρ with row := ρ.row ++ [t] }
def RS.pushes : List Int -> RS -> RS
 | [], ρ => ρ
 | t :: ts, ρ => RS.pushes ts (ρ.push t)
def nvR : List RBk -> List RBk
 | [] => []
 | [b] => [{ b with nv := true }]
 | b :: c :: bs => b :: nvR (c :: bs)
def RS.stop (ρ : RS) : RS :=
 match ρ.blk.getLast? with
 | none => ρ
 | some b => { ρ with row := ρ.row.take b.ht, blk := nvR ρ.blk }
def RS.lbl (n : Int) (ρ : RS) : Option Int := if n < 0 ∨ (ρ.blk.length : Int) <= n then none else (ρ.blk[ρ.blk.length - 1 - n.toNat]?).map (·.lab)
def RS.opn (la : Int) (ρ : RS) : RS := { ρ with blk := ρ.blk ++ [⟨la, ρ.row.length, false⟩] }
def RS.end1 (re : Int) (fr : Nat) (ρ : RS) : RS := if (ρ.want re).row.length ≠ fr then (ρ.want re).amiss 4 else ρ.want re
def RS.fin (re : Int) (fr : Nat) (ρ : RS) : RS := if (ρ.end1 re fr).bad ≠ 0 then ρ.end1 re fr else RS.push re { ρ.end1 re fr with blk := (ρ.end1 re fr).blk.dropLast }
def RS.tbl : List Int -> List Int -> RS -> Option (List Int)
 | [], acc, _ => some acc
 | n :: ns, acc, ρ => match ρ.lbl n with
  | none => none
  | some t => RS.tbl ns (acc ++ [t]) ρ
def RS.odd (ts : List Int) (w : Int) (ρ : RS) : RS := if ts.any (· ≠ w) then ρ.amiss 4 else ρ
def RS.table (l : List Int) (ρ : RS) : RS :=
 match ρ.tbl l [] with
 | none => ρ.amiss 5
 | some ts => (((ρ.odd ts (ts.getLastD 0)).want 1).want (ts.getLastD 0)).stop
def RS.thr (q : Bool) (ρ : RS) : RS := if q then ρ.want 1 else ρ
def RS.call (s : Scp) (t : Int) (q : Bool) (ρ : RS) : RS :=
 if t < 0 ∨ (s.ty.length : Int) <= t ∨ (q = true /\ s.tb = false) then ρ.amiss 5
 else match s.ty[t.toNat]? with
  | none => ρ
  | some x => RS.pushes x.r (RS.wants x.p (RS.thr q (if 1 < x.r.length then ρ.amiss 4 else ρ)))
def RS.varT (o t : Int) (mu : Bool) (ρ : RS) : RS :=
 let ρ1 := if o = 36 /\ mu = false then ρ.amiss 4 else ρ
 let ρ2 := if o = 33 ∨ o = 34 ∨ o = 36 then ρ1.want t else ρ1
 if o = 32 ∨ o = 34 ∨ o = 35 then ρ2.push t else ρ2
def RS.var (s : Scp) (o a : Int) (ρ : RS) : RS :=
 if o < 35 then (if (s.lo.length : Int) <= a then ρ.amiss 5 else match s.lo[a.toNat]? with | none => ρ | some t => ρ.varT o t true)
 else (if (s.gl.length : Int) <= a then ρ.amiss 5 else match s.gl[a.toNat]? with | none => ρ | some g => ρ.varT o g.t g.mu)
def RS.plain (s : Scp) (r : OpR) (a : Int) (ρ : RS) : RS :=
 if 7 <= r.kind /\ r.kind <= 9 /\ s.mm = false then ρ.amiss 5
 else ((if (r.kind = 7 ∨ r.kind = 8) /\ r.bytes < (2 : Int) ^ a.toNat then ρ.amiss 4 else ρ).wants r.takes).push r.gives
def RS.sel1 (ρ : RS) : RS := if 0 <= ρ.pop.2 /\ 0 <= ρ.pop.1.pop.2 /\ ρ.pop.2 ≠ ρ.pop.1.pop.2 then ρ.pop.1.pop.1.amiss 4 else ρ.pop.1.pop.1
def RS.sel0 (ρ : RS) : RS := ρ.sel1.push (if 0 <= ρ.pop.1.pop.2 then ρ.pop.1.pop.2 else ρ.pop.2)
def RS.sel (ρ : RS) : RS := (ρ.want 1).sel0
def RS.jump (a : Int) (q : Bool) (ρ : RS) : RS :=
 match ρ.lbl a with
 | none => ρ.amiss 5
 | some t => if q then ((ρ.want 1).want t).push t else (ρ.want t).stop
def RS.ahead (o t : Int) (q : Bool) (ρ : RS) : RS := if o = 4 then (if q = false /\ t ≠ 0 then (ρ.want 1).amiss 4 else ρ.want 1) else ρ
def RS.fun (s : Scp) (a : Int) (ρ : RS) : RS := if (s.fn.length : Int) <= a then ρ.amiss 5 else match s.fn[a.toNat]? with | none => ρ | some n => ρ.call s n false
def RS.one (s : Scp) (r : OpR) (o a : Int) (l : List Int) (ρ : RS) : RS :=
 if o = 0 then ρ.stop
 else if o = 12 ∨ o = 13 then ρ.jump a (decide (o = 13))
 else if o = 14 then ρ.table l
 else if o = 15 then (ρ.want s.re).stop
 else if o = 16 then ρ.fun s a
 else if o = 17 then ρ.call s a true
 else if o = 26 then ρ.pop.1
 else if o = 27 then ρ.sel
 else if r.kind = 6 then ρ.var s o a
 else ρ.plain s r a
section
variable (OP : Int -> Option OpR) (s : Scp)
mutual
def RS.instr : Ins -> RS -> RS
 | .mk o a _ _ t l bd el q, ρ =>
  match OP o with
  | none => ρ
  | some r =>
   if r.kind = 2 then
    (if o = 3 then (if ρ.bad ≠ 0 then ρ else RS.runL bd t ρ.row.length (ρ.opn 0))
     else
     let ρ1 := ρ.ahead o t q
     let ρ2 := if ρ1.bad ≠ 0 then ρ1 else RS.runL bd t ρ1.row.length (ρ1.opn t)
     if q = true /\ ρ2.bad = 0 then
      (if (ρ2.want t).bad ≠ 0 then ρ2.want t else RS.runL el t (ρ2.want t).row.length ((ρ2.want t).opn t))
     else ρ2)
   else ρ.one s r o a l
def RS.runL : List Ins -> Int -> Nat -> RS -> RS
 | [], re, fr, ρ => if ρ.bad ≠ 0 then ρ else ρ.fin re fr
 | x :: xs, re, fr, ρ => if ρ.bad ≠ 0 then ρ else RS.runL xs re fr (RS.instr x ρ)
end
def RS.code (l : List Ins) (la re : Int) (ρ : RS) : RS := if ρ.bad ≠ 0 then ρ else RS.runL OP s l re ρ.row.length (ρ.opn la)
end
structure RM0 (N : Nat) (ρ : RS) : Prop where
 le : ∀ b, b ∈ ρ.blk -> b.ht <= ρ.row.length
 srt : ρ.blk.Pairwise fun a b => a.ht <= b.ht
 rz : ρ.row.length <= N
 bz : ρ.blk.length <= N
structure RM (N : Nat) (ρ : RS) : Prop extends RM0 N ρ where
 ne : ρ.blk ≠ []
theorem RM0.mono {N M : Nat} {ρ : RS} (h : RM0 N ρ) (hm : N <= M) : RM0 M ρ := ⟨h.le, h.srt, Nat.le_trans h.rz hm, Nat.le_trans h.bz hm⟩
theorem RM.mono {N M : Nat} {ρ : RS} (h : RM N ρ) (hm : N <= M) : RM M ρ := ⟨h.toRM0.mono hm, h.ne⟩
theorem amiss_row (c : Int) (ρ : RS) : (ρ.amiss c).row = ρ.row := by unfold RS.amiss; split <;> rfl
theorem amiss_blk (c : Int) (ρ : RS) : (ρ.amiss c).blk = ρ.blk := by unfold RS.amiss; split <;> rfl
theorem RM.amiss {N : Nat} {ρ : RS} (h : RM N ρ) (c : Int) : RM N (ρ.amiss c) := ⟨⟨by rw [amiss_blk, amiss_row]; exact h.le, by rw [amiss_blk]; exact h.srt, by rw [amiss_row]; exact h.rz, by rw [amiss_blk]; exact h.bz⟩, by rw [amiss_blk]; exact h.ne⟩
theorem lastR {l : List RBk} (h : l ≠ []) : ∃ b, l.getLast? = some b /\ l = l.dropLast ++ [b] :=
 ⟨l.getLast h, List.getLast?_eq_some_getLast h, (List.dropLast_concat_getLast h).symm⟩
theorem srtR {l : List RBk} (hs : l.Pairwise fun a b => a.ht <= b.ht) {b : RBk} (hb : l.getLast? = some b) : ∀ c, c ∈ l -> c.ht <= b.ht := by
 have hne : l ≠ [] := by rintro rfl; cases hb
 obtain ⟨b', hb', e⟩ := lastR hne
 rw [hb] at hb'
 cases hb'
 intro c hc
 rw [e] at hs hc
 rcases List.mem_append.1 hc with h | h
 ·exact (List.pairwise_append.1 hs).2.2 c h b (by simp)
 ·rw [List.mem_singleton.1 h]; exact Nat.le_refl _
theorem pop_cases (ρ : RS) (h : ρ.blk ≠ []) : ∃ b, ρ.blk.getLast? = some b /\ ((ρ.row.length <= b.ht /\ ρ.pop = (if b.nv then ρ else ρ.amiss 4, -1)) ∨ (b.ht < ρ.row.length /\ ρ.pop = ({ ρ with row := ρ.row.dropLast }, ρ.row.getLastD 0))) := by
 obtain ⟨b, hb, _⟩ := lastR h
 refine ⟨b, hb, ?_⟩
 unfold RS.pop
 rw [hb]
 by_cases hl : ρ.row.length <= b.ht
 ·exact .inl ⟨hl, if_pos hl⟩
 ·exact .inr ⟨by omega, if_neg hl⟩
theorem RM.pop {N : Nat} {ρ : RS} (h : RM N ρ) : RM N ρ.pop.1 /\ ρ.pop.1.blk = ρ.blk := by
 obtain ⟨b, hb, ⟨_, e⟩ | ⟨hl, e⟩⟩ := pop_cases ρ h.ne
 ·rw [e]
  cases b.nv with
  | true => exact ⟨h, rfl⟩
  | false => exact ⟨h.amiss 4, amiss_blk _ _⟩
 ·rw [e]
  refine ⟨⟨⟨fun c hc => ?_, h.srt, ?_, h.bz⟩, h.ne⟩, rfl⟩
  ·have := srtR h.srt hb c hc
   simp only [List.length_dropLast]; omega
  ·have := h.rz
   simp only [List.length_dropLast]; omega
theorem want_cases (t : Int) (ρ : RS) : ρ.want t = ρ ∨ ρ.want t = ρ.pop.1 ∨ ρ.want t = ρ.pop.1.amiss 4 := by
 unfold RS.want
 split
 ·exact .inl rfl
 ·split
  ·exact .inr (.inr rfl)
  ·exact .inr (.inl rfl)
theorem RM.want {N : Nat} {ρ : RS} (h : RM N ρ) (t : Int) : RM N (ρ.want t) /\ (ρ.want t).blk = ρ.blk := by
 rcases want_cases t ρ with e | e | e <;> rw [e]
 ·exact ⟨h, rfl⟩
 ·exact h.pop
 ·exact ⟨h.pop.1.amiss 4, by rw [amiss_blk]; exact h.pop.2⟩
theorem RM.wants {N : Nat} {ρ : RS} (h : RM N ρ) : ∀ ts : List Int, RM N (ρ.wants ts) /\ (ρ.wants ts).blk = ρ.blk
 | [] => ⟨h, rfl⟩
 | t :: ts => by
  have h1 := h.wants ts
  have h2 := h1.1.want t
  exact ⟨h2.1, h2.2.trans h1.2⟩
theorem push_blk (t : Int) (ρ : RS) : (ρ.push t).blk = ρ.blk := by unfold RS.push; split <;> rfl
theorem push_bad (t : Int) (ρ : RS) : (ρ.push t).bad = ρ.bad := by unfold RS.push; split <;> rfl
theorem push_row (t : Int) (ρ : RS) : (ρ.push t).row.length <= ρ.row.length + 1 /\ ρ.row.length <= (ρ.push t).row.length := by unfold RS.push; split <;> simp
theorem RM0.push {N : Nat} {ρ : RS} (h : RM0 N ρ) (t : Int) : RM0 (N + 1) (ρ.push t) := by
 have h1 := push_row t ρ
 refine ⟨by rw [push_blk]; exact fun b hb => Nat.le_trans (h.le b hb) h1.2, by rw [push_blk]; exact h.srt, ?_, by rw [push_blk]; exact Nat.le_succ_of_le h.bz⟩
 have := h.rz; omega
theorem RM.push {N : Nat} {ρ : RS} (h : RM N ρ) (t : Int) : RM (N + 1) (ρ.push t) := ⟨h.toRM0.push t, by rw [push_blk]; exact h.ne⟩
theorem pushes_blk : ∀ (ts : List Int) (ρ : RS), (ρ.pushes ts).blk = ρ.blk
 | [], _ => rfl
 | t :: ts, ρ => by rw [RS.pushes, pushes_blk ts, push_blk]
theorem RM.pushes : ∀ (ts : List Int) {N : Nat} {ρ : RS}, RM N ρ -> RM (N + ts.length) (ρ.pushes ts)
 | [], _, _, h => h
 | t :: ts, N, ρ, h => by
  have := RM.pushes ts (h.push t)
  rw [List.length_cons]
  exact this.mono (by omega)
theorem nvR_hts : ∀ l : List RBk, (nvR l).map (·.ht) = l.map (·.ht)
 | [] => rfl
 | [_] => rfl
 | b :: c :: bs => by
  simp only [nvR, List.map_cons]
  have := nvR_hts (c :: bs)
  simp only [List.map_cons] at this
  rw [this]
theorem nvR_len (l : List RBk) : (nvR l).length = l.length := by have := congrArg List.length (nvR_hts l); simpa using this
theorem RM.stop {N : Nat} {ρ : RS} (h : RM N ρ) : RM N ρ.stop /\ ρ.stop.blk.length = ρ.blk.length := by
 obtain ⟨b, hb, _⟩ := lastR h.ne
 unfold RS.stop
 rw [hb]
 have hbm : b ∈ ρ.blk := List.mem_of_getLast? hb
 have hbl := h.le b hbm
 refine ⟨⟨⟨fun c hc => ?_, ?_, ?_, ?_⟩, ?_⟩, nvR_len _⟩
 ·have : c.ht ∈ (nvR ρ.blk).map (·.ht) := List.mem_map_of_mem hc
  rw [nvR_hts] at this
  obtain ⟨d, hd, e⟩ := List.mem_map.1 this
  have := srtR h.srt hb d hd
  simp only [List.length_take]; omega
 ·have h1 := List.pairwise_map (f := fun b : RBk => b.ht) (R := (· <= ·)) (l := nvR ρ.blk)
  rw [nvR_hts] at h1
  exact h1.1 (List.pairwise_map.2 h.srt)
 ·have := h.rz
  simp only [List.length_take]; omega
 ·dsimp only; rw [nvR_len]; exact h.bz
 ·intro e
  have := congrArg List.length e
  rw [nvR_len, List.length_nil] at this
  exact h.ne (List.eq_nil_of_length_eq_zero this)
theorem RM0.opn {N : Nat} {ρ : RS} (h : RM0 N ρ) (la : Int) : RM (N + 1) (ρ.opn la) := by
 refine ⟨⟨fun b hb => ?_, ?_, Nat.le_succ_of_le h.rz, ?_⟩, by simp [RS.opn]⟩
 ·rcases List.mem_append.1 hb with hb | hb
  ·exact h.le b hb
  ·rw [List.mem_singleton.1 hb]; exact Nat.le_refl _
 ·refine List.pairwise_append.2 ⟨h.srt, by simp, fun b hb c hc => ?_⟩
  rw [List.mem_singleton.1 hc]
  exact h.le b hb
 ·have := h.bz
  simp only [RS.opn, List.length_append, List.length_cons, List.length_nil]; omega
theorem RM.end1 {N : Nat} {ρ : RS} (h : RM N ρ) (re : Int) (fr : Nat) : RM N (ρ.end1 re fr) /\ (ρ.end1 re fr).blk = ρ.blk := by
 have h1 := h.want re
 unfold RS.end1
 split
 ·exact ⟨h1.1.amiss 4, by rw [amiss_blk]; exact h1.2⟩
 ·exact h1
theorem RM.fin {N : Nat} {ρ : RS} (h : RM N ρ) (re : Int) (fr : Nat) : RM0 (N + 1) (ρ.fin re fr) /\ ρ.blk.length <= (ρ.fin re fr).blk.length + 1 := by
 have h1 := h.end1 re fr
 unfold RS.fin
 split
 ·exact ⟨h1.1.toRM0.mono (Nat.le_succ _), by rw [h1.2]; exact Nat.le_succ _⟩
 ·have I : RM0 N { ρ.end1 re fr with blk := (ρ.end1 re fr).blk.dropLast } :=
   ⟨fun b hb => h1.1.le b (List.dropLast_subset _ hb), h1.1.srt.sublist (List.dropLast_sublist _), h1.1.rz, by
    have := h1.1.bz
    simp only [List.length_dropLast]; omega⟩
  refine ⟨I.push re, ?_⟩
  rw [push_blk, h1.2, List.length_dropLast]; omega
theorem RM.odd {N : Nat} {ρ : RS} (h : RM N ρ) (ts : List Int) (w : Int) : RM N (ρ.odd ts w) /\ (ρ.odd ts w).blk = ρ.blk := by
 unfold RS.odd
 split
 ·exact ⟨h.amiss 4, amiss_blk _ _⟩
 ·exact ⟨h, rfl⟩
def Grr (c : Nat) (f : RS -> RS) : Prop := ∀ (N : Nat) (ρ : RS), RM N ρ -> RM (N + c) (f ρ) /\ ρ.blk.length <= (f ρ).blk.length
theorem Grr.mono {c d : Nat} {f : RS -> RS} (h : Grr c f) (hd : c <= d) : Grr d f := fun N ρ I => ⟨(h N ρ I).1.mono (by omega), (h N ρ I).2⟩
theorem Grr.comp {c d : Nat} {f k : RS -> RS} (h : Grr c f) (hk : Grr d k) : Grr (c + d) fun ρ => k (f ρ) := fun N ρ I => by
 have h1 := h N ρ I
 have h2 := hk _ _ h1.1
 exact ⟨h2.1.mono (by omega), Nat.le_trans h1.2 h2.2⟩
theorem gr_amiss (c : Int) : Grr 0 (RS.amiss c) := fun N ρ I => ⟨I.amiss c, by rw [amiss_blk]; exact Nat.le_refl _⟩
theorem gr_want (t : Int) : Grr 0 (RS.want t) := fun N ρ I => ⟨(I.want t).1, by rw [(I.want t).2]; exact Nat.le_refl _⟩
theorem gr_wants (ts : List Int) : Grr 0 (RS.wants ts) := fun N ρ I => ⟨(I.wants ts).1, by rw [(I.wants ts).2]; exact Nat.le_refl _⟩
theorem gr_push (t : Int) : Grr 1 (RS.push t) := fun N ρ I => ⟨I.push t, by rw [push_blk]; exact Nat.le_refl _⟩
theorem gr_pushes (ts : List Int) : Grr ts.length (RS.pushes ts) := fun N ρ I => ⟨I.pushes ts, by rw [pushes_blk]; exact Nat.le_refl _⟩
theorem gr_stop : Grr 0 RS.stop := fun N ρ I => ⟨I.stop.1, by rw [I.stop.2]; exact Nat.le_refl _⟩
theorem gr_id : Grr 0 fun ρ => ρ := fun _ _ I => ⟨I, Nat.le_refl _⟩
theorem gr_if {c : Nat} {p : Prop} [Decidable p] {f k : RS -> RS} (hf : Grr c f) (hk : Grr c k) : Grr c fun ρ => if p then f ρ else k ρ := by
 intro N ρ I
 dsimp only
 split
 ·exact hf N ρ I
 ·exact hk N ρ I
theorem gr_odd (ts : List Int) (w : Int) : Grr 0 (RS.odd ts w) := gr_if (gr_amiss 4) gr_id
theorem gr_pop : Grr 0 fun ρ => ρ.pop.1 := fun N ρ I => ⟨I.pop.1, by rw [I.pop.2]; exact Nat.le_refl _⟩
theorem gr_jump (a : Int) (q : Bool) : Grr 1 (RS.jump a q) := by
 intro N ρ I
 unfold RS.jump
 split
 ·exact ((gr_amiss 5).mono (Nat.zero_le 1)) N ρ I
 ·exact gr_if (((gr_want 1).comp (gr_want _)).comp (gr_push _)) (((gr_want _).comp gr_stop).mono (Nat.zero_le _)) N ρ I
theorem gr_table (l : List Int) : Grr 0 (RS.table l) := by
 intro N ρ I
 unfold RS.table
 split
 ·exact gr_amiss 5 N ρ I
 ·exact (((gr_odd _ _).comp (gr_want 1)).comp (gr_want _)).comp gr_stop N ρ I
theorem gr_thr (q : Bool) : Grr 0 (RS.thr q) := gr_if (gr_want 1) gr_id
theorem gr_call {s : Scp} {R : Nat} (hR : ∀ x, x ∈ s.ty -> x.r.length <= R) (t : Int) (q : Bool) : Grr R (RS.call s t q) := by
 intro N ρ I
 unfold RS.call
 split
 ·exact ((gr_amiss 5).mono (Nat.zero_le _)) N ρ I
 ·split
  ·exact (gr_id.mono (Nat.zero_le _)) N ρ I
  ·rename_i x hx
   have h1 := ((((gr_if (p := 1 < x.r.length) (gr_amiss 4) gr_id).comp (gr_thr q)).comp (gr_wants x.p)).comp (gr_pushes x.r)) N ρ I
   exact ⟨h1.1.mono (by have := hR x (List.mem_of_getElem? hx); omega), h1.2⟩
theorem gr_fun {s : Scp} {R : Nat} (hR : ∀ x, x ∈ s.ty -> x.r.length <= R) (a : Int) : Grr R (RS.fun s a) := by
 intro N ρ I
 unfold RS.fun
 split
 ·exact ((gr_amiss 5).mono (Nat.zero_le _)) N ρ I
 ·split
  ·exact (gr_id.mono (Nat.zero_le _)) N ρ I
  ·exact gr_call hR _ _ N ρ I
theorem gr_varT (o t : Int) (mu : Bool) : Grr 1 (RS.varT o t mu) := by
 have h1 : Grr 0 fun ρ => (if o = 36 /\ mu = false then RS.amiss 4 ρ else ρ) := gr_if (gr_amiss 4) gr_id
 have h2 : Grr 0 fun ρ => (if o = 33 ∨ o = 34 ∨ o = 36 then RS.want t ρ else ρ) := gr_if (gr_want t) gr_id
 have h3 : Grr 1 fun ρ => (if o = 32 ∨ o = 34 ∨ o = 35 then RS.push t ρ else ρ) := gr_if (gr_push t) (gr_id.mono (Nat.zero_le _))
 exact (h1.comp h2).comp h3
theorem gr_var (s : Scp) (o a : Int) : Grr 1 (RS.var s o a) := by
 intro N ρ I
 unfold RS.var
 split
 all_goals
  split
  ·exact ((gr_amiss 5).mono (Nat.zero_le 1)) N ρ I
  ·split
   ·exact (gr_id.mono (Nat.zero_le 1)) N ρ I
   ·exact gr_varT _ _ _ N ρ I
theorem gr_plain (s : Scp) (r : OpR) (a : Int) : Grr 1 (RS.plain s r a) := by
 intro N ρ I
 unfold RS.plain
 split
 ·exact ((gr_amiss 5).mono (Nat.zero_le 1)) N ρ I
 ·exact (((gr_if (p := (r.kind = 7 ∨ r.kind = 8) /\ r.bytes < (2 : Int) ^ a.toNat) (gr_amiss 4) gr_id).comp (gr_wants r.takes)).comp (gr_push r.gives)) N ρ I
theorem gr_sel1 : Grr 0 RS.sel1 := fun N ρ I => by
 have h := gr_pop.comp gr_pop N ρ I
 unfold RS.sel1
 split
 ·exact ⟨h.1.amiss 4, by rw [amiss_blk]; exact h.2⟩
 ·exact h
theorem gr_sel0 : Grr 1 RS.sel0 := fun N ρ I => by
 have h := gr_sel1 N ρ I
 exact ⟨h.1.push _, by unfold RS.sel0; rw [push_blk]; exact h.2⟩
theorem gr_sel : Grr 1 RS.sel := (gr_want 1).comp gr_sel0
theorem gr_ahead (o t : Int) (q : Bool) : Grr 0 (RS.ahead o t q) := by
 unfold RS.ahead
 exact gr_if (gr_if ((gr_want 1).comp (gr_amiss 4)) (gr_want 1)) gr_id
theorem gr_one {s : Scp} {R : Nat} (hR : ∀ x, x ∈ s.ty -> x.r.length <= R) (r : OpR) (o a : Int) (l : List Int) : Grr (R + 1) (RS.one s r o a l) := by
 unfold RS.one
 refine gr_if (gr_stop.mono (Nat.zero_le _)) (gr_if ((gr_jump _ _).mono (by omega)) (gr_if ((gr_table l).mono (Nat.zero_le _)) (gr_if (((gr_want _).comp gr_stop).mono (Nat.zero_le _)) (gr_if ((gr_fun hR a).mono (by omega)) (gr_if ((gr_call hR a true).mono (by omega))
  (gr_if (gr_pop.mono (Nat.zero_le _)) (gr_if (gr_sel.mono (by omega)) (gr_if ((gr_var s o a).mono (by omega)) ((gr_plain s r a).mono (by omega))))))))))
theorem gr_code {OP : Int -> Option OpR} {s : Scp} {l : List Ins} {c : Nat} (hg : ∀ (re : Int) (fr N : Nat) (ρ : RS), RM N ρ -> RM0 (N + c) (RS.runL OP s l re fr ρ) /\ ρ.blk.length <= (RS.runL OP s l re fr ρ).blk.length + 1) (la re : Int) {N : Nat} {ρ : RS} (h : RM0 N ρ) :
  RM0 (N + (c + 1)) (RS.code OP s l la re ρ) /\ ρ.blk.length <= (RS.code OP s l la re ρ).blk.length := by
 unfold RS.code
 split
 ·exact ⟨h.mono (by omega), Nat.le_refl _⟩
 ·have h1 := hg re ρ.row.length _ _ (h.opn la)
  refine ⟨h1.1.mono (by omega), ?_⟩
  have h2 := h1.2
  have h3 : (ρ.opn la).blk.length = ρ.blk.length + 1 := by simp [RS.opn]
  omega
end Go.Proofs.Am
namespace Go.Proofs.Am
open Go
def kB (b : Blk) : List Int × Nat × Bool := (b.lab, b.ht, b.nv)
def kR (c : RBk) : List Int × Nat × Bool := (rsl c.lab, c.ht, c.nv)
structure RG (σ : LS) (ρ : RS) : Prop where
 err : σ.err = none
 bad : ρ.bad = 0
 row : σ.row = ρ.row
 key : σ.blk.map kB = ρ.blk.map kR
 val : ∀ x, x ∈ ρ.row -> x = -1 ∨ 0 < x
 lab : ∀ c, c ∈ ρ.blk -> 0 <= c.lab
 wf : WF0 σ
def BadR (σ : LS) (ρ : RS) : Prop := ∃ c, c ≠ 0 /\ σ.err = some c /\ ρ.bad = c
def RR0 (σ : LS) (ρ : RS) : Prop := RG σ ρ ∨ BadR σ ρ
def RR (σ : LS) (ρ : RS) : Prop := (RG σ ρ /\ σ.blk ≠ []) ∨ BadR σ ρ
theorem RR.rr0 {σ : LS} {ρ : RS} (h : RR σ ρ) : RR0 σ ρ := h.imp (fun h => h.1) id
theorem RG.wf1 {σ : LS} {ρ : RS} (h : RG σ ρ) (hn : σ.blk ≠ []) : WF σ := ⟨hn, h.wf.le, h.wf.srt⟩
theorem WF.wf0 {σ : LS} (h : WF σ) : WF0 σ := ⟨h.le, h.srt⟩
def KeepR (G : RS -> RS) : Prop := ∀ ρ : RS, ρ.bad ≠ 0 -> (G ρ).bad = ρ.bad
def SimR (F : LS -> LS) (G : RS -> RS) : Prop := ∀ (σ : LS) (ρ : RS), RR σ ρ -> RR (F σ) (G ρ)
theorem SimR.comp {F F' : LS -> LS} {G G' : RS -> RS} (h : SimR F G) (h' : SimR F' G') : SimR (fun σ => F' (F σ)) (fun ρ => G' (G ρ)) := fun σ ρ r => h' _ _ (h σ ρ r)
theorem sim_of {F : LS -> LS} {G : RS -> RS} (k : Keeps F) (k' : KeepR G) (h : ∀ (σ : LS) (ρ : RS), RG σ ρ -> σ.blk ≠ [] -> RR (F σ) (G ρ)) : SimR F G := fun σ ρ r => by
 rcases r with ⟨g, hn⟩ | ⟨c, h0, h1, h2⟩
 ·exact h σ ρ g hn
 ·exact .inr ⟨c, h0, k σ c h1, by rw [k' ρ (by rw [h2]; exact h0), h2]⟩
theorem r_id : SimR (fun σ => σ) (fun ρ => ρ) := fun _ _ r => r
theorem r_ite {F F' : LS -> LS} {G G' : RS -> RS} {p q : Prop} [Decidable p] [Decidable q] (hpq : p ↔ q) (h : SimR F G) (h' : SimR F' G') : SimR (fun σ => if p then F σ else F' σ) (fun ρ => if q then G ρ else G' ρ) := fun σ ρ r => by
 by_cases hp : p
 ·simp only [if_pos hp, if_pos (hpq.1 hp)]; exact h σ ρ r
 ·simp only [if_neg hp, if_neg (fun hq => hp (hpq.2 hq))]; exact h' σ ρ r
theorem r_fail {c : Int} (hc : c ≠ 0) : SimR (LS.fail c) (RS.amiss c) := fun σ ρ r => by
 rcases r with ⟨g, _⟩ | ⟨e, h0, h1, h2⟩
 ·exact .inr ⟨c, hc, by unfold LS.fail; rw [if_pos g.err], by unfold RS.amiss; rw [if_pos g.bad]⟩
 ·exact .inr ⟨e, h0, by rw [fail_keep h1]; exact h1, by unfold RS.amiss; rw [if_neg (by rw [h2]; exact h0)]; exact h2⟩
theorem kp_amiss (c : Int) : KeepR (RS.amiss c) := fun ρ h => by unfold RS.amiss; rw [if_neg h]
theorem kp_pop : KeepR fun ρ => ρ.pop.1 := fun ρ h => by
 show ρ.pop.1.bad = ρ.bad
 unfold RS.pop
 split
 ·rfl
 ·split
  ·dsimp only
   split
   ·rfl
   ·exact kp_amiss 4 ρ h
  ·rfl
theorem kp_want (t : Int) : KeepR (RS.want t) := fun ρ h => by
 have h1 := kp_pop ρ h
 rcases want_cases t ρ with e | e | e <;> rw [e]
 ·exact h1
 ·exact (kp_amiss 4 _ (by rw [h1]; exact h)).trans h1
theorem last_key {l : List Blk} {k : List RBk} (h : l.map kB = k.map kR) : l.getLast?.map kB = k.getLast?.map kR := by
 have := congrArg List.getLast? h
 rwa [List.getLast?_map, List.getLast?_map] at this
theorem last_both {σ : LS} {ρ : RS} (g : RG σ ρ) (hn : σ.blk ≠ []) : ∃ b c, σ.blk.getLast? = some b /\ ρ.blk.getLast? = some c /\ kB b = kR c /\ b.ht <= σ.row.length := by
 obtain ⟨b, hb, _⟩ := last_of hn
 have h1 := last_key g.key
 rw [hb] at h1
 cases hc : ρ.blk.getLast? with
 | none => rw [hc] at h1; cases h1
 | some c =>
  rw [hc] at h1
  simp only [Option.map_some, Option.some.injEq] at h1
  exact ⟨b, c, hb, rfl, h1, g.wf.le b (List.mem_of_getLast? hb)⟩
theorem getLastD_of {l : List Int} {x : Int} (h : l.getLast? = some x) : l.getLastD 0 = x := by
 rw [List.getLastD_eq_getLast?, h]; rfl
theorem RG.drop {σ : LS} {ρ : RS} (g : RG σ ρ) {b : Blk} (hb : σ.blk.getLast? = some b) (hlt : b.ht < σ.row.length) : RG { σ with row := σ.row.dropLast } { ρ with row := ρ.row.dropLast } :=
 ⟨g.err, g.bad, by dsimp only; rw [g.row], g.key, fun x hx => g.val x (List.dropLast_subset _ hx), g.lab, ⟨fun c hc => by
  have := srt_last g.wf.srt hb c hc
  simp only [List.length_dropLast]; omega, g.wf.srt⟩⟩
theorem take_pop {σ : LS} {ρ : RS} (g : RG σ ρ) (hn : σ.blk ≠ []) (w : Int) :
  (ρ.pop.2 = -1 /\ (σ.take w).2 = w /\ RR (σ.take w).1 ρ.pop.1) ∨
  (∃ x, (x = -1 ∨ 0 < x) /\ ρ.pop.2 = x /\ (σ.take w).2 = (if x = -1 then w else x) /\ RG { σ with row := σ.row.dropLast } ρ.pop.1 /\
   (σ.take w).1 = (if x ≠ w /\ x ≠ -1 /\ w ≠ -1 then ({ σ with row := σ.row.dropLast } : LS).fail 4 else { σ with row := σ.row.dropLast })) := by
 obtain ⟨b, c, hb, hc, hk, hle⟩ := last_both g hn
 have hht : b.ht = c.ht := congrArg (fun p => p.2.1) hk
 have hnv : b.nv = c.nv := congrArg (fun p => p.2.2) hk
 unfold LS.take RS.pop
 rw [hb, hc]
 by_cases hl : σ.row.length = b.ht
 ·simp only [if_pos hl, if_pos (show ρ.row.length <= c.ht by rw [← g.row]; omega)]
  refine .inl ⟨trivial, ?_, ?_⟩
  ·split <;> rfl
  ·rw [hnv]
   cases c.nv with
   | true => exact .inl ⟨g, hn⟩
   | false => exact r_fail (c := 4) (by decide) σ ρ (.inl ⟨g, hn⟩)
 ·simp only [if_neg hl, if_neg (show ¬ ρ.row.length <= c.ht by rw [← g.row]; omega)]
  have hlt : b.ht < σ.row.length := by omega
  have hrn : σ.row ≠ [] := by rintro e; rw [e] at hlt; simp at hlt
  have hx : σ.row.getLast? = some (σ.row.getLast hrn) := List.getLast?_eq_some_getLast hrn
  rw [hx]
  have hd : ρ.row.getLastD 0 = σ.row.getLast hrn := getLastD_of (by rw [← g.row]; exact hx)
  refine .inr ⟨σ.row.getLast hrn, g.val _ (by rw [← g.row]; exact List.getLast_mem hrn), hd, rfl, g.drop hb hlt, rfl⟩
theorem r_take {t : Int} (ht : 0 < t) : SimR (fun σ => (σ.take t).1) (RS.want t) := sim_of (k_take t) (kp_want t) fun σ ρ g hn => by
 have hne : ¬ t = 0 := by omega
 unfold RS.want
 rw [if_neg hne]
 rcases take_pop g hn t with ⟨h1, _, h3⟩ | ⟨x, hx, h1, _, h3, h4⟩
 ·rw [if_neg (by rw [h1]; omega)]
  exact h3
 ·rw [h4, h1]
  have e : (x ≠ t /\ x ≠ -1 /\ t ≠ -1) ↔ (0 <= x /\ x ≠ t) := by omega
  by_cases hp : x ≠ t /\ x ≠ -1 /\ t ≠ -1
  ·rw [if_pos hp, if_pos (e.1 hp)]
   exact r_fail (by decide) _ _ (.inl ⟨h3, hn⟩)
  ·rw [if_neg hp, if_neg (fun h => hp (e.2 h))]
   exact .inl ⟨h3, hn⟩
theorem r_want {t : Int} (ht : 0 <= t) : SimR (LS.all (rsl t)) (RS.want t) := by
 by_cases h0 : t = 0
 ·subst h0
  have e : (RS.want 0) = fun ρ => ρ := by funext ρ; unfold RS.want; rw [if_pos rfl]
  rw [e]
  exact r_id
 ·have e : LS.all (rsl t) = fun σ => (σ.take t).1 := by funext σ; unfold rsl; rw [if_neg h0]; rfl
  rw [e]
  exact r_take (by omega)
theorem r_wants : ∀ {ts : List Int}, (∀ t, t ∈ ts -> 0 < t) -> SimR (LS.all ts) (RS.wants ts)
 | [], _ => r_id
 | t :: ts, h => (r_wants fun x hx => h x (List.mem_cons_of_mem _ hx)).comp (r_take (h t (by simp)))
theorem give_one (t : Int) (σ : LS) : σ.give [t] = if t = 0 then σ else { σ with row := σ.row ++ [t] } := by
 unfold LS.give
 by_cases h : t = 0
 ·subst h; simp
 ·rw [if_neg h]; simp [h]
theorem RG.push {σ : LS} {ρ : RS} (g : RG σ ρ) {t : Int} (ht : t = -1 ∨ 0 < t) : RG { σ with row := σ.row ++ [t] } { ρ with row := ρ.row ++ [t] } :=
 ⟨g.err, g.bad, by dsimp only; rw [g.row], g.key, fun x hx => by
  rcases List.mem_append.1 hx with h | h
  ·exact g.val x h
  ·rw [List.mem_singleton.1 h]; exact ht, g.lab, ⟨fun c hc => by
   have := g.wf.le c hc
   simp only [List.length_append]; omega, g.wf.srt⟩⟩
theorem r_give {t : Int} (ht : -1 <= t) : SimR (LS.give [t]) (RS.push t) := sim_of (k_give _) (fun ρ h => push_bad t ρ) fun σ ρ g hn => by
 rw [give_one]
 unfold RS.push
 by_cases h : t = 0
 ·rw [if_pos h, if_pos h]; exact .inl ⟨g, hn⟩
 ·rw [if_neg h, if_neg h]
  exact .inl ⟨g.push (by omega), hn⟩
theorem give_rsl (t : Int) : LS.give (rsl t) = LS.give [t] := by
 funext σ
 rw [give_one]
 unfold rsl LS.give
 by_cases h : t = 0
 ·rw [if_pos h, if_pos h]; simp
 ·rw [if_neg h, if_neg h]; simp [h]
theorem r_push {t : Int} (ht : -1 <= t) : SimR (LS.give (rsl t)) (RS.push t) := by rw [give_rsl]; exact r_give ht
theorem give_cons (t : Int) (ts : List Int) (σ : LS) : σ.give (t :: ts) = (σ.give [t]).give ts := by
 unfold LS.give
 simp only [List.append_assoc, ← List.filter_append, List.singleton_append]
theorem r_pushes : ∀ {ts : List Int}, (∀ t, t ∈ ts -> 0 < t) -> SimR (LS.give ts) (RS.pushes ts)
 | [], _ => by
  have e : LS.give [] = fun σ => σ := by funext σ; unfold LS.give; simp
  rw [e]
  exact r_id
 | t :: ts, h => fun σ ρ r => by
  rw [give_cons]
  exact r_pushes (fun x hx => h x (List.mem_cons_of_mem _ hx)) _ _ (r_give (by have := h t (by simp); omega) σ ρ r)
theorem nv_key : ∀ {l : List Blk} {k : List RBk}, l.map kB = k.map kR -> (setNv l).map kB = (nvR k).map kR
 | [], [], _ => rfl
 | [b], [c], h => by
  simp only [List.map_cons, List.map_nil, List.cons.injEq, and_true, kB, kR, Prod.mk.injEq] at h
  simp [setNv, nvR, kB, kR, h.1, h.2.1]
 | b :: b' :: l, c :: c' :: k, h => by
  rw [List.map_cons, List.map_cons (f := kR), List.cons.injEq] at h
  have := nv_key h.2
  rw [setNv, nvR, List.map_cons, List.map_cons, h.1, this]
 | [], _ :: _, h => by cases h
 | _ :: _, [], h => by cases h
 | [_], _ :: _ :: _, h => by simp at h
 | _ :: _ :: _, [_], h => by simp at h
theorem nvR_lab : ∀ (l : List RBk) (c : RBk), c ∈ nvR l -> ∃ d, d ∈ l /\ c.lab = d.lab
 | [], c, h => by cases h
 | [b], c, h => by
  simp only [nvR, List.mem_singleton] at h
  exact ⟨b, by simp, by rw [h]⟩
 | b :: b' :: l, c, h => by
  rw [nvR, List.mem_cons] at h
  rcases h with h | h
  ·exact ⟨b, by simp, by rw [h]⟩
  ·obtain ⟨d, hd, e⟩ := nvR_lab (b' :: l) c h
   exact ⟨d, List.mem_cons_of_mem _ hd, e⟩
theorem stop_ne {σ : LS} (h : σ.blk ≠ []) : σ.stop.blk ≠ [] := by
 intro e
 have := stop_blen σ
 rw [e] at this
 exact h (List.eq_nil_of_length_eq_zero this.symm)
theorem r_stop : SimR LS.stop RS.stop := sim_of k_stop (fun ρ h => by unfold RS.stop; split <;> rfl) fun σ ρ g hn => by
 obtain ⟨b, c, hb, hc, hk, hle⟩ := last_both g hn
 have hht : b.ht = c.ht := congrArg (fun p => p.2.1) hk
 refine .inl ⟨?_, stop_ne hn⟩
 have hw := (g.wf1 hn).stop.wf0
 unfold LS.stop RS.stop at *
 rw [hb] at *
 rw [hc]
 refine ⟨g.err, g.bad, ?_, nv_key g.key, fun x hx => g.val x (List.take_subset _ _ hx), fun d hd => ?_, hw⟩
 ·dsimp only; rw [g.row, hht]
 ·obtain ⟨d', hd', e⟩ := nvR_lab _ d hd
  rw [e]; exact g.lab d' hd'
theorem lbl_key {σ : LS} {ρ : RS} (g : RG σ ρ) {n : Int} (h0 : 0 <= n) : σ.lbl n = (ρ.lbl n).map rsl /\ ∀ t, ρ.lbl n = some t -> 0 <= t := by
 have hlen : σ.blk.length = ρ.blk.length := by have := congrArg List.length g.key; simpa using this
 unfold LS.lbl RS.lbl
 by_cases h : n < σ.blk.length
 ·rw [if_pos h, if_neg (by rw [← hlen]; omega)]
  have h1 := congrArg (fun l => l[ρ.blk.length - 1 - n.toNat]?) g.key
  simp only [List.getElem?_map] at h1
  rw [hlen]
  cases hb : σ.blk[ρ.blk.length - 1 - n.toNat]? with
  | none =>
   rw [hb] at h1
   cases hc : ρ.blk[ρ.blk.length - 1 - n.toNat]? with
   | none => exact ⟨rfl, fun t ht => by cases ht⟩
   | some c => rw [hc] at h1; cases h1
  | some b =>
   rw [hb] at h1
   cases hc : ρ.blk[ρ.blk.length - 1 - n.toNat]? with
   | none => rw [hc] at h1; cases h1
   | some c =>
    rw [hc] at h1
    simp only [Option.map_some, Option.some.injEq, kB, kR, Prod.mk.injEq] at h1
    refine ⟨by simp [h1.1], fun t ht => ?_⟩
    simp only [Option.map_some, Option.some.injEq] at ht
    subst ht
    exact g.lab c (List.mem_of_getElem? hc)
 ·rw [if_neg h, if_pos (.inr (by rw [← hlen]; omega))]
  exact ⟨rfl, fun t ht => by cases ht⟩
theorem tbl_key {σ : LS} {ρ : RS} (g : RG σ ρ) : ∀ (l : List Int) (acc : List Int), (∀ n, n ∈ l -> 0 <= n) -> (∀ t, t ∈ acc -> 0 <= t) -> LS.tbl l (acc.map rsl) σ = (RS.tbl l acc ρ).map (fun ts => ts.map rsl) /\ ∀ ts, RS.tbl l acc ρ = some ts -> ∀ t, t ∈ ts -> 0 <= t
 | [], acc, _, ha => ⟨rfl, fun ts h => by cases h; exact ha⟩
 | n :: ns, acc, hl, ha => by
  obtain ⟨h1, h2⟩ := lbl_key g (hl n (by simp))
  rw [LS.tbl, RS.tbl, h1]
  cases hn : ρ.lbl n with
  | none => exact ⟨rfl, fun ts h => by cases h⟩
  | some t =>
   have := tbl_key g ns (acc ++ [t]) (fun k hk => hl k (List.mem_cons_of_mem _ hk)) (fun x hx => by
    rcases List.mem_append.1 hx with h | h
    ·exact ha x h
    ·rw [List.mem_singleton.1 h]; exact h2 t hn)
   rw [List.map_append] at this
   exact this
theorem rsl_inj {a b : Int} (h : rsl a = rsl b) : a = b := by
 unfold rsl at h
 split at h <;> split at h
 ·omega
 ·cases h
 ·cases h
 ·simpa using h
theorem any_rsl (ts : List Int) (w : Int) : ((ts.map rsl).any (· ≠ rsl w)) = (ts.any (· ≠ w)) := by
 rw [List.any_map]
 congr 1
 funext x
 simp only [Function.comp]
 by_cases h : x = w
 ·subst h; simp
 ·have : rsl x ≠ rsl w := fun e => h (rsl_inj e)
  simp [h, this]
theorem lastD_rsl (ts : List Int) : (ts.map rsl).getLastD [] = rsl (ts.getLastD 0) := by
 rw [List.getLastD_eq_getLast?, List.getLastD_eq_getLast?, List.getLast?_map]
 cases ts.getLast? <;> rfl
theorem r_ifail {c : Int} (hc : c ≠ 0) {p q : Prop} [Decidable p] [Decidable q] (hpq : p ↔ q) : SimR (fun σ => if p then σ.fail c else σ) (fun ρ => if q then ρ.amiss c else ρ) := r_ite hpq (r_fail hc) r_id
theorem kp_comp {G G' : RS -> RS} (h : KeepR G) (h' : KeepR G') : KeepR fun ρ => G' (G ρ) := fun ρ hb => by
 have := h ρ hb
 rw [h' _ (by rw [this]; exact hb), this]
theorem kp_stop : KeepR RS.stop := fun ρ h => by unfold RS.stop; split <;> rfl
theorem kp_id : KeepR fun ρ => ρ := fun _ _ => rfl
theorem kp_ite {p : Prop} [Decidable p] {G G' : RS -> RS} (h : KeepR G) (h' : KeepR G') : KeepR fun ρ => if p then G ρ else G' ρ := by
 by_cases hp : p
 ·simp only [if_pos hp]; exact h
 ·simp only [if_neg hp]; exact h'
theorem kp_push (t : Int) : KeepR (RS.push t) := fun ρ _ => push_bad t ρ
theorem kp_wants : ∀ ts : List Int, KeepR (RS.wants ts)
 | [] => kp_id
 | t :: ts => kp_comp (G := RS.wants ts) (kp_wants ts) (kp_want t)
theorem kp_pushes : ∀ ts : List Int, KeepR (RS.pushes ts)
 | [] => kp_id
 | t :: ts => kp_comp (G := RS.push t) (kp_push t) (kp_pushes ts)
theorem kp_table (l : List Int) : KeepR (RS.table l) := fun ρ h => by
 unfold RS.table
 split
 ·exact kp_amiss 5 ρ h
 ·exact kp_comp (kp_comp (kp_comp (kp_ite (kp_amiss 4) kp_id) (kp_want 1)) (kp_want _)) kp_stop ρ h
theorem r_table {l : List Int} (hl : ∀ n, n ∈ l -> 0 <= n) : SimR (LS.table l) (RS.table l) := sim_of (k_table l) (kp_table l) fun σ ρ g hn => by
 obtain ⟨h1, h2⟩ := tbl_key g l [] hl (fun t ht => by cases ht)
 rw [List.map_nil] at h1
 unfold LS.table RS.table
 rw [h1]
 cases ht : RS.tbl l [] ρ with
 | none => exact r_fail (by decide) σ ρ (.inl ⟨g, hn⟩)
 | some ts =>
  simp only [Option.map_some]
  have hw : 0 <= ts.getLastD 0 := by
   rw [List.getLastD_eq_getLast?]
   cases hg : ts.getLast? with
   | none => exact Int.le_refl 0
   | some x => exact h2 ts ht x (List.mem_of_getLast? hg)
  rw [lastD_rsl, any_rsl]
  exact ((((r_ifail (c := 4) (by decide) Iff.rfl).comp (r_take (t := 1) (by decide))).comp (r_want hw)).comp r_stop) σ ρ (.inl ⟨g, hn⟩)
end Go.Proofs.Am
namespace Go.Proofs.Am
open Go
section
variable {OP : Int -> Option OpR} {s : Scp} {R : Nat}
def RunR (OP : Int -> Option OpR) (s : Scp) (c : Nat) (l : List Ins) : Prop := ∀ (re : Int) (fr N : Nat) (ρ : RS), RM N ρ -> RM0 (N + c) (RS.runL OP s l re fr ρ) /\ ρ.blk.length <= (RS.runL OP s l re fr ρ).blk.length + 1
theorem RM0.rm {N : Nat} {ρ : RS} (h : RM0 N ρ) (hp : 0 < ρ.blk.length) : RM N ρ := ⟨h, List.length_pos_iff.1 hp⟩
theorem RM.pos {N : Nat} {ρ : RS} (h : RM N ρ) : 0 < ρ.blk.length := List.length_pos_iff.2 h.ne
theorem gr_codeM {l : List Ins} {c : Nat} (hg : RunR OP s c l) (la re : Int) : Grr (c + 1) (RS.code OP s l la re) := fun N ρ I => by
 have h := gr_code hg la re I.toRM0
 exact ⟨h.1.rm (Nat.lt_of_lt_of_le I.pos h.2), h.2⟩
def RS.block (OP : Int -> Option OpR) (s : Scp) (o t : Int) (bd el : List Ins) (q : Bool) (ρ : RS) : RS :=
 if o = 3 then RS.code OP s bd 0 t ρ
 else if q = true /\ (RS.code OP s bd t t (ρ.ahead o t q)).bad = 0 then RS.code OP s el t t ((RS.code OP s bd t t (ρ.ahead o t q)).want t)
 else RS.code OP s bd t t (ρ.ahead o t q)
theorem instrR_some {o a b v t : Int} {l : List Int} {bd el : List Ins} {q : Bool} {ρ : RS} {r : OpR} (h : OP o = some r) :
  RS.instr OP s (.mk o a b v t l bd el q) ρ = if r.kind = 2 then ρ.block OP s o t bd el q else ρ.one s r o a l := by
 unfold RS.instr RS.block RS.code
 rw [h]
theorem gr_block {o t : Int} {bd el : List Ins} {q : Bool} {cb cl : Nat} (hb : RunR OP s cb bd) (hl : RunR OP s cl el) : Grr (cb + cl + 2) (RS.block OP s o t bd el q) := by
 intro N ρ I
 unfold RS.block
 have h2 := ((gr_ahead o t q).comp (gr_codeM hb t t)) N ρ I
 split
 ·exact ((gr_codeM hb 0 t).mono (by omega)) N ρ I
 ·split
  ·have h3 := ((gr_want t).comp (gr_codeM hl t t)) _ _ h2.1
   exact ⟨h3.1.mono (by omega), Nat.le_trans h2.2 h3.2⟩
  ·exact ⟨h2.1.mono (by omega), h2.2⟩
mutual
theorem gr_instr (hR : ∀ x, x ∈ s.ty -> x.r.length <= R) : ∀ x : Ins, Grr ((R + 6) * cI x) (RS.instr OP s x)
 | .mk o a b v t l bd el q => fun N ρ I => by
  have hb := gr_runL hR bd
  have hl := gr_runL hR el
  cases ho : OP o with
  | none =>
   have e : RS.instr OP s (.mk o a b v t l bd el q) ρ = ρ := by unfold RS.instr; rw [ho]
   rw [e]
   exact ⟨I.mono (by omega), Nat.le_refl _⟩
  | some r =>
   rw [instrR_some ho]
   have hc : cI (.mk o a b v t l bd el q) = 1 + l.length + cL bd + cL el := by rw [cI]
   have hm : (R + 6) * cI (.mk o a b v t l bd el q) = (R + 6) + (R + 6) * l.length + (R + 6) * cL bd + (R + 6) * cL el := by
    rw [hc, Nat.mul_add, Nat.mul_add, Nat.mul_add, Nat.mul_one]
   split
   ·exact ((gr_block hb hl).mono (by rw [hm]; omega)) N ρ I
   ·exact ((gr_one hR r o a l).mono (by rw [hm]; omega)) N ρ I
theorem gr_runL (hR : ∀ x, x ∈ s.ty -> x.r.length <= R) : ∀ xs : List Ins, RunR OP s ((R + 6) * cL xs + 1) xs
 | [] => fun re fr N ρ I => by
  unfold RS.runL
  split
  ·exact ⟨I.toRM0.mono (by omega), Nat.le_succ _⟩
  ·have h := I.fin re fr
   exact ⟨h.1.mono (by omega), h.2⟩
 | x :: xs => fun re fr N ρ I => by
  unfold RS.runL
  split
  ·exact ⟨I.toRM0.mono (by omega), Nat.le_succ _⟩
  ·have h1 := gr_instr hR x N ρ I
   have h2 := gr_runL hR xs re fr _ _ h1.1
   have hc : cL (x :: xs) = cI x + cL xs := by rw [cL]
   refine ⟨h2.1.mono ?_, by omega⟩
   rw [hc, Nat.mul_add]
   omega
end
theorem kp_jump (a : Int) (q : Bool) : KeepR (RS.jump a q) := fun ρ h => by
 unfold RS.jump
 split
 ·exact kp_amiss 5 ρ h
 ·exact kp_ite (kp_comp (G := fun ρ => RS.want _ (RS.want 1 ρ)) (kp_comp (G := RS.want 1) (kp_want 1) (kp_want _)) (kp_push _)) (kp_comp (G := RS.want _) (kp_want _) kp_stop) ρ h
theorem kp_thr (q : Bool) : KeepR (RS.thr q) := kp_ite (kp_want 1) kp_id
theorem kp_call (t : Int) (q : Bool) : KeepR (RS.call s t q) := fun ρ h => by
 unfold RS.call
 split
 ·exact kp_amiss 5 ρ h
 ·split
  ·rfl
  ·rename_i x _
   exact kp_comp (G := fun ρ => RS.wants x.p (RS.thr q (if 1 < x.r.length then ρ.amiss 4 else ρ))) (kp_comp (G := fun ρ => RS.thr q (if 1 < x.r.length then ρ.amiss 4 else ρ)) (kp_comp (G := fun ρ => if 1 < x.r.length then ρ.amiss 4 else ρ) (kp_ite (kp_amiss 4) kp_id) (kp_thr q)) (kp_wants x.p)) (kp_pushes x.r) ρ h
theorem kp_sel1 : KeepR RS.sel1 := fun ρ h => by
 have h1 := kp_pop ρ h
 have h2 := kp_pop ρ.pop.1 (by rw [h1]; exact h)
 unfold RS.sel1
 split
 ·rw [kp_amiss 4 _ (by rw [h2, h1]; exact h), h2, h1]
 ·rw [h2, h1]
theorem kp_sel0 : KeepR RS.sel0 := fun ρ h => by unfold RS.sel0; rw [push_bad]; exact kp_sel1 ρ h
theorem kp_code (l : List Ins) (la re : Int) : KeepR (RS.code OP s l la re) := fun ρ h => by unfold RS.code; rw [if_pos h]
end
end Go.Proofs.Am
