/-
  Code's types, gone through: what may be, how much there is of it, how great the looker grows by it.
-/
import Derived.Test.YtoblgjmllmomhaaGreatDoorAmMod
namespace Go.Proofs.Am
open Go
structure Scp where
 ty : List FTy
 fn : List Int
 gl : List Glo
 tb : Bool
 mm : Bool
 lo : List Int
 re : Int
def Scp.enc (s : Scp) : List AV := [.imm (s.ty.map FTy.enc), .imm (encN s.fn), .imm (s.gl.map Glo.enc), .bool s.tb, .bool s.mm, .imm (encN s.lo), .int .i64 s.re]
structure Blk where
 lab : List Int
 res : List Int
 ht : Nat
 nv : Bool
structure LS where
 row : List Int
 blk : List Blk
 err : Option Int
structure OpR where
 byte : Int
 nm : ByteArray
 kind : Int
 takes : List Int
 gives : Int
 bytes : Int
 sg : Bool
def rsl (t : Int) : List Int := if t = 0 then [] else [t]
def LS.fail (c : Int) (σ : LS) : LS := if σ.err = none then { σ with err := some c } else σ
def LS.take (w : Int) (σ : LS) : LS × Int :=
 match σ.blk.getLast? with
 | none => (σ, w)
 | some b =>
  if σ.row.length = b.ht then (if b.nv then (σ, w) else (σ.fail 4, w))
  else match σ.row.getLast? with
   | none => (σ, w)
   | some got =>
    (if got ≠ w /\ got ≠ -1 /\ w ≠ -1 then ({ σ with row := σ.row.dropLast } : LS).fail 4 else { σ with row := σ.row.dropLast }, if got = -1 then w else got)
def LS.all : List Int -> LS -> LS
 | [], σ => σ
 | t :: ts, σ => ((LS.all ts σ).take t).1
def LS.give (ts : List Int) (σ : LS) : LS := { σ with row := σ.row ++ ts.filter (· ≠ 0) }
def setNv : List Blk -> List Blk
 | [] => []
 | [b] => [{ b with nv := true }]
 | b :: c :: bs => b :: setNv (c :: bs)
def LS.stop (σ : LS) : LS :=
 match σ.blk.getLast? with
 | none => σ
 | some b => { σ with row := σ.row.take b.ht, blk := setNv σ.blk }
def LS.lbl (n : Int) (σ : LS) : Option (List Int) := if n < σ.blk.length then (σ.blk[σ.blk.length - 1 - n.toNat]?).map (·.lab) else none
def LS.push (lab res : List Int) (σ : LS) : LS := { σ with blk := σ.blk ++ [⟨lab, res, σ.row.length, false⟩] }
def LS.fin2 (res : List Int) (b : Blk) (σ : LS) : LS := LS.give res { σ with row := σ.row.take (min b.ht σ.row.length), blk := σ.blk.dropLast }
def LS.fin1 (res : List Int) (σ : LS) : LS :=
 match σ.blk.getLast? with
 | none => σ
 | some b => LS.fin2 res b (if σ.row.length = b.ht then σ else σ.fail 4)
def LS.fin (res : List Int) (σ : LS) : LS := LS.fin1 res (σ.all res)
def LS.tbl : List Int -> List (List Int) -> LS -> Option (List (List Int))
 | [], acc, _ => some acc
 | n :: ns, acc, σ => match σ.lbl n with
  | none => none
  | some t => LS.tbl ns (acc ++ [t]) σ
def LS.table (l : List Int) (σ : LS) : LS :=
 match σ.tbl l [] with
 | none => σ.fail 5
 | some ts => (((if ts.any (· ≠ ts.getLastD []) then σ.fail 4 else σ).take 1).1.all (ts.getLastD [])).stop
def LS.jump (s : Scp) (o a : Int) (l : List Int) (σ : LS) : LS :=
 if o = 15 then (σ.all (rsl s.re)).stop
 else if o = 14 then σ.table l
 else match σ.lbl a with
  | none => σ.fail 5
  | some t => if o = 13 then ((σ.take 1).1.all t).give t else (σ.all t).stop
def LS.thr (q : Bool) (σ : LS) : LS := if q then (σ.take 1).1 else σ
def LS.callT (s : Scp) (thr : Bool) (n : Int) (σ : LS) : LS :=
 if n < 0 ∨ (s.ty.length : Int) <= n ∨ (thr = true /\ s.tb = false) then σ.fail 5
 else match s.ty[n.toNat]? with
  | none => σ
  | some t => LS.give t.r (LS.all t.p (LS.thr thr (if 1 < t.r.length then σ.fail 4 else σ)))
def LS.call (s : Scp) (o a : Int) (σ : LS) : LS :=
 if o = 16 then (if (s.fn.length : Int) <= a then σ.fail 5 else match s.fn[a.toNat]? with | none => σ | some n => σ.callT s false n)
 else σ.callT s true a
def LS.sel (p : LS × Int) : LS := (p.1.take p.2).1.give [(p.1.take p.2).2]
def LS.any (o : Int) (σ : LS) : LS :=
 if o = 26 then (σ.take (-1)).1
 else LS.sel ((σ.take 1).1.take (-1))
def LS.varT (o t : Int) (may : Bool) (σ : LS) : LS :=
 if o = 32 ∨ o = 35 then σ.give [t]
 else if o = 34 then (σ.take t).1.give [t]
 else ((if may = false /\ o = 36 then σ.fail 4 else σ).take t).1
def LS.var (s : Scp) (o a : Int) (σ : LS) : LS :=
 if o < 35 then (if a < s.lo.length then match s.lo[a.toNat]? with | none => σ | some t => σ.varT o t true else σ.fail 5)
 else if a < s.gl.length then match s.gl[a.toNat]? with | none => σ | some g => σ.varT o g.t g.mu else σ.fail 5
def LS.plain (s : Scp) (r : OpR) (a : Int) (σ : LS) : LS :=
 if (r.kind = 7 ∨ r.kind = 8 ∨ r.kind = 9) /\ s.mm = false then σ.fail 5
 else ((if (r.kind = 7 ∨ r.kind = 8) /\ (3 < a ∨ r.bytes < (2 : Int) ^ a.toNat) then σ.fail 4 else σ).all r.takes).give [r.gives]
def LS.cond (o t : Int) (q : Bool) (σ : LS) : LS := if o = 4 then (if q = false /\ t ≠ 0 then (σ.take 1).1.fail 4 else (σ.take 1).1) else σ
section
variable (OP : Int -> Option OpR) (s : Scp)
mutual
def LS.instr : Ins -> LS -> LS
 | .mk o a _ _ t l bd el q, σ =>
  match OP o with
  | none => σ.fail 1
  | some r =>
   if r.kind = 2 then
    (if o = 3 then (if σ.err.isSome then σ else LS.runL bd (rsl t) (σ.push [] (rsl t)))
     else
     let σ1 := LS.cond o t q σ
     let σ2 := if σ1.err.isSome then σ1 else LS.runL bd (rsl t) (σ1.push (rsl t) (rsl t))
     if q = true /\ σ2.err = none then
      (if (σ2.all (rsl t)).err.isSome then σ2.all (rsl t) else LS.runL el (rsl t) ((σ2.all (rsl t)).push (rsl t) (rsl t)))
     else σ2)
   else if r.kind = 3 then σ.jump s o a l
   else if r.kind = 4 then σ.call s o a
   else if r.kind = 5 then σ.any o
   else if r.kind = 6 then σ.var s o a
   else if o = 0 then σ.stop
   else σ.plain s r a
def LS.runL : List Ins -> List Int -> LS -> LS
 | [], res, σ => σ.fin res
 | x :: xs, res, σ => if σ.err.isSome then σ else LS.runL xs res (LS.instr x σ)
end
def LS.code (l : List Ins) (lab res : List Int) (σ : LS) : LS := if σ.err.isSome then σ else LS.runL OP s l res (σ.push lab res)
end
end Go.Proofs.Am
namespace Go.Proofs.Am
open Go
structure WF (σ : LS) : Prop where
 ne : σ.blk ≠ []
 le : ∀ b, b ∈ σ.blk -> b.ht <= σ.row.length
 srt : σ.blk.Pairwise fun a b => a.ht <= b.ht
theorem last_of {l : List Blk} (h : l ≠ []) : ∃ b, l.getLast? = some b /\ l = l.dropLast ++ [b] := by
 refine ⟨l.getLast h, List.getLast?_eq_some_getLast h, ?_⟩
 exact (List.dropLast_concat_getLast h).symm
theorem srt_last {l : List Blk} (hs : l.Pairwise fun a b => a.ht <= b.ht) {b : Blk} (hb : l.getLast? = some b) : ∀ c, c ∈ l -> c.ht <= b.ht := by
 intro c hc
 have hne : l ≠ [] := by rintro rfl; cases hc
 obtain ⟨b', h1, h2⟩ := last_of hne
 rw [hb] at h1
 cases h1
 rw [h2] at hs hc
 rw [List.pairwise_append] at hs
 rcases List.mem_append.1 hc with h | h
 ·exact hs.2.2 c h b (by simp)
 ·simp at h; subst h; exact Nat.le_refl _
theorem fail_row (c : Int) (σ : LS) : (σ.fail c).row = σ.row := by unfold LS.fail; split <;> rfl
theorem fail_blk (c : Int) (σ : LS) : (σ.fail c).blk = σ.blk := by unfold LS.fail; split <;> rfl
theorem WF.fail {σ : LS} (h : WF σ) (c : Int) : WF (σ.fail c) := ⟨by rw [fail_blk]; exact h.ne, by rw [fail_blk, fail_row]; exact h.le, by rw [fail_blk]; exact h.srt⟩
theorem take_blk (w : Int) (σ : LS) : (σ.take w).1.blk = σ.blk := by
 unfold LS.take
 split
 ·rfl
 ·split
  ·split <;> simp [fail_blk]
  ·split
   ·rfl
   ·simp only; split <;> simp [fail_blk]
theorem WF.take {σ : LS} (h : WF σ) (w : Int) : WF (σ.take w).1 := by
 obtain ⟨b, hb, hl⟩ := last_of h.ne
 have hlt : ∀ c, c ∈ σ.blk -> c.ht <= b.ht := srt_last h.srt hb
 have hbm : b ∈ σ.blk := List.mem_of_getLast? hb
 refine ⟨by rw [take_blk]; exact h.ne, fun c hc => ?_, by rw [take_blk]; exact h.srt⟩
 rw [take_blk] at hc
 have h1 := h.le c hc
 have h2 := hlt c hc
 have h3 := h.le b hbm
 unfold LS.take
 rw [hb]
 simp only
 split
 ·split
  ·exact h1
  ·rw [fail_row]; exact h1
 ·split
  ·exact h1
  ·simp only
   split
   ·rw [fail_row, List.length_dropLast]; omega
   ·simp only [List.length_dropLast]; omega
theorem all_blk : ∀ (ts : List Int) (σ : LS), (σ.all ts).blk = σ.blk
 | [], _ => rfl
 | t :: ts, σ => by rw [LS.all, take_blk, all_blk ts]
theorem WF.all {σ : LS} (h : WF σ) : ∀ ts : List Int, WF (σ.all ts)
 | [] => h
 | t :: ts => (WF.all h ts).take t
theorem give_row (ts : List Int) (σ : LS) : (σ.give ts).row = σ.row ++ ts.filter (· ≠ 0) := rfl
theorem WF.give {σ : LS} (h : WF σ) (ts : List Int) : WF (σ.give ts) := ⟨h.ne, fun b hb => by have := h.le b hb; rw [give_row, List.length_append]; omega, h.srt⟩
theorem setNv_hts : ∀ l : List Blk, (setNv l).map (·.ht) = l.map (·.ht)
 | [] => rfl
 | [_] => rfl
 | b :: c :: l => by rw [setNv, List.map_cons, setNv_hts (c :: l)]; rfl
theorem srt_map {l k : List Blk} (h : l.map (·.ht) = k.map (·.ht)) (hs : k.Pairwise fun a b => a.ht <= b.ht) : l.Pairwise fun a b => a.ht <= b.ht := by
 have h1 : (k.map (·.ht)).Pairwise (· <= ·) := List.pairwise_map.2 hs
 rw [← h] at h1
 exact List.pairwise_map.1 h1
theorem setNv_len (l : List Blk) : (setNv l).length = l.length := by
 have := congrArg List.length (setNv_hts l)
 simpa using this
theorem WF.stop {σ : LS} (h : WF σ) : WF σ.stop := by
 obtain ⟨b, hb, hl⟩ := last_of h.ne
 have hlt : ∀ c, c ∈ σ.blk -> c.ht <= b.ht := srt_last h.srt hb
 have hbm : b ∈ σ.blk := List.mem_of_getLast? hb
 have h3 := h.le b hbm
 unfold LS.stop
 rw [hb]
 refine ⟨?_, fun c hc => ?_, srt_map (setNv_hts _) h.srt⟩
 ·intro e
  have := congrArg List.length e
  simp only [setNv_len, List.length_nil, List.length_eq_zero_iff] at this
  exact h.ne this
 ·have h4 : c.ht ∈ (setNv σ.blk).map (·.ht) := List.mem_map.2 ⟨c, hc, rfl⟩
  rw [setNv_hts] at h4
  obtain ⟨d, hd, e⟩ := List.mem_map.1 h4
  have := hlt d hd
  simp only [List.length_take]; omega
theorem WF.push {σ : LS} (h : WF σ) (lab res : List Int) : WF (σ.push lab res) := by
 refine ⟨by simp [LS.push], fun b hb => ?_, ?_⟩
 ·simp only [LS.push, List.mem_append, List.mem_singleton] at hb
  rcases hb with hb | rfl
  ·exact h.le b hb
  ·exact Nat.le_refl _
 ·simp only [LS.push, List.pairwise_append]
  exact ⟨h.srt, by simp, fun a ha b hb => by simp at hb; subst hb; exact h.le a ha⟩
theorem WF.push0 {σ : LS} (h : σ.blk = []) (lab res : List Int) : WF (σ.push lab res) :=
 ⟨by simp [LS.push], fun b hb => by simp only [LS.push, h, List.nil_append, List.mem_singleton] at hb; subst hb; exact Nat.le_refl _, by simp [LS.push, h]⟩
structure WF0 (σ : LS) : Prop where
 le : ∀ b, b ∈ σ.blk -> b.ht <= σ.row.length
 srt : σ.blk.Pairwise fun a b => a.ht <= b.ht
theorem fin1_blk (res : List Int) {σ : LS} (h : σ.blk ≠ []) : (σ.fin1 res).blk = σ.blk.dropLast := by
 obtain ⟨b, hb, _⟩ := last_of h
 unfold LS.fin1
 rw [hb]
 simp only [LS.fin2, LS.give]
 split
 ·rfl
 ·rw [fail_blk]
theorem fin_blk (res : List Int) {σ : LS} (h : σ.blk ≠ []) : (σ.fin res).blk = σ.blk.dropLast := by
 unfold LS.fin
 rw [fin1_blk res (by rw [all_blk]; exact h), all_blk]
theorem WF.fin {σ : LS} (h : WF σ) (res : List Int) : WF0 (σ.fin res) := by
 have h1 := h.all res
 refine ⟨fun c hc => ?_, by rw [fin_blk res h.ne]; exact h.srt.sublist (List.dropLast_sublist _)⟩
 rw [fin_blk res h.ne] at hc
 have hcm : c ∈ (σ.all res).blk := by rw [all_blk]; exact List.dropLast_subset _ hc
 obtain ⟨b, hb, hl⟩ := last_of h1.ne
 have h4 := srt_last h1.srt hb c hcm
 have h3 := h1.le b (List.mem_of_getLast? hb)
 unfold LS.fin LS.fin1
 rw [hb]
 simp only [LS.fin2, give_row, List.length_append, List.length_take]
 split
 ·omega
 ·rw [fail_row]; omega
theorem fail_err (c : Int) (σ : LS) : (σ.fail c).err = none ↔ False := by
 unfold LS.fail
 split
 ·simp
 ·rename_i h; simp [h]
theorem fail_keep {c e : Int} {σ : LS} (h : σ.err = some e) : σ.fail c = σ := by unfold LS.fail; rw [h]; simp
end Go.Proofs.Am
namespace Go.Proofs.Am
open Go
structure Inv (N : Nat) (σ : LS) : Prop where
 wf : WF σ
 lab : ∀ b, b ∈ σ.blk -> b.lab.length <= 1
 sz : σ.row.length + σ.blk.length <= N
variable {N : Nat} {σ : LS}
theorem Inv.mono (h : Inv N σ) {M : Nat} (hM : N <= M) : Inv M σ := ⟨h.wf, h.lab, Nat.le_trans h.sz hM⟩
theorem Inv.fail (h : Inv N σ) (c : Int) : Inv N (σ.fail c) := ⟨h.wf.fail c, by rw [fail_blk]; exact h.lab, by rw [fail_blk, fail_row]; exact h.sz⟩
theorem take_len (w : Int) (σ : LS) : (σ.take w).1.row.length <= σ.row.length := by
 unfold LS.take
 split
 ·exact Nat.le_refl _
 ·split
  ·split
   ·exact Nat.le_refl _
   ·rw [fail_row]; exact Nat.le_refl _
  ·split
   ·exact Nat.le_refl _
   ·simp only
    split
    ·rw [fail_row, List.length_dropLast]; omega
    ·simp only [List.length_dropLast]; omega
theorem all_len : ∀ (ts : List Int) (σ : LS), (σ.all ts).row.length <= σ.row.length
 | [], _ => Nat.le_refl _
 | t :: ts, σ => Nat.le_trans (take_len t _) (all_len ts σ)
theorem Inv.take (h : Inv N σ) (w : Int) : Inv N (σ.take w).1 := ⟨h.wf.take w, by rw [take_blk]; exact h.lab, by rw [take_blk]; exact Nat.le_trans (Nat.add_le_add_right (take_len w σ) _) h.sz⟩
theorem Inv.all (h : Inv N σ) (ts : List Int) : Inv N (σ.all ts) := ⟨h.wf.all ts, by rw [all_blk]; exact h.lab, by rw [all_blk]; exact Nat.le_trans (Nat.add_le_add_right (all_len ts σ) _) h.sz⟩
theorem give_blk (ts : List Int) (σ : LS) : (σ.give ts).blk = σ.blk := rfl
theorem Inv.give (h : Inv N σ) (ts : List Int) : Inv (N + ts.length) (σ.give ts) := ⟨h.wf.give ts, h.lab, by
 have := List.length_filter_le (· ≠ 0) ts
 have := h.sz
 rw [give_row, give_blk, List.length_append]
 omega⟩
theorem setNv_lab : ∀ l : List Blk, (setNv l).map (·.lab) = l.map (·.lab)
 | [] => rfl
 | [_] => rfl
 | b :: c :: l => by rw [setNv, List.map_cons, setNv_lab (c :: l)]; rfl
theorem stop_lab (σ : LS) : σ.stop.blk.map (·.lab) = σ.blk.map (·.lab) := by
 unfold LS.stop
 split
 ·rfl
 ·exact setNv_lab _
theorem Inv.stop (h : Inv N σ) : Inv N σ.stop := by
 refine ⟨h.wf.stop, fun b hb => ?_, ?_⟩
 ·have h1 : b.lab ∈ σ.stop.blk.map (·.lab) := List.mem_map.2 ⟨b, hb, rfl⟩
  rw [stop_lab] at h1
  obtain ⟨c, hc, e⟩ := List.mem_map.1 h1
  rw [← e]; exact h.lab c hc
 ·have h1 := congrArg List.length (stop_lab σ)
  rw [List.length_map, List.length_map] at h1
  have h2 : σ.stop.row.length <= σ.row.length := by
   unfold LS.stop
   split
   ·exact Nat.le_refl _
   ·simp only [List.length_take]; omega
  have := h.sz
  omega
theorem Inv.push (h : Inv N σ) {lab : List Int} (hl : lab.length <= 1) (res : List Int) : Inv (N + 1) (σ.push lab res) := by
 refine ⟨h.wf.push lab res, fun b hb => ?_, ?_⟩
 ·simp only [LS.push, List.mem_append, List.mem_singleton] at hb
  rcases hb with hb | rfl
  ·exact h.lab b hb
  ·exact hl
 ·have := h.sz
  simp only [LS.push, List.length_append, List.length_singleton]
  omega
theorem rsl_len (t : Int) : (rsl t).length <= 1 := by unfold rsl; split <;> simp
theorem lbl_mem {n : Int} {t : List Int} (h : σ.lbl n = some t) : ∃ b, b ∈ σ.blk /\ b.lab = t := by
 unfold LS.lbl at h
 split at h
 ·obtain ⟨b, hb, e⟩ := Option.map_eq_some_iff.1 h
  exact ⟨b, List.mem_of_getElem? hb, e⟩
 ·cases h
theorem Inv.lbl (h : Inv N σ) {n : Int} {t : List Int} (hl : σ.lbl n = some t) : t.length <= 1 := by
 obtain ⟨b, hb, e⟩ := lbl_mem hl
 rw [← e]; exact h.lab b hb
theorem tbl_len (h : Inv N σ) : ∀ (l : List Int) (acc ts : List (List Int)), (∀ t, t ∈ acc -> t.length <= 1) -> σ.tbl l acc = some ts -> (∀ t, t ∈ ts -> t.length <= 1) /\ ts.length = acc.length + l.length
 | [], acc, ts, ha, e => by simp only [LS.tbl, Option.some.injEq] at e; subst e; exact ⟨ha, rfl⟩
 | n :: ns, acc, ts, ha, e => by
  unfold LS.tbl at e
  split at e
  ·cases e
  ·rename_i t ht
   obtain ⟨h1, h2⟩ := tbl_len h ns (acc ++ [t]) ts (fun x hx => by
    rcases List.mem_append.1 hx with hx | hx
    ·exact ha x hx
    ·simp at hx; subst hx; exact h.lbl ht) e
   exact ⟨h1, by rw [h2]; simp; omega⟩
structure Inv0 (N : Nat) (σ : LS) : Prop where
 wf : WF0 σ
 lab : ∀ b, b ∈ σ.blk -> b.lab.length <= 1
 sz : σ.row.length + σ.blk.length <= N
theorem fin_len (res : List Int) (h : Inv N σ) : (σ.fin res).row.length <= σ.row.length + res.length := by
 have h1 := h.all res
 obtain ⟨b, hb, _⟩ := last_of h1.wf.ne
 have h2 := all_len res σ
 unfold LS.fin LS.fin1
 rw [hb]
 have h3 := List.length_filter_le (· ≠ 0) res
 simp only [LS.fin2, give_row, List.length_append, List.length_take]
 have h4 : (if (σ.all res).row.length = b.ht then σ.all res else (σ.all res).fail 4).row = (σ.all res).row := by
  split
  ·rfl
  ·rw [fail_row]
 rw [h4]
 omega
theorem Inv.fin (h : Inv N σ) (res : List Int) : Inv0 (N + res.length) (σ.fin res) := by
 refine ⟨h.wf.fin res, fun b hb => ?_, ?_⟩
 ·rw [fin_blk res h.wf.ne] at hb
  exact h.lab b (List.dropLast_subset _ hb)
 ·have h1 := fin_len res h
  have h2 := h.sz
  rw [fin_blk res h.wf.ne, List.length_dropLast]
  omega
end Go.Proofs.Am
namespace Go.Proofs.Am
open Go
mutual
def cI : Ins -> Nat
 | .mk _ _ _ _ _ l bd el _ => 1 + l.length + cL bd + cL el
def cL : List Ins -> Nat
 | [] => 0
 | x :: xs => cI x + cL xs
end
def numZ (n : Int) : Bool := decide (0 <= n) && decide (n <= 4294967295)
section
variable (OP : Int -> Option OpR)
def mayP (r : OpR) (o a b v : Int) (l : List Int) : Bool :=
 if r.kind = 10 then !(decide (r.gives = 1) && decide (4294967295 < v)) && (decide (a = 0) && decide (b = 0) && l.isEmpty)
 else if r.kind = 7 ∨ r.kind = 8 then numZ a && numZ b && (decide (v = 0) && l.isEmpty)
 else if o = 14 then !l.isEmpty && l.all numZ && (decide (a = 0) && decide (b = 0) && decide (v = 0))
 else if r.kind = 4 ∨ r.kind = 6 ∨ (r.kind = 3 /\ o ≠ 15) then numZ a && (decide (b = 0) && decide (v = 0) && l.isEmpty)
 else decide (a = 0) && decide (b = 0) && decide (v = 0) && l.isEmpty
mutual
def mayI : Ins -> Bool
 | .mk o a b v t l bd el q =>
  match OP o with
  | none => false
  | some r =>
   if r.kind = 2 then decide (0 <= t) && decide (t <= 2) && mayL bd && mayL el && !(decide (o ≠ 4) && q) && !(!q && !el.isEmpty) && (decide (a = 0) && decide (b = 0) && decide (v = 0) && l.isEmpty)
   else mayP r o a b v l && (decide (t = 0) && bd.isEmpty && el.isEmpty && !q)
def mayL : List Ins -> Bool
 | [] => true
 | x :: xs => mayI x && mayL xs
end
end
theorem mayL_mem {OP : Int -> Option OpR} : ∀ {xs : List Ins}, mayL OP xs = xs.all (mayI OP)
 | [] => rfl
 | x :: xs => by rw [mayL, List.all_cons, mayL_mem]
section
variable {OP : Int -> Option OpR} {s : Scp} {R : Nat}
theorem Inv0.inv {N : Nat} {σ : LS} (h : Inv0 N σ) (hp : 0 < σ.blk.length) : Inv N σ := ⟨⟨List.length_pos_iff.1 hp, h.wf.le, h.wf.srt⟩, h.lab, h.sz⟩
theorem Inv.inv0 {N : Nat} {σ : LS} (h : Inv N σ) : Inv0 N σ := ⟨⟨h.wf.le, h.wf.srt⟩, h.lab, h.sz⟩
theorem Inv0.mono {N M : Nat} {σ : LS} (h : Inv0 N σ) (hM : N <= M) : Inv0 M σ := ⟨h.wf, h.lab, Nat.le_trans h.sz hM⟩
theorem Inv.pos {N : Nat} {σ : LS} (h : Inv N σ) : 0 < σ.blk.length := List.length_pos_iff.2 h.wf.ne
theorem stop_blen (σ : LS) : σ.stop.blk.length = σ.blk.length := by
 have h1 := congrArg List.length (stop_lab σ)
 rwa [List.length_map, List.length_map] at h1
def Grows (c : Nat) (F : LS -> LS) : Prop := ∀ (N : Nat) (σ : LS), Inv N σ -> Inv (N + c) (F σ) /\ σ.blk.length <= (F σ).blk.length
theorem Grows.mono {c d : Nat} {F : LS -> LS} (h : Grows c F) (hd : c <= d) : Grows d F := fun N σ I => ⟨(h N σ I).1.mono (by omega), (h N σ I).2⟩
theorem Grows.comp {c d : Nat} {F G : LS -> LS} (h : Grows c F) (k : Grows d G) : Grows (c + d) fun σ => G (F σ) := fun N σ I => by
 obtain ⟨h1, h2⟩ := h N σ I
 obtain ⟨h3, h4⟩ := k _ _ h1
 exact ⟨h3.mono (by omega), Nat.le_trans h2 h4⟩
theorem g_id : Grows 0 fun σ => σ := fun _ _ I => ⟨I, Nat.le_refl _⟩
theorem g_fail (c : Int) : Grows 0 (LS.fail c) := fun _ σ I => ⟨I.fail c, by rw [fail_blk]; exact Nat.le_refl _⟩
theorem g_take (w : Int) : Grows 0 fun σ => (σ.take w).1 := fun _ σ I => ⟨I.take w, by rw [take_blk]; exact Nat.le_refl _⟩
theorem g_all (ts : List Int) : Grows 0 (LS.all ts) := fun _ σ I => ⟨I.all ts, by rw [all_blk]; exact Nat.le_refl _⟩
theorem g_give (ts : List Int) : Grows ts.length (LS.give ts) := fun _ _ I => ⟨I.give ts, Nat.le_refl _⟩
theorem g_stop : Grows 0 LS.stop := fun _ σ I => ⟨I.stop, by rw [stop_blen]; exact Nat.le_refl _⟩
theorem g_ite {c : Nat} {F G : LS -> LS} (p : LS -> Prop) [∀ σ, Decidable (p σ)] (h : Grows c F) (k : Grows c G) : Grows c fun σ => if p σ then F σ else G σ := fun N σ I => by
 by_cases hp : p σ
 ·simp only [if_pos hp]; exact h N σ I
 ·simp only [if_neg hp]; exact k N σ I
theorem g_table (l : List Int) : Grows 0 (LS.table l) := fun N σ I => by
 unfold LS.table
 split
 ·exact g_fail 5 N σ I
 ·rename_i ts hts
  exact (((g_ite (fun _ => ts.any (· ≠ ts.getLastD []) = true) (g_fail 4) g_id).comp (g_take 1)).comp (g_all _)).comp g_stop N σ I
theorem g_jump (o a : Int) (l : List Int) : Grows 1 (LS.jump s o a l) := fun N σ I => by
 unfold LS.jump
 split
 ·exact (((g_all _).comp g_stop).mono (by omega)) N σ I
 ·split
  ·exact ((g_table l).mono (by omega)) N σ I
  ·split
   ·exact ((g_fail 5).mono (by omega)) N σ I
   ·rename_i t ht
    split
    ·exact ((((g_take 1).comp (g_all t)).comp (g_give t)).mono (by have := I.lbl ht; omega)) N σ I
    ·exact (((g_all t).comp g_stop).mono (by omega)) N σ I
theorem g_callT (hR : ∀ x, x ∈ s.ty -> x.p.length <= R /\ x.r.length <= R) (thr : Bool) (n : Int) : Grows R (LS.callT s thr n) := fun N σ I => by
 unfold LS.callT
 split
 ·exact ((g_fail 5).mono (by omega)) N σ I
 ·split
  ·exact (g_id.mono (by omega)) N σ I
  ·rename_i t ht
   have hr := (hR t (List.mem_of_getElem? ht)).2
   have g1 : Grows 0 (LS.thr thr) := by
    cases thr with
    | false => exact g_id
    | true => exact g_take 1
   exact (((((g_ite (fun _ => 1 < t.r.length) (g_fail 4) g_id).comp g1).comp (g_all t.p)).comp (g_give t.r)).mono (by omega)) N σ I
theorem g_call (hR : ∀ x, x ∈ s.ty -> x.p.length <= R /\ x.r.length <= R) (o a : Int) : Grows R (LS.call s o a) := fun N σ I => by
 unfold LS.call
 split
 ·split
  ·exact ((g_fail 5).mono (by omega)) N σ I
  ·split
   ·exact (g_id.mono (by omega)) N σ I
   ·exact g_callT hR _ _ N σ I
 ·exact g_callT hR _ _ N σ I
theorem g_any (o : Int) : Grows 1 (LS.any o) := fun N σ I => by
 unfold LS.any
 split
 ·exact ((g_take (-1)).mono (by omega)) N σ I
 ·unfold LS.sel
  obtain ⟨h1, h2⟩ := ((g_take 1).comp (g_take (-1))) N σ I
  obtain ⟨h3, h4⟩ := g_take (((σ.take 1).1.take (-1)).2) _ _ h1
  obtain ⟨h5, h6⟩ := g_give [((((σ.take 1).1.take (-1)).1).take (((σ.take 1).1.take (-1)).2)).2] _ _ h3
  exact ⟨h5.mono (by simp), Nat.le_trans h2 (Nat.le_trans h4 h6)⟩
theorem g_varT (o t : Int) (q : Bool) : Grows 1 (LS.varT o t q) := fun N σ I => by
 unfold LS.varT
 split
 ·exact g_give [t] N σ I
 ·split
  ·exact (((g_take t).comp (g_give [t])).mono (by simp)) N σ I
  ·exact (((g_ite (fun _ => q = false /\ o = 36) (g_fail 4) g_id).comp (g_take t)).mono (by omega)) N σ I
theorem g_var (o a : Int) : Grows 1 (LS.var s o a) := fun N σ I => by
 unfold LS.var
 split
 ·split
  ·split
   ·exact (g_id.mono (by omega)) N σ I
   ·exact g_varT _ _ _ N σ I
  ·exact ((g_fail 5).mono (by omega)) N σ I
 ·split
  ·split
   ·exact (g_id.mono (by omega)) N σ I
   ·exact g_varT _ _ _ N σ I
  ·exact ((g_fail 5).mono (by omega)) N σ I
theorem g_plain (r : OpR) (a : Int) : Grows 1 (LS.plain s r a) := fun N σ I => by
 unfold LS.plain
 split
 ·exact ((g_fail 5).mono (by omega)) N σ I
 ·exact (((g_ite (fun _ => (r.kind = 7 ∨ r.kind = 8) /\ (3 < a ∨ r.bytes < (2 : Int) ^ a.toNat)) (g_fail 4) g_id).comp (g_all r.takes)).comp (g_give [r.gives])).mono (by simp) N σ I
theorem g_cond (o t : Int) (q : Bool) : Grows 0 (LS.cond o t q) := fun N σ I => by
 unfold LS.cond
 split
 ·split
  ·exact ((g_take 1).comp (g_fail 4)) N σ I
  ·exact g_take 1 N σ I
 ·exact g_id N σ I
def RunL (OP : Int -> Option OpR) (s : Scp) (c : Nat) (xs : List Ins) : Prop := ∀ (res : List Int), res.length <= 1 -> ∀ (N : Nat) (σ : LS), Inv N σ -> Inv0 (N + c) (LS.runL OP s xs res σ) /\ σ.blk.length <= (LS.runL OP s xs res σ).blk.length + 1
theorem g_code {c : Nat} {xs : List Ins} (h : RunL OP s c xs) {lab res : List Int} (hl : lab.length <= 1) (hr : res.length <= 1) : Grows (c + 1) fun σ => if σ.err.isSome then σ else LS.runL OP s xs res (σ.push lab res) := fun N σ I => by
 by_cases he : σ.err.isSome = true
 ·simp only [if_pos he]
  exact ⟨I.mono (by omega), Nat.le_refl _⟩
 ·simp only [if_neg he]
  obtain ⟨h1, h2⟩ := h res hr (N + 1) (σ.push lab res) (I.push hl res)
  have h3 : (σ.push lab res).blk.length = σ.blk.length + 1 := by simp [LS.push]
  have := I.pos
  exact ⟨(h1.inv (by omega)).mono (by omega), by omega⟩
mutual
theorem g_instr (hR : ∀ x, x ∈ s.ty -> x.p.length <= R /\ x.r.length <= R) : ∀ x : Ins, Grows ((R + 6) * cI x) (LS.instr OP s x)
 | .mk o a b v t l bd el q => by
  have hb := g_runL hR bd
  have hl := g_runL hR el
  have hc : cI (.mk o a b v t l bd el q) = 1 + l.length + cL bd + cL el := rfl
  have hc2 : (R + 6) * cI (.mk o a b v t l bd el q) = (R + 6) + (R + 6) * l.length + (R + 6) * cL bd + (R + 6) * cL el := by rw [hc, Nat.mul_add, Nat.mul_add, Nat.mul_add, Nat.mul_one]
  intro N σ I
  have hr := rsl_len t
  unfold LS.instr
  split
  ·exact ((g_fail 1).mono (by omega)) N σ I
  ·rename_i r hop
   split
   ·split
    ·exact (g_code hb (lab := []) (by simp) hr).mono (by omega) N σ I
    ·have g2 := (g_cond o t q).comp (g_code hb hr hr)
     exact (g2.comp (g_ite (fun τ => q = true /\ τ.err = none) ((g_all (rsl t)).comp (g_code hl hr hr)) (g_id.mono (Nat.zero_le _)))).mono (by omega) N σ I
   ·split
    ·exact (g_jump o a l).mono (by omega) N σ I
    ·split
     ·exact (g_call hR o a).mono (by omega) N σ I
     ·split
      ·exact (g_any o).mono (by omega) N σ I
      ·split
       ·exact (g_var o a).mono (by omega) N σ I
       ·split
        ·exact g_stop.mono (by omega) N σ I
        ·exact (g_plain r a).mono (by omega) N σ I
theorem g_runL (hR : ∀ x, x ∈ s.ty -> x.p.length <= R /\ x.r.length <= R) : ∀ xs : List Ins, RunL OP s ((R + 6) * cL xs + 1) xs
 | [] => by
  intro res hr N σ I
  rw [LS.runL]
  have h1 := I.fin res
  refine ⟨h1.mono (by omega), ?_⟩
  rw [fin_blk res I.wf.ne, List.length_dropLast]
  omega
 | x :: xs => by
  intro res hr N σ I
  rw [LS.runL]
  have hc : (R + 6) * cL (x :: xs) = (R + 6) * cI x + (R + 6) * cL xs := by rw [cL, Nat.mul_add]
  split
  ·exact ⟨I.inv0.mono (by omega), by omega⟩
  ·obtain ⟨h1, h2⟩ := g_instr hR x N σ I
   obtain ⟨h3, h4⟩ := g_runL hR xs res hr _ _ h1
   exact ⟨h3.mono (by omega), by omega⟩
end
end
end Go.Proofs.Am
