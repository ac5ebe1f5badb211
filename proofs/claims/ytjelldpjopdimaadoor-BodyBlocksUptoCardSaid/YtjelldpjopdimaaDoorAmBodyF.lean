/-
  Code that fits: the blocks around it stand as they stood.
-/
import Derived.Test.YtjelldpjopdimaaDoorAmMod
/-
  Code's types, gone through: a plain law's words (what the program's layer of bodies does, as lists and numbers).
-/
namespace Go.Proofs.Am
open Go

structure Scp where
  ty : List FTy
  fn : List Int
  gl : List Glo
  tb : Bool
  mm : Bool
  lo : List Int
  re : Int
def Scp.enc (s : Scp) : List AV := [.imm (s.ty.map FTy.enc), .imm (encN s.fn), .imm (s.gl.map Glo.enc), .bool s.tb, .bool s.mm, .imm (encN s.lo), .int .i64 s.re]
structure Blk where
  lab : List Int
  res : List Int
  ht : Nat
  nv : Bool
structure LS where
  row : List Int
  blk : List Blk
  err : Option Int
/-- What is told of an operation. -/
structure OpR where
  byte : Int
  nm : ByteArray
  kind : Int
  takes : List Int
  gives : Int
  bytes : Int
  sg : Bool

def rsl (t : Int) : List Int := if t = 0 then [] else [t]
def LS.fail (c : Int) (σ : LS) : LS := if σ.err = none then { σ with err := some c } else σ
def LS.take (w : Int) (σ : LS) : LS × Int :=
  match σ.blk.getLast? with
  | none => (σ, w)
  | some b =>
    if σ.row.length = b.ht then (if b.nv then (σ, w) else (σ.fail 4, w))
    else match σ.row.getLast? with
      | none => (σ, w)
      | some got =>
        (if got ≠ w ∧ got ≠ -1 ∧ w ≠ -1 then ({ σ with row := σ.row.dropLast } : LS).fail 4 else { σ with row := σ.row.dropLast }, if got = -1 then w else got)
/-- The last one first. -/
def LS.all : List Int → LS → LS
  | [], σ => σ
  | t :: ts, σ => ((LS.all ts σ).take t).1
def LS.give (ts : List Int) (σ : LS) : LS := { σ with row := σ.row ++ ts.filter (· ≠ 0) }
def setNv : List Blk → List Blk
  | [] => []
  | [b] => [{ b with nv := true }]
  | b :: c :: bs => b :: setNv (c :: bs)
def LS.stop (σ : LS) : LS :=
  match σ.blk.getLast? with
  | none => σ
  | some b => { σ with row := σ.row.take b.ht, blk := setNv σ.blk }
def LS.lbl (n : Int) (σ : LS) : Option (List Int) := if n < σ.blk.length then (σ.blk[σ.blk.length - 1 - n.toNat]?).map (·.lab) else none
def LS.push (lab res : List Int) (σ : LS) : LS := { σ with blk := σ.blk ++ [⟨lab, res, σ.row.length, false⟩] }
/-- A block's end. -/
def LS.fin2 (res : List Int) (b : Blk) (σ : LS) : LS := LS.give res { σ with row := σ.row.take (min b.ht σ.row.length), blk := σ.blk.dropLast }
def LS.fin1 (res : List Int) (σ : LS) : LS :=
  match σ.blk.getLast? with
  | none => σ
  | some b => LS.fin2 res b (if σ.row.length = b.ht then σ else σ.fail 4)
def LS.fin (res : List Int) (σ : LS) : LS := LS.fin1 res (σ.all res)
def LS.tbl : List Int → List (List Int) → LS → Option (List (List Int))
  | [], acc, _ => some acc
  | n :: ns, acc, σ => match σ.lbl n with
    | none => none
    | some t => LS.tbl ns (acc ++ [t]) σ
def LS.table (l : List Int) (σ : LS) : LS :=
  match σ.tbl l [] with
  | none => σ.fail 5
  | some ts => (((if ts.any (· ≠ ts.getLastD []) then σ.fail 4 else σ).take 1).1.all (ts.getLastD [])).stop
def LS.jump (s : Scp) (o a : Int) (l : List Int) (σ : LS) : LS :=
  if o = 15 then (σ.all (rsl s.re)).stop
  else if o = 14 then σ.table l
  else match σ.lbl a with
    | none => σ.fail 5
    | some t => if o = 13 then ((σ.take 1).1.all t).give t else (σ.all t).stop
def LS.thr (q : Bool) (σ : LS) : LS := if q then (σ.take 1).1 else σ
def LS.callT (s : Scp) (thr : Bool) (n : Int) (σ : LS) : LS :=
  if n < 0 ∨ (s.ty.length : Int) ≤ n ∨ (thr = true ∧ s.tb = false) then σ.fail 5
  else match s.ty[n.toNat]? with
    | none => σ
    | some t => LS.give t.r (LS.all t.p (LS.thr thr (if 1 < t.r.length then σ.fail 4 else σ)))
def LS.call (s : Scp) (o a : Int) (σ : LS) : LS :=
  if o = 16 then (if (s.fn.length : Int) ≤ a then σ.fail 5 else match s.fn[a.toNat]? with | none => σ | some n => σ.callT s false n)
  else σ.callT s true a
def LS.sel (p : LS × Int) : LS := (p.1.take p.2).1.give [(p.1.take p.2).2]
def LS.any (o : Int) (σ : LS) : LS :=
  if o = 26 then (σ.take (-1)).1
  else LS.sel ((σ.take 1).1.take (-1))
def LS.varT (o t : Int) (may : Bool) (σ : LS) : LS :=
  if o = 32 ∨ o = 35 then σ.give [t]
  else if o = 34 then (σ.take t).1.give [t]
  else ((if may = false ∧ o = 36 then σ.fail 4 else σ).take t).1
def LS.var (s : Scp) (o a : Int) (σ : LS) : LS :=
  if o < 35 then (if a < s.lo.length then match s.lo[a.toNat]? with | none => σ | some t => σ.varT o t true else σ.fail 5)
  else if a < s.gl.length then match s.gl[a.toNat]? with | none => σ | some g => σ.varT o g.t g.mu else σ.fail 5
def LS.plain (s : Scp) (r : OpR) (a : Int) (σ : LS) : LS :=
  if (r.kind = 7 ∨ r.kind = 8 ∨ r.kind = 9) ∧ s.mm = false then σ.fail 5
  else ((if (r.kind = 7 ∨ r.kind = 8) ∧ (3 < a ∨ r.bytes < (2 : Int) ^ a.toNat) then σ.fail 4 else σ).all r.takes).give [r.gives]

/-- What an 'if' takes ahead. -/
def LS.cond (o t : Int) (q : Bool) (σ : LS) : LS := if o = 4 then (if q = false ∧ t ≠ 0 then (σ.take 1).1.fail 4 else (σ.take 1).1) else σ
section
variable (OP : Int → Option OpR) (s : Scp)
mutual
def LS.instr : Ins → LS → LS
  | .mk o a _ _ t l bd el q, σ =>
    match OP o with
    | none => σ.fail 1
    | some r =>
      if r.kind = 2 then
        (if o = 3 then (if σ.err.isSome then σ else LS.runL bd (rsl t) (σ.push [] (rsl t)))
         else
          let σ1 := LS.cond o t q σ
          let σ2 := if σ1.err.isSome then σ1 else LS.runL bd (rsl t) (σ1.push (rsl t) (rsl t))
          if q = true ∧ σ2.err = none then
            (if (σ2.all (rsl t)).err.isSome then σ2.all (rsl t) else LS.runL el (rsl t) ((σ2.all (rsl t)).push (rsl t) (rsl t)))
          else σ2)
      else if r.kind = 3 then σ.jump s o a l
      else if r.kind = 4 then σ.call s o a
      else if r.kind = 5 then σ.any o
      else if r.kind = 6 then σ.var s o a
      else if o = 0 then σ.stop
      else σ.plain s r a
def LS.runL : List Ins → List Int → LS → LS
  | [], res, σ => σ.fin res
  | x :: xs, res, σ => if σ.err.isSome then σ else LS.runL xs res (LS.instr x σ)
end
def LS.code (l : List Ins) (lab res : List Int) (σ : LS) : LS := if σ.err.isSome then σ else LS.runL OP s l res (σ.push lab res)
end
end Go.Proofs.Am

/-
  Code's types, gone through: what stays well, how great it grows, that what is amiss first stays.
-/
namespace Go.Proofs.Am
open Go

/-! ### What stays well -/
structure WF (σ : LS) : Prop where
  ne : σ.blk ≠ []
  le : ∀ b, b ∈ σ.blk → b.ht ≤ σ.row.length
  srt : σ.blk.Pairwise fun a b => a.ht ≤ b.ht
theorem last_of {l : List Blk} (h : l ≠ []) : ∃ b, l.getLast? = some b ∧ l = l.dropLast ++ [b] := by
  refine ⟨l.getLast h, List.getLast?_eq_some_getLast h, ?_⟩
  exact (List.dropLast_concat_getLast h).symm
theorem srt_last {l : List Blk} (hs : l.Pairwise fun a b => a.ht ≤ b.ht) {b : Blk} (hb : l.getLast? = some b) : ∀ c, c ∈ l → c.ht ≤ b.ht := by
  intro c hc
  have hne : l ≠ [] := by rintro rfl; cases hc
  obtain ⟨b', h1, h2⟩ := last_of hne
  rw [hb] at h1
  cases h1
  rw [h2] at hs hc
  rw [List.pairwise_append] at hs
  rcases List.mem_append.1 hc with h | h
  · exact hs.2.2 c h b (by simp)
  · simp at h; subst h; exact Nat.le_refl _
theorem fail_row (c : Int) (σ : LS) : (σ.fail c).row = σ.row := by unfold LS.fail; split <;> rfl
theorem fail_blk (c : Int) (σ : LS) : (σ.fail c).blk = σ.blk := by unfold LS.fail; split <;> rfl
theorem WF.fail {σ : LS} (h : WF σ) (c : Int) : WF (σ.fail c) := ⟨by rw [fail_blk]; exact h.ne, by rw [fail_blk, fail_row]; exact h.le, by rw [fail_blk]; exact h.srt⟩
theorem take_blk (w : Int) (σ : LS) : (σ.take w).1.blk = σ.blk := by
  unfold LS.take
  split
  · rfl
  · split
    · split <;> simp [fail_blk]
    · split
      · rfl
      · simp only; split <;> simp [fail_blk]
theorem WF.take {σ : LS} (h : WF σ) (w : Int) : WF (σ.take w).1 := by
  obtain ⟨b, hb, hl⟩ := last_of h.ne
  have hlt : ∀ c, c ∈ σ.blk → c.ht ≤ b.ht := srt_last h.srt hb
  have hbm : b ∈ σ.blk := List.mem_of_getLast? hb
  refine ⟨by rw [take_blk]; exact h.ne, fun c hc => ?_, by rw [take_blk]; exact h.srt⟩
  rw [take_blk] at hc
  have h1 := h.le c hc
  have h2 := hlt c hc
  have h3 := h.le b hbm
  unfold LS.take
  rw [hb]
  simp only
  split
  · split
    · exact h1
    · rw [fail_row]; exact h1
  · split
    · exact h1
    · simp only
      split
      · rw [fail_row, List.length_dropLast]; omega
      · simp only [List.length_dropLast]; omega
theorem all_blk : ∀ (ts : List Int) (σ : LS), (σ.all ts).blk = σ.blk
  | [], _ => rfl
  | t :: ts, σ => by rw [LS.all, take_blk, all_blk ts]
theorem WF.all {σ : LS} (h : WF σ) : ∀ ts : List Int, WF (σ.all ts)
  | [] => h
  | t :: ts => (WF.all h ts).take t
theorem give_row (ts : List Int) (σ : LS) : (σ.give ts).row = σ.row ++ ts.filter (· ≠ 0) := rfl
theorem WF.give {σ : LS} (h : WF σ) (ts : List Int) : WF (σ.give ts) := ⟨h.ne, fun b hb => by have := h.le b hb; rw [give_row, List.length_append]; omega, h.srt⟩
theorem setNv_hts : ∀ l : List Blk, (setNv l).map (·.ht) = l.map (·.ht)
  | [] => rfl
  | [_] => rfl
  | b :: c :: l => by rw [setNv, List.map_cons, setNv_hts (c :: l)]; rfl
theorem srt_map {l k : List Blk} (h : l.map (·.ht) = k.map (·.ht)) (hs : k.Pairwise fun a b => a.ht ≤ b.ht) : l.Pairwise fun a b => a.ht ≤ b.ht := by
  have h1 : (k.map (·.ht)).Pairwise (· ≤ ·) := List.pairwise_map.2 hs
  rw [← h] at h1
  exact List.pairwise_map.1 h1
theorem setNv_len (l : List Blk) : (setNv l).length = l.length := by
  have := congrArg List.length (setNv_hts l)
  simpa using this
theorem WF.stop {σ : LS} (h : WF σ) : WF σ.stop := by
  obtain ⟨b, hb, hl⟩ := last_of h.ne
  have hlt : ∀ c, c ∈ σ.blk → c.ht ≤ b.ht := srt_last h.srt hb
  have hbm : b ∈ σ.blk := List.mem_of_getLast? hb
  have h3 := h.le b hbm
  unfold LS.stop
  rw [hb]
  refine ⟨?_, fun c hc => ?_, srt_map (setNv_hts _) h.srt⟩
  · intro e
    have := congrArg List.length e
    simp only [setNv_len, List.length_nil, List.length_eq_zero_iff] at this
    exact h.ne this
  · have h4 : c.ht ∈ (setNv σ.blk).map (·.ht) := List.mem_map.2 ⟨c, hc, rfl⟩
    rw [setNv_hts] at h4
    obtain ⟨d, hd, e⟩ := List.mem_map.1 h4
    have := hlt d hd
    simp only [List.length_take]; omega
theorem WF.push {σ : LS} (h : WF σ) (lab res : List Int) : WF (σ.push lab res) := by
  refine ⟨by simp [LS.push], fun b hb => ?_, ?_⟩
  · simp only [LS.push, List.mem_append, List.mem_singleton] at hb
    rcases hb with hb | rfl
    · exact h.le b hb
    · exact Nat.le_refl _
  · simp only [LS.push, List.pairwise_append]
    exact ⟨h.srt, by simp, fun a ha b hb => by simp at hb; subst hb; exact h.le a ha⟩
theorem WF.push0 {σ : LS} (h : σ.blk = []) (lab res : List Int) : WF (σ.push lab res) :=
  ⟨by simp [LS.push], fun b hb => by simp only [LS.push, h, List.nil_append, List.mem_singleton] at hb; subst hb; exact Nat.le_refl _, by simp [LS.push, h]⟩
/-- Of a block's end: but for the outermost one. -/
structure WF0 (σ : LS) : Prop where
  le : ∀ b, b ∈ σ.blk → b.ht ≤ σ.row.length
  srt : σ.blk.Pairwise fun a b => a.ht ≤ b.ht
theorem fin1_blk (res : List Int) {σ : LS} (h : σ.blk ≠ []) : (σ.fin1 res).blk = σ.blk.dropLast := by
  obtain ⟨b, hb, _⟩ := last_of h
  unfold LS.fin1
  rw [hb]
  simp only [LS.fin2, LS.give]
  split
  · rfl
  · rw [fail_blk]
theorem fin_blk (res : List Int) {σ : LS} (h : σ.blk ≠ []) : (σ.fin res).blk = σ.blk.dropLast := by
  unfold LS.fin
  rw [fin1_blk res (by rw [all_blk]; exact h), all_blk]
theorem WF.fin {σ : LS} (h : WF σ) (res : List Int) : WF0 (σ.fin res) := by
  have h1 := h.all res
  refine ⟨fun c hc => ?_, by rw [fin_blk res h.ne]; exact h.srt.sublist (List.dropLast_sublist _)⟩
  rw [fin_blk res h.ne] at hc
  have hcm : c ∈ (σ.all res).blk := by rw [all_blk]; exact List.dropLast_subset _ hc
  obtain ⟨b, hb, hl⟩ := last_of h1.ne
  have h4 := srt_last h1.srt hb c hcm
  have h3 := h1.le b (List.mem_of_getLast? hb)
  unfold LS.fin LS.fin1
  rw [hb]
  simp only [LS.fin2, give_row, List.length_append, List.length_take]
  split
  · omega
  · rw [fail_row]; omega

/-! ### What is amiss first stays -/
theorem fail_err (c : Int) (σ : LS) : (σ.fail c).err = none ↔ False := by
  unfold LS.fail
  split
  · simp
  · rename_i h; simp [h]
theorem fail_keep {c e : Int} {σ : LS} (h : σ.err = some e) : σ.fail c = σ := by unfold LS.fail; rw [h]; simp
end Go.Proofs.Am

/-
  Code's types, gone through: how great it grows.
-/
namespace Go.Proofs.Am
open Go

structure Inv (N : Nat) (σ : LS) : Prop where
  wf : WF σ
  lab : ∀ b, b ∈ σ.blk → b.lab.length ≤ 1
  sz : σ.row.length + σ.blk.length ≤ N
variable {N : Nat} {σ : LS}
theorem Inv.mono (h : Inv N σ) {M : Nat} (hM : N ≤ M) : Inv M σ := ⟨h.wf, h.lab, Nat.le_trans h.sz hM⟩
theorem Inv.fail (h : Inv N σ) (c : Int) : Inv N (σ.fail c) := ⟨h.wf.fail c, by rw [fail_blk]; exact h.lab, by rw [fail_blk, fail_row]; exact h.sz⟩
theorem take_len (w : Int) (σ : LS) : (σ.take w).1.row.length ≤ σ.row.length := by
  unfold LS.take
  split
  · exact Nat.le_refl _
  · split
    · split
      · exact Nat.le_refl _
      · rw [fail_row]; exact Nat.le_refl _
    · split
      · exact Nat.le_refl _
      · simp only
        split
        · rw [fail_row, List.length_dropLast]; omega
        · simp only [List.length_dropLast]; omega
theorem all_len : ∀ (ts : List Int) (σ : LS), (σ.all ts).row.length ≤ σ.row.length
  | [], _ => Nat.le_refl _
  | t :: ts, σ => Nat.le_trans (take_len t _) (all_len ts σ)
theorem Inv.take (h : Inv N σ) (w : Int) : Inv N (σ.take w).1 := ⟨h.wf.take w, by rw [take_blk]; exact h.lab, by rw [take_blk]; exact Nat.le_trans (Nat.add_le_add_right (take_len w σ) _) h.sz⟩
theorem Inv.all (h : Inv N σ) (ts : List Int) : Inv N (σ.all ts) := ⟨h.wf.all ts, by rw [all_blk]; exact h.lab, by rw [all_blk]; exact Nat.le_trans (Nat.add_le_add_right (all_len ts σ) _) h.sz⟩
theorem give_blk (ts : List Int) (σ : LS) : (σ.give ts).blk = σ.blk := rfl
theorem Inv.give (h : Inv N σ) (ts : List Int) : Inv (N + ts.length) (σ.give ts) := ⟨h.wf.give ts, h.lab, by
  have := List.length_filter_le (· ≠ 0) ts
  have := h.sz
  rw [give_row, give_blk, List.length_append]
  omega⟩
theorem setNv_lab : ∀ l : List Blk, (setNv l).map (·.lab) = l.map (·.lab)
  | [] => rfl
  | [_] => rfl
  | b :: c :: l => by rw [setNv, List.map_cons, setNv_lab (c :: l)]; rfl
theorem stop_lab (σ : LS) : σ.stop.blk.map (·.lab) = σ.blk.map (·.lab) := by
  unfold LS.stop
  split
  · rfl
  · exact setNv_lab _
theorem Inv.stop (h : Inv N σ) : Inv N σ.stop := by
  refine ⟨h.wf.stop, fun b hb => ?_, ?_⟩
  · have h1 : b.lab ∈ σ.stop.blk.map (·.lab) := List.mem_map.2 ⟨b, hb, rfl⟩
    rw [stop_lab] at h1
    obtain ⟨c, hc, e⟩ := List.mem_map.1 h1
    rw [← e]; exact h.lab c hc
  · have h1 := congrArg List.length (stop_lab σ)
    rw [List.length_map, List.length_map] at h1
    have h2 : σ.stop.row.length ≤ σ.row.length := by
      unfold LS.stop
      split
      · exact Nat.le_refl _
      · simp only [List.length_take]; omega
    have := h.sz
    omega
theorem Inv.push (h : Inv N σ) {lab : List Int} (hl : lab.length ≤ 1) (res : List Int) : Inv (N + 1) (σ.push lab res) := by
  refine ⟨h.wf.push lab res, fun b hb => ?_, ?_⟩
  · simp only [LS.push, List.mem_append, List.mem_singleton] at hb
    rcases hb with hb | rfl
    · exact h.lab b hb
    · exact hl
  · have := h.sz
    simp only [LS.push, List.length_append, List.length_singleton]
    omega
theorem rsl_len (t : Int) : (rsl t).length ≤ 1 := by unfold rsl; split <;> simp
theorem lbl_mem {n : Int} {t : List Int} (h : σ.lbl n = some t) : ∃ b, b ∈ σ.blk ∧ b.lab = t := by
  unfold LS.lbl at h
  split at h
  · obtain ⟨b, hb, e⟩ := Option.map_eq_some_iff.1 h
    exact ⟨b, List.mem_of_getElem? hb, e⟩
  · cases h
theorem Inv.lbl (h : Inv N σ) {n : Int} {t : List Int} (hl : σ.lbl n = some t) : t.length ≤ 1 := by
  obtain ⟨b, hb, e⟩ := lbl_mem hl
  rw [← e]; exact h.lab b hb
/-- Of a block's end: none but the outer ones are left. -/
structure Inv0 (N : Nat) (σ : LS) : Prop where
  wf : WF0 σ
  lab : ∀ b, b ∈ σ.blk → b.lab.length ≤ 1
  sz : σ.row.length + σ.blk.length ≤ N
theorem fin_len (res : List Int) (h : Inv N σ) : (σ.fin res).row.length ≤ σ.row.length + res.length := by
  have h1 := h.all res
  obtain ⟨b, hb, _⟩ := last_of h1.wf.ne
  have h2 := all_len res σ
  unfold LS.fin LS.fin1
  rw [hb]
  have h3 := List.length_filter_le (· ≠ 0) res
  simp only [LS.fin2, give_row, List.length_append, List.length_take]
  have h4 : (if (σ.all res).row.length = b.ht then σ.all res else (σ.all res).fail 4).row = (σ.all res).row := by
    split
    · rfl
    · rw [fail_row]
  rw [h4]
  omega
theorem Inv.fin (h : Inv N σ) (res : List Int) : Inv0 (N + res.length) (σ.fin res) := by
  refine ⟨h.wf.fin res, fun b hb => ?_, ?_⟩
  · rw [fin_blk res h.wf.ne] at hb
    exact h.lab b (List.dropLast_subset _ hb)
  · have h1 := fin_len res h
    have h2 := h.sz
    rw [fin_blk res h.wf.ne, List.length_dropLast]
    omega
end Go.Proofs.Am

/-
  Code's types, gone through: what may be, how much there is of it, how great the looker grows by it.
-/
namespace Go.Proofs.Am
open Go

mutual
def cI : Ins → Nat
  | .mk _ _ _ _ _ l bd el _ => 1 + l.length + cL bd + cL el
def cL : List Ins → Nat
  | [] => 0
  | x :: xs => cI x + cL xs
end
def numZ (n : Int) : Bool := decide (0 ≤ n) && decide (n ≤ 4294967295)
section
variable (OP : Int → Option OpR)
/-- An instruction that is no block. -/
def mayP (r : OpR) (o a b v : Int) (l : List Int) : Bool :=
  if r.kind = 10 then !(decide (r.gives = 1) && decide (4294967295 < v)) && (decide (a = 0) && decide (b = 0) && l.isEmpty)
  else if r.kind = 7 ∨ r.kind = 8 then numZ a && numZ b && (decide (v = 0) && l.isEmpty)
  else if o = 14 then !l.isEmpty && l.all numZ && (decide (a = 0) && decide (b = 0) && decide (v = 0))
  else if r.kind = 4 ∨ r.kind = 6 ∨ (r.kind = 3 ∧ o ≠ 15) then numZ a && (decide (b = 0) && decide (v = 0) && l.isEmpty)
  else decide (a = 0) && decide (b = 0) && decide (v = 0) && l.isEmpty
mutual
def mayI : Ins → Bool
  | .mk o a b v t l bd el q =>
    match OP o with
    | none => false
    | some r =>
      if r.kind = 2 then decide (0 ≤ t) && decide (t ≤ 2) && mayL bd && mayL el && !(decide (o ≠ 4) && q) && !(!q && !el.isEmpty) && (decide (a = 0) && decide (b = 0) && decide (v = 0) && l.isEmpty)
      else mayP r o a b v l && (decide (t = 0) && bd.isEmpty && el.isEmpty && !q)
def mayL : List Ins → Bool
  | [] => true
  | x :: xs => mayI x && mayL xs
end
end
theorem mayL_mem {OP : Int → Option OpR} : ∀ {xs : List Ins}, mayL OP xs = xs.all (mayI OP)
  | [] => rfl
  | x :: xs => by rw [mayL, List.all_cons, mayL_mem]

section
variable {OP : Int → Option OpR} {s : Scp} {R : Nat}
theorem Inv0.inv {N : Nat} {σ : LS} (h : Inv0 N σ) (hp : 0 < σ.blk.length) : Inv N σ := ⟨⟨List.length_pos_iff.1 hp, h.wf.le, h.wf.srt⟩, h.lab, h.sz⟩
theorem Inv.inv0 {N : Nat} {σ : LS} (h : Inv N σ) : Inv0 N σ := ⟨⟨h.wf.le, h.wf.srt⟩, h.lab, h.sz⟩
theorem Inv0.mono {N M : Nat} {σ : LS} (h : Inv0 N σ) (hM : N ≤ M) : Inv0 M σ := ⟨h.wf, h.lab, Nat.le_trans h.sz hM⟩
theorem Inv.pos {N : Nat} {σ : LS} (h : Inv N σ) : 0 < σ.blk.length := List.length_pos_iff.2 h.wf.ne
theorem stop_blen (σ : LS) : σ.stop.blk.length = σ.blk.length := by
  have h1 := congrArg List.length (stop_lab σ)
  rwa [List.length_map, List.length_map] at h1
/-- It grows by at most c, and has no block less. -/
def Grows (c : Nat) (F : LS → LS) : Prop := ∀ (N : Nat) (σ : LS), Inv N σ → Inv (N + c) (F σ) ∧ σ.blk.length ≤ (F σ).blk.length
theorem Grows.mono {c d : Nat} {F : LS → LS} (h : Grows c F) (hd : c ≤ d) : Grows d F := fun N σ I => ⟨(h N σ I).1.mono (by omega), (h N σ I).2⟩
theorem Grows.comp {c d : Nat} {F G : LS → LS} (h : Grows c F) (k : Grows d G) : Grows (c + d) fun σ => G (F σ) := fun N σ I => by
  obtain ⟨h1, h2⟩ := h N σ I
  obtain ⟨h3, h4⟩ := k _ _ h1
  exact ⟨h3.mono (by omega), Nat.le_trans h2 h4⟩
theorem g_id : Grows 0 fun σ => σ := fun _ _ I => ⟨I, Nat.le_refl _⟩
theorem g_fail (c : Int) : Grows 0 (LS.fail c) := fun _ σ I => ⟨I.fail c, by rw [fail_blk]; exact Nat.le_refl _⟩
theorem g_take (w : Int) : Grows 0 fun σ => (σ.take w).1 := fun _ σ I => ⟨I.take w, by rw [take_blk]; exact Nat.le_refl _⟩
theorem g_all (ts : List Int) : Grows 0 (LS.all ts) := fun _ σ I => ⟨I.all ts, by rw [all_blk]; exact Nat.le_refl _⟩
theorem g_give (ts : List Int) : Grows ts.length (LS.give ts) := fun _ _ I => ⟨I.give ts, Nat.le_refl _⟩
theorem g_stop : Grows 0 LS.stop := fun _ σ I => ⟨I.stop, by rw [stop_blen]; exact Nat.le_refl _⟩
theorem g_ite {c : Nat} {F G : LS → LS} (p : LS → Prop) [∀ σ, Decidable (p σ)] (h : Grows c F) (k : Grows c G) : Grows c fun σ => if p σ then F σ else G σ := fun N σ I => by
  by_cases hp : p σ
  · simp only [if_pos hp]; exact h N σ I
  · simp only [if_neg hp]; exact k N σ I
theorem g_table (l : List Int) : Grows 0 (LS.table l) := fun N σ I => by
  unfold LS.table
  split
  · exact g_fail 5 N σ I
  · rename_i ts hts
    exact (((g_ite (fun _ => ts.any (· ≠ ts.getLastD []) = true) (g_fail 4) g_id).comp (g_take 1)).comp (g_all _)).comp g_stop N σ I
theorem g_jump (o a : Int) (l : List Int) : Grows 1 (LS.jump s o a l) := fun N σ I => by
  unfold LS.jump
  split
  · exact (((g_all _).comp g_stop).mono (by omega)) N σ I
  · split
    · exact ((g_table l).mono (by omega)) N σ I
    · split
      · exact ((g_fail 5).mono (by omega)) N σ I
      · rename_i t ht
        split
        · exact ((((g_take 1).comp (g_all t)).comp (g_give t)).mono (by have := I.lbl ht; omega)) N σ I
        · exact (((g_all t).comp g_stop).mono (by omega)) N σ I
theorem g_callT (hR : ∀ x, x ∈ s.ty → x.p.length ≤ R ∧ x.r.length ≤ R) (thr : Bool) (n : Int) : Grows R (LS.callT s thr n) := fun N σ I => by
  unfold LS.callT
  split
  · exact ((g_fail 5).mono (by omega)) N σ I
  · split
    · exact (g_id.mono (by omega)) N σ I
    · rename_i t ht
      have hr := (hR t (List.mem_of_getElem? ht)).2
      have g1 : Grows 0 (LS.thr thr) := by
        cases thr with
        | false => exact g_id
        | true => exact g_take 1
      exact (((((g_ite (fun _ => 1 < t.r.length) (g_fail 4) g_id).comp g1).comp (g_all t.p)).comp (g_give t.r)).mono (by omega)) N σ I
theorem g_call (hR : ∀ x, x ∈ s.ty → x.p.length ≤ R ∧ x.r.length ≤ R) (o a : Int) : Grows R (LS.call s o a) := fun N σ I => by
  unfold LS.call
  split
  · split
    · exact ((g_fail 5).mono (by omega)) N σ I
    · split
      · exact (g_id.mono (by omega)) N σ I
      · exact g_callT hR _ _ N σ I
  · exact g_callT hR _ _ N σ I
theorem g_any (o : Int) : Grows 1 (LS.any o) := fun N σ I => by
  unfold LS.any
  split
  · exact ((g_take (-1)).mono (by omega)) N σ I
  · unfold LS.sel
    obtain ⟨h1, h2⟩ := ((g_take 1).comp (g_take (-1))) N σ I
    obtain ⟨h3, h4⟩ := g_take (((σ.take 1).1.take (-1)).2) _ _ h1
    obtain ⟨h5, h6⟩ := g_give [((((σ.take 1).1.take (-1)).1).take (((σ.take 1).1.take (-1)).2)).2] _ _ h3
    exact ⟨h5.mono (by simp), Nat.le_trans h2 (Nat.le_trans h4 h6)⟩
theorem g_varT (o t : Int) (q : Bool) : Grows 1 (LS.varT o t q) := fun N σ I => by
  unfold LS.varT
  split
  · exact g_give [t] N σ I
  · split
    · exact (((g_take t).comp (g_give [t])).mono (by simp)) N σ I
    · exact (((g_ite (fun _ => q = false ∧ o = 36) (g_fail 4) g_id).comp (g_take t)).mono (by omega)) N σ I
theorem g_var (o a : Int) : Grows 1 (LS.var s o a) := fun N σ I => by
  unfold LS.var
  split
  · split
    · split
      · exact (g_id.mono (by omega)) N σ I
      · exact g_varT _ _ _ N σ I
    · exact ((g_fail 5).mono (by omega)) N σ I
  · split
    · split
      · exact (g_id.mono (by omega)) N σ I
      · exact g_varT _ _ _ N σ I
    · exact ((g_fail 5).mono (by omega)) N σ I
theorem g_plain (r : OpR) (a : Int) : Grows 1 (LS.plain s r a) := fun N σ I => by
  unfold LS.plain
  split
  · exact ((g_fail 5).mono (by omega)) N σ I
  · exact (((g_ite (fun _ => (r.kind = 7 ∨ r.kind = 8) ∧ (3 < a ∨ r.bytes < (2 : Int) ^ a.toNat)) (g_fail 4) g_id).comp (g_all r.takes)).comp (g_give [r.gives])).mono (by simp) N σ I
theorem g_cond (o t : Int) (q : Bool) : Grows 0 (LS.cond o t q) := fun N σ I => by
  unfold LS.cond
  split
  · split
    · exact ((g_take 1).comp (g_fail 4)) N σ I
    · exact g_take 1 N σ I
  · exact g_id N σ I
/-- A list, gone through: its block is pushed ahead. -/
def RunL (OP : Int → Option OpR) (s : Scp) (c : Nat) (xs : List Ins) : Prop := ∀ (res : List Int), res.length ≤ 1 → ∀ (N : Nat) (σ : LS), Inv N σ → Inv0 (N + c) (LS.runL OP s xs res σ) ∧ σ.blk.length ≤ (LS.runL OP s xs res σ).blk.length + 1
theorem g_code {c : Nat} {xs : List Ins} (h : RunL OP s c xs) {lab res : List Int} (hl : lab.length ≤ 1) (hr : res.length ≤ 1) : Grows (c + 1) fun σ => if σ.err.isSome then σ else LS.runL OP s xs res (σ.push lab res) := fun N σ I => by
  by_cases he : σ.err.isSome = true
  · simp only [if_pos he]
    exact ⟨I.mono (by omega), Nat.le_refl _⟩
  · simp only [if_neg he]
    obtain ⟨h1, h2⟩ := h res hr (N + 1) (σ.push lab res) (I.push hl res)
    have h3 : (σ.push lab res).blk.length = σ.blk.length + 1 := by simp [LS.push]
    have := I.pos
    exact ⟨(h1.inv (by omega)).mono (by omega), by omega⟩
mutual
theorem g_instr (hR : ∀ x, x ∈ s.ty → x.p.length ≤ R ∧ x.r.length ≤ R) : ∀ x : Ins, Grows ((R + 6) * cI x) (LS.instr OP s x)
  | .mk o a b v t l bd el q => by
    have hb := g_runL hR bd
    have hl := g_runL hR el
    have hc : cI (.mk o a b v t l bd el q) = 1 + l.length + cL bd + cL el := rfl
    have hc2 : (R + 6) * cI (.mk o a b v t l bd el q) = (R + 6) + (R + 6) * l.length + (R + 6) * cL bd + (R + 6) * cL el := by rw [hc, Nat.mul_add, Nat.mul_add, Nat.mul_add, Nat.mul_one]
    intro N σ I
    have hr := rsl_len t
    unfold LS.instr
    split
    · exact ((g_fail 1).mono (by omega)) N σ I
    · rename_i r hop
      split
      · split
        · exact (g_code hb (lab := []) (by simp) hr).mono (by omega) N σ I
        · have g2 := (g_cond o t q).comp (g_code hb hr hr)
          exact (g2.comp (g_ite (fun τ => q = true ∧ τ.err = none) ((g_all (rsl t)).comp (g_code hl hr hr)) (g_id.mono (Nat.zero_le _)))).mono (by omega) N σ I
      · split
        · exact (g_jump o a l).mono (by omega) N σ I
        · split
          · exact (g_call hR o a).mono (by omega) N σ I
          · split
            · exact (g_any o).mono (by omega) N σ I
            · split
              · exact (g_var o a).mono (by omega) N σ I
              · split
                · exact g_stop.mono (by omega) N σ I
                · exact (g_plain r a).mono (by omega) N σ I
theorem g_runL (hR : ∀ x, x ∈ s.ty → x.p.length ≤ R ∧ x.r.length ≤ R) : ∀ xs : List Ins, RunL OP s ((R + 6) * cL xs + 1) xs
  | [] => by
    intro res hr N σ I
    rw [LS.runL]
    have h1 := I.fin res
    refine ⟨h1.mono (by omega), ?_⟩
    rw [fin_blk res I.wf.ne, List.length_dropLast]
    omega
  | x :: xs => by
    intro res hr N σ I
    rw [LS.runL]
    have hc : (R + 6) * cL (x :: xs) = (R + 6) * cI x + (R + 6) * cL xs := by rw [cL, Nat.mul_add]
    split
    · exact ⟨I.inv0.mono (by omega), by omega⟩
    · obtain ⟨h1, h2⟩ := g_instr hR x N σ I
      obtain ⟨h3, h4⟩ := g_runL hR xs res hr _ _ h1
      exact ⟨h3.mono (by omega), by omega⟩
end
end
end Go.Proofs.Am

/-
  Code that fits, gone through beside what is alike: with more in the scope, one more outer block, an outer block that never goes on.
-/
namespace Go.Proofs.Am
open Go

/-! ### What is amiss stays -/
def Keeps (F : LS → LS) : Prop := ∀ (σ : LS) (c : Int), σ.err = some c → (F σ).err = some c
theorem Keeps.none {F : LS → LS} (h : Keeps F) {σ : LS} (he : (F σ).err = none) : σ.err = none := by
  cases hc : σ.err with
  | none => rfl
  | some c => rw [h σ c hc] at he; cases he
theorem k_id : Keeps fun σ => σ := fun _ _ h => h
theorem Keeps.comp {F G : LS → LS} (h : Keeps F) (k : Keeps G) : Keeps fun σ => G (F σ) := fun σ c hc => k _ c (h σ c hc)
theorem k_fail (c : Int) : Keeps (LS.fail c) := fun σ e h => by rw [fail_keep h]; exact h
theorem fail_some (c : Int) (σ : LS) : (σ.fail c).err ≠ none := fun h => (fail_err c σ).1 h
theorem k_take (w : Int) : Keeps fun σ => (σ.take w).1 := fun σ c h => by
  show (σ.take w).1.err = some c
  unfold LS.take
  split
  · exact h
  · split
    · split
      · exact h
      · exact k_fail 4 σ c h
    · split
      · exact h
      · simp only
        split
        · exact k_fail 4 _ c h
        · exact h
theorem k_all : ∀ ts : List Int, Keeps (LS.all ts)
  | [] => k_id
  | t :: ts => fun σ c h => k_take t _ c (k_all ts σ c h)
theorem k_give (ts : List Int) : Keeps (LS.give ts) := fun _ _ h => h
theorem k_stop : Keeps LS.stop := fun σ c h => by
  unfold LS.stop
  split
  · exact h
  · exact h
theorem k_fin (res : List Int) : Keeps (LS.fin res) := fun σ c h => by
  have h1 := k_all res σ c h
  unfold LS.fin LS.fin1
  split
  · exact h1
  · show (if _ then _ else _ : LS).err = some c
    split
    · exact h1
    · exact k_fail 4 _ c h1
theorem k_thr (q : Bool) : Keeps (LS.thr q) := by
  cases q with
  | false => exact k_id
  | true => exact k_take 1
section
variable {s : Scp}
variable {OP : Int → Option OpR}
/-- Code of a block of its own. -/
def codeC (OP : Int → Option OpR) (s : Scp) (xs : List Ins) (la re : List Int) (σ : LS) : LS := if σ.err.isSome then σ else LS.runL OP s xs re (σ.push la re)
def endC (OP : Int → Option OpR) (s : Scp) (t : Int) (q : Bool) (el : List Ins) (σ : LS) : LS := if q = true ∧ σ.err = none then codeC OP s el (rsl t) (rsl t) (σ.all (rsl t)) else σ
theorem instr_no {o a b v t : Int} {l : List Int} {bd el : List Ins} {q : Bool} {σ : LS} (h : OP o = none) : LS.instr OP s (.mk o a b v t l bd el q) σ = σ.fail 1 := by
  unfold LS.instr
  rw [h]
theorem instr_is {o a b v t : Int} {l : List Int} {bd el : List Ins} {q : Bool} {σ : LS} {r : OpR} (h : OP o = some r) : LS.instr OP s (.mk o a b v t l bd el q) σ =
    if r.kind = 2 then (if o = 3 then codeC OP s bd [] (rsl t) σ else endC OP s t q el (codeC OP s bd (rsl t) (rsl t) (LS.cond o t q σ)))
    else if r.kind = 3 then σ.jump s o a l
      else if r.kind = 4 then σ.call s o a
      else if r.kind = 5 then σ.any o
      else if r.kind = 6 then σ.var s o a
      else if o = 0 then σ.stop
      else σ.plain s r a := by
  unfold LS.instr
  rw [h]
  rfl
theorem k_codeC {xs : List Ins} (la re : List Int) : Keeps (codeC OP s xs la re) := fun σ c h => by
  unfold codeC
  rw [if_pos (by rw [h]; rfl)]
  exact h
theorem k_endC {t : Int} {q : Bool} {el : List Ins} : Keeps (endC OP s t q el) := fun σ c h => by
  unfold endC
  rw [if_neg (by rw [h]; simp)]
  exact h
theorem k_runL : ∀ (xs : List Ins) (re : List Int), Keeps (LS.runL OP s xs re)
  | [], re => fun σ c h => by rw [LS.runL]; exact k_fin re σ c h
  | x :: xs, re => fun σ c h => by
    rw [LS.runL, if_pos (by rw [h]; rfl)]
    exact h
end

/-! ### Beside one another -/
structure Sim (U : List Blk → List Blk) : Prop where
  last : ∀ (l : List Blk) (b : Blk), l.getLast? = some b → ∃ b', (U l).getLast? = some b' ∧ b'.ht = b.ht ∧ (b.nv = true → b'.nv = true)
  snoc : ∀ (l : List Blk) (b : Blk), l ≠ [] → U (l ++ [b]) = U l ++ [b]
  nv : ∀ l : List Blk, l ≠ [] → U (setNv l) = setNv (U l)
  drop : ∀ l : List Blk, l ≠ [] → (U l).dropLast = U l.dropLast
  lbl : ∀ (l : List Blk) (n : Nat), n < l.length → n < (U l).length ∧ ((U l)[(U l).length - 1 - n]?).map (·.lab) = (l[l.length - 1 - n]?).map (·.lab)
def tr (U : List Blk → List Blk) (σ : LS) : LS := { σ with blk := U σ.blk }
structure Wider (s s' : Scp) : Prop where
  ty : ∀ (n : Nat) t, s.ty[n]? = some t → s'.ty[n]? = some t
  fn : ∀ (n : Nat) t, s.fn[n]? = some t → s'.fn[n]? = some t
  gl : ∀ (n : Nat) t, s.gl[n]? = some t → s'.gl[n]? = some t
  lo : ∀ (n : Nat) t, s.lo[n]? = some t → s'.lo[n]? = some t
  tb : s.tb = true → s'.tb = true
  mm : s.mm = true → s'.mm = true
  re : s'.re = s.re
theorem Wider.refl (s : Scp) : Wider s s := ⟨fun _ _ h => h, fun _ _ h => h, fun _ _ h => h, fun _ _ h => h, fun h => h, fun h => h, rfl⟩
theorem lt_of_get {A : Type} {l l' : List A} (h : ∀ (n : Nat) t, l[n]? = some t → l'[n]? = some t) {n : Nat} (hn : n < l.length) : n < l'.length :=
  (List.getElem?_eq_some_iff.1 (h n _ (List.getElem?_eq_getElem hn))).1
section
variable {U : List Blk → List Blk}
/-- F does beside what F' does. -/
def Sims (U : List Blk → List Blk) (F F' : LS → LS) : Prop := ∀ (N : Nat) (σ : LS), Inv N σ → (F σ).err = none → F' (tr U σ) = tr U (F σ)
theorem Sims.comp {F F' G G' : LS → LS} {c : Nat} (h : Sims U F F') (k : Sims U G G') (hg : Grows c F) (hk : Keeps G) : Sims U (fun σ => G (F σ)) (fun σ => G' (F' σ)) := fun N σ I he => by
  have h1 := h N σ I (hk.none he)
  simp only [h1]
  exact k _ _ (hg N σ I).1 he
theorem s_id : Sims U (fun σ => σ) (fun σ => σ) := fun _ _ _ _ => rfl
theorem s_ifail {p : Prop} [Decidable p] (c : Int) : Sims U (fun σ => if p then σ.fail c else σ) (fun σ => if p then σ.fail c else σ) := fun N σ I he => by
  by_cases hp : p
  · simp only [if_pos hp] at he; exact absurd he (fail_some c σ)
  · simp only [if_neg hp]
theorem take_sim (hU : Sim U) (w : Int) {N : Nat} {σ : LS} (I : Inv N σ) (he : (σ.take w).1.err = none) : (tr U σ).take w = (tr U (σ.take w).1, (σ.take w).2) := by
  obtain ⟨b, hb, _⟩ := last_of I.wf.ne
  obtain ⟨b', hb', h1, h2⟩ := hU.last _ b hb
  have hb2 : (tr U σ).blk.getLast? = some b' := hb'
  unfold LS.take at he ⊢
  rw [hb] at he
  rw [hb, hb2]
  simp only at he ⊢
  have hrow : (tr U σ).row = σ.row := rfl
  rw [hrow, h1]
  by_cases heq : σ.row.length = b.ht
  · rw [if_pos heq] at he
    rw [if_pos heq, if_pos heq]
    cases hn : b.nv with
    | true => rw [if_pos (h2 hn), if_pos rfl]
    | false =>
      rw [hn, if_neg (by simp)] at he
      exact absurd he (fail_some 4 σ)
  · rw [if_neg heq] at he
    rw [if_neg heq, if_neg heq]
    cases hg : σ.row.getLast? with
    | none => rfl
    | some got =>
      rw [hg] at he
      simp only at he ⊢
      by_cases hc : got ≠ w ∧ got ≠ -1 ∧ w ≠ -1
      · rw [if_pos hc] at he
        exact absurd he (fail_some 4 _)
      · rw [if_neg hc, if_neg hc]
        rfl
theorem s_take (hU : Sim U) (w : Int) : Sims U (fun σ => (σ.take w).1) (fun σ => (σ.take w).1) := fun N σ I he => by
  show ((tr U σ).take w).1 = _
  rw [take_sim hU w I he]
theorem s_all (hU : Sim U) : ∀ ts : List Int, Sims U (LS.all ts) (LS.all ts)
  | [] => s_id
  | t :: ts => (s_all hU ts).comp (s_take hU t) (g_all ts) (k_take t)
theorem s_give (ts : List Int) : Sims U (LS.give ts) (LS.give ts) := fun _ _ _ _ => rfl
theorem s_stop (hU : Sim U) : Sims U LS.stop LS.stop := fun N σ I _ => by
  obtain ⟨b, hb, _⟩ := last_of I.wf.ne
  obtain ⟨b', hb', h1, _⟩ := hU.last _ b hb
  have hb2 : (tr U σ).blk.getLast? = some b' := hb'
  unfold LS.stop
  rw [hb, hb2]
  simp only [tr, h1, hU.nv _ I.wf.ne]
theorem s_push (hU : Sim U) {σ : LS} (hne : σ.blk ≠ []) (lab res : List Int) : (tr U σ).push lab res = tr U (σ.push lab res) := by
  simp only [LS.push, tr, hU.snoc _ _ hne]
theorem s_lbl (hU : Sim U) {σ : LS} {n : Int} {t : List Int} (h : σ.lbl n = some t) (h0 : 0 ≤ n) : (tr U σ).lbl n = some t := by
  unfold LS.lbl at h ⊢
  split at h
  · rename_i hn
    obtain ⟨h1, h2⟩ := hU.lbl σ.blk n.toNat (by omega)
    have h3 : n < ((tr U σ).blk.length : Int) := by
      show n < ((U σ.blk).length : Int)
      omega
    rw [if_pos h3]
    exact h2.trans h
  · cases h
theorem s_tbl (hU : Sim U) {σ : LS} : ∀ (l : List Int) (acc ts : List (List Int)), (∀ n, n ∈ l → 0 ≤ n) → σ.tbl l acc = some ts → (tr U σ).tbl l acc = some ts
  | [], acc, ts, _, h => h
  | n :: ns, acc, ts, h0, h => by
    unfold LS.tbl at h ⊢
    split at h
    · cases h
    · rename_i t ht
      rw [s_lbl hU ht (h0 n (by simp))]
      exact s_tbl hU ns _ ts (fun m hm => h0 m (by simp [hm])) h
theorem s_fin (hU : Sim U) (res : List Int) : Sims U (LS.fin res) (LS.fin res) := fun N σ I he => by
  have k1 : Keeps (LS.fin1 res) := fun σ c h => by
    unfold LS.fin1
    split
    · exact h
    · show (if _ then _ else _ : LS).err = some c
      split
      · exact h
      · exact k_fail 4 _ c h
  have ha := s_all hU res N σ I (k1.none he)
  have I1 := I.all res
  unfold LS.fin at he ⊢
  rw [ha]
  generalize σ.all res = τ at he I1 ⊢
  obtain ⟨b, hb, _⟩ := last_of I1.wf.ne
  obtain ⟨b', hb', h1, _⟩ := hU.last _ b hb
  have hb2 : (tr U τ).blk.getLast? = some b' := hb'
  unfold LS.fin1 at he ⊢
  rw [hb] at he
  rw [hb, hb2]
  simp only at he ⊢
  have heq : τ.row.length = b.ht := by
    apply Classical.byContradiction
    intro hn
    rw [if_neg hn] at he
    exact fail_some 4 τ he
  rw [if_pos heq, if_pos (show (tr U τ).row.length = b'.ht by rw [h1]; exact heq)]
  simp only [LS.fin2, LS.give, tr, h1, hU.drop _ I1.wf.ne]
theorem s_table (hU : Sim U) {l : List Int} (h0 : ∀ n, n ∈ l → 0 ≤ n) : Sims U (LS.table l) (LS.table l) := fun N σ I he => by
  unfold LS.table at he ⊢
  split at he
  · exact absurd he (fail_some 5 σ)
  · rename_i ts hts
    rw [s_tbl hU l [] ts h0 hts]
    have G1 : Grows 0 fun σ : LS => if ts.any (· ≠ ts.getLastD []) then σ.fail 4 else σ := g_ite (fun _ => ts.any (· ≠ ts.getLastD []) = true) (g_fail 4) g_id
    exact ((((s_ifail (U := U) (p := ts.any (· ≠ ts.getLastD []) = true) 4).comp (s_take hU 1) G1 (k_take 1)).comp (s_all hU _) (G1.comp (g_take 1)) (k_all _)).comp (s_stop hU) ((G1.comp (g_take 1)).comp (g_all _)) k_stop) N σ I he
variable {s s' : Scp} {R : Nat}
theorem s_jump (hU : Sim U) (hs : Wider s s') {o a : Int} {l : List Int} (h0 : (o = 14 → ∀ n, n ∈ l → 0 ≤ n) ∧ (o = 14 ∨ o = 15 ∨ 0 ≤ a)) : Sims U (LS.jump s o a l) (LS.jump s' o a l) := fun N σ I he => by
  unfold LS.jump at he ⊢
  rw [hs.re]
  by_cases h15 : o = 15
  · rw [if_pos h15] at he
    rw [if_pos h15, if_pos h15]
    exact ((s_all hU _).comp (s_stop hU) (g_all _) k_stop) N σ I he
  · rw [if_neg h15] at he
    rw [if_neg h15, if_neg h15]
    by_cases h14 : o = 14
    · rw [if_pos h14] at he
      rw [if_pos h14, if_pos h14]
      exact s_table hU (h0.1 h14) N σ I he
    · rw [if_neg h14] at he
      rw [if_neg h14, if_neg h14]
      have ha : 0 ≤ a := by
        rcases h0.2 with h | h | h
        · exact absurd h h14
        · exact absurd h h15
        · exact h
      split at he
      · exact absurd he (fail_some 5 σ)
      · rename_i t ht
        rw [s_lbl hU ht ha]
        simp only
        split at he
        · rename_i h13
          rw [if_pos h13, if_pos h13]
          exact (((s_take hU 1).comp (s_all hU t) (g_take 1) (k_all t)).comp (s_give t) ((g_take 1).comp (g_all t)) (k_give t)) N σ I he
        · rename_i h13
          rw [if_neg h13, if_neg h13]
          exact ((s_all hU t).comp (s_stop hU) (g_all t) k_stop) N σ I he
end
end Go.Proofs.Am

/-
  Code that fits: with more in the scope, in a block of its result, behind unreachable.
-/
namespace Go.Proofs.Am
open Go

section
variable {U : List Blk → List Blk} {s s' : Scp} {R : Nat}
theorem s_thr (hU : Sim U) (q : Bool) : Sims U (LS.thr q) (LS.thr q) := by
  cases q with
  | false => exact s_id
  | true => exact s_take hU 1
theorem g_thr (q : Bool) : Grows 0 (LS.thr q) := by
  cases q with
  | false => exact g_id
  | true => exact g_take 1
theorem s_callT (hU : Sim U) (hs : Wider s s') (thr : Bool) (n : Int) : Sims U (LS.callT s thr n) (LS.callT s' thr n) := fun N σ I he => by
  unfold LS.callT at he ⊢
  by_cases hn : n < 0 ∨ (s.ty.length : Int) ≤ n ∨ (thr = true ∧ s.tb = false)
  · rw [if_pos hn] at he
    exact absurd he (fail_some 5 σ)
  · rw [if_neg hn] at he
    rw [if_neg hn]
    have hlt : n.toNat < s.ty.length := by omega
    have hg : s.ty[n.toNat]? = some s.ty[n.toNat] := List.getElem?_eq_getElem hlt
    have hlt' := lt_of_get hs.ty hlt
    have hn' : ¬(n < 0 ∨ (s'.ty.length : Int) ≤ n ∨ (thr = true ∧ s'.tb = false)) := by
      rintro (h | h | ⟨h, h2⟩)
      · omega
      · omega
      · have : s.tb = true := by
          cases hb : s.tb with
          | true => rfl
          | false => exact absurd (.inr (.inr ⟨h, hb⟩)) hn
        rw [hs.tb this] at h2; cases h2
    rw [if_neg hn', hs.ty _ _ hg, hg]
    rw [hg] at he
    simp only at he ⊢
    generalize s.ty[n.toNat] = t at he
    have G1 : Grows 0 fun σ : LS => if 1 < t.r.length then σ.fail 4 else σ := g_ite (fun _ => 1 < t.r.length) (g_fail 4) g_id
    exact ((((s_ifail (U := U) (p := 1 < t.r.length) 4).comp (s_thr hU thr) G1 (k_thr thr)).comp (s_all hU t.p) (G1.comp (g_thr thr)) (k_all t.p)).comp (s_give t.r) ((G1.comp (g_thr thr)).comp (g_all t.p)) (k_give t.r)) N σ I he
theorem s_call (hU : Sim U) (hs : Wider s s') {o a : Int} (h0 : 0 ≤ a) : Sims U (LS.call s o a) (LS.call s' o a) := fun N σ I he => by
  unfold LS.call at he ⊢
  by_cases h16 : o = 16
  · rw [if_pos h16] at he
    rw [if_pos h16, if_pos h16]
    by_cases ha : (s.fn.length : Int) ≤ a
    · rw [if_pos ha] at he
      exact absurd he (fail_some 5 σ)
    · rw [if_neg ha] at he
      have hlt : a.toNat < s.fn.length := by omega
      have hg : s.fn[a.toNat]? = some s.fn[a.toNat] := List.getElem?_eq_getElem hlt
      have hlt' := lt_of_get hs.fn hlt
      rw [if_neg ha, if_neg (show ¬((s'.fn.length : Int) ≤ a) by omega), hs.fn _ _ hg, hg]
      rw [hg] at he
      exact s_callT hU hs _ _ N σ I he
  · rw [if_neg h16] at he
    rw [if_neg h16, if_neg h16]
    exact s_callT hU hs _ _ N σ I he
theorem s_any (hU : Sim U) (o : Int) : Sims U (LS.any o) (LS.any o) := fun N σ I he => by
  unfold LS.any at he ⊢
  by_cases h : o = 26
  · rw [if_pos h] at he
    rw [if_pos h, if_pos h]
    exact s_take hU (-1) N σ I he
  · rw [if_neg h] at he
    rw [if_neg h, if_neg h]
    unfold LS.sel at he ⊢
    have e3 : (((σ.take 1).1.take (-1)).1.take ((σ.take 1).1.take (-1)).2).1.err = none := he
    have e2 := (k_take _).none e3
    have e1 := (k_take (-1)).none e2
    have t1 := take_sim hU 1 I e1
    have t2 := take_sim hU (-1) (I.take 1) e2
    have t3 := take_sim hU (((σ.take 1).1.take (-1)).2) ((I.take 1).take (-1)) e3
    rw [t1, t2, t3]
    rfl
theorem s_varT (hU : Sim U) (o t : Int) {q q' : Bool} (hq : q = q') : Sims U (LS.varT o t q) (LS.varT o t q') := fun N σ I he => by
  subst hq
  unfold LS.varT at he ⊢
  by_cases h1 : o = 32 ∨ o = 35
  · rw [if_pos h1, if_pos h1]
    rfl
  · rw [if_neg h1] at he
    rw [if_neg h1, if_neg h1]
    by_cases h2 : o = 34
    · rw [if_pos h2] at he
      rw [if_pos h2, if_pos h2]
      exact ((s_take hU t).comp (s_give [t]) (g_take t) (k_give [t])) N σ I he
    · rw [if_neg h2] at he
      rw [if_neg h2, if_neg h2]
      exact ((s_ifail (U := U) (p := q = false ∧ o = 36) 4).comp (s_take hU t) (g_ite (fun _ => q = false ∧ o = 36) (g_fail 4) g_id) (k_take t)) N σ I he
theorem s_var (hU : Sim U) (hs : Wider s s') {o a : Int} (h0 : 0 ≤ a) : Sims U (LS.var s o a) (LS.var s' o a) := fun N σ I he => by
  unfold LS.var at he ⊢
  by_cases ho : o < 35
  · rw [if_pos ho] at he
    rw [if_pos ho, if_pos ho]
    by_cases ha : a < s.lo.length
    · rw [if_pos ha] at he
      have hg : s.lo[a.toNat]? = some s.lo[a.toNat] := List.getElem?_eq_getElem (by omega)
      have hlt' := lt_of_get hs.lo (show a.toNat < s.lo.length by omega)
      rw [if_pos ha, if_pos (show a < s'.lo.length by omega), hs.lo _ _ hg, hg]
      rw [hg] at he
      exact s_varT hU _ _ rfl N σ I he
    · rw [if_neg ha] at he
      exact absurd he (fail_some 5 σ)
  · rw [if_neg ho] at he
    rw [if_neg ho, if_neg ho]
    by_cases ha : a < s.gl.length
    · rw [if_pos ha] at he
      have hg : s.gl[a.toNat]? = some s.gl[a.toNat] := List.getElem?_eq_getElem (by omega)
      have hlt' := lt_of_get hs.gl (show a.toNat < s.gl.length by omega)
      rw [if_pos ha, if_pos (show a < s'.gl.length by omega), hs.gl _ _ hg, hg]
      rw [hg] at he
      exact s_varT hU _ _ rfl N σ I he
    · rw [if_neg ha] at he
      exact absurd he (fail_some 5 σ)
theorem s_plain (hU : Sim U) (hs : Wider s s') (r : OpR) (a : Int) : Sims U (LS.plain s r a) (LS.plain s' r a) := fun N σ I he => by
  unfold LS.plain at he ⊢
  by_cases hm : (r.kind = 7 ∨ r.kind = 8 ∨ r.kind = 9) ∧ s.mm = false
  · rw [if_pos hm] at he
    exact absurd he (fail_some 5 σ)
  · rw [if_neg hm] at he
    have hm' : ¬((r.kind = 7 ∨ r.kind = 8 ∨ r.kind = 9) ∧ s'.mm = false) := by
      rintro ⟨h1, h2⟩
      have : s.mm = true := by
        cases hb : s.mm with
        | true => rfl
        | false => exact absurd ⟨h1, hb⟩ hm
      rw [hs.mm this] at h2; cases h2
    rw [if_neg hm, if_neg hm']
    have G1 : Grows 0 fun σ : LS => if (r.kind = 7 ∨ r.kind = 8) ∧ (3 < a ∨ r.bytes < (2 : Int) ^ a.toNat) then σ.fail 4 else σ := g_ite (fun _ => (r.kind = 7 ∨ r.kind = 8) ∧ (3 < a ∨ r.bytes < (2 : Int) ^ a.toNat)) (g_fail 4) g_id
    exact (((s_ifail (U := U) (p := (r.kind = 7 ∨ r.kind = 8) ∧ (3 < a ∨ r.bytes < (2 : Int) ^ a.toNat)) 4).comp (s_all hU r.takes) G1 (k_all r.takes)).comp (s_give [r.gives]) (G1.comp (g_all r.takes)) (k_give [r.gives])) N σ I he
theorem s_cond (hU : Sim U) (o t : Int) (q : Bool) : Sims U (LS.cond o t q) (LS.cond o t q) := fun N σ I he => by
  unfold LS.cond at he ⊢
  by_cases h4 : o = 4
  · rw [if_pos h4] at he
    rw [if_pos h4, if_pos h4]
    by_cases hq : q = false ∧ t ≠ 0
    · rw [if_pos hq] at he
      exact absurd he (fail_some 4 _)
    · rw [if_neg hq] at he
      rw [if_neg hq, if_neg hq]
      exact s_take hU 1 N σ I he
  · rw [if_neg h4, if_neg h4]
variable {OP : Int → Option OpR}
def SimL (U : List Blk → List Blk) (OP : Int → Option OpR) (s s' : Scp) (xs : List Ins) : Prop := ∀ re : List Int, re.length ≤ 1 → Sims U (LS.runL OP s xs re) (LS.runL OP s' xs re)
theorem s_codeC (hU : Sim U) {xs : List Ins} (h : SimL U OP s s' xs) {la re : List Int} (hl : la.length ≤ 1) (hr : re.length ≤ 1) : Sims U (codeC OP s xs la re) (codeC OP s' xs la re) := fun N σ I he => by
  have e0 := (k_codeC (OP := OP) (s := s) la re).none he
  have n1 : ¬ σ.err.isSome = true := by rw [e0]; simp
  have n2 : ¬ (tr U σ).err.isSome = true := n1
  unfold codeC at he ⊢
  rw [if_neg n1] at he
  rw [if_neg n2, if_neg n1, s_push hU I.wf.ne]
  exact h re hr (N + 1) _ (I.push hl re) he
theorem s_endC (hU : Sim U) {el : List Ins} (h : SimL U OP s s' el) (t : Int) (q : Bool) : Sims U (endC OP s t q el) (endC OP s' t q el) := fun N σ I he => by
  have e0 := (k_endC (OP := OP) (s := s) (t := t) (q := q) (el := el)).none he
  unfold endC at he ⊢
  have hr := rsl_len t
  by_cases hq : q = true
  · have n1 : q = true ∧ σ.err = none := ⟨hq, e0⟩
    have n2 : q = true ∧ (tr U σ).err = none := ⟨hq, e0⟩
    rw [if_pos n1] at he
    refine (if_pos n2).trans ?_
    rw [if_pos n1]
    exact ((s_all hU (rsl t)).comp (s_codeC hU h hr hr) (g_all _) (k_codeC _ _)) N σ I he
  · rw [if_neg (fun hh => hq hh.1), if_neg (fun hh => hq hh.1)]
theorem num_of {n : Int} (h : numZ n = true) : 0 ≤ n := by
  unfold numZ at h
  rw [Bool.and_eq_true, decide_eq_true_eq] at h
  exact h.1
theorem may_j {o a b v : Int} {l : List Int} {r : OpR} (h : mayP r o a b v l = true) (hk : r.kind = 3) : (o = 14 → ∀ n, n ∈ l → 0 ≤ n) ∧ (o = 14 ∨ o = 15 ∨ 0 ≤ a) := by
  unfold mayP at h
  rw [if_neg (by omega), if_neg (by omega)] at h
  by_cases h14 : o = 14
  · rw [if_pos h14] at h
    simp only [Bool.and_eq_true, List.all_eq_true] at h
    exact ⟨fun _ n hn => num_of (h.1.2 n hn), .inl h14⟩
  · rw [if_neg h14] at h
    by_cases h15 : o = 15
    · exact ⟨fun e => absurd e h14, .inr (.inl h15)⟩
    · rw [if_pos (.inr (.inr ⟨hk, h15⟩))] at h
      simp only [Bool.and_eq_true] at h
      exact ⟨fun e => absurd e h14, .inr (.inr (num_of h.1))⟩
theorem may_46 {o a b v : Int} {l : List Int} {r : OpR} (h : mayP r o a b v l = true) (hk : r.kind = 4 ∨ r.kind = 6) (h14 : o ≠ 14) : 0 ≤ a := by
  unfold mayP at h
  rw [if_neg (by omega), if_neg (by omega), if_neg h14, if_pos (by omega)] at h
  simp only [Bool.and_eq_true] at h
  exact num_of h.1
theorem s_instr_of (hU : Sim U) (hs : Wider s s') (hR : ∀ x, x ∈ s.ty → x.p.length ≤ R ∧ x.r.length ≤ R) (hOP : ∀ o r, OP o = some r → r.kind = 4 ∨ r.kind = 6 → o ≠ 14) {o a b v t : Int} {l : List Int} {bd el : List Ins} {q : Bool}
    (hm : mayI OP (.mk o a b v t l bd el q) = true) (hb : mayL OP bd = true → SimL U OP s s' bd) (he : mayL OP el = true → SimL U OP s s' el) : Sims U (LS.instr OP s (.mk o a b v t l bd el q)) (LS.instr OP s' (.mk o a b v t l bd el q)) := fun N σ I hn => by
  unfold mayI at hm
  cases hop : OP o with
  | none => rw [hop] at hm; cases hm
  | some r =>
    rw [hop] at hm
    simp only at hm
    rw [instr_is hop] at hn
    rw [instr_is hop, instr_is hop]
    have hr := rsl_len t
    by_cases h2 : r.kind = 2
    · rw [if_pos h2] at hm hn
      rw [if_pos h2, if_pos h2]
      simp only [Bool.and_eq_true] at hm
      have mb := hb hm.1.1.1.1.2
      have me := he hm.1.1.1.2
      by_cases h3 : o = 3
      · rw [if_pos h3] at hn
        rw [if_pos h3, if_pos h3]
        exact s_codeC hU mb (by simp) hr N σ I hn
      · rw [if_neg h3] at hn
        rw [if_neg h3, if_neg h3]
        have gc := g_code (g_runL (OP := OP) (s := s) hR bd) hr hr
        exact (((s_cond hU o t q).comp (s_codeC hU mb hr hr) (g_cond o t q) (k_codeC _ _)).comp (s_endC hU me t q) ((g_cond o t q).comp gc) k_endC) N σ I hn
    · rw [if_neg h2] at hm hn
      rw [if_neg h2, if_neg h2]
      simp only [Bool.and_eq_true] at hm
      by_cases h3 : r.kind = 3
      · rw [if_pos h3] at hn
        rw [if_pos h3, if_pos h3]
        exact s_jump hU hs (may_j hm.1 h3) N σ I hn
      · rw [if_neg h3] at hn
        rw [if_neg h3, if_neg h3]
        by_cases h4 : r.kind = 4
        · rw [if_pos h4] at hn
          rw [if_pos h4, if_pos h4]
          exact s_call hU hs (may_46 hm.1 (.inl h4) (hOP o r hop (.inl h4))) N σ I hn
        · rw [if_neg h4] at hn
          rw [if_neg h4, if_neg h4]
          by_cases h5 : r.kind = 5
          · rw [if_pos h5] at hn
            rw [if_pos h5, if_pos h5]
            exact s_any hU o N σ I hn
          · rw [if_neg h5] at hn
            rw [if_neg h5, if_neg h5]
            by_cases h6 : r.kind = 6
            · rw [if_pos h6] at hn
              rw [if_pos h6, if_pos h6]
              exact s_var hU hs (may_46 hm.1 (.inr h6) (hOP o r hop (.inr h6))) N σ I hn
            · rw [if_neg h6] at hn
              rw [if_neg h6, if_neg h6]
              by_cases h0 : o = 0
              · rw [if_pos h0] at hn
                rw [if_pos h0, if_pos h0]
                exact s_stop hU N σ I hn
              · rw [if_neg h0] at hn
                rw [if_neg h0, if_neg h0]
                exact s_plain hU hs r a N σ I hn
mutual
theorem s_instr (hU : Sim U) (hs : Wider s s') (hR : ∀ x, x ∈ s.ty → x.p.length ≤ R ∧ x.r.length ≤ R) (hOP : ∀ o r, OP o = some r → r.kind = 4 ∨ r.kind = 6 → o ≠ 14) : ∀ x : Ins, mayI OP x = true → Sims U (LS.instr OP s x) (LS.instr OP s' x)
  | .mk _ _ _ _ _ _ bd el _ => fun hm => s_instr_of hU hs hR hOP hm (s_runL hU hs hR hOP bd) (s_runL hU hs hR hOP el)
theorem s_runL (hU : Sim U) (hs : Wider s s') (hR : ∀ x, x ∈ s.ty → x.p.length ≤ R ∧ x.r.length ≤ R) (hOP : ∀ o r, OP o = some r → r.kind = 4 ∨ r.kind = 6 → o ≠ 14) : ∀ xs : List Ins, mayL OP xs = true → SimL U OP s s' xs
  | [] => fun _ re _ N σ I he => by
    rw [LS.runL] at he
    rw [LS.runL, LS.runL]
    exact s_fin hU re N σ I he
  | x :: xs => fun hm re hr N σ I he => by
    rw [mayL, Bool.and_eq_true] at hm
    have e0 := (k_runL (OP := OP) (s := s) (x :: xs) re).none he
    have n1 : ¬ σ.err.isSome = true := by rw [e0]; simp
    have n2 : ¬ (tr U σ).err.isSome = true := n1
    rw [LS.runL, if_neg n1] at he
    rw [LS.runL, LS.runL, if_neg n2, if_neg n1]
    exact ((s_instr hU hs hR hOP x hm.1).comp (s_runL hU hs hR hOP xs hm.2 re hr) (g_instr (OP := OP) hR x) (k_runL xs re)) N σ I he
end
end

/-! ### What is alike -/
theorem sim_id : Sim fun l => l where
  last := fun _ b h => ⟨b, h, rfl, fun h => h⟩
  snoc := fun _ _ _ => rfl
  nv := fun _ _ => rfl
  drop := fun _ _ => rfl
  lbl := fun _ _ h => ⟨h, rfl⟩
theorem setNv_cons (B : Blk) {l : List Blk} (h : l ≠ []) : setNv (B :: l) = B :: setNv l := by
  cases l with
  | nil => exact absurd rfl h
  | cons b l => rfl
/-- One more block, around all. -/
theorem sim_cons (B : Blk) : Sim fun l => B :: l where
  last := fun l b h => ⟨b, by
    cases l with
    | nil => cases h
    | cons x l => simpa using h, rfl, fun h => h⟩
  snoc := fun _ _ _ => rfl
  nv := fun l h => (setNv_cons B h).symm
  drop := fun l h => by
    cases l with
    | nil => exact absurd rfl h
    | cons x l => rfl
  lbl := fun l n h => ⟨by simp; omega, by
    have e : (B :: l).length - 1 - n = (l.length - 1 - n) + 1 := by simp; omega
    rw [e, List.getElem?_cons_succ]⟩
/-- The outermost block never goes on. -/
def nv0 : List Blk → List Blk
  | [] => []
  | b :: l => { b with nv := true } :: l
theorem sim_nv0 : Sim nv0 where
  last := fun l b h => by
    match l, h with
    | [x], h =>
      simp only [List.getLast?_singleton, Option.some.injEq] at h
      subst h
      exact ⟨{ x with nv := true }, rfl, rfl, fun _ => rfl⟩
    | x :: y :: l, h => exact ⟨b, by simpa [nv0] using h, rfl, fun h => h⟩
  snoc := fun l b h => by
    cases l with
    | nil => exact absurd rfl h
    | cons x l => rfl
  nv := fun l h => by
    match l, h with
    | [x], _ => rfl
    | x :: y :: l, _ => rfl
  drop := fun l h => by
    match l, h with
    | [x], _ => rfl
    | x :: y :: l, _ => rfl
  lbl := fun l n h => by
    match l, h with
    | x :: l, h =>
      refine ⟨h, ?_⟩
      show (({ x with nv := true } :: l : List Blk)[(x :: l).length - 1 - n]?).map (·.lab) = ((x :: l)[(x :: l).length - 1 - n]?).map (·.lab)
      cases (x :: l).length - 1 - n with
      | zero => rfl
      | succ k => rfl
end Go.Proofs.Am


namespace Go.Proofs.Am
open Go

def hts (σ : LS) : List Nat := σ.blk.map (·.ht)
def Same (F : LS → LS) : Prop := ∀ σ : LS, (F σ).err = none → hts (F σ) = hts σ
theorem h_id : Same fun σ => σ := fun _ _ => rfl
theorem Same.comp {F G : LS → LS} (h : Same F) (k : Same G) (hk : Keeps G) : Same fun σ => G (F σ) := fun σ he => (k _ he).trans (h σ (hk.none he))
theorem h_fail (c : Int) : Same (LS.fail c) := fun σ he => absurd he (fail_some c σ)
theorem h_take (w : Int) : Same fun σ => (σ.take w).1 := fun σ _ => by unfold hts; rw [take_blk]
theorem h_all (ts : List Int) : Same (LS.all ts) := fun σ _ => by unfold hts; rw [all_blk]
theorem h_give (ts : List Int) : Same (LS.give ts) := fun _ _ => rfl
theorem h_stop : Same LS.stop := fun σ _ => by
  unfold LS.stop
  split
  · rfl
  · exact setNv_hts _
theorem h_ite {F G : LS → LS} (p : Prop) [Decidable p] (h : Same F) (k : Same G) : Same fun σ => if p then F σ else G σ := fun σ he => by
  by_cases hp : p
  · simp only [if_pos hp] at he ⊢; exact h σ he
  · simp only [if_neg hp] at he ⊢; exact k σ he
theorem h_table (l : List Int) : Same (LS.table l) := fun σ => by
  unfold LS.table
  split
  · exact fun he => absurd he (fail_some 5 σ)
  · rename_i ts _
    exact ((((h_ite (ts.any (· ≠ ts.getLastD []) = true) (h_fail 4) h_id).comp (h_take 1) (k_take 1)).comp (h_all _) (k_all _)).comp h_stop k_stop) σ
theorem h_thr (q : Bool) : Same (LS.thr q) := by
  cases q with
  | false => exact h_id
  | true => exact h_take 1
section
variable {s : Scp}
theorem h_jump (o a : Int) (l : List Int) : Same (LS.jump s o a l) := fun σ => by
  unfold LS.jump
  split
  · exact ((h_all _).comp h_stop k_stop) σ
  · split
    · exact h_table l σ
    · split
      · exact fun he => absurd he (fail_some 5 σ)
      · rename_i t _
        split
        · exact (((h_take 1).comp (h_all t) (k_all t)).comp (h_give t) (k_give t)) σ
        · exact ((h_all t).comp h_stop k_stop) σ
theorem h_callT (thr : Bool) (n : Int) : Same (LS.callT s thr n) := fun σ => by
  unfold LS.callT
  split
  · exact fun he => absurd he (fail_some 5 σ)
  · split
    · exact fun _ => rfl
    · rename_i t _
      exact ((((h_ite (1 < t.r.length) (h_fail 4) h_id).comp (h_thr thr) (k_thr thr)).comp (h_all t.p) (k_all t.p)).comp (h_give t.r) (k_give t.r)) σ
theorem h_call (o a : Int) : Same (LS.call s o a) := fun σ => by
  unfold LS.call
  split
  · split
    · exact fun he => absurd he (fail_some 5 σ)
    · split
      · exact fun _ => rfl
      · exact h_callT _ _ σ
  · exact h_callT _ _ σ
theorem h_any (o : Int) : Same (LS.any o) := fun σ => by
  unfold LS.any
  split
  · exact h_take (-1) σ
  · intro _
    unfold hts LS.sel
    simp only [give_blk, take_blk]
theorem h_varT (o t : Int) (q : Bool) : Same (LS.varT o t q) := fun σ => by
  unfold LS.varT
  split
  · exact fun _ => rfl
  · split
    · exact ((h_take t).comp (h_give [t]) (k_give [t])) σ
    · exact ((h_ite (q = false ∧ o = 36) (h_fail 4) h_id).comp (h_take t) (k_take t)) σ
theorem h_var (o a : Int) : Same (LS.var s o a) := fun σ => by
  unfold LS.var
  split
  · split
    · split
      · exact fun _ => rfl
      · exact h_varT _ _ _ σ
    · exact fun he => absurd he (fail_some 5 σ)
  · split
    · split
      · exact fun _ => rfl
      · exact h_varT _ _ _ σ
    · exact fun he => absurd he (fail_some 5 σ)
theorem h_plain (r : OpR) (a : Int) : Same (LS.plain s r a) := fun σ => by
  unfold LS.plain
  split
  · exact fun he => absurd he (fail_some 5 σ)
  · exact (((h_ite ((r.kind = 7 ∨ r.kind = 8) ∧ (3 < a ∨ r.bytes < (2 : Int) ^ a.toNat)) (h_fail 4) h_id).comp (h_all r.takes) (k_all r.takes)).comp (h_give [r.gives]) (k_give [r.gives])) σ
theorem h_cond (o t : Int) (q : Bool) : Same (LS.cond o t q) := fun σ => by
  unfold LS.cond
  split
  · split
    · exact fun he => absurd he (fail_some 4 _)
    · exact h_take 1 σ
  · exact fun _ => rfl
theorem h_fin (res : List Int) {σ : LS} (hne : σ.blk ≠ []) : hts (σ.fin res) = (hts σ).dropLast := by
  unfold hts
  rw [fin_blk res hne, List.map_dropLast]
variable {OP : Int → Option OpR}
/-- A list's end: what stood ahead of its last step. -/
def EndL (OP : Int → Option OpR) (s : Scp) (xs : List Ins) : Prop := ∀ (re : List Int) (σ : LS), σ.blk ≠ [] → (LS.runL OP s xs re σ).err = none → ∃ σ', LS.runL OP s xs re σ = σ'.fin re ∧ hts σ' = hts σ
theorem ne_hts {σ τ : LS} (h : hts σ = hts τ) (hne : τ.blk ≠ []) : σ.blk ≠ [] := fun e => by
  unfold hts at h
  rw [e] at h
  exact hne (List.map_eq_nil_iff.1 h.symm)
theorem h_codeC {xs : List Ins} (h : EndL OP s xs) (la re : List Int) : Same (codeC OP s xs la re) := fun σ he => by
  have e0 := (k_codeC (OP := OP) (s := s) la re).none he
  have n1 : ¬ σ.err.isSome = true := by rw [e0]; simp
  unfold codeC at he ⊢
  rw [if_neg n1] at he ⊢
  obtain ⟨σ', e1, e2⟩ := h re (σ.push la re) (by simp [LS.push]) he
  rw [e1, h_fin re (ne_hts e2 (by simp [LS.push])), e2]
  simp [hts, LS.push]
theorem h_endC {el : List Ins} (h : EndL OP s el) (t : Int) (q : Bool) : Same (endC OP s t q el) := fun σ => by
  unfold endC
  split
  · exact ((h_all (rsl t)).comp (h_codeC h (rsl t) (rsl t)) (k_codeC _ _)) σ
  · exact fun _ => rfl
mutual
theorem h_instr : ∀ x : Ins, Same (LS.instr OP s x)
  | .mk o a b v t l bd el q => fun σ => by
    have hb := h_runL bd
    have hl := h_runL el
    cases hop : OP o with
    | none => rw [instr_no hop]; exact fun he => absurd he (fail_some 1 σ)
    | some r =>
      rw [instr_is hop]
      split
      · split
        · exact h_codeC hb _ _ σ
        · exact (((h_cond o t q).comp (h_codeC hb (rsl t) (rsl t)) (k_codeC _ _)).comp (h_endC hl t q) k_endC) σ
      · split
        · exact h_jump o a l σ
        · split
          · exact h_call o a σ
          · split
            · exact h_any o σ
            · split
              · exact h_var o a σ
              · split
                · exact h_stop σ
                · exact h_plain r a σ
theorem h_runL : ∀ xs : List Ins, EndL OP s xs
  | [] => fun re σ _ _ => ⟨σ, by rw [LS.runL], rfl⟩
  | x :: xs => fun re σ hne he => by
    have hx := h_instr x
    have hxs := h_runL xs
    have e0 := (k_runL (OP := OP) (s := s) (x :: xs) re).none he
    have n1 : ¬ σ.err.isSome = true := by rw [e0]; simp
    rw [LS.runL, if_neg n1] at he ⊢
    have e1 := hx σ ((k_runL xs re).none he)
    obtain ⟨σ', e2, e3⟩ := hxs re _ (ne_hts e1 hne) he
    exact ⟨σ', e2, e3.trans e1⟩
end
/-- What is left of code that fits, without a block around it. -/
theorem run_left {xs : List Ins} {re : List Int} {σ : LS} (h : hts σ = [0]) (he : (LS.runL OP s xs re σ).err = none) : (LS.runL OP s xs re σ).blk = [] ∧ (LS.runL OP s xs re σ).row = re.filter (· ≠ 0) := by
  have hne : σ.blk ≠ [] := fun e => by unfold hts at h; rw [e] at h; cases h
  obtain ⟨σ', e1, e2⟩ := h_runL xs re σ hne he
  have hne' := ne_hts e2 hne
  rw [e1] at he ⊢
  have hb : (σ'.all re).blk = σ'.blk := all_blk re σ'
  unfold hts at e2 h
  rw [h] at e2
  unfold LS.fin at he ⊢
  generalize σ'.all re = τ at he hb ⊢
  rw [← hb] at e2
  obtain ⟨b, hbl⟩ : ∃ b, τ.blk = [b] := by
    match hq : τ.blk, e2 with
    | [b], _ => exact ⟨b, rfl⟩
    | [], e2 => cases e2
    | _ :: _ :: _, e2 => simp at e2
  have hht : b.ht = 0 := by rw [hbl] at e2; simpa using e2
  have hl : τ.blk.getLast? = some b := by rw [hbl]; rfl
  unfold LS.fin1 at he ⊢
  rw [hl] at he ⊢
  simp only at he ⊢
  have heq : τ.row.length = b.ht := by
    apply Classical.byContradiction
    intro hn
    rw [if_neg hn] at he
    exact fail_some 4 τ he
  rw [if_pos heq]
  have hr : τ.row = [] := List.length_eq_zero_iff.1 (by omega)
  refine ⟨?_, ?_⟩
  · simp only [LS.fin2, give_blk, hbl]
    rfl
  · simp only [LS.fin2, give_row, hr, List.take_nil, List.nil_append]
end
/-- Its result, taken by the block around it. -/
theorem fin_fits (t : Int) (B : Blk) (h : B.ht = 0) : (LS.fin (rsl t) ⟨(rsl t).filter (· ≠ 0), [B], none⟩).err = none := by
  unfold rsl
  by_cases ht : t = 0
  · simp [ht, LS.fin, LS.all, LS.fin1, LS.fin2, LS.give, h]
  · simp [ht, LS.fin, LS.all, LS.take, LS.fin1, LS.fin2, LS.give, h]
end Go.Proofs.Am
