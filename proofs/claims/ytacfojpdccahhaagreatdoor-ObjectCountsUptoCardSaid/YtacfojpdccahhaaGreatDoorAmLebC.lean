/-
  Numbers of seven-bit digits: the fewest digits that are read as a number, with a sign or without one.
-/
import Derived.Test.YtacfojpdccahhaaGreatDoorAmMod
import Derived.Laws.BitsLemmas
namespace Go.Proofs.Am
open Go Go.RowKit
theorem ltZ_t {a b : Int} (h : a < b) : ltZ a b = true := by rw [ltZ_eq]; exact decide_eq_true h
theorem ltZ_f {a b : Int} (h : b ≤ a) : ltZ a b = false := by rw [ltZ_eq]; exact decide_eq_false (by omega)
theorem eqZ_t {a b : Int} (h : a = b) : eqZ a b = true := by rw [eqZ_eq, h]; exact beq_self_eq_true b
theorem ofN (n : Nat) : (Int.ofNat n) = (n : Int) := rfl
theorem wrapI {i : Int} (h : InZ i) : IntKind.wrap .i64 i = i := by
 rw [IntKind.wrap_i64]
 unfold InZ at h
 omega
theorem wrapS {n : Nat} (h : n + 1 < 9223372036854775808) : IntKind.wrap .i64 (Int.ofNat (Nat.succ n)) = Int.ofNat (n + 1) :=
 wrapI (by unfold InZ; rw [ofN]; omega)
theorem ix_map {A : Type} {f : A → List AV} {l : List A} {i n : Nat} {x : A} (h : l[i]? = some x) (hn : (f x).length = n) : ixA (.imm (l.map f)) (Int.ofNat i) n = some (f x) := by
 have h0 : (0 : Int) ≤ Int.ofNat i := Int.natCast_nonneg i
 simp only [ixA, decide_eq_true h0, cond_true, List.getElem?_map]
 rw [show (Int.ofNat i).toNat = i from rfl, h]
 simp only [Option.map_some, Option.bind_some, hn, Nat.beq_refl, cond_true]
theorem ap_owned {n b : Nat} {out ys : List (List AV)} (hf : fitE n ys = true) (hr : (out.length + ys.length) * b ≤ 140737488355328) (hb : 0 < b) : apL (.ow n out) n b ys = some (.ow n (out ++ ys)) := by
 have h1 : roomW (out.length + ys.length) b = true := by
  unfold roomW
  rw [Bool.and_eq_true, Bool.or_eq_true]
  exact ⟨.inl (Nat.ble_eq_true_of_le hr), Nat.ble_eq_true_of_le hb⟩
 simp only [apL, Nat.beq_refl, hf, h1, Bool.and_self, cond_true]
theorem reach_eq : reachBytes = 140737488351232 := rfl
theorem FitL.lt {A : Type} {n : Nat} {F : A → Prop} {l : List A} (h : FitL n F l) (hn : 0 < n) : l.length < 9223372036854775807 := by
 have := Nat.le_trans (Nat.le_mul_of_pos_right l.length hn) h.1
 rw [reach_eq] at this
 omega
end Go.Proofs.Am
namespace Go.Proofs.Am
open Go
def uB : Nat → Nat → List Nat
 | 0, _ => []
 | k + 1, v => if v < 128 then [v] else (v % 128 + 128) :: uB k (v / 128)
def dgB (v n : Nat) : List Nat := (List.range n).map fun i => v / 128 ^ i % 128 + if i + 1 < n then 128 else 0
def bits7 (x : Nat) : List Nat := [x % 2, x / 2 % 2, x / 4 % 2, x / 8 % 2, x / 16 % 2, x / 32 % 2, x / 64 % 2]
def bitsL (v n : Nat) : List Nat := ((List.range n).map fun i => bits7 (v / 128 ^ i % 128)).flatten
def vDn (x : Nat → Nat) : Nat → Nat
 | 0 => 0
 | k + 1 => vDn x k * 2 + x (63 - k)
theorem fewest {v : Nat} : ∀ k, v < 128 ^ (k + 1) → ∃ n, n ≤ k ∧ v < 128 ^ (n + 1) ∧ (n = 0 ∨ 128 ^ n ≤ v)
 | 0, h => ⟨0, Nat.le_refl _, h, .inl rfl⟩
 | k + 1, h => by
  by_cases h1 : v < 128 ^ (k + 1)
  ·obtain ⟨n, h2, h3, h4⟩ := fewest k h1
   exact ⟨n, by omega, h3, h4⟩
  ·exact ⟨k + 1, Nat.le_refl _, h, .inr (by omega)⟩
end Go.Proofs.Am
namespace Go.Proofs.Am
open Go
def valD : List Nat → Nat
 | [] => 0
 | x :: xs => x + 128 * valD xs
def digN (bs : List Nat) : Nat → Nat → Option (List Nat × Nat)
 | 0, _ => none
 | k + 1, p => match bs[p]? with
  | none => none
  | some x => if x < 128 then some ([x], p + 1) else (digN bs k (p + 1)).map fun r => (x % 128 :: r.1, r.2)
def bitsF (d : List Nat) : List Nat := (d.map bits7).flatten
def moreF (l : List Nat) (b : Nat) (sg : Bool) : Nat := if sg then (if b < l.length then l.getD (b - 1) 0 else l.getD (l.length - 1) 0) else 0
def readF (l : List Nat) (b : Nat) (sg : Bool) : Option Nat :=
 if (l.drop b).all (fun x => x == moreF l b sg) then some (vDn (fun i => if i < l.length ∧ i < b then l.getD i 0 else moreF l b sg) 64) else none
def sxt (V k : Nat) : Int := if 2 * V < 2 ^ k then (V : Int) else (V : Int) - (2 : Int) ^ k
def rdU (V b : Nat) : Option Nat := if V < 2 ^ b then some V else none
def rdS (V n b : Nat) : Option Nat := if 7 * n ≤ b ∨ (-((2 : Int) ^ (b - 1)) ≤ sxt V (7 * n) ∧ sxt V (7 * n) < (2 : Int) ^ (b - 1)) then some (sxt V (7 * n) % (2 : Int) ^ 64).toNat else none
end Go.Proofs.Am
namespace Go.Proofs.Am
open Go
structure Scp where
 ty : List FTy
 fn : List Int
 gl : List Glo
 tb : Bool
 mm : Bool
 lo : List Int
 re : Int
def Scp.enc (s : Scp) : List AV := [.imm (s.ty.map FTy.enc), .imm (encN s.fn), .imm (s.gl.map Glo.enc), .bool s.tb, .bool s.mm, .imm (encN s.lo), .int .i64 s.re]
structure Blk where
 lab : List Int
 res : List Int
 ht : Nat
 nv : Bool
structure LS where
 row : List Int
 blk : List Blk
 err : Option Int
structure OpR where
 byte : Int
 nm : ByteArray
 kind : Int
 takes : List Int
 gives : Int
 bytes : Int
 sg : Bool
def rsl (t : Int) : List Int := if t = 0 then [] else [t]
def LS.fail (c : Int) (σ : LS) : LS := if σ.err = none then { σ with err := some c } else σ
def LS.take (w : Int) (σ : LS) : LS × Int :=
 match σ.blk.getLast? with
 | none => (σ, w)
 | some b =>
  if σ.row.length = b.ht then (if b.nv then (σ, w) else (σ.fail 4, w))
  else match σ.row.getLast? with
   | none => (σ, w)
   | some got =>
    (if got ≠ w ∧ got ≠ -1 ∧ w ≠ -1 then ({ σ with row := σ.row.dropLast } : LS).fail 4 else { σ with row := σ.row.dropLast }, if got = -1 then w else got)
def LS.all : List Int → LS → LS
 | [], σ => σ
 | t :: ts, σ => ((LS.all ts σ).take t).1
def LS.give (ts : List Int) (σ : LS) : LS := { σ with row := σ.row ++ ts.filter (· ≠ 0) }
def setNv : List Blk → List Blk
 | [] => []
 | [b] => [{ b with nv := true }]
 | b :: c :: bs => b :: setNv (c :: bs)
def LS.stop (σ : LS) : LS :=
 match σ.blk.getLast? with
 | none => σ
 | some b => { σ with row := σ.row.take b.ht, blk := setNv σ.blk }
def LS.lbl (n : Int) (σ : LS) : Option (List Int) := if n < σ.blk.length then (σ.blk[σ.blk.length - 1 - n.toNat]?).map (·.lab) else none
def LS.push (lab res : List Int) (σ : LS) : LS := { σ with blk := σ.blk ++ [⟨lab, res, σ.row.length, false⟩] }
def LS.fin2 (res : List Int) (b : Blk) (σ : LS) : LS := LS.give res { σ with row := σ.row.take (min b.ht σ.row.length), blk := σ.blk.dropLast }
def LS.fin1 (res : List Int) (σ : LS) : LS :=
 match σ.blk.getLast? with
 | none => σ
 | some b => LS.fin2 res b (if σ.row.length = b.ht then σ else σ.fail 4)
def LS.fin (res : List Int) (σ : LS) : LS := LS.fin1 res (σ.all res)
def LS.tbl : List Int → List (List Int) → LS → Option (List (List Int))
 | [], acc, _ => some acc
 | n :: ns, acc, σ => match σ.lbl n with
  | none => none
  | some t => LS.tbl ns (acc ++ [t]) σ
def LS.table (l : List Int) (σ : LS) : LS :=
 match σ.tbl l [] with
 | none => σ.fail 5
 | some ts => (((if ts.any (· ≠ ts.getLastD []) then σ.fail 4 else σ).take 1).1.all (ts.getLastD [])).stop
def LS.jump (s : Scp) (o a : Int) (l : List Int) (σ : LS) : LS :=
 if o = 15 then (σ.all (rsl s.re)).stop
 else if o = 14 then σ.table l
 else match σ.lbl a with
  | none => σ.fail 5
  | some t => if o = 13 then ((σ.take 1).1.all t).give t else (σ.all t).stop
def LS.thr (q : Bool) (σ : LS) : LS := if q then (σ.take 1).1 else σ
def LS.callT (s : Scp) (thr : Bool) (n : Int) (σ : LS) : LS :=
 if n < 0 ∨ (s.ty.length : Int) ≤ n ∨ (thr = true ∧ s.tb = false) then σ.fail 5
 else match s.ty[n.toNat]? with
  | none => σ
  | some t => LS.give t.r (LS.all t.p (LS.thr thr (if 1 < t.r.length then σ.fail 4 else σ)))
def LS.call (s : Scp) (o a : Int) (σ : LS) : LS :=
 if o = 16 then (if (s.fn.length : Int) ≤ a then σ.fail 5 else match s.fn[a.toNat]? with | none => σ | some n => σ.callT s false n)
 else σ.callT s true a
def LS.sel (p : LS × Int) : LS := (p.1.take p.2).1.give [(p.1.take p.2).2]
def LS.any (o : Int) (σ : LS) : LS :=
 if o = 26 then (σ.take (-1)).1
 else LS.sel ((σ.take 1).1.take (-1))
def LS.varT (o t : Int) (may : Bool) (σ : LS) : LS :=
 if o = 32 ∨ o = 35 then σ.give [t]
 else if o = 34 then (σ.take t).1.give [t]
 else ((if may = false ∧ o = 36 then σ.fail 4 else σ).take t).1
def LS.var (s : Scp) (o a : Int) (σ : LS) : LS :=
 if o < 35 then (if a < s.lo.length then match s.lo[a.toNat]? with | none => σ | some t => σ.varT o t true else σ.fail 5)
 else if a < s.gl.length then match s.gl[a.toNat]? with | none => σ | some g => σ.varT o g.t g.mu else σ.fail 5
def LS.plain (s : Scp) (r : OpR) (a : Int) (σ : LS) : LS :=
 if (r.kind = 7 ∨ r.kind = 8 ∨ r.kind = 9) ∧ s.mm = false then σ.fail 5
 else ((if (r.kind = 7 ∨ r.kind = 8) ∧ (3 < a ∨ r.bytes < (2 : Int) ^ a.toNat) then σ.fail 4 else σ).all r.takes).give [r.gives]
def LS.cond (o t : Int) (q : Bool) (σ : LS) : LS := if o = 4 then (if q = false ∧ t ≠ 0 then (σ.take 1).1.fail 4 else (σ.take 1).1) else σ
section
variable (OP : Int → Option OpR) (s : Scp)
mutual
def LS.instr : Ins → LS → LS
 | .mk o a _ _ t l bd el q, σ =>
  match OP o with
  | none => σ.fail 1
  | some r =>
   if r.kind = 2 then
    (if o = 3 then (if σ.err.isSome then σ else LS.runL bd (rsl t) (σ.push [] (rsl t)))
     else
     let σ1 := LS.cond o t q σ
     let σ2 := if σ1.err.isSome then σ1 else LS.runL bd (rsl t) (σ1.push (rsl t) (rsl t))
     if q = true ∧ σ2.err = none then
      (if (σ2.all (rsl t)).err.isSome then σ2.all (rsl t) else LS.runL el (rsl t) ((σ2.all (rsl t)).push (rsl t) (rsl t)))
     else σ2)
   else if r.kind = 3 then σ.jump s o a l
   else if r.kind = 4 then σ.call s o a
   else if r.kind = 5 then σ.any o
   else if r.kind = 6 then σ.var s o a
   else if o = 0 then σ.stop
   else σ.plain s r a
def LS.runL : List Ins → List Int → LS → LS
 | [], res, σ => σ.fin res
 | x :: xs, res, σ => if σ.err.isSome then σ else LS.runL xs res (LS.instr x σ)
end
def LS.code (l : List Ins) (lab res : List Int) (σ : LS) : LS := if σ.err.isSome then σ else LS.runL OP s l res (σ.push lab res)
end
end Go.Proofs.Am
namespace Go.Proofs.Am
open Go
structure WF (σ : LS) : Prop where
 ne : σ.blk ≠ []
 le : ∀ b, b ∈ σ.blk → b.ht ≤ σ.row.length
 srt : σ.blk.Pairwise fun a b => a.ht ≤ b.ht
theorem last_of {l : List Blk} (h : l ≠ []) : ∃ b, l.getLast? = some b ∧ l = l.dropLast ++ [b] := by
 refine ⟨l.getLast h, List.getLast?_eq_some_getLast h, ?_⟩
 exact (List.dropLast_concat_getLast h).symm
theorem srt_last {l : List Blk} (hs : l.Pairwise fun a b => a.ht ≤ b.ht) {b : Blk} (hb : l.getLast? = some b) : ∀ c, c ∈ l → c.ht ≤ b.ht := by
 intro c hc
 have hne : l ≠ [] := by rintro rfl; cases hc
 obtain ⟨b', h1, h2⟩ := last_of hne
 rw [hb] at h1
 cases h1
 rw [h2] at hs hc
 rw [List.pairwise_append] at hs
 rcases List.mem_append.1 hc with h | h
 ·exact hs.2.2 c h b (by simp)
 ·simp at h; subst h; exact Nat.le_refl _
theorem fail_row (c : Int) (σ : LS) : (σ.fail c).row = σ.row := by unfold LS.fail; split <;> rfl
theorem fail_blk (c : Int) (σ : LS) : (σ.fail c).blk = σ.blk := by unfold LS.fail; split <;> rfl
theorem WF.fail {σ : LS} (h : WF σ) (c : Int) : WF (σ.fail c) := ⟨by rw [fail_blk]; exact h.ne, by rw [fail_blk, fail_row]; exact h.le, by rw [fail_blk]; exact h.srt⟩
theorem take_blk (w : Int) (σ : LS) : (σ.take w).1.blk = σ.blk := by
 unfold LS.take
 split
 ·rfl
 ·split
  ·split <;> simp [fail_blk]
  ·split
   ·rfl
   ·simp only; split <;> simp [fail_blk]
theorem WF.take {σ : LS} (h : WF σ) (w : Int) : WF (σ.take w).1 := by
 obtain ⟨b, hb, hl⟩ := last_of h.ne
 have hlt : ∀ c, c ∈ σ.blk → c.ht ≤ b.ht := srt_last h.srt hb
 have hbm : b ∈ σ.blk := List.mem_of_getLast? hb
 refine ⟨by rw [take_blk]; exact h.ne, fun c hc => ?_, by rw [take_blk]; exact h.srt⟩
 rw [take_blk] at hc
 have h1 := h.le c hc
 have h2 := hlt c hc
 have h3 := h.le b hbm
 unfold LS.take
 rw [hb]
 simp only
 split
 ·split
  ·exact h1
  ·rw [fail_row]; exact h1
 ·split
  ·exact h1
  ·simp only
   split
   ·rw [fail_row, List.length_dropLast]; omega
   ·simp only [List.length_dropLast]; omega
theorem all_blk : ∀ (ts : List Int) (σ : LS), (σ.all ts).blk = σ.blk
 | [], _ => rfl
 | t :: ts, σ => by rw [LS.all, take_blk, all_blk ts]
theorem WF.all {σ : LS} (h : WF σ) : ∀ ts : List Int, WF (σ.all ts)
 | [] => h
 | t :: ts => (WF.all h ts).take t
theorem give_row (ts : List Int) (σ : LS) : (σ.give ts).row = σ.row ++ ts.filter (· ≠ 0) := rfl
theorem WF.give {σ : LS} (h : WF σ) (ts : List Int) : WF (σ.give ts) := ⟨h.ne, fun b hb => by have := h.le b hb; rw [give_row, List.length_append]; omega, h.srt⟩
theorem setNv_hts : ∀ l : List Blk, (setNv l).map (·.ht) = l.map (·.ht)
 | [] => rfl
 | [_] => rfl
 | b :: c :: l => by rw [setNv, List.map_cons, setNv_hts (c :: l)]; rfl
theorem srt_map {l k : List Blk} (h : l.map (·.ht) = k.map (·.ht)) (hs : k.Pairwise fun a b => a.ht ≤ b.ht) : l.Pairwise fun a b => a.ht ≤ b.ht := by
 have h1 : (k.map (·.ht)).Pairwise (· ≤ ·) := List.pairwise_map.2 hs
 rw [← h] at h1
 exact List.pairwise_map.1 h1
theorem setNv_len (l : List Blk) : (setNv l).length = l.length := by
 have := congrArg List.length (setNv_hts l)
 simpa using this
theorem WF.stop {σ : LS} (h : WF σ) : WF σ.stop := by
 obtain ⟨b, hb, hl⟩ := last_of h.ne
 have hlt : ∀ c, c ∈ σ.blk → c.ht ≤ b.ht := srt_last h.srt hb
 have hbm : b ∈ σ.blk := List.mem_of_getLast? hb
 have h3 := h.le b hbm
 unfold LS.stop
 rw [hb]
 refine ⟨?_, fun c hc => ?_, srt_map (setNv_hts _) h.srt⟩
 ·intro e
  have := congrArg List.length e
  simp only [setNv_len, List.length_nil, List.length_eq_zero_iff] at this
  exact h.ne this
 ·have h4 : c.ht ∈ (setNv σ.blk).map (·.ht) := List.mem_map.2 ⟨c, hc, rfl⟩
  rw [setNv_hts] at h4
  obtain ⟨d, hd, e⟩ := List.mem_map.1 h4
  have := hlt d hd
  simp only [List.length_take]; omega
theorem WF.push {σ : LS} (h : WF σ) (lab res : List Int) : WF (σ.push lab res) := by
 refine ⟨by simp [LS.push], fun b hb => ?_, ?_⟩
 ·simp only [LS.push, List.mem_append, List.mem_singleton] at hb
  rcases hb with hb | rfl
  ·exact h.le b hb
  ·exact Nat.le_refl _
 ·simp only [LS.push, List.pairwise_append]
  exact ⟨h.srt, by simp, fun a ha b hb => by simp at hb; subst hb; exact h.le a ha⟩
structure WF0 (σ : LS) : Prop where
 le : ∀ b, b ∈ σ.blk → b.ht ≤ σ.row.length
 srt : σ.blk.Pairwise fun a b => a.ht ≤ b.ht
theorem fin1_blk (res : List Int) {σ : LS} (h : σ.blk ≠ []) : (σ.fin1 res).blk = σ.blk.dropLast := by
 obtain ⟨b, hb, _⟩ := last_of h
 unfold LS.fin1
 rw [hb]
 simp only [LS.fin2, LS.give]
 split
 ·rfl
 ·rw [fail_blk]
theorem fin_blk (res : List Int) {σ : LS} (h : σ.blk ≠ []) : (σ.fin res).blk = σ.blk.dropLast := by
 unfold LS.fin
 rw [fin1_blk res (by rw [all_blk]; exact h), all_blk]
theorem WF.fin {σ : LS} (h : WF σ) (res : List Int) : WF0 (σ.fin res) := by
 have h1 := h.all res
 refine ⟨fun c hc => ?_, by rw [fin_blk res h.ne]; exact h.srt.sublist (List.dropLast_sublist _)⟩
 rw [fin_blk res h.ne] at hc
 have hcm : c ∈ (σ.all res).blk := by rw [all_blk]; exact List.dropLast_subset _ hc
 obtain ⟨b, hb, hl⟩ := last_of h1.ne
 have h4 := srt_last h1.srt hb c hcm
 have h3 := h1.le b (List.mem_of_getLast? hb)
 unfold LS.fin LS.fin1
 rw [hb]
 simp only [LS.fin2, give_row, List.length_append, List.length_take]
 split
 ·omega
 ·rw [fail_row]; omega
end Go.Proofs.Am
namespace Go.Proofs.Am
open Go
structure Inv (N : Nat) (σ : LS) : Prop where
 wf : WF σ
 lab : ∀ b, b ∈ σ.blk → b.lab.length ≤ 1
 sz : σ.row.length + σ.blk.length ≤ N
variable {N : Nat} {σ : LS}
theorem Inv.mono (h : Inv N σ) {M : Nat} (hM : N ≤ M) : Inv M σ := ⟨h.wf, h.lab, Nat.le_trans h.sz hM⟩
theorem Inv.fail (h : Inv N σ) (c : Int) : Inv N (σ.fail c) := ⟨h.wf.fail c, by rw [fail_blk]; exact h.lab, by rw [fail_blk, fail_row]; exact h.sz⟩
theorem take_len (w : Int) (σ : LS) : (σ.take w).1.row.length ≤ σ.row.length := by
 unfold LS.take
 split
 ·exact Nat.le_refl _
 ·split
  ·split
   ·exact Nat.le_refl _
   ·rw [fail_row]; exact Nat.le_refl _
  ·split
   ·exact Nat.le_refl _
   ·simp only
    split
    ·rw [fail_row, List.length_dropLast]; omega
    ·simp only [List.length_dropLast]; omega
theorem all_len : ∀ (ts : List Int) (σ : LS), (σ.all ts).row.length ≤ σ.row.length
 | [], _ => Nat.le_refl _
 | t :: ts, σ => Nat.le_trans (take_len t _) (all_len ts σ)
theorem Inv.take (h : Inv N σ) (w : Int) : Inv N (σ.take w).1 := ⟨h.wf.take w, by rw [take_blk]; exact h.lab, by rw [take_blk]; exact Nat.le_trans (Nat.add_le_add_right (take_len w σ) _) h.sz⟩
theorem Inv.all (h : Inv N σ) (ts : List Int) : Inv N (σ.all ts) := ⟨h.wf.all ts, by rw [all_blk]; exact h.lab, by rw [all_blk]; exact Nat.le_trans (Nat.add_le_add_right (all_len ts σ) _) h.sz⟩
theorem give_blk (ts : List Int) (σ : LS) : (σ.give ts).blk = σ.blk := rfl
theorem Inv.give (h : Inv N σ) (ts : List Int) : Inv (N + ts.length) (σ.give ts) := ⟨h.wf.give ts, h.lab, by
 have := List.length_filter_le (· ≠ 0) ts
 have := h.sz
 rw [give_row, give_blk, List.length_append]
 omega⟩
theorem setNv_lab : ∀ l : List Blk, (setNv l).map (·.lab) = l.map (·.lab)
 | [] => rfl
 | [_] => rfl
 | b :: c :: l => by rw [setNv, List.map_cons, setNv_lab (c :: l)]; rfl
theorem stop_lab (σ : LS) : σ.stop.blk.map (·.lab) = σ.blk.map (·.lab) := by
 unfold LS.stop
 split
 ·rfl
 ·exact setNv_lab _
theorem Inv.stop (h : Inv N σ) : Inv N σ.stop := by
 refine ⟨h.wf.stop, fun b hb => ?_, ?_⟩
 ·have h1 : b.lab ∈ σ.stop.blk.map (·.lab) := List.mem_map.2 ⟨b, hb, rfl⟩
  rw [stop_lab] at h1
  obtain ⟨c, hc, e⟩ := List.mem_map.1 h1
  rw [← e]; exact h.lab c hc
 ·have h1 := congrArg List.length (stop_lab σ)
  rw [List.length_map, List.length_map] at h1
  have h2 : σ.stop.row.length ≤ σ.row.length := by
   unfold LS.stop
   split
   ·exact Nat.le_refl _
   ·simp only [List.length_take]; omega
  have := h.sz
  omega
theorem Inv.push (h : Inv N σ) {lab : List Int} (hl : lab.length ≤ 1) (res : List Int) : Inv (N + 1) (σ.push lab res) := by
 refine ⟨h.wf.push lab res, fun b hb => ?_, ?_⟩
 ·simp only [LS.push, List.mem_append, List.mem_singleton] at hb
  rcases hb with hb | rfl
  ·exact h.lab b hb
  ·exact hl
 ·have := h.sz
  simp only [LS.push, List.length_append, List.length_singleton]
  omega
theorem rsl_len (t : Int) : (rsl t).length ≤ 1 := by unfold rsl; split <;> simp
theorem lbl_mem {n : Int} {t : List Int} (h : σ.lbl n = some t) : ∃ b, b ∈ σ.blk ∧ b.lab = t := by
 unfold LS.lbl at h
 split at h
 ·obtain ⟨b, hb, e⟩ := Option.map_eq_some_iff.1 h
  exact ⟨b, List.mem_of_getElem? hb, e⟩
 ·cases h
theorem Inv.lbl (h : Inv N σ) {n : Int} {t : List Int} (hl : σ.lbl n = some t) : t.length ≤ 1 := by
 obtain ⟨b, hb, e⟩ := lbl_mem hl
 rw [← e]; exact h.lab b hb
structure Inv0 (N : Nat) (σ : LS) : Prop where
 wf : WF0 σ
 lab : ∀ b, b ∈ σ.blk → b.lab.length ≤ 1
 sz : σ.row.length + σ.blk.length ≤ N
theorem fin_len (res : List Int) (h : Inv N σ) : (σ.fin res).row.length ≤ σ.row.length + res.length := by
 have h1 := h.all res
 obtain ⟨b, hb, _⟩ := last_of h1.wf.ne
 have h2 := all_len res σ
 unfold LS.fin LS.fin1
 rw [hb]
 have h3 := List.length_filter_le (· ≠ 0) res
 simp only [LS.fin2, give_row, List.length_append, List.length_take]
 have h4 : (if (σ.all res).row.length = b.ht then σ.all res else (σ.all res).fail 4).row = (σ.all res).row := by
  split
  ·rfl
  ·rw [fail_row]
 rw [h4]
 omega
theorem Inv.fin (h : Inv N σ) (res : List Int) : Inv0 (N + res.length) (σ.fin res) := by
 refine ⟨h.wf.fin res, fun b hb => ?_, ?_⟩
 ·rw [fin_blk res h.wf.ne] at hb
  exact h.lab b (List.dropLast_subset _ hb)
 ·have h1 := fin_len res h
  have h2 := h.sz
  rw [fin_blk res h.wf.ne, List.length_dropLast]
  omega
end Go.Proofs.Am
namespace Go.Proofs.Am
open Go
mutual
def cI : Ins → Nat
 | .mk _ _ _ _ _ l bd el _ => 1 + l.length + cL bd + cL el
def cL : List Ins → Nat
 | [] => 0
 | x :: xs => cI x + cL xs
end
def numZ (n : Int) : Bool := decide (0 ≤ n) && decide (n ≤ 4294967295)
section
variable (OP : Int → Option OpR)
def mayP (r : OpR) (o a b v : Int) (l : List Int) : Bool :=
 if r.kind = 10 then !(decide (r.gives = 1) && decide (4294967295 < v)) && (decide (a = 0) && decide (b = 0) && l.isEmpty)
 else if r.kind = 7 ∨ r.kind = 8 then numZ a && numZ b && (decide (v = 0) && l.isEmpty)
 else if o = 14 then !l.isEmpty && l.all numZ && (decide (a = 0) && decide (b = 0) && decide (v = 0))
 else if r.kind = 4 ∨ r.kind = 6 ∨ (r.kind = 3 ∧ o ≠ 15) then numZ a && (decide (b = 0) && decide (v = 0) && l.isEmpty)
 else decide (a = 0) && decide (b = 0) && decide (v = 0) && l.isEmpty
mutual
def mayI : Ins → Bool
 | .mk o a b v t l bd el q =>
  match OP o with
  | none => false
  | some r =>
   if r.kind = 2 then decide (0 ≤ t) && decide (t ≤ 2) && mayL bd && mayL el && !(decide (o ≠ 4) && q) && !(!q && !el.isEmpty) && (decide (a = 0) && decide (b = 0) && decide (v = 0) && l.isEmpty)
   else mayP r o a b v l && (decide (t = 0) && bd.isEmpty && el.isEmpty && !q)
def mayL : List Ins → Bool
 | [] => true
 | x :: xs => mayI x && mayL xs
end
end
section
variable {OP : Int → Option OpR} {s : Scp} {R : Nat}
theorem Inv0.inv {N : Nat} {σ : LS} (h : Inv0 N σ) (hp : 0 < σ.blk.length) : Inv N σ := ⟨⟨List.length_pos_iff.1 hp, h.wf.le, h.wf.srt⟩, h.lab, h.sz⟩
theorem Inv.inv0 {N : Nat} {σ : LS} (h : Inv N σ) : Inv0 N σ := ⟨⟨h.wf.le, h.wf.srt⟩, h.lab, h.sz⟩
theorem Inv0.mono {N M : Nat} {σ : LS} (h : Inv0 N σ) (hM : N ≤ M) : Inv0 M σ := ⟨h.wf, h.lab, Nat.le_trans h.sz hM⟩
theorem Inv.pos {N : Nat} {σ : LS} (h : Inv N σ) : 0 < σ.blk.length := List.length_pos_iff.2 h.wf.ne
theorem stop_blen (σ : LS) : σ.stop.blk.length = σ.blk.length := by
 have h1 := congrArg List.length (stop_lab σ)
 rwa [List.length_map, List.length_map] at h1
def Grows (c : Nat) (F : LS → LS) : Prop := ∀ (N : Nat) (σ : LS), Inv N σ → Inv (N + c) (F σ) ∧ σ.blk.length ≤ (F σ).blk.length
theorem Grows.mono {c d : Nat} {F : LS → LS} (h : Grows c F) (hd : c ≤ d) : Grows d F := fun N σ I => ⟨(h N σ I).1.mono (by omega), (h N σ I).2⟩
theorem Grows.comp {c d : Nat} {F G : LS → LS} (h : Grows c F) (k : Grows d G) : Grows (c + d) fun σ => G (F σ) := fun N σ I => by
 obtain ⟨h1, h2⟩ := h N σ I
 obtain ⟨h3, h4⟩ := k _ _ h1
 exact ⟨h3.mono (by omega), Nat.le_trans h2 h4⟩
theorem g_id : Grows 0 fun σ => σ := fun _ _ I => ⟨I, Nat.le_refl _⟩
theorem g_fail (c : Int) : Grows 0 (LS.fail c) := fun _ σ I => ⟨I.fail c, by rw [fail_blk]; exact Nat.le_refl _⟩
theorem g_take (w : Int) : Grows 0 fun σ => (σ.take w).1 := fun _ σ I => ⟨I.take w, by rw [take_blk]; exact Nat.le_refl _⟩
theorem g_all (ts : List Int) : Grows 0 (LS.all ts) := fun _ σ I => ⟨I.all ts, by rw [all_blk]; exact Nat.le_refl _⟩
theorem g_give (ts : List Int) : Grows ts.length (LS.give ts) := fun _ _ I => ⟨I.give ts, Nat.le_refl _⟩
theorem g_stop : Grows 0 LS.stop := fun _ σ I => ⟨I.stop, by rw [stop_blen]; exact Nat.le_refl _⟩
theorem g_ite {c : Nat} {F G : LS → LS} (p : LS → Prop) [∀ σ, Decidable (p σ)] (h : Grows c F) (k : Grows c G) : Grows c fun σ => if p σ then F σ else G σ := fun N σ I => by
 by_cases hp : p σ
 ·simp only [if_pos hp]; exact h N σ I
 ·simp only [if_neg hp]; exact k N σ I
theorem g_table (l : List Int) : Grows 0 (LS.table l) := fun N σ I => by
 unfold LS.table
 split
 ·exact g_fail 5 N σ I
 ·rename_i ts hts
  exact (((g_ite (fun _ => ts.any (· ≠ ts.getLastD []) = true) (g_fail 4) g_id).comp (g_take 1)).comp (g_all _)).comp g_stop N σ I
theorem g_jump (o a : Int) (l : List Int) : Grows 1 (LS.jump s o a l) := fun N σ I => by
 unfold LS.jump
 split
 ·exact (((g_all _).comp g_stop).mono (by omega)) N σ I
 ·split
  ·exact ((g_table l).mono (by omega)) N σ I
  ·split
   ·exact ((g_fail 5).mono (by omega)) N σ I
   ·rename_i t ht
    split
    ·exact ((((g_take 1).comp (g_all t)).comp (g_give t)).mono (by have := I.lbl ht; omega)) N σ I
    ·exact (((g_all t).comp g_stop).mono (by omega)) N σ I
theorem g_callT (hR : ∀ x, x ∈ s.ty → x.p.length ≤ R ∧ x.r.length ≤ R) (thr : Bool) (n : Int) : Grows R (LS.callT s thr n) := fun N σ I => by
 unfold LS.callT
 split
 ·exact ((g_fail 5).mono (by omega)) N σ I
 ·split
  ·exact (g_id.mono (by omega)) N σ I
  ·rename_i t ht
   have hr := (hR t (List.mem_of_getElem? ht)).2
   have g1 : Grows 0 (LS.thr thr) := by
    cases thr with
    | false => exact g_id
    | true => exact g_take 1
   exact (((((g_ite (fun _ => 1 < t.r.length) (g_fail 4) g_id).comp g1).comp (g_all t.p)).comp (g_give t.r)).mono (by omega)) N σ I
theorem g_call (hR : ∀ x, x ∈ s.ty → x.p.length ≤ R ∧ x.r.length ≤ R) (o a : Int) : Grows R (LS.call s o a) := fun N σ I => by
 unfold LS.call
 split
 ·split
  ·exact ((g_fail 5).mono (by omega)) N σ I
  ·split
   ·exact (g_id.mono (by omega)) N σ I
   ·exact g_callT hR _ _ N σ I
 ·exact g_callT hR _ _ N σ I
theorem g_any (o : Int) : Grows 1 (LS.any o) := fun N σ I => by
 unfold LS.any
 split
 ·exact ((g_take (-1)).mono (by omega)) N σ I
 ·unfold LS.sel
  obtain ⟨h1, h2⟩ := ((g_take 1).comp (g_take (-1))) N σ I
  obtain ⟨h3, h4⟩ := g_take (((σ.take 1).1.take (-1)).2) _ _ h1
  obtain ⟨h5, h6⟩ := g_give [((((σ.take 1).1.take (-1)).1).take (((σ.take 1).1.take (-1)).2)).2] _ _ h3
  exact ⟨h5.mono (by simp), Nat.le_trans h2 (Nat.le_trans h4 h6)⟩
theorem g_varT (o t : Int) (q : Bool) : Grows 1 (LS.varT o t q) := fun N σ I => by
 unfold LS.varT
 split
 ·exact g_give [t] N σ I
 ·split
  ·exact (((g_take t).comp (g_give [t])).mono (by simp)) N σ I
  ·exact (((g_ite (fun _ => q = false ∧ o = 36) (g_fail 4) g_id).comp (g_take t)).mono (by omega)) N σ I
theorem g_var (o a : Int) : Grows 1 (LS.var s o a) := fun N σ I => by
 unfold LS.var
 split
 ·split
  ·split
   ·exact (g_id.mono (by omega)) N σ I
   ·exact g_varT _ _ _ N σ I
  ·exact ((g_fail 5).mono (by omega)) N σ I
 ·split
  ·split
   ·exact (g_id.mono (by omega)) N σ I
   ·exact g_varT _ _ _ N σ I
  ·exact ((g_fail 5).mono (by omega)) N σ I
theorem g_plain (r : OpR) (a : Int) : Grows 1 (LS.plain s r a) := fun N σ I => by
 unfold LS.plain
 split
 ·exact ((g_fail 5).mono (by omega)) N σ I
 ·exact (((g_ite (fun _ => (r.kind = 7 ∨ r.kind = 8) ∧ (3 < a ∨ r.bytes < (2 : Int) ^ a.toNat)) (g_fail 4) g_id).comp (g_all r.takes)).comp (g_give [r.gives])).mono (by simp) N σ I
theorem g_cond (o t : Int) (q : Bool) : Grows 0 (LS.cond o t q) := fun N σ I => by
 unfold LS.cond
 split
 ·split
  ·exact ((g_take 1).comp (g_fail 4)) N σ I
  ·exact g_take 1 N σ I
 ·exact g_id N σ I
def RunL (OP : Int → Option OpR) (s : Scp) (c : Nat) (xs : List Ins) : Prop := ∀ (res : List Int), res.length ≤ 1 → ∀ (N : Nat) (σ : LS), Inv N σ → Inv0 (N + c) (LS.runL OP s xs res σ) ∧ σ.blk.length ≤ (LS.runL OP s xs res σ).blk.length + 1
theorem g_code {c : Nat} {xs : List Ins} (h : RunL OP s c xs) {lab res : List Int} (hl : lab.length ≤ 1) (hr : res.length ≤ 1) : Grows (c + 1) fun σ => if σ.err.isSome then σ else LS.runL OP s xs res (σ.push lab res) := fun N σ I => by
 by_cases he : σ.err.isSome = true
 ·simp only [if_pos he]
  exact ⟨I.mono (by omega), Nat.le_refl _⟩
 ·simp only [if_neg he]
  obtain ⟨h1, h2⟩ := h res hr (N + 1) (σ.push lab res) (I.push hl res)
  have h3 : (σ.push lab res).blk.length = σ.blk.length + 1 := by simp [LS.push]
  have := I.pos
  exact ⟨(h1.inv (by omega)).mono (by omega), by omega⟩
mutual
theorem g_instr (hR : ∀ x, x ∈ s.ty → x.p.length ≤ R ∧ x.r.length ≤ R) : ∀ x : Ins, Grows ((R + 6) * cI x) (LS.instr OP s x)
 | .mk o a b v t l bd el q => by
  have hb := g_runL hR bd
  have hl := g_runL hR el
  have hc : cI (.mk o a b v t l bd el q) = 1 + l.length + cL bd + cL el := rfl
  have hc2 : (R + 6) * cI (.mk o a b v t l bd el q) = (R + 6) + (R + 6) * l.length + (R + 6) * cL bd + (R + 6) * cL el := by rw [hc, Nat.mul_add, Nat.mul_add, Nat.mul_add, Nat.mul_one]
  intro N σ I
  have hr := rsl_len t
  unfold LS.instr
  split
  ·exact ((g_fail 1).mono (by omega)) N σ I
  ·rename_i r hop
   split
   ·split
    ·exact (g_code hb (lab := []) (by simp) hr).mono (by omega) N σ I
    ·have g2 := (g_cond o t q).comp (g_code hb hr hr)
     exact (g2.comp (g_ite (fun τ => q = true ∧ τ.err = none) ((g_all (rsl t)).comp (g_code hl hr hr)) (g_id.mono (Nat.zero_le _)))).mono (by omega) N σ I
   ·split
    ·exact (g_jump o a l).mono (by omega) N σ I
    ·split
     ·exact (g_call hR o a).mono (by omega) N σ I
     ·split
      ·exact (g_any o).mono (by omega) N σ I
      ·split
       ·exact (g_var o a).mono (by omega) N σ I
       ·split
        ·exact g_stop.mono (by omega) N σ I
        ·exact (g_plain r a).mono (by omega) N σ I
theorem g_runL (hR : ∀ x, x ∈ s.ty → x.p.length ≤ R ∧ x.r.length ≤ R) : ∀ xs : List Ins, RunL OP s ((R + 6) * cL xs + 1) xs
 | [] => by
  intro res hr N σ I
  rw [LS.runL]
  have h1 := I.fin res
  refine ⟨h1.mono (by omega), ?_⟩
  rw [fin_blk res I.wf.ne, List.length_dropLast]
  omega
 | x :: xs => by
  intro res hr N σ I
  rw [LS.runL]
  have hc : (R + 6) * cL (x :: xs) = (R + 6) * cI x + (R + 6) * cL xs := by rw [cL, Nat.mul_add]
  split
  ·exact ⟨I.inv0.mono (by omega), by omega⟩
  ·obtain ⟨h1, h2⟩ := g_instr hR x N σ I
   obtain ⟨h3, h4⟩ := g_runL hR xs res hr _ _ h1
   exact ⟨h3.mono (by omega), by omega⟩
end
end
end Go.Proofs.Am
namespace Go.Proofs.Am
open Go
def sB : Nat → Int → List Nat
 | 0, _ => []
 | k + 1, v => if v < -64 ∨ 64 ≤ v then ((v % 128).toNat + 128) :: sB k (v / 128) else [(v % 128).toNat]
def uL (a : Int) : List Nat := uB 10 a.toNat
def sg32 (v : Int) : Int := if v < 2147483648 then v else v - 4294967296
def sg64 (v : Int) : Int := if v < 9223372036854775808 then v else v - 18446744073709551616
def resB (t : Int) : Nat := if t = 0 then 64 else (128 - t).toNat
section
variable (OP : Int → Option OpR)
def plainB (r : OpR) (o a b v : Int) (l : List Int) : List Nat :=
 if r.kind = 7 ∨ r.kind = 8 then uL a ++ uL b
 else if r.kind = 9 then [0]
 else if o = 65 then sB 10 (sg32 v)
 else if o = 66 then sB 10 (sg64 v)
 else if o = 14 then uL ((l.length : Int) - 1) ++ (l.map uL).flatten
 else if o = 17 then uL a ++ [0]
 else if r.kind = 4 ∨ r.kind = 6 ∨ o = 12 ∨ o = 13 then uL a
 else []
mutual
def insB : Ins → List Nat
 | .mk o a b v t l bd el q =>
  match OP o with
  | none => []
  | some r => o.toNat :: (if r.kind = 2 then resB t :: (lstB bd ++ ((if q then 5 :: lstB el else []) ++ [11])) else plainB r o a b v l)
def lstB : List Ins → List Nat
 | [] => []
 | x :: xs => insB x ++ lstB xs
end
end
abbrev PErr := Nat × Int
abbrev PR (A : Type) := Except PErr (A × Nat)
def pByte (bs : List Nat) (p : Nat) : PR Nat := match bs[p]? with | none => .error (bs.length, 2) | some x => .ok (x, p + 1)
def pNum (bs : List Nat) (p : Nat) : PR Int :=
 match digN bs 5 p with
 | none => .error (p, 2)
 | some r => if valD r.1 < 2 ^ 32 then .ok ((valD r.1 : Nat), r.2) else .error (p, 2)
def pCon (bs : List Nat) (w : Bool) (p : Nat) : PR Int :=
 match digN bs (if w then 10 else 5) p with
 | none => .error (p, 2)
 | some r => match rdS (valD r.1) r.1.length (if w then 64 else 32) with
  | none => .error (p, 2)
  | some x => .ok ((if w then (x : Int) else ((x % 4294967296 : Nat) : Int)), r.2)
def pMust (bs : List Nat) (x : Nat) (p : Nat) : PR Unit :=
 match pByte bs p with
 | .error e => .error e
 | .ok r => if r.1 = x then .ok ((), r.2) else .error (p, 2)
def pRes (bs : List Nat) (p : Nat) : PR Int :=
 match pByte bs p with
 | .error e => .error e
 | .ok r => if r.1 = 64 then .ok (0, r.2) else if r.1 = 127 then .ok (1, r.2) else if r.1 = 126 then .ok (2, r.2) else if r.1 = 125 ∨ r.1 = 124 then .error (p, 3) else .error (p, 2)
def pNums (bs : List Nat) : Nat → Nat → PR (List Int)
 | 0, p => .ok ([], p)
 | k + 1, p => match pNum bs p with
  | .error e => .error e
  | .ok r => match pNums bs k r.2 with
   | .error e => .error e
   | .ok s => .ok (r.1 :: s.1, s.2)
def pLabs (bs : List Nat) (p : Nat) : PR (List Int) :=
 match pNum bs p with
 | .error e => .error e
 | .ok r => if 64 ≤ r.1 then .error (p, 7) else pNums bs (r.1.toNat + 1) r.2
def pNum2 (bs : List Nat) (p : Nat) : PR (Int × Int) :=
 match pNum bs p with
 | .error e => .error e
 | .ok r => match pNum bs r.2 with
  | .error e => .error e
  | .ok s => .ok ((r.1, s.1), s.2)
def pPlain (bs : List Nat) (r : OpR) (o : Int) (p : Nat) : PR Ins :=
 if r.kind = 7 ∨ r.kind = 8 then (match pNum2 bs p with | .error e => .error e | .ok s => .ok (.mk o s.1.1 s.1.2 0 0 [] [] [] false, s.2))
 else if r.kind = 9 then (match pMust bs 0 p with | .error e => .error e | .ok s => .ok (.mk o 0 0 0 0 [] [] [] false, s.2))
 else if o = 65 then (match pCon bs false p with | .error e => .error e | .ok s => .ok (.mk o 0 0 s.1 0 [] [] [] false, s.2))
 else if o = 66 then (match pCon bs true p with | .error e => .error e | .ok s => .ok (.mk o 0 0 s.1 0 [] [] [] false, s.2))
 else if o = 14 then (match pLabs bs p with | .error e => .error e | .ok s => .ok (.mk o 0 0 0 0 s.1 [] [] false, s.2))
 else if o = 17 then (match pNum bs p with | .error e => .error e | .ok s => match pMust bs 0 s.2 with | .error e => .error e | .ok u => .ok (.mk o s.1 0 0 0 [] [] [] false, u.2))
 else if r.kind = 4 ∨ r.kind = 6 ∨ o = 12 ∨ o = 13 then (match pNum bs p with | .error e => .error e | .ok s => .ok (.mk o s.1 0 0 0 [] [] [] false, s.2))
 else .ok (.mk o 0 0 0 0 [] [] [] false, p)
abbrev PL := Except PErr (List Ins × Nat × Nat × Nat)
abbrev PI := Except PErr (Ins × Nat × Nat)
def pIns (bs : List Nat) (rec : Nat → Nat → Nat → PL) (d : Nat) (r : OpR) (o : Int) (p n : Nat) : PI :=
 if r.kind = 2 then
  match pRes bs p with
  | .error e => .error e
  | .ok t => match rec (d + 1) t.2 n with
   | .error e => .error e
   | .ok (bd, last, p2, n2) =>
    if last = 5 then (if o = 4 then match rec (d + 1) p2 n2 with
     | .error e => .error e
     | .ok (el, last2, p3, n3) => if last2 = 5 then .error (p3 - 1, 2) else .ok (.mk o 0 0 0 t.1 [] bd el true, p3, n3)
     else .error (p2 - 1, 2))
    else .ok (.mk o 0 0 0 t.1 [] bd [] false, p2, n2)
 else match pPlain bs r o p with
  | .error e => .error e
  | .ok s => .ok (s.1, s.2, n)
section
variable (OP : Int → Option OpR) (FL : Int → Bool)
def pList (bs : List Nat) : Nat → Nat → Nat → Nat → PL
 | 0, _, p, _ => .error (p, 0)
 | f + 1, d, p, n =>
  match bs[p]? with
  | none => .error (bs.length, 2)
  | some x => if x = 11 ∨ x = 5 then .ok ([], x, p + 1, n)
   else match OP x with
    | none => .error (p, if FL x then 3 else 2)
    | some r => if 512 ≤ n ∨ (r.kind = 2 ∧ 32 ≤ d) then .error (p, 7)
     else match pIns bs (pList bs f) d r x (p + 1) (n + 1) with
      | .error e => .error e
      | .ok (i, p2, n2) => match pList bs f d p2 n2 with
       | .error e => .error e
       | .ok (is, last, p3, n3) => .ok (i :: is, last, p3, n3)
def pExpr (bs : List Nat) (p : Nat) : PR (List Ins) :=
 match pList OP FL bs (bs.length + 1) 0 p 0 with
 | .error e => .error e
 | .ok (xs, last, q, _) => if last = 5 then .error (q - 1, 2) else .ok (xs, q)
end
end Go.Proofs.Am
namespace Go.Proofs.Am
open Go
def dgR : Nat → Int → List Nat
 | 0, _ => []
 | 1, w => [(w % 128).toNat]
 | n + 2, w => ((w % 128).toNat + 128) :: dgR (n + 1) (w / 128)
def dgs : Nat → Int → List Nat
 | 0, _ => []
 | n + 1, w => (w % 128).toNat :: dgs n (w / 128)
theorem dgs_len : ∀ (n : Nat) (w : Int), (dgs n w).length = n
 | 0, _ => rfl
 | n + 1, w => by rw [dgs, List.length_cons, dgs_len n]
theorem dgR_len : ∀ (n : Nat) (w : Int), (dgR n w).length = n
 | 0, _ => rfl
 | 1, _ => rfl
 | n + 2, w => by rw [dgR, List.length_cons, dgR_len (n + 1)]
theorem digN_dg {pre more : List Nat} : ∀ (n k : Nat) (w : Int), 1 ≤ n → n ≤ k → digN (pre ++ (dgR n w ++ more)) k pre.length = some (dgs n w, pre.length + n)
 | 0, _, _, h, _ => by omega
 | 1, 0, _, _, h => by omega
 | 1, k + 1, w, _, _ => by
  have e : (pre ++ (dgR 1 w ++ more))[pre.length]? = some (w % 128).toNat := by
   rw [List.getElem?_append_right (Nat.le_refl _), Nat.sub_self]; rfl
  unfold digN
  rw [e]
  simp only
  rw [if_pos (by omega)]
  rfl
 | n + 2, 0, _, _, h => by omega
 | n + 2, k + 1, w, _, h => by
  have e : (pre ++ (dgR (n + 2) w ++ more))[pre.length]? = some ((w % 128).toNat + 128) := by
   rw [List.getElem?_append_right (Nat.le_refl _), Nat.sub_self]; rfl
  unfold digN
  rw [e]
  simp only
  rw [if_neg (by omega)]
  have ih := digN_dg (pre := pre ++ [(w % 128).toNat + 128]) (more := more) (n + 1) k (w / 128) (by omega) (by omega)
  have e2 : (pre ++ [(w % 128).toNat + 128]) ++ (dgR (n + 1) (w / 128) ++ more) = pre ++ (dgR (n + 2) w ++ more) := by rw [dgR]; simp
  rw [e2, List.length_append, List.length_singleton] at ih
  rw [ih, Option.map_some, dgs]
  congr 2
  ·congr 1; omega
  ·omega
theorem valD_dgs : ∀ (n : Nat) (w : Int), ((valD (dgs n w) : Nat) : Int) = w % (128 : Int) ^ n
 | 0, w => by rw [dgs, valD, Int.pow_zero]; omega
 | n + 1, w => by
  have ih := valD_dgs n (w / 128)
  rw [dgs, valD, Int.natCast_add, Int.natCast_mul, ih]
  have hp : (0 : Int) < (128 : Int) ^ n := Int.pow_pos (by decide)
  have h1 := Int.mul_ediv_add_emod (w / 128) ((128 : Int) ^ n)
  have h2 := Int.emod_lt_of_pos (w / 128) hp
  have h3 := Int.emod_nonneg (w / 128) (Int.ne_of_gt hp)
  rw [Int.pow_succ]
  generalize (w / 128) % (128 : Int) ^ n = s at *
  generalize (w / 128) / (128 : Int) ^ n = q at *
  have hw : w = (w % 128 + 128 * s) + (128 ^ n * 128) * q := by
   have h4 := Int.mul_ediv_add_emod w 128
   rw [← h1] at h4
   have h5 : (128 : Int) ^ n * 128 * q = 128 * (128 ^ n * q) := by
    rw [Int.mul_comm ((128 : Int) ^ n) 128, Int.mul_assoc]
   omega
  have h6 : (w % 128 + 128 * s) < 128 ^ n * 128 := by omega
  have h7 : 0 ≤ w % 128 + 128 * s := by omega
  rw [show ((w % 128).toNat : Int) + ((128 : Nat) : Int) * s = w % 128 + 128 * s by omega]
  conv => rhs; rw [hw]
  rw [Int.add_mul_emod_self_left, Int.emod_eq_of_lt h7 h6]
def inR (n : Nat) (w : Int) : Prop := -(64 * (128 : Int) ^ n) ≤ w ∧ w < 64 * (128 : Int) ^ n
theorem inR_succ {n : Nat} {w : Int} : inR (n + 1) w ↔ inR n (w / 128) := by
 unfold inR
 rw [Int.pow_succ]
 generalize (128 : Int) ^ n = P
 omega
theorem sB_dg : ∀ (n k : Nat) (w : Int), inR n w → (n = 0 ∨ ¬ inR (n - 1) w) → n < k → sB k w = dgR (n + 1) w
 | 0, k + 1, w, h, _, _ => by
  unfold inR at h
  rw [Int.pow_zero] at h
  rw [sB, if_neg (by omega)]
  rfl
 | n + 1, 0, _, _, _, h => by omega
 | n + 1, k + 1, w, h, h2, hk => by
  have h2 : ¬ inR n w := by simpa using h2.resolve_left (by omega)
  have h3 : w < -64 ∨ 64 ≤ w := by
   by_cases hc : w < -64 ∨ 64 ≤ w
   ·exact hc
   ·exfalso
    apply h2
    have hp : (0 : Int) < (128 : Int) ^ n := Int.pow_pos (by decide)
    unfold inR
    omega
  rw [sB, if_pos h3, dgR, sB_dg n k (w / 128) (inR_succ.1 h) ?_ (by omega)]
  cases n with
  | zero => exact .inl rfl
  | succ n => exact .inr (fun hc => h2 (inR_succ.2 (by simpa using hc)))
theorem uB_dgR : ∀ (n k v : Nat), v < 128 ^ (n + 1) → (n = 0 ∨ 128 ^ n ≤ v) → n < k → uB k v = dgR (n + 1) (v : Int)
 | 0, k + 1, v, h, _, _ => by
  have h : v < 128 := by simpa using h
  rw [uB, if_pos h, dgR]
  congr 1; omega
 | n + 1, 0, _, _, _, h => by omega
 | n + 1, k + 1, v, h, h2, hk => by
  have h2 : 128 ^ (n + 1) ≤ v := h2.resolve_left (by omega)
  have h3 : 128 ≤ v := by
   have : 128 ^ 1 ≤ 128 ^ (n + 1) := Nat.pow_le_pow_right (by decide) (by omega)
   omega
  have h4 : v / 128 < 128 ^ (n + 1) := by
   rw [Nat.div_lt_iff_lt_mul (by decide), ← Nat.pow_succ]
   exact h
  have h5 : n = 0 ∨ 128 ^ n ≤ v / 128 := by
   right
   rw [Nat.le_div_iff_mul_le (by decide), ← Nat.pow_succ]
   exact h2
  rw [uB, if_neg (by omega), uB_dgR n k (v / 128) h4 h5 (by omega), dgR]
  congr 1
theorem fewestS {w : Int} : ∀ k, inR k w → ∃ n, n ≤ k ∧ inR n w ∧ ∀ j, j < n → ¬ inR j w
 | 0, h => ⟨0, Nat.le_refl _, h, fun j hj => by omega⟩
 | k + 1, h => by
  by_cases h1 : inR k w
  ·obtain ⟨n, h2, h3, h4⟩ := fewestS k h1
   exact ⟨n, by omega, h3, h4⟩
  ·refine ⟨k + 1, Nat.le_refl _, h, fun j hj hc => h1 ?_⟩
   unfold inR at hc ⊢
   have : (128 : Int) ^ j ≤ 128 ^ k := by
    have h5 : (128 : Nat) ^ j ≤ 128 ^ k := Nat.pow_le_pow_right (by decide) (by omega)
    have h6 : (((128 : Nat) ^ j : Nat) : Int) ≤ ((128 ^ k : Nat) : Int) := by exact_mod_cast h5
    simpa [Int.natCast_pow] using h6
   omega
theorem sB_is {w : Int} (h : -9223372036854775808 ≤ w ∧ w < 9223372036854775808) : ∃ n, n ≤ 9 ∧ sB 10 w = dgR (n + 1) w ∧ inR n w ∧ ∀ j, j < n → ¬ inR j w := by
 have h9 : inR 9 w := by unfold inR; rw [show (128 : Int) ^ 9 = 9223372036854775808 by decide]; omega
 obtain ⟨n, h1, h2, h3⟩ := fewestS 9 h9
 refine ⟨n, h1, sB_dg n 10 w h2 ?_ (by omega), h2, h3⟩
 cases n with
 | zero => exact .inl rfl
 | succ n => exact .inr (h3 n (by omega))
theorem rdS_put {w : Int} (hw : -9223372036854775808 ≤ w ∧ w < 9223372036854775808) {n : Nat} (hn : n ≤ 9) : rdS (valD (dgs (n + 1) w)) (n + 1) 64 = some (w % 18446744073709551616).toNat ↔ inR n w := by
 have hv := valD_dgs (n + 1) w
 generalize valD (dgs (n + 1) w) = V at *
 unfold rdS sxt inR
 have hc : n = 0 ∨ n = 1 ∨ n = 2 ∨ n = 3 ∨ n = 4 ∨ n = 5 ∨ n = 6 ∨ n = 7 ∨ n = 8 ∨ n = 9 := by omega
 rcases hc with rfl | rfl | rfl | rfl | rfl | rfl | rfl | rfl | rfl | rfl
 all_goals
  simp only [Nat.reduceAdd, Nat.reduceMul, Nat.reducePow, Int.reducePow, Int.reduceMul, Int.reduceNeg, Nat.reduceLeDiff, true_or, if_true, false_or, Nat.reduceSub] at hv ⊢
  split
  ·first
    | (simp only [Option.some.injEq]; omega)
    | (split <;> simp only [Option.some.injEq, reduceCtorEq, false_iff] <;> omega)
  ·first
    | (simp only [Option.some.injEq]; omega)
    | (split <;> simp only [Option.some.injEq, reduceCtorEq, false_iff] <;> omega)
end Go.Proofs.Am
