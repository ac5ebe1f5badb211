/-
  Contracts that tell a row in a block of its own (slices.Clone), as calls of the abstract machine.
-/
import Derived.Test.YtoblgjmllmomhaaGreatDoorAmExtRun
import Derived.Laws.AppendOwn
import Derived.Below
namespace Go.Proofs.Am
open Go Go.RowKit
def gAt (g : Gh) (b n : Nat) : Gh := { g with sl := upd g.sl b n }
section
variable {w w' : World} {g : Gh} {b n : Nat}
theorem at_Le (wf : Wf w g) (hb : w.heap.size ≤ b) (h : Below w.heap.size w w') : Le w g w' (gAt g b n) := by
 refine ⟨fun c => ?_, fun c j hj => ?_, Nat.le_refl _, fun _ _ => rfl, fun c k hc => ?_⟩
 ·by_cases e : c = b
  ·subst e; rw [wf.sl _ hb]; exact Nat.zero_le _
  ·simp only [gAt]; rw [upd_ne _ _ e]; exact Nat.le_refl _
 ·have hc : c < w.heap.size := by
   rcases Nat.lt_or_ge c w.heap.size with h | h
   ·exact h
   ·rw [wf.sl c h] at hj; omega
  exact Cl_eq_of_heap (h.block c hc)
 ·rw [bsz_eq_of_heap (h.block c (bsz_lt hc))]; exact hc
theorem at_Tr (wf : Wf w g) (hb : w.heap.size ≤ b) (h : Below w.heap.size w w') : Tr w g w' (gAt g b n) :=
 ⟨at_Le wf hb h, h.size, fun c hc ho => ⟨h.block c hc, ho, by simp only [gAt]; rw [upd_ne _ _ (by omega)]⟩, h.os, h.tape, h.output⟩
theorem at_Kp (wf : Wf w g) (hb : w.heap.size ≤ b) (h : Below w.heap.size w w') (hd : Hd) : Kp w g w' (gAt g b n) hd :=
 ⟨at_Le wf hb h, fun c hc ho => ⟨h.block c hc, ho, by simp only [gAt]; rw [upd_ne _ _ (by omega)]⟩⟩
theorem at_Wf (wf : Wf w g) (hb : w.heap.size ≤ b) (h : Below w.heap.size w w') (hn : b < w'.heap.size ∨ n = 0) : Wf w' (gAt g b n) := by
 refine ⟨fun c hc => wf.own c (Nat.le_trans h.size hc), fun c hc => ?_, fun c hc => ?_⟩
 ·by_cases e : c = b
  ·subst e
   rcases hn with hn | hn
   ·omega
   ·simp only [gAt, upd_same, hn]
  ·simp only [gAt]; rw [upd_ne _ _ e]; exact wf.sl c (Nat.le_trans h.size hc)
 ·have hlt : c < w.heap.size := by
   rcases Nat.lt_or_ge c w.heap.size with h | h
   ·exact h
   ·exact absurd (wf.own c h) hc
  obtain ⟨k, h1, h2⟩ := wf.fit c hc
  exact ⟨k, by rw [bsz_eq_of_heap (h.block c hlt)]; exact h1, by simp only [gAt]; rw [upd_ne _ _ (by omega)]; exact h2⟩
end
variable {cx : Cx}
theorem ext_row {f : FuncId} {e : List LV → Option LV}
  (h : ∀ (xs : List LV) (x : LV), e xs = some x → ∀ (w : World) (g : Gh) (vs : Array Value), Wf w g → GOk cx w g → vs.size = xs.length →
   (∀ (j : Nat) (y : LV), xs[j]? = some y → ∃ p u, y = .v p ∧ vs[j]? = some u ∧ Rep w g p u) →
   ∃ (as : List AV) (us : List Value) (t : TypeId), x = .v (.imm (as.map fun a => [a])) ∧ us.length = as.length ∧
    (∀ (j : Nat) (a : AV), as[j]? = some a → ∃ u, us[j]? = some u ∧ Rep w g a u ∧ a.one = true) ∧
    Calls cx.P f vs w fun e w' => ∃ v, e = .returned v ∧ w'.ownsRow w.heap.size t 1 v us.length us ∧ Below w.heap.size w w') : ExtOk cx f e := by
 intro xs x hx w g vs wf hG hl hr
 obtain ⟨as, us, t, rfl, hlen, hv, hc⟩ := h xs x hx w g vs wf hG hl hr
 refine hc.mono ?_
 rintro e w' ⟨v, rfl, ⟨_, hrow⟩, hB⟩
 rcases hrow with ⟨rfl, h0⟩ | ⟨b, cap, cur, rfl, hb, hheap, hcap, _, hsz, hcur⟩
 ·have : as = [] := List.length_eq_zero_iff.1 (by omega)
  subst this
  exact ⟨_, gAt g w.heap.size 0, rfl, at_Wf wf (Nat.le_refl _) hB (.inr rfl), rfl, at_Tr wf (Nat.le_refl _) hB, fun hd _ _ => at_Kp wf (Nat.le_refl _) hB hd, .imm0 none 0⟩
 ·refine ⟨_, gAt g b us.length, rfl, at_Wf wf hb hB (.inl (heap_lt hheap)), rfl, at_Tr wf hb hB, fun hd _ _ => at_Kp wf hb hB hd, ?_⟩
  have hget : ∀ (k : Nat) (x : List AV) (j : Nat) (c : AV), (as.map fun a => [a])[k]? = some x → x[j]? = some c → j = 0 ∧ as[k]? = some c := by
   intro k x j c hk hj
   rw [List.getElem?_map] at hk
   cases ha : as[k]? with
   | none => rw [ha] at hk; cases hk
   | some a =>
    rw [ha] at hk
    simp only [Option.map_some, Option.some.injEq] at hk
    subst hk
    cases j with
    | zero => simp at hj; subst hj; exact ⟨rfl, rfl⟩
    | succ j => simp at hj
  have hcell : ∀ (k : Nat) (c : AV), as[k]? = some c → 0 + k * 1 + 0 < (gAt g b us.length).sl b ∧ Cl w' b (0 + k * 1 + 0) = some (us.getD k undef) ∧ c.one = true ∧
    Rep w' (gAt g b us.length) c (us.getD k undef) := by
   intro k c hk
   obtain ⟨u, hu, hrep, ho⟩ := hv k c hk
   have hlt : k < us.length := (List.getElem?_eq_some_iff.1 hu).1
   have hg : us.getD k undef = u := by rw [List.getD_eq_getElem?_getD, hu]; rfl
   refine ⟨by simp only [gAt, upd_same]; omega, ?_, ho, by rw [hg]; exact hrep.mono (at_Le wf hb hB)⟩
   rw [Cl_of hheap, hg, show 0 + k * 1 + 0 = k by omega]
   have h1 : (cur.toList.take (us.length * 1))[k]? = some u := by rw [hcur]; exact hu
   rw [List.getElem?_take_of_lt (by omega)] at h1
   simpa using h1
  have := Rep.imm (w := w') (g := gAt g b us.length) (as.map fun a => [a]) 1 b 0 cap (fun k _ => us.getD k undef) (by simp; omega)
   (fun k x hk => by
    rw [List.getElem?_map] at hk
    cases ha : as[k]? with
    | none => rw [ha] at hk; cases hk
    | some a => rw [ha] at hk; simp only [Option.map_some, Option.some.injEq] at hk; subst hk; rfl)
   (fun k x j c hk hj => by
    obtain ⟨rfl, ha⟩ := hget k x j c hk hj
    obtain ⟨h1, h2, h3, _⟩ := hcell k c ha
    exact ⟨h1, h2, h3⟩)
   (fun k x j c hk hj => by
    obtain ⟨rfl, ha⟩ := hget k x j c hk hj
    exact (hcell k c ha).2.2.2)
  rw [List.length_map, ← hlen] at this
  exact this
def intsB (xs : List (List AV)) : Bool := xs.all fun | [.int .i64 _] => true | _ => false
def intOf : List AV → Int
 | [.int .i64 z] => z
 | _ => 0
theorem intsB_eq {xs : List (List AV)} (h : intsB xs = true) : xs = (xs.map intOf).map fun z => [AV.int .i64 z] := by
 induction xs with
 | nil => rfl
 | cons x xs ih =>
  simp only [intsB, List.all_cons, Bool.and_eq_true] at h
  rw [List.map_cons, List.map_cons, ← ih h.2]
  have h1 := h.1
  split at h1
  ·rfl
  ·cases h1
def cloneE : List LV → Option LV
 | [.v (.imm xs)] => bif intsB xs && Nat.ble (xs.length * 8) 140737488355328 then some (.v (.imm xs)) else none
 | _ => none
theorem clone_ok {f : FuncId} {t : TypeId}
  (h1 : ∀ (b off n c : Nat) (zs : List Int) (w : World), n ≤ zs.length → n * 8 ≤ 140737488355328 → (∀ j, j < zs.length → w.cell? ⟨b, off + j, none⟩ = some (.int .i64 (zs.getD j 0))) →
   Calls cx.P f #[.slice (some ⟨b, off, none⟩) n c] w fun e w' => ∃ v', e = .returned v' ∧ w'.ownsRow w.heap.size t 1 v' n ((zs.take n).map (Value.int .i64)) ∧ v' ≠ .slice none 0 0 ∧ Below w.heap.size w w')
  (h2 : ∀ (n c : Nat) (w : World), Calls cx.P f #[.slice none n c] w fun e w' => e = .returned (.slice none 0 0) ∧ w' = w)
  (h3 : ∀ (a : Addr) (c : Nat) (w : World), Calls cx.P f #[.slice (some a) 0 c] w fun e w' => ∃ v', e = .returned v' ∧ w'.ownsRow w.heap.size t 1 v' 0 [] ∧ v' ≠ .slice none 0 0 ∧ Below w.heap.size w w') : ExtOk cx f cloneE := by
 refine ext_row ?_
 intro xs x hx w g vs wf hG hl hr
 unfold cloneE at hx
 split at hx
 ·rename_i ys
  cases hc : (intsB ys && Nat.ble (ys.length * 8) 140737488355328) with
  | false => rw [hc] at hx; cases hx
  | true =>
   rw [hc, cond_true, Option.some.injEq] at hx
   subst hx
   rw [Bool.and_eq_true] at hc
   have e := intsB_eq hc.1
   generalize hz : ys.map intOf = zs at e
   have hv : ∃ v, vs = #[v] := by
    obtain ⟨l⟩ := vs
    match l, hl with
    | [v], _ => exact ⟨v, rfl⟩
   obtain ⟨v, rfl⟩ := hv
   obtain ⟨p, u, hp, hu, hrep⟩ := hr 0 _ rfl
   cases hp
   simp at hu
   subst hu
   refine ⟨zs.map (AV.int .i64), zs.map (Value.int .i64), t, by rw [e, List.map_map]; rfl, by simp, fun j a hj => ?_, ?_⟩
   ·rw [List.getElem?_map] at hj ⊢
    cases hl : zs[j]? with
    | none => rw [hl] at hj; cases hj
    | some l =>
     rw [hl] at hj
     simp only [Option.map_some, Option.some.injEq] at hj
     subst hj
     exact ⟨_, rfl, .int _ _, rfl⟩
   ·rw [List.length_map]
    cases hrep with
    | imm0 a cap =>
     have : zs = [] := by rw [← hz]; rfl
     subst this
     cases a with
     | none =>
      refine (h2 0 cap w).mono ?_
      rintro e w' ⟨rfl, rfl⟩
      exact ⟨_, rfl, ⟨rfl, .inl ⟨rfl, rfl⟩⟩, Below.refl _ _⟩
     | some a =>
      refine (h3 a cap w).mono ?_
      rintro e w' ⟨v', rfl, h, _, hB⟩
      exact ⟨v', rfl, h, hB⟩
    | imm _ n b o cap F hcap hn hcl hrr =>
     have hzl : ys.length = zs.length := by rw [← hz, List.length_map]
     rw [hzl]
     refine (h1 b o zs.length cap zs w (Nat.le_refl _) (by rw [← hzl]; exact Nat.le_of_ble_eq_true hc.2) fun j hj => ?_).mono ?_
     ·have hy : ys[j]? = some [AV.int .i64 zs[j]] := by rw [e, List.getElem?_map, List.getElem?_eq_getElem hj]; rfl
      obtain ⟨_, k2, _⟩ := hcl j _ 0 _ hy rfl
      have hn1 : n = 1 := (hn j _ hy).symm
      subst hn1
      have k3 := hrr j _ 0 _ hy rfl
      generalize F j 0 = u at k2 k3
      cases k3
      rw [List.getD_eq_getElem?_getD, List.getElem?_eq_getElem hj, Option.getD_some]
      rw [Nat.mul_one, Nat.add_zero] at k2
      exact k2
     ·rintro e' w' ⟨v', rfl, h, _, hB⟩
      rw [List.take_length] at h
      exact ⟨v', rfl, h, hB⟩
 ·cases hx
end Go.Proofs.Am
namespace Go.Proofs.Am
open Go
variable {cx : Cx}
def growE : List LV → Option LV
 | [.v .nilS, .v (.int .i64 z)] => bif decide (0 ≤ z) && Nat.ble (z.toNat * 8) 281474976710656 then some (.ow 1 []) else none
 | _ => none
theorem grow_ok {f : FuncId} {t : TypeId}
  (h0 : ∀ (w : World), Calls cx.P f #[.slice none 0 0, .int .i64 0] w fun e w' => e = .returned (.slice none 0 0) ∧ w' = w)
  (h1 : ∀ (n : Nat) (w : World), 0 < n → n * 8 ≤ 281474976710656 → Calls cx.P f #[.slice none 0 0, .int .i64 n] w fun e w' =>
   ∃ c : Array Value, e = .returned (.slice (some ⟨w.heap.size, 0, none⟩) 0 c.size) ∧ w' = w.drew.alloc (.cells c t)) : ExtOk cx f growE := by
 intro xs x hx w g vs wf hG hl hr
 unfold growE at hx
 split at hx
 ·rename_i z
  cases hc : (decide (0 ≤ z) && Nat.ble (z.toNat * 8) 281474976710656) with
  | false => rw [hc] at hx; cases hx
  | true =>
   rw [hc, cond_true, Option.some.injEq] at hx
   subst hx
   rw [Bool.and_eq_true] at hc
   have hz := of_decide_eq_true hc.1
   have hb := Nat.le_of_ble_eq_true hc.2
   obtain ⟨n, rfl⟩ := Int.eq_ofNat_of_zero_le hz
   rw [Int.toNat_natCast] at hb
   have hv : vs = #[.slice none 0 0, .int .i64 n] := by
    obtain ⟨l⟩ := vs
    match l, hl with
    | [u, v], _ =>
     obtain ⟨p, u', hp, hu, h2⟩ := hr 0 _ rfl
     obtain ⟨q, v', hq, hv, h3⟩ := hr 1 _ rfl
     cases hp; cases hq
     simp at hu hv
     subst hu; subst hv
     cases h2; cases h3
     rfl
   subst hv
   rcases Nat.eq_zero_or_pos n with rfl | hn
   ·refine (h0 w).mono ?_
    rintro e w' ⟨rfl, rfl⟩
    exact ⟨_, g, rfl, wf, rfl, Tr.refl _ _, fun hd _ _ => Kp.refl _ _ hd, by simp, .emp none⟩
   ·refine (h1 n w hn hb).mono ?_
    rintro e w' ⟨c, rfl, rfl⟩
    have wf' := drew_Wf wf
    refine ⟨_, gNew w.drew g (.res 0), rfl, new_Wf wf' c t (.res 0), rfl, (drew_Tr w g).trans (new_Tr wf' _ _), fun hd h _ => (drew_Kp w g hd).trans (new_Kp wf' _ _ hd) (Nat.le_refl _), by simp, ?_⟩
    refine Own.blk [] w.heap.size c.size c t (0, 0) (fun _ _ => undef) (Nat.zero_le _) (by omega) (fun k x hk => by simp at hk) (alloc_new w.drew _) (.inl rfl) (by omega) (by simp only [gNew]; exact upd_same _ _ _) ?_ (fun k x j a hk => by simp at hk) (fun k x j a hk => by simp at hk)
    show g.sl w.heap.size ≤ _
    rw [wf.sl _ (Nat.le_refl _)]
    exact Nat.zero_le _
 ·cases hx
end Go.Proofs.Am
