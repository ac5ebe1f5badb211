/-
  Contracts that tell a row in a block of its own (slices.Clone), as calls of the abstract machine.
-/
import Derived.Test.YtmgjnbhofkchmaaGreatDoorAmExt
import Derived.Laws.AppendOwn
import Derived.Below

namespace Go.Proofs.Am
open Go Go.RowKit

/-- A block among the new ones that nobody is to write. -/
def gAt (g : Gh) (b n : Nat) : Gh := { g with sl := upd g.sl b n }
section
variable {w w' : World} {g : Gh} {b n : Nat}
theorem at_Le (wf : Wf w g) (hb : w.heap.size ≤ b) (h : Below w.heap.size w w') : Le w g w' (gAt g b n) := by
  refine ⟨fun c => ?_, fun c j hj => ?_, Nat.le_refl _, fun _ _ => rfl, fun c k hc => ?_⟩
  · by_cases e : c = b
    · subst e; rw [wf.sl _ hb]; exact Nat.zero_le _
    · simp only [gAt]; rw [upd_ne _ _ e]; exact Nat.le_refl _
  · have hc : c < w.heap.size := by
      rcases Nat.lt_or_ge c w.heap.size with h | h
      · exact h
      · rw [wf.sl c h] at hj; omega
    exact Cl_eq_of_heap (h.block c hc)
  · rw [bsz_eq_of_heap (h.block c (bsz_lt hc))]; exact hc
theorem at_Tr (wf : Wf w g) (hb : w.heap.size ≤ b) (h : Below w.heap.size w w') : Tr w g w' (gAt g b n) :=
  ⟨at_Le wf hb h, h.size, fun c hc ho => ⟨h.block c hc, ho, by simp only [gAt]; rw [upd_ne _ _ (by omega)]⟩, h.os, h.tape, h.output⟩
theorem at_Kp (wf : Wf w g) (hb : w.heap.size ≤ b) (h : Below w.heap.size w w') (hd : Hd) : Kp w g w' (gAt g b n) hd :=
  ⟨at_Le wf hb h, fun c hc ho => ⟨h.block c hc, ho, by simp only [gAt]; rw [upd_ne _ _ (by omega)]⟩⟩
theorem at_Wf (wf : Wf w g) (hb : w.heap.size ≤ b) (h : Below w.heap.size w w') (hn : b < w'.heap.size ∨ n = 0) : Wf w' (gAt g b n) := by
  refine ⟨fun c hc => wf.own c (Nat.le_trans h.size hc), fun c hc => ?_, fun c hc => ?_⟩
  · by_cases e : c = b
    · subst e
      rcases hn with hn | hn
      · omega
      · simp only [gAt, upd_same, hn]
    · simp only [gAt]; rw [upd_ne _ _ e]; exact wf.sl c (Nat.le_trans h.size hc)
  · have hlt : c < w.heap.size := by
      rcases Nat.lt_or_ge c w.heap.size with h | h
      · exact h
      · exact absurd (wf.own c h) hc
    obtain ⟨k, h1, h2⟩ := wf.fit c hc
    exact ⟨k, by rw [bsz_eq_of_heap (h.block c hlt)]; exact h1, by simp only [gAt]; rw [upd_ne _ _ (by omega)]; exact h2⟩
end

variable {cx : Cx}
/-- Lists of numbers. -/
def intsB (xs : List (List AV)) : Bool := xs.all fun | [.int .i64 _] => true | _ => false
def intOf : List AV → Int
  | [.int .i64 z] => z
  | _ => 0
theorem intsB_eq {xs : List (List AV)} (h : intsB xs = true) : xs = (xs.map intOf).map fun z => [AV.int .i64 z] := by
  induction xs with
  | nil => rfl
  | cons x xs ih =>
    simp only [intsB, List.all_cons, Bool.and_eq_true] at h
    rw [List.map_cons, List.map_cons, ← ih h.2]
    have h1 := h.1
    split at h1
    · rfl
    · cases h1
def cloneE : List LV → Option LV
  | [.v (.imm xs)] => bif intsB xs && Nat.ble (xs.length * 8) 140737488355328 then some (.v (.imm xs)) else none
  | _ => none
end Go.Proofs.Am

/-
  slices.Clone of numbers, its row in a box of the heap.
-/
namespace Go.Proofs.Am
open Go Go.RowKit

/-- A block among the new ones is a heap's box. -/
def gBox (g : Gh) (b : Nat) : Gh := { g with own := upd g.own b (.hbox g.nb), nb := g.nb + 1, bm := upd g.bm g.nb b }
section
variable {w w' : World} {g : Gh} {b : Nat}
theorem box_Le (wf : Wf w g) (h : Below w.heap.size w w') : Le w g w' (gBox g b) := by
  refine ⟨fun c => Nat.le_refl _, fun c j hj => ?_, by simp [gBox], fun id hi => by simp only [gBox]; rw [upd_ne _ _ (by omega)], fun c k hc => ?_⟩
  · have hc : c < w.heap.size := by
      rcases Nat.lt_or_ge c w.heap.size with h | h
      · exact h
      · rw [wf.sl c h] at hj; omega
    exact Cl_eq_of_heap (h.block c hc)
  · rw [bsz_eq_of_heap (h.block c (bsz_lt hc))]; exact hc
theorem box_Tr (wf : Wf w g) (hb : w.heap.size ≤ b) (h : Below w.heap.size w w') : Tr w g w' (gBox g b) :=
  ⟨box_Le wf h, h.size, fun c hc ho => ⟨h.block c hc, by simp only [gBox]; rw [upd_ne _ _ (by omega)]; exact ho, rfl⟩, h.os, h.tape, h.output⟩
theorem box_Kp (wf : Wf w g) (hb : w.heap.size ≤ b) (h : Below w.heap.size w w') (hd : Hd) : Kp w g w' (gBox g b) hd :=
  ⟨box_Le wf h, fun c hc ho => ⟨h.block c hc, by simp only [gBox]; rw [upd_ne _ _ (by omega)]; exact ho, rfl⟩⟩
theorem box_Wf (wf : Wf w g) (hb : w.heap.size ≤ b) (h : Below w.heap.size w w') {n : Nat} (hn : bsz w' b = some n) : Wf w' (gBox g b) := by
  have hlt := bsz_lt hn
  refine ⟨fun c hc => ?_, fun c hc => wf.sl c (Nat.le_trans h.size hc), fun c hc => ?_⟩
  · simp only [gBox]; rw [upd_ne _ _ (by omega)]; exact wf.own c (Nat.le_trans h.size hc)
  · by_cases e : c = b
    · subst e
      exact ⟨n, hn, by show g.sl c ≤ n; rw [wf.sl c hb]; omega⟩
    · have ho : g.own c ≠ .oth := by simpa [gBox, upd_ne _ _ e] using hc
      have hc' : c < w.heap.size := by
        rcases Nat.lt_or_ge c w.heap.size with h | h
        · exact h
        · exact absurd (wf.own c h) ho
      obtain ⟨k, h1, h2⟩ := wf.fit c ho
      exact ⟨k, by rw [bsz_eq_of_heap (h.block c hc')]; exact h1, h2⟩
/-- The heap behind it. -/
theorem box_heap (wf : Wf w g) {hp : Heap} (hh : HeapOk w g hp) (hb : w.heap.size ≤ b) (h : Below w.heap.size w w') {c : Array Value} {e : TypeId} (hc : w'.heap[b]? = some (.cells c e (0, 0)))
    (l : List LV) (hl : l.length ≤ c.size) (hx : ∀ (j : Nat) (x : LV), l[j]? = some x → ∃ u, c[j]? = some u ∧ RepC w' (gBox g b) .oth x u) (ho : ∀ (j : Nat) (x : LV), l[j]? = some x → ∃ a, x = .v a) : HeapOk w' (gBox g b) (newB hp l) := by
  have K := fun hd => box_Kp wf hb h hd
  refine ⟨by simp [gBox, newB, hh.1], fun id bx hid hne => ?_⟩
  simp only [newB] at hid
  by_cases hlt : id < hp.bx.length
  · rw [List.getElem?_append_left hlt] at hid
    obtain ⟨h2, h3, c', e', h4, h5, h6⟩ := hh.2 id bx hid hne
    have hbm : (gBox g b).bm id = g.bm id := by simp only [gBox]; rw [upd_ne _ _ (by have := hh.1; omega)]
    obtain ⟨a1, a2, a3⟩ := (K (.hbox id)).blk _ (heap_lt h4) h2
    rw [hbm]
    exact ⟨a2, a3.trans h3, c', e', a1.trans h4, h5, fun j x hj => by
      obtain ⟨u, hu, hr⟩ := h6 j x hj
      exact ⟨u, hu, hr.mono (K _)⟩⟩
  · rw [List.getElem?_append_right (by omega)] at hid
    have hid0 : id = hp.bx.length := by
      have := (List.getElem?_eq_some_iff.1 hid).1
      simp at this; omega
    subst hid0
    simp only [Nat.sub_self, List.getElem?_cons_zero, Option.some.injEq] at hid
    subst hid
    have hbm : (gBox g b).bm hp.bx.length = b := by simp only [gBox]; rw [hh.1, upd_same]
    rw [hbm]
    refine ⟨by simp only [gBox, upd_same, hh.1], by show g.sl _ = 0; exact wf.sl _ hb, c, e, hc, hl, fun j x hj => ?_⟩
    obtain ⟨u, hu, hr⟩ := hx j x hj
    obtain ⟨a, rfl⟩ := ho j x hj
    exact ⟨u, hu, hr⟩
end

variable {cx : Cx}
def cloneH : List LV → Heap → Option (LV × Heap)
  | [.v (.imm xs)], h => bif intsB xs && Nat.ble (xs.length * 8) 140737488355328 then
      (match xs with
       | [] => some (.v (.imm []), h)
       | x :: xs => some (.v (.arr 1 h.bx.length 0 (xs.length + 1)), newB h (flatV (x :: xs)))) else none
  | _, _ => none
theorem flat_ints (zs : List Int) : flatV (zs.map fun z => [AV.int .i64 z]) = zs.map fun z => LV.v (.int .i64 z) := by
  induction zs with
  | nil => rfl
  | cons z zs ih =>
    unfold flatV at ih ⊢
    simp only [List.map_cons, List.flatten_cons, List.singleton_append]
    rw [ih]
/-- slices.Clone of numbers, by its three contracts. -/
theorem cloneH_ok {f : FuncId} {t : TypeId}
    (h1 : ∀ (b off n c : Nat) (zs : List Int) (w : World), n ≤ zs.length → n * 8 ≤ 140737488355328 → (∀ j, j < zs.length → w.cell? ⟨b, off + j, none⟩ = some (.int .i64 (zs.getD j 0))) →
      Calls cx.P f #[.slice (some ⟨b, off, none⟩) n c] w fun e w' => ∃ v', e = .returned v' ∧ w'.ownsRow w.heap.size t 1 v' n ((zs.take n).map (Value.int .i64)) ∧ v' ≠ .slice none 0 0 ∧ Below w.heap.size w w')
    (h2 : ∀ (n c : Nat) (w : World), Calls cx.P f #[.slice none n c] w fun e w' => e = .returned (.slice none 0 0) ∧ w' = w)
    (h3 : ∀ (a : Addr) (c : Nat) (w : World), Calls cx.P f #[.slice (some a) 0 c] w fun e w' => ∃ v', e = .returned v' ∧ w'.ownsRow w.heap.size t 1 v' 0 [] ∧ v' ≠ .slice none 0 0 ∧ Below w.heap.size w w') : ExhOk cx f cloneH := by
  intro xs h x h' hx w g vs wf hH hG hl hr
  unfold cloneH at hx
  split at hx
  · rename_i ys
    cases hc : (intsB ys && Nat.ble (ys.length * 8) 140737488355328) with
    | false => rw [hc] at hx; cases hx
    | true =>
      rw [hc, cond_true] at hx
      rw [Bool.and_eq_true] at hc
      have hv : ∃ v, vs = #[v] := by
        obtain ⟨l⟩ := vs
        match l, hl with
        | [v], _ => exact ⟨v, rfl⟩
      obtain ⟨v, rfl⟩ := hv
      obtain ⟨p, u, hpe, hu, hrep⟩ := hr 0 _ rfl
      cases hpe
      simp at hu
      subst hu
      cases hrep with
      | imm0 a cap =>
        simp only [Option.some.injEq, Prod.mk.injEq] at hx
        obtain ⟨rfl, rfl⟩ := hx
        have keep : ∀ {w' : World}, Below w.heap.size w w' → HeapOk w' (gAt g w.heap.size 0) h := fun hB => hH.keep rfl (fun _ => at_Kp wf (Nat.le_refl _) hB _) (fun _ _ => at_Kp wf (Nat.le_refl _) hB _)
        cases a with
        | none =>
          refine (h2 0 cap w).mono ?_
          rintro e w' ⟨rfl, rfl⟩
          exact ⟨_, rfl, gAt g w'.heap.size 0, at_Wf wf (Nat.le_refl _) (Below.refl _ _) (.inr rfl), at_Tr wf (Nat.le_refl _) (Below.refl _ _), keep (Below.refl _ _), .imm0 none 0⟩
        | some a =>
          refine (h3 a cap w).mono ?_
          rintro e w' ⟨v', rfl, ⟨_, hrow⟩, _, hB⟩
          refine ⟨v', rfl, gAt g w.heap.size 0, at_Wf wf (Nat.le_refl _) hB (.inr rfl), at_Tr wf (Nat.le_refl _) hB, keep hB, ?_⟩
          rcases hrow with ⟨rfl, _⟩ | ⟨b, cp, cur, rfl, _⟩
          · exact .imm0 none 0
          · exact .imm0 _ _
      | imm _ n b o cap F hcap hn hcl hrr =>
        have e := intsB_eq hc.1
        generalize hz : ys.map intOf = zs at e
        have hzl : ys.length = zs.length := by rw [← hz, List.length_map]
        cases hy : ys with
        | nil =>
          subst hy
          simp only [Option.some.injEq, Prod.mk.injEq] at hx
          obtain ⟨rfl, rfl⟩ := hx
          have hz0 : zs = [] := by rw [← hz]; rfl
          have keep : ∀ {w' : World}, Below w.heap.size w w' → HeapOk w' (gAt g w.heap.size 0) h := fun hB => hH.keep rfl (fun _ => at_Kp wf (Nat.le_refl _) hB _) (fun _ _ => at_Kp wf (Nat.le_refl _) hB _)
          refine (h3 ⟨b, o, none⟩ cap w).mono ?_
          rintro e w' ⟨v', rfl, ⟨_, hrow⟩, _, hB⟩
          refine ⟨v', rfl, gAt g w.heap.size 0, at_Wf wf (Nat.le_refl _) hB (.inr rfl), at_Tr wf (Nat.le_refl _) hB, keep hB, ?_⟩
          rcases hrow with ⟨rfl, _⟩ | ⟨b, cp, cur, rfl, _⟩
          · exact .imm0 none 0
          · exact .imm0 _ _
        | cons y0 ys0 =>
          rw [hy] at hx
          simp only [Option.some.injEq, Prod.mk.injEq] at hx
          obtain ⟨rfl, rfl⟩ := hx
          rw [show (y0 :: ys0).length = zs.length by rw [← hy]; exact hzl]
          refine (h1 b o zs.length cap zs w (Nat.le_refl _) (by rw [← hzl]; exact Nat.le_of_ble_eq_true hc.2) fun j hj => ?_).mono ?_
          · have hyj : ys[j]? = some [AV.int .i64 zs[j]] := by rw [e, List.getElem?_map, List.getElem?_eq_getElem hj]; rfl
            obtain ⟨_, k2, _⟩ := hcl j _ 0 _ hyj rfl
            have hn1 : n = 1 := (hn j _ hyj).symm
            subst hn1
            have k3 := hrr j _ 0 _ hyj rfl
            generalize F j 0 = u at k2 k3
            cases k3
            rw [List.getD_eq_getElem?_getD, List.getElem?_eq_getElem hj, Option.getD_some]
            rw [Nat.mul_one, Nat.add_zero] at k2
            exact k2
          · rintro e' w' ⟨v', rfl, ⟨_, hrow⟩, hne, hB⟩
            rw [List.take_length] at hrow
            have hlen : zs.length = ys0.length + 1 := by rw [← hzl, hy]; rfl
            rcases hrow with ⟨rfl, h0⟩ | ⟨b', cp, cur, rfl, hb, hheap, hcp, _, hsz, hcur⟩
            · exact absurd rfl hne
            · have hfl : flatV (y0 :: ys0) = zs.map fun z => LV.v (.int .i64 z) := by rw [← hy, e, flat_ints]
              have hbs : bsz w' b' = some cur.size := bsz_of hheap
              refine ⟨_, rfl, gBox g b', box_Wf wf hb hB hbs, box_Tr wf hb hB, ?_, ?_⟩
              · rw [hfl]
                refine box_heap wf hH hb hB hheap _ (by rw [List.length_map]; omega) (fun j x hj => ?_) (fun j x hj => ?_)
                · rw [List.getElem?_map] at hj
                  cases hzj : zs[j]? with
                  | none => rw [hzj] at hj; cases hj
                  | some z =>
                    rw [hzj] at hj
                    simp only [Option.map_some, Option.some.injEq] at hj
                    subst hj
                    refine ⟨.int .i64 z, ?_, .int _ _, rfl⟩
                    have hlt := (List.getElem?_eq_some_iff.1 hzj).1
                    have hcj : (cur.toList.take (zs.length * 1))[j]? = some (Value.int .i64 z) := by rw [hcur, List.getElem?_map, hzj]; rfl
                    rw [List.getElem?_take_of_lt (by omega)] at hcj
                    simpa using hcj
                · rw [List.getElem?_map] at hj
                  cases hzj : zs[j]? with
                  | none => rw [hzj] at hj; cases hj
                  | some z =>
                    rw [hzj] at hj
                    simp only [Option.map_some, Option.some.injEq] at hj
                    exact ⟨_, hj.symm⟩
              · have hbm : (gBox g b').bm h.bx.length = b' := by simp only [gBox]; rw [hH.1, upd_same]
                have := Rep.arr (w := w') (g := gBox g b') 1 h.bx.length 0 (ys0.length + 1) cp (by simp [gBox, hH.1]) (by omega) (by rw [hbm, hbs, hsz, Nat.zero_add])
                rw [hbm] at this
                rw [hlen]
                exact this
  · cases hx
end Go.Proofs.Am
