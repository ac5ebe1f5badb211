/-
  Steps of the world, and what they keep.
-/
import Derived.Test.YtmgjnbhofkchmaaGreatDoorAmRel
import Derived.Deep.AppendSrc
import Derived.Deep.MidRow
import Derived.Laws.CopyRow

namespace Go.Proofs.Am
open Go

/-- From one moment of a call to a later one. -/
structure Tr (w : World) (g : Gh) (w' : World) (g' : Gh) : Prop where
  le : Le w g w' g'
  size : w.heap.size ≤ w'.heap.size
  oth : ∀ b, b < w.heap.size → g.own b = .oth → w'.heap[b]? = w.heap[b]? ∧ g'.own b = .oth ∧ g'.sl b = g.sl b
  os : w'.os = w.os
  tape : w'.tape = w.tape
  output : w'.output = w.output

theorem Tr.refl (w : World) (g : Gh) : Tr w g w g := ⟨Le.refl _ _, Nat.le_refl _, fun _ _ h => ⟨rfl, h, rfl⟩, rfl, rfl, rfl⟩
theorem Tr.trans {w1 w2 w3 : World} {g1 g2 g3 : Gh} (h : Tr w1 g1 w2 g2) (k : Tr w2 g2 w3 g3) : Tr w1 g1 w3 g3 :=
  ⟨h.le.trans k.le, Nat.le_trans h.size k.size, fun b hb ho => by
    obtain ⟨a1, a2, a3⟩ := h.oth b hb ho
    obtain ⟨c1, c2, c3⟩ := k.oth b (Nat.lt_of_lt_of_le hb h.size) a2
    exact ⟨c1.trans a1, c2, c3.trans a3⟩, k.os.trans h.os, k.tape.trans h.tape, k.output.trans h.output⟩

theorem Kp.refl (w : World) (g : Gh) (hd : Hd) : Kp w g w g hd := ⟨Le.refl _ _, fun _ _ h => ⟨rfl, h, rfl⟩⟩
theorem Kp.trans {w1 w2 w3 : World} {g1 g2 g3 : Gh} {hd : Hd} (h : Kp w1 g1 w2 g2 hd) (k : Kp w2 g2 w3 g3 hd) (hs : w1.heap.size ≤ w2.heap.size) : Kp w1 g1 w3 g3 hd :=
  ⟨h.le.trans k.le, fun b hb ho => by
    obtain ⟨a1, a2, a3⟩ := h.blk b hb ho
    obtain ⟨c1, c2, c3⟩ := k.blk b (Nat.lt_of_lt_of_le hb hs) a2
    exact ⟨c1.trans a1, c2, c3.trans a3⟩⟩

/-- As 'Tr', the world as it was, or no block written; what a result, or an argument, owns stays. -/
structure Qt (w : World) (g : Gh) (w' : World) (g' : Gh) : Prop extends Tr w g w' g' where
  kr : ∀ c, Kp w g w' g' (.res c)
  ka : ∀ k, Kp w g w' g' (.arg k)
theorem Qt.refl (w : World) (g : Gh) : Qt w g w g := ⟨Tr.refl w g, fun _ => Kp.refl w g _, fun _ => Kp.refl w g _⟩
theorem Qt.trans {w1 w2 w3 : World} {g1 g2 g3 : Gh} (h : Qt w1 g1 w2 g2) (k : Qt w2 g2 w3 g3) : Qt w1 g1 w3 g3 :=
  ⟨h.toTr.trans k.toTr, fun c => (h.kr c).trans (k.kr c) h.size, fun c => (h.ka c).trans (k.ka c) h.size⟩

theorem Cl_eq_of_heap {w w' : World} {b j : Nat} (h : w'.heap[b]? = w.heap[b]?) : Cl w' b j = Cl w b j := by simp only [Cl, World.cell?, h]
theorem bsz_eq_of_heap {w w' : World} {b : Nat} (h : w'.heap[b]? = w.heap[b]?) : bsz w' b = bsz w b := by simp only [bsz, h]
theorem heap_lt {w : World} {b : Nat} {o : Obj} (h : w.heap[b]? = some o) : b < w.heap.size := (Array.getElem?_eq_some_iff.1 h).1
theorem bsz_lt {w : World} {b n : Nat} (h : bsz w b = some n) : b < w.heap.size := by
  unfold bsz at h
  split at h
  · rename_i hb; exact heap_lt hb
  · cases h
theorem bsz_of {w : World} {b : Nat} {c : Array Value} {e : TypeId} {f : Nat × Nat} (h : w.heap[b]? = some (.cells c e f)) : bsz w b = some c.size := by simp [bsz, h]
theorem Cl_of {w : World} {b j : Nat} {c : Array Value} {e : TypeId} {f : Nat × Nat} (h : w.heap[b]? = some (.cells c e f)) : Cl w b j = c[j]? := by simp [Cl, World.cell?, h]

/-! ### 1. A new block -/
theorem alloc_heap (w : World) (o : Obj) {b : Nat} (h : b < w.heap.size) : (w.alloc o).heap[b]? = w.heap[b]? := by
  show (w.heap.push o)[b]? = _
  rw [Array.getElem?_push, if_neg (by omega)]
theorem alloc_new (w : World) (o : Obj) : (w.alloc o).heap[w.heap.size]? = some o := by show (w.heap.push o)[w.heap.size]? = _; simp

theorem Le_of {w w' : World} {g g' : Gh} (wf : Wf w g) (hh : ∀ b, b < w.heap.size → w'.heap[b]? = w.heap[b]?) (hs : g'.sl = g.sl) (hn : g.nb ≤ g'.nb) (hm : ∀ id, id < g.nb → g'.bm id = g.bm id) : Le w g w' g' :=
  ⟨fun b => by rw [hs]; exact Nat.le_refl _, fun b j hj => by
    have hb : b < w.heap.size := by
      rcases Nat.lt_or_ge b w.heap.size with h | h
      · exact h
      · rw [wf.sl b h] at hj; omega
    exact Cl_eq_of_heap (hh b hb), hn, hm, fun b n hb => by rw [bsz_eq_of_heap (hh b (bsz_lt hb))]; exact hb⟩

/-- The ghost state behind a new block of a holder's. -/
def gNew (w : World) (g : Gh) (hd : Hd) : Gh := { g with own := upd g.own w.heap.size hd }

theorem upd_same {α : Type} (t : Nat → α) (d : Nat) (x : α) : upd t d x d = x := by simp [upd]
theorem upd_ne {α : Type} (t : Nat → α) {d j : Nat} (x : α) (h : j ≠ d) : upd t d x j = t j := by
  have e : Nat.beq j d = false := by
    cases hb : Nat.beq j d with
    | false => rfl
    | true => exact absurd (Nat.eq_of_beq_eq_true hb) h
  simp [upd, e]

theorem new_Le {w : World} {g : Gh} (wf : Wf w g) (o : Obj) (hd : Hd) : Le w g (w.alloc o) (gNew w g hd) :=
  Le_of wf (fun _ h => alloc_heap w o h) rfl (Nat.le_refl _) (fun _ _ => rfl)
theorem new_Kp {w : World} {g : Gh} (wf : Wf w g) (o : Obj) (hd hd' : Hd) : Kp w g (w.alloc o) (gNew w g hd) hd' :=
  ⟨new_Le wf o hd, fun b hb h => ⟨alloc_heap w o hb, by simp only [gNew]; rw [upd_ne _ _ (by omega)]; exact h, rfl⟩⟩
theorem new_Tr {w : World} {g : Gh} (wf : Wf w g) (o : Obj) (hd : Hd) : Tr w g (w.alloc o) (gNew w g hd) :=
  ⟨new_Le wf o hd, by simp, fun b hb h => ⟨alloc_heap w o hb, by simp only [gNew]; rw [upd_ne _ _ (by omega)]; exact h, rfl⟩, rfl, rfl, rfl⟩
theorem new_Wf {w : World} {g : Gh} (wf : Wf w g) (c : Array Value) (e : TypeId) (hd : Hd) (fz : Nat × Nat := (0, 0)) : Wf (w.alloc (.cells c e fz)) (gNew w g hd) := by
  refine ⟨fun b hb => ?_, fun b hb => wf.sl b (by simp at hb; omega), fun b hb => ?_⟩
  · simp at hb
    simp only [gNew]; rw [upd_ne _ _ (by omega)]; exact wf.own b (by omega)
  · by_cases e1 : b = w.heap.size
    · subst e1
      exact ⟨c.size, by rw [bsz_of (alloc_new w _)], by show g.sl _ ≤ _; rw [wf.sl _ (Nat.le_refl _)]; omega⟩
    · have ho : g.own b ≠ .oth := by simpa [gNew, upd_ne _ _ e1] using hb
      have hlt : b < w.heap.size := by
        rcases Nat.lt_or_ge b w.heap.size with h | h
        · exact h
        · exact absurd (wf.own b h) ho
      obtain ⟨n, h1, h2⟩ := wf.fit b ho
      exact ⟨n, by rw [bsz_eq_of_heap (alloc_heap w _ hlt)]; exact h1, h2⟩

/-! ### 2. A draw -/
theorem drew_Le (w : World) (g : Gh) : Le w g w.drew g := ⟨fun _ => Nat.le_refl _, fun _ _ _ => rfl, Nat.le_refl _, fun _ _ => rfl, fun _ _ h => h⟩
theorem drew_Kp (w : World) (g : Gh) (hd : Hd) : Kp w g w.drew g hd := ⟨drew_Le w g, fun _ _ h => ⟨rfl, h, rfl⟩⟩
theorem drew_Tr (w : World) (g : Gh) : Tr w g w.drew g := ⟨drew_Le w g, Nat.le_refl _, fun _ _ h => ⟨rfl, h, rfl⟩, rfl, rfl, rfl⟩
theorem drew_Wf {w : World} {g : Gh} (wf : Wf w g) : Wf w.drew g := ⟨wf.own, wf.sl, wf.fit⟩

/-! ### 3. A block that is written: of one holder's; what was sealed of it stays -/
def gMove (g : Gh) (b : Nat) (hd : Hd) : Gh := { g with own := upd g.own b hd }

section
variable {w : World} {g : Gh} {b : Nat} {c c' : Array Value} {e : TypeId} {f : Nat × Nat}

theorem row_heap (hb : w.heap[b]? = some (.cells c e f)) : (w.setRow b c').heap[b]? = some (.cells c' e f) := setRow_heap w b c c' e f hb
theorem row_size (w : World) (b : Nat) (c' : Array Value) : (w.setRow b c').heap.size = w.heap.size := by simp [World.setRow]

theorem row_Le (hb : w.heap[b]? = some (.cells c e f)) (hz : c'.size = c.size) (hk : ∀ j, j < g.sl b → c'[j]? = c[j]?) (hd : Hd) : Le w g (w.setRow b c') (gMove g b hd) := by
  refine ⟨fun _ => Nat.le_refl _, fun k j hj => ?_, Nat.le_refl _, fun _ _ => rfl, fun k n hn => ?_⟩
  · by_cases h : k = b
    · subst h; rw [Cl_of (row_heap hb), Cl_of hb]; exact hk j hj
    · exact Cl_eq_of_heap (setRow_other w b k c' h)
  · by_cases h : k = b
    · subst h; rw [bsz_of (row_heap hb)]; rw [bsz_of hb] at hn; rw [hz]; exact hn
    · rw [bsz_eq_of_heap (setRow_other w b k c' h)]; exact hn
theorem row_Kp (hb : w.heap[b]? = some (.cells c e f)) (hz : c'.size = c.size) (hk : ∀ j, j < g.sl b → c'[j]? = c[j]?) (hd : Hd) {hd' : Hd} (hne : hd' ≠ g.own b) : Kp w g (w.setRow b c') (gMove g b hd) hd' :=
  ⟨row_Le hb hz hk hd, fun k _ ho => by
    have h : k ≠ b := fun h => hne (by rw [← h]; exact ho.symm)
    exact ⟨setRow_other w b k c' h, by simp only [gMove]; rw [upd_ne _ _ h]; exact ho, rfl⟩⟩
theorem row_Tr (hb : w.heap[b]? = some (.cells c e f)) (hz : c'.size = c.size) (hk : ∀ j, j < g.sl b → c'[j]? = c[j]?) (hd : Hd) (ho : g.own b ≠ .oth) : Tr w g (w.setRow b c') (gMove g b hd) :=
  ⟨row_Le hb hz hk hd, by rw [row_size]; exact Nat.le_refl _, fun k _ hk' => by
    have h : k ≠ b := fun h => ho (by rw [← h]; exact hk')
    exact ⟨setRow_other w b k c' h, by simp only [gMove]; rw [upd_ne _ _ h]; exact hk', rfl⟩, rfl, rfl, rfl⟩
theorem row_Wf (wf : Wf w g) (hb : w.heap[b]? = some (.cells c e f)) (hz : c'.size = c.size) (hd : Hd) (ho : g.own b ≠ .oth) : Wf (w.setRow b c') (gMove g b hd) := by
  have hlt := heap_lt hb
  refine ⟨fun k hk => ?_, fun k hk => wf.sl k (by rw [row_size] at hk; exact hk), fun k hk => ?_⟩
  · rw [row_size] at hk
    simp only [gMove]; rw [upd_ne _ _ (by omega)]; exact wf.own k hk
  · by_cases h : k = b
    · subst h
      obtain ⟨n, h1, h2⟩ := wf.fit k ho
      rw [bsz_of hb] at h1
      exact ⟨c'.size, bsz_of (row_heap hb), by show g.sl k ≤ _; injection h1 with h1; omega⟩
    · have hk' : g.own k ≠ .oth := by simpa [gMove, upd_ne _ _ h] using hk
      obtain ⟨n, h1, h2⟩ := wf.fit k hk'
      exact ⟨n, by rw [bsz_eq_of_heap (setRow_other w b k c' h)]; exact h1, h2⟩
end

/-! ### 4. Another holder, and a seal -/
/-- The first k cells of a block are sealed. -/
def gSeal (g : Gh) (b k : Nat) : Gh := { g with sl := upd g.sl b (max (g.sl b) k) }
theorem sea_Le (w : World) (g : Gh) (b k : Nat) : Le w g w (gSeal g b k) :=
  ⟨fun j => by
    by_cases h : j = b
    · subst h; simp only [gSeal, upd_same]; omega
    · simp only [gSeal]; rw [upd_ne _ _ h]; exact Nat.le_refl _, fun _ _ _ => rfl, Nat.le_refl _, fun _ _ => rfl, fun _ _ h => h⟩
theorem sea_Kp (w : World) (g : Gh) (b k : Nat) {hd : Hd} (hne : hd ≠ g.own b) : Kp w g w (gSeal g b k) hd :=
  ⟨sea_Le w g b k, fun j _ ho => by
    have h : j ≠ b := fun h => hne (by rw [← h]; exact ho.symm)
    exact ⟨rfl, ho, by simp only [gSeal]; rw [upd_ne _ _ h]⟩⟩
theorem sea_Tr (w : World) (g : Gh) (b k : Nat) (ho : g.own b ≠ .oth) : Tr w g w (gSeal g b k) :=
  ⟨sea_Le w g b k, Nat.le_refl _, fun j _ hj => by
    have h : j ≠ b := fun h => ho (by rw [← h]; exact hj)
    exact ⟨rfl, hj, by simp only [gSeal]; rw [upd_ne _ _ h]⟩, rfl, rfl, rfl⟩
theorem sea_Wf {w : World} {g : Gh} (wf : Wf w g) (b k : Nat) (ho : g.own b ≠ .oth) (n : Nat) (hn : bsz w b = some n) (hk : k ≤ n) : Wf w (gSeal g b k) := by
  refine ⟨wf.own, fun j hj => ?_, fun j hj => ?_⟩
  · have := bsz_lt hn
    simp only [gSeal]; rw [upd_ne _ _ (by omega)]; exact wf.sl j hj
  · obtain ⟨m, h1, h2⟩ := wf.fit j hj
    refine ⟨m, h1, ?_⟩
    by_cases h : j = b
    · subst h; rw [hn] at h1; injection h1 with h1; subst h1; simp only [gSeal, upd_same]; omega
    · simp only [gSeal]; rw [upd_ne _ _ h]; exact h2

end Go.Proofs.Am
