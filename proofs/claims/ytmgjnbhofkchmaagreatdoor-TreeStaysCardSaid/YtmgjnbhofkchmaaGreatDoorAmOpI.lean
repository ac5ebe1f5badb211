/-
  Local boxes and heap boxes that are made.
-/
import Derived.Test.YtmgjnbhofkchmaaGreatDoorAmOpH

namespace Go.Proofs.Am
open Go

variable {R : Type} {P : Program} {nt : Nat} {o : Oper} {st : St} {a : Act} {w : World} {g : Gh} {lm : Nat → Nat} {K : LV → St → Option R} {r : R}

theorem stN_get (m : Nat → Nat → LV) (i off : Nat) (f : Nat → LV) : ∀ (n i' c : Nat), stN m i off f n i' c = if i' = i ∧ off ≤ c ∧ c < off + n then f (c - off) else m i' c
  | 0, i', c => by rw [if_neg (by omega)]; rfl
  | n + 1, i', c => by
    simp only [stN, upd2]
    by_cases h1 : i' = i ∧ c = off + n
    · obtain ⟨rfl, rfl⟩ := h1
      rw [Nat.beq_refl, Nat.beq_refl, if_pos (by omega)]
      simp
    · have : (Nat.beq i' i && Nat.beq c (off + n)) = false := by
        rw [Bool.and_eq_false_iff]
        by_cases h2 : i' = i
        · right
          rw [Bool.eq_false_iff]
          intro h3; exact h1 ⟨h2, Nat.eq_of_beq_eq_true h3⟩
        · left
          rw [Bool.eq_false_iff]
          intro h3; exact h2 (Nat.eq_of_beq_eq_true h3)
      rw [this, cond_false, stN_get m i off f n i' c]
      by_cases h2 : i' = i ∧ off ≤ c ∧ c < off + n
      · rw [if_pos h2, if_pos (by omega)]
      · rw [if_neg h2, if_neg (by omega)]

theorem upd2_get (m : Nat → Nat → LV) (i c : Nat) (x : LV) (i' c' : Nat) : upd2 m i c x i' c' = if i' = i ∧ c' = c then x else m i' c' := by
  have := stN_get m i c (fun _ => x) 1 i' c'
  simp only [stN, Nat.add_zero] at this
  rw [this]
  by_cases h : i' = i ∧ c' = c
  · rw [if_pos h, if_pos (by omega)]
  · rw [if_neg h, if_neg (by omega)]

theorem RepV.more {nl : Nat} {hd : Nat → Hd} {x : LV} {v : Value} (b : Nat) (h : RepV w g lm nl hd x v) : RepV w g (upd lm nl b) (nl + 1) hd x v := by
  cases x <;> simp only [RepV] at h ⊢ <;> try exact h
  obtain ⟨h1, h2⟩ := h
  exact ⟨by omega, by rw [upd_ne _ _ (by omega)]; exact h2⟩

/-- A new local box. -/
theorem SR.new_box (hs : SR nt st a w g lm) (c : Array Value) (e : TypeId) (f : Nat → LV) (n : Nat) (hz : c.size = n) (hc : ∀ j, j < n → ∃ u, c[j]? = some u ∧ RepZ w g (f j) u) :
    SR nt { st with m := stN st.m st.nl 0 f n, z := upd st.z st.nl n, nl := st.nl + 1 } a (w.alloc (.cells c e)) (gNew w g (.box st.nl)) (upd lm st.nl w.heap.size) ∧
      Tr w g (w.alloc (.cells c e)) (gNew w g (.box st.nl)) := by
  have K := fun hd => new_Kp hs.wf (.cells c e) (.box st.nl) hd
  have s1 := hs.new c e (.box st.nl)
  refine ⟨⟨s1.wf, s1.nt, s1.df, fun j => (s1.tm j).more _, fun i hi => ?_, s1.hp⟩, new_Tr hs.wf _ _⟩
  by_cases hin : i = st.nl
  · subst hin
    simp only [upd_same] at hi ⊢
    refine ⟨by omega, by simp only [gNew, upd_same], by show g.sl _ = 0; exact hs.wf.sl _ (Nat.le_refl _), c, e, alloc_new w _, hz, fun j hj => ?_⟩
    obtain ⟨u, hu, hr⟩ := hc j hj
    refine ⟨u, hu, ?_⟩
    rw [stN_get, if_pos (by omega)]
    exact (hr.mono (K .oth).le).repC (by simp)
  · simp only [upd_ne _ _ hin] at hi ⊢
    obtain ⟨h1, h2, h3, c', e', h4, h5, h6⟩ := s1.bx i hi
    refine ⟨by show i < st.nl + 1; have : i < st.nl := h1; omega, h2, h3, c', e', h4, h5, fun j hj => ?_⟩
    rw [stN_get, if_neg (by omega)]
    exact h6 j hj

/-- The ghost state behind a new heap box. -/
def gHeap (w : World) (g : Gh) : Gh := { g with own := upd g.own w.heap.size (.hbox g.nb), nb := g.nb + 1, bm := upd g.bm g.nb w.heap.size }
theorem heap_Le {w : World} {g : Gh} (wf : Wf w g) (o : Obj) : Le w g (w.alloc o) (gHeap w g) :=
  Le_of wf (fun _ h => alloc_heap w o h) rfl (by simp [gHeap]) (fun id h => by simp only [gHeap]; rw [upd_ne _ _ (by omega)])
theorem heap_Kp {w : World} {g : Gh} (wf : Wf w g) (o : Obj) (hd' : Hd) : Kp w g (w.alloc o) (gHeap w g) hd' :=
  ⟨heap_Le wf o, fun b hb h => ⟨alloc_heap w o hb, by simp only [gHeap]; rw [upd_ne _ _ (by omega)]; exact h, rfl⟩⟩
theorem heap_Tr {w : World} {g : Gh} (wf : Wf w g) (o : Obj) : Tr w g (w.alloc o) (gHeap w g) :=
  ⟨heap_Le wf o, by simp, fun b hb h => ⟨alloc_heap w o hb, by simp only [gHeap]; rw [upd_ne _ _ (by omega)]; exact h, rfl⟩, rfl, rfl, rfl⟩
theorem heap_Wf {w : World} {g : Gh} (wf : Wf w g) (c : Array Value) (e : TypeId) : Wf (w.alloc (.cells c e)) (gHeap w g) :=
  ⟨(new_Wf wf c e (.hbox g.nb)).own, (new_Wf wf c e (.hbox g.nb)).sl, (new_Wf wf c e (.hbox g.nb)).fit⟩

/-- A new heap box, 'g1' having been the ghost state when its cells were known. -/
theorem SR.new_heap (hs : SR nt st a w g lm) (c : Array Value) (e : TypeId) (cs : List LV) (hz : cs.length ≤ c.size) (hc : ∀ (j : Nat) (x : LV), cs[j]? = some x → ∃ u, c[j]? = some u ∧ RepZ w g x u) :
    SR nt { st with h := newB st.h cs } a (w.alloc (.cells c e)) (gHeap w g) lm ∧ Tr w g (w.alloc (.cells c e)) (gHeap w g) ∧
      Rep (w.alloc (.cells c e)) (gHeap w g) (.ptr st.h.bx.length 0) (.pointer (some ⟨w.heap.size, 0, none⟩)) := by
  have K := fun hd => heap_Kp hs.wf (.cells c e) hd
  have hnb := hs.hp.1
  refine ⟨⟨heap_Wf hs.wf c e, hs.nt, hs.df, fun j => (hs.tm j).mono (fun c => K _), hs.bx.keep (fun _ => K _) (fun _ _ => K _), ⟨?_, fun id bx hid hne => ?_⟩⟩, heap_Tr hs.wf _, ?_⟩
  · simp [gHeap, newB, hnb]
  · simp only [newB] at hid
    by_cases hlt : id < st.h.bx.length
    · rw [List.getElem?_append_left hlt] at hid
      obtain ⟨h2, h3, c', e', h4, h5, h6⟩ := hs.hp.2 id bx hid hne
      have hbm : (gHeap w g).bm id = g.bm id := by simp only [gHeap]; rw [upd_ne _ _ (by omega)]
      obtain ⟨a1, a2, a3⟩ := (K (.hbox id)).blk _ (heap_lt h4) h2
      rw [hbm]
      exact ⟨a2, a3.trans h3, c', e', a1.trans h4, h5, fun j x hj => by
        obtain ⟨u, hu, hr⟩ := h6 j x hj
        exact ⟨u, hu, hr.mono (K _)⟩⟩
    · rw [List.getElem?_append_right (by omega)] at hid
      have hid0 : id = st.h.bx.length := by
        have := (List.getElem?_eq_some_iff.1 hid).1
        simp at this; omega
      subst hid0
      simp only [Nat.sub_self, List.getElem?_cons_zero, Option.some.injEq] at hid
      subst hid
      have hbm : (gHeap w g).bm st.h.bx.length = w.heap.size := by simp only [gHeap]; rw [← hnb, upd_same]
      rw [hbm]
      refine ⟨by simp only [gHeap, upd_same, hnb], by show g.sl _ = 0; exact hs.wf.sl _ (Nat.le_refl _), c, e, alloc_new w _, hz, fun j x hj => ?_⟩
      obtain ⟨u, hu, hr⟩ := hc j x hj
      exact ⟨u, hu, (hr.mono (K .oth).le).repC (by simp)⟩
  · have := Rep.ptr (w := w.alloc (.cells c e)) (g := gHeap w g) st.h.bx.length 0 (by simp [gHeap, hnb])
    simp only [gHeap] at this
    rw [← hnb, upd_same] at this
    rw [← hnb]; exact this

theorem good_alloc {e : TypeId} {hp : Bool} (ho : o.op = .alloc e) (hs : SR nt st a w g lm)
    (h : ((tyz P e).bind fun z => (zeroL P e).bind fun zc => bif Nat.beq zc.length z.1 then
      (bif hp then K (.v (.ptr st.h.bx.length 0)) { st with h := newB st.h zc }
       else bif Nat.beq (st.z st.nl) 0 then K (.lp st.nl 0) { st with m := stN st.m st.nl 0 (fun j => zc.getD j .un) z.1, z := upd st.z st.nl z.1, nl := st.nl + 1 } else none)
      else none) = some r) : Good P nt o a w g K r := by
  simp only [Option.bind_eq_some_iff] at h
  obtain ⟨z, hz, zc, hzc, h⟩ := h
  obtain ⟨i, zv, hi, hzv, hlen, hcells⟩ := zeroL_spec hzc
  by_cases hb : Nat.beq zc.length z.1 = true
  · rw [hb, cond_true] at h
    have hb := Nat.eq_of_beq_eq_true hb
    have hrun : (execOp a.eval o).run P w = .ok (.value (.pointer (some ⟨w.heap.size, 0, none⟩))) (w.alloc (.cells zv.cells e)) := by
      simp only [execOp, ho]
      refine run_pureV ?_
      simp [Instr.alloc, zeroValue, typeInfo, hi, hzv, newVar, newRow]
    cases hp with
    | true =>
      simp only [cond_true] at h
      obtain ⟨s1, t1, r1⟩ := hs.new_heap zv.cells e zc (by omega) (fun j x hj => by
        obtain ⟨u, hu, hr⟩ := hcells j x hj
        exact ⟨u, hu, hr w g⟩)
      exact ⟨_, _, h, OpOk.value hrun s1 t1 r1⟩
    | false =>
      simp only [cond_false] at h
      have h : K (.lp st.nl 0) { st with m := stN st.m st.nl 0 (fun j => zc.getD j .un) z.1, z := upd st.z st.nl z.1, nl := st.nl + 1 } = some r := by
        cases hq : Nat.beq (st.z st.nl) 0 with
        | false => rw [hq] at h; cases h
        | true => rw [hq] at h; exact h
      obtain ⟨s1, t1⟩ := hs.new_box zv.cells e (fun j => zc.getD j .un) z.1 (by omega) (fun j hj => by
        obtain ⟨u, hu, hr⟩ := hcells j zc[j] (List.getElem?_eq_getElem (by omega))
        refine ⟨u, hu, ?_⟩
        have e : zc.getD j .un = zc[j]'(by omega) := by simp [List.getD_eq_getElem?_getD, List.getElem?_eq_getElem (show j < zc.length by omega)]
        rw [e]; exact hr w g)
      exact ⟨_, _, h, OpOk.value hrun s1 t1 ⟨by show st.nl < st.nl + 1; omega, by simp only [upd_same]⟩⟩
  · rw [Bool.eq_false_iff.2 hb] at h; cases h

theorem good_box {e : TypeId} {x : Operand} {hp : Bool} (ho : o.op = .box e x) (hs : SR nt st a w g lm)
    (h : ((tyz P e).bind fun z => (st.rv x).bind fun p => (p.toC z.1).bind fun cs =>
      bif hp then K (.v (.ptr st.h.bx.length 0)) { st with h := newB st.h (cs.map .v) }
      else K (.lp st.nl 0) { st with m := stN st.m st.nl 0 (fun j => .v (gd cs j)) z.1, z := upd st.z st.nl z.1, nl := st.nl + 1 }) = some r) : Good P nt o a w g K r := by
  simp only [Option.bind_eq_some_iff] at h
  obtain ⟨z, hz, p, hp', cs, hcs, h⟩ := h
  obtain ⟨g1, s1, t1, r1⟩ := rv_ok hs hp'
  obtain ⟨hdl, hvl, hdc⟩ := Arg.toC r1 hcs
  have hrun : (execOp a.eval o).run P w = .ok (.value (.pointer (some ⟨w.heap.size, 0, none⟩))) (w.alloc (.cells (a.eval x).cells e)) := by
    simp only [execOp, ho]
    refine run_pureV ?_
    simp [Instr.box, newVar, newRow]
  refine Good.pre t1 ?_
  cases hp with
  | true =>
    simp only [cond_true] at h
    obtain ⟨s2, t2, r2⟩ := s1.new_heap (a.eval x).cells e (cs.map .v) (by simp; omega) (fun j y hj => by
      rw [List.getElem?_map] at hj
      cases hc : cs[j]? with
      | none => rw [hc] at hj; cases hj
      | some c =>
        rw [hc] at hj
        simp only [Option.map_some, Option.some.injEq] at hj
        subst hj
        exact hdc j c hc)
    exact ⟨_, _, h, OpOk.value hrun s2 t2 r2⟩
  | false =>
    simp only [cond_false] at h
    obtain ⟨s2, t2⟩ := s1.new_box (a.eval x).cells e (fun j => .v (gd cs j)) z.1 hvl (fun j hj => by
      obtain ⟨u, hu, hr⟩ := hdc j cs[j] (List.getElem?_eq_getElem (by omega))
      exact ⟨u, hu, by rw [gd_eq (List.getElem?_eq_getElem (by omega))]; exact hr⟩)
    exact ⟨_, _, h, OpOk.value hrun s2 t2 ⟨by show st.nl < st.nl + 1; omega, by simp only [upd_same]⟩⟩

end Go.Proofs.Am
