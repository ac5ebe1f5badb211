/-
  Append, and what is taken out of a box.
-/
import Derived.Test.YtoblgjmllmomhaaGreatDoorAmOpH
import Derived.Deep.DeepAppendWide
import Derived.Deep.Upon
namespace Go.Proofs.Am
open Go
variable {R : Type} {P : Program} {nt : Nat} {o : Oper} {st : St} {a : Act} {w : World} {g : Gh} {lm : Nat -> Nat} {K : LV -> St -> Option R} {r : R}
theorem stN_get (m : Nat -> Nat -> LV) (i off : Nat) (f : Nat -> LV) : ∀ (n i' c : Nat), stN m i off f n i' c = if i' = i /\ off <= c /\ c < off + n then f (c - off) else m i' c
 | 0, i', c => by rw [if_neg (by omega)]; rfl
 | n + 1, i', c => by
  simp only [stN, upd2]
  by_cases h1 : i' = i /\ c = off + n
  ·obtain ⟨rfl, rfl⟩ := h1
   rw [Nat.beq_refl, Nat.beq_refl, if_pos (by omega)]
   simp
  ·have : (Nat.beq i' i && Nat.beq c (off + n)) = false := by
    rw [Bool.and_eq_false_iff]
    by_cases h2 : i' = i
    ·right
     rw [Bool.eq_false_iff]
     intro h3; exact h1 ⟨h2, Nat.eq_of_beq_eq_true h3⟩
    ·left
     rw [Bool.eq_false_iff]
     intro h3; exact h2 (Nat.eq_of_beq_eq_true h3)
   rw [this, cond_false, stN_get m i off f n i' c]
   by_cases h2 : i' = i /\ off <= c /\ c < off + n
   ·rw [if_pos h2, if_pos (by omega)]
   ·rw [if_neg h2, if_neg (by omega)]
theorem upd2_get (m : Nat -> Nat -> LV) (i c : Nat) (x : LV) (i' c' : Nat) : upd2 m i c x i' c' = if i' = i /\ c' = c then x else m i' c' := by
 have := stN_get m i c (fun _ => x) 1 i' c'
 simp only [stN, Nat.add_zero] at this
 rw [this]
 by_cases h : i' = i /\ c' = c
 ·rw [if_pos h, if_pos (by omega)]
 ·rw [if_neg h, if_neg (by omega)]
theorem RepV.more {nl : Nat} {hd : Nat -> Hd} {x : LV} {v : Value} (b : Nat) (h : RepV w g lm nl hd x v) : RepV w g (upd lm nl b) (nl + 1) hd x v := by
 cases x <;> simp only [RepV] at h ⊢ <;> try exact h
 obtain ⟨h1, h2⟩ := h
 exact ⟨by omega, by rw [upd_ne _ _ (by omega)]; exact h2⟩
theorem SR.new_box (hs : SR nt st a w g lm) (c : Array Value) (e : TypeId) (f : Nat -> LV) (n : Nat) (hz : c.size = n) (hc : ∀ j, j < n -> ∃ u, c[j]? = some u /\ RepZ w g (f j) u) :
  SR nt { st with m := stN st.m st.nl 0 f n, z := upd st.z st.nl n, nl := st.nl + 1 } a (w.alloc (.cells c e)) (gNew w g (.box st.nl)) (upd lm st.nl w.heap.size) /\
   Tr w g (w.alloc (.cells c e)) (gNew w g (.box st.nl)) := by
 have K := fun hd => new_Kp hs.wf (.cells c e) (.box st.nl) hd
 have s1 := hs.new c e (.box st.nl)
 refine ⟨⟨s1.wf, s1.nt, s1.df, fun j => (s1.tm j).more _, fun i hi => ?_, s1.hp⟩, new_Tr hs.wf _ _⟩
 by_cases hin : i = st.nl
 ·subst hin
  simp only [upd_same] at hi ⊢
  refine ⟨by omega, by simp only [gNew, upd_same], by show g.sl _ = 0; exact hs.wf.sl _ (Nat.le_refl _), c, e, alloc_new w _, hz, fun j hj => ?_⟩
  obtain ⟨u, hu, hr⟩ := hc j hj
  refine ⟨u, hu, ?_⟩
  rw [stN_get, if_pos (by omega)]
  exact (hr.mono (K .oth).le).repC (by simp)
 ·simp only [upd_ne _ _ hin] at hi ⊢
  obtain ⟨h1, h2, h3, c', e', h4, h5, h6⟩ := s1.bx i hi
  refine ⟨by show i < st.nl + 1; have : i < st.nl := h1; omega, h2, h3, c', e', h4, h5, fun j hj => ?_⟩
  rw [stN_get, if_neg (by omega)]
  exact h6 j hj
def gHeap (w : World) (g : Gh) : Gh := { g with own := upd g.own w.heap.size (.hbox g.nb), nb := g.nb + 1, bm := upd g.bm g.nb w.heap.size }
theorem heap_Le {w : World} {g : Gh} (wf : Wf w g) (o : Obj) : Le w g (w.alloc o) (gHeap w g) :=
 Le_of wf (fun _ h => alloc_heap w o h) rfl (by simp [gHeap]) (fun id h => by simp only [gHeap]; rw [upd_ne _ _ (by omega)])
theorem heap_Kp {w : World} {g : Gh} (wf : Wf w g) (o : Obj) (hd' : Hd) : Kp w g (w.alloc o) (gHeap w g) hd' :=
 ⟨heap_Le wf o, fun b hb h => ⟨alloc_heap w o hb, by simp only [gHeap]; rw [upd_ne _ _ (by omega)]; exact h, rfl⟩⟩
theorem heap_Tr {w : World} {g : Gh} (wf : Wf w g) (o : Obj) : Tr w g (w.alloc o) (gHeap w g) :=
 ⟨heap_Le wf o, by simp, fun b hb h => ⟨alloc_heap w o hb, by simp only [gHeap]; rw [upd_ne _ _ (by omega)]; exact h, rfl⟩, rfl, rfl, rfl⟩
theorem heap_Wf {w : World} {g : Gh} (wf : Wf w g) (c : Array Value) (e : TypeId) : Wf (w.alloc (.cells c e)) (gHeap w g) :=
 ⟨(new_Wf wf c e (.hbox g.nb)).own, (new_Wf wf c e (.hbox g.nb)).sl, (new_Wf wf c e (.hbox g.nb)).fit⟩
theorem SR.new_heap (hs : SR nt st a w g lm) (c : Array Value) (e : TypeId) (cs : List LV) (hz : cs.length <= c.size) (hc : ∀ (j : Nat) (x : LV), cs[j]? = some x -> ∃ u, c[j]? = some u /\ RepZ w g x u) :
  SR nt { st with h := newB st.h cs } a (w.alloc (.cells c e)) (gHeap w g) lm /\ Tr w g (w.alloc (.cells c e)) (gHeap w g) /\
   Rep (w.alloc (.cells c e)) (gHeap w g) (.ptr st.h.bx.length 0) (.pointer (some ⟨w.heap.size, 0, none⟩)) := by
 have K := fun hd => heap_Kp hs.wf (.cells c e) hd
 have hnb := hs.hp.1
 refine ⟨⟨heap_Wf hs.wf c e, hs.nt, hs.df, fun j => (hs.tm j).mono (fun c => K _), hs.bx.keep (fun _ => K _) (fun _ _ => K _), ⟨?_, fun id bx hid hne => ?_⟩⟩, heap_Tr hs.wf _, ?_⟩
 ·simp [gHeap, newB, hnb]
 ·simp only [newB] at hid
  by_cases hlt : id < st.h.bx.length
  ·rw [List.getElem?_append_left hlt] at hid
   obtain ⟨h2, h3, c', e', h4, h5, h6⟩ := hs.hp.2 id bx hid hne
   have hbm : (gHeap w g).bm id = g.bm id := by simp only [gHeap]; rw [upd_ne _ _ (by omega)]
   obtain ⟨a1, a2, a3⟩ := (K (.hbox id)).blk _ (heap_lt h4) h2
   rw [hbm]
   exact ⟨a2, a3.trans h3, c', e', a1.trans h4, h5, fun j x hj => by
    obtain ⟨u, hu, hr⟩ := h6 j x hj
    exact ⟨u, hu, hr.mono (K _)⟩⟩
  ·rw [List.getElem?_append_right (by omega)] at hid
   have hid0 : id = st.h.bx.length := by
    have := (List.getElem?_eq_some_iff.1 hid).1
    simp at this; omega
   subst hid0
   simp only [Nat.sub_self, List.getElem?_cons_zero, Option.some.injEq] at hid
   subst hid
   have hbm : (gHeap w g).bm st.h.bx.length = w.heap.size := by simp only [gHeap]; rw [← hnb, upd_same]
   rw [hbm]
   refine ⟨by simp only [gHeap, upd_same, hnb], by show g.sl _ = 0; exact hs.wf.sl _ (Nat.le_refl _), c, e, alloc_new w _, hz, fun j x hj => ?_⟩
   obtain ⟨u, hu, hr⟩ := hc j x hj
   exact ⟨u, hu, (hr.mono (K .oth).le).repC (by simp)⟩
 ·have := Rep.ptr (w := w.alloc (.cells c e)) (g := gHeap w g) st.h.bx.length 0 (by simp [gHeap, hnb])
  simp only [gHeap] at this
  rw [← hnb, upd_same] at this
  rw [← hnb]; exact this
theorem good_alloc {e : TypeId} {hp : Bool} (ho : o.op = .alloc e) (hs : SR nt st a w g lm)
  (h : ((tyz P e).bind fun z => (zeroL P e).bind fun zc => bif Nat.beq zc.length z.1 then
   (bif hp then K (.v (.ptr st.h.bx.length 0)) { st with h := newB st.h zc }
    else bif Nat.beq (st.z st.nl) 0 then K (.lp st.nl 0) { st with m := stN st.m st.nl 0 (fun j => zc.getD j .un) z.1, z := upd st.z st.nl z.1, nl := st.nl + 1 } else none)
   else none) = some r) : Good P nt o a w g K r := by
 simp only [Option.bind_eq_some_iff] at h
 obtain ⟨z, hz, zc, hzc, h⟩ := h
 obtain ⟨i, zv, hi, hzv, hlen, hcells⟩ := zeroL_spec hzc
 by_cases hb : Nat.beq zc.length z.1 = true
 ·rw [hb, cond_true] at h
  have hb := Nat.eq_of_beq_eq_true hb
  have hrun : (execOp a.eval o).run P w = .ok (.value (.pointer (some ⟨w.heap.size, 0, none⟩))) (w.alloc (.cells zv.cells e)) := by
   simp only [execOp, ho]
   refine run_pureV ?_
   simp [Instr.alloc, zeroValue, typeInfo, hi, hzv, newVar, newRow]
  cases hp with
  | true =>
   simp only [cond_true] at h
   obtain ⟨s1, t1, r1⟩ := hs.new_heap zv.cells e zc (by omega) (fun j x hj => by
    obtain ⟨u, hu, hr⟩ := hcells j x hj
    exact ⟨u, hu, hr w g⟩)
   exact ⟨_, _, h, OpOk.value hrun s1 t1 r1⟩
  | false =>
   simp only [cond_false] at h
   have h : K (.lp st.nl 0) { st with m := stN st.m st.nl 0 (fun j => zc.getD j .un) z.1, z := upd st.z st.nl z.1, nl := st.nl + 1 } = some r := by
    cases hq : Nat.beq (st.z st.nl) 0 with
    | false => rw [hq] at h; cases h
    | true => rw [hq] at h; exact h
   obtain ⟨s1, t1⟩ := hs.new_box zv.cells e (fun j => zc.getD j .un) z.1 (by omega) (fun j hj => by
    obtain ⟨u, hu, hr⟩ := hcells j zc[j] (List.getElem?_eq_getElem (by omega))
    refine ⟨u, hu, ?_⟩
    have e : zc.getD j .un = zc[j]'(by omega) := by simp [List.getD_eq_getElem?_getD, List.getElem?_eq_getElem (show j < zc.length by omega)]
    rw [e]; exact hr w g)
   exact ⟨_, _, h, OpOk.value hrun s1 t1 ⟨by show st.nl < st.nl + 1; omega, by simp only [upd_same]⟩⟩
 ·rw [Bool.eq_false_iff.2 hb] at h; cases h
theorem good_box {e : TypeId} {x : Operand} {hp : Bool} (ho : o.op = .box e x) (hs : SR nt st a w g lm)
  (h : ((tyz P e).bind fun z => (st.rv x).bind fun p => (p.toC z.1).bind fun cs =>
   bif hp then K (.v (.ptr st.h.bx.length 0)) { st with h := newB st.h (cs.map .v) }
   else K (.lp st.nl 0) { st with m := stN st.m st.nl 0 (fun j => .v (gd cs j)) z.1, z := upd st.z st.nl z.1, nl := st.nl + 1 }) = some r) : Good P nt o a w g K r := by
 simp only [Option.bind_eq_some_iff] at h
 obtain ⟨z, hz, p, hp', cs, hcs, h⟩ := h
 obtain ⟨g1, s1, t1, r1⟩ := rv_ok hs hp'
 obtain ⟨hdl, hvl, hdc⟩ := Arg.toC r1 hcs
 have hrun : (execOp a.eval o).run P w = .ok (.value (.pointer (some ⟨w.heap.size, 0, none⟩))) (w.alloc (.cells (a.eval x).cells e)) := by
  simp only [execOp, ho]
  refine run_pureV ?_
  simp [Instr.box, newVar, newRow]
 refine Good.pre t1 ?_
 cases hp with
 | true =>
  simp only [cond_true] at h
  obtain ⟨s2, t2, r2⟩ := s1.new_heap (a.eval x).cells e (cs.map .v) (by simp; omega) (fun j y hj => by
   rw [List.getElem?_map] at hj
   cases hc : cs[j]? with
   | none => rw [hc] at hj; cases hj
   | some c =>
    rw [hc] at hj
    simp only [Option.map_some, Option.some.injEq] at hj
    subst hj
    exact hdc j c hc)
  exact ⟨_, _, h, OpOk.value hrun s2 t2 r2⟩
 | false =>
  simp only [cond_false] at h
  obtain ⟨s2, t2⟩ := s1.new_box (a.eval x).cells e (fun j => .v (gd cs j)) z.1 hvl (fun j hj => by
   obtain ⟨u, hu, hr⟩ := hdc j cs[j] (List.getElem?_eq_getElem (by omega))
   exact ⟨u, hu, by rw [gd_eq (List.getElem?_eq_getElem (by omega))]; exact hr⟩)
  exact ⟨_, _, h, OpOk.value hrun s2 t2 ⟨by show st.nl < st.nl + 1; omega, by simp only [upd_same]⟩⟩
end Go.Proofs.Am
namespace Go.Proofs.Am
open Go
variable {R : Type} {P : Program} {nt : Nat} {o : Oper} {st : St} {a : Act} {w : World} {g : Gh} {lm : Nat -> Nat} {K : LV -> St -> Option R} {r : R}
theorem one_one' {v : Value} (h : v.oneCell = true) : v.oneCell' = true := by cases v <;> simp_all [Value.oneCell, Value.oneCell']
theorem RepC.oneCell {hd : Hd} {x : LV} {v : Value} (h : RepC w g hd x v) (hx : x.isC = true) : v.oneCell' = true := by
 cases x <;> simp only [LV.isC, Bool.false_eq_true] at hx <;> simp only [RepC] at h
 ·exact one_one' (h.1.oneCell h.2).2
 ·cases h.2 <;> rfl
def rowSet (c : Array Value) (off : Nat) (vs : List Value) : Array Value := (c.toList.take off ++ vs ++ c.toList.drop (off + vs.length)).toArray
theorem rowSet_size {c : Array Value} {off : Nat} {vs : List Value} (h : off + vs.length <= c.size) : (rowSet c off vs).size = c.size := by
 simp [rowSet]; omega
theorem rowSet_get {c : Array Value} {off : Nat} {vs : List Value} (h : off + vs.length <= c.size) (k : Nat) : (rowSet c off vs)[k]? = if off <= k /\ k < off + vs.length then vs[k - off]? else c[k]? := by
 simp only [rowSet, List.getElem?_toArray, List.append_assoc]
 by_cases h1 : k < off
 ·rw [List.getElem?_append_left (by simp; omega), List.getElem?_take, if_pos h1, if_neg (by omega), Array.getElem?_toList]
 ·rw [List.getElem?_append_right (by simp; omega)]
  have e : (c.toList.take off).length = off := by simp; omega
  rw [e]
  by_cases h2 : k < off + vs.length
  ·rw [List.getElem?_append_left (by omega), if_pos (by omega)]
  ·rw [List.getElem?_append_right (by omega), if_neg (by omega), List.getElem?_drop, Array.getElem?_toList]
   congr 1; omega
theorem storeCells_row {b off : Nat} {c : Array Value} {e : TypeId} {vs : List Value} (hb : w.heap[b]? = some (.cells c e (0, 0))) (h : off + vs.length <= c.size) (h1 : ∀ v ∈ vs, v.oneCell' = true) :
  (storeCells ⟨b, off, none⟩ vs).run P w = .ok () (w.setRow b (rowSet c off vs)) := by
 have := run_storeCells_at P b off e vs 0 c w hb (by simpa using h) h1
 simpa [rowSet] using this
theorem storeVar_row {t : TypeId} {z : Nat × Bool} (hz : tyz P t = some z) {b off : Nat} {c : Array Value} {e : TypeId} {v : Value} (hv : v.cells.size = z.1) (hb : w.heap[b]? = some (.cells c e (0, 0))) (h : off + z.1 <= c.size)
  (h1 : ∀ (j : Nat) (u : Value), v.cells[j]? = some u -> u.oneCell' = true) : (storeVar t ⟨b, off, none⟩ v).run P w = .ok () (w.setRow b (rowSet c off v.cells.toList)) := by
 obtain ⟨i, d, hi, hsz, _, _⟩ := tyz_spec hz
 have := storeCells_row (P := P) (off := off) (vs := v.cells.toList) hb (by simp; omega) (fun u hu => by
  obtain ⟨j, hj⟩ := List.mem_iff_getElem?.1 hu
  exact h1 j u (by simpa using hj))
 simp [storeVar, run_sizeOf hi, hv, hsz, this]
def toCell (i off : Nat) : Hd -> Hd
 | .res c => .cell i (off + c)
 | h => h
def toHcell (id off : Nat) : Hd -> Hd
 | .res c => .hcell id (off + c)
 | h => h
theorem SR.rel (hs : SR nt st a w g lm) {ρ : Hd -> Hd} (h : ∀ hd, (∀ c, hd ≠ .res c) -> ρ hd = hd) : SR nt st a w (gRel g ρ) lm :=
 hs.keep (rel_Wf hs.wf (h _ (by simp))) rfl (fun hd _ hr _ => rel_Kp w g (h hd hr))
theorem toCell_ne {i off : Nat} {hd : Hd} (h : ∀ c, hd ≠ .res c) : toCell i off hd = hd := by cases hd <;> simp_all [toCell]
theorem toHcell_ne {i off : Nat} {hd : Hd} (h : ∀ c, hd ≠ .res c) : toHcell i off hd = hd := by cases hd <;> simp_all [toHcell]
theorem SR.write_box (hs : SR nt st a w g lm) {b off n : Nat} {c : Array Value} {e : TypeId} (hn : 0 < n) (hb : w.heap[lm b]? = some (.cells c e (0, 0))) (hz : off + n <= st.z b) {vs : List Value} (hl : vs.length = n) (f : Nat -> LV)
  (hc : ∀ j, j < n -> ∃ u, vs[j]? = some u /\ RepC w g (.res j) (f j) u) :
  SR nt { st with m := stN st.m b off f n } a (w.setRow (lm b) (rowSet c off vs)) (gMove (gRel g (toCell b off)) (lm b) (.box b)) lm /\
   Tr w g (w.setRow (lm b) (rowSet c off vs)) (gMove (gRel g (toCell b off)) (lm b) (.box b)) := by
 have s1 := hs.rel (ρ := toCell b off) (fun hd h => toCell_ne h)
 obtain ⟨h1, h2, h3, c1, e1, h4, h5, h6⟩ := s1.bx b (by omega)
 rw [hb] at h4
 simp only [Option.some.injEq, Obj.cells.injEq] at h4
 obtain ⟨rfl, rfl, _⟩ := h4
 have hsz : off + vs.length <= c.size := by omega
 have hk : ∀ j, j < (gRel g (toCell b off)).sl (lm b) -> (rowSet c off vs)[j]? = c[j]? := fun j hj => by rw [h3] at hj; omega
 have K : ∀ hd, hd ≠ .box b -> Kp w (gRel g (toCell b off)) (w.setRow (lm b) (rowSet c off vs)) (gMove (gRel g (toCell b off)) (lm b) (.box b)) hd := fun hd hne =>
  row_Kp hb (rowSet_size hsz) hk _ (by rw [h2]; exact hne)
 refine ⟨⟨row_Wf s1.wf hb (rowSet_size hsz) _ (by rw [h2]; simp), s1.nt, s1.df, fun j => (s1.tm j).mono (fun c => K _ (by simp)), fun i hi => ?_, s1.hp.keep rfl (fun _ => K _ (by simp)) (fun _ _ => K _ (by simp))⟩,
  (rel_Tr w g (toCell_ne (by simp))).trans (row_Tr hb (rowSet_size hsz) hk _ (by rw [h2]; simp))⟩
 by_cases hib : i = b
 ·subst hib
  refine ⟨h1, by simp only [gMove, upd_same], h3, _, _, row_heap hb, by rw [rowSet_size hsz]; exact h5, fun j hj => ?_⟩
  dsimp only at hj hi ⊢
  rw [stN_get, rowSet_get hsz]
  by_cases hin : off <= j /\ j < off + n
  ·rw [if_pos (⟨rfl, hin⟩ : i = i /\ off <= j /\ j < off + n), if_pos (by omega)]
   obtain ⟨u, hu, hr⟩ := hc (j - off) (by omega)
   refine ⟨u, hu, ?_⟩
   have hr2 := hr.rel (ρ := toCell i off) (fun _ => by simp [toCell])
   simp only [toCell, show off + (j - off) = j by omega] at hr2
   exact hr2.mono (K _ (by simp))
  ·rw [if_neg (by omega), if_neg (by omega)]
   obtain ⟨u, hu, hr⟩ := h6 j hj
   exact ⟨u, hu, hr.mono (K _ (by simp))⟩
 ·obtain ⟨b1, b2, b3, c2, e2, b4, b5, b6⟩ := s1.bx i hi
  obtain ⟨k1, k2, k3⟩ := (K (.box i) (by simp [hib])).blk _ (heap_lt b4) b2
  refine ⟨b1, k2, k3.trans b3, c2, e2, k1.trans b4, b5, fun j hj => ?_⟩
  obtain ⟨u, hu, hr⟩ := b6 j hj
  refine ⟨u, hu, ?_⟩
  dsimp only
  rw [stN_get, if_neg (by omega)]
  exact hr.mono (K _ (by simp))
theorem setL_len : ∀ (l : List LV) (bx : List LV) (off : Nat), (setL bx off l).length = bx.length
 | [], _, _ => rfl
 | x :: l, bx, off => by simp [setL, setL_len l]
theorem setL_get : ∀ (l : List LV) (bx : List LV) (off k : Nat), (setL bx off l)[k]? = if off <= k /\ k < off + l.length /\ k < bx.length then l[k - off]? else bx[k]?
 | [], bx, off, k => by rw [if_neg (by simp; omega)]; rfl
 | x :: l, bx, off, k => by
  simp only [setL, setL_get l, List.length_set, List.length_cons, List.getElem?_set]
  by_cases h1 : off = k
  ·subst h1
   by_cases h2 : off < bx.length
   ·rw [if_neg (by omega), if_pos rfl, if_pos h2, if_pos (by omega)]; simp
   ·rw [if_neg (by omega), if_pos rfl, if_neg h2, if_neg (by omega), List.getElem?_eq_none (by omega)]
  ·by_cases h3 : off + 1 <= k /\ k < off + 1 + l.length /\ k < bx.length
   ·rw [if_pos h3, if_pos (by omega), show k - off = (k - (off + 1)) + 1 by omega, List.getElem?_cons_succ]
   ·rw [if_neg h3, if_neg h1, if_neg (by omega)]
theorem SR.write_heap (hs : SR nt st a w g lm) {id off : Nat} {bx l : List LV} {c : Array Value} {e : TypeId} (hid : st.h.bx[id]? = some bx) (hn : 0 < l.length) (hb : w.heap[g.bm id]? = some (.cells c e (0, 0))) (hz : off + l.length <= bx.length)
  {vs : List Value} (hl : vs.length = l.length) (hc : ∀ (j : Nat) (x : LV), l[j]? = some x -> ∃ u, vs[j]? = some u /\ RepC w g (.res j) x u) :
  SR nt { st with h := { st.h with bx := st.h.bx.set id (setL bx off l) } } a (w.setRow (g.bm id) (rowSet c off vs)) (gMove (gRel g (toHcell id off)) (g.bm id) (.hbox id)) lm /\
   Tr w g (w.setRow (g.bm id) (rowSet c off vs)) (gMove (gRel g (toHcell id off)) (g.bm id) (.hbox id)) := by
 have s1 := hs.rel (ρ := toHcell id off) (fun hd h => toHcell_ne h)
 have hne : bx ≠ [] := by intro h; subst h; have : off + l.length <= 0 := hz; omega
 obtain ⟨h2, h3, c1, e1, h4, h5, h6⟩ := s1.hp.2 id bx hid hne
 have hbm : (gRel g (toHcell id off)).bm id = g.bm id := rfl
 rw [hbm] at h2 h3 h4
 rw [hb] at h4
 simp only [Option.some.injEq, Obj.cells.injEq] at h4
 obtain ⟨rfl, rfl, _⟩ := h4
 have hsz : off + vs.length <= c.size := by omega
 have hk : ∀ j, j < (gRel g (toHcell id off)).sl (g.bm id) -> (rowSet c off vs)[j]? = c[j]? := fun j hj => by rw [h3] at hj; omega
 have K : ∀ hd, hd ≠ .hbox id -> Kp w (gRel g (toHcell id off)) (w.setRow (g.bm id) (rowSet c off vs)) (gMove (gRel g (toHcell id off)) (g.bm id) (.hbox id)) hd := fun hd hne =>
  row_Kp hb (rowSet_size hsz) hk _ (by rw [h2]; exact hne)
 refine ⟨⟨row_Wf s1.wf hb (rowSet_size hsz) _ (by rw [h2]; simp), s1.nt, s1.df, fun j => (s1.tm j).mono (fun c => K _ (by simp)), s1.bx.keep (fun _ => K _ (by simp)) (fun _ _ => K _ (by simp)), ⟨?_, fun i bx' hi hne' => ?_⟩⟩,
  (rel_Tr w g (toHcell_ne (by simp))).trans (row_Tr hb (rowSet_size hsz) hk _ (by rw [h2]; simp))⟩
 ·show g.nb = _; rw [List.length_set]; exact hs.hp.1
 ·simp only [List.getElem?_set] at hi
  by_cases hib : id = i
  ·subst hib
   rw [if_pos rfl] at hi
   split at hi
   ·simp only [Option.some.injEq] at hi
    subst hi
    refine ⟨by simp only [gMove]; exact upd_same _ _ _, h3, _, _, row_heap hb, by rw [rowSet_size hsz, setL_len]; exact h5, fun j x hj => ?_⟩
    rw [setL_get] at hj
    rw [rowSet_get hsz]
    split at hj
    ·rename_i hin
     rw [if_pos (by omega)]
     obtain ⟨u, hu, hr⟩ := hc (j - off) x hj
     refine ⟨u, hu, ?_⟩
     have hr2 := hr.rel (ρ := toHcell id off) (fun _ => by simp [toHcell])
     simp only [toHcell, show off + (j - off) = j by omega] at hr2
     exact hr2.mono (K _ (by simp))
    ·rename_i hin
     have hlt : j < bx.length := (List.getElem?_eq_some_iff.1 hj).1
     rw [if_neg (by omega)]
     obtain ⟨u, hu, hr⟩ := h6 j x hj
     exact ⟨u, hu, hr.mono (K _ (by simp))⟩
   ·cases hi
  ·rw [if_neg hib] at hi
   obtain ⟨b2, b3, c2, e2, b4, b5, b6⟩ := s1.hp.2 i bx' hi hne'
   obtain ⟨k1, k2, k3⟩ := (K (.hbox i) (by simp; omega)).blk _ (heap_lt b4) b2
   exact ⟨k2, k3.trans b3, c2, e2, k1.trans b4, b5, fun j x hj => by
    obtain ⟨u, hu, hr⟩ := b6 j x hj
    exact ⟨u, hu, hr.mono (K _ (by simp))⟩⟩
theorem good_store {t : TypeId} {x y : Operand} {hp tk : Bool} (ho : o.op = .store t x y) (hs : SR nt st a w g lm)
  (h : storeK P hp tk t x y st K = some r) : Good P nt o a w g K r := by
 unfold storeK at h
 simp only [Option.bind_eq_some_iff] at h
 obtain ⟨z, hz, h⟩ := h
 by_cases hz0 : Nat.blt 0 z.1 = true
 case neg => rw [Bool.eq_false_iff.2 hz0] at h; cases h
 have hzp : 0 < z.1 := Nat.le_of_ble_eq_true hz0
 simp only [hz0, Bool.not_true, cond_false] at h
 have core : ∀ (st1 : St) (g1 : Gh) (lv : LV), SR nt st1 a w g1 lm -> Tr w g w g1 -> RepV w g1 lm st1.nl .res lv (a.eval y) ->
   (match lv with
    | .ag ls => bif Nat.beq ls.length z.1 && ls.all LV.isC then
      (bif hp then
       match st1.rd x with
       | .v p => (stP st1.h p ls).bind fun h => K .ud { st1 with h }
       | _ => none
      else
       match st1.rd x with
       | .lp b off => bif Nat.ble (off + z.1) (st1.z b) then K .ud { st1 with m := stN st1.m b off (fun j => ls.getD j .un) z.1 } else none
       | _ => none) else none
    | .v p => (p.toC z.1).bind fun cs =>
      (bif hp then
       match st1.rd x with
       | .v p => (stP st1.h p (cs.map .v)).bind fun h => K .ud { st1 with h }
       | _ => none
      else
       match st1.rd x with
       | .lp b off => bif Nat.ble (off + z.1) (st1.z b) then K .ud { st1 with m := stN st1.m b off (fun j => .v (gd cs j)) z.1 } else none
       | _ => none)
    | .ow n xs => bif Nat.beq z.1 1 then
      (bif hp then
       match st1.rd x with
       | .v p => (stP st1.h p [.ow n xs]).bind fun h => K .ud { st1 with h }
       | _ => none
      else
       match st1.rd x with
       | .lp b off => bif Nat.ble (off + 1) (st1.z b) then K .ud { st1 with m := stN st1.m b off (fun _ => .ow n xs) 1 } else none
       | _ => none) else none
    | _ => none) = some r -> Good P nt o a w g K r := by
  intro st1 g1 lv hs1 ht1 hrv h
  obtain ⟨g2, s2, t2, r2⟩ := rd_ok hs1 x
  have fin : ∀ (n : Nat) (f : Nat -> LV) (l : List LV), n = z.1 -> l.length = n -> (a.eval y).cells.size = n -> (∀ j, j < n -> l[j]? = some (f j)) ->
    (∀ j, j < n -> ∃ u, (a.eval y).cells[j]? = some u /\ RepC w g1 (.res j) (f j) u /\ (f j).isC = true) ->
    (bif hp then
     match st1.rd x with
     | .v p => (stP st1.h p l).bind fun h => K .ud { st1 with h }
     | _ => none
    else
     match st1.rd x with
     | .lp b off => bif Nat.ble (off + n) (st1.z b) then K .ud { st1 with m := stN st1.m b off f n } else none
     | _ => none) = some r -> Good P nt o a w g K r := by
   intro n f l hnz hl hvl hlf hc h
   have h1 : ∀ (j : Nat) (u : Value), (a.eval y).cells[j]? = some u -> u.oneCell' = true := by
    intro j u hu
    have hj : j < n := by rw [← hvl]; exact (Array.getElem?_eq_some_iff.1 hu).1
    obtain ⟨u', hu', hr, hi⟩ := hc j hj
    rw [hu] at hu'
    simp only [Option.some.injEq] at hu'
    subst hu'
    exact hr.oneCell hi
   have run : ∀ b off, a.eval x = .pointer (some ⟨b, off, none⟩) -> ∀ (c : Array Value) (e : TypeId), w.heap[b]? = some (.cells c e (0, 0)) -> off + z.1 <= c.size ->
     (execOp a.eval o).run P w = .ok .skip (w.setRow b (rowSet c off (a.eval y).cells.toList)) := by
    intro b off hx c e hb hsz
    simp only [execOp, ho]
    refine run_pureU ?_
    simp [Instr.storeAt, hx, Instr.sureAddr, storeVar_row (P := P) hz (hvl.trans hnz) hb hsz h1]
   cases hp with
   | true =>
    simp only [cond_true] at h
    cases hx : st1.rd x <;> rw [hx] at h <;> simp only [reduceCtorEq] at h
    rename_i p
    have hp' : Rep w g2 p (a.eval x) := by have := r2 .res; rw [hx] at this; exact this
    simp only [Option.bind_eq_some_iff] at h
    obtain ⟨h', hst, h⟩ := h
    cases p with
    | ptr id off =>
     simp only [stP, Option.bind_eq_some_iff] at hst
     obtain ⟨bx, hbx, hst⟩ := hst
     by_cases hb : Nat.ble (off + l.length) bx.length = true
     ·rw [hb, cond_true, Option.some.injEq] at hst
      subst hst
      have hb := Nat.le_of_ble_eq_true hb
      have hne : bx ≠ [] := by intro h; subst h; have : off + l.length <= 0 := hb; omega
      obtain ⟨_, _, c, e, h4, h5, _⟩ := s2.hp.2 id bx hbx hne
      obtain ⟨s3, t3⟩ := s2.write_heap (off := off) (l := l) (vs := (a.eval y).cells.toList) hbx (by omega) h4 hb (by simp; omega) (fun j lv hj => by
       have hjn : j < n := by rw [← hl]; exact (List.getElem?_eq_some_iff.1 hj).1
       obtain ⟨u, hu, hr, _⟩ := hc j hjn
       rw [hlf j hjn] at hj
       simp only [Option.some.injEq] at hj
       subst hj
       exact ⟨u, by simpa using hu, hr.mono (t2.kr j)⟩)
      exact ⟨_, _, h, (OpOk.skip (run _ off (ptr_inv hp').2 c e h4 (by omega)) s3 ((ht1.trans t2.toTr).trans t3))⟩
     ·rw [Bool.eq_false_iff.2 hb] at hst; cases hst
    | _ => simp [stP] at hst
   | false =>
    simp only [cond_false] at h
    cases hx : st1.rd x <;> rw [hx] at h <;> simp only [reduceCtorEq] at h
    rename_i b off
    have hp' := r2 .res
    rw [hx] at hp'
    by_cases hb : Nat.ble (off + n) (st1.z b) = true
    ·rw [hb, cond_true] at h
     have hb := Nat.le_of_ble_eq_true hb
     obtain ⟨_, _, _, c, e, h4, h5, _⟩ := s2.bx b (by omega)
     obtain ⟨s3, t3⟩ := s2.write_box (b := b) (off := off) (n := n) (vs := (a.eval y).cells.toList) (by omega) h4 hb (by simpa using hvl) f (fun j hj => by
      obtain ⟨u, hu, hr, _⟩ := hc j hj
      exact ⟨u, by simpa using hu, hr.mono (t2.kr j)⟩)
     exact ⟨_, _, h, (OpOk.skip (run _ off hp'.2 c e h4 (by omega)) s3 ((ht1.trans t2.toTr).trans t3))⟩
    ·rw [Bool.eq_false_iff.2 hb] at h; cases h
  cases lv with
  | ag ls =>
   simp only at h
   by_cases hc : (Nat.beq ls.length z.1 && ls.all LV.isC) = true
   ·rw [hc, cond_true] at h
    simp only [Bool.and_eq_true, List.all_eq_true] at hc
    have hlen := Nat.eq_of_beq_eq_true hc.1
    obtain ⟨vs, hv, hsz, hcells⟩ := hrv
    refine fin z.1 _ ls rfl hlen (by rw [hv]; simp only [Value.cells]; omega) (fun j hj => ?_) (fun j hj => ?_) h
    ·simp [List.getD_eq_getElem?_getD, List.getElem?_eq_getElem (show j < ls.length by omega)]
    ·have hget : ls[j]? = some (ls.getD j .un) := by simp [List.getD_eq_getElem?_getD, List.getElem?_eq_getElem (show j < ls.length by omega)]
     obtain ⟨u, hu, hr⟩ := hcells j _ hget
     rw [hv]
     exact ⟨u, hu, hr, hc.2 _ (List.mem_of_getElem? hget)⟩
   ·rw [Bool.eq_false_iff.2 hc] at h; cases h
  | v p =>
   simp only [Option.bind_eq_some_iff] at h
   obtain ⟨cs, hcs, h⟩ := h
   obtain ⟨hdl, hvl, hdc⟩ := Arg.toC (show Rep w g1 p _ from hrv) hcs
   refine fin z.1 _ (cs.map .v) rfl (by simpa using hdl) hvl (fun j hj => ?_) (fun j hj => ?_) h
   ·rw [List.getElem?_map, List.getElem?_eq_getElem (by omega), gd_eq (List.getElem?_eq_getElem (by omega))]; rfl
   ·obtain ⟨u, hu, hr⟩ := hdc j cs[j] (List.getElem?_eq_getElem (by omega))
    exact ⟨u, hu, by rw [gd_eq (List.getElem?_eq_getElem (by omega))]; exact hr, rfl⟩
  | ow n xs =>
   simp only at h
   by_cases hc : Nat.beq z.1 1 = true
   ·rw [hc, cond_true] at h
    have hc := Nat.eq_of_beq_eq_true hc
    obtain ⟨hne, hown⟩ := hrv
    have hv : (a.eval y).cells = #[a.eval y] := by
     generalize a.eval y = v at hown
     cases hown <;> rfl
    refine fin 1 _ [.ow n xs] hc.symm rfl (by rw [hv]; rfl) (fun j hj => ?_) (fun j hj => ?_) h
    ·have : j = 0 := by omega
     subst this; rfl
    ·have : j = 0 := by omega
     subst this
     exact ⟨_, by rw [hv]; rfl, ⟨hne, hown⟩, rfl⟩
   ·rw [Bool.eq_false_iff.2 hc] at h; cases h
  | _ => simp at h
 cases tk with
 | true =>
  simp only [cond_true] at h
  cases y with
  | tmp j =>
   obtain ⟨s1, r1⟩ := hs.take j
   exact core _ _ _ s1 (rel_Tr w g rfl) r1 h
  | _ => simp at h
 | false =>
  simp only [cond_false] at h
  have rd : ∀ y', a.eval y' = a.eval y -> (∀ g1, SR nt st a w g1 lm -> Tr w g w g1 -> RepV w g1 lm st.nl .res (st.rd y') (a.eval y) -> Good P nt o a w g K r) -> Good P nt o a w g K r := by
   intro y' he k
   obtain ⟨g1, s1, t1, r1⟩ := rd_ok hs y'
   exact k g1 s1 t1.toTr (by rw [← he]; exact r1 .res)
  cases y with
  | const c => exact core st g _ hs (Tr.refl w g) lvC_rep h
  | tmp j => exact rd (.tmp j) rfl fun g1 s1 t1 r1 => core st g1 _ s1 t1 r1 h
  | func f => exact rd (.func f) rfl fun g1 s1 t1 r1 => core st g1 _ s1 t1 r1 h
  | global f => exact rd (.global f) rfl fun g1 s1 t1 r1 => core st g1 _ s1 t1 r1 h
end Go.Proofs.Am
namespace Go.Proofs.Am
open Go
variable {R : Type} {P : Program} {nt : Nat} {o : Oper} {st : St} {a : Act} {w : World} {g : Gh} {lm : Nat -> Nat} {K : LV -> St -> Option R} {r : R}
theorem roomW_spec {len bytes : Nat} (h : roomW len bytes = true) : len * bytes <= 281474976710656 /\ 0 < bytes /\ ∀ old, old < len -> Builtin.nextslicecap len old * bytes <= 281474976710656 := by
 unfold roomW at h
 simp only [Bool.and_eq_true, Bool.or_eq_true] at h
 have hb : 0 < bytes := Nat.le_of_ble_eq_true h.2
 rcases h.1 with h1 | h1
 ·have h1 := Nat.le_of_ble_eq_true h1
  exact ⟨by omega, hb, fun old ho => growslice_fits ho h1⟩
 ·have h1 := Nat.le_of_ble_eq_true h1
  have : len * bytes <= (len + len / 4 + 192) * bytes := Nat.mul_le_mul_right _ (by omega)
  exact ⟨by omega, hb, fun old ho => growslice_fits_wide ho h1⟩
theorem roomW_len {len bytes : Nat} (h : roomW len bytes = true) : len <= 281474976710656 := by
 obtain ⟨h1, h2, _⟩ := roomW_spec h
 exact Nat.le_trans (Nat.le_mul_of_pos_right _ h2) h1
theorem src_of {tx : TypeId} {n : Nat} {p : AV} {v : Value} {ys : List (List AV)} (hr : Rep w g p v) (he : elA (P.underlying tx) n p = some ys) (hf : fitE n ys = true) :
    ∃ news, Src P n tx v ys.length news w /\ news.length = ys.length * n /\ Elems w g n ys news.toArray := by
  unfold elA at he
  split at he
  · rename_i e hu
    cases p with
    | imm xs =>
      simp only [Option.some.injEq] at he
      subst he
      cases hr with
      | imm0 ad cap =>
        refine ⟨[], ?_, by simp, fun k x hk => by simp at hk, fun k x j y hk hj => by simp at hk⟩
        cases ad with
        | none => exact Src.ofNil w hu cap
        | some ad => exact Src.ofSlice w hu ad 0 cap [] (by simp) (by simp) (by simp)
      | imm _ m b off cap f hl hn hc hr =>
        have hmn : xs = [] ∨ m = n := by
          cases xs with
          | nil => exact .inl rfl
          | cons x xs =>
            right
            have h1 := hn 0 x (by simp)
            simp only [fitE] at hf
            have := Nat.eq_of_beq_eq_true hf
            omega
        rcases hmn with rfl | rfl
        · exact ⟨[], Src.ofSlice w hu ⟨b, off, none⟩ 0 cap [] (by simp) (by simp) (by simp), by simp, fun k x hk => by simp at hk, fun k x j y hk hj => by simp at hk⟩
        · have hget : ∀ j, j < xs.length * m -> ∃ (k : Nat) (x : List AV) (i : Nat) (y : AV), xs[k]? = some x /\ x[i]? = some y /\ j = k * m + i := by
            intro j hj
            have hm : 0 < m := by rcases Nat.eq_zero_or_pos m with h | h; · subst h; omega
                                  · exact h
            have hk : j / m < xs.length := Nat.div_lt_of_lt_mul (by rw [Nat.mul_comm]; exact hj)
            have hi : j % m < xs[j / m].length := by rw [hn _ _ (List.getElem?_eq_getElem hk)]; exact Nat.mod_lt _ hm
            refine ⟨j / m, xs[j / m], j % m, xs[j / m][j % m], List.getElem?_eq_getElem hk, List.getElem?_eq_getElem hi, ?_⟩
            have := Nat.div_add_mod j m
            rw [Nat.mul_comm] at this; exact this.symm
          let news : List Value := (List.range (xs.length * m)).map fun j => (Cl w b (off + j)).getD undef
          have hnews : ∀ (j : Nat) (u : Value), news[j]? = some u -> j < xs.length * m /\ u = (Cl w b (off + j)).getD undef := by
            intro j u hj
            have hlt : j < xs.length * m := by have := (List.getElem?_eq_some_iff.1 hj).1; simpa [news] using this
            simp only [news, List.getElem?_map, List.getElem?_eq_getElem (show j < (List.range (xs.length * m)).length by simpa using hlt), List.getElem_range, Option.map_some, Option.some.injEq] at hj
            exact ⟨hlt, hj.symm⟩
          have hcell : ∀ j, j < xs.length * m -> ∃ u, Cl w b (off + j) = some u /\ u.oneCell' = true := by
            intro j hj
            obtain ⟨k, x, i, y, hk, hi, rfl⟩ := hget j hj
            obtain ⟨_, h2, h3⟩ := hc k x i y hk hi
            rw [← Nat.add_assoc]
            exact ⟨_, h2, one_one' ((hr k x i y hk hi).oneCell h3).2⟩
          refine ⟨news, Src.ofSlice w hu ⟨b, off, none⟩ xs.length cap news (by simp [news]) (fun j u hj => ?_) (fun u hu' => ?_), by simp [news], hn, fun k x j y hk hj => ?_⟩
          · obtain ⟨hlt, rfl⟩ := hnews j u hj
            obtain ⟨u, hu, _⟩ := hcell j hlt
            rw [Addr.add_mid]
            show Cl w b (off + j) = _
            rw [hu]; rfl
          · obtain ⟨j, hj⟩ := List.mem_iff_getElem?.1 hu'
            obtain ⟨hlt, rfl⟩ := hnews j u hj
            obtain ⟨u, hu, h1⟩ := hcell j hlt
            rw [hu]; exact h1
          · obtain ⟨h1, h2, h3⟩ := hc k x j y hk hj
            have hjm : j < m := by rw [← hn k x hk]; exact (List.getElem?_eq_some_iff.1 hj).1
            have hkl : k < xs.length := (List.getElem?_eq_some_iff.1 hk).1
            have hlt : k * m + j < xs.length * m := by
              have : (k + 1) * m <= xs.length * m := Nat.mul_le_mul_right m hkl
              rw [Nat.succ_mul] at this; omega
            refine ⟨f k j, ?_, hr k x j y hk hj, h3⟩
            rw [List.getElem?_toArray]
            simp only [news, List.getElem?_map, List.getElem?_eq_getElem (show k * m + j < (List.range (xs.length * m)).length by simpa using hlt), List.getElem_range, Option.map_some, Option.some.injEq]
            rw [← Nat.add_assoc, h2]; rfl
    | nilS =>
      simp only [Option.some.injEq] at he
      subst he
      cases hr
      exact ⟨[], Src.ofNil w hu 0, by simp, fun k x hk => by simp at hk, fun k x j y hk hj => by simp at hk⟩
    | nilE =>
      simp only [Option.some.injEq] at he
      subst he
      cases hr with
      | nilE ad =>
        cases ad with
        | none => exact ⟨[], Src.ofNil w hu 0, by simp, fun k x hk => by simp at hk, fun k x j y hk hj => by simp at hk⟩
        | some ad => exact ⟨[], Src.ofSlice w hu ad 0 0 [] (by simp) (fun j u hj => by simp at hj) (fun u hu => by simp at hu), by simp, fun k x hk => by simp at hk, fun k x j y hk hj => by simp at hk⟩
    | _ => simp at he
  · rename_i hu
    cases p with
    | str s =>
      simp only at he
      by_cases hn : Nat.beq n 1 = true
      · rw [hn, cond_true, Option.some.injEq] at he
        subst he
        have hn := Nat.eq_of_beq_eq_true hn
        subst hn
        cases hr
        refine ⟨byteCells s, ?_, by rw [byteCells_length, byteL_len, Nat.mul_one], ?_⟩
        · rw [byteL_len]; exact Src.ofString w hu s
        · have := byteL_elems (w := w) (g := g) s #[]
          rw [Array.append_empty] at this
          have e : (byteCells s).toArray = s.data.map (fun b => Value.int .u8 b.toNat) := by
            apply Array.ext'; simp [byteCells]
          rw [e]; exact this
      · rw [Bool.eq_false_iff.2 hn] at he; cases he
    | _ => simp at he
  · cases he
theorem setCells_row (b : Nat) : ∀ (vs : List Value) (off : Nat) (c : Array Value) (e : TypeId) (fz : Nat × Nat) (w : World), w.heap[b]? = some (.cells c e fz) -> off + vs.length <= c.size ->
  w.setCells b off vs = w.setRow b (rowSet c off vs)
 | [], off, c, e, fz, w, hb, _ => by
  have : rowSet c off [] = c := by
   apply Array.ext'; simp [rowSet]
  rw [this, setRow_self w b c e fz hb]; rfl
 | v :: vs, off, c, e, fz, w, hb, hl => by
  simp only [List.length_cons] at hl
  have h1 : (w.setRow b (c.setIfInBounds off v)).heap[b]? = some (.cells (c.setIfInBounds off v) e fz) := setRow_heap w b c _ e fz hb
  rw [World.setCells, setCell_eq_setRow w b off c e fz v hb, setCells_row b vs (off + 1) _ e fz _ h1 (by simp; omega), setRow_setRow]
  congr 1
  apply Array.ext_getElem?
  intro k
  rw [rowSet_get (by simp; omega), rowSet_get (by simp; omega), Array.getElem?_setIfInBounds]
  simp only [List.length_cons]
  by_cases h2 : k = off
  ·subst h2
   rw [if_neg (by omega), if_pos rfl, if_pos (by omega), if_pos (by omega)]
   simp
  ·by_cases h3 : off + 1 <= k /\ k < off + 1 + vs.length
   ·rw [if_pos h3, if_pos (by omega), show k - off = (k - (off + 1)) + 1 by omega, List.getElem?_cons_succ]
   ·rw [if_neg h3, if_neg (by omega), if_neg (by omega)]
theorem frozen_no {b : Nat} {c : Array Value} {e : TypeId} {fz : Nat × Nat} (hb : w.heap[b]? = some (.cells c e fz)) (hf : fz.2 = 0 ∨ c.size <= fz.1) {j : Nat} (hj : j < c.size) : w.frozen? ⟨b, j, none⟩ = false := by
 obtain ⟨lo, hi⟩ := fz
 simp only [World.frozen?, hb]
 simp only at hf
 rw [Bool.and_eq_false_iff]
 rcases hf with h | h
 ·right; simp; omega
 ·left; simp; omega
theorem Elems.append {n : Nat} {xs ys : List (List AV)} {c d : Array Value} {m : Nat} (hx : Elems w g n xs c) (hy : Elems w g n ys d) (hm : m = xs.length * n)
  (e : Array Value) (h1 : ∀ j, j < m -> e[j]? = c[j]?) (h2 : ∀ j, j < ys.length * n -> e[m + j]? = d[j]?) : Elems w g n (xs ++ ys) e := by
 refine ⟨fun k x hk => ?_, fun k x j y hk hj => ?_⟩
 ·rw [List.getElem?_append] at hk
  split at hk
  ·exact hx.1 k x hk
  ·exact hy.1 _ x hk
 ·rw [List.getElem?_append] at hk
  split at hk
  ·rename_i hlt
   have hjn : j < n := by rw [← hx.1 k x hk]; exact (List.getElem?_eq_some_iff.1 hj).1
   have : k * n + j < xs.length * n := by
    have : (k + 1) * n <= xs.length * n := Nat.mul_le_mul_right n hlt
    rw [Nat.succ_mul] at this; omega
   rw [h1 _ (by omega)]
   exact hx.2 k x j y hk hj
  ·rename_i hge
   have hjn : j < n := by rw [← hy.1 _ x hk]; exact (List.getElem?_eq_some_iff.1 hj).1
   have hlt : k - xs.length < ys.length := (List.getElem?_eq_some_iff.1 hk).1
   have h3 : (k - xs.length) * n + j < ys.length * n := by
    have : (k - xs.length + 1) * n <= ys.length * n := Nat.mul_le_mul_right n hlt
    rw [Nat.succ_mul] at this; omega
   have e1 : k * n + j = m + ((k - xs.length) * n + j) := by
    have : (xs.length + (k - xs.length)) * n = xs.length * n + (k - xs.length) * n := Nat.add_mul _ _ _
    rw [show xs.length + (k - xs.length) = k by omega] at this
    omega
   rw [e1, h2 _ h3]
   exact hy.2 _ x j y hk hj
theorem ap_ow (hs : SR nt st a w g lm) {t tx ty e : TypeId} {i : TypeInfo} (ht : P.underlying t = some (.slice e)) (hi : P.info? e = some i) {zc : List AV} (hzc : zeroC P e = some zc) (hzl : zc.length = i.size) (hpos : 0 < i.size)
  {xs ys : List (List AV)} {s v : Value} (hown : Own w g (.res 0) i.size xs s) {news : List Value} (hsrc : Src P i.size tx v ys.length news w) (hnl : news.length = ys.length * i.size) (hE : Elems w g i.size ys news.toArray)
  (hroom : roomW (xs.length + ys.length) i.bytes = true) :
  ∃ v' w' g', (Builtin.append_ #[t, tx] ty #[s, v]).run P w = .ok v' w' /\ SR nt st a w' g' lm /\ Tr w g w' g' /\ Own w' g' (.res 0) i.size (xs ++ ys) v' := by
 obtain ⟨i', z, hi', hz, hzz, _⟩ := zeroC_spec hzc
 rw [hi] at hi'
 simp only [Option.some.injEq] at hi'
 subst hi'
 obtain ⟨hroom1, hroom2, hroom3⟩ := roomW_spec hroom
 have hlen := roomW_len hroom
 have grow : ∀ (base : Option Addr) (cap : Nat) (olds : List Value) (c : Array Value), (Builtin.firstCells i.size xs.length (.slice base xs.length cap)).run P w.drew = .ok olds.toArray w.drew -> olds.length = xs.length * i.size ->
   cap < xs.length + ys.length -> Elems w g i.size xs c -> (∀ j, j < olds.length -> olds[j]? = c[j]?) -> s = .slice base xs.length cap ->
   ∃ v' w' g', (Builtin.append_ #[t, tx] ty #[s, v]).run P w = .ok v' w' /\ SR nt st a w' g' lm /\ Tr w g w' g' /\ Own w' g' (.res 0) i.size (xs ++ ys) v' := by
  intro base cap olds c hold hol hg hx hoc hsv
  subst hsv
  have hfit := hroom3 _ hg
  have hrun := run_append_grow_src w t tx ty e i z ht hi hz base xs.length cap olds hold v ys.length news hsrc hg (by omega) hfit
  have hge := grownCap_ge w (xs.length + ys.length) cap e
  let cs : Array Value := (olds ++ news).toArray ++ Builtin.zeroCells z.cells (grownCap w (xs.length + ys.length) cap e - (xs.length + ys.length))
  have hcs : cs.size = grownCap w (xs.length + ys.length) cap e * i.size := by
   have e1 : z.cells.size = i.size := by omega
   simp only [cs, Array.size_append, List.size_toArray, List.length_append, hol, hnl, Builtin.zeroCells, Array.size_map, Array.size_range, e1]
   rw [← Nat.add_mul, ← Nat.add_mul]; congr 1; omega
  have hall : Elems w.drew g i.size (xs ++ ys) cs := by
   refine (Elems.append (m := xs.length * i.size) hx hE rfl cs (fun j hj => ?_) (fun j hj => ?_)).mono (drew_Le w g)
   ·rw [← hoc j (by omega)]
    simp only [cs]
    rw [Array.getElem?_append_left (by simp; omega), List.getElem?_toArray, List.getElem?_append_left (by omega)]
   ·simp only [cs]
    rw [Array.getElem?_append_left (by simp; omega), List.getElem?_toArray, List.getElem?_append_right (by omega), List.getElem?_toArray, hol]
    congr 1; omega
  obtain ⟨s2, t2, r2⟩ := hs.drew.new_ow cs e (0, 0) (.inl rfl) i.size _ hpos hcs (xs ++ ys) (by simpa using hge) hall.1 hall.2
  obtain ⟨_, r2⟩ := r2
  rw [List.length_append] at r2
  exact ⟨_, _, _, hrun, s2, (drew_Tr w g).trans t2, r2⟩
 cases hown with
 | emp ad =>
  by_cases hy : ys = []
  ·subst hy
   simp only [List.length_nil, Nat.zero_mul, List.length_eq_zero_iff] at hnl
   subst hnl
   exact ⟨_, w, g, run_append_nothing w t tx ty e i ht hi ad 0 0 (Nat.le_refl _) v hsrc, hs, Tr.refl w g, .emp ad⟩
  ·have hyl : 0 < ys.length := List.length_pos_iff.2 hy
   refine grow ad 0 [] #[] ?_ (by simp) (by simpa using hyl) ⟨fun k x hk => by simp at hk, fun k x j y hk hj => by simp at hk⟩ (by simp) rfl
   cases ad <;> simp [Builtin.firstCells, loadCells, loadCellsFrom]
 | blk _ b cap c e' fz f hl hn hx hb hf hz ho hsl hc hr =>
  have hx' : Elems w g i.size xs c := ⟨hx, fun k x j y hk hj => ⟨f k j, (hc k x j y hk hj).1, hr k x j y hk hj, (hc k x j y hk hj).2⟩⟩
  have hle : xs.length * i.size <= c.size := by rw [hz]; exact Nat.mul_le_mul_right _ hl
  by_cases hrm : xs.length + ys.length <= cap
  ·have hsz : xs.length * i.size + news.length <= c.size := by
    rw [hnl, ← Nat.add_mul, hz]; exact Nat.mul_le_mul_right _ hrm
   have hrun := run_append_room_src w t tx ty e i ht hi b 0 xs.length cap v ys.length news hsrc hrm (fun j hj => by
    have : Cl w b (0 + xs.length * i.size + j) = c[0 + xs.length * i.size + j]? := Cl_of hb
    show (Cl w b (0 + xs.length * i.size + j)).isSome = true
    rw [this, Array.getElem?_eq_getElem (by omega)]; rfl) (fun j hj => frozen_no hb hf (by omega))
   rw [Nat.zero_add, setCells_row b news (xs.length * i.size) c e' fz w hb hsz] at hrun
   have hk : ∀ j, j < g.sl b -> (rowSet c (xs.length * i.size) news)[j]? = c[j]? := fun j hj => by
    rw [rowSet_get hsz, if_neg (by omega)]
   have K : ∀ hd, hd ≠ .res 0 -> Kp w g (w.setRow b (rowSet c (xs.length * i.size) news)) (gMove g b (.res 0)) hd := fun hd hne => row_Kp hb (rowSet_size hsz) hk _ (by rw [ho]; exact hne)
   refine ⟨_, _, gMove g b (.res 0), hrun, hs.keep (row_Wf hs.wf hb (rowSet_size hsz) _ (by rw [ho]; simp)) rfl (fun hd _ h1 _ => K hd (h1 0)), row_Tr hb (rowSet_size hsz) hk _ (by rw [ho]; simp), ?_⟩
   have L := (K .oth (by simp)).le
   have hall : Elems w g i.size (xs ++ ys) (rowSet c (xs.length * i.size) news) := by
    refine Elems.append (m := xs.length * i.size) hx' hE rfl _ (fun j hj => ?_) (fun j hj => ?_)
    ·rw [rowSet_get hsz, if_neg (by omega)]
    ·rw [rowSet_get hsz, if_pos (by omega), List.getElem?_toArray]; congr 1; omega
   have hall := hall.mono L
   rw [← List.length_append]
   refine .blk (xs ++ ys) b cap _ e' fz (fun k j => (rowSet c (xs.length * i.size) news).getD (k * i.size + j) undef) (by simpa using hrm) hn hall.1 (row_heap hb) (by rw [rowSet_size hsz]; exact hf) (by rw [rowSet_size hsz]; exact hz)
    (by simp only [gMove, upd_same]) (by show g.sl b <= _; rw [List.length_append, Nat.add_mul]; omega) (fun k x j y hk hj => ?_) (fun k x j y hk hj => ?_)
   ·obtain ⟨u, hu, _, h1⟩ := hall.2 k x j y hk hj
    exact ⟨by simp [Array.getD_eq_getD_getElem?, hu], h1⟩
   ·obtain ⟨u, hu, hr, _⟩ := hall.2 k x j y hk hj
    simpa [Array.getD_eq_getD_getElem?, hu] using hr
  ·let olds : List Value := c.toList.take (xs.length * i.size)
   have hol : olds.length = xs.length * i.size := by simp [olds]; omega
   refine grow (some ⟨b, 0, none⟩) cap olds c ?_ hol (by omega) hx' (fun j hj => ?_) rfl
   ·refine run_firstCells_some w.drew i.size xs.length ⟨b, 0, none⟩ xs.length cap olds hol (fun j u hj => ?_)
    rw [Addr.add_mid, World.cell?_drew]
    show Cl w b (0 + j) = _
    rw [Cl_of hb, Nat.zero_add]
    simp only [olds, List.getElem?_take] at hj
    split at hj
    ·simpa using hj
    ·cases hj
   ·simp only [olds, List.getElem?_take]
    rw [if_pos (by omega), Array.getElem?_toList]
end Go.Proofs.Am
