/-
  What is read out of memory.
-/
import Derived.Test.YtmgjnbhofkchmaaGreatDoorAmOpD

namespace Go.Proofs.Am
open Go

variable {R : Type} {P : Program} {nt : Nat} {o : Oper} {st : St} {a : Act} {w : World} {g : Gh} {lm : Nat → Nat} {K : LV → St → Option R} {r : R}

theorem loadVar_agg {t : TypeId} {z : Nat × Bool} (hz : tyz P t = some z) (h2 : z.2 = true) {b off : Nat} {vs : Array Value} (hv : vs.size = z.1) (hc : ∀ (j : Nat) (v : Value), vs[j]? = some v → Cl w b (off + j) = some v) :
    (loadVar t ⟨b, off, none⟩).run P w = .ok (.agg vs) w := by
  obtain ⟨i, d, hi, hsz, hd, hrow⟩ := tyz_spec hz
  have := run_loadVar_mid (P := P) w b off t vs.toList d (fun j v hj => hc j v (by simpa using hj)) hd (by rw [← hrow]; exact h2) (by simp [hi, hsz, hv])
  simpa using this
theorem loadVar_one {t : TypeId} {z : Nat × Bool} (hz : tyz P t = some z) (h2 : z.2 = false) {b off : Nat} {v : Value} (hc : Cl w b off = some v) : (loadVar t ⟨b, off, none⟩).run P w = .ok v w := by
  obtain ⟨i, d, hi, hsz, hd, hrow⟩ := tyz_spec hz
  have e : d.isRow = false := by rw [← hrow]; exact h2
  have hc' : w.cell? ⟨b, off, none⟩ = some v := hc
  simp [loadVar, run_isAgg hd, e, hc']

theorem snap_cells {cs : List AV} {b off : Nat} (h : Rep w g (.snap cs) (.pointer (some ⟨b, off, none⟩))) :
    ∀ (j : Nat) (c : AV), cs[j]? = some c → ∃ u, Cl w b (off + j) = some u ∧ Rep w g c u ∧ c.one = true := by
  cases h with
  | snap _ _ _ f hc hr => exact fun j c hj => ⟨f j, (hc j c hj).2.1, hr j c hj, (hc j c hj).2.2⟩

/-- A variable of the type, whose cells are known. -/
theorem load_run {t : TypeId} {z : Nat × Bool} (hz : tyz P t = some z) {b off : Nat} {cs : List AV} (hc : ∀ (j : Nat) (c : AV), cs[j]? = some c → ∃ u, Cl w b (off + j) = some u ∧ Rep w g c u ∧ c.one = true)
    {x : AV} (h : ldA cs z.1 z.2 = some x) : ∃ v, (loadVar t ⟨b, off, none⟩).run P w = .ok v w ∧ Rep w g x v := by
  unfold ldA at h
  cases h2 : z.2 with
  | true =>
    rw [h2] at h
    by_cases hb : Nat.ble z.1 cs.length = true
    · simp only [hb, cond_true, Option.some.injEq] at h
      subst h
      have hb' := Nat.le_of_ble_eq_true hb
      let vs : Array Value := ((List.range z.1).map fun j => (Cl w b (off + j)).getD undef).toArray
      have hvs : ∀ (j : Nat) (v : Value), vs[j]? = some v → j < z.1 ∧ v = (Cl w b (off + j)).getD undef := by
        intro j v hj
        simp only [vs, List.getElem?_toArray, List.getElem?_map] at hj
        by_cases hlt : j < z.1
        · simp [hlt] at hj; exact ⟨hlt, hj.symm⟩
        · simp [hlt] at hj
      refine ⟨.agg vs, loadVar_agg hz h2 (by simp [vs]) (fun j v hj => ?_), agg_of (by simp [vs]; omega) (fun j c hj => ?_)⟩
      · obtain ⟨hlt, rfl⟩ := hvs j v hj
        obtain ⟨u, hu, _⟩ := hc j cs[j] (List.getElem?_eq_getElem (by omega))
        rw [hu]; rfl
      · rw [List.getElem?_take] at hj
        split at hj
        · rename_i hlt
          obtain ⟨u, hu, hr, h1⟩ := hc j c hj
          exact ⟨u, by simp [vs, hlt, hu], hr, h1⟩
        · cases hj
    · simp [Bool.eq_false_iff.2 hb] at h
  | false =>
    rw [h2] at h
    simp only [cond_false] at h
    rw [List.head?_eq_getElem?] at h
    obtain ⟨u, hu, hr, _⟩ := hc 0 x h
    exact ⟨u, loadVar_one hz h2 hu, hr⟩

theorem ptr_inv {id off : Nat} {v : Value} (h : Rep w g (.ptr id off) v) : id < g.nb ∧ v = .pointer (some ⟨g.bm id, off, none⟩) := by
  cases h with
  | ptr _ _ hid => exact ⟨hid, rfl⟩

/-- A heap box, read. -/
theorem heap_read (hs : SR nt st a w g lm) {id off n : Nat} {bx : List LV} (hb : st.h.bx[id]? = some bx) {cs : List AV} (hc : cpyL ((bx.drop off).take n) = some cs) :
    ∃ g', SR nt st a w g' lm ∧ Qt w g w g' ∧ g'.bm id = g.bm id ∧ ∀ (j : Nat) (c : AV), cs[j]? = some c → ∃ u, Cl w (g.bm id) (off + j) = some u ∧ Rep w g' c u ∧ c.one = true := by
  by_cases hne : bx = []
  · subst hne
    simp only [List.drop_nil, List.take_nil, cpyL, Option.some.injEq] at hc
    subst hc
    exact ⟨g, hs, Qt.refl w g, rfl, by simp⟩
  · obtain ⟨h2, h3, c, e, h4, h5, h6⟩ := hs.hp.2 id bx hb hne
    have F := SR.famHeap (nt := nt) (st := st) (a := a) (w := w) (lm := lm) id (g.bm id) bx hb hne c e h4
    obtain ⟨hlen, g', ⟨s', hbm⟩, tr, hall⟩ := F.cpyL ((bx.drop off).take n) off cs g (fun i y hi => by
      rw [List.getElem?_take] at hi
      split at hi
      · rw [List.getElem?_drop] at hi
        exact ⟨(List.getElem?_eq_some_iff.1 hi).1, by simp [List.getD_eq_getElem?_getD, hi]⟩
      · cases hi) ⟨hs, rfl⟩ hc
    refine ⟨g', s', tr, hbm, fun j c' hj => ?_⟩
    obtain ⟨hr, h1⟩ := hall j c' hj
    have hlt : j < ((bx.drop off).take n).length := by rw [← hlen]; exact (List.getElem?_eq_some_iff.1 hj).1
    simp only [List.length_take, List.length_drop] at hlt
    have hlt2 : off + j < c.size := by omega
    refine ⟨c.getD (off + j) undef, ?_, hr, h1⟩
    rw [Cl_of h4]; simp [Array.getD_eq_getD_getElem?, hlt2]

theorem good_load_heap {t : TypeId} {x : Operand} {z : Nat × Bool} {p : AV} (ho : o.op = .load t x) (hs : SR nt st a w g lm) (hz : tyz P t = some z) (hx : st.rd x = .v p)
    (h : ((ldP st.h p z.1 z.2).bind fun u => K (.v u) st) = some r) : Good P nt o a w g K r := by
  simp only [Option.bind_eq_some_iff] at h
  obtain ⟨u, hu, h⟩ := h
  obtain ⟨g1, s1, t1, r1⟩ := rd_ok hs x
  have hp : Rep w g1 p (a.eval x) := by have := r1 .res; rw [hx] at this; exact this
  cases p with
  | ptr id off =>
    simp only [ldP, Option.bind_eq_some_iff] at hu
    obtain ⟨bx, hb, cs, hcs, hu⟩ := hu
    by_cases hl : Nat.beq cs.length z.1 = true
    · rw [hl, cond_true] at hu
      obtain ⟨g2, s2, t2, hbm, hc⟩ := heap_read s1 hb hcs
      obtain ⟨v, hv, hr⟩ := load_run (g := g2) hz hc hu
      refine Good.pre (t1.trans t2) (Good.pure s2 h (v := v) ?_ hr)
      simp only [execOp, ho]
      refine run_pureV ?_
      simp [Instr.loadAt, (ptr_inv hp).2, Instr.sureAddr, hv]
    · rw [Bool.eq_false_iff.2 hl] at hu; cases hu
  | _ => simp [ldP] at hu

theorem good_load_snap {t : TypeId} {x : Operand} {z : Nat × Bool} {p : AV} (ho : o.op = .load t x) (hs : SR nt st a w g lm) (hz : tyz P t = some z) (hx : st.rd x = .v p)
    (h : ((ldS p z.1 z.2).bind fun u => K (.v u) st) = some r) : Good P nt o a w g K r := by
  simp only [Option.bind_eq_some_iff] at h
  obtain ⟨u, hu, h⟩ := h
  obtain ⟨g1, s1, t1, r1⟩ := rd_ok hs x
  have hp : Rep w g1 p (a.eval x) := by have := r1 .res; rw [hx] at this; exact this
  cases p with
  | snap cs =>
    simp only [ldS] at hu
    generalize he : a.eval x = v at hp
    have hv : ∃ b off, v = .pointer (some ⟨b, off, none⟩) := by cases hp; exact ⟨_, _, rfl⟩
    obtain ⟨b, off, rfl⟩ := hv
    obtain ⟨y, hy, hr⟩ := load_run (g := g1) hz (snap_cells hp) hu
    refine Good.pre t1 (Good.pure s1 h (v := y) ?_ hr)
    simp only [execOp, ho]
    refine run_pureV ?_
    simp [Instr.loadAt, he, Instr.sureAddr, hy]
  | _ => simp [ldS] at hu

theorem ldN_cpyL (m : Nat → Nat → LV) (i : Nat) : ∀ (n off : Nat), ldN m i off n = cpyL ((List.range n).map fun j => m i (off + j))
  | 0, off => rfl
  | n + 1, off => by
    have e : (List.range (n + 1)).map (fun j => m i (off + j)) = m i off :: (List.range n).map (fun j => m i (off + 1 + j)) := by
      rw [List.range_succ_eq_map, List.map_cons, List.map_map]
      congr 1
      apply List.map_congr_left
      intro j _
      simp only [Function.comp]
      congr 1; omega
    rw [e]
    simp only [ldN, cpyL, ldN_cpyL m i n (off + 1)]

/-- A local box, read. -/
theorem box_read (hs : SR nt st a w g lm) {b off n : Nat} (hb : off + n ≤ st.z b) {cs : List AV} (hc : ldN st.m b off n = some cs) :
    cs.length = n ∧ ∃ g', SR nt st a w g' lm ∧ Qt w g w g' ∧ ∀ (j : Nat) (c : AV), cs[j]? = some c → ∃ u, Cl w (lm b) (off + j) = some u ∧ Rep w g' c u ∧ c.one = true := by
  by_cases hn : n = 0
  · subst hn
    simp only [ldN, Option.some.injEq] at hc
    subst hc
    exact ⟨rfl, g, hs, Qt.refl w g, by simp⟩
  · obtain ⟨h1, h2, h3, c, e, h4, h5, h6⟩ := hs.bx b (by omega)
    have F := SR.famBox (nt := nt) (st := st) (a := a) (w := w) (lm := lm) b (by omega) c e h4
    rw [ldN_cpyL] at hc
    obtain ⟨hlen, g', s', tr, hall⟩ := F.cpyL _ off cs g (fun i y hi => by
      have hlt : i < n := by have := (List.getElem?_eq_some_iff.1 hi).1; simpa using this
      rw [List.getElem?_map, List.getElem?_eq_getElem (by simpa using hlt)] at hi
      simp only [List.getElem_range, Option.map_some, Option.some.injEq] at hi
      exact ⟨by omega, hi⟩) hs hc
    refine ⟨by simpa using hlen, g', s', tr, fun j c' hj => ?_⟩
    obtain ⟨hr, h1'⟩ := hall j c' hj
    have hlt : j < n := by have := (List.getElem?_eq_some_iff.1 hj).1; simp at hlen; omega
    have hlt2 : off + j < c.size := by omega
    refine ⟨c.getD (off + j) undef, ?_, hr, h1'⟩
    rw [Cl_of h4]; simp [Array.getD_eq_getD_getElem?, hlt2]

theorem good_load_box {t : TypeId} {x : Operand} {z : Nat × Bool} {b off : Nat} (ho : o.op = .load t x) (hs : SR nt st a w g lm) (hz : tyz P t = some z) (hx : st.rd x = .lp b off)
    (hb : off + (bif z.2 then z.1 else 1) ≤ st.z b)
    (h : (bif z.2 then (ldN st.m b off z.1).bind fun cs => K (.v (.agg cs)) st else K (st.m b off).cp st) = some r) : Good P nt o a w g K r := by
  obtain ⟨g1, s1, t1, r1⟩ := rd_ok hs x
  have he := r1 .res
  rw [hx] at he
  obtain ⟨_, he⟩ := he
  have key : ∀ v, (loadVar t ⟨lm b, off, none⟩).run P w = .ok v w → (execOp a.eval o).run P w = .ok (.value v) w := by
    intro v hv
    simp only [execOp, ho]
    refine run_pureV ?_
    simp [Instr.loadAt, he, Instr.sureAddr, hv]
  cases h2 : z.2 with
  | true =>
    rw [h2] at h hb
    simp only [cond_true, Option.bind_eq_some_iff] at h hb
    obtain ⟨cs, hcs, h⟩ := h
    obtain ⟨hlen, g2, s2, t2, hc⟩ := box_read s1 hb hcs
    have hld : ldA cs z.1 z.2 = some (.agg cs) := by
      unfold ldA
      rw [h2, hlen, Nat.ble_eq_true_of_le (Nat.le_refl _)]
      simp only [cond_true, Option.some.injEq, AV.agg.injEq]
      exact List.take_of_length_le (by omega)
    obtain ⟨v, hv, hr⟩ := load_run (g := g2) hz hc hld
    exact Good.pre (t1.trans t2) (Good.pure s2 h (key v hv) hr)
  | false =>
    rw [h2] at h hb
    simp only [cond_false] at h hb
    obtain ⟨_, _, _, c, e, h4, h5, h6⟩ := s1.bx b (by omega)
    have F := SR.famBox (nt := nt) (st := st) (a := a) (w := w) (lm := lm) b (by omega) c e h4
    obtain ⟨g2, s2, t2, hr⟩ := F.cp1 (k := off) (by omega) s1
    have hlt : off < c.size := by omega
    have hcl : Cl w (lm b) off = some (c.getD off undef) := by rw [Cl_of h4]; simp [Array.getD_eq_getD_getElem?, hlt]
    have hcp : (st.m b off).cp = (st.m b off).cp1 ∨ ∃ cs, st.m b off = .ag cs := by
      cases hm : st.m b off <;> simp [LV.cp, LV.cp1]
    refine Good.pre (t1.trans t2) (Good.pure s2 h (key _ (loadVar_one hz h2 hcl)) ?_)
    have hr := hr .oth
    obtain ⟨_, _, _, c', e', h4', _, h6'⟩ := s2.bx b (by omega)
    obtain ⟨u, _, hu⟩ := h6' off (by omega)
    cases hm : st.m b off <;> rw [hm] at hr hu <;> simp only [LV.cp, LV.cp1, RepC] at hr hu ⊢
    · exact trivial
    · exact hr.1
    · exact hr.1

end Go.Proofs.Am
