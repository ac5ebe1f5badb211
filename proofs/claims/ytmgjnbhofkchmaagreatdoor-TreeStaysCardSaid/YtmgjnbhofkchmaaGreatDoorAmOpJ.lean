/-
  Stores, and what is taken out of a box.
-/
import Derived.Test.YtmgjnbhofkchmaaGreatDoorAmOpI

namespace Go.Proofs.Am
open Go

variable {R : Type} {P : Program} {nt : Nat} {o : Oper} {st : St} {a : Act} {w : World} {g : Gh} {lm : Nat → Nat} {K : LV → St → Option R} {r : R}

theorem one_one' {v : Value} (h : v.oneCell = true) : v.oneCell' = true := by cases v <;> simp_all [Value.oneCell, Value.oneCell']

theorem RepC.oneCell {hd : Hd} {x : LV} {v : Value} (h : RepC w g hd x v) (hx : x.isC = true) : v.oneCell' = true := by
  cases x <;> simp only [LV.isC, Bool.false_eq_true] at hx <;> simp only [RepC] at h
  · exact one_one' (h.1.oneCell h.2).2
  · cases h.2 <;> rfl

/-- Cells of a row that are set. -/
def rowSet (c : Array Value) (off : Nat) (vs : List Value) : Array Value := (c.toList.take off ++ vs ++ c.toList.drop (off + vs.length)).toArray
theorem rowSet_size {c : Array Value} {off : Nat} {vs : List Value} (h : off + vs.length ≤ c.size) : (rowSet c off vs).size = c.size := by
  simp [rowSet]; omega
theorem rowSet_get {c : Array Value} {off : Nat} {vs : List Value} (h : off + vs.length ≤ c.size) (k : Nat) : (rowSet c off vs)[k]? = if off ≤ k ∧ k < off + vs.length then vs[k - off]? else c[k]? := by
  simp only [rowSet, List.getElem?_toArray, List.append_assoc]
  by_cases h1 : k < off
  · rw [List.getElem?_append_left (by simp; omega), List.getElem?_take, if_pos h1, if_neg (by omega), Array.getElem?_toList]
  · rw [List.getElem?_append_right (by simp; omega)]
    have e : (c.toList.take off).length = off := by simp; omega
    rw [e]
    by_cases h2 : k < off + vs.length
    · rw [List.getElem?_append_left (by omega), if_pos (by omega)]
    · rw [List.getElem?_append_right (by omega), if_neg (by omega), List.getElem?_drop, Array.getElem?_toList]
      congr 1; omega
theorem storeCells_row {b off : Nat} {c : Array Value} {e : TypeId} {vs : List Value} (hb : w.heap[b]? = some (.cells c e (0, 0))) (h : off + vs.length ≤ c.size) (h1 : ∀ v ∈ vs, v.oneCell' = true) :
    (storeCells ⟨b, off, none⟩ vs).run P w = .ok () (w.setRow b (rowSet c off vs)) := by
  have := run_storeCells_at P b off e vs 0 c w hb (by simpa using h) h1
  simpa [rowSet] using this

theorem storeVar_row {t : TypeId} {z : Nat × Bool} (hz : tyz P t = some z) {b off : Nat} {c : Array Value} {e : TypeId} {v : Value} (hv : v.cells.size = z.1) (hb : w.heap[b]? = some (.cells c e (0, 0))) (h : off + z.1 ≤ c.size)
    (h1 : ∀ (j : Nat) (u : Value), v.cells[j]? = some u → u.oneCell' = true) : (storeVar t ⟨b, off, none⟩ v).run P w = .ok () (w.setRow b (rowSet c off v.cells.toList)) := by
  obtain ⟨i, d, hi, hsz, _, _⟩ := tyz_spec hz
  have := storeCells_row (P := P) (off := off) (vs := v.cells.toList) hb (by simp; omega) (fun u hu => by
    obtain ⟨j, hj⟩ := List.mem_iff_getElem?.1 hu
    exact h1 j u (by simpa using hj))
  simp [storeVar, run_sizeOf hi, hv, hsz, this]

/-- A result's cells are a box's. -/
def toCell (i off : Nat) : Hd → Hd
  | .res c => .cell i (off + c)
  | h => h
def toHcell (id off : Nat) : Hd → Hd
  | .res c => .hcell id (off + c)
  | h => h

theorem SR.rel (hs : SR nt st a w g lm) {ρ : Hd → Hd} (h : ∀ hd, (∀ c, hd ≠ .res c) → ρ hd = hd) : SR nt st a w (gRel g ρ) lm :=
  hs.keep (rel_Wf hs.wf (h _ (by simp))) rfl (fun hd _ hr _ => rel_Kp w g (h hd hr))

theorem toCell_ne {i off : Nat} {hd : Hd} (h : ∀ c, hd ≠ .res c) : toCell i off hd = hd := by cases hd <;> simp_all [toCell]
theorem toHcell_ne {i off : Nat} {hd : Hd} (h : ∀ c, hd ≠ .res c) : toHcell i off hd = hd := by cases hd <;> simp_all [toHcell]

/-- A local box is written. -/
theorem SR.write_box (hs : SR nt st a w g lm) {b off n : Nat} {c : Array Value} {e : TypeId} (hn : 0 < n) (hb : w.heap[lm b]? = some (.cells c e (0, 0))) (hz : off + n ≤ st.z b) {vs : List Value} (hl : vs.length = n) (f : Nat → LV)
    (hc : ∀ j, j < n → ∃ u, vs[j]? = some u ∧ RepC w g (.res j) (f j) u) :
    SR nt { st with m := stN st.m b off f n } a (w.setRow (lm b) (rowSet c off vs)) (gMove (gRel g (toCell b off)) (lm b) (.box b)) lm ∧
      Tr w g (w.setRow (lm b) (rowSet c off vs)) (gMove (gRel g (toCell b off)) (lm b) (.box b)) := by
  have s1 := hs.rel (ρ := toCell b off) (fun hd h => toCell_ne h)
  obtain ⟨h1, h2, h3, c1, e1, h4, h5, h6⟩ := s1.bx b (by omega)
  rw [hb] at h4
  simp only [Option.some.injEq, Obj.cells.injEq] at h4
  obtain ⟨rfl, rfl, _⟩ := h4
  have hsz : off + vs.length ≤ c.size := by omega
  have hk : ∀ j, j < (gRel g (toCell b off)).sl (lm b) → (rowSet c off vs)[j]? = c[j]? := fun j hj => by rw [h3] at hj; omega
  have K : ∀ hd, hd ≠ .box b → Kp w (gRel g (toCell b off)) (w.setRow (lm b) (rowSet c off vs)) (gMove (gRel g (toCell b off)) (lm b) (.box b)) hd := fun hd hne =>
    row_Kp hb (rowSet_size hsz) hk _ (by rw [h2]; exact hne)
  refine ⟨⟨row_Wf s1.wf hb (rowSet_size hsz) _ (by rw [h2]; simp), s1.nt, s1.df, fun j => (s1.tm j).mono (fun c => K _ (by simp)), fun i hi => ?_, s1.hp.keep rfl (fun _ => K _ (by simp)) (fun _ _ => K _ (by simp))⟩,
    (rel_Tr w g (toCell_ne (by simp))).trans (row_Tr hb (rowSet_size hsz) hk _ (by rw [h2]; simp))⟩
  by_cases hib : i = b
  · subst hib
    refine ⟨h1, by simp only [gMove, upd_same], h3, _, _, row_heap hb, by rw [rowSet_size hsz]; exact h5, fun j hj => ?_⟩
    dsimp only at hj hi ⊢
    rw [stN_get, rowSet_get hsz]
    by_cases hin : off ≤ j ∧ j < off + n
    · rw [if_pos (⟨rfl, hin⟩ : i = i ∧ off ≤ j ∧ j < off + n), if_pos (by omega)]
      obtain ⟨u, hu, hr⟩ := hc (j - off) (by omega)
      refine ⟨u, hu, ?_⟩
      have hr2 := hr.rel (ρ := toCell i off) (fun _ => by simp [toCell])
      simp only [toCell, show off + (j - off) = j by omega] at hr2
      exact hr2.mono (K _ (by simp))
    · rw [if_neg (by omega), if_neg (by omega)]
      obtain ⟨u, hu, hr⟩ := h6 j hj
      exact ⟨u, hu, hr.mono (K _ (by simp))⟩
  · obtain ⟨b1, b2, b3, c2, e2, b4, b5, b6⟩ := s1.bx i hi
    obtain ⟨k1, k2, k3⟩ := (K (.box i) (by simp [hib])).blk _ (heap_lt b4) b2
    refine ⟨b1, k2, k3.trans b3, c2, e2, k1.trans b4, b5, fun j hj => ?_⟩
    obtain ⟨u, hu, hr⟩ := b6 j hj
    refine ⟨u, hu, ?_⟩
    dsimp only
    rw [stN_get, if_neg (by omega)]
    exact hr.mono (K _ (by simp))

theorem setL_len : ∀ (l : List LV) (bx : List LV) (off : Nat), (setL bx off l).length = bx.length
  | [], _, _ => rfl
  | x :: l, bx, off => by simp [setL, setL_len l]
theorem setL_get : ∀ (l : List LV) (bx : List LV) (off k : Nat), (setL bx off l)[k]? = if off ≤ k ∧ k < off + l.length ∧ k < bx.length then l[k - off]? else bx[k]?
  | [], bx, off, k => by rw [if_neg (by simp; omega)]; rfl
  | x :: l, bx, off, k => by
    simp only [setL, setL_get l, List.length_set, List.length_cons, List.getElem?_set]
    by_cases h1 : off = k
    · subst h1
      by_cases h2 : off < bx.length
      · rw [if_neg (by omega), if_pos rfl, if_pos h2, if_pos (by omega)]; simp
      · rw [if_neg (by omega), if_pos rfl, if_neg h2, if_neg (by omega), List.getElem?_eq_none (by omega)]
    · by_cases h3 : off + 1 ≤ k ∧ k < off + 1 + l.length ∧ k < bx.length
      · rw [if_pos h3, if_pos (by omega), show k - off = (k - (off + 1)) + 1 by omega, List.getElem?_cons_succ]
      · rw [if_neg h3, if_neg h1, if_neg (by omega)]

/-- A heap box is written. -/
theorem SR.write_heap (hs : SR nt st a w g lm) {id off : Nat} {bx l : List LV} {c : Array Value} {e : TypeId} (hid : st.h.bx[id]? = some bx) (hn : 0 < l.length) (hb : w.heap[g.bm id]? = some (.cells c e (0, 0))) (hz : off + l.length ≤ bx.length)
    {vs : List Value} (hl : vs.length = l.length) (hc : ∀ (j : Nat) (x : LV), l[j]? = some x → ∃ u, vs[j]? = some u ∧ RepC w g (.res j) x u) :
    SR nt { st with h := { st.h with bx := st.h.bx.set id (setL bx off l) } } a (w.setRow (g.bm id) (rowSet c off vs)) (gMove (gRel g (toHcell id off)) (g.bm id) (.hbox id)) lm ∧
      Tr w g (w.setRow (g.bm id) (rowSet c off vs)) (gMove (gRel g (toHcell id off)) (g.bm id) (.hbox id)) := by
  have s1 := hs.rel (ρ := toHcell id off) (fun hd h => toHcell_ne h)
  have hne : bx ≠ [] := by intro h; subst h; have : off + l.length ≤ 0 := hz; omega
  obtain ⟨h2, h3, c1, e1, h4, h5, h6⟩ := s1.hp.2 id bx hid hne
  have hbm : (gRel g (toHcell id off)).bm id = g.bm id := rfl
  rw [hbm] at h2 h3 h4
  rw [hb] at h4
  simp only [Option.some.injEq, Obj.cells.injEq] at h4
  obtain ⟨rfl, rfl, _⟩ := h4
  have hsz : off + vs.length ≤ c.size := by omega
  have hk : ∀ j, j < (gRel g (toHcell id off)).sl (g.bm id) → (rowSet c off vs)[j]? = c[j]? := fun j hj => by rw [h3] at hj; omega
  have K : ∀ hd, hd ≠ .hbox id → Kp w (gRel g (toHcell id off)) (w.setRow (g.bm id) (rowSet c off vs)) (gMove (gRel g (toHcell id off)) (g.bm id) (.hbox id)) hd := fun hd hne =>
    row_Kp hb (rowSet_size hsz) hk _ (by rw [h2]; exact hne)
  refine ⟨⟨row_Wf s1.wf hb (rowSet_size hsz) _ (by rw [h2]; simp), s1.nt, s1.df, fun j => (s1.tm j).mono (fun c => K _ (by simp)), s1.bx.keep (fun _ => K _ (by simp)) (fun _ _ => K _ (by simp)), ⟨?_, fun i bx' hi hne' => ?_⟩⟩,
    (rel_Tr w g (toHcell_ne (by simp))).trans (row_Tr hb (rowSet_size hsz) hk _ (by rw [h2]; simp))⟩
  · show g.nb = _; rw [List.length_set]; exact hs.hp.1
  · simp only [List.getElem?_set] at hi
    by_cases hib : id = i
    · subst hib
      rw [if_pos rfl] at hi
      split at hi
      · simp only [Option.some.injEq] at hi
        subst hi
        refine ⟨by simp only [gMove]; exact upd_same _ _ _, h3, _, _, row_heap hb, by rw [rowSet_size hsz, setL_len]; exact h5, fun j x hj => ?_⟩
        rw [setL_get] at hj
        rw [rowSet_get hsz]
        split at hj
        · rename_i hin
          rw [if_pos (by omega)]
          obtain ⟨u, hu, hr⟩ := hc (j - off) x hj
          refine ⟨u, hu, ?_⟩
          have hr2 := hr.rel (ρ := toHcell id off) (fun _ => by simp [toHcell])
          simp only [toHcell, show off + (j - off) = j by omega] at hr2
          exact hr2.mono (K _ (by simp))
        · rename_i hin
          have hlt : j < bx.length := (List.getElem?_eq_some_iff.1 hj).1
          rw [if_neg (by omega)]
          obtain ⟨u, hu, hr⟩ := h6 j x hj
          exact ⟨u, hu, hr.mono (K _ (by simp))⟩
      · cases hi
    · rw [if_neg hib] at hi
      obtain ⟨b2, b3, c2, e2, b4, b5, b6⟩ := s1.hp.2 i bx' hi hne'
      obtain ⟨k1, k2, k3⟩ := (K (.hbox i) (by simp; omega)).blk _ (heap_lt b4) b2
      exact ⟨k2, k3.trans b3, c2, e2, k1.trans b4, b5, fun j x hj => by
        obtain ⟨u, hu, hr⟩ := b6 j x hj
        exact ⟨u, hu, hr.mono (K _ (by simp))⟩⟩

/-! ### The operations -/
theorem good_store {t : TypeId} {x y : Operand} {hp tk : Bool} (ho : o.op = .store t x y) (hs : SR nt st a w g lm)
    (h : storeK P hp tk t x y st K = some r) : Good P nt o a w g K r := by
  unfold storeK at h
  simp only [Option.bind_eq_some_iff] at h
  obtain ⟨z, hz, h⟩ := h
  by_cases hz0 : Nat.blt 0 z.1 = true
  case neg => rw [Bool.eq_false_iff.2 hz0] at h; cases h
  have hzp : 0 < z.1 := Nat.le_of_ble_eq_true hz0
  simp only [hz0, Bool.not_true, cond_false] at h
  have core : ∀ (st1 : St) (g1 : Gh) (lv : LV), SR nt st1 a w g1 lm → Tr w g w g1 → RepV w g1 lm st1.nl .res lv (a.eval y) →
      (match lv with
        | .ag ls => bif Nat.beq ls.length z.1 && ls.all LV.isC then
            (bif hp then
              match st1.rd x with
              | .v p => (stP st1.h p ls).bind fun h => K .ud { st1 with h }
              | _ => none
            else
              match st1.rd x with
              | .lp b off => bif Nat.ble (off + z.1) (st1.z b) then K .ud { st1 with m := stN st1.m b off (fun j => ls.getD j .un) z.1 } else none
              | _ => none) else none
        | .v p => (p.toC z.1).bind fun cs =>
            (bif hp then
              match st1.rd x with
              | .v p => (stP st1.h p (cs.map .v)).bind fun h => K .ud { st1 with h }
              | _ => none
            else
              match st1.rd x with
              | .lp b off => bif Nat.ble (off + z.1) (st1.z b) then K .ud { st1 with m := stN st1.m b off (fun j => .v (gd cs j)) z.1 } else none
              | _ => none)
        | .ow n xs => bif Nat.beq z.1 1 then
            (bif hp then
              match st1.rd x with
              | .v p => (stP st1.h p [.ow n xs]).bind fun h => K .ud { st1 with h }
              | _ => none
            else
              match st1.rd x with
              | .lp b off => bif Nat.ble (off + 1) (st1.z b) then K .ud { st1 with m := stN st1.m b off (fun _ => .ow n xs) 1 } else none
              | _ => none) else none
        | _ => none) = some r → Good P nt o a w g K r := by
    intro st1 g1 lv hs1 ht1 hrv h
    obtain ⟨g2, s2, t2, r2⟩ := rd_ok hs1 x
    have fin : ∀ (n : Nat) (f : Nat → LV) (l : List LV), n = z.1 → l.length = n → (a.eval y).cells.size = n → (∀ j, j < n → l[j]? = some (f j)) →
        (∀ j, j < n → ∃ u, (a.eval y).cells[j]? = some u ∧ RepC w g1 (.res j) (f j) u ∧ (f j).isC = true) →
        (bif hp then
          match st1.rd x with
          | .v p => (stP st1.h p l).bind fun h => K .ud { st1 with h }
          | _ => none
        else
          match st1.rd x with
          | .lp b off => bif Nat.ble (off + n) (st1.z b) then K .ud { st1 with m := stN st1.m b off f n } else none
          | _ => none) = some r → Good P nt o a w g K r := by
      intro n f l hnz hl hvl hlf hc h
      have h1 : ∀ (j : Nat) (u : Value), (a.eval y).cells[j]? = some u → u.oneCell' = true := by
        intro j u hu
        have hj : j < n := by rw [← hvl]; exact (Array.getElem?_eq_some_iff.1 hu).1
        obtain ⟨u', hu', hr, hi⟩ := hc j hj
        rw [hu] at hu'
        simp only [Option.some.injEq] at hu'
        subst hu'
        exact hr.oneCell hi
      have run : ∀ b off, a.eval x = .pointer (some ⟨b, off, none⟩) → ∀ (c : Array Value) (e : TypeId), w.heap[b]? = some (.cells c e (0, 0)) → off + z.1 ≤ c.size →
          (execOp a.eval o).run P w = .ok .skip (w.setRow b (rowSet c off (a.eval y).cells.toList)) := by
        intro b off hx c e hb hsz
        simp only [execOp, ho]
        refine run_pureU ?_
        simp [Instr.storeAt, hx, Instr.sureAddr, storeVar_row (P := P) hz (hvl.trans hnz) hb hsz h1]
      cases hp with
      | true =>
        simp only [cond_true] at h
        cases hx : st1.rd x <;> rw [hx] at h <;> simp only [reduceCtorEq] at h
        rename_i p
        have hp' : Rep w g2 p (a.eval x) := by have := r2 .res; rw [hx] at this; exact this
        simp only [Option.bind_eq_some_iff] at h
        obtain ⟨h', hst, h⟩ := h
        cases p with
        | ptr id off =>
          simp only [stP, Option.bind_eq_some_iff] at hst
          obtain ⟨bx, hbx, hst⟩ := hst
          by_cases hb : Nat.ble (off + l.length) bx.length = true
          · rw [hb, cond_true, Option.some.injEq] at hst
            subst hst
            have hb := Nat.le_of_ble_eq_true hb
            have hne : bx ≠ [] := by intro h; subst h; have : off + l.length ≤ 0 := hb; omega
            obtain ⟨_, _, c, e, h4, h5, _⟩ := s2.hp.2 id bx hbx hne
            obtain ⟨s3, t3⟩ := s2.write_heap (off := off) (l := l) (vs := (a.eval y).cells.toList) hbx (by omega) h4 hb (by simp; omega) (fun j lv hj => by
              have hjn : j < n := by rw [← hl]; exact (List.getElem?_eq_some_iff.1 hj).1
              obtain ⟨u, hu, hr, _⟩ := hc j hjn
              rw [hlf j hjn] at hj
              simp only [Option.some.injEq] at hj
              subst hj
              exact ⟨u, by simpa using hu, hr.mono (t2.kr j)⟩)
            exact ⟨_, _, h, (OpOk.skip (run _ off (ptr_inv hp').2 c e h4 (by omega)) s3 ((ht1.trans t2.toTr).trans t3))⟩
          · rw [Bool.eq_false_iff.2 hb] at hst; cases hst
        | _ => simp [stP] at hst
      | false =>
        simp only [cond_false] at h
        cases hx : st1.rd x <;> rw [hx] at h <;> simp only [reduceCtorEq] at h
        rename_i b off
        have hp' := r2 .res
        rw [hx] at hp'
        by_cases hb : Nat.ble (off + n) (st1.z b) = true
        · rw [hb, cond_true] at h
          have hb := Nat.le_of_ble_eq_true hb
          obtain ⟨_, _, _, c, e, h4, h5, _⟩ := s2.bx b (by omega)
          obtain ⟨s3, t3⟩ := s2.write_box (b := b) (off := off) (n := n) (vs := (a.eval y).cells.toList) (by omega) h4 hb (by simpa using hvl) f (fun j hj => by
            obtain ⟨u, hu, hr, _⟩ := hc j hj
            exact ⟨u, by simpa using hu, hr.mono (t2.kr j)⟩)
          exact ⟨_, _, h, (OpOk.skip (run _ off hp'.2 c e h4 (by omega)) s3 ((ht1.trans t2.toTr).trans t3))⟩
        · rw [Bool.eq_false_iff.2 hb] at h; cases h
    cases lv with
    | ag ls =>
      simp only at h
      by_cases hc : (Nat.beq ls.length z.1 && ls.all LV.isC) = true
      · rw [hc, cond_true] at h
        simp only [Bool.and_eq_true, List.all_eq_true] at hc
        have hlen := Nat.eq_of_beq_eq_true hc.1
        obtain ⟨vs, hv, hsz, hcells⟩ := hrv
        refine fin z.1 _ ls rfl hlen (by rw [hv]; simp only [Value.cells]; omega) (fun j hj => ?_) (fun j hj => ?_) h
        · simp [List.getD_eq_getElem?_getD, List.getElem?_eq_getElem (show j < ls.length by omega)]
        · have hget : ls[j]? = some (ls.getD j .un) := by simp [List.getD_eq_getElem?_getD, List.getElem?_eq_getElem (show j < ls.length by omega)]
          obtain ⟨u, hu, hr⟩ := hcells j _ hget
          rw [hv]
          exact ⟨u, hu, hr, hc.2 _ (List.mem_of_getElem? hget)⟩
      · rw [Bool.eq_false_iff.2 hc] at h; cases h
    | v p =>
      simp only [Option.bind_eq_some_iff] at h
      obtain ⟨cs, hcs, h⟩ := h
      obtain ⟨hdl, hvl, hdc⟩ := Arg.toC (show Rep w g1 p _ from hrv) hcs
      refine fin z.1 _ (cs.map .v) rfl (by simpa using hdl) hvl (fun j hj => ?_) (fun j hj => ?_) h
      · rw [List.getElem?_map, List.getElem?_eq_getElem (by omega), gd_eq (List.getElem?_eq_getElem (by omega))]; rfl
      · obtain ⟨u, hu, hr⟩ := hdc j cs[j] (List.getElem?_eq_getElem (by omega))
        exact ⟨u, hu, by rw [gd_eq (List.getElem?_eq_getElem (by omega))]; exact hr, rfl⟩
    | ow n xs =>
      simp only at h
      by_cases hc : Nat.beq z.1 1 = true
      · rw [hc, cond_true] at h
        have hc := Nat.eq_of_beq_eq_true hc
        obtain ⟨hne, hown⟩ := hrv
        have hv : (a.eval y).cells = #[a.eval y] := by
          generalize a.eval y = v at hown
          cases hown <;> rfl
        refine fin 1 _ [.ow n xs] hc.symm rfl (by rw [hv]; rfl) (fun j hj => ?_) (fun j hj => ?_) h
        · have : j = 0 := by omega
          subst this; rfl
        · have : j = 0 := by omega
          subst this
          exact ⟨_, by rw [hv]; rfl, ⟨hne, hown⟩, rfl⟩
      · rw [Bool.eq_false_iff.2 hc] at h; cases h
    | _ => simp at h
  cases tk with
  | true =>
    simp only [cond_true] at h
    cases y with
    | tmp j =>
      obtain ⟨s1, r1⟩ := hs.take j
      exact core _ _ _ s1 (rel_Tr w g rfl) r1 h
    | _ => simp at h
  | false =>
    simp only [cond_false] at h
    have rd : ∀ y', a.eval y' = a.eval y → (∀ g1, SR nt st a w g1 lm → Tr w g w g1 → RepV w g1 lm st.nl .res (st.rd y') (a.eval y) → Good P nt o a w g K r) → Good P nt o a w g K r := by
      intro y' he k
      obtain ⟨g1, s1, t1, r1⟩ := rd_ok hs y'
      exact k g1 s1 t1.toTr (by rw [← he]; exact r1 .res)
    cases y with
    | const c => exact core st g _ hs (Tr.refl w g) lvC_rep h
    | tmp j => exact rd (.tmp j) rfl fun g1 s1 t1 r1 => core st g1 _ s1 t1 r1 h
    | func f => exact rd (.func f) rfl fun g1 s1 t1 r1 => core st g1 _ s1 t1 r1 h
    | global f => exact rd (.global f) rfl fun g1 s1 t1 r1 => core st g1 _ s1 t1 r1 h

end Go.Proofs.Am
