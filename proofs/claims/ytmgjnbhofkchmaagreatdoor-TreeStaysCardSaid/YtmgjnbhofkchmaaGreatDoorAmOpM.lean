/-
  Slices in heap boxes.
-/
import Derived.Test.YtmgjnbhofkchmaaGreatDoorAmOpL

namespace Go.Proofs.Am
open Go

variable {R : Type} {P : Program} {nt : Nat} {o : Oper} {st : St} {a : Act} {w : World} {g : Gh} {lm : Nat → Nat} {K : LV → St → Option R} {r : R}

theorem flat_get {α : Type} {n : Nat} : ∀ (xs : List (List α)) (j : Nat) (y : α), (∀ (k : Nat) (x : List α), xs[k]? = some x → x.length = n) → xs.flatten[j]? = some y →
    ∃ (k : Nat) (x : List α) (i : Nat), xs[k]? = some x ∧ x[i]? = some y ∧ j = k * n + i
  | [], j, y, _, h => by simp at h
  | x :: xs, j, y, hn, h => by
    have hx : x.length = n := hn 0 x rfl
    rw [List.flatten_cons] at h
    by_cases hj : j < x.length
    · rw [List.getElem?_append_left hj] at h
      exact ⟨0, x, j, rfl, h, by omega⟩
    · rw [List.getElem?_append_right (by omega)] at h
      obtain ⟨k, x', i, h1, h2, h3⟩ := flat_get xs (j - x.length) y (fun k x' hk => hn (k + 1) x' (by simpa using hk)) h
      exact ⟨k + 1, x', i, by simpa using h1, h2, by rw [Nat.add_mul, Nat.one_mul]; omega⟩

theorem good_makeSliceH {t : TypeId} {l c : Operand} (ho : o.op = .makeSlice t l c) (hs : SR nt st a w g lm)
    (h : ((elemTy P t).bind fun e => (P.info? e).bind fun ti => (tyz P e).bind fun z => (zeroC P e).bind fun zc =>
      (st.rv l).bind fun p => (st.rv c).bind fun q => p.toI.bind fun n => q.toI.bind fun m =>
      bif Nat.beq zc.length z.1 && Nat.blt 0 z.1 && decide (n = m) && decide (0 ≤ n) && room n.toNat ti.bytes then
        K (.v (.arr z.1 st.h.bx.length 0 n.toNat)) { st with h := newB st.h (flatV (List.replicate n.toNat zc)) } else none) = some r) : Good P nt o a w g K r := by
  simp only [Option.bind_eq_some_iff] at h
  obtain ⟨e, he, i, hi, z, hz, zc, hzc, p, hp, q, hq, n, hn, m, hm, h⟩ := h
  have hu := elemTy_spec he
  obtain ⟨i0, d, hi0, hsz, _, _⟩ := tyz_spec hz
  rw [hi] at hi0
  simp only [Option.some.injEq] at hi0
  subst hi0
  obtain ⟨i', zv, hi', hzv, hzl, _⟩ := zeroC_spec hzc
  rw [hi] at hi'
  simp only [Option.some.injEq] at hi'
  subst hi'
  obtain ⟨g1, s1, t1, r1⟩ := rv_ok hs hp
  obtain ⟨g2, s2, t2, r2⟩ := rv_ok s1 hq
  obtain ⟨k1, e1⟩ := toI_rep r1 hn
  obtain ⟨k2, e2⟩ := toI_rep r2 hm
  by_cases hc : (Nat.beq zc.length z.1 && Nat.blt 0 z.1 && decide (n = m) && decide (0 ≤ n) && room n.toNat i.bytes) = true
  · rw [hc, cond_true] at h
    simp only [Bool.and_eq_true, decide_eq_true_eq] at hc
    obtain ⟨⟨⟨⟨c1, c2⟩, rfl⟩, c4⟩, c5⟩ := hc
    have c1 := Nat.eq_of_beq_eq_true c1
    have c2 : 0 < z.1 := Nat.le_of_ble_eq_true c2
    obtain ⟨c6, c7⟩ := room_spec c5
    have c8 := room_len c5
    have hE : Elems w g2 z.1 (List.replicate n.toNat zc) (madeCells zv.cells (n.toNat * z.1)) := zeros_elems (w := w) (g := g2) hzc hi hzv c1 n.toNat
    have hsize : (madeCells zv.cells (n.toNat * z.1)).size = n.toNat * z.1 := size_madeCells _ _
    have hfl : ∀ (j : Nat) (x : LV), (flatV (List.replicate n.toNat zc))[j]? = some x → ∃ u, (madeCells zv.cells (n.toNat * z.1))[j]? = some u ∧ RepZ w g2 x u := by
      intro j x hj
      simp only [flatV, List.getElem?_map] at hj
      cases hy : (List.replicate n.toNat zc).flatten[j]? with
      | none => rw [hy] at hj; cases hj
      | some y =>
        rw [hy] at hj
        simp only [Option.map_some, Option.some.injEq] at hj
        subst hj
        obtain ⟨k, x', i', h1, h2, rfl⟩ := flat_get _ _ _ hE.1 hy
        obtain ⟨u, hu', hr, ho'⟩ := hE.2 k x' i' y h1 h2
        exact ⟨u, hu', hr, ho'⟩
    have hlen : (flatV (List.replicate n.toNat zc)).length ≤ (madeCells zv.cells (n.toNat * z.1)).size := by
      rw [hsize]; simp [flatV, c1]
    obtain ⟨s3, t3, r3⟩ := s2.new_heap (madeCells zv.cells (n.toNat * z.1)) e (flatV (List.replicate n.toNat zc)) hlen hfl
    refine Good.pre (t1.trans t2) ⟨_, _, h, OpOk.value (v := .slice (some ⟨w.heap.size, 0, none⟩) n.toNat n.toNat) (w' := w.alloc (.cells (madeCells zv.cells (n.toNat * z.1)) e)) ?_ s3 t3 ?_⟩
    · simp only [execOp, ho, e1, e2]
      refine run_pureV ?_
      have hb : (i.bytes : Int) * n ≤ 281474976710656 := by
        have e : n = (n.toNat : Int) := by omega
        have : ((n.toNat * i.bytes : Nat) : Int) ≤ 140737488355328 := by omega
        rw [Nat.mul_comm, Int.natCast_mul] at this
        rw [← e] at this; omega
      have := run_make (P := P) w t e i zv hu hi hzv k1 k2 n n c4 (Int.le_refl _) hb (by omega)
      rw [hsz] at this
      exact this
    · have hnb : st.h.bx.length = g2.nb := s2.hp.1.symm
      have hbm : (gHeap w g2).bm st.h.bx.length = w.heap.size := by simp only [gHeap]; rw [hnb, upd_same]
      have := Rep.arr (w := w.alloc (.cells (madeCells zv.cells (n.toNat * z.1)) e)) (g := gHeap w g2) z.1 st.h.bx.length 0 n.toNat n.toNat (by simp [gHeap, hnb]) (Nat.le_refl _) (by
        rw [hbm, bsz_of (alloc_new w _), hsize, Nat.zero_add])
      rw [hbm] at this
      exact this
  · rw [Bool.eq_false_iff.2 hc] at h; cases h

theorem flat_len {α : Type} {n : Nat} : ∀ (xs : List (List α)), (∀ (k : Nat) (x : List α), xs[k]? = some x → x.length = n) → xs.flatten.length = xs.length * n
  | [], _ => by simp
  | x :: xs, h => by
    rw [List.flatten_cons, List.length_append, h 0 x rfl, flat_len xs fun k y hk => h (k + 1) y (by simpa using hk), List.length_cons, Nat.add_mul, Nat.one_mul, Nat.add_comm]
theorem good_buildSliceH {t : TypeId} {len : Nat} {parts : Array (Nat × Operand)} (ho : o.op = .buildSlice t len parts) (hs : SR nt st a w g lm)
    (h : ((elemTy P t).bind fun e => (tyz P e).bind fun z => (zeroC P e).bind fun zc => rvp st parts.toList fun ps =>
      bif Nat.beq zc.length z.1 && Nat.ble (len * z.1) 16777216 && Nat.blt 0 z.1 then
      (blsA z.1 (List.replicate len zc) ps).bind fun xs => (bif Nat.blt 0 len then K (.v (.arr z.1 st.h.bx.length 0 len)) { st with h := newB st.h (flatV xs) } else none) else none) = some r) : Good P nt o a w g K r := by
  simp only [Option.bind_eq_some_iff] at h
  obtain ⟨e, he, z, hz, zc, hzc, h⟩ := h
  have hu := elemTy_spec he
  obtain ⟨i, d, hi, hsz, _, _⟩ := tyz_spec hz
  obtain ⟨i', zv, hi', hzv, hzl, _⟩ := zeroC_spec hzc
  rw [hi] at hi'
  simp only [Option.some.injEq] at hi'
  subst hi'
  obtain ⟨ps, h, hl, g1, s1, t1, r1⟩ := rvp_ok _ _ _ hs h
  by_cases hc : (Nat.beq zc.length z.1 && Nat.ble (len * z.1) 16777216 && Nat.blt 0 z.1) = true
  · rw [hc, cond_true] at h
    simp only [Bool.and_eq_true] at hc
    obtain ⟨⟨c1, c2⟩, c3⟩ := hc
    have c1 := Nat.eq_of_beq_eq_true c1
    have c2 := Nat.le_of_ble_eq_true c2
    have c3 : 0 < z.1 := Nat.le_of_ble_eq_true c3
    simp only [Option.bind_eq_some_iff] at h
    obtain ⟨xs, hxs, h⟩ := h
    by_cases hlen : Nat.blt 0 len = true
    · rw [hlen, cond_true] at h
      have hlen : 0 < len := Nat.le_of_ble_eq_true hlen
      obtain ⟨c', hf, hz', hl', he'⟩ := blsA_ok (w := w) (g := g1) c3 ps (parts.toList.map fun (i, x) => (i, a.eval x)) (List.replicate len zc) xs ((Array.range (len * z.1)).map (zv.cells[· % zv.cells.size]!)) (by simpa using hl) (by simp)
        (zeros_elems hzc hi hzv c1 len) (fun j x v hj hv => by
          rw [List.getElem?_map] at hv
          cases hp : parts.toList[j]? with
          | none => rw [hp] at hv; cases hv
          | some q =>
            rw [hp] at hv
            simp only [Option.map_some, Option.some.injEq] at hv
            subst hv
            exact r1 j x q hj hp) hxs
      have hxl : xs.length = len := by simpa using hl'
      have hcs : c'.size = len * z.1 := by rw [hz']; simp
      have hfl : ∀ (j : Nat) (x : LV), (flatV xs)[j]? = some x → ∃ u, c'[j]? = some u ∧ RepZ w g1 x u := by
        intro j x hj
        simp only [flatV, List.getElem?_map] at hj
        cases hy : xs.flatten[j]? with
        | none => rw [hy] at hj; cases hj
        | some y =>
          rw [hy] at hj
          simp only [Option.map_some, Option.some.injEq] at hj
          subst hj
          obtain ⟨k, x', i', h1, h2, rfl⟩ := flat_get _ _ _ he'.1 hy
          obtain ⟨u, hu', hr, ho'⟩ := he'.2 k x' i' y h1 h2
          exact ⟨u, hu', hr, ho'⟩
      obtain ⟨s3, t3, r3⟩ := s1.new_heap c' e (flatV xs) (by rw [hcs]; simp only [flatV, List.length_map]; rw [flat_len xs he'.1, hxl]; exact Nat.le_refl _) hfl
      refine Good.pre t1 ⟨_, _, h, OpOk.value (v := .slice (some ⟨w.heap.size, 0, none⟩) len len) (w' := w.alloc (.cells c' e)) ?_ s3 t3 ?_⟩
      · have hpos : ¬ len * i.size = 0 := by rw [hsz]; exact Nat.mul_ne_zero (by omega) (by omega)
        simp only [execOp, ho]
        refine run_pureV (run_buildSlice w t e len _ c' i zv hu hi hzv (by rw [hsz]; omega) hpos ?_)
        rw [hsz]; simpa using hf
      · have hnb : st.h.bx.length = g1.nb := s1.hp.1.symm
        have hbm : (gHeap w g1).bm st.h.bx.length = w.heap.size := by simp only [gHeap]; rw [hnb, upd_same]
        have := Rep.arr (w := w.alloc (.cells c' e)) (g := gHeap w g1) z.1 st.h.bx.length 0 len len (by simp [gHeap, hnb]) (Nat.le_refl _) (by
          rw [hbm, bsz_of (alloc_new w _), hcs, Nat.zero_add])
        rw [hbm] at this
        exact this
    · rw [Bool.eq_false_iff.2 hlen] at h; cases h
  · rw [Bool.eq_false_iff.2 hc] at h; cases h

/-! ### A slice that nobody writes any more -/
theorem chunk_get (n : Nat) : ∀ (k : Nat) (l : List AV) (i : Nat) (x : List AV), (chunk n k l)[i]? = some x → i < k ∧ x = (l.drop (i * n)).take n
  | 0, l, i, x, h => by simp [chunk] at h
  | k + 1, l, 0, x, h => by simp [chunk] at h; simp [h]
  | k + 1, l, i + 1, x, h => by
    simp only [chunk, List.getElem?_cons_succ] at h
    obtain ⟨h1, h2⟩ := chunk_get n k _ i x h
    refine ⟨by omega, ?_⟩
    rw [h2, List.drop_drop, show n + i * n = (i + 1) * n by rw [Nat.add_mul, Nat.one_mul, Nat.add_comm]]
theorem chunk_len (n : Nat) : ∀ (k : Nat) (l : List AV), (chunk n k l).length = k
  | 0, _ => rfl
  | k + 1, l => by simp [chunk, chunk_len n k]

theorem frz_ok {p x : AV} {h' : Heap} {v : Value} (hs : SR nt st a w g lm) (hr : Rep w g p v) (h : frz st.h p = some (x, h')) :
    ∃ g', SR nt { st with h := h' } a w g' lm ∧ Tr w g w g' ∧ Rep w g' x v := by
  cases p <;> simp only [frz, reduceCtorEq] at h
  rename_i n id off len
  cases hn : Nat.blt 0 n with
  | false => rw [hn] at h; cases h
  | true =>
  rw [hn, cond_true] at h
  simp only [Option.bind_eq_some_iff] at h
  obtain ⟨bx, hb, cs, hcs, h⟩ := h
  cases hl : Nat.beq cs.length (len * n) with
  | false => rw [hl] at h; cases h
  | true =>
  rw [hl, cond_true] at h
  simp only [Option.some.injEq, Prod.mk.injEq] at h
  obtain ⟨rfl, rfl⟩ := h
  have hl := Nat.eq_of_beq_eq_true hl
  have hn0 : 0 < n := Nat.le_of_ble_eq_true hn
  obtain ⟨g1, s1, t1, hbm, hcell⟩ := heap_read hs hb hcs
  have hset : ∀ (g2 : Gh), HeapOk w g1 st.h → g2.nb = g1.nb → (∀ i, i ≠ id → Kp w g1 w g2 (.hbox i)) → (∀ i c, Kp w g1 w g2 (.hcell i c)) → HeapOk w g2 { st.h with bx := st.h.bx.set id [] } := by
    intro g2 hh hnb k1 k2
    refine ⟨by simp [hnb, hh.1], fun i b hi hne => ?_⟩
    have hid : i ≠ id := by
      rintro rfl
      simp only at hi
      rw [List.getElem?_set_self (List.getElem?_eq_some_iff.1 hb).1] at hi
      cases hi; exact hne rfl
    simp only [List.getElem?_set_ne (Ne.symm hid)] at hi
    obtain ⟨h2, h3, c, e, h4, h5, h6⟩ := hh.2 i b hi hne
    have hlt : i < g1.nb := by rw [hh.1]; exact (List.getElem?_eq_some_iff.1 hi).1
    have hbm2 : g2.bm i = g1.bm i := (k1 i hid).le.bm i hlt
    obtain ⟨a1, a2, a3⟩ := (k1 i hid).blk _ (heap_lt h4) h2
    rw [hbm2]
    exact ⟨a2, a3.trans h3, c, e, a1.trans h4, h5, fun j y hj => by
      obtain ⟨u, hu, hr⟩ := h6 j y hj
      exact ⟨u, hu, hr.mono (k2 i j)⟩⟩
  have hr1 := hr.mono t1.le
  cases hr1 with
  | arr _ _ _ _ cap hid hlc hsz =>
  by_cases hlen : len = 0
  · subst hlen
    exact ⟨g1, ⟨s1.wf, s1.nt, s1.df, s1.tm, s1.bx, hset g1 s1.hp rfl (fun _ _ => Kp.refl _ _ _) (fun _ _ => Kp.refl _ _ _)⟩, t1.toTr, .imm0 _ _⟩
  · have hpos : 0 < len * n := Nat.mul_pos (by omega) hn0
    have hcl : cs.length = ((bx.drop off).take (len * n)).length := by
      have F : ∀ (l : List LV) (cs : List AV), cpyL l = some cs → cs.length = l.length := by
        intro l
        induction l with
        | nil => intro cs h; simp only [cpyL, Option.some.injEq] at h; subst h; rfl
        | cons z l ih =>
          intro cs h
          simp only [cpyL, Option.bind_eq_some_iff, Option.some.injEq] at h
          obtain ⟨y, _, ys, hys, rfl⟩ := h
          simp [ih ys hys]
      exact F _ _ hcs
    rw [hl] at hcl
    simp only [List.length_take, List.length_drop] at hcl
    have hne : bx ≠ [] := by rintro rfl; simp at hcl; omega
    obtain ⟨h2, h3, c, e, h4, h5, _⟩ := s1.hp.2 id bx hb hne
    have hbl : off + len * n ≤ c.size := by omega
    have hno : g1.own (g1.bm id) ≠ .oth := by rw [h2]; simp
    have K : ∀ hd, hd ≠ .hbox id → Kp w g1 w (gSeal g1 (g1.bm id) (off + len * n)) hd := fun hd hne => sea_Kp w g1 _ _ (by rw [h2]; exact hne)
    refine ⟨gSeal g1 (g1.bm id) (off + len * n), ⟨sea_Wf s1.wf _ _ hno c.size (bsz_of h4) hbl, s1.nt, s1.df, fun j => (s1.tm j).mono (fun c => K _ (by simp)), s1.bx.keep (fun _ => K _ (by simp)) (fun _ _ => K _ (by simp)),
      hset _ s1.hp rfl (fun i hi => K _ (by simpa using hi)) (fun _ _ => K _ (by simp))⟩, t1.toTr.trans (sea_Tr w g1 _ _ hno), ?_⟩
    have hsl : (gSeal g1 (g1.bm id) (off + len * n)).sl (g1.bm id) ≥ off + len * n := by simp only [gSeal, upd_same]; omega
    have hcell' : ∀ (k : Nat) (y : List AV) (j : Nat) (q : AV), (chunk n len cs)[k]? = some y → y[j]? = some q → k < len ∧ j < n ∧ ∃ u, Cl w (g1.bm id) (off + k * n + j) = some u ∧ Rep w g1 q u ∧ q.one = true := by
      intro k y j q hk hj
      obtain ⟨hk1, rfl⟩ := chunk_get n len cs k y hk
      rw [List.getElem?_take] at hj
      split at hj
      · rename_i hjn
        rw [List.getElem?_drop] at hj
        obtain ⟨u, hu, hr, ho⟩ := hcell _ q hj
        rw [← hbm] at hu
        exact ⟨hk1, hjn, u, by rw [show off + k * n + j = off + (k * n + j) by omega]; exact hu, hr, ho⟩
      · cases hj
    have hlen2 : (chunk n len cs).length = len := chunk_len n len cs
    have := Rep.imm (w := w) (g := gSeal g1 (g1.bm id) (off + len * n)) (chunk n len cs) n (g1.bm id) off cap (fun k j => (Cl w (g1.bm id) (off + k * n + j)).getD undef) (by omega)
      (fun k y hk => by
        obtain ⟨hk1, rfl⟩ := chunk_get n len cs k y hk
        have : (k + 1) * n ≤ len * n := Nat.mul_le_mul_right n hk1
        rw [Nat.add_mul, Nat.one_mul] at this
        simp only [List.length_take, List.length_drop]; omega)
      (fun k y j q hk hj => by
        obtain ⟨hk1, hj1, u, hu, _, ho⟩ := hcell' k y j q hk hj
        have : (k + 1) * n ≤ len * n := Nat.mul_le_mul_right n hk1
        rw [Nat.add_mul, Nat.one_mul] at this
        exact ⟨by omega, by rw [hu]; rfl, ho⟩)
      (fun k y j q hk hj => by
        obtain ⟨_, _, u, hu, hr, _⟩ := hcell' k y j q hk hj
        rw [hu]; exact hr.mono (sea_Le w g1 _ _))
    rw [hlen2] at this
    exact this

theorem good_frz {j : Nat} (hs : SR nt st a w g lm) (hrun : (execOp a.eval o).run P w = .ok (.value (a.eval (.tmp j))) w)
    (h : (match st.t j with | .v p => (frz st.h p).bind fun q => K (.v q.1) { st with t := upd st.t j .un, h := q.2 } | _ => none) = some r) : Good P nt o a w g K r := by
  have hj := hs.tm j
  cases hx : st.t j <;> rw [hx] at h hj <;> simp only [reduceCtorEq, Option.bind_eq_some_iff] at h
  obtain ⟨q, hq, h⟩ := h
  obtain ⟨g1, s1, t1, r1⟩ := frz_ok hs hj hq
  exact ⟨_, _, h, OpOk.value hrun (s1.drop j) t1 r1⟩

end Go.Proofs.Am
