/-
  Append, and what is taken out of a box.
-/
import Derived.Test.YtmgjnbhofkchmaaGreatDoorAmOpJ
import Derived.Deep.DeepAppendWide
import Derived.Deep.Upon

namespace Go.Proofs.Am
open Go

variable {R : Type} {P : Program} {nt : Nat} {o : Oper} {st : St} {a : Act} {w : World} {g : Gh} {lm : Nat → Nat} {K : LV → St → Option R} {r : R}

theorem roomW_spec {len bytes : Nat} (h : roomW len bytes = true) : len * bytes ≤ 281474976710656 ∧ 0 < bytes ∧ ∀ old, old < len → Builtin.nextslicecap len old * bytes ≤ 281474976710656 := by
  unfold roomW at h
  simp only [Bool.and_eq_true, Bool.or_eq_true] at h
  have hb : 0 < bytes := Nat.le_of_ble_eq_true h.2
  rcases h.1 with h1 | h1
  · have h1 := Nat.le_of_ble_eq_true h1
    exact ⟨by omega, hb, fun old ho => growslice_fits ho h1⟩
  · have h1 := Nat.le_of_ble_eq_true h1
    have : len * bytes ≤ (len + len / 4 + 192) * bytes := Nat.mul_le_mul_right _ (by omega)
    exact ⟨by omega, hb, fun old ho => growslice_fits_wide ho h1⟩
theorem roomW_len {len bytes : Nat} (h : roomW len bytes = true) : len ≤ 281474976710656 := by
  obtain ⟨h1, h2, _⟩ := roomW_spec h
  exact Nat.le_trans (Nat.le_mul_of_pos_right _ h2) h1
/-- What is appended, in the world. -/
theorem src_of {tx : TypeId} {n : Nat} {p : AV} {v : Value} {ys : List (List AV)} (hr : Rep w g p v) (he : elA (P.underlying tx) n p = some ys) (hf : fitE n ys = true) :
    ∃ news, Src P n tx v ys.length news w ∧ news.length = ys.length * n ∧ Elems w g n ys news.toArray := by
  unfold elA at he
  split at he
  · rename_i e hu
    cases p with
    | imm xs =>
      simp only [Option.some.injEq] at he
      subst he
      cases hr with
      | imm0 ad cap =>
        refine ⟨[], ?_, by simp, fun k x hk => by simp at hk, fun k x j y hk hj => by simp at hk⟩
        cases ad with
        | none => exact Src.ofNil w hu cap
        | some ad => exact Src.ofSlice w hu ad 0 cap [] (by simp) (by simp) (by simp)
      | imm _ m b off cap f hl hn hc hr =>
        have hmn : xs = [] ∨ m = n := by
          cases xs with
          | nil => exact .inl rfl
          | cons x xs =>
            right
            have h1 := hn 0 x (by simp)
            simp only [fitE] at hf
            have := Nat.eq_of_beq_eq_true hf
            omega
        rcases hmn with rfl | rfl
        · exact ⟨[], Src.ofSlice w hu ⟨b, off, none⟩ 0 cap [] (by simp) (by simp) (by simp), by simp, fun k x hk => by simp at hk, fun k x j y hk hj => by simp at hk⟩
        · have hget : ∀ j, j < xs.length * m → ∃ (k : Nat) (x : List AV) (i : Nat) (y : AV), xs[k]? = some x ∧ x[i]? = some y ∧ j = k * m + i := by
            intro j hj
            have hm : 0 < m := by rcases Nat.eq_zero_or_pos m with h | h; · subst h; omega
                                  · exact h
            have hk : j / m < xs.length := Nat.div_lt_of_lt_mul (by rw [Nat.mul_comm]; exact hj)
            have hi : j % m < xs[j / m].length := by rw [hn _ _ (List.getElem?_eq_getElem hk)]; exact Nat.mod_lt _ hm
            refine ⟨j / m, xs[j / m], j % m, xs[j / m][j % m], List.getElem?_eq_getElem hk, List.getElem?_eq_getElem hi, ?_⟩
            have := Nat.div_add_mod j m
            rw [Nat.mul_comm] at this; exact this.symm
          let news : List Value := (List.range (xs.length * m)).map fun j => (Cl w b (off + j)).getD undef
          have hnews : ∀ (j : Nat) (u : Value), news[j]? = some u → j < xs.length * m ∧ u = (Cl w b (off + j)).getD undef := by
            intro j u hj
            have hlt : j < xs.length * m := by have := (List.getElem?_eq_some_iff.1 hj).1; simpa [news] using this
            simp only [news, List.getElem?_map, List.getElem?_eq_getElem (show j < (List.range (xs.length * m)).length by simpa using hlt), List.getElem_range, Option.map_some, Option.some.injEq] at hj
            exact ⟨hlt, hj.symm⟩
          have hcell : ∀ j, j < xs.length * m → ∃ u, Cl w b (off + j) = some u ∧ u.oneCell' = true := by
            intro j hj
            obtain ⟨k, x, i, y, hk, hi, rfl⟩ := hget j hj
            obtain ⟨_, h2, h3⟩ := hc k x i y hk hi
            rw [← Nat.add_assoc]
            exact ⟨_, h2, one_one' ((hr k x i y hk hi).oneCell h3).2⟩
          refine ⟨news, Src.ofSlice w hu ⟨b, off, none⟩ xs.length cap news (by simp [news]) (fun j u hj => ?_) (fun u hu' => ?_), by simp [news], hn, fun k x j y hk hj => ?_⟩
          · obtain ⟨hlt, rfl⟩ := hnews j u hj
            obtain ⟨u, hu, _⟩ := hcell j hlt
            rw [Addr.add_mid]
            show Cl w b (off + j) = _
            rw [hu]; rfl
          · obtain ⟨j, hj⟩ := List.mem_iff_getElem?.1 hu'
            obtain ⟨hlt, rfl⟩ := hnews j u hj
            obtain ⟨u, hu, h1⟩ := hcell j hlt
            rw [hu]; exact h1
          · obtain ⟨h1, h2, h3⟩ := hc k x j y hk hj
            have hjm : j < m := by rw [← hn k x hk]; exact (List.getElem?_eq_some_iff.1 hj).1
            have hkl : k < xs.length := (List.getElem?_eq_some_iff.1 hk).1
            have hlt : k * m + j < xs.length * m := by
              have : (k + 1) * m ≤ xs.length * m := Nat.mul_le_mul_right m hkl
              rw [Nat.succ_mul] at this; omega
            refine ⟨f k j, ?_, hr k x j y hk hj, h3⟩
            rw [List.getElem?_toArray]
            simp only [news, List.getElem?_map, List.getElem?_eq_getElem (show k * m + j < (List.range (xs.length * m)).length by simpa using hlt), List.getElem_range, Option.map_some, Option.some.injEq]
            rw [← Nat.add_assoc, h2]; rfl
    | nilS =>
      simp only [Option.some.injEq] at he
      subst he
      cases hr
      exact ⟨[], Src.ofNil w hu 0, by simp, fun k x hk => by simp at hk, fun k x j y hk hj => by simp at hk⟩
    | _ => simp at he
  · rename_i hu
    cases p with
    | str s =>
      simp only at he
      by_cases hn : Nat.beq n 1 = true
      · rw [hn, cond_true, Option.some.injEq] at he
        subst he
        have hn := Nat.eq_of_beq_eq_true hn
        subst hn
        cases hr
        refine ⟨byteCells s, ?_, by rw [byteCells_length, byteL_len, Nat.mul_one], ?_⟩
        · rw [byteL_len]; exact Src.ofString w hu s
        · have := byteL_elems (w := w) (g := g) s #[]
          rw [Array.append_empty] at this
          have e : (byteCells s).toArray = s.data.map (fun b => Value.int .u8 b.toNat) := by
            apply Array.ext'; simp [byteCells]
          rw [e]; exact this
      · rw [Bool.eq_false_iff.2 hn] at he; cases he
    | _ => simp at he
  · cases he

theorem setCells_row (b : Nat) : ∀ (vs : List Value) (off : Nat) (c : Array Value) (e : TypeId) (fz : Nat × Nat) (w : World), w.heap[b]? = some (.cells c e fz) → off + vs.length ≤ c.size →
    w.setCells b off vs = w.setRow b (rowSet c off vs)
  | [], off, c, e, fz, w, hb, _ => by
    have : rowSet c off [] = c := by
      apply Array.ext'; simp [rowSet]
    rw [this, setRow_self w b c e fz hb]; rfl
  | v :: vs, off, c, e, fz, w, hb, hl => by
    simp only [List.length_cons] at hl
    have h1 : (w.setRow b (c.setIfInBounds off v)).heap[b]? = some (.cells (c.setIfInBounds off v) e fz) := setRow_heap w b c _ e fz hb
    rw [World.setCells, setCell_eq_setRow w b off c e fz v hb, setCells_row b vs (off + 1) _ e fz _ h1 (by simp; omega), setRow_setRow]
    congr 1
    apply Array.ext_getElem?
    intro k
    rw [rowSet_get (by simp; omega), rowSet_get (by simp; omega), Array.getElem?_setIfInBounds]
    simp only [List.length_cons]
    by_cases h2 : k = off
    · subst h2
      rw [if_neg (by omega), if_pos rfl, if_pos (by omega), if_pos (by omega)]
      simp
    · by_cases h3 : off + 1 ≤ k ∧ k < off + 1 + vs.length
      · rw [if_pos h3, if_pos (by omega), show k - off = (k - (off + 1)) + 1 by omega, List.getElem?_cons_succ]
      · rw [if_neg h3, if_neg (by omega), if_neg (by omega)]

theorem frozen_no {b : Nat} {c : Array Value} {e : TypeId} {fz : Nat × Nat} (hb : w.heap[b]? = some (.cells c e fz)) (hf : fz.2 = 0 ∨ c.size ≤ fz.1) {j : Nat} (hj : j < c.size) : w.frozen? ⟨b, j, none⟩ = false := by
  obtain ⟨lo, hi⟩ := fz
  simp only [World.frozen?, hb]
  simp only at hf
  rw [Bool.and_eq_false_iff]
  rcases hf with h | h
  · right; simp; omega
  · left; simp; omega

/-- Elements, and more elements behind them. -/
theorem Elems.append {n : Nat} {xs ys : List (List AV)} {c d : Array Value} {m : Nat} (hx : Elems w g n xs c) (hy : Elems w g n ys d) (hm : m = xs.length * n)
    (e : Array Value) (h1 : ∀ j, j < m → e[j]? = c[j]?) (h2 : ∀ j, j < ys.length * n → e[m + j]? = d[j]?) : Elems w g n (xs ++ ys) e := by
  refine ⟨fun k x hk => ?_, fun k x j y hk hj => ?_⟩
  · rw [List.getElem?_append] at hk
    split at hk
    · exact hx.1 k x hk
    · exact hy.1 _ x hk
  · rw [List.getElem?_append] at hk
    split at hk
    · rename_i hlt
      have hjn : j < n := by rw [← hx.1 k x hk]; exact (List.getElem?_eq_some_iff.1 hj).1
      have : k * n + j < xs.length * n := by
        have : (k + 1) * n ≤ xs.length * n := Nat.mul_le_mul_right n hlt
        rw [Nat.succ_mul] at this; omega
      rw [h1 _ (by omega)]
      exact hx.2 k x j y hk hj
    · rename_i hge
      have hjn : j < n := by rw [← hy.1 _ x hk]; exact (List.getElem?_eq_some_iff.1 hj).1
      have hlt : k - xs.length < ys.length := (List.getElem?_eq_some_iff.1 hk).1
      have h3 : (k - xs.length) * n + j < ys.length * n := by
        have : (k - xs.length + 1) * n ≤ ys.length * n := Nat.mul_le_mul_right n hlt
        rw [Nat.succ_mul] at this; omega
      have e1 : k * n + j = m + ((k - xs.length) * n + j) := by
        have : (xs.length + (k - xs.length)) * n = xs.length * n + (k - xs.length) * n := Nat.add_mul _ _ _
        rw [show xs.length + (k - xs.length) = k by omega] at this
        omega
      rw [e1, h2 _ h3]
      exact hy.2 _ x j y hk hj

/-- Append onto what is owned. -/
theorem ap_ow (hs : SR nt st a w g lm) {t tx ty e : TypeId} {i : TypeInfo} (ht : P.underlying t = some (.slice e)) (hi : P.info? e = some i) {zc : List AV} (hzc : zeroC P e = some zc) (hzl : zc.length = i.size) (hpos : 0 < i.size)
    {xs ys : List (List AV)} {s v : Value} (hown : Own w g (.res 0) i.size xs s) {news : List Value} (hsrc : Src P i.size tx v ys.length news w) (hnl : news.length = ys.length * i.size) (hE : Elems w g i.size ys news.toArray)
    (hroom : roomW (xs.length + ys.length) i.bytes = true) :
    ∃ v' w' g', (Builtin.append_ #[t, tx] ty #[s, v]).run P w = .ok v' w' ∧ SR nt st a w' g' lm ∧ Tr w g w' g' ∧ Own w' g' (.res 0) i.size (xs ++ ys) v' := by
  obtain ⟨i', z, hi', hz, hzz, _⟩ := zeroC_spec hzc
  rw [hi] at hi'
  simp only [Option.some.injEq] at hi'
  subst hi'
  obtain ⟨hroom1, hroom2, hroom3⟩ := roomW_spec hroom
  have hlen := roomW_len hroom
  -- a new block
  have grow : ∀ (base : Option Addr) (cap : Nat) (olds : List Value) (c : Array Value), (Builtin.firstCells i.size xs.length (.slice base xs.length cap)).run P w.drew = .ok olds.toArray w.drew → olds.length = xs.length * i.size →
      cap < xs.length + ys.length → Elems w g i.size xs c → (∀ j, j < olds.length → olds[j]? = c[j]?) → s = .slice base xs.length cap →
      ∃ v' w' g', (Builtin.append_ #[t, tx] ty #[s, v]).run P w = .ok v' w' ∧ SR nt st a w' g' lm ∧ Tr w g w' g' ∧ Own w' g' (.res 0) i.size (xs ++ ys) v' := by
    intro base cap olds c hold hol hg hx hoc hsv
    subst hsv
    have hfit := hroom3 _ hg
    have hrun := run_append_grow_src w t tx ty e i z ht hi hz base xs.length cap olds hold v ys.length news hsrc hg (by omega) hfit
    have hge := grownCap_ge w (xs.length + ys.length) cap e
    let cs : Array Value := (olds ++ news).toArray ++ Builtin.zeroCells z.cells (grownCap w (xs.length + ys.length) cap e - (xs.length + ys.length))
    have hcs : cs.size = grownCap w (xs.length + ys.length) cap e * i.size := by
      have e1 : z.cells.size = i.size := by omega
      simp only [cs, Array.size_append, List.size_toArray, List.length_append, hol, hnl, Builtin.zeroCells, Array.size_map, Array.size_range, e1]
      rw [← Nat.add_mul, ← Nat.add_mul]; congr 1; omega
    have hall : Elems w.drew g i.size (xs ++ ys) cs := by
      refine (Elems.append (m := xs.length * i.size) hx hE rfl cs (fun j hj => ?_) (fun j hj => ?_)).mono (drew_Le w g)
      · rw [← hoc j (by omega)]
        simp only [cs]
        rw [Array.getElem?_append_left (by simp; omega), List.getElem?_toArray, List.getElem?_append_left (by omega)]
      · simp only [cs]
        rw [Array.getElem?_append_left (by simp; omega), List.getElem?_toArray, List.getElem?_append_right (by omega), List.getElem?_toArray, hol]
        congr 1; omega
    obtain ⟨s2, t2, r2⟩ := hs.drew.new_ow cs e (0, 0) (.inl rfl) i.size _ hpos hcs (xs ++ ys) (by simpa using hge) hall.1 hall.2
    obtain ⟨_, r2⟩ := r2
    rw [List.length_append] at r2
    exact ⟨_, _, _, hrun, s2, (drew_Tr w g).trans t2, r2⟩
  cases hown with
  | emp ad =>
    by_cases hy : ys = []
    · subst hy
      simp only [List.length_nil, Nat.zero_mul, List.length_eq_zero_iff] at hnl
      subst hnl
      exact ⟨_, w, g, run_append_nothing w t tx ty e i ht hi ad 0 0 (Nat.le_refl _) v hsrc, hs, Tr.refl w g, .emp ad⟩
    · have hyl : 0 < ys.length := List.length_pos_iff.2 hy
      refine grow ad 0 [] #[] ?_ (by simp) (by simpa using hyl) ⟨fun k x hk => by simp at hk, fun k x j y hk hj => by simp at hk⟩ (by simp) rfl
      cases ad <;> simp [Builtin.firstCells, loadCells, loadCellsFrom]
  | blk _ b cap c e' fz f hl hn hx hb hf hz ho hsl hc hr =>
    have hx' : Elems w g i.size xs c := ⟨hx, fun k x j y hk hj => ⟨f k j, (hc k x j y hk hj).1, hr k x j y hk hj, (hc k x j y hk hj).2⟩⟩
    have hle : xs.length * i.size ≤ c.size := by rw [hz]; exact Nat.mul_le_mul_right _ hl
    by_cases hrm : xs.length + ys.length ≤ cap
    · have hsz : xs.length * i.size + news.length ≤ c.size := by
        rw [hnl, ← Nat.add_mul, hz]; exact Nat.mul_le_mul_right _ hrm
      have hrun := run_append_room_src w t tx ty e i ht hi b 0 xs.length cap v ys.length news hsrc hrm (fun j hj => by
        have : Cl w b (0 + xs.length * i.size + j) = c[0 + xs.length * i.size + j]? := Cl_of hb
        show (Cl w b (0 + xs.length * i.size + j)).isSome = true
        rw [this, Array.getElem?_eq_getElem (by omega)]; rfl) (fun j hj => frozen_no hb hf (by omega))
      rw [Nat.zero_add, setCells_row b news (xs.length * i.size) c e' fz w hb hsz] at hrun
      have hk : ∀ j, j < g.sl b → (rowSet c (xs.length * i.size) news)[j]? = c[j]? := fun j hj => by
        rw [rowSet_get hsz, if_neg (by omega)]
      have K : ∀ hd, hd ≠ .res 0 → Kp w g (w.setRow b (rowSet c (xs.length * i.size) news)) (gMove g b (.res 0)) hd := fun hd hne => row_Kp hb (rowSet_size hsz) hk _ (by rw [ho]; exact hne)
      refine ⟨_, _, gMove g b (.res 0), hrun, hs.keep (row_Wf hs.wf hb (rowSet_size hsz) _ (by rw [ho]; simp)) rfl (fun hd _ h1 _ => K hd (h1 0)), row_Tr hb (rowSet_size hsz) hk _ (by rw [ho]; simp), ?_⟩
      have L := (K .oth (by simp)).le
      have hall : Elems w g i.size (xs ++ ys) (rowSet c (xs.length * i.size) news) := by
        refine Elems.append (m := xs.length * i.size) hx' hE rfl _ (fun j hj => ?_) (fun j hj => ?_)
        · rw [rowSet_get hsz, if_neg (by omega)]
        · rw [rowSet_get hsz, if_pos (by omega), List.getElem?_toArray]; congr 1; omega
      have hall := hall.mono L
      rw [← List.length_append]
      refine .blk (xs ++ ys) b cap _ e' fz (fun k j => (rowSet c (xs.length * i.size) news).getD (k * i.size + j) undef) (by simpa using hrm) hn hall.1 (row_heap hb) (by rw [rowSet_size hsz]; exact hf) (by rw [rowSet_size hsz]; exact hz)
        (by simp only [gMove, upd_same]) (by show g.sl b ≤ _; rw [List.length_append, Nat.add_mul]; omega) (fun k x j y hk hj => ?_) (fun k x j y hk hj => ?_)
      · obtain ⟨u, hu, _, h1⟩ := hall.2 k x j y hk hj
        exact ⟨by simp [Array.getD_eq_getD_getElem?, hu], h1⟩
      · obtain ⟨u, hu, hr, _⟩ := hall.2 k x j y hk hj
        simpa [Array.getD_eq_getD_getElem?, hu] using hr
    · let olds : List Value := c.toList.take (xs.length * i.size)
      have hol : olds.length = xs.length * i.size := by simp [olds]; omega
      refine grow (some ⟨b, 0, none⟩) cap olds c ?_ hol (by omega) hx' (fun j hj => ?_) rfl
      · refine run_firstCells_some w.drew i.size xs.length ⟨b, 0, none⟩ xs.length cap olds hol (fun j u hj => ?_)
        rw [Addr.add_mid, World.cell?_drew]
        show Cl w b (0 + j) = _
        rw [Cl_of hb, Nat.zero_add]
        simp only [olds, List.getElem?_take] at hj
        split at hj
        · simpa using hj
        · cases hj
      · simp only [olds, List.getElem?_take]
        rw [if_pos (by omega), Array.getElem?_toList]

end Go.Proofs.Am
