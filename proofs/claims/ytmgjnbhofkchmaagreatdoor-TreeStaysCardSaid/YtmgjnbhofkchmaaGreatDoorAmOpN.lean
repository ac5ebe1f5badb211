/-
  Copying into a slice in a heap box.
-/
import Derived.Test.YtmgjnbhofkchmaaGreatDoorAmOpM

namespace Go.Proofs.Am
open Go

variable {R : Type} {P : Program} {nt : Nat} {o : Oper} {st : St} {a : Act} {w : World} {g : Gh} {lm : Nat → Nat} {K : LV → St → Option R} {r : R}

theorem src_cells {p : AV} {v : Value} {cs : List AV} (hs : SR nt st a w g lm) (hr : Rep w g p v) (h : srcC st.h p = some cs) (hpos : 0 < cs.length) :
    ∃ g', SR nt st a w g' lm ∧ Qt w g w g' ∧ ∃ b off cap, v = .slice (some ⟨b, off, none⟩) cs.length cap ∧ ∀ (j : Nat) (c : AV), cs[j]? = some c → ∃ u, Cl w b (off + j) = some u ∧ Rep w g' c u ∧ c.one = true := by
  cases p <;> simp only [srcC, reduceCtorEq] at h
  case imm xs =>
    cases hf : fitE 1 xs with
    | false => rw [hf] at h; cases h
    | true =>
      rw [hf, cond_true, Option.some.injEq] at h
      subst h
      cases hr with
      | imm0 => simp at hpos
      | imm _ n b off cap f hl hn hc hr =>
        have h1 : ∀ (k : Nat) (x : List AV), xs[k]? = some x → x.length = 1 := by
          intro k x hk
          cases xs with
          | nil => simp at hk
          | cons y ys =>
            have e1 : n = 1 := by
              rw [← hn 0 y rfl]
              exact Nat.eq_of_beq_eq_true hf
            rw [hn k x hk, e1]
        have hlen : xs.flatten.length = xs.length := by
          have : ∀ (l : List (List AV)), (∀ (k : Nat) (x : List AV), l[k]? = some x → x.length = 1) → l.flatten.length = l.length := by
            intro l
            induction l with
            | nil => intro _; rfl
            | cons y l ih =>
              intro hh
              rw [List.flatten_cons, List.length_append, hh 0 y rfl, ih (fun k x hk => hh (k + 1) x (by simpa using hk)), List.length_cons, Nat.add_comm]
          exact this xs h1
        refine ⟨g, hs, Qt.refl w g, b, off, cap, by rw [hlen], fun j c hj => ?_⟩
        obtain ⟨k, x, i, h2, h3, rfl⟩ := flat_get xs j c h1 hj
        have hx1 := h1 k x h2
        have hi0 : i = 0 := by have := (List.getElem?_eq_some_iff.1 h3).1; omega
        subst hi0
        obtain ⟨h4, h5, h6⟩ := hc k x 0 c h2 h3
        have en : n = 1 := by rw [← hn k x h2, hx1]
        subst en
        exact ⟨f k 0, by rw [← Nat.add_assoc]; exact h5, hr k x 0 c h2 h3, h6⟩
  case arr n id off len =>
    cases hn : Nat.beq n 1 with
    | false => rw [hn] at h; cases h
    | true =>
      rw [hn, cond_true] at h
      simp only [Option.bind_eq_some_iff] at h
      obtain ⟨bx, hb, ds, hds, h⟩ := h
      cases hl : Nat.beq ds.length len with
      | false => rw [hl] at h; cases h
      | true =>
        rw [hl, cond_true, Option.some.injEq] at h
        subst h
        have hl := Nat.eq_of_beq_eq_true hl
        obtain ⟨g1, s1, t1, hbm, hcell⟩ := heap_read hs hb hds
        cases hr with
        | arr _ _ _ _ cap hid hlc hsz =>
          exact ⟨g1, s1, t1, g.bm id, off, cap, by rw [hl], hcell⟩

/-- Elements of one cell, out of the heap, as what is appended. -/
theorem src_ofH {tx : TypeId} {e : TypeId} {n : Nat} {p : AV} {v : Value} {ys : List (List AV)} (hs : SR nt st a w g lm) (hr : Rep w g p v) (hu : P.underlying tx = some (.slice e)) (h : srcE st.h n p = some ys) :
    ∃ g', SR nt st a w g' lm ∧ Qt w g w g' ∧ ∃ news, Src P n tx v ys.length news w ∧ news.length = ys.length * n ∧ Elems w g' n ys news.toArray := by
  unfold srcE at h
  cases h1 : Nat.beq n 1 with
  | false => rw [h1] at h; cases h
  | true =>
    rw [h1, cond_true] at h
    have := Nat.eq_of_beq_eq_true h1
    subst this
    simp only [Option.bind_eq_some_iff, Option.some.injEq] at h
    obtain ⟨cs, hcs, rfl⟩ := h
    rcases Nat.eq_zero_or_pos cs.length with h0 | hpos
    · have : cs = [] := List.length_eq_zero_iff.1 h0
      subst this
      refine ⟨g, hs, Qt.refl w g, [], ?_, by simp, fun k x hk => by simp at hk, fun k x j y hk hj => by simp at hk⟩
      have hv : ∃ ad cap, v = .slice ad 0 cap := by
        cases p <;> simp only [srcC, reduceCtorEq] at hcs
        · rename_i xs
          cases hf : fitE 1 xs with
          | false => rw [hf] at hcs; cases hcs
          | true =>
            rw [hf, cond_true, Option.some.injEq] at hcs
            have hx : xs = [] := by
              cases xs with
              | nil => rfl
              | cons x xs =>
                have h2 : x.length = 1 := Nat.eq_of_beq_eq_true hf
                rw [List.flatten_cons] at hcs
                have h3 := congrArg List.length hcs
                rw [List.length_append, List.length_nil] at h3
                omega
            subst hx
            cases hr with
            | imm0 ad cap => exact ⟨ad, cap, rfl⟩
            | imm _ n b o cap f => exact ⟨_, cap, rfl⟩
        · rename_i m id off len
          cases hn : Nat.beq m 1 with
          | false => rw [hn] at hcs; cases hcs
          | true =>
            rw [hn, cond_true] at hcs
            simp only [Option.bind_eq_some_iff] at hcs
            obtain ⟨bx, hb, ds, hds, hcs⟩ := hcs
            cases hl : Nat.beq ds.length len with
            | false => rw [hl] at hcs; cases hcs
            | true =>
              rw [hl, cond_true, Option.some.injEq] at hcs
              subst hcs
              have := Nat.eq_of_beq_eq_true hl
              simp only [List.length_nil] at this
              subst this
              cases hr with
              | arr _ _ _ _ cap => exact ⟨_, cap, rfl⟩
      obtain ⟨ad, cap, rfl⟩ := hv
      cases ad with
      | none => exact Src.ofNil w hu cap
      | some ad => exact Src.ofSlice w hu ad 0 cap [] (by simp) (by simp) (by simp)
    · obtain ⟨g', s', t', b, off, cap, rfl, hc⟩ := src_cells hs hr hcs hpos
      let news : List Value := (List.range cs.length).map fun j => (Cl w b (off + j)).getD undef
      have hget : ∀ (j : Nat) (c : AV), cs[j]? = some c → ∃ u, news[j]? = some u ∧ Cl w b (off + j) = some u ∧ Rep w g' c u ∧ c.one = true := by
        intro j c hj
        obtain ⟨u, h1, h2, h3⟩ := hc j c hj
        have hlt := (List.getElem?_eq_some_iff.1 hj).1
        refine ⟨u, ?_, h1, h2, h3⟩
        simp only [news, List.getElem?_map, List.getElem?_range hlt, Option.map_some, h1, Option.getD_some]
      have hnl : news.length = cs.length := by simp [news]
      have hnew : ∀ (j : Nat) (u : Value), news[j]? = some u → ∃ c, cs[j]? = some c ∧ Cl w b (off + j) = some u ∧ Rep w g' c u ∧ c.one = true := by
        intro j u hj
        have hlt := (List.getElem?_eq_some_iff.1 hj).1
        rw [hnl] at hlt
        obtain ⟨u', h1, h2, h3, h4⟩ := hget j _ (List.getElem?_eq_getElem hlt)
        rw [h1] at hj
        cases hj
        exact ⟨_, List.getElem?_eq_getElem hlt, h2, h3, h4⟩
      refine ⟨g', s', t', news, ?_, by rw [hnl]; simp, fun k x hk => ?_, fun k x j y hk hj => ?_⟩
      · rw [List.length_map]
        refine Src.ofSlice w hu ⟨b, off, none⟩ cs.length cap news (by rw [hnl]; simp) (fun j u hj => ?_) (fun u hu => ?_)
        · obtain ⟨c, _, h1, _⟩ := hnew j u hj
          rw [Addr.add_mid]
          show Cl w b (off + j) = _
          exact h1
        · obtain ⟨j, hj⟩ := List.mem_iff_getElem?.1 hu
          obtain ⟨c, _, _, h2, h3⟩ := hnew j u hj
          exact one_one' (h2.oneCell h3).2
      · rw [List.getElem?_map] at hk
        cases hc' : cs[k]? with
        | none => rw [hc'] at hk; cases hk
        | some c => rw [hc'] at hk; simp only [Option.map_some, Option.some.injEq] at hk; subst hk; rfl
      · rw [List.getElem?_map] at hk
        cases hc' : cs[k]? with
        | none => rw [hc'] at hk; cases hk
        | some c =>
          rw [hc'] at hk
          simp only [Option.map_some, Option.some.injEq] at hk
          subst hk
          cases j with
          | succ j => simp at hj
          | zero =>
            simp at hj
            subst hj
            obtain ⟨u, h1, _, h3, h4⟩ := hget k c hc'
            exact ⟨u, by simpa using h1, h3, h4⟩
theorem good_appendH {c : Call} {x y : Operand} (ho : o.op = .call c) (hc : c.callee = .builtin .append) (hx : c.args.toList = [x, y]) (hs : SR nt st a w g lm)
    (h : ((c.argTypes.toList.head?.bind (elemTy P)).bind fun e => (P.info? e).bind fun ti => (zeroC P e).bind fun zc =>
      (st.rv y).bind fun p => (elX P st.h true c.argTypes.toList[1]? ti.size p).bind fun ys =>
      bif Nat.beq zc.length ti.size && Nat.blt 0 ti.size then
      match x with
      | .tmp j => (apL (st.t j) ti.size ti.bytes ys).bind fun r => K r { st with t := upd st.t j .un }
      | .const (.slice none 0 0) => (apL (.ow ti.size []) ti.size ti.bytes ys).bind fun r => K r st
      | _ => none
      else none) = some r) : Good P nt o a w g K r := by
  simp only [elX, cond_true, Option.bind_eq_some_iff] at h
  obtain ⟨e, ⟨t, ht, he⟩, ti, hti, zc, hzc, p, hp, ys, ⟨e2, ⟨tx, htx, he2⟩, hys⟩, h⟩ := h
  by_cases hcond : (Nat.beq zc.length ti.size && Nat.blt 0 ti.size) = true
  case neg => rw [Bool.eq_false_iff.2 hcond] at h; cases h
  rw [hcond, cond_true] at h
  simp only [Bool.and_eq_true] at hcond
  have hzl := Nat.eq_of_beq_eq_true hcond.1
  have hpos : 0 < ti.size := Nat.le_of_ble_eq_true hcond.2
  have hut := elemTy_spec he
  have hutx := elemTy_spec he2
  have hargs : c.args = #[x, y] := by rw [← Array.toArray_toList (xs := c.args), hx]
  have t0 : c.argTypes[0]? = some t := by rw [List.head?_eq_getElem?] at ht; simpa using ht
  have t1 : c.argTypes[1]? = some tx := by simpa using htx
  obtain ⟨g0, s0, q0, r0⟩ := rv_ok hs hp
  obtain ⟨g1, s1, q1, news, hsrc, hnl, hE⟩ := src_ofH (P := P) s0 r0 hutx hys
  have run : ∀ (st1 : St) (g2 : Gh) (s : Value) (lv : LV) (xs : List (List AV)), SR nt st1 a w g2 lm → Tr w g1 w g2 → a.eval x = s → Own w g2 (.res 0) ti.size xs s →
      roomW (xs.length + ys.length) ti.bytes = true → lv = .ow ti.size (xs ++ ys) → K lv st1 = some r → Good P nt o a w g K r := by
    intro st1 g2 s lv xs s2 q2 hsx hown hroom hlv hK
    obtain ⟨v', w', g', hrun, s3, q3, hown'⟩ := ap_ow (P := P) s2 (t := t) (tx := tx) (ty := o.type) hut hti hzc hzl hpos hown hsrc hnl (hE.mono q2.le) hroom
    subst hlv
    refine ⟨_, st1, hK, OpOk.value (v := v') (w' := w') ?_ s3 (((q0.trans q1).toTr.trans q2).trans q3) ⟨by simp, hown'⟩⟩
    rw [run_builtin ho hc]
    simp only [builtin]
    refine run_pureV ?_
    have heq : (Builtin.append_ c.argTypes o.type (c.args.map a.eval)).run P w = (Builtin.append_ #[t, tx] o.type #[s, a.eval y]).run P w := by
      simp [Builtin.append_, hargs, t0, t1, hsx]
    rw [heq]; exact hrun
  cases x with
  | tmp j =>
    simp only [Option.bind_eq_some_iff] at h
    obtain ⟨lv, hap, h⟩ := h
    obtain ⟨xs, hj, hlv, hfit, hroom⟩ := apL_spec hap
    obtain ⟨s2, r2⟩ := s1.take j
    exact run _ _ _ lv xs s2 (rel_Tr w g1 rfl) rfl (ow_of hj r2) hroom hlv h
  | const cv =>
    split at h
    · rename_i heq; cases heq
    · rename_i heq
      simp only [Option.bind_eq_some_iff] at h
      obtain ⟨lv, hap, h⟩ := h
      obtain ⟨xs, hj, hlv, hfit, hroom⟩ := apL_spec hap
      simp only [LV.ow.injEq, true_and, reduceCtorEq, false_and, or_false] at hj
      subst hj
      injection heq with heq
      subst heq
      exact run st g1 (.slice none 0 0) lv [] s1 (Tr.refl w g1) rfl (.emp _) hroom hlv h
    · cases h
  | _ => cases h

theorem stP_spec {h h' : Heap} {id off : Nat} {l : List LV} (hh : stP h (.ptr id off) l = some h') : ∃ bx, h.bx[id]? = some bx ∧ off + l.length ≤ bx.length ∧ h' = { h with bx := h.bx.set id (setL bx off l) } := by
  simp only [stP, Option.bind_eq_some_iff] at hh
  obtain ⟨bx, hb, hh⟩ := hh
  cases hc : Nat.ble (off + l.length) bx.length with
  | false => rw [hc] at hh; cases hh
  | true =>
    rw [hc, cond_true, Option.some.injEq] at hh
    exact ⟨bx, hb, Nat.le_of_ble_eq_true hc, hh.symm⟩

theorem good_copyH {c : Call} {x y : Operand} (ho : o.op = .call c) (hc : c.callee = .builtin .copy) (hx : c.args.toList = [x, y]) (hs : SR nt st a w g lm)
    (h : ((c.argTypes.toList.head?.bind (elemTy P)).bind fun e => (P.info? e).bind fun ti => bif Nat.beq ti.size 1 then
      (st.rv x).bind fun d => (st.rv y).bind fun s => (cpH st.h d s).bind fun r => K (.v r.1) { st with h := r.2 } else none) = some r) : Good P nt o a w g K r := by
  simp only [Option.bind_eq_some_iff] at h
  obtain ⟨e, ⟨t, ht, he⟩, ti, hti, h⟩ := h
  cases h1 : Nat.beq ti.size 1 with
  | false => rw [h1] at h; cases h
  | true =>
  rw [h1, cond_true] at h
  have h1 := Nat.eq_of_beq_eq_true h1
  simp only [Option.bind_eq_some_iff] at h
  obtain ⟨d, hd, s, hsv, q, hq, h⟩ := h
  have hu := elemTy_spec he
  obtain ⟨g1, s1, t1, r1⟩ := rv_ok hs hd
  obtain ⟨g2, s2, t2, r2⟩ := rv_ok s1 hsv
  cases d <;> simp only [cpH, reduceCtorEq] at hq
  rename_i n id off len
  cases hn : Nat.beq n 1 with
  | false => rw [hn] at hq; cases hq
  | true =>
  rw [hn, cond_true] at hq
  have hn := Nat.eq_of_beq_eq_true hn
  subst hn
  simp only [Option.bind_eq_some_iff] at hq
  obtain ⟨cs, hcs, hq⟩ := hq
  cases hp : Nat.blt 0 (Nat.min cs.length len) with
  | false => rw [hp] at hq; cases hq
  | true =>
  rw [hp, cond_true] at hq
  have hp : 0 < Nat.min cs.length len := Nat.le_of_ble_eq_true hp
  simp only [Option.bind_eq_some_iff, Option.some.injEq] at hq
  obtain ⟨h', hst, rfl⟩ := hq
  obtain ⟨g3, s3, t3, b, soff, scap, hv, hcell⟩ := src_cells s2 r2 hcs (by have := Nat.min_le_left cs.length len; change 0 < min cs.length len at hp; omega)
  obtain ⟨bx, hbx, hroom, rfl⟩ := stP_spec hst
  have r1' := (r1.mono t2.le).mono t3.le
  generalize hdv : a.eval x = dv at r1'
  cases r1' with
  | arr _ _ _ _ cap hid hlc hsz =>
  have hk : Nat.min cs.length len = min cs.length len := rfl
  rw [hk] at hp hroom h hst
  have htl : (cs.take (min cs.length len)).length = min cs.length len := by rw [List.length_take]; omega
  have hml : ((cs.take (min cs.length len)).map LV.v).length = min cs.length len := by rw [List.length_map, htl]
  rw [hml] at hroom
  have hne : bx ≠ [] := by
    intro hb0
    rw [hb0, List.length_nil] at hroom
    omega
  obtain ⟨h2, h3, ca, ea, h4, h5, _⟩ := s3.hp.2 id bx hbx hne
  let vs : List Value := (List.range (min cs.length len)).map fun j => (Cl w b (soff + j)).getD undef
  have hvl : vs.length = min cs.length len := by simp [vs]
  have hvs : ∀ (j : Nat) (u : Value), vs[j]? = some u → j < min cs.length len ∧ u = (Cl w b (soff + j)).getD undef := by
    intro j u hj
    have hlt : j < min cs.length len := by have := (List.getElem?_eq_some_iff.1 hj).1; rw [hvl] at this; exact this
    simp only [vs, List.getElem?_map, List.getElem?_eq_getElem (show j < (List.range (min cs.length len)).length by simpa using hlt), List.getElem_range, Option.map_some, Option.some.injEq] at hj
    exact ⟨hlt, hj.symm⟩
  have hget : ∀ j, j < min cs.length len → ∃ c u, cs[j]? = some c ∧ Cl w b (soff + j) = some u ∧ vs[j]? = some u ∧ Rep w g3 c u ∧ c.one = true := by
    intro j hj
    have hjc : j < cs.length := by omega
    obtain ⟨u, hu, hr, ho1⟩ := hcell j cs[j] (List.getElem?_eq_getElem hjc)
    refine ⟨cs[j], u, List.getElem?_eq_getElem hjc, hu, ?_, hr, ho1⟩
    simp only [vs, List.getElem?_map, List.getElem?_eq_getElem (show j < (List.range (min cs.length len)).length by simpa using hj), List.getElem_range, Option.map_some, hu, Option.getD_some]
  obtain ⟨s4, t4⟩ := s3.write_heap (l := (cs.take (min cs.length len)).map LV.v) hbx (by rw [hml]; exact hp) h4 (by rw [hml]; exact hroom) (vs := vs) (by rw [hml, hvl]) (fun j z hj => by
    rw [List.getElem?_map, List.getElem?_take] at hj
    split at hj
    · rename_i hjl
      obtain ⟨c1, u, h6, _, h8, h9, h10⟩ := hget j hjl
      rw [h6] at hj
      simp only [Option.map_some, Option.some.injEq] at hj
      subst hj
      exact ⟨u, h8, h9, h10⟩
    · simp at hj)
  have hargs : c.args = #[x, y] := by rw [← Array.toArray_toList (xs := c.args), hx]
  have t0 : c.argTypes[0]? = some t := by rw [List.head?_eq_getElem?] at ht; simpa using ht
  have hrun : (Builtin.copy_ c.argTypes o.type (c.args.map a.eval)).run P w = .ok (goInt (min cs.length len : Nat)) (w.setRow (g3.bm id) (rowSet ca off vs)) := by
    have := run_copy_row P w t 0 o.type e (g3.bm id) off len cap ⟨b, soff, none⟩ cs.length scap ca ea vs hu (by rw [hti]; simp [h1]) h4 (by rw [hvl]) (fun j u hj => by
      obtain ⟨hlt, rfl⟩ := hvs j u hj
      obtain ⟨_, u, _, h7, _⟩ := hget j hlt
      rw [Addr.add_mid]
      show Cl w b (soff + j) = _
      rw [h7]; rfl) (by rw [hvl]; omega) (fun u hu => by
      obtain ⟨j, hj⟩ := List.mem_iff_getElem?.1 hu
      obtain ⟨hlt, rfl⟩ := hvs j u hj
      obtain ⟨c1, u, _, h7, _, h9, h10⟩ := hget j hlt
      rw [h7]
      exact one_one' (h9.oneCell h10).2)
    rw [hvl] at this
    have heq : (Builtin.copy_ c.argTypes o.type (c.args.map a.eval)).run P w = (Builtin.copy_ #[t, 0] o.type #[.slice (some ⟨g3.bm id, off, none⟩) len cap, .slice (some ⟨b, soff, none⟩) cs.length scap]).run P w := by
      simp [Builtin.copy_, hargs, t0, hdv, hv]
    rw [heq, this]
    simp [rowSet, hvl]
  refine ⟨_, _, h, OpOk.value (v := .int .i64 (min cs.length len : Nat)) ?_ s4 (((t1.toTr.trans t2.toTr).trans t3.toTr).trans t4) (.int _ _)⟩
  rw [run_builtin ho hc]
  simp only [builtin]
  exact run_pureV hrun

end Go.Proofs.Am
