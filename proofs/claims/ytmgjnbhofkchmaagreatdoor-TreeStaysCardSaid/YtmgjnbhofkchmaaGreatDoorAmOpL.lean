/-
  Append at its place; what is taken out of a box.
-/
import Derived.Test.YtmgjnbhofkchmaaGreatDoorAmOpK

namespace Go.Proofs.Am
open Go

variable {R : Type} {P : Program} {nt : Nat} {o : Oper} {st : St} {a : Act} {w : World} {g : Gh} {lm : Nat → Nat} {K : LV → St → Option R} {r : R}

theorem apL_spec {x : LV} {n bytes : Nat} {ys : List (List AV)} {y : LV} (h : apL x n bytes ys = some y) : ∃ xs, (x = .ow n xs ∨ (x = .v .nilS ∧ xs = [])) ∧ y = .ow n (xs ++ ys) ∧ fitE n ys = true ∧ roomW (xs.length + ys.length) bytes = true := by
  unfold apL at h
  split at h
  · rename_i m xs
    by_cases hc : (Nat.beq m n && fitE n ys && roomW (xs.length + ys.length) bytes) = true
    · rw [hc, cond_true, Option.some.injEq] at h
      simp only [Bool.and_eq_true] at hc
      have := Nat.eq_of_beq_eq_true hc.1.1
      subst this
      exact ⟨xs, .inl rfl, h.symm, hc.1.2, hc.2⟩
    · rw [Bool.eq_false_iff.2 hc] at h; cases h
  · by_cases hc : (fitE n ys && roomW ys.length bytes) = true
    · rw [hc, cond_true, Option.some.injEq] at h
      simp only [Bool.and_eq_true] at hc
      exact ⟨[], .inr ⟨rfl, rfl⟩, h.symm, hc.1, by simpa using hc.2⟩
    · rw [Bool.eq_false_iff.2 hc] at h; cases h
  · cases h

theorem ow_of {n nl : Nat} {x : LV} {xs : List (List AV)} {v : Value} (hj : x = .ow n xs ∨ (x = .v .nilS ∧ xs = [])) (r : RepV w g lm nl .res x v) : Own w g (.res 0) n xs v := by
  rcases hj with rfl | ⟨rfl, rfl⟩
  · exact r.2
  · cases r
    exact .emp _
theorem good_append {c : Call} {x y : Operand} (ho : o.op = .call c) (hc : c.callee = .builtin .append) (hx : c.args.toList = [x, y]) (hs : SR nt st a w g lm)
    (h : ((c.argTypes.toList.head?.bind (elemTy P)).bind fun e => (P.info? e).bind fun ti => (zeroC P e).bind fun zc =>
      (st.rv y).bind fun p => (elX P st.h false c.argTypes.toList[1]? ti.size p).bind fun ys =>
      bif Nat.beq zc.length ti.size && Nat.blt 0 ti.size then
      match x with
      | .tmp j => (apL (st.t j) ti.size ti.bytes ys).bind fun r => K r { st with t := upd st.t j .un }
      | .const (.slice none 0 0) => (apL (.ow ti.size []) ti.size ti.bytes ys).bind fun r => K r st
      | _ => none
      else none) = some r) : Good P nt o a w g K r := by
  simp only [elX, cond_false, Option.bind_eq_some_iff] at h
  obtain ⟨e, ⟨t, ht, he⟩, ti, hti, zc, hzc, p, hp, ys, hys, h⟩ := h
  by_cases hcond : (Nat.beq zc.length ti.size && Nat.blt 0 ti.size) = true
  case neg => rw [Bool.eq_false_iff.2 hcond] at h; cases h
  rw [hcond, cond_true] at h
  simp only [Bool.and_eq_true] at hcond
  have hzl := Nat.eq_of_beq_eq_true hcond.1
  have hpos : 0 < ti.size := Nat.le_of_ble_eq_true hcond.2
  have hut := elemTy_spec he
  have hargs : c.args = #[x, y] := by rw [← Array.toArray_toList (xs := c.args), hx]
  obtain ⟨tx, htx⟩ : ∃ tx, c.argTypes.toList[1]? = some tx := by
    cases h1 : c.argTypes.toList[1]? with
    | some tx => exact ⟨tx, rfl⟩
    | none => rw [h1] at hys; simp [elA] at hys
  rw [htx, Option.bind_some] at hys
  have t0 : c.argTypes[0]? = some t := by rw [List.head?_eq_getElem?] at ht; simpa using ht
  have t1 : c.argTypes[1]? = some tx := by simpa using htx
  obtain ⟨g1, s1, q1, r1⟩ := rv_ok hs hp
  -- the run, whatever is owned
  have run : ∀ (st1 : St) (g2 : Gh) (s : Value) (lv : LV) (xs : List (List AV)), SR nt st1 a w g2 lm → Tr w g1 w g2 → Rep w g2 p (a.eval y) → a.eval x = s → Own w g2 (.res 0) ti.size xs s →
      fitE ti.size ys = true → roomW (xs.length + ys.length) ti.bytes = true → lv = .ow ti.size (xs ++ ys) → K lv st1 = some r → Good P nt o a w g K r := by
    intro st1 g2 s lv xs s2 q2 r2 hsx hown hfit hroom hlv hK
    obtain ⟨news, hsrc, hnl, hE⟩ := src_of (P := P) (tx := tx) r2 hys hfit
    obtain ⟨v', w', g', hrun, s3, q3, hown'⟩ := ap_ow (P := P) s2 (t := t) (tx := tx) (ty := o.type) hut hti hzc hzl hpos hown hsrc hnl hE hroom
    subst hlv
    refine ⟨_, st1, hK, OpOk.value (v := v') (w' := w') ?_ s3 ((q1.toTr.trans q2).trans q3) ⟨by simp, hown'⟩⟩
    rw [run_builtin ho hc]
    simp only [builtin]
    refine run_pureV ?_
    have heq : (Builtin.append_ c.argTypes o.type (c.args.map a.eval)).run P w = (Builtin.append_ #[t, tx] o.type #[s, a.eval y]).run P w := by
      simp [Builtin.append_, hargs, t0, t1, hsx]
    rw [heq]; exact hrun
  cases x with
  | tmp j =>
    simp only [Option.bind_eq_some_iff] at h
    · obtain ⟨lv, hap, h⟩ := h
      obtain ⟨xs, hj, hlv, hfit, hroom⟩ := apL_spec hap
      obtain ⟨s2, r2⟩ := s1.take j
      exact run _ _ _ lv xs s2 (rel_Tr w g1 rfl) (r1.mono (rel_Le w g1 _)) rfl (ow_of hj r2) hfit hroom hlv h
  | const cv =>
    split at h
    · rename_i heq; cases heq
    · rename_i heq
      simp only [Option.bind_eq_some_iff] at h
      · obtain ⟨lv, hap, h⟩ := h
        obtain ⟨xs, hj, hlv, hfit, hroom⟩ := apL_spec hap
        simp only [LV.ow.injEq, true_and, reduceCtorEq, false_and, or_false] at hj
        subst hj
        injection heq with heq
        subst heq
        exact run st g1 (.slice none 0 0) lv [] s1 (Tr.refl w g1) r1 rfl (.emp _) hfit hroom hlv h
    · cases h
  | _ => cases h

/-- A box's cell is a result's. -/
def fromCell (i j : Nat) : Hd → Hd
  | .cell i' j' => if i' = i ∧ j' = j then .res 0 else .cell i' j'
  | h => h
def fromHcell (i j : Nat) : Hd → Hd
  | .hcell i' j' => if i' = i ∧ j' = j then .res 0 else .hcell i' j'
  | h => h

theorem good_take_box {t : TypeId} {x : Operand} {z : Nat × Bool} {b off : Nat} (ho : o.op = .load t x) (hs : SR nt st a w g lm) (hz : tyz P t = some z) (hx : st.rd x = .lp b off) (hb : off + (bif z.2 then z.1 else 1) ≤ st.z b)
    (h : (bif z.2 then none else K (st.m b off) { st with m := upd2 st.m b off (st.m b off).cp }) = some r) : Good P nt o a w g K r := by
  cases h2 : z.2 with
  | true => rw [h2] at h; cases h
  | false =>
    rw [h2] at h hb
    simp only [cond_false] at h hb
    obtain ⟨g0, s0, t0, r0⟩ := rd_ok hs x
    have he := r0 .res
    rw [hx] at he
    obtain ⟨_, he⟩ := he
    obtain ⟨_, _, _, c0, e0, k4, k5, k6⟩ := s0.bx b (by omega)
    have F := SR.famBox (nt := nt) (st := st) (a := a) (w := w) (lm := lm) b (by omega) c0 e0 k4
    obtain ⟨g1, s1, t1, hcpr⟩ := F.cp1 (k := off) (by omega) s0
    obtain ⟨b1, b2, b3, c, e, h4, h5, h6⟩ := s1.bx b (by omega)
    have hce : c0 = c := by
      rw [h4] at k4
      simp only [Option.some.injEq, Obj.cells.injEq] at k4
      exact k4.1.symm
    subst hce
    obtain ⟨u, hu, hru⟩ := h6 off (by omega)
    have hud : c0.getD off undef = u := by simp [Array.getD_eq_getD_getElem?, hu]
    have K0 : ∀ hd, hd ≠ .cell b off → Kp w g1 w (gRel g1 (fromCell b off)) hd := fun hd hne => rel_Kp w g1 (by
      cases hd <;> simp only [fromCell]
      rename_i i' j'
      rw [if_neg]
      rintro ⟨rfl, rfl⟩; exact hne rfl)
    refine Good.pre (t0.trans t1) ⟨_, _, h, OpOk.value (v := u) (w' := w) (g' := gRel g1 (fromCell b off)) (lm' := lm) ?_ ⟨rel_Wf s1.wf rfl, s1.nt, s1.df, fun j => (s1.tm j).mono (fun c => K0 _ (by simp)), fun i hi => ?_, s1.hp.keep rfl (fun _ => K0 _ (by simp)) (fun _ _ => K0 _ (by simp))⟩ (rel_Tr w g1 rfl) ?_⟩
    · simp only [execOp, ho]
      refine run_pureV ?_
      have hcl : Cl w (lm b) off = some u := by rw [Cl_of h4]; exact hu
      simp [Instr.loadAt, he, Instr.sureAddr, loadVar_one (P := P) hz h2 hcl]
    · obtain ⟨c1, c2, c3, c', e', d4, d5, d6⟩ := s1.bx i hi
      refine ⟨c1, by simp only [gRel]; rw [c2]; rfl, c3, c', e', d4, d5, fun j hj => ?_⟩
      obtain ⟨u', hu', hr'⟩ := d6 j hj
      refine ⟨u', hu', ?_⟩
      dsimp only
      rw [upd2_get]
      by_cases hij : i = b ∧ j = off
      · rw [if_pos hij]
        obtain ⟨rfl, rfl⟩ := hij
        have e1 : u' = c0.getD j undef := by
          rw [h4] at d4
          simp only [Option.some.injEq, Obj.cells.injEq] at d4
          rw [← d4.1] at hu'
          simp [Array.getD_eq_getD_getElem?, hu']
        rw [e1]
        have hr := hcpr .oth
        cases hm : st.m i j <;> rw [hm] at hr hr' <;> simp only [LV.cp, LV.cp1, RepC] at hr hr' ⊢
        · exact ⟨hr.1.mono (rel_Le w g1 _), hr.2⟩
        · exact ⟨hr.1.mono (rel_Le w g1 _), hr.2⟩
      · rw [if_neg hij]; exact hr'.mono (K0 _ (by simp; omega))
    · have hr2 := hru.rel (ρ := fromCell b off) (fun _ => by simp [fromCell])
      simp only [fromCell, and_self, if_true] at hr2
      dsimp only
      cases hm : st.m b off <;> rw [hm] at hr2 <;> simp only [RepC] at hr2 <;> simp only [RepV]
      · exact hr2.1
      · exact hr2

theorem good_take_heap {t : TypeId} {x : Operand} {z : Nat × Bool} {p : AV} (ho : o.op = .load t x) (hs : SR nt st a w g lm) (hz : tyz P t = some z) (hx : st.rd x = .v p)
    (h : (bif z.2 then none else (tkP st.h p).bind fun r => K r.1 { st with h := r.2 }) = some r) : Good P nt o a w g K r := by
  cases h2 : z.2 with
  | true => rw [h2] at h; cases h
  | false =>
    rw [h2] at h
    simp only [cond_false, Option.bind_eq_some_iff] at h
    obtain ⟨⟨lv, h'⟩, htk, h⟩ := h
    obtain ⟨g1, s1, t1, r1⟩ := rd_ok hs x
    have hp : Rep w g1 p (a.eval x) := by have := r1 .res; rw [hx] at this; exact this
    cases p with
    | ptr id off =>
      simp only [tkP, Option.bind_eq_some_iff, Option.some.injEq, Prod.mk.injEq] at htk
      obtain ⟨bx, hbx, lv', hlv, rfl, rfl⟩ := htk
      have hlt : off < bx.length := (List.getElem?_eq_some_iff.1 hlv).1
      have hne : bx ≠ [] := by intro h; subst h; simp at hlt
      obtain ⟨b2, b3, c, e, h4, h5, h6⟩ := s1.hp.2 id bx hbx hne
      obtain ⟨u, hu, hru⟩ := h6 off lv' hlv
      have K0 : ∀ hd, hd ≠ .hcell id off → Kp w g1 w (gRel g1 (fromHcell id off)) hd := fun hd hne => rel_Kp w g1 (by
        cases hd <;> simp only [fromHcell]
        rename_i i' j'
        rw [if_neg]
        rintro ⟨rfl, rfl⟩; exact hne rfl)
      refine Good.pre t1 ⟨_, _, h, OpOk.value (v := u) (w' := w) (g' := gRel g1 (fromHcell id off)) (lm' := lm) ?_ ⟨rel_Wf s1.wf rfl, s1.nt, s1.df, fun j => (s1.tm j).mono (fun c => K0 _ (by simp)), s1.bx.keep (fun _ => K0 _ (by simp)) (fun _ _ => K0 _ (by simp)), ⟨?_, fun i bx' hi hne' => ?_⟩⟩ (rel_Tr w g1 rfl) ?_⟩
      · simp only [execOp, ho]
        refine run_pureV ?_
        have hcl : Cl w (g1.bm id) off = some u := by rw [Cl_of h4]; exact hu
        simp [Instr.loadAt, (ptr_inv hp).2, Instr.sureAddr, loadVar_one (P := P) hz h2 hcl]
      · show g1.nb = _; rw [List.length_set]; exact s1.hp.1
      · simp only [List.getElem?_set] at hi
        by_cases hid : id = i
        · subst hid
          rw [if_pos rfl] at hi
          split at hi
          · simp only [Option.some.injEq] at hi
            subst hi
            refine ⟨by simp only [gRel]; rw [b2]; rfl, b3, c, e, h4, by rw [List.length_set]; exact h5, fun j y hj => ?_⟩
            rw [List.getElem?_set] at hj
            split at hj
            · rename_i hoj
              subst hoj
              simp only [Option.some.injEq] at hj
              subst hj
              exact ⟨u, hu, trivial⟩
            · rename_i hoj
              obtain ⟨u', hu', hr'⟩ := h6 j y hj
              exact ⟨u', hu', hr'.mono (K0 _ (by simp; omega))⟩
          · cases hi
        · rw [if_neg hid] at hi
          obtain ⟨c2, c3, c', e', d4, d5, d6⟩ := s1.hp.2 i bx' hi hne'
          refine ⟨by simp only [gRel]; rw [c2]; rfl, c3, c', e', d4, d5, fun j y hj => ?_⟩
          obtain ⟨u', hu', hr'⟩ := d6 j y hj
          exact ⟨u', hu', hr'.mono (K0 _ (by simp; omega))⟩
      · have hr2 := hru.rel (ρ := fromHcell id off) (fun _ => by simp [fromHcell])
        simp only [fromHcell, and_self, if_true] at hr2
        dsimp only
        cases lv' <;> simp only [RepC] at hr2 <;> simp only [RepV]
        · exact hr2.1
        · exact hr2
    | _ => simp [tkP] at htk

end Go.Proofs.Am
