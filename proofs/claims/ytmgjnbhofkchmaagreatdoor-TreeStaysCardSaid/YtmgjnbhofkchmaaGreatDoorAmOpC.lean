/-
  Operations that look into what there is.
-/
import Derived.Test.YtmgjnbhofkchmaaGreatDoorAmOpB

namespace Go.Proofs.Am
open Go

variable {R : Type} {P : Program} {nt : Nat} {o : Oper} {st : St} {a : Act} {w : World} {g : Gh} {lm : Nat → Nat} {K : LV → St → Option R} {r : R}

theorem fieldsOf_spec {t : TypeId} {fs : List Field} (h : fieldsOf P t = some fs) : ∃ fa : Array Field, P.underlying t = some (.struct fa) ∧ fa.toList = fs := by
  unfold fieldsOf at h
  simp only [Option.bind_eq_some_iff] at h
  obtain ⟨d, hd, h⟩ := h
  cases d <;> simp only [reduceCtorEq, Option.some.injEq] at h
  exact ⟨_, hd, h⟩
theorem elemTy_spec {t e : TypeId} (h : elemTy P t = some e) : P.underlying t = some (.slice e) := by
  unfold elemTy at h
  simp only [Option.bind_eq_some_iff] at h
  obtain ⟨d, hd, h⟩ := h
  cases d <;> simp only [reduceCtorEq, Option.some.injEq] at h
  subst h; exact hd

theorem snap_drop {cs : List AV} {b off k : Nat} (h : Rep w g (.snap cs) (.pointer (some ⟨b, off, none⟩))) : Rep w g (.snap (cs.drop k)) (.pointer (some ⟨b, off + k, none⟩)) := by
  cases h with
  | snap _ _ _ f hc hr =>
    refine .snap _ _ _ (fun j => f (k + j)) (fun j c hj => ?_) (fun j c hj => hr (k + j) c (by simpa using hj))
    have := hc (k + j) c (by simpa using hj)
    rw [show off + k + j = off + (k + j) by omega]
    exact this

theorem good_fieldAddr {s : TypeId} {x : Operand} {j : Nat} (ho : o.op = .fieldAddr s x j) (hs : SR nt st a w g lm)
    (h : ((fieldsOf P s).bind fun fs => fs[j]?.bind fun fl => (tyz P fl.type).bind fun z => bif Nat.blt 0 z.1 then
      (match st.rd x with
       | .lp b off => K (.lp b (off + fl.offset)) st
       | .v p => (fpA p fl.offset).bind fun q => K (.v q) st
       | _ => none)
      else none) = some r) : Good P nt o a w g K r := by
  simp only [Option.bind_eq_some_iff] at h
  obtain ⟨fs, hfs, fl, hfl, z, hz, h⟩ := h
  obtain ⟨fa, hfa, rfl⟩ := fieldsOf_spec hfs
  obtain ⟨i, d, hi, hsz, _, _⟩ := tyz_spec hz
  have hfl' : fa[j]? = some fl := by simpa using hfl
  by_cases hp : Nat.blt 0 z.1 = true
  · rw [hp, cond_true] at h
    have hz0 : i.size ≠ 0 := by
      have := Nat.lt_of_lt_of_le (Nat.le_of_ble_eq_true hp) (Nat.le_refl _)
      omega
    obtain ⟨g1, s1, t1, r1⟩ := rd_ok hs x
    refine Good.pre t1 ?_
    have key : ∀ b off, a.eval x = .pointer (some ⟨b, off, none⟩) → (execOp a.eval o).run P w = .ok (.value (.pointer (some ⟨b, off + fl.offset, none⟩))) w := by
      intro b off he
      have : (Instr.fieldAt s (a.eval x) j).run P w = .ok (.pointer (some ⟨b, off + fl.offset, none⟩)) w := by
        simp [Instr.fieldAt, run_underlying hfa, hfl', he, Instr.sureAddr, fieldPlace, run_sizeOf hi, hz0, Addr.add_mid]
      simp only [execOp, ho]
      exact run_pureV this
    cases hx : st.rd x <;> rw [hx] at h <;> simp only [reduceCtorEq] at h
    · rename_i p
      have hr : Rep w g1 p (a.eval x) := by have := r1 .res; rw [hx] at this; exact this
      simp only [Option.bind_eq_some_iff] at h
      obtain ⟨q, hq, h⟩ := h
      cases p with
      | snap cs =>
        simp only [fpA, Option.some.injEq] at hq
        subst hq
        generalize he : a.eval x = u at hr
        cases hr with
        | snap _ b off f hc hr =>
          exact Good.pure s1 h (key b off he) (snap_drop (.snap _ b off f hc hr))
      | ptr id off =>
        simp only [fpA, Option.some.injEq] at hq
        subst hq
        generalize he : a.eval x = u at hr
        cases hr with
        | ptr _ _ hid => exact Good.pure s1 h (key _ off he) (.ptr _ _ hid)
      | _ => simp [fpA] at hq
    · rename_i b off
      have hr := r1 .res; rw [hx] at hr
      exact Good.pure s1 h (key _ off hr.2) ⟨hr.1, rfl⟩
  · have : Nat.blt 0 z.1 = false := Bool.eq_false_iff.2 hp
    rw [this] at h; cases h

theorem toI_rep {p : AV} {v : Value} {n : Int} (hr : Rep w g p v) (h : p.toI = some n) : ∃ k, v = .int k n := by
  unfold AV.toI at h
  split at h
  · simp only [Option.some.injEq] at h
    subst h
    cases hr; exact ⟨_, rfl⟩
  · cases h

theorem imm_get {xs : List (List AV)} {v : Value} (hr : Rep w g (.imm xs) v) {i : Nat} {cs : List AV} (h : xs[i]? = some cs) :
    ∃ b off cap, v = .slice (some ⟨b, off, none⟩) xs.length cap ∧ xs.length ≤ cap ∧ Rep w g (.snap cs) (.pointer (some ⟨b, off + i * cs.length, none⟩)) := by
  cases hr with
  | imm0 => simp at h
  | imm _ n b off cap f hl hn hc hr =>
    refine ⟨b, off, cap, rfl, hl, ?_⟩
    rw [hn i cs h]
    exact .snap _ _ _ (f i) (fun j c hj => hc i cs j c h hj) (fun j c hj => hr i cs j c h hj)

theorem good_indexAddr {t : TypeId} {x ix : Operand} {hp : Bool} (ho : o.op = .indexAddr t x ix) (hs : SR nt st a w g lm)
    (h : ((elemTy P t).bind fun e => (tyz P e).bind fun z => (st.rv x).bind fun p => (st.rv ix).bind fun q => q.toI.bind fun n =>
      bif hp then (ixP p n z.1).bind fun u => K (.v u) st else (ixA p n z.1).bind fun cs => K (.v (.snap cs)) st) = some r) : Good P nt o a w g K r := by
  simp only [Option.bind_eq_some_iff] at h
  obtain ⟨e, he, z, hz, p, hp', q, hq, n, hn, h⟩ := h
  have hu := elemTy_spec he
  obtain ⟨i, d, hi, hsz, _, _⟩ := tyz_spec hz
  obtain ⟨g1, s1, t1, r1⟩ := rv_ok hs hp'
  obtain ⟨g2, s2, t2, r2⟩ := rv_ok s1 hq
  have r1 := r1.mono t2.le
  obtain ⟨k, hk⟩ := toI_rep r2 hn
  refine Good.pre (t1.trans t2) ?_
  have key : ∀ b off len cap, a.eval x = .slice (some ⟨b, off, none⟩) len cap → 0 ≤ n → n < len → (execOp a.eval o).run P w = .ok (.value (.pointer (some ⟨b, off + n.toNat * z.1, none⟩))) w := by
    intro b off len cap hx h0 h1
    have : (Instr.indexAt t (a.eval x) (a.eval ix)).run P w = .ok (.pointer (some ⟨b, off + n.toNat * z.1, none⟩)) w := by
      simp [Instr.indexAt, hk, asIntOf, run_underlying hu, hx, h0, h1, run_sizeOf hi, hsz, Addr.add_mid]
    simp only [execOp, ho]
    exact run_pureV this
  cases hp with
  | true =>
    simp only [cond_true, Option.bind_eq_some_iff] at h
    obtain ⟨u, hu', h⟩ := h
    cases p with
    | arr m id off len =>
      simp only [ixP] at hu'
      by_cases hc : (Nat.beq m z.1 && decide (0 ≤ n) && decide (n < len)) = true
      · rw [hc, cond_true, Option.some.injEq] at hu'
        subst hu'
        simp only [Bool.and_eq_true, decide_eq_true_eq] at hc
        generalize hx : a.eval x = v at r1
        cases r1 with
        | arr _ _ _ _ cap hid hl hs' =>
          exact Good.pure s2 h (key _ off len cap hx hc.1.2 hc.2) (.ptr _ _ hid)
      · rw [Bool.eq_false_iff.2 hc] at hu'; cases hu'
    | _ => simp [ixP] at hu'
  | false =>
    simp only [cond_false, Option.bind_eq_some_iff] at h
    obtain ⟨cs, hcs, h⟩ := h
    cases p with
    | imm xs =>
      simp only [ixA] at hcs
      by_cases h0 : 0 ≤ n
      · simp only [h0, decide_true, cond_true, Option.bind_eq_some_iff] at hcs
        obtain ⟨cs', hget, hcs⟩ := hcs
        by_cases hl : Nat.beq cs'.length z.1 = true
        · rw [hl, cond_true, Option.some.injEq] at hcs
          subst hcs
          have hl' := Nat.eq_of_beq_eq_true hl
          obtain ⟨b, off, cap, hv, hcap, hrep⟩ := imm_get r1 hget
          have hlt : n.toNat < xs.length := (List.getElem?_eq_some_iff.1 hget).1
          refine Good.pure s2 h (key b off _ cap hv h0 (by omega)) ?_
          rw [← hl']; exact hrep
        · rw [Bool.eq_false_iff.2 hl] at hcs; cases hcs
      · simp [h0] at hcs
    | _ => simp [ixA] at hcs

theorem good_index {t : TypeId} {x ix : Operand} (ho : o.op = .index t x ix) (hs : SR nt st a w g lm)
    (h : ((st.rv x).bind fun p => (st.rv ix).bind fun q => q.toI.bind fun n => (ixS (P.underlying t) p n).bind fun u => K (.v u) st) = some r) : Good P nt o a w g K r := by
  simp only [Option.bind_eq_some_iff] at h
  obtain ⟨p, hp', q, hq, n, hn, u, hu, h⟩ := h
  obtain ⟨g1, s1, t1, r1⟩ := rv_ok hs hp'
  obtain ⟨g2, s2, t2, r2⟩ := rv_ok s1 hq
  have r1 := r1.mono t2.le
  obtain ⟨k, hk⟩ := toI_rep r2 hn
  refine Good.pre (t1.trans t2) ?_
  unfold ixS at hu
  split at hu
  · rename_i hd
    split at hu
    · rename_i s
      by_cases h0 : 0 ≤ n
      · simp only [h0, decide_true, cond_true, Option.bind_eq_some_iff, Option.some.injEq] at hu
        obtain ⟨b, hb, rfl⟩ := hu
        generalize hx : a.eval x = v at r1
        cases r1
        refine Good.pure s2 h (v := .int .u8 b.toNat) ?_ (.int _ _)
        have : (Instr.index t (a.eval x) (a.eval ix)).run P w = .ok (.int .u8 b.toNat) w := by
          simp [Instr.index, hk, asIntOf, run_underlying hd, hx, h0, hb]
        simp only [execOp, ho]
        exact run_pureV this
      · simp [h0] at hu
    · cases hu
  · cases hu

theorem good_field {s : TypeId} {x : Operand} {j : Nat} (ho : o.op = .field s x j) (hs : SR nt st a w g lm)
    (h : ((fieldsOf P s).bind fun fs => fs[j]?.bind fun fl => (tyz P fl.type).bind fun z => (st.rv x).bind fun p => (fdA p fl.offset z.1 z.2).bind fun u => K (.v u) st) = some r) : Good P nt o a w g K r := by
  simp only [Option.bind_eq_some_iff] at h
  obtain ⟨fs, hfs, fl, hfl, z, hz, p, hp, u, hu, h⟩ := h
  obtain ⟨fa, hfa, rfl⟩ := fieldsOf_spec hfs
  obtain ⟨i, d, hi, hsz, hd, hrow⟩ := tyz_spec hz
  have hfl' : fa[j]? = some fl := by simpa using hfl
  obtain ⟨g1, s1, t1, r1⟩ := rv_ok hs hp
  refine Good.pre t1 ?_
  unfold fdA at hu
  split at hu
  · rename_i cs
    generalize hx : a.eval x = v at r1
    have hv : ∃ vs, v = .agg vs := by cases r1; exact ⟨_, rfl⟩
    obtain ⟨vs, rfl⟩ := hv
    obtain ⟨hl, hc⟩ := agg_cells r1
    unfold ldA at hu
    cases hz2 : z.2 with
    | true =>
      rw [hz2] at hu
      by_cases hb : Nat.ble z.1 (cs.drop fl.offset).length = true
      · simp only [hb, cond_true, Option.some.injEq] at hu
        subst hu
        have hb' := Nat.le_of_ble_eq_true hb
        simp only [List.length_drop] at hb'
        refine Good.pure s1 h (v := .agg (vs.extract fl.offset (fl.offset + z.1))) ?_ ?_
        · have : (Instr.field s (a.eval x) j).run P w = .ok (.agg (vs.extract fl.offset (fl.offset + z.1))) w := by
            simp [Instr.field, run_underlying hfa, hfl', hx, asAgg, part, run_isAgg hd, ← hrow, hz2, run_sizeOf hi, hsz]
          simp only [execOp, ho]
          exact run_pureV this
        · refine agg_of (by simp; omega) (fun k c hk => ?_)
          rw [List.getElem?_take] at hk
          by_cases hkz : k < z.1
          · rw [if_pos hkz, List.getElem?_drop] at hk
            obtain ⟨u, hu, hr⟩ := hc _ c hk
            have hlt : fl.offset + k < vs.size := (Array.getElem?_eq_some_iff.1 hu).1
            refine ⟨u, ?_, hr⟩
            rw [Array.getElem?_extract, if_pos (by omega)]
            exact hu
          · rw [if_neg hkz] at hk; cases hk
      · simp only [Bool.eq_false_iff.2 hb, cond_true, cond_false, reduceCtorEq] at hu
    | false =>
      rw [hz2] at hu
      simp only [cond_false] at hu
      have hu' : cs[fl.offset]? = some u := by
        rw [List.head?_eq_getElem?, List.getElem?_drop] at hu
        simpa using hu
      obtain ⟨y, hy, hr, _⟩ := hc _ u hu'
      refine Good.pure s1 h (v := y) ?_ hr
      have : (Instr.field s (a.eval x) j).run P w = .ok y w := by
        simp [Instr.field, run_underlying hfa, hfl', hx, asAgg, part, run_isAgg hd, ← hrow, hz2, hy]
      simp only [execOp, ho]
      exact run_pureV this
  · cases hu

/-! ### len, min, max -/
theorem run_builtin {b : Builtin} {c : Call} (ho : o.op = .call c) (hc : c.callee = .builtin b) :
    (execOp a.eval o).run P w = (builtin b c.argTypes o.type (c.args.map fun | .const _ => true | _ => false) (c.args.map a.eval)).run P w := by
  simp only [execOp, ho, resolve, hc]
  rfl

theorem good_len {c : Call} {x : Operand} (ho : o.op = .call c) (hc : c.callee = .builtin .len) (hx : c.args.toList = [x]) (hs : SR nt st a w g lm)
    (h : ((st.rv x).bind fun p => (lnA (c.argTypes.toList.head?.bind P.underlying) p).bind fun n => K (.v (.int .i64 n)) st) = some r) : Good P nt o a w g K r := by
  simp only [Option.bind_eq_some_iff] at h
  obtain ⟨p, hp, n, hn, h⟩ := h
  obtain ⟨g1, s1, t1, r1⟩ := rv_ok hs hp
  refine Good.pre t1 (Good.pure s1 h (v := .int .i64 n) ?_ (.int _ _))
  rw [run_builtin ho hc]
  have hargs : c.args = #[x] := by rw [← Array.toArray_toList (xs := c.args), hx]
  have : (Builtin.len_ c.argTypes o.type (c.args.map a.eval)).run P w = .ok (.int .i64 n) w := by
    cases ht : c.argTypes.toList.head? with
    | none => rw [ht] at hn; simp [lnA] at hn
    | some t =>
      rw [ht] at hn
      have ht' : c.argTypes[0]? = some t := by
        rw [List.head?_eq_getElem?] at ht; simpa using ht
      simp only [Option.bind_some] at hn
      unfold lnA at hn
      split at hn
      · rename_i e hu
        generalize hv : a.eval x = v at r1
        split at hn <;> first | (cases hn; done) | (simp only [Option.some.injEq] at hn; subst hn)
        · cases r1 <;> simp [Builtin.len_, ht', hargs, run_underlying hu, goInt, hv]
        · cases r1; simp [Builtin.len_, ht', hargs, run_underlying hu, goInt, hv]
        · cases r1; simp [Builtin.len_, ht', hargs, run_underlying hu, goInt, hv]
      · rename_i hu
        generalize hv : a.eval x = v at r1
        split at hn <;> first | (cases hn; done) | (simp only [Option.some.injEq] at hn; subst hn)
        cases r1; simp [Builtin.len_, ht', hargs, run_underlying hu, goInt, hv]
      · cases hn
  simp only [builtin]
  exact run_pureV this

end Go.Proofs.Am
