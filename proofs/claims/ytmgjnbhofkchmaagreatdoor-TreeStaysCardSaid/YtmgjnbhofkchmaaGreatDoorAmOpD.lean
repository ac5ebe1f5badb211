/-
  Slices' parts, min and max, what is read out of memory.
-/
import Derived.Test.YtmgjnbhofkchmaaGreatDoorAmOpC

namespace Go.Proofs.Am
open Go

variable {R : Type} {P : Program} {nt : Nat} {o : Oper} {st : St} {a : Act} {w : World} {g : Gh} {lm : Nat → Nat} {K : LV → St → Option R} {r : R}

theorem mnA_run {p q : AV} {u v : Value} {c : AV} (hp : Rep w g p u) (hq : Rep w g q v) :
    (mnA false p q = some c → ∃ z, (Builtin.min2 u v).run P w = .ok z w ∧ Rep w g c z) ∧ (mnA true p q = some c → ∃ z, (Builtin.max2 u v).run P w = .ok z w ∧ Rep w g c z) := by
  constructor
  · intro h
    unfold mnA at h
    split at h
    · cases hp; cases hq
      rename_i k x k' y
      simp only [cond_false, Option.some.injEq] at h
      subst h
      refine ⟨_, rfl, ?_⟩
      by_cases e : y < x <;> simp [e] <;> exact .int _ _
    · cases h
  · intro h
    unfold mnA at h
    split at h
    · cases hp; cases hq
      rename_i k x k' y
      simp only [cond_true, Option.some.injEq] at h
      subst h
      refine ⟨_, rfl, ?_⟩
      by_cases e : y > x <;> simp [e] <;> exact .int _ _
    · cases h

theorem good_min {c : Call} {x y : Operand} (ho : o.op = .call c) (hc : c.callee = .builtin .min) (hx : c.args.toList = [x, y]) (hs : SR nt st a w g lm)
    (h : ((st.rv x).bind fun p => (st.rv y).bind fun q => (mnA false p q).bind fun u => K (.v u) st) = some r) : Good P nt o a w g K r := by
  simp only [Option.bind_eq_some_iff] at h
  obtain ⟨p, hp, q, hq, u, hu, h⟩ := h
  obtain ⟨g1, s1, t1, r1⟩ := rv_ok hs hp
  obtain ⟨g2, s2, t2, r2⟩ := rv_ok s1 hq
  obtain ⟨z, hz, hr⟩ := (mnA_run (P := P) (r1.mono t2.le) r2).1 hu
  refine Good.pre (t1.trans t2) (Good.pure s2 h (v := z) ?_ hr)
  rw [run_builtin ho hc]
  have hargs : c.args = #[x, y] := by rw [← Array.toArray_toList (xs := c.args), hx]
  simp only [builtin]
  exact run_pureV (by simp [Builtin.min_, hargs, hz])

theorem good_max {c : Call} {x y : Operand} (ho : o.op = .call c) (hc : c.callee = .builtin .max) (hx : c.args.toList = [x, y]) (hs : SR nt st a w g lm)
    (h : ((st.rv x).bind fun p => (st.rv y).bind fun q => (mnA true p q).bind fun u => K (.v u) st) = some r) : Good P nt o a w g K r := by
  simp only [Option.bind_eq_some_iff] at h
  obtain ⟨p, hp, q, hq, u, hu, h⟩ := h
  obtain ⟨g1, s1, t1, r1⟩ := rv_ok hs hp
  obtain ⟨g2, s2, t2, r2⟩ := rv_ok s1 hq
  obtain ⟨z, hz, hr⟩ := (mnA_run (P := P) (r1.mono t2.le) r2).2 hu
  refine Good.pre (t1.trans t2) (Good.pure s2 h (v := z) ?_ hr)
  rw [run_builtin ho hc]
  have hargs : c.args = #[x, y] := by rw [← Array.toArray_toList (xs := c.args), hx]
  simp only [builtin]
  exact run_pureV (by simp [Builtin.max_, hargs, hz])

theorem good_max3 {c : Call} {x y y2 : Operand} (ho : o.op = .call c) (hc : c.callee = .builtin .max) (hx : c.args.toList = [x, y, y2]) (hs : SR nt st a w g lm)
    (h : ((st.rv x).bind fun p => (st.rv y).bind fun q => (st.rv y2).bind fun q2 => (mnA true p q).bind fun u => (mnA true u q2).bind fun u => K (.v u) st) = some r) : Good P nt o a w g K r := by
  simp only [Option.bind_eq_some_iff] at h
  obtain ⟨p, hp, q, hq, q2, hq2, u, hu, u2, hu2, h⟩ := h
  obtain ⟨g1, s1, t1, r1⟩ := rv_ok hs hp
  obtain ⟨g2, s2, t2, r2⟩ := rv_ok s1 hq
  obtain ⟨g3, s3, t3, r3⟩ := rv_ok s2 hq2
  obtain ⟨z, hz, hr⟩ := (mnA_run (P := P) (r1.mono (t2.trans t3).le) (r2.mono t3.le)).2 hu
  obtain ⟨z2, hz2, hr2⟩ := (mnA_run (P := P) hr r3).2 hu2
  refine Good.pre ((t1.trans t2).trans t3) (Good.pure s3 h (v := z2) ?_ hr2)
  rw [run_builtin ho hc]
  have hargs : c.args = #[x, y, y2] := by rw [← Array.toArray_toList (xs := c.args), hx]
  simp only [builtin]
  exact run_pureV (by simp [Builtin.max_, hargs, hz, hz2])

theorem mxL_run {P : Program} {w : World} {g : Gh} : ∀ (as : List AV) (vs : List Value) (a c : AV) (v : Value), Rep w g a v → as.length = vs.length → (∀ (i : Nat) (x : AV) (u : Value), as[i]? = some x → vs[i]? = some u → Rep w g x u) → mxL true a as = some c →
    ∃ z, (vs.foldlM Builtin.max2 v).run P w = .ok z w ∧ Rep w g c z
  | [], [], a, c, v, hr, _, _, h => by
    simp only [mxL, Option.some.injEq] at h
    subst h
    exact ⟨v, by simp, hr⟩
  | [], _ :: _, _, _, _, _, h, _, _ => by simp at h
  | _ :: _, [], _, _, _, _, h, _, _ => by simp at h
  | b :: as, u :: vs, a, c, v, hr, hl, hx, h => by
    simp only [mxL, Option.bind_eq_some_iff] at h
    obtain ⟨r, h1, h⟩ := h
    obtain ⟨z, hz, hr2⟩ := (mnA_run (P := P) hr (hx 0 b u rfl rfl)).2 h1
    obtain ⟨z2, hz2, hr3⟩ := mxL_run (P := P) as vs r c z hr2 (by simpa using hl) (fun i x u h1 h2 => hx (i + 1) x u (by simpa using h1) (by simpa using h2)) h
    exact ⟨z2, by simp [List.foldlM_cons, hz, hz2], hr3⟩
theorem good_maxL {c : Call} {x y y2 y3 : Operand} {ys : List Operand} (ho : o.op = .call c) (hc : c.callee = .builtin .max) (hx : c.args.toList = x :: y :: y2 :: y3 :: ys) (hs : SR nt st a w g lm)
    (h : (rvs st (x :: y :: y2 :: y3 :: ys) fun as => (mxLs true as).bind fun r => K (.v r) st) = some r) : Good P nt o a w g K r := by
  obtain ⟨as, h, hl, g1, s1, t1, h1⟩ := rvs_ok _ _ _ hs h
  simp only [Option.bind_eq_some_iff] at h
  obtain ⟨u, hu, h⟩ := h
  match as, hl with
  | b :: bs, hl =>
    have hx0 := h1 0 b x rfl rfl
    obtain ⟨z, hz, hr⟩ := mxL_run (P := P) bs ((y :: y2 :: y3 :: ys).map a.eval) b u (a.eval x) hx0 (by simpa using hl) (fun i x' u' h2 h3 => by
      rw [List.getElem?_map, Option.map_eq_some_iff] at h3
      obtain ⟨o', h4, rfl⟩ := h3
      exact h1 (i + 1) x' o' (by simpa using h2) (by simpa using h4)) hu
    refine Good.pre t1 (Good.pure s1 h (v := z) ?_ hr)
    rw [run_builtin ho hc]
    have hargs : c.args = (x :: y :: y2 :: y3 :: ys).toArray := by rw [← hx, Array.toArray_toList]
    simp only [builtin]
    exact run_pureV (by simp [Builtin.max_, hargs] at hz ⊢; exact hz)

/-! ### Parts of slices and texts -/
theorem bound_run {v : Value} {k : IntKind} {n : Int} {y : Nat} {c : BoundsCode} (hv : v = .int k n) (h0 : 0 ≤ n) (h1 : n ≤ y) : (Instr.sliceBound v y c).run P w = .ok n.toNat w := by
  simp [Instr.sliceBound, hv, asIntOf, h0, h1]

/-- A bound that may lack. -/
def BndIs (ov : Option Value) (on : Option Int) : Prop := (ov = none ∧ on = none) ∨ ∃ v k n, ov = some v ∧ on = some n ∧ v = .int k n

theorem bounds_run {isS : Bool} {len cap : Nat} {lo hi : Option Value} {ln hn : Option Int} (hl : BndIs lo ln) (hh : BndIs hi hn) (hc : len ≤ cap) (h0 : 0 ≤ ln.getD 0) (h1 : ln.getD 0 ≤ hn.getD len) (h2 : hn.getD len ≤ len) :
    (Instr.sliceBounds isS len cap lo hi none).run P w = .ok ((ln.getD 0).toNat, (hn.getD len).toNat, cap) w := by
  have h3 : ((hn.getD len).toNat : Int) = hn.getD len := by omega
  rcases hh with ⟨rfl, rfl⟩ | ⟨v, k, n, rfl, rfl, hv⟩
  · rcases hl with ⟨rfl, rfl⟩ | ⟨v', k', n', rfl, rfl, hv'⟩
    · simp [Instr.sliceBounds]
    · simp only [Option.getD_some, Option.getD_none] at *
      simp [Instr.sliceBounds, bound_run (P := P) (w := w) hv' h0 h1]
  · simp only [Option.getD_some] at *
    rcases hl with ⟨rfl, rfl⟩ | ⟨v', k', n', rfl, rfl, hv'⟩
    · simp only [Option.getD_none] at *
      simp [Instr.sliceBounds, bound_run (P := P) (w := w) hv h1 (show n ≤ (cap : Int) by omega)]
    · simp only [Option.getD_some] at *
      simp [Instr.sliceBounds, bound_run (P := P) (w := w) hv (show 0 ≤ n by omega) (show n ≤ (cap : Int) by omega), bound_run (P := P) (w := w) hv' h0 (show n' ≤ (n.toNat : Int) by omega)]

theorem imm_slice {xs : List (List AV)} {ad : Option Addr} {len cap m : Nat} (hr : Rep w g (.imm xs) (.slice ad len cap)) (hm : fitE m xs = true) (l h : Nat) (hl : l ≤ h) (hh : h ≤ xs.length) :
    Rep w g (.imm ((xs.take h).drop l)) (.slice (if cap = l then ad else ad.map (·.add (l * m))) (h - l) (cap - l)) := by
  cases hr with
  | imm0 =>
    simp only [List.length_nil] at hh
    have e1 : h = 0 := by omega
    have e2 : l = 0 := by omega
    subst e1; subst e2
    simp only [List.take_nil, List.drop_nil]
    exact .imm0 _ _
  | imm _ n b off _ f hl2 hn hc hr =>
    by_cases e : l = h
    · subst e
      have : (xs.take l).drop l = [] := by
        apply List.drop_eq_nil_of_le; simp; omega
      rw [this, Nat.sub_self]
      exact .imm0 _ _
    · have hne : cap ≠ l := by omega
      have hnm : n = m := by
        cases xs with
        | nil => simp at hh; omega
        | cons x xs =>
          have h1 := hn 0 x (by simp)
          simp only [fitE] at hm
          have := Nat.eq_of_beq_eq_true hm
          omega
      subst hnm
      have hlen : ((xs.take h).drop l).length = h - l := by simp; omega
      rw [if_neg hne]
      simp only [Option.map_some, Addr.add_mid]
      rw [← hlen]
      have hget : ∀ (k : Nat) (x : List AV), ((xs.take h).drop l)[k]? = some x → xs[l + k]? = some x := by
        intro k x hk
        rw [List.getElem?_drop, List.getElem?_take] at hk
        split at hk
        · exact hk
        · cases hk
      refine .imm _ n b (off + l * n) (cap - l) (fun k j => f (l + k) j) (by rw [hlen]; omega) (fun k x hk => hn _ x (hget k x hk)) (fun k x j c hk hj => ?_) (fun k x j c hk hj => hr _ x j c (hget k x hk) hj)
      have := hc (l + k) x j c (hget k x hk) hj
      rw [show off + l * n + k * n + j = off + (l + k) * n + j by rw [Nat.add_mul]; omega]
      exact this

theorem BndIs.none : BndIs none none := .inl ⟨rfl, rfl⟩

theorem bnd_of {lo : Option Operand} {ls : List AV} (hlen : ls.length = lo.toList.length) (hr : ∀ (i : Nat) (x : AV) (p : Operand), ls[i]? = some x → lo.toList[i]? = some p → Rep w g x (a.eval p))
    (hI : (ls.all fun x => x.toI.isSome) = true) : BndIs (lo.map a.eval) (ls.head?.bind AV.toI) := by
  cases lo with
  | none =>
    simp only [Option.toList_none, List.length_nil, List.length_eq_zero_iff] at hlen
    subst hlen
    exact .inl ⟨rfl, rfl⟩
  | some p =>
    simp only [Option.toList_some, List.length_singleton] at hlen
    obtain ⟨x, rfl⟩ := List.length_eq_one_iff.1 hlen
    simp only [List.all_cons, List.all_nil, Bool.and_true] at hI
    obtain ⟨n, hn⟩ := Option.isSome_iff_exists.1 hI
    obtain ⟨k, hk⟩ := toI_rep (hr 0 x p rfl rfl) hn
    exact .inr ⟨a.eval p, k, n, rfl, by simp [hn], hk⟩

theorem good_slice {t : TypeId} {x : Operand} {lo hi mx : Option Operand} (ho : o.op = .slice t x lo hi mx) (hs : SR nt st a w g lm)
    (h : ((st.rv x).bind fun p => rvs st lo.toList fun ls => rvs st hi.toList fun hs =>
      bif mx.isNone then (slA P t p (ls.head?.bind AV.toI) (hs.head?.bind AV.toI)).bind fun u =>
        bif (ls.all fun x => x.toI.isSome) && (hs.all fun x => x.toI.isSome) then K (.v u) st else none
      else none) = some r) : Good P nt o a w g K r := by
  simp only [Option.bind_eq_some_iff] at h
  obtain ⟨p, hp, h⟩ := h
  obtain ⟨g1, s1, t1, r1⟩ := rv_ok hs hp
  obtain ⟨ls, h, hl1, g2, s2, t2, r2⟩ := rvs_ok _ _ _ s1 h
  obtain ⟨us, h, hl2, g3, s3, t3, r3⟩ := rvs_ok _ _ _ s2 h
  cases hmx : mx with
  | some _ => rw [hmx] at h; simp at h
  | none =>
    rw [hmx] at h
    simp only [Option.isNone_none, cond_true, Option.bind_eq_some_iff] at h
    obtain ⟨u, hu, h⟩ := h
    by_cases hI : ((ls.all fun x => x.toI.isSome) && (us.all fun x => x.toI.isSome)) = true
    · rw [hI, cond_true] at h
      rw [Bool.and_eq_true] at hI
      have B1 := bnd_of (a := a) hl1 r2 hI.1
      have B2 := bnd_of (a := a) hl2 r3 hI.2
      have r1 := r1.mono (t2.trans t3).le
      refine Good.pre ((t1.trans t2).trans t3) ?_
      generalize ls.head?.bind AV.toI = ln at hu B1
      generalize us.head?.bind AV.toI = hn at hu B2
      unfold slA at hu
      split at hu
      · rename_i e hue
        simp only [Option.bind_eq_some_iff] at hu
        obtain ⟨i, hi, hu⟩ := hu
        have key : ∀ ad len cap, a.eval x = .slice ad len cap → len ≤ cap → 0 ≤ ln.getD 0 → ln.getD 0 ≤ hn.getD len → hn.getD len ≤ len →
            (execOp a.eval o).run P w = .ok (.value (.slice (if cap = (ln.getD 0).toNat then ad else ad.map (·.add ((ln.getD 0).toNat * i.size))) ((hn.getD len).toNat - (ln.getD 0).toNat) (cap - (ln.getD 0).toNat))) w := by
          intro ad len cap hx hc h0 h1 h2
          simp only [execOp, ho, hmx]
          refine run_pureV ?_
          have := bounds_run (P := P) (w := w) (isS := true) B1 B2 hc h0 h1 h2
          simp [Instr.sliceAt, run_underlying hue, Instr.slice, hx, this, run_sizeOf hi]
        cases p with
        | imm xs =>
          simp only at hu
          by_cases hc : (decide (0 ≤ ln.getD 0) && decide (ln.getD 0 ≤ hn.getD xs.length) && decide (hn.getD xs.length ≤ xs.length) && fitE i.size xs) = true
          · rw [hc, cond_true, Option.some.injEq] at hu
            subst hu
            simp only [Bool.and_eq_true, decide_eq_true_eq] at hc
            obtain ⟨⟨⟨c0, c1⟩, c2⟩, c3⟩ := hc
            generalize hx : a.eval x = v at r1
            have hv : ∃ ad cap, v = .slice ad xs.length cap ∧ xs.length ≤ cap := by
              cases r1 with
              | imm0 ad cap => exact ⟨ad, cap, rfl, Nat.zero_le _⟩
              | imm _ n b off cap f hl _ _ _ => exact ⟨_, cap, rfl, hl⟩
            obtain ⟨ad, cap, rfl, hcap⟩ := hv
            exact Good.pure s3 h (key ad _ cap hx hcap c0 c1 c2) (imm_slice r1 c3 _ _ (by omega) (by omega))
          · rw [Bool.eq_false_iff.2 hc] at hu; cases hu
        | arr n id off len =>
          simp only at hu
          by_cases hc : (decide (0 ≤ ln.getD 0) && decide (ln.getD 0 ≤ hn.getD len) && decide (hn.getD len ≤ len) && Nat.beq n i.size) = true
          · rw [hc, cond_true] at hu
            simp only [Bool.and_eq_true, decide_eq_true_eq] at hc
            obtain ⟨⟨⟨c0, c1⟩, c2⟩, c3⟩ := hc
            have c3 := Nat.eq_of_beq_eq_true c3
            generalize hx : a.eval x = v at r1
            cases r1 with
            | arr _ _ _ _ cap hid hl hsz =>
              have hk := key _ _ cap hx hl c0 c1 c2
              by_cases hz : (decide (ln.getD 0 = 0) || decide (ln.getD 0 < hn.getD len)) = true
              · rw [hz, cond_true, Option.some.injEq] at hu
                subst hu
                simp only [Bool.or_eq_true, decide_eq_true_eq] at hz
                have hbase : (if cap = (ln.getD 0).toNat then some (⟨g3.bm id, off, none⟩ : Addr) else (some (⟨g3.bm id, off, none⟩ : Addr)).map (·.add ((ln.getD 0).toNat * i.size))) = some ⟨g3.bm id, off + (ln.getD 0).toNat * n, none⟩ := by
                  by_cases e : cap = (ln.getD 0).toNat
                  · have : (ln.getD 0).toNat = 0 := by omega
                    rw [if_pos e, this]; simp
                  · rw [if_neg e]; simp only [Option.map_some, Addr.add_mid, c3]
                rw [hbase] at hk
                refine Good.pure s3 h hk (.arr _ _ _ _ _ hid (by omega) ?_)
                rw [hsz, Nat.sub_mul]
                have : (ln.getD 0).toNat * n ≤ cap * n := Nat.mul_le_mul_right n (by omega)
                congr 1; omega
              · rw [Bool.eq_false_iff.2 hz, cond_false, Option.some.injEq] at hu
                subst hu
                simp only [Bool.or_eq_true, decide_eq_true_eq, not_or] at hz
                have e : (hn.getD len).toNat - (ln.getD 0).toNat = 0 := by omega
                rw [e] at hk
                exact Good.pure s3 h hk (.imm0 _ _)
          · rw [Bool.eq_false_iff.2 hc] at hu; cases hu
        | _ => simp at hu
      · rename_i hue
        cases p with
        | str s =>
          simp only at hu
          by_cases hc : (decide (0 ≤ ln.getD 0) && decide (ln.getD 0 ≤ hn.getD s.size) && decide (hn.getD s.size ≤ s.size)) = true
          · rw [hc, cond_true, Option.some.injEq] at hu
            subst hu
            simp only [Bool.and_eq_true, decide_eq_true_eq] at hc
            obtain ⟨⟨c0, c1⟩, c2⟩ := hc
            generalize hx : a.eval x = v at r1
            cases r1
            refine Good.pure s3 h (v := .string (s.extract (ln.getD 0).toNat (hn.getD s.size).toNat)) ?_ (.str _)
            simp only [execOp, ho, hmx]
            refine run_pureV ?_
            have := bounds_run (P := P) (w := w) (isS := false) B1 B2 (Nat.le_refl s.size) c0 c1 c2
            simp [Instr.sliceAt, run_underlying hue, Instr.slice, hx, this]
          · rw [Bool.eq_false_iff.2 hc] at hu; cases hu
        | _ => simp at hu
      · cases hu
    · rw [Bool.eq_false_iff.2 hI] at h; cases h

end Go.Proofs.Am
