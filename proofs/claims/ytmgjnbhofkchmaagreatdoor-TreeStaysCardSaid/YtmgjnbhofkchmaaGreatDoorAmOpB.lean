/-
  Operations that only reckon, at their place.
-/
import Derived.Test.YtmgjnbhofkchmaaGreatDoorAmOpA

namespace Go.Proofs.Am
open Go

variable {R : Type} {P : Program} {nt : Nat} {o : Oper} {st : St} {a : Act} {w : World} {g : Gh} {lm : Nat → Nat} {K : LV → St → Option R} {r : R}

theorem eqGuard_quiet {op : BinOp} {t : TypeId} {x y : Operand} {u v : Value} (h : ¬ (u = .nilIface ∧ v = .nilIface) ∨ (isC x || isC y) = true) (h2 : (∀ c, u ≠ .agg c) ∨ P.eqGuardType P.depth t = false) :
    (eqGuard op t x y u v).run P w = .ok () w := by
  unfold eqGuard
  cases op <;> first
    | rfl
    | (simp only [Bool.not_true, Bool.false_eq_true, if_false]
       split
       · rcases h with h | h
         · exact absurd ⟨rfl, rfl⟩ h
         · cases x <;> cases y <;> first | rfl | (simp [isC] at h)
       · rcases h2 with h2 | h2
         · exact absurd rfl (h2 _)
         · simp [h2]
       · rfl)

theorem eq_nilI (m : Nat) {t : TypeId} {ms : Array (String × TypeId)} (hu : P.underlying t = some (.interface ms)) : (Op.equalIn (m + 1) t .nilIface .nilIface).run P w = .ok true w := by
  simp [Op.equalIn, run_underlying hu]

theorem binA_run {op : BinOp} {t : TypeId} {x y : Operand} {p q : AV} {u v : Value} {c : AV} (hp : Rep w g p u) (hq : Rep w g q v) (h : binA P op t (isC x || isC y) p q = some c) :
    ∃ z, (do eqGuard op t x y u v; Go.binOp op t u v : Sem Value).run P w = .ok z w ∧ Rep w g c z := by
  have key : (∀ k n k' n', ¬ (p = .int k n ∧ q = .int k' n')) → (∀ s s', ¬ (p = .str s ∧ q = .str s')) →
      (match op with
        | .eql => (eqA P t (isC x || isC y) p q).bind fun b => some (AV.bool b)
        | .neq => (eqA P t (isC x || isC y) p q).bind fun b => some (AV.bool (!b))
        | _ => none) = some c → ∃ z, (do eqGuard op t x y u v; Go.binOp op t u v : Sem Value).run P w = .ok z w ∧ Rep w g c z := by
    intro n1 n2 h
    have h0 : op = .eql ∨ op = .neq := by cases op <;> simp_all
    have heq : ∃ b, eqA P t (isC x || isC y) p q = some b ∧ c = .bool (if op = .eql then b else !b) := by
      rcases h0 with rfl | rfl
      · simp only [Option.bind_eq_some_iff, Option.some.injEq] at h
        obtain ⟨b, hb, rfl⟩ := h; exact ⟨b, hb, by simp⟩
      · simp only [Option.bind_eq_some_iff, Option.some.injEq] at h
        obtain ⟨b, hb, rfl⟩ := h; exact ⟨b, hb, by simp⟩
    obtain ⟨b, hb, rfl⟩ := heq
    have hE : (Op.equal t u v).run P w = .ok b w ∧ (eqGuard op t x y u v).run P w = .ok () w := by
      unfold eqA at hb
      split at hb
      · cases hp; cases hq
        split at hb
        · rename_i ms hu
          cases hc : (isC x || isC y) with
          | false => rw [hc] at hb; simp at hb
          | true =>
            rw [hc] at hb
            simp only [cond_true, Option.some.injEq] at hb
            subst hb
            refine ⟨?_, eqGuard_quiet (.inr hc) (.inl (by simp))⟩
            exact eq_nilI 9999 hu
        · cases hb
      · rename_i xs
        cases hg : P.eqGuardType P.depth t with
        | true => rw [hg] at hb; cases hb
        | false =>
        rw [hg, cond_false] at hb
        refine ⟨eqT_run 8 t _ q u v b Op.maxDepth (by unfold Op.maxDepth; omega) hp hq hb, eqGuard_quiet (.inl ?_) (.inr hg)⟩
        rintro ⟨rfl, rfl⟩
        cases hp
      · rename_i h2 h1
        refine ⟨eqT_run 8 t p q u v b Op.maxDepth (by unfold Op.maxDepth; omega) hp hq hb, eqGuard_quiet (.inl ?_) (.inl ?_)⟩
        · rintro ⟨rfl, rfl⟩
          cases hp; cases hq
          exact h1 rfl rfl
        · rintro cc rfl
          cases hp
          exact h2 _ rfl
    obtain ⟨hE, hG⟩ := hE
    refine ⟨.bool (if op = .eql then b else !b), ?_, .bool _⟩
    have hB : (Go.binOp op t u v).run P w = .ok (.bool (if op = .eql then b else !b)) w := by
      rcases h0 with rfl | rfl
      · have e : Go.binOp .eql t u v = (do pure (.bool (← Op.equal t u v)) : Sem Value) := by
          cases hp <;> cases hq <;> first | rfl | exact absurd ⟨rfl, rfl⟩ (n1 _ _ _ _) | exact absurd ⟨rfl, rfl⟩ (n2 _ _)
        rw [e]; simp [hE]
      · have e : Go.binOp .neq t u v = (do pure (.bool (!(← Op.equal t u v))) : Sem Value) := by
          cases hp <;> cases hq <;> first | rfl | exact absurd ⟨rfl, rfl⟩ (n1 _ _ _ _) | exact absurd ⟨rfl, rfl⟩ (n2 _ _)
        rw [e]; simp [hE]
    simp [hG, hB]
  by_cases hi : ∃ k n k' n', p = .int k n ∧ q = .int k' n'
  · obtain ⟨k, n, k', n', rfl, rfl⟩ := hi
    cases hp; cases hq
    have hG : (eqGuard op t x y (.int k n) (.int k' n')).run P w = .ok () w := eqGuard_quiet (.inl (by simp)) (by simp)
    by_cases h1 : op = .shl
    · subst h1
      obtain ⟨z, hz, hr⟩ := shI_run (P := P) (w := w) (g := g) (yk := k') (show shI .shl k n n' = some c from h)
      exact ⟨z, by simp [hG]; exact hz, hr⟩
    by_cases h2 : op = .shr
    · subst h2
      obtain ⟨z, hz, hr⟩ := shI_run (P := P) (w := w) (g := g) (yk := k') (show shI .shr k n n' = some c from h)
      exact ⟨z, by simp [hG]; exact hz, hr⟩
    have h' : (bif decide (k = k') then arI op k n n' else none) = some c := by
      cases op <;> first | exact h | exact absurd rfl h1 | exact absurd rfl h2
    by_cases e : k = k'
    · subst e
      simp only [decide_true, cond_true] at h'
      obtain ⟨z, hz, hr⟩ := arI_run (P := P) (w := w) (g := g) h' h1 h2
      exact ⟨z, by simp [hG, binOp_int_ty]; exact hz, hr⟩
    · simp [e] at h'
  by_cases hi2 : ∃ s s', p = .str s ∧ q = .str s'
  · obtain ⟨s, s', rfl, rfl⟩ := hi2
    cases hp; cases hq
    have hG : (eqGuard op t x y (.string s) (.string s')).run P w = .ok () w := eqGuard_quiet (.inl (by simp)) (by simp)
    obtain ⟨z, hz, hr⟩ := stS_run (P := P) (w := w) (g := g) (show stS op s s' = some c from h)
    exact ⟨z, by simp [hG, binOp_str_ty]; exact hz, hr⟩
  refine key (fun k n k' n' e => hi ⟨k, n, k', n', e⟩) (fun s s' e => hi2 ⟨s, s', e⟩) ?_
  unfold binA at h
  split at h
  · exact absurd ⟨_, _, _, _, rfl, rfl⟩ hi
  · exact absurd ⟨_, _, rfl, rfl⟩ hi2
  · cases op <;> exact h

theorem unA_run {op : UnOp} {p : AV} {u : Value} {c : AV} (hp : Rep w g p u) (h : unA op p = some c) : ∃ z, (Op.unary op u).run P w = .ok z w ∧ Rep w g c z := by
  unfold unA at h
  split at h
  · cases hp
    simp only [arI, Option.some.injEq] at h
    subst h
    exact ⟨_, rfl, .int _ _⟩
  · cases hp
    rename_i k n
    simp only [arI, Option.some.injEq] at h
    subst h
    refine ⟨_, ?_, .int _ _⟩
    have e : (bif k.signed then (-1 : Int) else k.max) = if k.signed then -1 else k.max := by cases k.signed <;> rfl
    rw [e]; rfl
  · cases hp
    simp only [Option.some.injEq] at h
    subst h
    exact ⟨_, rfl, .bool _⟩
  · cases h

theorem good_binOp {op : BinOp} {t yt : TypeId} {x y : Operand} (ho : o.op = .binOp op t x y yt) (hs : SR nt st a w g lm)
    (h : ((st.rv x).bind fun p => (st.rv y).bind fun q => (binA P op t (isC x || isC y) p q).bind fun c => K (.v c) st) = some r) : Good P nt o a w g K r := by
  simp only [Option.bind_eq_some_iff] at h
  obtain ⟨p, hp, q, hq, c, hc, hK⟩ := h
  obtain ⟨g1, s1, t1, r1⟩ := rv_ok hs hp
  obtain ⟨g2, s2, t2, r2⟩ := rv_ok s1 hq
  obtain ⟨z, hz, hr⟩ := binA_run (r1.mono t2.le) r2 hc
  refine Good.pre (t1.trans t2) (Good.pure s2 hK (v := z) ?_ hr)
  simp only [execOp, ho]
  exact run_pureV hz

theorem good_unOp {op : UnOp} {t : TypeId} {x : Operand} (ho : o.op = .unOp op t x) (hs : SR nt st a w g lm)
    (h : ((st.rv x).bind fun p => (unA op p).bind fun c => K (.v c) st) = some r) : Good P nt o a w g K r := by
  simp only [Option.bind_eq_some_iff] at h
  obtain ⟨p, hp, c, hc, hK⟩ := h
  obtain ⟨g1, s1, t1, r1⟩ := rv_ok hs hp
  obtain ⟨z, hz, hr⟩ := unA_run r1 hc
  refine Good.pre t1 (Good.pure s1 hK (v := z) ?_ hr)
  simp only [execOp, ho]
  exact run_pureV hz

/-! ### 2. move, assign, pick -/
theorem good_copy {x : Operand} (hs : SR nt st a w g lm) (he : (execOp a.eval o).run P w = .ok (.value (a.eval x)) w) (h : K (st.rd x) st = some r) : Good P nt o a w g K r := by
  obtain ⟨g1, s1, t1, r1⟩ := rd_ok hs x
  exact Good.pre t1 (Good.pure s1 h he (r1 _))

theorem good_take {j : Tmp} (hs : SR nt st a w g lm) (he : (execOp a.eval o).run P w = .ok (.value (a.eval (.tmp j))) w) (h : K (st.t j) { st with t := upd st.t j .un } = some r) : Good P nt o a w g K r := by
  obtain ⟨s1, r1⟩ := hs.take j
  exact ⟨_, _, h, .value he s1 (rel_Tr w g rfl) r1⟩

theorem good_mv {x : Operand} {tk : Bool} (hs : SR nt st a w g lm) (he : (execOp a.eval o).run P w = .ok (.value (a.eval x)) w)
    (h : (bif tk then
        (match x with
        | .tmp j => K (st.t j) { st with t := upd st.t j .un }
        | _ => none)
      else
        (match x with
        | .const c => K (lvC P o.type c) st
        | x => K (st.rd x) st)) = some r) : Good P nt o a w g K r := by
  cases tk with
  | true =>
    simp only [cond_true] at h
    cases x <;> simp only [reduceCtorEq] at h
    exact good_take hs he h
  | false =>
    simp only [cond_false] at h
    cases x with
    | const c => exact Good.pure hs h he lvC_rep
    | tmp j => exact good_copy hs he h
    | func f => exact good_copy hs he h
    | global gl => exact good_copy hs he h

theorem toB_rep {lm : Nat → Nat} {nl : Nat} {hd : Nat → Hd} {x : LV} {v : Value} {b : Bool} (hr : RepV w g lm nl hd x v) (h : x.toB = some b) : v = .bool b := by
  unfold LV.toB at h
  split at h
  · simp only [Option.some.injEq] at h
    subst h
    have : Rep w g (.bool _) v := hr
    cases this; rfl
  · cases h

theorem good_pick {c x y : Operand} (ho : o.op = .pick c x y) (hs : SR nt st a w g lm) (h : ((st.rb c).bind fun t => bif t then K (st.rd x) st else K (st.rd y) st) = some r) : Good P nt o a w g K r := by
  simp only [Option.bind_eq_some_iff] at h
  obtain ⟨b, hb, h⟩ := h
  obtain ⟨g1, s1, t1, r1⟩ := rd_ok hs c
  have e := toB_rep (r1 .res) hb
  refine Good.pre t1 ?_
  cases b with
  | true => exact good_copy s1 (by simp [execOp, ho, e, asBool]) h
  | false => exact good_copy s1 (by simp [execOp, ho, e, asBool]) h

/-! ### 3. Functions, interfaces, tuples, nil -/
theorem good_makeInterface {t : TypeId} {x : Operand} (ho : o.op = .makeInterface t x) (hs : SR nt st a w g lm)
    (h : ((P.underlying t).bind fun d => (st.rv x).bind fun p => match d with | .interface _ => none | _ => K (.v (.ifc t p)) st) = some r) : Good P nt o a w g K r := by
  simp only [Option.bind_eq_some_iff] at h
  obtain ⟨d, hd, p, hp, h⟩ := h
  obtain ⟨g1, s1, t1, r1⟩ := rv_ok hs hp
  have hn : (∀ ms, d ≠ .interface ms) ∧ K (.v (.ifc t p)) st = some r := by
    cases d <;> first | exact ⟨by simp, h⟩ | cases h
  refine Good.pre t1 (Good.pure s1 hn.2 (v := .iface t (a.eval x)) ?_ (Rep.ifc t p _ r1))
  have : (Instr.makeInterface t (a.eval x)).run P w = .ok (.iface t (a.eval x)) w := by
    have := hn.1
    cases d <;> simp_all [Instr.makeInterface, run_underlying hd]
  simp only [execOp, ho]
  exact run_pureV this

theorem good_makeFunc {f : FuncId} {first captured : Array Operand} (ho : o.op = .makeFunc (.func f) first captured) (hs : SR nt st a w g lm)
    (h : (rvs st first.toList fun fs => rvs st captured.toList fun caps => K (.v (.fn f fs caps)) st) = some r) : Good P nt o a w g K r := by
  obtain ⟨fs, h, hl1, g1, s1, t1, r1⟩ := rvs_ok _ _ _ hs h
  obtain ⟨caps, h, hl2, g2, s2, t2, r2⟩ := rvs_ok _ _ _ s1 h
  refine Good.pre (t1.trans t2) (Good.pure s2 h (v := .func (.func f) (first.map a.eval) (captured.map a.eval)) ?_ ?_)
  · simp only [execOp, ho]; exact run_pureV rfl
  · have e1 : ∀ (j : Nat) (c : AV), fs[j]? = some c → ∃ p, first[j]? = some p ∧ Rep w g2 c (a.eval p) := fun j c hj => by
      have hlt : j < first.toList.length := by rw [← hl1]; exact (List.getElem?_eq_some_iff.1 hj).1
      exact ⟨first.toList[j], by simp, (r1 j c _ hj (List.getElem?_eq_getElem hlt)).mono t2.le⟩
    have e2 : ∀ (j : Nat) (c : AV), caps[j]? = some c → ∃ p, captured[j]? = some p ∧ Rep w g2 c (a.eval p) := fun j c hj => by
      have hlt : j < captured.toList.length := by rw [← hl2]; exact (List.getElem?_eq_some_iff.1 hj).1
      exact ⟨captured.toList[j], by simp, r2 j c _ hj (List.getElem?_eq_getElem hlt)⟩
    refine Rep.fn f fs caps _ _ (by simp [hl1]) (by simp [hl2]) (fun j => a.eval (first.getD j default)) (fun j => a.eval (captured.getD j default)) ?_ ?_ ?_ ?_
    · intro j c hj; obtain ⟨p, hp, _⟩ := e1 j c hj; simp [hp, Array.getD_eq_getD_getElem?]
    · intro j c hj; obtain ⟨p, hp, hr⟩ := e1 j c hj; simpa [hp, Array.getD_eq_getD_getElem?] using hr
    · intro j c hj; obtain ⟨p, hp, _⟩ := e2 j c hj; simp [hp, Array.getD_eq_getD_getElem?]
    · intro j c hj; obtain ⟨p, hp, hr⟩ := e2 j c hj; simpa [hp, Array.getD_eq_getD_getElem?] using hr

theorem good_extract {x : Operand} {j : Nat} (ho : o.op = .extract x j) (hs : SR nt st a w g lm) (h : ((exL (st.rd x) j).bind fun c => K (.v c) st) = some r) : Good P nt o a w g K r := by
  simp only [Option.bind_eq_some_iff] at h
  obtain ⟨c, hc, h⟩ := h
  obtain ⟨g1, s1, t1, r1⟩ := rd_ok hs x
  refine Good.pre t1 ?_
  unfold exL at hc
  split at hc
  · rename_i xs hx
    have := r1 .res
    rw [hx] at this
    obtain ⟨vs, e, hz, hr⟩ := this
    obtain ⟨u, hu, hr⟩ := hr j c hc
    refine Good.pure s1 h (v := u) ?_ hr
    have : (Instr.extract (a.eval x) j).run P w = .ok u w := by simp [Instr.extract, e, hu]
    simp only [execOp, ho]
    exact run_pureV this
  · cases hc

theorem good_nilCheck {x : Operand} (ho : o.op = .nilCheck x) (hs : SR nt st a w g lm)
    (h : (match st.rd x with
      | .lp b off => K (.lp b off) st
      | .v p => (nckA p).bind fun q => K (.v q) st
      | _ => none) = some r) : Good P nt o a w g K r := by
  obtain ⟨g1, s1, t1, r1⟩ := rd_ok hs x
  refine Good.pre t1 ?_
  cases hx : st.rd x <;> rw [hx] at h <;> simp only [reduceCtorEq] at h
  · rename_i p
    have hr : Rep w g1 p (a.eval x) := by have := r1 .res; rw [hx] at this; exact this
    simp only [Option.bind_eq_some_iff] at h
    obtain ⟨q, hq, h⟩ := h
    unfold nckA at hq
    split at hq <;> first | (cases hq; done) | (simp only [Option.some.injEq] at hq; subst hq)
    all_goals
      refine Good.pure s1 h (v := a.eval x) ?_ hr
      simp only [execOp, ho]
      generalize a.eval x = u at hr
      cases hr; rfl
  · have hr := r1 .res; rw [hx] at hr
    refine Good.pure s1 h (v := a.eval x) ?_ hr
    simp [execOp, ho, hr.2]

end Go.Proofs.Am
