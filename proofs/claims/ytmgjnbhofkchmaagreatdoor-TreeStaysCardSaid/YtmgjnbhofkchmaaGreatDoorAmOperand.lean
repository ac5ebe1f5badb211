/-
  Operands.
-/
import Derived.Test.YtmgjnbhofkchmaaGreatDoorAmRead

namespace Go.Proofs.Am
open Go

theorem avC_rep {w : World} {g : Gh} {c : Value} {x : AV} (h : avC c = some x) : Rep w g x c := by
  unfold avC at h
  split at h <;> first | (simp only [Option.some.injEq] at h; subst h) | cases h
  all_goals first | exact .int _ _ | exact .bool _ | exact .str _ | exact .nilI | exact .nilP | exact .nilF | exact .nilM | exact .imm0 _ _

theorem lvC_rep {P : Program} {t : TypeId} {w : World} {g : Gh} {lm : Nat → Nat} {nl : Nat} {c : Value} : RepV w g lm nl .res (lvC P t c) c := by
  unfold lvC
  split
  · exact ⟨by simp, .emp _⟩
  · cases h : avC c with
    | none => exact trivial
    | some x => exact avC_rep (w := w) (g := g) h

theorem avC_one {c : Value} {x : AV} (h : avC c = some x) : x.one = true := by
  unfold avC at h
  split at h <;> first | (simp only [Option.some.injEq] at h; subst h; rfl) | cases h

/-- What is owned by a temporary is sealed: it may be copied. -/
theorem SR.cpy {nt : Nat} {st : St} {a : Act} {w : World} {g : Gh} {lm : Nat → Nat} (h : SR nt st a w g lm) (j : Nat) {x : AV} (hx : (st.t j).cpy = some x) :
    ∃ g', SR nt st a w g' lm ∧ Qt w g w g' ∧ Rep w g' x (a.tmps.getD j undef) := by
  cases hj : st.t j with
  | v b =>
    rw [hj] at hx
    simp only [LV.cpy, Option.some.injEq] at hx
    subst hx
    have := h.tm j
    rw [hj] at this
    exact ⟨g, h, Qt.refl w g, this⟩
  | ow n xs =>
    rw [hj] at hx
    simp only [LV.cpy, Option.some.injEq] at hx
    subst hx
    have := h.tm j
    rw [hj] at this
    obtain ⟨hne, ho⟩ := this
    obtain ⟨g', wf', hn, htr, hkp, ho', hrep⟩ := ho.cp h.wf hne
    exact ⟨g', h.reseal wf' hn j (fun hd hd' => hkp hd (hd' 0)) (by rw [hj]; exact ⟨hne, ho'⟩), ⟨htr, fun c => hkp _ (by simp), fun c => hkp _ (by simp)⟩, hrep⟩
  | ag cs =>
    rw [hj] at hx
    simp only [LV.cpy, Option.bind_eq_some_iff, Option.some.injEq] at hx
    obtain ⟨r, hr, rfl⟩ := hx
    have ht := h.tm j
    rw [hj] at ht
    obtain ⟨vs, e, hs, _⟩ := ht
    have F := SR.famTmp (nt := nt) (lm := lm) (w := w) (a := a) (st := st) j cs vs hj e
    obtain ⟨hlen, g', h', htr, hall⟩ := F.cpyL cs 0 r g (fun i y hi => by
      simp only [Nat.zero_add]
      exact ⟨(List.getElem?_eq_some_iff.1 hi).1, by simp [List.getD_eq_getElem?_getD, hi]⟩) h hr
    refine ⟨g', h', htr, ?_⟩
    rw [e]
    refine .agg r vs (by rw [hs, hlen]) (fun k => vs.getD k undef) (fun k c hk => ?_) (fun k c hk => by simpa using (hall k c hk).1)
    have hk' : k < vs.size := by rw [hs, ← hlen]; exact (List.getElem?_eq_some_iff.1 hk).1
    exact ⟨by simp [Array.getD_eq_getD_getElem?, hk'], (hall k c hk).2⟩
  | _ => rw [hj] at hx; simp [LV.cpy] at hx

theorem rv_ok {nt : Nat} {st : St} {a : Act} {w : World} {g : Gh} {lm : Nat → Nat} (h : SR nt st a w g lm) {o : Operand} {x : AV} (hx : st.rv o = some x) :
    ∃ g', SR nt st a w g' lm ∧ Qt w g w g' ∧ Rep w g' x (a.eval o) := by
  cases o with
  | tmp j => exact h.cpy j hx
  | const c => exact ⟨g, h, Qt.refl w g, avC_rep hx⟩
  | func f =>
    simp only [St.rv, Option.some.injEq] at hx
    subst hx
    exact ⟨g, h, Qt.refl w g, .fn f [] [] #[] #[] rfl rfl (fun _ => undef) (fun _ => undef) (by simp) (by simp) (by simp) (by simp)⟩
  | global _ => cases hx

theorem rvs_ok {R : Type} {nt : Nat} {st : St} {a : Act} {w : World} {lm : Nat → Nat} {r : R} :
    ∀ (l : List Operand) (g : Gh) (k : List AV → Option R), SR nt st a w g lm → rvs st l k = some r →
      ∃ as, k as = some r ∧ as.length = l.length ∧ ∃ g', SR nt st a w g' lm ∧ Qt w g w g' ∧ ∀ (i : Nat) (x : AV) (o : Operand), as[i]? = some x → l[i]? = some o → Rep w g' x (a.eval o)
  | [], g, k, h, hk => ⟨[], hk, rfl, g, h, Qt.refl w g, by simp⟩
  | o :: l, g, k, h, hk => by
    simp only [rvs, Option.bind_eq_some_iff] at hk
    obtain ⟨x, hx, hk⟩ := hk
    obtain ⟨g1, h1, t1, r1⟩ := rv_ok h hx
    obtain ⟨as, hk, hl, g2, h2, t2, r2⟩ := rvs_ok l g1 _ h1 hk
    refine ⟨x :: as, hk, by simp [hl], g2, h2, t1.trans t2, fun i y p hi hp => ?_⟩
    cases i with
    | zero =>
      simp only [List.getElem?_cons_zero, Option.some.injEq] at hi hp
      subst hi; subst hp
      exact r1.mono t2.le
    | succ i =>
      simp only [List.getElem?_cons_succ] at hi hp
      exact r2 i y p hi hp

theorem rvp_ok {R : Type} {nt : Nat} {st : St} {a : Act} {w : World} {lm : Nat → Nat} {r : R} :
    ∀ (l : List (Nat × Operand)) (g : Gh) (k : List (Nat × AV) → Option R), SR nt st a w g lm → rvp st l k = some r →
      ∃ as, k as = some r ∧ as.length = l.length ∧ ∃ g', SR nt st a w g' lm ∧ Qt w g w g' ∧
        ∀ (i : Nat) (x : Nat × AV) (o : Nat × Operand), as[i]? = some x → l[i]? = some o → x.1 = o.1 ∧ Rep w g' x.2 (a.eval o.2)
  | [], g, k, h, hk => ⟨[], hk, rfl, g, h, Qt.refl w g, by simp⟩
  | (n, o) :: l, g, k, h, hk => by
    simp only [rvp, Option.bind_eq_some_iff] at hk
    obtain ⟨x, hx, hk⟩ := hk
    obtain ⟨g1, h1, t1, r1⟩ := rv_ok h hx
    obtain ⟨as, hk, hl, g2, h2, t2, r2⟩ := rvp_ok l g1 _ h1 hk
    refine ⟨(n, x) :: as, hk, by simp [hl], g2, h2, t1.trans t2, fun i y p hi hp => ?_⟩
    cases i with
    | zero =>
      simp only [List.getElem?_cons_zero, Option.some.injEq] at hi hp
      subst hi; subst hp
      exact ⟨rfl, r1.mono t2.le⟩
    | succ i =>
      simp only [List.getElem?_cons_succ] at hi hp
      exact r2 i y p hi hp

/-- What holds without an owner. -/
def RepF (w : World) (g : Gh) (lm : Nat → Nat) (nl : Nat) (x : LV) (v : Value) : Prop := ∀ hd, RepV w g lm nl hd x v
theorem RepF.mono {w w' : World} {g g' : Gh} {lm : Nat → Nat} {nl : Nat} {x : LV} {v : Value} (r : RepF w g lm nl x v) (h : Le w g w' g') : RepF w' g' lm nl x v := by
  intro hd
  have r0 := r (fun _ => .oth)
  cases x <;> simp only [RepV] at r0 ⊢ <;> try exact r0
  · exact r0.mono h
  · exact absurd rfl r0.1
  · obtain ⟨vs, e, hs, hr⟩ := r0
    refine ⟨vs, e, hs, fun j a hj => ?_⟩
    obtain ⟨u, hu, hr⟩ := hr j a hj
    exact ⟨u, hu, hr.mono h⟩
  · obtain ⟨vs, e, hs, hr⟩ := r0
    refine ⟨vs, e, hs, fun j x hj => ?_⟩
    obtain ⟨u, hu, hr⟩ := hr j x hj
    refine ⟨u, hu, ?_⟩
    cases x <;> simp only [RepC] at hr ⊢
    · exact ⟨hr.1.mono h, hr.2⟩
    · exact absurd rfl hr.1

/-- A copy of a cell. -/
theorem Fam.cp1 {w : World} {S : Gh → Prop} {n : Nat} {x : Nat → LV} {u : Nat → Value} {hd : Nat → Hd} (F : Fam w S n x u hd) {k : Nat} (hk : k < n) {g : Gh} (hS : S g) :
    ∃ g', S g' ∧ Qt w g w g' ∧ ∀ hd', RepC w g' hd' (x k).cp1 (u k) := by
  have hr := F.rep k hk g hS
  cases hx : x k with
  | un => exact ⟨g, hS, Qt.refl w g, fun _ => trivial⟩
  | v b => rw [hx] at hr; exact ⟨g, hS, Qt.refl w g, fun _ => hr⟩
  | ow m xs =>
    obtain ⟨g', h1, h2, h3, h4⟩ := F.cpy1 hk hS (a := .imm xs) (by rw [hx]; rfl)
    exact ⟨g', h1, h2, fun _ => ⟨h3, h4⟩⟩
  | _ => rw [hx] at hr; exact hr.elim

theorem Fam.cpL {w : World} {S : Gh → Prop} {n : Nat} {x : Nat → LV} {u : Nat → Value} {hd : Nat → Hd} (F : Fam w S n x u hd) :
    ∀ (l : List LV) (o : Nat) (g : Gh), (∀ i y, l[i]? = some y → o + i < n ∧ x (o + i) = y) → S g →
      (Am.cpL l).length = l.length ∧ ∃ g', S g' ∧ Qt w g w g' ∧ ∀ i y, (Am.cpL l)[i]? = some y → ∀ hd', RepC w g' hd' y (u (o + i))
  | [], o, g, _, hS => ⟨rfl, g, hS, Qt.refl w g, fun i a hi => by simp [Am.cpL] at hi⟩
  | y :: l, o, g, hx, hS => by
    have h0 := hx 0 y (by simp)
    simp only [Nat.add_zero] at h0
    obtain ⟨g1, hS1, ht1, hrep⟩ := F.cp1 h0.1 hS
    obtain ⟨hlen, g2, hS2, ht2, hall⟩ := Fam.cpL F l (o + 1) g1 (fun i z hi => by
      have := hx (i + 1) z (by simpa using hi)
      rw [show o + 1 + i = o + (i + 1) by omega]; exact this) hS1
    refine ⟨by simp [Am.cpL, hlen], g2, hS2, ht1.trans ht2, fun i z hi => ?_⟩
    cases i with
    | zero =>
      simp only [Am.cpL, List.getElem?_cons_zero, Option.some.injEq] at hi
      subst hi
      rw [h0.2] at hrep
      intro hd'
      have := hrep hd'
      cases hy : y.cp1 with
      | un => exact trivial
      | v b => rw [hy] at this; exact ⟨by simpa using this.1.mono ht2.le, this.2⟩
      | ow m xs => cases y <;> simp [LV.cp1] at hy
      | _ => rw [hy] at this; exact this.elim
    | succ i =>
      simp only [Am.cpL, List.getElem?_cons_succ] at hi
      have := hall i z hi
      rw [show o + (i + 1) = o + 1 + i by omega]; exact this

theorem rd_ok {nt : Nat} {st : St} {a : Act} {w : World} {g : Gh} {lm : Nat → Nat} (h : SR nt st a w g lm) (o : Operand) :
    ∃ g', SR nt st a w g' lm ∧ Qt w g w g' ∧ RepF w g' lm st.nl (st.rd o) (a.eval o) := by
  cases o with
  | tmp j =>
    have hj := h.tm j
    cases hx : st.t j with
    | ow n xs =>
      obtain ⟨g', h1, h2, h3⟩ := h.cpy j (x := .imm xs) (by rw [hx]; rfl)
      exact ⟨g', h1, h2, fun _ => by simp only [St.rd, hx, LV.cp]; exact h3⟩
    | ag cs =>
      rw [hx] at hj
      obtain ⟨vs, e, hs, _⟩ := hj
      have F := SR.famTmp (nt := nt) (lm := lm) (w := w) (a := a) (st := st) j cs vs hx e
      obtain ⟨hlen, g', h', htr, hall⟩ := F.cpL cs 0 g (fun i y hi => by
        simp only [Nat.zero_add]
        exact ⟨(List.getElem?_eq_some_iff.1 hi).1, by simp [List.getD_eq_getElem?_getD, hi]⟩) h
      refine ⟨g', h', htr, fun hd => ?_⟩
      simp only [St.rd, hx, LV.cp, RepV]
      refine ⟨vs, e, by rw [hs, hlen], fun k y hk => ?_⟩
      have hk' : k < vs.size := by rw [hs, ← hlen]; exact (List.getElem?_eq_some_iff.1 hk).1
      exact ⟨vs.getD k undef, by simp [Array.getD_eq_getD_getElem?, hk'], by simpa using hall k y hk (hd k)⟩
    | un => exact ⟨g, h, Qt.refl w g, fun _ => by simp only [St.rd, hx, LV.cp]; exact trivial⟩
    | ud => rw [hx] at hj; exact ⟨g, h, Qt.refl w g, fun _ => by simp only [St.rd, hx, LV.cp]; exact hj⟩
    | v b => rw [hx] at hj; exact ⟨g, h, Qt.refl w g, fun _ => by simp only [St.rd, hx, LV.cp]; exact hj⟩
    | lp i off => rw [hx] at hj; exact ⟨g, h, Qt.refl w g, fun _ => by simp only [St.rd, hx, LV.cp]; exact hj⟩
    | tup xs => rw [hx] at hj; exact ⟨g, h, Qt.refl w g, fun _ => by simp only [St.rd, hx, LV.cp]; exact hj⟩
  | const c =>
    refine ⟨g, h, Qt.refl w g, fun _ => ?_⟩
    simp only [St.rd]
    cases hc : avC c with
    | none => exact trivial
    | some x => exact avC_rep (w := w) (g := g) hc
  | func f => exact ⟨g, h, Qt.refl w g, fun _ => .fn f [] [] #[] #[] rfl rfl (fun _ => undef) (fun _ => undef) (by simp) (by simp) (by simp) (by simp)⟩
  | global _ => exact ⟨g, h, Qt.refl w g, fun _ => trivial⟩

end Go.Proofs.Am
