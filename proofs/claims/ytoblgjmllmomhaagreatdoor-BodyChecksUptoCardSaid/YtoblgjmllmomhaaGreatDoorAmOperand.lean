/-
  Operands.
-/
import Derived.Test.YtoblgjmllmomhaaGreatDoorAmState
namespace Go.Proofs.Am
open Go
theorem upd_self {α : Type} (t : Nat -> α) (j : Nat) : upd t j (t j) = t := by
 funext i
 by_cases e : i = j
 ·subst e; rw [upd_same]
 ·rw [upd_ne _ _ e]
theorem Own.cp {w : World} {g : Gh} {hd : Hd} {n : Nat} {xs : List (List AV)} {v : Value} (wf : Wf w g) (hne : hd ≠ .oth) (r : Own w g hd n xs v) :
  ∃ g', Wf w g' /\ g'.nb = g.nb /\ Tr w g w g' /\ (∀ hd', hd' ≠ hd -> Kp w g w g' hd') /\ Own w g' hd n xs v /\ Rep w g' (.imm xs) v := by
 cases r with
 | emp a => exact ⟨g, wf, rfl, Tr.refl w g, fun _ _ => Kp.refl w g _, .emp a, .imm0 a 0⟩
 | blk _ b cap c e fz f hl hn hx hb hf hz ho hs hc hr =>
  have hle : xs.length * n <= c.size := by rw [hz]; exact Nat.mul_le_mul_right n hl
  have L := sea_Le w g b (xs.length * n)
  refine ⟨gSeal g b (xs.length * n), sea_Wf wf b _ (by rw [ho]; exact hne) c.size (bsz_of hb) hle, rfl, sea_Tr w g b _ (by rw [ho]; exact hne), fun hd' hd'ne => sea_Kp w g b _ (by rw [ho]; exact hd'ne), ?_, ?_⟩
  ·refine .blk xs b cap c e fz f hl hn hx hb hf hz ho ?_ hc (fun k x j a hk hj => (hr k x j a hk hj).mono L)
   simp only [gSeal, upd_same]; omega
  ·have hcell : ∀ (k : Nat) (x : List AV) (j : Nat) (a : AV), xs[k]? = some x -> x[j]? = some a -> k * n + j < xs.length * n := by
    intro k x j a hk hj
    have h1 : k < xs.length := (List.getElem?_eq_some_iff.1 hk).1
    have h2 : j < n := by rw [← hx k x hk]; exact (List.getElem?_eq_some_iff.1 hj).1
    have h3 : (k + 1) * n <= xs.length * n := Nat.mul_le_mul_right n h1
    have h4 : (k + 1) * n = k * n + n := Nat.succ_mul k n
    omega
   refine Rep.imm xs n b 0 cap f hl hx (fun k x j a hk hj => ?_) (fun k x j a hk hj => (hr k x j a hk hj).mono L)
   have h5 := hcell k x j a hk hj
   obtain ⟨h6, h7⟩ := hc k x j a hk hj
   refine ⟨?_, ?_, h7⟩
   ·simp only [gSeal, upd_same]; omega
   ·rw [Cl_of hb]; simpa using h6
structure Fam (w : World) (S : Gh -> Prop) (n : Nat) (x : Nat -> LV) (u : Nat -> Value) (hd : Nat -> Hd) : Prop where
 rep : ∀ k, k < n -> ∀ g, S g -> RepC w g (hd k) (x k) (u k)
 wf : ∀ g, S g -> Wf w g
 nr : ∀ k c, hd k ≠ .res c /\ hd k ≠ .arg c /\ hd k ≠ .oth
 step : ∀ k, k < n -> ∀ g g', S g -> Wf w g' -> g'.nb = g.nb -> (∀ hd', hd' ≠ hd k -> Kp w g w g' hd') -> RepC w g' (hd k) (x k) (u k) -> S g'
theorem Fam.cpy1 {w : World} {S : Gh -> Prop} {n : Nat} {x : Nat -> LV} {u : Nat -> Value} {hd : Nat -> Hd} (F : Fam w S n x u hd) {k : Nat} (hk : k < n) {g : Gh} (hS : S g) {a : AV} (h : (x k).cpy1 = some a) :
  ∃ g', S g' /\ Qt w g w g' /\ Rep w g' a (u k) /\ a.one = true := by
 have hr := F.rep k hk g hS
 cases hx : x k with
 | v b =>
  rw [hx] at h hr
  simp only [LV.cpy1, Option.some.injEq] at h
  subst h
  exact ⟨g, hS, Qt.refl w g, hr.1, hr.2⟩
 | ow m xs =>
  rw [hx] at h hr
  simp only [LV.cpy1, Option.some.injEq] at h
  subst h
  obtain ⟨hne, ho⟩ := hr
  obtain ⟨g', wf', hn, htr, hkp, ho', hrep⟩ := ho.cp (F.wf g hS) hne
  exact ⟨g', F.step k hk g g' hS wf' hn hkp (by rw [hx]; exact ⟨hne, ho'⟩), ⟨htr, fun c => hkp _ (Ne.symm (F.nr k c).1), fun c => hkp _ (Ne.symm (F.nr k c).2.1)⟩, hrep, rfl⟩
 | _ => rw [hx] at h; simp [LV.cpy1] at h
theorem Fam.cpyL {w : World} {S : Gh -> Prop} {n : Nat} {x : Nat -> LV} {u : Nat -> Value} {hd : Nat -> Hd} (F : Fam w S n x u hd) :
  ∀ (l : List LV) (o : Nat) (as : List AV) (g : Gh), (∀ i y, l[i]? = some y -> o + i < n /\ x (o + i) = y) -> S g -> Am.cpyL l = some as ->
   as.length = l.length /\ ∃ g', S g' /\ Qt w g w g' /\ ∀ i a, as[i]? = some a -> Rep w g' a (u (o + i)) /\ a.one = true
 | [], o, as, g, _, hS, h => by
  simp only [Am.cpyL, Option.some.injEq] at h
  subst h
  exact ⟨rfl, g, hS, Qt.refl w g, fun i a hi => by simp at hi⟩
 | y :: l, o, as, g, hx, hS, h => by
  simp only [Am.cpyL, Option.bind_eq_some_iff] at h
  obtain ⟨b, hb, r, hr, h⟩ := h
  simp only [Option.some.injEq] at h
  subst h
  have h0 := hx 0 y (by simp)
  simp only [Nat.add_zero] at h0
  rw [← h0.2] at hb
  obtain ⟨g1, hS1, ht1, hrep, hone⟩ := F.cpy1 h0.1 hS hb
  obtain ⟨hlen, g2, hS2, ht2, hall⟩ := Fam.cpyL F l (o + 1) r g1 (fun i z hi => by
   have := hx (i + 1) z (by simpa using hi)
   rw [show o + 1 + i = o + (i + 1) by omega]; exact this) hS1 hr
  refine ⟨by simp [hlen], g2, hS2, ht1.trans ht2, fun i a hi => ?_⟩
  cases i with
  | zero =>
   simp only [List.getElem?_cons_zero, Option.some.injEq] at hi
   subst hi
   exact ⟨by simpa using hrep.mono ht2.le, hone⟩
  | succ i =>
   simp only [List.getElem?_cons_succ] at hi
   have := hall i a hi
   rw [show o + (i + 1) = o + 1 + i by omega]; exact this
theorem SR.reseal {nt : Nat} {st : St} {a : Act} {w : World} {g g' : Gh} {lm : Nat -> Nat} (h : SR nt st a w g lm) (wf : Wf w g') (hn : g'.nb = g.nb) (j : Nat)
  (hk : ∀ hd, (∀ c, hd ≠ .tmp j c) -> Kp w g w g' hd) (hx : RepV w g' lm st.nl (.tmp j) (st.t j) (a.tmps.getD j undef)) : SR nt st a w g' lm := by
 have := h.tmpA wf hn j (fun hd _ h => hk hd h) (st.t j) hx
 rw [upd_self] at this
 exact this
theorem SR.famTmp {nt : Nat} {st : St} {a : Act} {w : World} {lm : Nat -> Nat} (j : Nat) (cs : List LV) (vs : Array Value) (hj : st.t j = .ag cs) (hv : a.tmps.getD j undef = .agg vs) :
  Fam w (fun g => SR nt st a w g lm) cs.length (fun k => cs.getD k .un) (fun k => vs.getD k undef) (.tmp j) := by
 refine ⟨fun k hk g h => ?_, fun g h => h.wf, fun k c => by simp, fun k hk g g' h wf hn hkp hr => ?_⟩
 ·have := h.tm j
  rw [hj, hv] at this
  obtain ⟨vs', e, hs, hr⟩ := this
  injection e with e
  subst e
  obtain ⟨u, hu, hr⟩ := hr k (cs.getD k .un) (by simp [List.getD_eq_getElem?_getD, List.getElem?_eq_getElem hk])
  simpa [Array.getD_eq_getD_getElem?, hu] using hr
 ·refine h.reseal wf hn j (fun hd hne => hkp hd (hne k)) ?_
  have := h.tm j
  rw [hj, hv] at this ⊢
  obtain ⟨vs', e, hs, hr'⟩ := this
  injection e with e
  subst e
  refine ⟨vs, rfl, hs, fun i x hi => ?_⟩
  obtain ⟨u, hu, hri⟩ := hr' i x hi
  refine ⟨u, hu, ?_⟩
  by_cases e : i = k
  ·subst e
   simp only [List.getD_eq_getElem?_getD, hi, Option.getD_some, Array.getD_eq_getD_getElem?, hu] at hr
   exact hr
  ·exact hri.mono (hkp _ (by simp [e]))
theorem SR.famBox {nt : Nat} {st : St} {a : Act} {w : World} {lm : Nat -> Nat} (i : Nat) (hi : 0 < st.z i) (c : Array Value) (e : TypeId) (hb : w.heap[lm i]? = some (.cells c e (0, 0))) :
  Fam w (fun g => SR nt st a w g lm) (st.z i) (st.m i) (fun k => c.getD k undef) (.cell i) := by
 refine ⟨fun k hk g h => ?_, fun g h => h.wf, fun k c => by simp, fun k hk g g' h wf hn hkp hr => ?_⟩
 ·obtain ⟨_, _, _, c', e', h4, h5, h6⟩ := h.bx i hi
  rw [hb] at h4
  simp only [Option.some.injEq, Obj.cells.injEq] at h4
  obtain ⟨rfl, rfl, _⟩ := h4
  obtain ⟨u, hu, hr⟩ := h6 k hk
  simpa [Array.getD_eq_getD_getElem?, hu] using hr
 ·refine ⟨wf, h.nt, h.df, fun j => (h.tm j).mono (fun c => hkp _ (by simp)), ?_, h.hp.keep hn (fun _ => hkp _ (by simp)) (fun _ _ => hkp _ (by simp))⟩
  intro i' hi'
  obtain ⟨h1, h2, h3, c', e', h4, h5, h6⟩ := h.bx i' hi'
  obtain ⟨a1, a2, a3⟩ := (hkp (.box i') (by simp)).blk _ (heap_lt h4) h2
  refine ⟨h1, a2, a3.trans h3, c', e', h4, h5, fun j hj => ?_⟩
  obtain ⟨u, hu, hrj⟩ := h6 j hj
  refine ⟨u, hu, ?_⟩
  by_cases e1 : i' = i /\ j = k
  ·obtain ⟨rfl, rfl⟩ := e1
   rw [hb] at h4
   simp only [Option.some.injEq, Obj.cells.injEq] at h4
   obtain ⟨rfl, rfl, _⟩ := h4
   simpa [Array.getD_eq_getD_getElem?, hu] using hr
  ·exact hrj.mono (hkp _ (by simp; exact fun h1 h2 => e1 ⟨h1, h2⟩))
theorem SR.famHeap {nt : Nat} {st : St} {a : Act} {w : World} {lm : Nat -> Nat} (id b : Nat) (bx : List LV) (hid : st.h.bx[id]? = some bx) (hne : bx ≠ []) (c : Array Value) (e : TypeId) (hb : w.heap[b]? = some (.cells c e (0, 0))) :
  Fam w (fun g => SR nt st a w g lm /\ g.bm id = b) bx.length (fun k => bx.getD k .un) (fun k => c.getD k undef) (.hcell id) := by
 refine ⟨fun k hk g h => ?_, fun g h => h.1.wf, fun k c => by simp, fun k hk g g' h wf hn hkp hr => ?_⟩
 ·obtain ⟨h, rfl⟩ := h
  obtain ⟨_, _, c', e', h4, h5, h6⟩ := h.hp.2 id bx hid hne
  rw [hb] at h4
  simp only [Option.some.injEq, Obj.cells.injEq] at h4
  obtain ⟨rfl, rfl, _⟩ := h4
  obtain ⟨u, hu, hr⟩ := h6 k (bx.getD k .un) (by simp [List.getD_eq_getElem?_getD, List.getElem?_eq_getElem hk])
  simpa [Array.getD_eq_getD_getElem?, hu] using hr
 ·obtain ⟨h, hbm⟩ := h
  have hbm' : g'.bm id = b := by
   rw [(hkp (.hbox id) (by simp)).le.bm id (by rw [h.hp.1]; exact (List.getElem?_eq_some_iff.1 hid).1)]; exact hbm
  refine ⟨⟨wf, h.nt, h.df, fun j => (h.tm j).mono (fun c => hkp _ (by simp)), h.bx.keep (fun _ => hkp _ (by simp)) (fun _ _ => hkp _ (by simp)), ?_⟩, hbm'⟩
  refine ⟨hn.trans h.hp.1, fun id' bx' hid' hne' => ?_⟩
  obtain ⟨h2, h3, c', e', h4, h5, h6⟩ := h.hp.2 id' bx' hid' hne'
  have hlt : id' < g.nb := by rw [h.hp.1]; exact (List.getElem?_eq_some_iff.1 hid').1
  have hbm2 : g'.bm id' = g.bm id' := (hkp (.hbox id') (by simp)).le.bm id' hlt
  obtain ⟨a1, a2, a3⟩ := (hkp (.hbox id') (by simp)).blk _ (heap_lt h4) h2
  rw [hbm2]
  refine ⟨a2, a3.trans h3, c', e', h4, h5, fun j x hj => ?_⟩
  obtain ⟨u, hu, hrj⟩ := h6 j x hj
  refine ⟨u, hu, ?_⟩
  by_cases e1 : id' = id /\ j = k
  ·obtain ⟨rfl, rfl⟩ := e1
   rw [hbm] at h4
   rw [hb] at h4
   simp only [Option.some.injEq, Obj.cells.injEq] at h4
   obtain ⟨rfl, rfl, _⟩ := h4
   rw [hid] at hid'
   simp only [Option.some.injEq] at hid'
   subst hid'
   simp only [List.getD_eq_getElem?_getD, hj, Option.getD_some, Array.getD_eq_getD_getElem?, hu] at hr
   exact hr
  ·exact hrj.mono (hkp _ (by simp; exact fun h1 h2 => e1 ⟨h1, h2⟩))
end Go.Proofs.Am
namespace Go.Proofs.Am
open Go
theorem avC_rep {w : World} {g : Gh} {c : Value} {x : AV} (h : avC c = some x) : Rep w g x c := by
 unfold avC at h
 split at h <;> first | (simp only [Option.some.injEq] at h; subst h) | cases h
 all_goals first | exact .int _ _ | exact .bool _ | exact .str _ | exact .nilI | exact .nilP | exact .nilF | exact .nilM | exact .imm0 _ _
theorem lvC_rep {P : Program} {t : TypeId} {w : World} {g : Gh} {lm : Nat -> Nat} {nl : Nat} {c : Value} : RepV w g lm nl .res (lvC P t c) c := by
 unfold lvC
 split
 ·exact ⟨by simp, .emp _⟩
 ·cases h : avC c with
  | none => exact trivial
  | some x => exact avC_rep (w := w) (g := g) h
theorem avC_one {c : Value} {x : AV} (h : avC c = some x) : x.one = true := by
 unfold avC at h
 split at h <;> first | (simp only [Option.some.injEq] at h; subst h; rfl) | cases h
theorem SR.cpy {nt : Nat} {st : St} {a : Act} {w : World} {g : Gh} {lm : Nat -> Nat} (h : SR nt st a w g lm) (j : Nat) {x : AV} (hx : (st.t j).cpy = some x) :
  ∃ g', SR nt st a w g' lm /\ Qt w g w g' /\ Rep w g' x (a.tmps.getD j undef) := by
 cases hj : st.t j with
 | v b =>
  rw [hj] at hx
  simp only [LV.cpy, Option.some.injEq] at hx
  subst hx
  have := h.tm j
  rw [hj] at this
  exact ⟨g, h, Qt.refl w g, this⟩
 | ow n xs =>
  rw [hj] at hx
  simp only [LV.cpy, Option.some.injEq] at hx
  subst hx
  have := h.tm j
  rw [hj] at this
  obtain ⟨hne, ho⟩ := this
  obtain ⟨g', wf', hn, htr, hkp, ho', hrep⟩ := ho.cp h.wf hne
  exact ⟨g', h.reseal wf' hn j (fun hd hd' => hkp hd (hd' 0)) (by rw [hj]; exact ⟨hne, ho'⟩), ⟨htr, fun c => hkp _ (by simp), fun c => hkp _ (by simp)⟩, hrep⟩
 | ag cs =>
  rw [hj] at hx
  simp only [LV.cpy, Option.bind_eq_some_iff, Option.some.injEq] at hx
  obtain ⟨r, hr, rfl⟩ := hx
  have ht := h.tm j
  rw [hj] at ht
  obtain ⟨vs, e, hs, _⟩ := ht
  have F := SR.famTmp (nt := nt) (lm := lm) (w := w) (a := a) (st := st) j cs vs hj e
  obtain ⟨hlen, g', h', htr, hall⟩ := F.cpyL cs 0 r g (fun i y hi => by
   simp only [Nat.zero_add]
   exact ⟨(List.getElem?_eq_some_iff.1 hi).1, by simp [List.getD_eq_getElem?_getD, hi]⟩) h hr
  refine ⟨g', h', htr, ?_⟩
  rw [e]
  refine .agg r vs (by rw [hs, hlen]) (fun k => vs.getD k undef) (fun k c hk => ?_) (fun k c hk => by simpa using (hall k c hk).1)
  have hk' : k < vs.size := by rw [hs, ← hlen]; exact (List.getElem?_eq_some_iff.1 hk).1
  exact ⟨by simp [Array.getD_eq_getD_getElem?, hk'], (hall k c hk).2⟩
 | _ => rw [hj] at hx; simp [LV.cpy] at hx
theorem rv_ok {nt : Nat} {st : St} {a : Act} {w : World} {g : Gh} {lm : Nat -> Nat} (h : SR nt st a w g lm) {o : Operand} {x : AV} (hx : st.rv o = some x) :
  ∃ g', SR nt st a w g' lm /\ Qt w g w g' /\ Rep w g' x (a.eval o) := by
 cases o with
 | tmp j => exact h.cpy j hx
 | const c => exact ⟨g, h, Qt.refl w g, avC_rep hx⟩
 | func f =>
  simp only [St.rv, Option.some.injEq] at hx
  subst hx
  exact ⟨g, h, Qt.refl w g, .fn f [] [] #[] #[] rfl rfl (fun _ => undef) (fun _ => undef) (by simp) (by simp) (by simp) (by simp)⟩
 | global _ => cases hx
theorem rvs_ok {R : Type} {nt : Nat} {st : St} {a : Act} {w : World} {lm : Nat -> Nat} {r : R} :
  ∀ (l : List Operand) (g : Gh) (k : List AV -> Option R), SR nt st a w g lm -> rvs st l k = some r ->
   ∃ as, k as = some r /\ as.length = l.length /\ ∃ g', SR nt st a w g' lm /\ Qt w g w g' /\ ∀ (i : Nat) (x : AV) (o : Operand), as[i]? = some x -> l[i]? = some o -> Rep w g' x (a.eval o)
 | [], g, k, h, hk => ⟨[], hk, rfl, g, h, Qt.refl w g, by simp⟩
 | o :: l, g, k, h, hk => by
  simp only [rvs, Option.bind_eq_some_iff] at hk
  obtain ⟨x, hx, hk⟩ := hk
  obtain ⟨g1, h1, t1, r1⟩ := rv_ok h hx
  obtain ⟨as, hk, hl, g2, h2, t2, r2⟩ := rvs_ok l g1 _ h1 hk
  refine ⟨x :: as, hk, by simp [hl], g2, h2, t1.trans t2, fun i y p hi hp => ?_⟩
  cases i with
  | zero =>
   simp only [List.getElem?_cons_zero, Option.some.injEq] at hi hp
   subst hi; subst hp
   exact r1.mono t2.le
  | succ i =>
   simp only [List.getElem?_cons_succ] at hi hp
   exact r2 i y p hi hp
theorem rvp_ok {R : Type} {nt : Nat} {st : St} {a : Act} {w : World} {lm : Nat -> Nat} {r : R} :
  ∀ (l : List (Nat × Operand)) (g : Gh) (k : List (Nat × AV) -> Option R), SR nt st a w g lm -> rvp st l k = some r ->
   ∃ as, k as = some r /\ as.length = l.length /\ ∃ g', SR nt st a w g' lm /\ Qt w g w g' /\
    ∀ (i : Nat) (x : Nat × AV) (o : Nat × Operand), as[i]? = some x -> l[i]? = some o -> x.1 = o.1 /\ Rep w g' x.2 (a.eval o.2)
 | [], g, k, h, hk => ⟨[], hk, rfl, g, h, Qt.refl w g, by simp⟩
 | (n, o) :: l, g, k, h, hk => by
  simp only [rvp, Option.bind_eq_some_iff] at hk
  obtain ⟨x, hx, hk⟩ := hk
  obtain ⟨g1, h1, t1, r1⟩ := rv_ok h hx
  obtain ⟨as, hk, hl, g2, h2, t2, r2⟩ := rvp_ok l g1 _ h1 hk
  refine ⟨(n, x) :: as, hk, by simp [hl], g2, h2, t1.trans t2, fun i y p hi hp => ?_⟩
  cases i with
  | zero =>
   simp only [List.getElem?_cons_zero, Option.some.injEq] at hi hp
   subst hi; subst hp
   exact ⟨rfl, r1.mono t2.le⟩
  | succ i =>
   simp only [List.getElem?_cons_succ] at hi hp
   exact r2 i y p hi hp
def RepF (w : World) (g : Gh) (lm : Nat -> Nat) (nl : Nat) (x : LV) (v : Value) : Prop := ∀ hd, RepV w g lm nl hd x v
theorem RepF.mono {w w' : World} {g g' : Gh} {lm : Nat -> Nat} {nl : Nat} {x : LV} {v : Value} (r : RepF w g lm nl x v) (h : Le w g w' g') : RepF w' g' lm nl x v := by
 intro hd
 have r0 := r (fun _ => .oth)
 cases x <;> simp only [RepV] at r0 ⊢ <;> try exact r0
 ·exact r0.mono h
 ·exact absurd rfl r0.1
 ·obtain ⟨vs, e, hs, hr⟩ := r0
  refine ⟨vs, e, hs, fun j a hj => ?_⟩
  obtain ⟨u, hu, hr⟩ := hr j a hj
  exact ⟨u, hu, hr.mono h⟩
 ·obtain ⟨vs, e, hs, hr⟩ := r0
  refine ⟨vs, e, hs, fun j x hj => ?_⟩
  obtain ⟨u, hu, hr⟩ := hr j x hj
  refine ⟨u, hu, ?_⟩
  cases x <;> simp only [RepC] at hr ⊢
  ·exact ⟨hr.1.mono h, hr.2⟩
  ·exact absurd rfl hr.1
theorem Fam.cp1 {w : World} {S : Gh -> Prop} {n : Nat} {x : Nat -> LV} {u : Nat -> Value} {hd : Nat -> Hd} (F : Fam w S n x u hd) {k : Nat} (hk : k < n) {g : Gh} (hS : S g) :
  ∃ g', S g' /\ Qt w g w g' /\ ∀ hd', RepC w g' hd' (x k).cp1 (u k) := by
 have hr := F.rep k hk g hS
 cases hx : x k with
 | un => exact ⟨g, hS, Qt.refl w g, fun _ => trivial⟩
 | v b => rw [hx] at hr; exact ⟨g, hS, Qt.refl w g, fun _ => hr⟩
 | ow m xs =>
  obtain ⟨g', h1, h2, h3, h4⟩ := F.cpy1 hk hS (a := .imm xs) (by rw [hx]; rfl)
  exact ⟨g', h1, h2, fun _ => ⟨h3, h4⟩⟩
 | _ => rw [hx] at hr; exact hr.elim
theorem Fam.cpL {w : World} {S : Gh -> Prop} {n : Nat} {x : Nat -> LV} {u : Nat -> Value} {hd : Nat -> Hd} (F : Fam w S n x u hd) :
  ∀ (l : List LV) (o : Nat) (g : Gh), (∀ i y, l[i]? = some y -> o + i < n /\ x (o + i) = y) -> S g ->
   (Am.cpL l).length = l.length /\ ∃ g', S g' /\ Qt w g w g' /\ ∀ i y, (Am.cpL l)[i]? = some y -> ∀ hd', RepC w g' hd' y (u (o + i))
 | [], o, g, _, hS => ⟨rfl, g, hS, Qt.refl w g, fun i a hi => by simp [Am.cpL] at hi⟩
 | y :: l, o, g, hx, hS => by
  have h0 := hx 0 y (by simp)
  simp only [Nat.add_zero] at h0
  obtain ⟨g1, hS1, ht1, hrep⟩ := F.cp1 h0.1 hS
  obtain ⟨hlen, g2, hS2, ht2, hall⟩ := Fam.cpL F l (o + 1) g1 (fun i z hi => by
   have := hx (i + 1) z (by simpa using hi)
   rw [show o + 1 + i = o + (i + 1) by omega]; exact this) hS1
  refine ⟨by simp [Am.cpL, hlen], g2, hS2, ht1.trans ht2, fun i z hi => ?_⟩
  cases i with
  | zero =>
   simp only [Am.cpL, List.getElem?_cons_zero, Option.some.injEq] at hi
   subst hi
   rw [h0.2] at hrep
   intro hd'
   have := hrep hd'
   cases hy : y.cp1 with
   | un => exact trivial
   | v b => rw [hy] at this; exact ⟨by simpa using this.1.mono ht2.le, this.2⟩
   | ow m xs => cases y <;> simp [LV.cp1] at hy
   | _ => rw [hy] at this; exact this.elim
  | succ i =>
   simp only [Am.cpL, List.getElem?_cons_succ] at hi
   have := hall i z hi
   rw [show o + (i + 1) = o + 1 + i by omega]; exact this
theorem rd_ok {nt : Nat} {st : St} {a : Act} {w : World} {g : Gh} {lm : Nat -> Nat} (h : SR nt st a w g lm) (o : Operand) :
  ∃ g', SR nt st a w g' lm /\ Qt w g w g' /\ RepF w g' lm st.nl (st.rd o) (a.eval o) := by
 cases o with
 | tmp j =>
  have hj := h.tm j
  cases hx : st.t j with
  | ow n xs =>
   obtain ⟨g', h1, h2, h3⟩ := h.cpy j (x := .imm xs) (by rw [hx]; rfl)
   exact ⟨g', h1, h2, fun _ => by simp only [St.rd, hx, LV.cp]; exact h3⟩
  | ag cs =>
   rw [hx] at hj
   obtain ⟨vs, e, hs, _⟩ := hj
   have F := SR.famTmp (nt := nt) (lm := lm) (w := w) (a := a) (st := st) j cs vs hx e
   obtain ⟨hlen, g', h', htr, hall⟩ := F.cpL cs 0 g (fun i y hi => by
    simp only [Nat.zero_add]
    exact ⟨(List.getElem?_eq_some_iff.1 hi).1, by simp [List.getD_eq_getElem?_getD, hi]⟩) h
   refine ⟨g', h', htr, fun hd => ?_⟩
   simp only [St.rd, hx, LV.cp, RepV]
   refine ⟨vs, e, by rw [hs, hlen], fun k y hk => ?_⟩
   have hk' : k < vs.size := by rw [hs, ← hlen]; exact (List.getElem?_eq_some_iff.1 hk).1
   exact ⟨vs.getD k undef, by simp [Array.getD_eq_getD_getElem?, hk'], by simpa using hall k y hk (hd k)⟩
  | un => exact ⟨g, h, Qt.refl w g, fun _ => by simp only [St.rd, hx, LV.cp]; exact trivial⟩
  | ud => rw [hx] at hj; exact ⟨g, h, Qt.refl w g, fun _ => by simp only [St.rd, hx, LV.cp]; exact hj⟩
  | v b => rw [hx] at hj; exact ⟨g, h, Qt.refl w g, fun _ => by simp only [St.rd, hx, LV.cp]; exact hj⟩
  | lp i off => rw [hx] at hj; exact ⟨g, h, Qt.refl w g, fun _ => by simp only [St.rd, hx, LV.cp]; exact hj⟩
  | tup xs => rw [hx] at hj; exact ⟨g, h, Qt.refl w g, fun _ => by simp only [St.rd, hx, LV.cp]; exact hj⟩
 | const c =>
  refine ⟨g, h, Qt.refl w g, fun _ => ?_⟩
  simp only [St.rd]
  cases hc : avC c with
  | none => exact trivial
  | some x => exact avC_rep (w := w) (g := g) hc
 | func f => exact ⟨g, h, Qt.refl w g, fun _ => .fn f [] [] #[] #[] rfl rfl (fun _ => undef) (fun _ => undef) (by simp) (by simp) (by simp) (by simp)⟩
 | global _ => exact ⟨g, h, Qt.refl w g, fun _ => trivial⟩
end Go.Proofs.Am
