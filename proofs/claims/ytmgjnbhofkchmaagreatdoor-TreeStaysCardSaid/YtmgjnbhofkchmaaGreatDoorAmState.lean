/-
  States, and how they change.
-/
import Derived.Test.YtmgjnbhofkchmaaGreatDoorAmWorld

namespace Go.Proofs.Am
open Go

/-! ### 1. Other holders -/
def gRel (g : Gh) (ρ : Hd → Hd) : Gh := { g with own := fun b => ρ (g.own b) }
theorem rel_Le (w : World) (g : Gh) (ρ : Hd → Hd) : Le w g w (gRel g ρ) := ⟨fun _ => Nat.le_refl _, fun _ _ _ => rfl, Nat.le_refl _, fun _ _ => rfl, fun _ _ h => h⟩
theorem rel_Kp (w : World) (g : Gh) {ρ : Hd → Hd} {hd : Hd} (h : ρ hd = hd) : Kp w g w (gRel g ρ) hd := ⟨rel_Le w g ρ, fun b _ ho => ⟨rfl, by simp only [gRel]; rw [ho, h], rfl⟩⟩
theorem rel_Tr (w : World) (g : Gh) {ρ : Hd → Hd} (h : ρ .oth = .oth) : Tr w g w (gRel g ρ) := ⟨rel_Le w g ρ, Nat.le_refl _, fun b _ ho => ⟨rfl, by simp only [gRel]; rw [ho, h], rfl⟩, rfl, rfl, rfl⟩
theorem rel_Wf {w : World} {g : Gh} (wf : Wf w g) {ρ : Hd → Hd} (h : ρ .oth = .oth) : Wf w (gRel g ρ) :=
  ⟨fun b hb => by simp only [gRel]; rw [wf.own b hb, h], wf.sl, fun b hb => wf.fit b (fun e => hb (by simp only [gRel]; rw [e, h]))⟩

/-- A holder's blocks are another's. -/
theorem Own.rel {w : World} {g : Gh} {hd : Hd} {n : Nat} {xs : List (List AV)} {v : Value} (r : Own w g hd n xs v) (ρ : Hd → Hd) : Own w (gRel g ρ) (ρ hd) n xs v := by
  cases r with
  | emp a => exact .emp a
  | blk _ b cap c e fz f hl hn hx hb hf hz ho hs hc hr =>
    exact .blk xs b cap c e fz f hl hn hx hb hf hz (by simp only [gRel]; rw [ho]) hs hc (fun k x j a hk hj => (hr k x j a hk hj).mono (rel_Le w g ρ))
theorem RepC.rel {w : World} {g : Gh} {hd : Hd} {x : LV} {v : Value} (r : RepC w g hd x v) {ρ : Hd → Hd} (h : hd ≠ .oth → ρ hd ≠ .oth) : RepC w (gRel g ρ) (ρ hd) x v := by
  cases x <;> simp only [RepC] at r ⊢
  · exact ⟨r.1.mono (rel_Le w g ρ), r.2⟩
  · exact ⟨h r.1, r.2.rel ρ⟩
theorem RepV.rel {w : World} {g : Gh} {lm : Nat → Nat} {nl : Nat} {hd : Nat → Hd} {x : LV} {v : Value} (r : RepV w g lm nl hd x v) {ρ : Hd → Hd} (h : ∀ c, hd c ≠ .oth → ρ (hd c) ≠ .oth) :
    RepV w (gRel g ρ) lm nl (fun c => ρ (hd c)) x v := by
  cases x <;> simp only [RepV] at r ⊢ <;> try exact r
  · exact r.mono (rel_Le w g ρ)
  · exact ⟨h 0 r.1, r.2.rel ρ⟩
  · obtain ⟨vs, e, hs, hr⟩ := r
    refine ⟨vs, e, hs, fun j a hj => ?_⟩
    obtain ⟨u, hu, hr⟩ := hr j a hj
    exact ⟨u, hu, hr.mono (rel_Le w g ρ)⟩
  · obtain ⟨vs, e, hs, hr⟩ := r
    refine ⟨vs, e, hs, fun j a hj => ?_⟩
    obtain ⟨u, hu, hr⟩ := hr j a hj
    exact ⟨u, hu, hr.rel (h j)⟩

/-- What owns nothing has whatever holder. -/
def LV.free : LV → Prop
  | .ow _ _ => False
  | .ag _ => False
  | _ => True
theorem RepV.free {w : World} {g : Gh} {lm : Nat → Nat} {nl : Nat} {hd hd' : Nat → Hd} {x : LV} {v : Value} (hx : x.free) (r : RepV w g lm nl hd x v) : RepV w g lm nl hd' x v := by
  cases x <;> simp only [LV.free] at hx <;> first | exact r | exact hx.elim

/-! ### 2. Boxes and the heap stay -/
theorem BoxOk.keep {w w' : World} {g g' : Gh} {lm : Nat → Nat} {st : St} (h : BoxOk w g lm st) (k1 : ∀ i, Kp w g w' g' (.box i)) (k2 : ∀ i c, Kp w g w' g' (.cell i c)) : BoxOk w' g' lm st := by
  intro i hi
  obtain ⟨h1, h2, h3, c, e, h4, h5, h6⟩ := h i hi
  obtain ⟨a1, a2, a3⟩ := (k1 i).blk _ (heap_lt h4) h2
  exact ⟨h1, a2, a3.trans h3, c, e, a1.trans h4, h5, fun j hj => by
    obtain ⟨u, hu, hr⟩ := h6 j hj
    exact ⟨u, hu, hr.mono (k2 i j)⟩⟩
theorem HeapOk.keep {w w' : World} {g g' : Gh} {h : Heap} (hh : HeapOk w g h) (hn : g'.nb = g.nb) (k1 : ∀ i, Kp w g w' g' (.hbox i)) (k2 : ∀ i c, Kp w g w' g' (.hcell i c)) : HeapOk w' g' h := by
  refine ⟨hn.trans hh.1, fun id bx hid hne => ?_⟩
  obtain ⟨h2, h3, c, e, h4, h5, h6⟩ := hh.2 id bx hid hne
  have hlt : id < g.nb := by rw [hh.1]; exact (List.getElem?_eq_some_iff.1 hid).1
  have hbm : g'.bm id = g.bm id := (k1 id).le.bm id hlt
  obtain ⟨a1, a2, a3⟩ := (k1 id).blk _ (heap_lt h4) h2
  rw [hbm]
  exact ⟨a2, a3.trans h3, c, e, a1.trans h4, h5, fun j x hj => by
    obtain ⟨u, hu, hr⟩ := h6 j x hj
    exact ⟨u, hu, hr.mono (k2 id j)⟩⟩

/-- All that a state holds stays, but for one temporary. -/
theorem SR.tmpA {nt : Nat} {st : St} {a : Act} {w w' : World} {g g' : Gh} {lm : Nat → Nat} (h : SR nt st a w g lm) (wf : Wf w' g') (hn : g'.nb = g.nb) (j : Nat)
    (hk : ∀ hd, hd ≠ .oth → (∀ c, hd ≠ .tmp j c) → Kp w g w' g' hd) (x : LV) (hx : RepV w' g' lm st.nl (.tmp j) x (a.tmps.getD j undef)) : SR nt { st with t := upd st.t j x } a w' g' lm := by
  refine ⟨wf, h.nt, h.df, fun i => ?_, h.bx.keep (fun i => hk _ (by simp) (by simp)) (fun i c => hk _ (by simp) (by simp)), h.hp.keep hn (fun i => hk _ (by simp) (by simp)) (fun i c => hk _ (by simp) (by simp))⟩
  by_cases e : i = j
  · subst e; simp only [upd_same]; exact hx
  · simp only [upd_ne _ _ e]
    exact (h.tm i).mono (fun c => hk _ (by simp) (fun c' => by simp [e]))
theorem SR.keep {nt : Nat} {st : St} {a : Act} {w w' : World} {g g' : Gh} {lm : Nat → Nat} (h : SR nt st a w g lm) (wf : Wf w' g') (hn : g'.nb = g.nb)
    (hk : ∀ hd, hd ≠ .oth → (∀ c, hd ≠ .res c) → (∀ c, hd ≠ .arg c) → Kp w g w' g' hd) : SR nt st a w' g' lm :=
  ⟨wf, h.nt, h.df, fun i => (h.tm i).mono (fun c => hk _ (by simp) (by simp) (by simp)), h.bx.keep (fun i => hk _ (by simp) (by simp) (by simp)) (fun i c => hk _ (by simp) (by simp) (by simp)),
    h.hp.keep hn (fun i => hk _ (by simp) (by simp) (by simp)) (fun i c => hk _ (by simp) (by simp) (by simp))⟩

/-- What a temporary holds is forgotten. -/
theorem SR.drop {nt : Nat} {st : St} {a : Act} {w : World} {g : Gh} {lm : Nat → Nat} (h : SR nt st a w g lm) (j : Nat) : SR nt { st with t := upd st.t j .un } a w g lm :=
  h.tmpA h.wf rfl j (fun hd _ _ => Kp.refl w g hd) .un trivial

theorem getD_setIfInBounds_same {a : Array Value} {d : Nat} (h : d < a.size) (v u : Value) : (a.setIfInBounds d v).getD d u = v := by
  simp [Array.getD, h]
theorem getD_setIfInBounds_ne {a : Array Value} {d i : Nat} (h : i ≠ d) (v u : Value) : (a.setIfInBounds d v).getD i u = a.getD i u := by
  simp only [Array.getD_eq_getD_getElem?, Array.getElem?_setIfInBounds_ne (Ne.symm h)]

/-- A result is put into a temporary. Its blocks are the temporary's. -/
def toTmp (d : Nat) : Hd → Hd
  | .res c => .tmp d c
  | h => h
theorem SR.put {nt : Nat} {st : St} {a : Act} {w : World} {g : Gh} {lm : Nat → Nat} (h : SR nt st a w g lm) {d : Nat} (hd : d < nt) {x : LV} {v : Value} (hx : RepV w g lm st.nl .res x v) :
    SR nt (st.put (some d) x) (a.put (some d) v) w (gRel g (toTmp d)) lm := by
  have hs : d < a.tmps.size := Nat.lt_of_lt_of_le hd h.nt
  have k : ∀ hd, (∀ c, hd ≠ .res c) → Kp w g w (gRel g (toTmp d)) hd := fun hd hne => rel_Kp w g (by cases hd <;> simp_all [toTmp])
  refine ⟨rel_Wf h.wf rfl, by simpa [Act.put] using h.nt, h.df, fun i => ?_, h.bx.keep (fun i => k _ (by simp)) (fun i c => k _ (by simp)), h.hp.keep rfl (fun i => k _ (by simp)) (fun i c => k _ (by simp))⟩
  by_cases e : i = d
  · subst e
    simp only [St.put, Act.put, upd_same, getD_setIfInBounds_same hs]
    exact hx.rel (ρ := toTmp i) (fun c _ => by simp [toTmp])
  · simp only [St.put, Act.put, upd_ne _ _ e, getD_setIfInBounds_ne e]
    exact (h.tm i).mono (fun c => k _ (by simp))
/-- A temporary's value is taken: what it owns is the result's. -/
def fromTmp (j : Nat) : Hd → Hd
  | .tmp i c => if i = j then .res c else .tmp i c
  | h => h
theorem SR.take {nt : Nat} {st : St} {a : Act} {w : World} {g : Gh} {lm : Nat → Nat} (h : SR nt st a w g lm) (j : Nat) :
    SR nt { st with t := upd st.t j .un } a w (gRel g (fromTmp j)) lm ∧ RepV w (gRel g (fromTmp j)) lm st.nl .res (st.t j) (a.tmps.getD j undef) := by
  constructor
  · refine h.tmpA (rel_Wf h.wf rfl) rfl j (fun hd _ hne => rel_Kp w g ?_) .un trivial
    cases hd <;> simp_all [fromTmp]
  · have := (h.tm j).rel (ρ := fromTmp j) (fun c _ => by simp [fromTmp])
    simpa [fromTmp] using this

end Go.Proofs.Am
