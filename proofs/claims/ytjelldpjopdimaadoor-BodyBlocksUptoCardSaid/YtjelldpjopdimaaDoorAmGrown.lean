/-
  Steps of the world at blocks that hold no cells: what the machine's values mean stays.
-/
import Derived.Test.YtjelldpjopdimaaDoorAmExtRun
import Derived.RangeFuncWrites

namespace Go.Proofs.Am
open Go

/-- What is sealed, and there, stays. -/
structure Lw (w : World) (g : Gh) (w' : World) (g' : Gh) : Prop where
  cell : ∀ b j v, j < g.sl b → Cl w b j = some v → j < g'.sl b ∧ Cl w' b j = some v
  nb : g.nb ≤ g'.nb
  bm : ∀ id, id < g.nb → g'.bm id = g.bm id
  sz : ∀ b n, bsz w b = some n → bsz w' b = some n

variable {w w' : World} {g g' : Gh}
theorem Rep.monoW (h : Lw w g w' g') {a : AV} {v : Value} (r : Rep w g a v) : Rep w' g' a v := by
  induction r with
  | int => exact .int ..
  | bool => exact .bool ..
  | str => exact .str ..
  | nilI => exact .nilI
  | nilP => exact .nilP
  | nilF => exact .nilF
  | nilM => exact .nilM
  | nilS => exact .nilS
  | ifc t a v _ ih => exact .ifc _ _ _ ih
  | ptr id off hi =>
    have := Rep.ptr (w := w') (g := g') id off (Nat.lt_of_lt_of_le hi h.nb)
    rwa [h.bm id hi] at this
  | snap cs b o f hc _ ih =>
    refine .snap cs b o f (fun j c hj => ?_) ih
    obtain ⟨h1, h2, h3⟩ := hc j c hj
    obtain ⟨k1, k2⟩ := h.cell b _ _ h1 h2
    exact ⟨k1, k2, h3⟩
  | imm0 => exact .imm0 ..
  | imm xs n b o cap f hl hn hc _ ih =>
    refine .imm xs n b o cap f hl hn (fun k x j c hk hj => ?_) ih
    obtain ⟨h1, h2, h3⟩ := hc k x j c hk hj
    obtain ⟨k1, k2⟩ := h.cell b _ _ h1 h2
    exact ⟨k1, k2, h3⟩
  | arr n id off len cap hi hl hs =>
    have := Rep.arr (w := w') (g := g') n id off len cap (Nat.lt_of_lt_of_le hi h.nb) hl (by rw [h.bm id hi]; exact h.sz _ _ hs)
    rwa [h.bm id hi] at this
  | agg cs vs hl f hc _ ih => exact .agg cs vs hl f hc ih
  | fn f fs caps vs us h1 h2 p q c1 _ c2 _ i1 i2 => exact .fn f fs caps vs us h1 h2 p q c1 i1 c2 i2
theorem Own.monoW (h : Lw w g w' g') {hd : Hd} (hb : ∀ b c e f, g.own b = hd → w.heap[b]? = some (.cells c e f) → w'.heap[b]? = w.heap[b]? ∧ g'.own b = hd ∧ g'.sl b = g.sl b) {n : Nat} {xs : List (List AV)} {v : Value} (r : Own w g hd n xs v) : Own w' g' hd n xs v := by
  cases r with
  | emp a => exact .emp a
  | blk _ b cap c e fz f hl hn hx hbk hf hz ho hs hc hr =>
    obtain ⟨h1, h2, h3⟩ := hb b c e fz ho hbk
    exact .blk xs b cap c e fz f hl hn hx (h1.trans hbk) hf hz h2 (by omega) hc (fun k x j a hk hj => (hr k x j a hk hj).monoW h)

/-- The ghost state behind a step at a block without cells. -/
def gOff (g : Gh) : Option Nat → Gh
  | none => g
  | some r => { g with sl := upd g.sl r 0 }
theorem gOff_own (g : Gh) (row : Option Nat) : (gOff g row).own = g.own := by cases row <;> rfl
theorem gOff_nb (g : Gh) (row : Option Nat) : (gOff g row).nb = g.nb := by cases row <;> rfl
theorem gOff_bm (g : Gh) (row : Option Nat) : (gOff g row).bm = g.bm := by cases row <;> rfl
theorem gOff_sl (g : Gh) {row : Option Nat} {b : Nat} (h : row ≠ some b) : (gOff g row).sl b = g.sl b := by
  cases row with
  | none => rfl
  | some r => simp only [gOff]; rw [upd_ne _ _ (by rintro rfl; exact h rfl)]
theorem gOff_le (g : Gh) (row : Option Nat) (b : Nat) : (gOff g row).sl b ≤ g.sl b := by
  by_cases h : row = some b
  · subst h; simp only [gOff, upd_same]; omega
  · rw [gOff_sl g h]; exact Nat.le_refl _

variable {w0 : World} {g0 : Gh} {row : Option Nat}
theorem noCells {o : Obj} {b : Nat} (h : w.heap[b]? = some o) (ho : o.isCells = false) : (∀ j, Cl w b j = none) ∧ bsz w b = none := by
  cases o <;> first | (cases ho; done) | exact ⟨fun j => by simp [Cl, World.cell?, h], by simp [bsz, h]⟩
theorem grown_Lw (hg : w.grownBy w' row) (hr : ∀ r, row = some r → ∃ o : Obj, w.heap[r]? = some o ∧ o.isCells = false) : Lw w g w' (gOff g row) := by
  have hne : ∀ b j v, Cl w b j = some v → row ≠ some b := by
    rintro b j v hv rfl
    obtain ⟨o, ho, hc⟩ := hr b rfl
    rw [(noCells ho hc).1 j] at hv; cases hv
  refine ⟨fun b j v hj hv => ?_, by rw [gOff_nb]; exact Nat.le_refl _, fun id _ => by rw [gOff_bm], fun b n hb => ?_⟩
  · have h := hne b j v hv
    exact ⟨by rw [gOff_sl g h]; exact hj, (Cl_eq_of_heap (hg.block b (Cl_lt hv) (Ne.symm h))).trans hv⟩
  · rw [bsz_eq_of_heap (hg.block b (bsz_lt hb) ?_)]; exact hb
    rintro e
    obtain ⟨o, ho, hc⟩ := hr b e.symm
    rw [(noCells ho hc).2] at hb; cases hb
/-- A step at a block without cells. -/
theorem grown_keep (wf0 : Wf w0 g0) (wf : Wf w g) (t : Tr w0 g0 w g) {hp : Heap} (hh : HeapOk w g hp) (hg : w.grownBy w' row) (hr : ∀ r, row = some r → w0.heap.size ≤ r ∧ ∃ o : Obj, w.heap[r]? = some o ∧ o.isCells = false) :
    Wf w' (gOff g row) ∧ Tr w0 g0 w' (gOff g row) ∧ HeapOk w' (gOff g row) hp ∧ Lw w g w' (gOff g row) := by
  have L := grown_Lw (g := g) hg (fun r e => (hr r e).2)
  have hcell : ∀ b c e f, w.heap[b]? = some (.cells c e f) → row ≠ some b := by
    rintro b c e f hb rfl
    obtain ⟨_, o, ho, hc⟩ := hr b rfl
    rw [hb] at ho; cases ho; cases hc
  have K : ∀ hd b c e f, g.own b = hd → w.heap[b]? = some (.cells c e f) → w'.heap[b]? = w.heap[b]? ∧ (gOff g row).own b = hd ∧ (gOff g row).sl b = g.sl b := fun hd b c e f ho hb =>
    ⟨hg.block b (heap_lt hb) (Ne.symm (hcell b c e f hb)), by rw [gOff_own]; exact ho, gOff_sl g (hcell b c e f hb)⟩
  have hlt0 : ∀ b, b < w0.heap.size → row ≠ some b := by
    rintro b hb rfl
    have := (hr b rfl).1; omega
  refine ⟨⟨fun b hb => by rw [gOff_own]; exact wf.own b (Nat.le_trans hg.size hb), fun b hb => ?_, fun b hb => ?_⟩, ⟨⟨fun b => ?_, fun b j hj => ?_, by rw [gOff_nb]; exact t.le.nb, fun id hi => by rw [gOff_bm]; exact t.le.bm id hi, fun b n hb => L.sz b n (t.le.sz b n hb)⟩,
    Nat.le_trans t.size hg.size, fun b hb ho => ?_, hg.os.trans t.os, hg.tape.trans t.tape, hg.output.trans t.output⟩, ⟨by rw [gOff_nb]; exact hh.1, fun id bx hid hne => ?_⟩, L⟩
  · have := gOff_le g row b
    have := wf.sl b (Nat.le_trans hg.size hb)
    omega
  · rw [gOff_own] at hb
    obtain ⟨n, h1, h2⟩ := wf.fit b hb
    exact ⟨n, L.sz b n h1, Nat.le_trans (gOff_le g row b) h2⟩
  · rcases Nat.lt_or_ge b w0.heap.size with h | h
    · rw [gOff_sl g (hlt0 b h)]; exact t.le.sl b
    · rw [wf0.sl b h]; exact Nat.zero_le _
  · have hb : b < w0.heap.size := by
      rcases Nat.lt_or_ge b w0.heap.size with h | h
      · exact h
      · rw [wf0.sl b h] at hj; omega
    rw [Cl_eq_of_heap (hg.block b (Nat.lt_of_lt_of_le hb t.size) (Ne.symm (hlt0 b hb)))]
    exact t.le.cell b j hj
  · obtain ⟨k1, k2, k3⟩ := t.oth b hb ho
    exact ⟨(hg.block b (Nat.lt_of_lt_of_le hb t.size) (Ne.symm (hlt0 b hb))).trans k1, by rw [gOff_own]; exact k2, (gOff_sl g (hlt0 b hb)).trans k3⟩
  · obtain ⟨h2, h3, c, e, h4, h5, h6⟩ := hh.2 id bx hid hne
    obtain ⟨a1, a2, a3⟩ := K _ _ _ _ _ h2 h4
    rw [gOff_bm]
    refine ⟨a2, a3.trans h3, c, e, a1.trans h4, h5, fun j x hj => ?_⟩
    obtain ⟨u, hu, hr'⟩ := h6 j x hj
    refine ⟨u, hu, ?_⟩
    cases x <;> simp only [RepC] at hr' ⊢
    · exact ⟨hr'.1.monoW L, hr'.2⟩
    · exact ⟨hr'.1, hr'.2.monoW L (K _)⟩

/-- What a block without cells is in a later world. -/
theorem Tr.others {w1 : World} {g1 : Gh} (wf : Wf w g) (t : Tr w g w1 g1) {k : Nat} {o : Obj} (hk : w.heap[k]? = some o) (ho : o.isCells = false) : w1.heap[k]? = some o := by
  have hoth : g.own k = .oth := by
    cases h : g.own k with
    | oth => rfl
    | _ =>
      obtain ⟨n, hn, _⟩ := wf.fit k (by rw [h]; simp)
      rw [(noCells hk ho).2] at hn; cases hn
  exact ((t.oth k (heap_lt hk) hoth).1).trans hk

/-- A call that sees the heap, by what the machine says of its text. -/
theorem exh_run {cx cx' : Cx} (hC : CxOk cx) (hP : cx'.P = cx.P) (hg : cx'.glob = cx.glob) {f : FuncId} {fn : Func} {c : Code} (hf : cx.P.funcs[f]? = some fn) (hb : fn.body = some c) (hcut : cutAt cx f [.code c] = none)
    {e : List LV → Heap → Option (LV × Heap)} (he : ∀ (xs : List LV) (h : Heap) (y : LV × Heap), e xs h = some y → blk cx f [.code c] xs h = some y) : ExhOk cx' f e := by
  intro xs hp x h' hx w g vs wf hh hG hl hr
  have s0 : SR fn.ntmps (inSt xs hp) { tmps := vs ++ Array.replicate (fn.ntmps - vs.size) undef, defers := [] } w g (fun _ => 0) :=
    SR.enter wf hh hl (fun j y hj => by
      obtain ⟨p, u, rfl, hu, hrp⟩ := hr j y hj
      exact ⟨u, hu, hrp⟩)
  rw [hP]
  exact calls_of_orc (blk_ok hC) hf hb hcut (he xs hp (x, h') hx) s0 (fun i cs hi => hG i cs (by rw [hg]; exact hi))
theorem exr_run {cx cx' : Cx} (hC : CxOk cx) (hP : cx'.P = cx.P) (hg : cx'.glob = cx.glob) {f : FuncId} {fn : Func} {c : Code} (hf : cx.P.funcs[f]? = some fn) (hb : fn.body = some c) (hcut : cutAt cx f [.code c] = none)
    {e : List LV → Heap → Option LV} (he : ∀ (xs : List LV) (h : Heap) (y : LV), e xs h = some y → blk cx f [.code c] xs h = some (y, h)) : ExrOk cx' f e := by
  intro xs hp x hx
  exact exh_run hC hP hg hf hb hcut (e := fun xs h => (e xs h).bind fun r => some (r, h)) (fun xs h y hy => by
    simp only [Option.bind_eq_some_iff, Option.some.injEq] at hy
    obtain ⟨r, hr, rfl⟩ := hy
    exact he xs h r hr) xs hp x hp (by simp [hx])
end Go.Proofs.Am
