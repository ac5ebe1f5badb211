/-
  New blocks: slices' literals, made slices, texts as bytes, local boxes, heap boxes.
-/
import Derived.Test.YtmgjnbhofkchmaaGreatDoorAmOpF

namespace Go.Proofs.Am
open Go

variable {R : Type} {P : Program} {nt : Nat} {o : Oper} {st : St} {a : Act} {w : World} {g : Gh} {lm : Nat → Nat} {K : LV → St → Option R} {r : R}

theorem SR.drew (hs : SR nt st a w g lm) : SR nt st a w.drew g lm := hs.keep (drew_Wf hs.wf) rfl (fun hd _ _ _ => drew_Kp w g hd)
theorem SR.new (hs : SR nt st a w g lm) (c : Array Value) (e : TypeId) (hd : Hd) (fz : Nat × Nat := (0, 0)) : SR nt st a (w.alloc (.cells c e fz)) (gNew w g hd) lm :=
  hs.keep (new_Wf hs.wf c e hd fz) rfl (fun _ _ _ _ => new_Kp hs.wf _ _ _)

/-- A new slice. -/
theorem SR.new_ow (hs : SR nt st a w g lm) (c : Array Value) (e : TypeId) (fz : Nat × Nat) (hfz : fz.2 = 0 ∨ c.size ≤ fz.1) (n cap : Nat) (hn : 0 < n) (hz : c.size = cap * n) (xs : List (List AV)) (hl : xs.length ≤ cap)
    (hx : ∀ (k : Nat) (x : List AV), xs[k]? = some x → x.length = n)
    (hc : ∀ (k : Nat) (x : List AV) (j : Nat) (y : AV), xs[k]? = some x → x[j]? = some y → ∃ u, c[k * n + j]? = some u ∧ Rep w g y u ∧ y.one = true) :
    SR nt st a (w.alloc (.cells c e fz)) (gNew w g (.res 0)) lm ∧ Tr w g (w.alloc (.cells c e fz)) (gNew w g (.res 0)) ∧
      RepV (w.alloc (.cells c e fz)) (gNew w g (.res 0)) lm st.nl .res (.ow n xs) (.slice (some ⟨w.heap.size, 0, none⟩) xs.length cap) := by
  refine ⟨hs.new c e _ fz, new_Tr hs.wf _ _, by simp, ?_⟩
  have L := new_Le hs.wf (.cells c e fz) (.res 0)
  refine .blk xs w.heap.size cap c e fz (fun k j => c.getD (k * n + j) undef) hl hn hx (alloc_new w _) hfz hz (by simp only [gNew, upd_same]) (by show g.sl _ ≤ _; rw [hs.wf.sl _ (Nat.le_refl _)]; omega) (fun k x j y hk hj => ?_) (fun k x j y hk hj => ?_)
  · obtain ⟨u, hu, _, h1⟩ := hc k x j y hk hj
    exact ⟨by simp [Array.getD_eq_getD_getElem?, hu], h1⟩
  · obtain ⟨u, hu, hr, _⟩ := hc k x j y hk hj
    simpa [Array.getD_eq_getD_getElem?, hu] using hr.mono L

theorem zeroC_spec {t : TypeId} {zc : List AV} (h : zeroC P t = some zc) :
    ∃ i z, P.info? t = some i ∧ i.zero = some z ∧ zc.length = z.cells.size ∧ ∀ (j : Nat) (x : AV), zc[j]? = some x → ∃ u, z.cells[j]? = some u ∧ x.one = true ∧ ∀ (w : World) (g : Gh), Rep w g x u := by
  unfold zeroC at h
  simp only [Option.bind_eq_some_iff] at h
  obtain ⟨i, hi, z, hz, h⟩ := h
  have key : ∀ (l : List Value) (zc : List AV), avCs l = some zc → zc.length = l.length ∧ ∀ (j : Nat) (x : AV), zc[j]? = some x → ∃ u, l[j]? = some u ∧ x.one = true ∧ ∀ (w : World) (g : Gh), Rep w g x u := by
    intro l
    induction l with
    | nil => intro zc h; simp only [avCs, Option.some.injEq] at h; subst h; simp
    | cons u l ih =>
      intro zc h
      simp only [avCs, Option.bind_eq_some_iff, Option.some.injEq] at h
      obtain ⟨y, hy, ys, hys, rfl⟩ := h
      obtain ⟨hl, hc⟩ := ih ys hys
      refine ⟨by simp [hl], fun j x hj => ?_⟩
      cases j with
      | zero => simp at hj; subst hj; exact ⟨u, by simp, avC_one hy, fun w g => avC_rep hy⟩
      | succ j => simp at hj; obtain ⟨u', h1, h2⟩ := hc j x hj; exact ⟨u', by simpa using h1, h2⟩
  obtain ⟨hl, hc⟩ := key _ _ h
  exact ⟨i, z, hi, hz, by simpa using hl, fun j x hj => by
    obtain ⟨u, hu, h2⟩ := hc j x hj
    exact ⟨u, by simpa using hu, h2⟩⟩

/-- Elements of n cells, one behind the other. -/
def Elems (w : World) (g : Gh) (n : Nat) (xs : List (List AV)) (c : Array Value) : Prop :=
  (∀ (k : Nat) (x : List AV), xs[k]? = some x → x.length = n) ∧
  ∀ (k : Nat) (x : List AV) (j : Nat) (y : AV), xs[k]? = some x → x[j]? = some y → ∃ u, c[k * n + j]? = some u ∧ Rep w g y u ∧ y.one = true
theorem Elems.mono {w' : World} {g' : Gh} {n : Nat} {xs : List (List AV)} {c : Array Value} (h : Elems w g n xs c) (L : Le w g w' g') : Elems w' g' n xs c :=
  ⟨h.1, fun k x j y hk hj => by obtain ⟨u, hu, hr, h1⟩ := h.2 k x j y hk hj; exact ⟨u, hu, hr.mono L, h1⟩⟩

theorem zeros_elems {t : TypeId} {zc : List AV} {z : Value} {i : TypeInfo} (hzc : zeroC P t = some zc) (hi : P.info? t = some i) (hz : i.zero = some z) {n : Nat} (hn : zc.length = n) (len : Nat) :
    Elems w g n (List.replicate len zc) (((Array.range (len * n)).map (z.cells[· % z.cells.size]!)) : Array Value) := by
  obtain ⟨i', z', hi', hz', hl, hc⟩ := zeroC_spec hzc
  rw [hi] at hi'
  simp only [Option.some.injEq] at hi'
  subst hi'
  rw [hz] at hz'
  simp only [Option.some.injEq] at hz'
  subst hz'
  refine ⟨fun k x hk => ?_, fun k x j y hk hj => ?_⟩
  · rw [List.getElem?_replicate] at hk
    split at hk
    · simp only [Option.some.injEq] at hk; subst hk; exact hn
    · cases hk
  · rw [List.getElem?_replicate] at hk
    split at hk
    · rename_i hlt
      simp only [Option.some.injEq] at hk
      subst hk
      obtain ⟨u, hu, h1, hr⟩ := hc j y hj
      have hjn : j < n := by rw [← hn]; exact (List.getElem?_eq_some_iff.1 hj).1
      have hmod : (k * n + j) % z.cells.size = j := by
        rw [← hl, hn, Nat.add_comm, Nat.add_mul_mod_self_right, Nat.mod_eq_of_lt hjn]
      have hlt2 : k * n + j < len * n := by
        have : (k + 1) * n ≤ len * n := Nat.mul_le_mul_right n hlt
        rw [Nat.succ_mul] at this; omega
      refine ⟨u, ?_, hr w g, h1⟩
      have hju : j < z.cells.size := (Array.getElem?_eq_some_iff.1 hu).1
      have e : z.cells[j] = u := (Array.getElem?_eq_some_iff.1 hu).2
      simp [hlt2, hmod, hju, e]
    · cases hk

theorem blsA_ok {n : Nat} (h0 : 0 < n) : ∀ (ps : List (Nat × AV)) (parts : List (Nat × Value)) (xs xs' : List (List AV)) (c : Array Value), ps.length = parts.length → c.size = xs.length * n → Elems w g n xs c →
    (∀ (i : Nat) (x : Nat × AV) (v : Nat × Value), ps[i]? = some x → parts[i]? = some v → x.1 = v.1 ∧ Rep w g x.2 v.2) → blsA n xs ps = some xs' →
    ∃ c', Instr.fill (fun i => some (i * n, n)) c parts = some c' ∧ c'.size = c.size ∧ xs'.length = xs.length ∧ Elems w g n xs' c'
  | [], [], xs, xs', c, _, _, he, _, h => by
    simp only [blsA, Option.some.injEq] at h
    subst h
    exact ⟨c, rfl, rfl, rfl, he⟩
  | [], _ :: _, _, _, _, hl, _, _, _, _ => by simp at hl
  | _ :: _, [], _, _, _, hl, _, _, _, _ => by simp at hl
  | (i, p) :: ps, (i', v) :: parts, xs, xs', c, hl, hz, he, hr, h => by
    obtain ⟨e1, hr0⟩ := hr 0 (i, p) (i', v) rfl rfl
    simp only at e1 hr0
    subst e1
    simp only [blsA, Option.bind_eq_some_iff] at h
    obtain ⟨ds, hds, h⟩ := h
    by_cases hb : Nat.blt i xs.length = true
    · rw [hb, cond_true] at h
      have hlt : i < xs.length := Nat.le_of_ble_eq_true hb
      obtain ⟨hdl, hvl, hdc⟩ := Arg.toC hr0 hds
      have hin : i * n + n ≤ c.size := by
        have : (i + 1) * n ≤ xs.length * n := Nat.mul_le_mul_right n hlt
        rw [Nat.succ_mul] at this; omega
      have hE : Elems w g n (xs.set i ds) (setPart c (i * n) v) := by
        refine ⟨fun k x hk => ?_, fun k x j y hk hj => ?_⟩
        · rw [List.getElem?_set] at hk
          split at hk
          · simp only [Option.some.injEq] at hk; subst hk; exact hdl
          · exact he.1 k x hk
        · rw [setPart_get, hvl]
          rw [List.getElem?_set] at hk
          split at hk
          · rename_i e
            subst e
            simp only [Option.some.injEq] at hk
            subst hk
            obtain ⟨u, hu, h2⟩ := hdc j y hj
            have hjn : j < n := by rw [← hdl]; exact (List.getElem?_eq_some_iff.1 hj).1
            refine ⟨u, ?_, h2⟩
            rw [if_pos (by omega), show i * n + j - i * n = j by omega]
            exact hu
          · rename_i hne
            obtain ⟨u, hu, h2⟩ := he.2 k x j y hk hj
            refine ⟨u, ?_, h2⟩
            have hjn : j < n := by rw [← he.1 k x hk]; exact (List.getElem?_eq_some_iff.1 hj).1
            rw [if_neg ?_]
            · exact hu
            · intro hcond
              rcases Nat.lt_or_gt_of_ne hne with h1 | h1
              · have : (i + 1) * n ≤ k * n := Nat.mul_le_mul_right n h1
                rw [Nat.succ_mul] at this; omega
              · have : (k + 1) * n ≤ i * n := Nat.mul_le_mul_right n h1
                rw [Nat.succ_mul] at this; omega
      obtain ⟨c', hf, hz', hl', he'⟩ := blsA_ok h0 ps parts (xs.set i ds) xs' (setPart c (i * n) v) (by simpa using hl) (by rw [setPart_size]; simpa using hz) hE (fun j x u hj hu => hr (j + 1) x u (by simpa using hj) (by simpa using hu)) h
      exact ⟨c', by rw [fill_cons rfl hvl hin]; exact hf, hz'.trans (setPart_size _ _ _), by simpa using hl', he'⟩
    · rw [Bool.eq_false_iff.2 hb] at h; cases h

theorem good_buildSlice {t : TypeId} {len : Nat} {parts : Array (Nat × Operand)} (ho : o.op = .buildSlice t len parts) (hs : SR nt st a w g lm)
    (h : ((elemTy P t).bind fun e => (tyz P e).bind fun z => (zeroC P e).bind fun zc => rvp st parts.toList fun ps =>
      bif Nat.beq zc.length z.1 && Nat.ble (len * z.1) 16777216 && Nat.blt 0 z.1 then
      (blsA z.1 (List.replicate len zc) ps).bind fun xs => K (.ow z.1 xs) st else none) = some r) : Good P nt o a w g K r := by
  simp only [Option.bind_eq_some_iff] at h
  obtain ⟨e, he, z, hz, zc, hzc, h⟩ := h
  have hu := elemTy_spec he
  obtain ⟨i, d, hi, hsz, _, _⟩ := tyz_spec hz
  obtain ⟨i', zv, hi', hzv, hzl, _⟩ := zeroC_spec hzc
  rw [hi] at hi'
  simp only [Option.some.injEq] at hi'
  subst hi'
  obtain ⟨ps, h, hl, g1, s1, t1, r1⟩ := rvp_ok _ _ _ hs h
  by_cases hc : (Nat.beq zc.length z.1 && Nat.ble (len * z.1) 16777216 && Nat.blt 0 z.1) = true
  · rw [hc, cond_true] at h
    simp only [Bool.and_eq_true] at hc
    obtain ⟨⟨c1, c2⟩, c3⟩ := hc
    have c1 := Nat.eq_of_beq_eq_true c1
    have c2 := Nat.le_of_ble_eq_true c2
    have c3 : 0 < z.1 := Nat.le_of_ble_eq_true c3
    simp only [Option.bind_eq_some_iff] at h
    obtain ⟨xs, hxs, h⟩ := h
    obtain ⟨c', hf, hz', hl', he'⟩ := blsA_ok (w := w) (g := g1) c3 ps (parts.toList.map fun (i, x) => (i, a.eval x)) (List.replicate len zc) xs ((Array.range (len * z.1)).map (zv.cells[· % zv.cells.size]!)) (by simpa using hl) (by simp)
      (zeros_elems hzc hi hzv c1 len) (fun j x v hj hv => by
        rw [List.getElem?_map] at hv
        cases hp : parts.toList[j]? with
        | none => rw [hp] at hv; cases hv
        | some q =>
          rw [hp] at hv
          simp only [Option.map_some, Option.some.injEq] at hv
          subst hv
          exact r1 j x q hj hp) hxs
    have hxl : xs.length = len := by simpa using hl'
    refine Good.pre t1 ?_
    by_cases hlen : len = 0
    · subst hlen
      have hxs0 : xs = [] := List.eq_nil_of_length_eq_zero hxl
      subst hxs0
      refine ⟨_, st, h, OpOk.value (v := .slice (some ⟨w.heap.size, 0, none⟩) 0 0) (w' := w.alloc (.cells c' e)) ?_ (s1.new c' e (.res 0)) (new_Tr s1.wf _ _) ⟨by simp, .emp _⟩⟩
      simp only [execOp, ho]
      refine run_pureV ?_
      have hf' : Instr.fill (fun i_1 => some (i_1 * i.size, i.size)) #[] (parts.toList.map fun (i, x) => (i, a.eval x)) = some c' := by
        rw [hsz]; simpa [Array.range_zero'] using hf
      have hf2 : Instr.fill (fun i_1 => some (i_1 * i.size, i.size)) #[] ((parts.map fun (i, x) => (i, a.eval x)).toList) = some c' := by
        rw [Array.toList_map]; exact hf'
      simp only [Instr.buildSlice, Sem.run_bind, run_underlying hu, Result.andThen_ok, run_sizeOf hi, Nat.zero_mul]
      simp only [Nat.not_lt_zero, gt_iff_lt, if_false, if_true, Sem.run_pure, Sem.run_bind, Result.andThen_ok, Array.range_zero', Array.map_empty, hf2]
      simp [newRow]
    · have hpos : ¬ len * i.size = 0 := by rw [hsz]; exact Nat.mul_ne_zero hlen (by omega)
      obtain ⟨s2, t2, r2⟩ := s1.new_ow c' e (0, 0) (.inl rfl) z.1 len c3 (by rw [hz']; simp) xs (by omega) he'.1 he'.2
      rw [hxl] at r2
      refine ⟨_, st, h, OpOk.value (v := .slice (some ⟨w.heap.size, 0, none⟩) len len) (w' := w.alloc (.cells c' e)) ?_ s2 t2 r2⟩
      simp only [execOp, ho]
      refine run_pureV (run_buildSlice w t e len _ c' i zv hu hi hzv (by rw [hsz]; omega) hpos ?_)
      rw [hsz]; simpa using hf
  · rw [Bool.eq_false_iff.2 hc] at h; cases h

end Go.Proofs.Am
