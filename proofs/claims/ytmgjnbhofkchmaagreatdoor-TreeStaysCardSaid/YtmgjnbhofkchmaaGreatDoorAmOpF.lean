/-
  Values that are made: structs, new blocks.
-/
import Derived.Test.YtmgjnbhofkchmaaGreatDoorAmOpE
import Derived.Great.BuildSlice
import Derived.Laws.MakeOwn

namespace Go.Proofs.Am
open Go

variable {R : Type} {P : Program} {nt : Nat} {o : Oper} {st : St} {a : Act} {w : World} {g : Gh} {lm : Nat → Nat} {K : LV → St → Option R} {r : R}

theorem Arg.toC {p : AV} {v : Value} {n : Nat} {cs : List AV} (hr : Rep w g p v) (h : p.toC n = some cs) :
    cs.length = n ∧ v.cells.size = n ∧ ∀ (j : Nat) (c : AV), cs[j]? = some c → ∃ u, v.cells[j]? = some u ∧ Rep w g c u ∧ c.one = true := by
  have one : p.one = true → (bif Nat.beq n 1 then some [p] else none) = some cs → cs.length = n ∧ v.cells.size = n ∧ ∀ (j : Nat) (c : AV), cs[j]? = some c → ∃ u, v.cells[j]? = some u ∧ Rep w g c u ∧ c.one = true := by
    intro h1 h
    by_cases e : Nat.beq n 1 = true
    · rw [e, cond_true, Option.some.injEq] at h
      subst h
      have e := Nat.eq_of_beq_eq_true e
      subst e
      have hv := (hr.oneCell h1).1
      rw [hv]
      refine ⟨rfl, rfl, fun j c hj => ?_⟩
      cases j with
      | zero => simp at hj; subst hj; exact ⟨v, by simp, hr, h1⟩
      | succ j => simp at hj
    · rw [Bool.eq_false_iff.2 e] at h; cases h
  cases p with
  | agg xs =>
    simp only [AV.toC] at h
    by_cases e : Nat.beq xs.length n = true
    · rw [e, cond_true, Option.some.injEq] at h
      subst h
      have e := Nat.eq_of_beq_eq_true e
      have hv : ∃ vs, v = .agg vs := by cases hr; exact ⟨_, rfl⟩
      obtain ⟨vs, rfl⟩ := hv
      obtain ⟨hl, hc⟩ := agg_cells hr
      exact ⟨e, by simp only [Value.cells]; omega, hc⟩
    · rw [Bool.eq_false_iff.2 e] at h; cases h
  | _ => exact one rfl h

theorem gd_eq {cs : List AV} {j : Nat} {c : AV} (h : cs[j]? = some c) : gd cs j = c := by simp [gd, List.getD_eq_getElem?_getD, h]

/-! ### 1. Cells that are set -/
theorem fold_get (off : Nat) : ∀ (vs : List Value) (s : Nat) (cells : Array Value) (k : Nat),
    ((vs.zipIdx s).foldl (fun (cs : Array Value) (x : Value × Nat) => cs.setIfInBounds (off + x.2) x.1) cells)[k]? =
      if off + s ≤ k ∧ k < off + s + vs.length ∧ k < cells.size then vs[k - (off + s)]? else cells[k]?
  | [], s, cells, k => by
    simp only [List.zipIdx_nil, List.foldl_nil, List.length_nil]
    rw [if_neg (by omega)]
  | v :: vs, s, cells, k => by
    simp only [List.zipIdx_cons, List.foldl_cons]
    rw [fold_get off vs (s + 1)]
    simp only [Array.size_setIfInBounds, List.length_cons, Array.getElem?_setIfInBounds]
    by_cases h1 : k = off + s
    · subst h1
      by_cases h2 : off + s < cells.size
      · rw [if_neg (by omega), if_pos rfl, if_pos h2, if_pos (by omega)]
        simp
      · rw [if_neg (by omega), if_pos rfl, if_neg h2, if_neg (by omega)]
        rw [Array.getElem?_eq_none (by omega)]
    · by_cases h3 : off + (s + 1) ≤ k ∧ k < off + (s + 1) + vs.length ∧ k < cells.size
      · rw [if_pos h3, if_pos (by omega)]
        rw [show k - (off + s) = (k - (off + (s + 1))) + 1 by omega, List.getElem?_cons_succ]
      · rw [if_neg h3, if_neg (by omega), if_neg (by omega)]
theorem fold_size (off : Nat) : ∀ (vs : List Value) (s : Nat) (cells : Array Value), ((vs.zipIdx s).foldl (fun (cs : Array Value) (x : Value × Nat) => cs.setIfInBounds (off + x.2) x.1) cells).size = cells.size
  | [], _, _ => rfl
  | v :: vs, s, cells => by simp only [List.zipIdx_cons, List.foldl_cons]; rw [fold_size off vs (s + 1)]; simp

/-- One part, set. -/
def setPart (cells : Array Value) (off : Nat) (v : Value) : Array Value := v.cells.zipIdx.foldl (fun cs (c, j) => cs.setIfInBounds (off + j) c) cells
theorem setPart_get (cells : Array Value) (off : Nat) (v : Value) (k : Nat) :
    (setPart cells off v)[k]? = if off ≤ k ∧ k < off + v.cells.size ∧ k < cells.size then v.cells[k - off]? else cells[k]? := by
  unfold setPart
  rw [← Array.foldl_toList, Array.toList_zipIdx]
  have := fold_get off v.cells.toList 0 cells k
  simp only [Nat.add_zero, Array.length_toList, Array.getElem?_toList] at this
  exact this
theorem setPart_size (cells : Array Value) (off : Nat) (v : Value) : (setPart cells off v).size = cells.size := by
  unfold setPart
  rw [← Array.foldl_toList, Array.toList_zipIdx]
  exact fold_size off v.cells.toList 0 cells
theorem fill_cons {place : Nat → Option (Nat × Nat)} {cells : Array Value} {i : Nat} {v : Value} {rest : List (Nat × Value)} {off size : Nat} (h : place i = some (off, size)) (h1 : v.cells.size = size) (h2 : off + size ≤ cells.size) :
    Instr.fill place cells ((i, v) :: rest) = Instr.fill place (setPart cells off v) rest := by
  simp only [Instr.fill, h]
  rw [if_neg (by simp [h1]; omega)]
  rfl

/-! ### 2. A struct -/
theorem zeroLs_len (P : Program) : ∀ (ts : List TypeId) (zs : List Value), (zeroLs P ts zs).length = zs.length
  | [], [] => rfl
  | [], z :: zs => by simp [zeroLs, zeroLs_len P [] zs]
  | _ :: _, [] => rfl
  | t :: ts, z :: zs => by simp [zeroLs, zeroLs_len P ts zs]
theorem zeroLs_get (P : Program) : ∀ (ts : List TypeId) (zs : List Value) (j : Nat) (x : LV), (zeroLs P ts zs)[j]? = some x → ∃ t z, zs[j]? = some z ∧ x = lvC P t z
  | [], [], j, x, h => by simp [zeroLs] at h
  | _ :: _, [], j, x, h => by simp [zeroLs] at h
  | [], z :: zs, 0, x, h => by simp [zeroLs] at h; exact ⟨0, z, by simp, h.symm⟩
  | [], z :: zs, j + 1, x, h => by simp [zeroLs] at h; obtain ⟨t, z', h1, h2⟩ := zeroLs_get P [] zs j x h; exact ⟨t, z', by simpa using h1, h2⟩
  | t :: ts, z :: zs, 0, x, h => by simp [zeroLs] at h; exact ⟨t, z, by simp, h.symm⟩
  | t :: ts, z :: zs, j + 1, x, h => by simp [zeroLs] at h; obtain ⟨t', z', h1, h2⟩ := zeroLs_get P ts zs j x h; exact ⟨t', z', by simpa using h1, h2⟩

/-- What a cell holds that owns no block yet. -/
def RepZ (w : World) (g : Gh) (x : LV) (v : Value) : Prop :=
  match x with
  | .un => True
  | .v a => Rep w g a v ∧ a.one = true
  | .ow _ xs => xs = [] ∧ ∃ ad, v = .slice ad 0 0
  | _ => False
theorem RepZ.mono {w w' : World} {g g' : Gh} {x : LV} {v : Value} (h : Le w g w' g') (r : RepZ w g x v) : RepZ w' g' x v := by
  cases x <;> simp only [RepZ] at r ⊢
  · exact ⟨r.1.mono h, r.2⟩
  · exact r
theorem RepZ.repC {x : LV} {v : Value} (r : RepZ w g x v) {hd : Hd} (h : hd ≠ .oth) : RepC w g hd x v := by
  cases x <;> simp only [RepZ] at r <;> simp only [RepC]
  · exact r
  · obtain ⟨rfl, ad, rfl⟩ := r
    exact ⟨h, .emp ad⟩
theorem lvC_repZ {t : TypeId} {c : Value} : RepZ w g (lvC P t c) c := by
  unfold lvC
  split
  · exact ⟨rfl, _, rfl⟩
  · cases hc : avC c with
    | none => exact trivial
    | some x => exact ⟨avC_rep hc, avC_one hc⟩

theorem zeroL_spec {t : TypeId} {zc : List LV} (h : zeroL P t = some zc) :
    ∃ i z, P.info? t = some i ∧ i.zero = some z ∧ zc.length = z.cells.size ∧ ∀ (j : Nat) (x : LV), zc[j]? = some x → ∃ u, z.cells[j]? = some u ∧ ∀ (w : World) (g : Gh), RepZ w g x u := by
  unfold zeroL at h
  simp only [Option.bind_eq_some_iff, Option.some.injEq] at h
  obtain ⟨i, hi, z, hz, rfl⟩ := h
  refine ⟨i, z, hi, hz, by rw [zeroLs_len]; simp, fun j x hj => ?_⟩
  obtain ⟨t', u, hu, rfl⟩ := zeroLs_get P _ _ j x hj
  exact ⟨u, by simpa using hu, fun w g => lvC_repZ⟩

theorem putN_len (cs : List LV) (o : Nat) (f : Nat → LV) : ∀ n, (putN cs o f n).length = cs.length
  | 0 => rfl
  | n + 1 => by simp [putN, putN_len cs o f n]
theorem putN_get (cs : List LV) (o : Nat) (f : Nat → LV) : ∀ (n k : Nat), (putN cs o f n)[k]? = if o ≤ k ∧ k < o + n ∧ k < cs.length then some (f (k - o)) else cs[k]?
  | 0, k => by rw [if_neg (by omega)]; rfl
  | n + 1, k => by
    simp only [putN, List.getElem?_set, putN_len, putN_get cs o f n k]
    by_cases h1 : o + n = k
    · subst h1
      by_cases h2 : o + n < cs.length
      · rw [if_pos rfl, if_pos h2, if_pos (by omega)]; congr 2; omega
      · rw [if_pos rfl, if_neg h2, if_neg (by omega), List.getElem?_eq_none (by omega)]
    · rw [if_neg h1]
      by_cases h3 : o ≤ k ∧ k < o + n ∧ k < cs.length
      · rw [if_pos h3, if_pos (by omega)]
      · rw [if_neg h3, if_neg (by omega)]

theorem bldK_ok {fs : List Field} {places : List (Nat × Nat)} (hp : fs.mapM (fun f => (P.info? f.type).map fun i => (f.offset, i.size)) = some places) :
    ∀ (parts : List (Nat × Operand)) (cs : List LV) (cells : Array Value) (g : Gh) (k : List LV → Option R), SR nt st a w g lm → cs.length = cells.size →
      (∀ (j : Nat) (x : LV), cs[j]? = some x → ∃ u, cells[j]? = some u ∧ RepZ w g x u) → bldK P fs st parts cs k = some r →
      ∃ cs' cells' g', k cs' = some r ∧ Instr.fill (places[·]?) cells (parts.map fun (i, x) => (i, a.eval x)) = some cells' ∧ SR nt st a w g' lm ∧ Qt w g w g' ∧ cs'.length = cells'.size ∧
        ∀ (j : Nat) (x : LV), cs'[j]? = some x → ∃ u, cells'[j]? = some u ∧ RepZ w g' x u
  | [], cs, cells, g, k, hs, hl, hc, h => ⟨cs, cells, g, h, rfl, hs, Qt.refl w g, hl, hc⟩
  | (i, x) :: parts, cs, cells, g, k, hs, hl, hc, h => by
    simp only [bldK, Option.bind_eq_some_iff] at h
    obtain ⟨f, hf, z, hz, p, hx, ds, hds, h⟩ := h
    by_cases hb : Nat.ble (f.offset + z.1) cs.length = true
    · rw [hb, cond_true] at h
      have hb := Nat.le_of_ble_eq_true hb
      obtain ⟨g1, s1, t1, r1⟩ := rv_ok hs hx
      obtain ⟨ti, d, hti, hsz, _, _⟩ := tyz_spec hz
      obtain ⟨hdl, hvl, hdc⟩ := Arg.toC r1 hds
      have hpl : places[i]? = some (f.offset, z.1) := by
        clear h
        induction fs generalizing places i with
        | nil => simp at hf
        | cons f0 fs ih =>
          simp only [List.mapM_cons, Option.bind_eq_bind, Option.pure_def, Option.bind_eq_some_iff] at hp
          obtain ⟨p0, hp0, ps, hps, e⟩ := hp
          simp only [Option.some.injEq] at e
          subst e
          cases i with
          | zero =>
            simp only [List.getElem?_cons_zero, Option.some.injEq] at hf
            subst hf
            simp only [hti, Option.map_some, Option.some.injEq] at hp0
            simp [← hp0, hsz]
          | succ i =>
            simp only [List.getElem?_cons_succ] at hf ⊢
            exact ih hps i hf
      have hrec := bldK_ok hp parts (putN cs f.offset (fun j => .v (gd ds j)) z.1) (setPart cells f.offset (a.eval x)) g1 k s1 (by rw [putN_len, setPart_size, hl]) (fun j y hj => ?_) h
      · obtain ⟨cs', cells', g', hk, hfill, hs', ht', hl', hc'⟩ := hrec
        refine ⟨cs', cells', g', hk, ?_, hs', t1.trans ht', hl', hc'⟩
        simp only [List.map_cons]
        rw [fill_cons hpl hvl (by omega)]
        exact hfill
      · rw [putN_get] at hj
        rw [setPart_get, hvl]
        split at hj
        · rename_i hcond
          simp only [Option.some.injEq] at hj
          subst hj
          obtain ⟨u, hu, hru, h1⟩ := hdc (j - f.offset) ds[j - f.offset] (List.getElem?_eq_getElem (by omega))
          refine ⟨u, ?_, ?_⟩
          · rw [if_pos (by omega)]; exact hu
          · rw [gd_eq (List.getElem?_eq_getElem (by omega))]; exact ⟨hru, h1⟩
        · rename_i hcond
          obtain ⟨u, hu, hru⟩ := hc j y hj
          have hlt : j < cs.length := (List.getElem?_eq_some_iff.1 hj).1
          refine ⟨u, ?_, ?_⟩
          · rw [if_neg (by omega)]; exact hu
          · exact hru.mono t1.le
    · rw [Bool.eq_false_iff.2 hb] at h; cases h

theorem good_build {t : TypeId} {parts : Array (Nat × Operand)} (ho : o.op = .build t parts) (hs : SR nt st a w g lm)
    (h : ((fieldsOf P t).bind fun fs => (zeroL P t).bind fun zc =>
      bif (fs.all fun f => (tyz P f.type).isSome) then bldK P fs st parts.toList zc fun cs => K (.ag cs) st else none) = some r) : Good P nt o a w g K r := by
  simp only [Option.bind_eq_some_iff] at h
  obtain ⟨fs, hfs, zc, hzc, h⟩ := h
  obtain ⟨fa, hfa, rfl⟩ := fieldsOf_spec hfs
  obtain ⟨i, z, hi, hz, hlen, hcells⟩ := zeroL_spec hzc
  by_cases hall : (fa.toList.all fun f => (tyz P f.type).isSome) = true
  · rw [hall, cond_true] at h
    have hp : ∃ places, fa.toList.mapM (fun f => (P.info? f.type).map fun i => (f.offset, i.size)) = some places := by
      generalize fa.toList = l at hall
      induction l with
      | nil => exact ⟨[], rfl⟩
      | cons f l ih =>
        simp only [List.all_cons, Bool.and_eq_true] at hall
        obtain ⟨ps, hps⟩ := ih hall.2
        obtain ⟨zf, hzf⟩ := Option.isSome_iff_exists.1 hall.1
        obtain ⟨ti, _, hti, _⟩ := tyz_spec hzf
        exact ⟨(f.offset, ti.size) :: ps, by simp [List.mapM_cons, hti, hps]⟩
    obtain ⟨places, hp⟩ := hp
    obtain ⟨cs', cells', g', hk, hfill, hs', ht', hl', hc'⟩ := bldK_ok hp parts.toList zc z.cells g _ hs hlen (fun j x hj => by
      obtain ⟨u, hu, hr⟩ := hcells j x hj
      exact ⟨u, hu, hr w g⟩) h
    refine Good.pre ht' (Good.pure hs' hk (v := .agg cells') ?_ ?_)
    · simp only [execOp, ho]
      refine run_pureV (run_build w t _ cells' ?_)
      unfold Program.built
      simp only [hi, hfa, hz, hp]
      simpa using hfill
    · exact ⟨cells', rfl, by omega, fun j x hj => by
        obtain ⟨u, hu, hr⟩ := hc' j x hj
        exact ⟨u, hu, hr.repC (by simp)⟩⟩
  · rw [Bool.eq_false_iff.2 hall] at h; cases h

end Go.Proofs.Am
