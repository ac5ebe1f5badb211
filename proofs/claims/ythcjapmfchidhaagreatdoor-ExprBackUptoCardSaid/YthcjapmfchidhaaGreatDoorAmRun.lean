/-
  Calls at their place, and all operations.
-/
import Derived.Test.YthcjapmfchidhaaGreatDoorAmOpN
namespace Go.Proofs.Am
open Go
variable {R : Type} {P : Program} {nt : Nat} {o : Oper} {st : St} {a : Act} {w : World} {g : Gh} {lm : Nat → Nat} {K : LV → St → Option R} {r : R}
def toNew (id nb : Nat) : Hd → Hd
 | .hcell i c => if i = id then .hcell nb c else .hcell i c
 | .hbox i => if i = id then .hbox nb else .hbox i
 | h => h
def gGrow (g : Gh) (id b : Nat) : Gh := { g with own := upd (fun k => toNew id g.nb (g.own k)) b (.hbox g.nb), nb := g.nb + 1, bm := upd g.bm g.nb b }
theorem SR.grow_heap (hs : SR nt st a w g lm) {id b : Nat} {bx : List LV} {w' : World} {c c' : Array Value} {e e' : TypeId} (hid : st.h.bx[id]? = some bx) (hne : bx ≠ [])
  (hc : w.heap[g.bm id]? = some (.cells c e (0, 0))) (hw : ∀ k, k < w.heap.size → k ≠ g.bm id → w'.heap[k]? = w.heap[k]?) (hz : w.heap.size ≤ w'.heap.size) (hos : w'.os = w.os) (htp : w'.tape = w.tape) (hou : w'.output = w.output)
  (hbz : ∀ n, bsz w (g.bm id) = some n → bsz w' (g.bm id) = some n) (hb : b = g.bm id ∨ w.heap.size ≤ b) (hc' : w'.heap[b]? = some (.cells c' e' (0, 0))) (l : List LV) (hl : l.length ≤ c'.size)
  (hx : ∀ (j : Nat) (x : LV), l[j]? = some x → ∃ u, c'[j]? = some u ∧ ((bx[j]? = some x ∧ c[j]? = some u) ∨ ∃ p, x = .v p ∧ Rep w g p u ∧ p.one = true)) :
  SR nt { st with h := { st.h with bx := st.h.bx.set id [] ++ [l] } } a w' (gGrow g id b) lm ∧ Tr w g w' (gGrow g id b) ∧ (gGrow g id b).nb = st.h.bx.length + 1 ∧ (gGrow g id b).bm st.h.bx.length = b := by
 obtain ⟨o1, o2, c0, e0, o3, o4, o5⟩ := hs.hp.2 id bx hid hne
 rw [hc] at o3
 simp only [Option.some.injEq, Obj.cells.injEq] at o3
 obtain ⟨rfl, rfl, _⟩ := o3
 have hnb := hs.hp.1
 have hidlt : id < g.nb := by rw [hnb]; exact (List.getElem?_eq_some_iff.1 hid).1
 have hbml : g.bm id < w.heap.size := heap_lt hc
 have hbl : b < w'.heap.size := heap_lt hc'
 have L : Le w g w' (gGrow g id b) := ⟨fun _ => Nat.le_refl _, fun k j hj => by
   have hk : k < w.heap.size := by
    rcases Nat.lt_or_ge k w.heap.size with h | h
    ·exact h
    ·rw [hs.wf.sl k h] at hj; omega
   refine Cl_eq_of_heap (hw k hk ?_)
   rintro rfl
   rw [o2] at hj; omega, by simp [gGrow], fun i hi => by simp only [gGrow]; rw [upd_ne _ _ (by omega)], fun k n hn => by
   by_cases h : k = g.bm id
   ·subst h; exact hbz n hn
   ·rw [bsz_eq_of_heap (hw k (bsz_lt hn) h)]; exact hn⟩
 have hne' : ∀ k, k < w.heap.size → k ≠ g.bm id → k ≠ b := by
  intro k h1 h2
  rcases hb with rfl | hb
  ·exact h2
  ·omega
 have K : ∀ hd, toNew id g.nb hd = hd → hd ≠ .hbox id → Kp w g w' (gGrow g id b) hd := fun hd h1 h2 => ⟨L, fun k hk ho => by
  have hkn : k ≠ g.bm id := by rintro rfl; rw [o1] at ho; exact h2 ho.symm
  exact ⟨hw k hk hkn, by simp only [gGrow]; rw [upd_ne _ _ (hne' k hk hkn), ho, h1], rfl⟩⟩
 have KN : ∀ j, Kp w (gRel g (toNew id g.nb)) w' (gGrow g id b) (.hcell g.nb j) := fun j => ⟨⟨L.sl, L.cell, L.nb, L.bm, L.sz⟩, fun k hk ho => by
  have hkn : k ≠ g.bm id := by rintro rfl; simp only [gRel, o1, toNew, if_true] at ho; cases ho
  refine ⟨hw k hk hkn, ?_, rfl⟩
  simp only [gGrow]; rw [upd_ne _ _ (hne' k hk hkn)]; exact ho⟩
 have tid : ∀ i, i ≠ id → toNew id g.nb (.hbox i) = .hbox i ∧ ∀ j, toNew id g.nb (.hcell i j) = .hcell i j := fun i hi => ⟨by simp [toNew, hi], fun j => by simp [toNew, hi]⟩
 have hw2 : Wf w' (gGrow g id b) := by
  refine ⟨fun k hk => ?_, fun k hk => hs.wf.sl k (Nat.le_trans hz hk), fun k hk => ?_⟩
  ·simp only [gGrow]; rw [upd_ne _ _ (by omega), hs.wf.own k (Nat.le_trans hz hk)]; rfl
  ·by_cases h : k = b
   ·subst h
    refine ⟨c'.size, bsz_of hc', ?_⟩
    show g.sl k ≤ _
    rcases hb with rfl | hb
    ·rw [o2]; omega
    ·rw [hs.wf.sl k hb]; omega
   ·simp only [gGrow] at hk
    rw [upd_ne _ _ h] at hk
    have ho : g.own k ≠ .oth := fun e => hk (by rw [e]; rfl)
    obtain ⟨n, h1, h2⟩ := hs.wf.fit k ho
    exact ⟨n, L.sz k n h1, h2⟩
 refine ⟨⟨hw2, hs.nt, hs.df, fun j => (hs.tm j).mono (fun c => K _ rfl (by simp)), hs.bx.keep (fun _ => K _ rfl (by simp)) (fun _ _ => K _ rfl (by simp)), ⟨by simp [gGrow, hnb], fun i bx' hi hne2 => ?_⟩⟩,
  ⟨L, hz, fun k hk ho => ?_, hos, htp, hou⟩, by simp [gGrow, hnb], by simp only [gGrow, ← hnb, upd_same]⟩
 ·dsimp only at hi
  by_cases h1 : i < st.h.bx.length
  ·rw [List.getElem?_append_left (by simpa using h1)] at hi
   have h2 : i ≠ id := by
    rintro rfl
    rw [List.getElem?_set_self h1] at hi
    cases hi; exact hne2 rfl
   rw [List.getElem?_set_ne (Ne.symm h2)] at hi
   obtain ⟨p1, p2, c2, e2, p3, p4, p5⟩ := hs.hp.2 i bx' hi hne2
   obtain ⟨q1, q2, q3⟩ := (K (.hbox i) (tid i h2).1 (by simpa using h2)).blk _ (heap_lt p3) p1
   have hbm : (gGrow g id b).bm i = g.bm i := L.bm i (by omega)
   rw [hbm]
   exact ⟨q2, q3.trans p2, c2, e2, q1.trans p3, p4, fun j x hj => by
    obtain ⟨u, hu, hr⟩ := p5 j x hj
    exact ⟨u, hu, hr.mono (K _ ((tid i h2).2 j) (by simp))⟩⟩
  ·rw [List.getElem?_append_right (by simpa using h1)] at hi
   have h2 : i = st.h.bx.length := by
    have := (List.getElem?_eq_some_iff.1 hi).1
    simp at this; omega
   subst h2
   simp only [List.length_set, Nat.sub_self, List.getElem?_cons_zero, Option.some.injEq] at hi
   subst hi
   have hbm : (gGrow g id b).bm st.h.bx.length = b := by simp only [gGrow, ← hnb, upd_same]
   rw [hbm]
   refine ⟨by simp only [gGrow, upd_same, hnb], ?_, c', e', hc', hl, fun j x hj => ?_⟩
   ·show g.sl b = 0
    rcases hb with rfl | hb
    ·exact o2
    ·exact hs.wf.sl b hb
   ·obtain ⟨u, hu, h | ⟨p, rfl, hr, ho⟩⟩ := hx j x hj
    ·obtain ⟨u', hu', hr⟩ := o5 j x h.1
     rw [h.2] at hu'
     simp only [Option.some.injEq] at hu'
     subst hu'
     refine ⟨u, hu, ?_⟩
     have hr2 := hr.rel (ρ := toNew id g.nb) (fun _ => by simp [toNew])
     simp only [toNew, if_true] at hr2
     rw [← hnb]
     exact hr2.mono (KN j)
    ·exact ⟨u, hu, hr.mono L, ho⟩
 ·have hkn : k ≠ g.bm id := by rintro rfl; rw [o1] at ho; cases ho
  exact ⟨hw k hk hkn, by simp only [gGrow]; rw [upd_ne _ _ (hne' k hk hkn), ho]; rfl, rfl⟩
theorem flatV_get {n : Nat} {ys : List (List AV)} (hn : ∀ (k : Nat) (x : List AV), ys[k]? = some x → x.length = n) {j : Nat} {y : LV} (h : (flatV ys)[j]? = some y) :
  ∃ (k : Nat) (x : List AV) (i : Nat) (p : AV), ys[k]? = some x ∧ x[i]? = some p ∧ j = k * n + i ∧ y = .v p := by
 unfold flatV at h
 rw [List.getElem?_map] at h
 cases hf : ys.flatten[j]? with
 | none => rw [hf] at h; cases h
 | some p =>
  rw [hf] at h
  simp only [Option.map_some, Option.some.injEq] at h
  subst h
  obtain ⟨k, x, i, h1, h2, h3⟩ := flat_get ys j p hn hf
  exact ⟨k, x, i, p, h1, h2, h3, rfl⟩
theorem flatV_len {n : Nat} {ys : List (List AV)} (hn : ∀ (k : Nat) (x : List AV), ys[k]? = some x → x.length = n) : (flatV ys).length = ys.length * n := by
 unfold flatV
 rw [List.length_map]
 exact flat_len ys hn
theorem elems_flat {n : Nat} {ys : List (List AV)} {news : List Value} (hE : Elems w g n ys news.toArray) {j : Nat} {y : LV} (h : (flatV ys)[j]? = some y) : ∃ p u, y = .v p ∧ news[j]? = some u ∧ Rep w g p u ∧ p.one = true := by
 obtain ⟨k, x, i, p, h1, h2, rfl, rfl⟩ := flatV_get hE.1 h
 obtain ⟨u, hu, hr, ho⟩ := hE.2 k x i p h1 h2
 exact ⟨p, u, rfl, by simpa using hu, hr, ho⟩
theorem first_none {P : Program} (w : World) (n : Nat) (ao : Option Addr) (c : Nat) : (Builtin.firstCells n 0 (.slice ao 0 c)).run P w = .ok ([] : List Value).toArray w := by
 cases ao with
 | none => simp [Builtin.firstCells]
 | some ad => exact run_firstCells_some w n 0 ad 0 c [] (by simp) (fun j u hj => by simp at hj)
theorem run_append_no {P : Program} {w : World} (t tx ty e : TypeId) (i : TypeInfo) (ht : P.underlying t = some (.slice e)) (hi : P.info? e = some i) (base : Option Addr) (sLen sCap : Nat) (x : Value) (hs : Src P i.size tx x 0 [] w) (hroom : sLen ≤ sCap) :
  (Builtin.append_ #[t, tx] ty #[.slice base sLen sCap, x]).run P w = .ok (.slice base sLen sCap) w := by
 have e0 : ∀ b : Addr, (storeCells b []).run P w = .ok () w := fun _ => rfl
 cases base <;> rcases hs.kind with ⟨e', hk⟩ | hk <;> simp [Builtin.append_, run_underlying ht, run_underlying hk, sizeOf, typeInfo, hi, hs.len, hroom, hs.cells, e0]
theorem ap_hp (hs : SR nt st a w g lm) {t tx ty e : TypeId} {i : TypeInfo} (ht : P.underlying t = some (.slice e)) (hi : P.info? e = some i) {zc : List AV} (hzc : zeroC P e = some zc) (hzl : zc.length = i.size) (hpos : 0 < i.size)
  {p q : AV} {s v : Value} {ys : List (List AV)} {h' : Heap} (hr : Rep w g p s) {news : List Value} (hsrc : Src P i.size tx v ys.length news w) (hnl : news.length = ys.length * i.size) (hE : Elems w g i.size ys news.toArray)
  (h : apH st.h p i.size i.bytes ys = some (q, h')) :
  ∃ v' w' g', (Builtin.append_ #[t, tx] ty #[s, v]).run P w = .ok v' w' ∧ SR nt { st with h := h' } a w' g' lm ∧ Tr w g w' g' ∧ Rep w' g' q v' := by
 obtain ⟨i', z, hi', hz, hzz, _⟩ := zeroC_spec hzc
 rw [hi] at hi'
 simp only [Option.some.injEq] at hi'
 subst hi'
 have e1 : z.cells.size = i.size := by omega
 have hfl : (flatV ys).length = ys.length * i.size := flatV_len hE.1
 cases p <;> simp only [apH, reduceCtorEq] at h
 case nilS =>
  cases hb : (fitE i.size ys && roomW ys.length i.bytes && Nat.blt 0 ys.length) with
  | false => rw [hb] at h; cases h
  | true =>
  rw [hb, cond_true] at h
  simp only [Option.some.injEq, Prod.mk.injEq] at h
  obtain ⟨rfl, rfl⟩ := h
  simp only [Bool.and_eq_true] at hb
  obtain ⟨_, _, hfit⟩ := roomW_spec hb.1.2
  have hlen := roomW_len hb.1.2
  have hyl : 0 < ys.length := Nat.le_of_ble_eq_true hb.2
  cases hr
  have hrun := run_append_grow_src w t tx ty e i z ht hi hz none 0 0 [] (by simp [Builtin.firstCells]) v ys.length news hsrc (by omega) (by omega) (by rw [Nat.zero_add]; exact hfit 0 hyl)
  have hge := grownCap_ge w (0 + ys.length) 0 e
  let cs : Array Value := (([] : List Value) ++ news).toArray ++ Builtin.zeroCells z.cells (grownCap w (0 + ys.length) 0 e - (0 + ys.length))
  have hcs : cs.size = grownCap w (0 + ys.length) 0 e * i.size := by
   simp only [cs, Array.size_append, List.size_toArray, List.nil_append, hnl, Builtin.zeroCells, Array.size_map, Array.size_range, e1]
   rw [← Nat.add_mul]; congr 1; omega
  obtain ⟨s2, t2, r2⟩ := hs.drew.new_heap cs e (flatV ys) (by rw [hfl, hcs]; exact Nat.mul_le_mul_right _ (by omega)) (fun j y hj => by
   obtain ⟨p, u, rfl, hu, hr, ho⟩ := elems_flat hE hj
   have hlt : j < news.length := (List.getElem?_eq_some_iff.1 hu).1
   refine ⟨u, ?_, hr.mono (drew_Le w g), ho⟩
   simp only [cs, List.nil_append]
   rw [Array.getElem?_append_left (by simpa using hlt)]
   simpa using hu)
  refine ⟨_, _, _, hrun, s2, (drew_Tr w g).trans t2, ?_⟩
  have hsz : bsz (w.drew.alloc (.cells cs e)) w.drew.heap.size = some (0 + grownCap w (0 + ys.length) 0 e * i.size) := by rw [bsz_of (alloc_new w.drew _), hcs]; congr 1; omega
  have hnb := s2.hp.1
  simp only [newB, List.length_append, List.length_cons, List.length_nil] at hnb
  obtain ⟨hlt, hbm⟩ := ptr_inv r2
  simp only [Value.pointer.injEq, Option.some.injEq, Addr.mk.injEq, and_true] at hbm
  have hA := Rep.arr (w := w.drew.alloc (.cells cs e)) (g := gHeap w.drew g) i.size st.h.bx.length 0 (0 + ys.length) (grownCap w (0 + ys.length) 0 e) hlt (by omega) (by rw [← hbm]; exact hsz)
  rw [← hbm, World.size_drew] at hA
  have hav : AV.arr i.size st.h.bx.length 0 ys.length = AV.arr i.size st.h.bx.length 0 (0 + ys.length) := by rw [Nat.zero_add]
  rw [hav]
  exact hA
 case nilE =>
  cases hb : (fitE i.size ys && roomW ys.length i.bytes && Nat.blt 0 ys.length) with
  | false => rw [hb] at h; cases h
  | true =>
  rw [hb, cond_true] at h
  simp only [Option.some.injEq, Prod.mk.injEq] at h
  obtain ⟨rfl, rfl⟩ := h
  simp only [Bool.and_eq_true] at hb
  obtain ⟨_, _, hfit⟩ := roomW_spec hb.1.2
  have hlen := roomW_len hb.1.2
  have hyl : 0 < ys.length := Nat.le_of_ble_eq_true hb.2
  cases hr with
  | nilE ao =>
  have hrun := run_append_grow_src w t tx ty e i z ht hi hz ao 0 0 [] (first_none w.drew i.size ao 0) v ys.length news hsrc (by omega) (by omega) (by rw [Nat.zero_add]; exact hfit 0 hyl)
  have hge := grownCap_ge w (0 + ys.length) 0 e
  let cs : Array Value := (([] : List Value) ++ news).toArray ++ Builtin.zeroCells z.cells (grownCap w (0 + ys.length) 0 e - (0 + ys.length))
  have hcs : cs.size = grownCap w (0 + ys.length) 0 e * i.size := by
   simp only [cs, Array.size_append, List.size_toArray, List.nil_append, hnl, Builtin.zeroCells, Array.size_map, Array.size_range, e1]
   rw [← Nat.add_mul]; congr 1; omega
  obtain ⟨s2, t2, r2⟩ := hs.drew.new_heap cs e (flatV ys) (by rw [hfl, hcs]; exact Nat.mul_le_mul_right _ (by omega)) (fun j y hj => by
   obtain ⟨p, u, rfl, hu, hr, ho⟩ := elems_flat hE hj
   have hlt : j < news.length := (List.getElem?_eq_some_iff.1 hu).1
   refine ⟨u, ?_, hr.mono (drew_Le w g), ho⟩
   simp only [cs, List.nil_append]
   rw [Array.getElem?_append_left (by simpa using hlt)]
   simpa using hu)
  refine ⟨_, _, _, hrun, s2, (drew_Tr w g).trans t2, ?_⟩
  have hsz : bsz (w.drew.alloc (.cells cs e)) w.drew.heap.size = some (0 + grownCap w (0 + ys.length) 0 e * i.size) := by rw [bsz_of (alloc_new w.drew _), hcs]; congr 1; omega
  have hnb := s2.hp.1
  simp only [newB, List.length_append, List.length_cons, List.length_nil] at hnb
  obtain ⟨hlt, hbm⟩ := ptr_inv r2
  simp only [Value.pointer.injEq, Option.some.injEq, Addr.mk.injEq, and_true] at hbm
  have hA := Rep.arr (w := w.drew.alloc (.cells cs e)) (g := gHeap w.drew g) i.size st.h.bx.length 0 (0 + ys.length) (grownCap w (0 + ys.length) 0 e) hlt (by omega) (by rw [← hbm]; exact hsz)
  rw [← hbm, World.size_drew] at hA
  have hav : AV.arr i.size st.h.bx.length 0 ys.length = AV.arr i.size st.h.bx.length 0 (0 + ys.length) := by rw [Nat.zero_add]
  rw [hav]
  exact hA
 case arr m id off len =>
  cases hb : (Nat.beq m i.size && fitE i.size ys && roomW (len + ys.length) i.bytes && Nat.blt 0 ys.length) with
  | false => rw [hb] at h; cases h
  | true =>
  rw [hb, cond_true] at h
  simp only [Option.bind_eq_some_iff] at h
  obtain ⟨bx, hbx, h⟩ := h
  simp only [Bool.and_eq_true] at hb
  have hm := Nat.eq_of_beq_eq_true hb.1.1.1
  subst hm
  obtain ⟨_, _, hfit⟩ := roomW_spec hb.1.2
  have hlen := roomW_len hb.1.2
  have hyl : 0 < ys.length := Nat.le_of_ble_eq_true hb.2
  have hysz : 0 < ys.length * i.size := Nat.mul_pos hyl hpos
  cases hr with
  | arr _ _ _ _ cap hid hlc hsz =>
  have room : ∀ {c : Array Value} {e' : TypeId}, w.heap[g.bm id]? = some (.cells c e' (0, 0)) → c.size = off + cap * i.size → len + ys.length ≤ cap →
    (Builtin.append_ #[t, tx] ty #[.slice (some ⟨g.bm id, off, none⟩) len cap, v]).run P w = .ok (.slice (some ⟨g.bm id, off, none⟩) (len + ys.length) cap) (w.setRow (g.bm id) (rowSet c (off + len * i.size) news)) ∧
     off + len * i.size + news.length ≤ c.size := by
   intro c e' h4 hcz hrm
   have hsz2 : off + len * i.size + news.length ≤ c.size := by
    rw [hnl, hcz, Nat.add_assoc, ← Nat.add_mul]
    exact Nat.add_le_add_left (Nat.mul_le_mul_right _ hrm) _
   have hrun := run_append_room_src w t tx ty e i ht hi (g.bm id) off len cap v ys.length news hsrc hrm (fun j hj => by
    have : Cl w (g.bm id) (off + len * i.size + j) = c[off + len * i.size + j]? := Cl_of h4
    show (Cl w (g.bm id) (off + len * i.size + j)).isSome = true
    rw [this, Array.getElem?_eq_getElem (by omega)]; rfl) (fun j hj => frozen_no h4 (.inl rfl) (by omega))
   rw [setCells_row (g.bm id) news (off + len * i.size) c e' (0, 0) w h4 hsz2] at hrun
   exact ⟨hrun, hsz2⟩
  have hbsz : ∀ {c : Array Value} {e' : TypeId}, w.heap[g.bm id]? = some (.cells c e' (0, 0)) → c.size = off + cap * i.size := by
   intro c e' h4
   rw [bsz_of h4] at hsz
   simpa using hsz
  cases hin : Nat.ble (off + (len + ys.length) * i.size) bx.length with
  | true =>
   rw [hin, cond_true] at h
   simp only [Option.some.injEq, Prod.mk.injEq] at h
   obtain ⟨rfl, rfl⟩ := h
   have hin := Nat.le_of_ble_eq_true hin
   have hne : bx ≠ [] := by
    rintro rfl
    rw [List.length_nil, Nat.add_mul] at hin; omega
   obtain ⟨h2, h3, c, e', h4, h5, _⟩ := hs.hp.2 id bx hbx hne
   have hcz := hbsz h4
   have hrm : len + ys.length ≤ cap := by
    have : (len + ys.length) * i.size ≤ cap * i.size := by omega
    exact Nat.le_of_mul_le_mul_right this hpos
   obtain ⟨hrun, hsz2⟩ := room h4 hcz hrm
   obtain ⟨s2, t2⟩ := hs.write_heap (off := off + len * i.size) (l := flatV ys) (vs := news) hbx (by rw [hfl]; exact hysz) h4 (by rw [hfl, Nat.add_assoc, ← Nat.add_mul]; exact hin) (by rw [hnl, hfl]) (fun j y hj => by
    obtain ⟨p, u, rfl, hu, hr, ho⟩ := elems_flat hE hj
    exact ⟨u, hu, hr, ho⟩)
   refine ⟨_, _, _, hrun, s2, t2, ?_⟩
   refine .arr _ _ _ _ cap hid hrm ?_
   show bsz _ (g.bm id) = _
   exact t2.le.sz _ _ hsz
  | false =>
   rw [hin, cond_false] at h
   cases hg : (Nat.beq off 0 && Nat.ble (len * i.size) bx.length && Nat.blt 0 bx.length) with
   | false => rw [hg] at h; cases h
   | true =>
   rw [hg, cond_true] at h
   simp only [Option.some.injEq, Prod.mk.injEq] at h
   obtain ⟨rfl, rfl⟩ := h
   simp only [Bool.and_eq_true] at hg
   have ho0 := Nat.eq_of_beq_eq_true hg.1.1
   subst ho0
   have hle := Nat.le_of_ble_eq_true hg.1.2
   have hbl : 0 < bx.length := Nat.le_of_ble_eq_true hg.2
   have hne : bx ≠ [] := by rintro rfl; simp at hbl
   obtain ⟨h2, h3, c, e', h4, h5, h6⟩ := hs.hp.2 id bx hbx hne
   have hcz := hbsz h4
   rw [Nat.zero_add] at hcz
   have htl : (bx.take (len * i.size)).length = len * i.size := by rw [List.length_take]; omega
   by_cases hrm : len + ys.length ≤ cap
   ·obtain ⟨hrun, hsz2⟩ := room h4 (by rw [hcz, Nat.zero_add]) hrm
    rw [Nat.zero_add] at hrun hsz2
    have hrow := row_heap (c' := rowSet c (len * i.size) news) h4
    obtain ⟨s2, t2, hnb, hbm⟩ := hs.grow_heap (b := g.bm id) (w' := w.setRow (g.bm id) (rowSet c (len * i.size) news)) hbx hne h4 (fun k _ hk => setRow_other w _ k _ hk) (by rw [row_size]; exact Nat.le_refl _) rfl rfl rfl
     (fun n hn => by rw [bsz_of hrow, rowSet_size hsz2]; rw [bsz_of h4] at hn; exact hn) (.inl rfl) hrow (bx.take (len * i.size) ++ flatV ys) (by rw [List.length_append, htl, hfl, rowSet_size hsz2, ← hnl]; exact hsz2) (fun j x hj => by
      rw [List.getElem?_append] at hj
      split at hj
      ·rename_i hlt
       rw [htl] at hlt
       rw [List.getElem?_take, if_pos hlt] at hj
       obtain ⟨u, hu, _⟩ := h6 j x hj
       exact ⟨u, by rw [rowSet_get hsz2, if_neg (by omega)]; exact hu, .inl ⟨hj, hu⟩⟩
      ·rename_i hge
       rw [htl] at hge hj
       obtain ⟨p, u, rfl, hu, hr, ho⟩ := elems_flat hE hj
       have hlt : j - len * i.size < news.length := (List.getElem?_eq_some_iff.1 hu).1
       exact ⟨u, by rw [rowSet_get hsz2, if_pos (by omega)]; exact hu, .inr ⟨p, rfl, hr, ho⟩⟩)
    refine ⟨_, _, _, hrun, s2, t2, ?_⟩
    have hA := Rep.arr (w := w.setRow (g.bm id) (rowSet c (len * i.size) news)) (g := gGrow g id (g.bm id)) i.size st.h.bx.length 0 (len + ys.length) cap (by rw [hnb]; omega) hrm (by rw [hbm]; exact t2.le.sz _ _ hsz)
    rw [hbm] at hA
    exact hA
   ·let olds : List Value := c.toList.take (len * i.size)
    have hol : olds.length = len * i.size := by simp [olds]; omega
    have hold : (Builtin.firstCells i.size len (.slice (some ⟨g.bm id, 0, none⟩) len cap)).run P w.drew = .ok olds.toArray w.drew := by
     refine run_firstCells_some w.drew i.size len ⟨g.bm id, 0, none⟩ len cap olds hol (fun j u hj => ?_)
     rw [Addr.add_mid, World.cell?_drew]
     show Cl w (g.bm id) (0 + j) = _
     rw [Cl_of h4, Nat.zero_add]
     simp only [olds, List.getElem?_take] at hj
     split at hj
     ·simpa using hj
     ·cases hj
    have hrun := run_append_grow_src w t tx ty e i z ht hi hz (some ⟨g.bm id, 0, none⟩) len cap olds hold v ys.length news hsrc (by omega) (by omega) (hfit cap (by omega))
    have hge := grownCap_ge w (len + ys.length) cap e
    let cs : Array Value := (olds ++ news).toArray ++ Builtin.zeroCells z.cells (grownCap w (len + ys.length) cap e - (len + ys.length))
    have hcs : cs.size = grownCap w (len + ys.length) cap e * i.size := by
     simp only [cs, Array.size_append, List.size_toArray, List.length_append, hol, hnl, Builtin.zeroCells, Array.size_map, Array.size_range, e1]
     rw [← Nat.add_mul, ← Nat.add_mul]; congr 1; omega
    have hnew : (w.drew.alloc (.cells cs e)).heap[w.heap.size]? = some (.cells cs e (0, 0)) := by
     have := alloc_new w.drew (.cells cs e)
     rwa [World.size_drew] at this
    have hsame : ∀ k, k < w.heap.size → (w.drew.alloc (.cells cs e)).heap[k]? = w.heap[k]? := fun k hk => alloc_heap w.drew _ hk
    obtain ⟨s2, t2, hnb, hbm⟩ := hs.grow_heap (b := w.heap.size) (w' := w.drew.alloc (.cells cs e)) hbx hne h4 (fun k hk _ => hsame k hk) (by simp) rfl rfl rfl
     (fun n hn => by rw [bsz_eq_of_heap (hsame _ (bsz_lt hn))]; exact hn) (.inr (Nat.le_refl _)) hnew (bx.take (len * i.size) ++ flatV ys)
     (by rw [List.length_append, htl, hfl, hcs, ← Nat.add_mul]; exact Nat.mul_le_mul_right _ hge) (fun j x hj => by
      rw [List.getElem?_append] at hj
      split at hj
      ·rename_i hlt
       rw [htl] at hlt
       rw [List.getElem?_take, if_pos hlt] at hj
       obtain ⟨u, hu, _⟩ := h6 j x hj
       refine ⟨u, ?_, .inl ⟨hj, hu⟩⟩
       simp only [cs]
       rw [Array.getElem?_append_left (by simp; omega), List.getElem?_toArray, List.getElem?_append_left (by omega)]
       simp only [olds, List.getElem?_take]
       rw [if_pos hlt, Array.getElem?_toList]; exact hu
      ·rename_i hge'
       rw [htl] at hge' hj
       obtain ⟨p, u, rfl, hu, hr, ho⟩ := elems_flat hE hj
       have hlt : j - len * i.size < news.length := (List.getElem?_eq_some_iff.1 hu).1
       refine ⟨u, ?_, .inr ⟨p, rfl, hr, ho⟩⟩
       simp only [cs]
       rw [Array.getElem?_append_left (by simp; omega), List.getElem?_toArray, List.getElem?_append_right (by omega), hol]
       exact hu)
    refine ⟨_, _, _, hrun, s2, t2, ?_⟩
    have hA := Rep.arr (w := w.drew.alloc (.cells cs e)) (g := gGrow g id w.heap.size) i.size st.h.bx.length 0 (len + ys.length) (grownCap w (len + ys.length) cap e) (by rw [hnb]; omega) hge (by rw [hbm, bsz_of hnew, hcs, Nat.zero_add])
    rw [hbm] at hA
    exact hA
theorem src_any {ar : Bool} {n : Nat} {t1 : Option TypeId} {y : Operand} {p : AV} {ys : List (List AV)} (hs : SR nt st a w g lm) (hp : st.rv y = some p) (h : elX P st.h ar t1 n p = some ys) (hf : fitE n ys = true) :
  ∃ g' tx, t1 = some tx ∧ SR nt st a w g' lm ∧ Qt w g w g' ∧ ∃ news, Src P n tx (a.eval y) ys.length news w ∧ news.length = ys.length * n ∧ Elems w g' n ys news.toArray := by
 obtain ⟨g1, s1, q1, r1⟩ := rv_ok hs hp
 cases ar with
 | true =>
  simp only [elX, cond_true, Option.bind_eq_some_iff] at h
  obtain ⟨e2, ⟨tx, htx, he2⟩, hys⟩ := h
  obtain ⟨g2, s2, q2, news, h1, h2, h3⟩ := src_ofH (P := P) s1 r1 (elemTy_spec he2) hys
  exact ⟨g2, tx, htx, s2, q1.trans q2, news, h1, h2, h3⟩
 | false =>
  simp only [elX, cond_false] at h
  cases t1 with
  | none => simp [elA] at h
  | some tx =>
   rw [Option.bind_some] at h
   obtain ⟨news, h1, h2, h3⟩ := src_of (P := P) (tx := tx) r1 h hf
   exact ⟨g1, tx, rfl, s1, q1, news, h1, h2, h3⟩
theorem apH_fit {h : Heap} {x : AV} {n bytes : Nat} {ys : List (List AV)} {q : AV × Heap} (hq : apH h x n bytes ys = some q) : fitE n ys = true := by
 cases x <;> simp only [apH, reduceCtorEq] at hq
 case nilS =>
  cases hb : (fitE n ys && roomW ys.length bytes && Nat.blt 0 ys.length) with
  | false => rw [hb] at hq; cases hq
  | true => simp only [Bool.and_eq_true] at hb; exact hb.1.1
 case nilE =>
  cases hb : (fitE n ys && roomW ys.length bytes && Nat.blt 0 ys.length) with
  | false => rw [hb] at hq; cases hq
  | true => simp only [Bool.and_eq_true] at hb; exact hb.1.1
 case arr m id off len =>
  cases hb : (Nat.beq m n && fitE n ys && roomW (len + ys.length) bytes && Nat.blt 0 ys.length) with
  | false => rw [hb] at hq; cases hq
  | true => simp only [Bool.and_eq_true] at hb; exact hb.1.1.2
theorem apG_fit {h : Heap} {x : AV} {n bytes : Nat} {ys : List (List AV)} {q : AV × Heap} (hq : apG h x n bytes ys = some q) : fitE n ys = true := by
 cases ys with
 | nil => rfl
 | cons y ys => exact apH_fit hq
theorem ap_gp (hs : SR nt st a w g lm) {t tx ty e : TypeId} {i : TypeInfo} (ht : P.underlying t = some (.slice e)) (hi : P.info? e = some i) {zc : List AV} (hzc : zeroC P e = some zc) (hzl : zc.length = i.size) (hpos : 0 < i.size)
  {p q : AV} {s v : Value} {ys : List (List AV)} {h' : Heap} (hr : Rep w g p s) {news : List Value} (hsrc : Src P i.size tx v ys.length news w) (hnl : news.length = ys.length * i.size) (hE : Elems w g i.size ys news.toArray)
  (h : apG st.h p i.size i.bytes ys = some (q, h')) :
  ∃ v' w' g', (Builtin.append_ #[t, tx] ty #[s, v]).run P w = .ok v' w' ∧ SR nt { st with h := h' } a w' g' lm ∧ Tr w g w' g' ∧ Rep w' g' q v' := by
 cases ys with
 | cons y ys => exact ap_hp hs ht hi hzc hzl hpos hr hsrc hnl hE h
 | nil =>
  have hn : news = [] := List.eq_nil_of_length_eq_zero (by simpa using hnl)
  subst hn
  cases p <;> simp only [apG, reduceCtorEq] at h
  case nilS =>
   simp only [Option.some.injEq, Prod.mk.injEq] at h
   obtain ⟨rfl, rfl⟩ := h
   cases hr
   exact ⟨_, w, g, run_append_no t tx ty e i ht hi _ _ _ v hsrc (Nat.le_refl _), hs, Tr.refl w g, .nilS⟩
  case nilE =>
   simp only [Option.some.injEq, Prod.mk.injEq] at h
   obtain ⟨rfl, rfl⟩ := h
   cases hr
   exact ⟨_, w, g, run_append_no t tx ty e i ht hi _ _ _ v hsrc (Nat.le_refl _), hs, Tr.refl w g, .nilE _⟩
  case arr m id off len =>
   cases hb : Nat.beq m i.size with
   | false => rw [hb] at h; cases h
   | true =>
    rw [hb, cond_true] at h
    simp only [Option.some.injEq, Prod.mk.injEq] at h
    obtain ⟨rfl, rfl⟩ := h
    cases hr with
    | arr _ _ _ _ cap hid hlc hsz => exact ⟨_, w, g, run_append_no t tx ty e i ht hi _ _ _ v hsrc hlc, hs, Tr.refl w g, .arr _ _ _ _ cap hid hlc hsz⟩
theorem ra_ok' (h : SR nt st a w g lm) {o : Operand} {x : AV} (hx : st.ra o = some x) : ∃ g', SR nt st a w g' lm ∧ Qt w g w g' ∧ Rep w g' x (a.eval o) := by
 unfold St.ra at hx
 split at hx
 ·simp only [Option.some.injEq] at hx
  subst hx
  exact ⟨g, h, Qt.refl w g, .nilS⟩
 ·exact rv_ok h hx
theorem good_appendTo {ar : Bool} {c : Call} {x y : Operand} (ho : o.op = .call c) (hc : c.callee = .builtin .append) (hx : c.args.toList = [x, y]) (hs : SR nt st a w g lm)
  (h : ((c.argTypes.toList.head?.bind (elemTy P)).bind fun e => (P.info? e).bind fun ti => (zeroC P e).bind fun zc =>
   (st.rv y).bind fun p => (elX P st.h ar c.argTypes.toList[1]? ti.size p).bind fun ys =>
   bif Nat.beq zc.length ti.size && Nat.blt 0 ti.size then (st.ra x).bind fun p => (apG st.h p ti.size ti.bytes ys).bind fun q => K (.v q.1) { st with h := q.2 } else none) = some r) : Good P nt o a w g K r := by
 simp only [Option.bind_eq_some_iff] at h
 obtain ⟨e, ⟨t, ht, he⟩, ti, hti, zc, hzc, p, hp, ys, hys, h⟩ := h
 by_cases hcond : (Nat.beq zc.length ti.size && Nat.blt 0 ti.size) = true
 case neg => rw [Bool.eq_false_iff.2 hcond] at h; cases h
 rw [hcond, cond_true] at h
 simp only [Option.bind_eq_some_iff] at h
 obtain ⟨d, hd, q, hq, h⟩ := h
 simp only [Bool.and_eq_true] at hcond
 have hzl := Nat.eq_of_beq_eq_true hcond.1
 have hpos : 0 < ti.size := Nat.le_of_ble_eq_true hcond.2
 have hut := elemTy_spec he
 have hargs : c.args = #[x, y] := by rw [← Array.toArray_toList (xs := c.args), hx]
 have t0 : c.argTypes[0]? = some t := by rw [List.head?_eq_getElem?] at ht; simpa using ht
 obtain ⟨g0, s0, q0, r0⟩ := ra_ok' hs hd
 obtain ⟨g1, tx, htx, s1, q1, news, hsrc, hnl, hE⟩ := src_any (P := P) s0 hp hys (apG_fit hq)
 have t1 : c.argTypes[1]? = some tx := by simpa using htx
 obtain ⟨v', w', g', hrun, s2, q2, r2⟩ := ap_gp (P := P) s1 (t := t) (tx := tx) (ty := o.type) hut hti hzc hzl hpos (r0.mono q1.le) hsrc hnl hE hq
 refine ⟨_, _, h, OpOk.value (v := v') (w' := w') ?_ s2 ((q0.trans q1).toTr.trans q2) r2⟩
 rw [run_builtin ho hc]
 simp only [builtin]
 refine run_pureV ?_
 have heq : (Builtin.append_ c.argTypes o.type (c.args.map a.eval)).run P w = (Builtin.append_ #[t, tx] o.type #[a.eval x, a.eval y]).run P w := by
  simp [Builtin.append_, hargs, t0, t1]
 rw [heq]; exact hrun
end Go.Proofs.Am
namespace Go.Proofs.Am
open Go
variable {R : Type} {nt : Nat} {o : Oper} {st : St} {a : Act} {w : World} {g : Gh} {lm : Nat → Nat} {K : LV → St → Option R} {r : R}
def stOf (cx : Cx) (f : FuncId) (todo : List Item) (xs : List LV) (h : Heap) : St :=
 match cutAt cx f todo with
 | some kp => mkSt kp xs h
 | none => inSt xs h
def Ret (w : World) (g : Gh) (x : LV) (h : Heap) (v : Value) (w' : World) : Prop :=
 ∃ g', Wf w' g' ∧ Tr w g w' g' ∧ HeapOk w' g' h ∧ RepV w' g' (fun _ => 0) 0 .res x v
def frOf (f : FuncId) : Frame := { (default : Frame) with fn := f, kind := .normal }
def GOk (cx : Cx) (w : World) (g : Gh) : Prop := (∀ (i : Nat) (cs : List AV), cx.glob i = some cs → Rep w g (.snap cs) (.pointer (some ⟨i, 0, none⟩))) ∧ ∀ (i : Nat) (v : Value), cx.raw i = some v → 0 < g.sl i ∧ Cl w i 0 = some v
theorem GOk.mono {cx : Cx} {w w' : World} {g g' : Gh} (h : GOk cx w g) (L : Le w g w' g') : GOk cx w' g' :=
 ⟨fun i cs hi => (h.1 i cs hi).mono L, fun i v hi => ⟨Nat.lt_of_lt_of_le (h.2 i v hi).1 (L.sl i), (L.cell i 0 (h.2 i v hi).1).trans (h.2 i v hi).2⟩⟩
def OrcOk (cx : Cx) (orc : Orc) : Prop :=
 ∀ (f : FuncId) (todo : List Item) (xs : List LV) (h : Heap) (x : LV) (h' : Heap) (fn : Func), orc f todo xs h = some (x, h') → cx.P.funcs[f]? = some fn →
  ∀ (a : Act) (w : World) (g : Gh) (lm : Nat → Nat), SR fn.ntmps (stOf cx f todo xs h) a w g lm → GOk cx w g → ∀ cs : List Frame,
   ∃ v w' fr, Steps cx.P (lone ((frOf f).at a todo) cs w) (lone fr cs w') ∧ fr.fn = f ∧ fr.leaving cx.P w' (.returned v) ∧ Ret w g x h' v w'
def ExtOk (cx : Cx) (f : FuncId) (e : List LV → Option LV) : Prop :=
 ∀ (xs : List LV) (x : LV), e xs = some x → ∀ (w : World) (g : Gh) (vs : Array Value), Wf w g → GOk cx w g → vs.size = xs.length →
  (∀ (j : Nat) (y : LV), xs[j]? = some y → ∃ p u, y = .v p ∧ vs[j]? = some u ∧ Rep w g p u) →
  Calls cx.P f vs w fun e w' => ∃ v g', e = .returned v ∧ Wf w' g' ∧ g'.nb = g.nb ∧ Tr w g w' g' ∧ (∀ hd, hd ≠ .oth → (∀ c, hd ≠ .res c) → Kp w g w' g' hd) ∧ RepV w' g' (fun _ => 0) 0 .res x v
def ExhOk (cx : Cx) (f : FuncId) (e : List LV → Heap → Option (LV × Heap)) : Prop :=
 ∀ (xs : List LV) (h : Heap) (x : LV) (h' : Heap), e xs h = some (x, h') → ∀ (w : World) (g : Gh) (vs : Array Value), Wf w g → HeapOk w g h → GOk cx w g → vs.size = xs.length →
  (∀ (j : Nat) (y : LV), xs[j]? = some y → ∃ p u, y = .v p ∧ vs[j]? = some u ∧ Rep w g p u) →
  Calls cx.P f vs w fun e w' => ∃ v, e = .returned v ∧ Ret w g x h' v w'
def ExrOk (cx : Cx) (f : FuncId) (e : List LV → Heap → Option LV) : Prop :=
 ∀ (xs : List LV) (h : Heap) (x : LV), e xs h = some x → ∀ (w : World) (g : Gh) (vs : Array Value), Wf w g → HeapOk w g h → GOk cx w g → vs.size = xs.length →
  (∀ (j : Nat) (y : LV), xs[j]? = some y → ∃ p u, y = .v p ∧ vs[j]? = some u ∧ Rep w g p u) →
  Calls cx.P f vs w fun e w' => ∃ v, e = .returned v ∧ Ret w g x h v w'
theorem ExrOk.exh {cx : Cx} {f : FuncId} {e : List LV → Heap → Option LV} (h : ExrOk cx f e) : ExhOk cx f fun xs h => (e xs h).bind fun r => some (r, h) := by
 intro xs hp x h' hx
 simp only [Option.bind_eq_some_iff, Option.some.injEq, Prod.mk.injEq] at hx
 obtain ⟨r, hr, rfl, rfl⟩ := hx
 exact h xs hp r hr
structure CxOk (cx : Cx) : Prop where
 names : ∀ (f : FuncId) (fn : Func), cx.P.funcs[f]? = some fn → fn.name ≠ "runtime.NumGoroutine"
 ext : ∀ (f : FuncId) (e : List LV → Option LV), cx.ext f = some e → ExtOk cx f e ∧ ∃ fn c, cx.P.funcs[f]? = some fn ∧ fn.body = some c
 mixed : cx.P.follows .mixedOrders = true
 globs : ∀ (i : Nat) (cs : List AV), cx.glob i = some cs → (AV.snap cs).np = true
 exh : ∀ (f : FuncId) (e : List LV → Heap → Option (LV × Heap)), cx.exh f = some e → ExhOk cx f e ∧ ∃ fn c, cx.P.funcs[f]? = some fn ∧ fn.body = some c := by intro _ _ h; cases h
 exr : ∀ (f : FuncId) (e : List LV → Heap → Option LV), cx.exr f = some e → ExrOk cx f e ∧ ∃ fn c, cx.P.funcs[f]? = some fn ∧ fn.body = some c := by intro _ _ h; cases h
def RepA (w : World) (g : Gh) (k : Nat) (x : LV) (v : Value) : Prop :=
 match x with
 | .v p => Rep w g p v
 | .ow n xs => Own w g (.arg k) n xs v
 | _ => False
def callIn : Hd → Hd
 | .arg k => .tmp k 0
 | .hbox id => .hbox id
 | .hcell id c => .hcell id c
 | _ => .oth
theorem inT_get : ∀ (xs : List LV) (i j : Nat), inT i xs j = if i ≤ j then (xs[j - i]?).getD .ud else .ud
 | [], i, j => by simp [inT]
 | x :: xs, i, j => by
  simp only [inT]
  by_cases h : j = i
  ·subst h; rw [upd_same]; simp
  ·rw [upd_ne _ _ h, inT_get xs (i + 1) j]
   by_cases h1 : i ≤ j
   ·rw [if_pos (by omega), if_pos h1, show j - i = (j - (i + 1)) + 1 by omega, List.getElem?_cons_succ]
   ·rw [if_neg (by omega), if_neg h1]
theorem SR.enter {n : Nat} {xs : List LV} {vs : Array Value} {h : Heap} {g0 : Gh} (wf : Wf w g0) (hh : HeapOk w g0 h) (hl : vs.size = xs.length)
  (hx : ∀ (j : Nat) (x : LV), xs[j]? = some x → ∃ u, vs[j]? = some u ∧ RepV w g0 (fun _ => 0) 0 (.tmp j) x u) :
  SR n (inSt xs h) { tmps := vs ++ Array.replicate (n - vs.size) undef, defers := [] } w g0 (fun _ => 0) := by
 refine ⟨wf, by simp; omega, rfl, fun j => ?_, fun i hi => by simp [inSt] at hi, hh⟩
 simp only [inSt, inT_get, Nat.zero_le, if_true, Nat.sub_zero]
 cases hj : xs[j]? with
 | some x =>
  obtain ⟨u, hu, hr⟩ := hx j x hj
  have hlt : j < vs.size := (Array.getElem?_eq_some_iff.1 hu).1
  simp only [Option.getD_some, Array.getD_eq_getD_getElem?, Array.getElem?_append_left hlt, hu]
  exact hr
 | none =>
  have hge : vs.size ≤ j := by rw [hl]; exact List.getElem?_eq_none_iff.1 hj
  simp only [Option.getD_none, RepV, Array.getD_eq_getD_getElem?, Array.getElem?_append_right hge, Array.getElem?_replicate]
  split <;> rfl
def callOwn (h h' : Hd) : Hd :=
 match h' with
 | .res c => .res c
 | .hbox id => .hbox id
 | .hcell id c => .hcell id c
 | _ => match h with
  | .tmp j c => .tmp j c
  | .box i => .box i
  | .cell i c => .cell i c
  | _ => .oth
def gBack (g g' : Gh) : Gh := { sl := g'.sl, own := fun b => callOwn (g.own b) (g'.own b), nb := g'.nb, bm := g'.bm }
theorem callIn_Tr {g' : Gh} {w' : World} (t : Tr w (gRel g callIn) w' g') : (∀ b, b < w.heap.size → callIn (g.own b) = .oth → w'.heap[b]? = w.heap[b]? ∧ g'.own b = .oth ∧ g'.sl b = g.sl b) ∧ Le w g w' g' :=
 ⟨fun b hb h => t.oth b hb h, ⟨t.le.sl, t.le.cell, t.le.nb, t.le.bm, t.le.sz⟩⟩
theorem SR.back {h' : Heap} {w' : World} {g' : Gh} {x : LV} {v : Value} (hs : SR nt st a w g lm) (wf : Wf w' g') (t : Tr w (gRel g callIn) w' g') (hh : HeapOk w' g' h') (hx : RepV w' g' (fun _ => 0) 0 .res x v) :
  SR nt { st with h := h' } a w' (gBack g g') lm ∧ Tr w g w' (gBack g g') ∧ RepV w' (gBack g g') lm st.nl .res x v := by
 obtain ⟨ho, hle⟩ := callIn_Tr t
 have L : Le w g w' (gBack g g') := ⟨hle.sl, hle.cell, hle.nb, hle.bm, hle.sz⟩
 have K : ∀ hd, callIn hd = .oth → callOwn hd .oth = hd → Kp w g w' (gBack g g') hd := fun hd h1 h2 => ⟨L, fun b hb hg => by
  obtain ⟨k1, k2, k3⟩ := ho b hb (by rw [hg]; exact h1)
  exact ⟨k1, by simp only [gBack, hg, k2]; exact h2, k3⟩⟩
 have K2 : ∀ hd, (∀ h, callOwn h hd = hd) → Kp w' g' w' (gBack g g') hd := fun hd h1 => ⟨⟨fun _ => Nat.le_refl _, fun _ _ _ => rfl, Nat.le_refl _, fun _ _ => rfl, fun _ _ h => h⟩, fun b hb hg => ⟨rfl, by simp only [gBack, hg]; exact h1 _, rfl⟩⟩
 refine ⟨⟨⟨fun b hb => ?_, fun b hb => wf.sl b hb, fun b hb => ?_⟩, hs.nt, hs.df, fun j => (hs.tm j).mono (fun c => K _ rfl rfl), hs.bx.keep (fun _ => K _ rfl rfl) (fun _ _ => K _ rfl rfl),
  hh.keep rfl (fun _ => K2 _ (fun _ => rfl)) (fun _ _ => K2 _ (fun _ => rfl))⟩, ⟨L, t.size, fun b hb hg => ?_, t.os, t.tape, t.output⟩, ?_⟩
 ·have h1 := wf.own b hb
  have h2 := hs.wf.own b (Nat.le_trans t.size hb)
  simp only [gBack, h1, h2, callOwn]
 ·by_cases h1 : g'.own b = .oth
  ·have h2 : callIn (g.own b) = .oth ∧ g.own b ≠ .oth := by
    simp only [gBack, h1, callOwn] at hb
    cases hgb : g.own b <;> rw [hgb] at hb <;> simp_all [callIn]
   have hlt : b < w.heap.size := by
    rcases Nat.lt_or_ge b w.heap.size with h | h
    ·exact h
    ·exact absurd (hs.wf.own b h) h2.2
   obtain ⟨k1, k2, k3⟩ := ho b hlt h2.1
   obtain ⟨n, n1, n2⟩ := hs.wf.fit b h2.2
   exact ⟨n, by rw [bsz_eq_of_heap k1]; exact n1, by show g'.sl b ≤ n; rw [k3]; exact n2⟩
  ·exact wf.fit b h1
 ·obtain ⟨k1, k2, k3⟩ := ho b hb (by rw [hg]; rfl)
  exact ⟨k1, by simp only [gBack, hg, k2, callOwn], k3⟩
 ·have := RepV.mono (fun c => K2 (.res c) (fun _ => rfl)) hx
  cases x <;> simp only [RepV] at this ⊢ <;> try exact this
  exact absurd this.1 (by omega)
theorem npL_get : ∀ {cs : List AV}, npL cs = true → ∀ (j : Nat) (c : AV), cs[j]? = some c → c.np = true
 | [], _, j, c, h => by simp at h
 | x :: cs, hn, 0, c, h => by simp at h; subst h; simp only [npL, Bool.and_eq_true] at hn; exact hn.1
 | x :: cs, hn, j + 1, c, h => by simp only [npL, Bool.and_eq_true] at hn; simp at h; exact npL_get hn.2 j c h
theorem npLL_get : ∀ {cs : List (List AV)}, npLL cs = true → ∀ (j : Nat) (c : List AV), cs[j]? = some c → npL c = true
 | [], _, j, c, h => by simp at h
 | x :: cs, hn, 0, c, h => by simp at h; subst h; simp only [npLL, Bool.and_eq_true] at hn; exact hn.1
 | x :: cs, hn, j + 1, c, h => by simp only [npLL, Bool.and_eq_true] at hn; simp at h; exact npLL_get hn.2 j c h
theorem Rep.np {w' : World} {g' : Gh} (hsl : ∀ b, g.sl b ≤ g'.sl b) (hc : ∀ b j, j < g.sl b → Cl w' b j = Cl w b j) {p : AV} {v : Value} (h : Rep w g p v) (hn : p.np = true) : Rep w' g' p v := by
 induction h with
 | int => exact .int _ _
 | bool => exact .bool _
 | str => exact .str _
 | nilI => exact .nilI
 | nilP => exact .nilP
 | nilF => exact .nilF
 | nilM => exact .nilM
 | nilS => exact .nilS
 | nilE => exact .nilE _
 | ifc t p v _ ih => simp only [AV.np] at hn; exact .ifc _ _ _ (ih hn)
 | imm0 => exact .imm0 _ _
 | imm xs n b o cap f hl hx hcl _ ih =>
  simp only [AV.np] at hn
  refine .imm xs n b o cap f hl hx (fun k x j c hk hj => ?_) (fun k x j c hk hj => ih k x j c hk hj (npL_get (npLL_get hn k x hk) j c hj))
  obtain ⟨h1, h2, h3⟩ := hcl k x j c hk hj
  exact ⟨Nat.lt_of_lt_of_le h1 (hsl b), (hc b _ h1).trans h2, h3⟩
 | agg cs vs hl f hcl _ ih =>
  simp only [AV.np] at hn
  exact .agg cs vs hl f hcl (fun j c hj => ih j c hj (npL_get hn j c hj))
 | snap cs b o f hcl _ ih =>
  simp only [AV.np] at hn
  refine .snap cs b o f (fun j c hj => ?_) (fun j c hj => ih j c hj (npL_get hn j c hj))
  obtain ⟨h1, h2, h3⟩ := hcl j c hj
  exact ⟨Nat.lt_of_lt_of_le h1 (hsl b), (hc b _ h1).trans h2, h3⟩
 | _ => simp [AV.np] at hn
theorem Own.np {w' : World} {g' : Gh} {hd hd' : Hd} {n : Nat} {xs : List (List AV)} {v : Value} (hsl : ∀ b, g.sl b ≤ g'.sl b) (hc : ∀ b j, j < g.sl b → Cl w' b j = Cl w b j)
  (hb : ∀ b, b < w.heap.size → g.own b = hd → w'.heap[b]? = w.heap[b]? ∧ g'.own b = hd' ∧ g'.sl b = g.sl b) (h : Own w g hd n xs v) (hn : npLL xs = true) : Own w' g' hd' n xs v := by
 cases h with
 | emp ad => exact .emp ad
 | blk _ b cap c e fz f hl hn' hx hbk hf hz ho hs hcl hr =>
  obtain ⟨h1, h2, h3⟩ := hb b (heap_lt hbk) ho
  exact .blk xs b cap c e fz f hl hn' hx (h1.trans hbk) hf hz h2 (by omega) hcl (fun k x j y hk hj => (hr k x j y hk hj).np hsl hc (npL_get (npLL_get hn k x hk) j y hj))
def pureIn : Hd → Hd
 | .arg k => .tmp k 0
 | _ => .oth
def gPure (g : Gh) : Gh := { sl := g.sl, own := fun b => pureIn (g.own b), nb := 0, bm := g.bm }
def pureOwn (h h' : Hd) : Hd :=
 match h' with
 | .res c => .res c
 | _ => match h with
  | .tmp j c => .tmp j c
  | .box i => .box i
  | .cell i c => .cell i c
  | .hbox i => .hbox i
  | .hcell i c => .hcell i c
  | _ => .oth
def gPureBack (g g' : Gh) : Gh := { sl := g'.sl, own := fun b => pureOwn (g.own b) (g'.own b), nb := g.nb, bm := g.bm }
theorem SR.pureBack {w' : World} {g' : Gh} {x : LV} {v : Value} (hs : SR nt st a w g lm) (wf : Wf w' g') (t : Tr w (gPure g) w' g') (hx : RepV w' g' (fun _ => 0) 0 .res x v) (hn : x.np = true) :
  SR nt st a w' (gPureBack g g') lm ∧ Tr w g w' (gPureBack g g') ∧ RepV w' (gPureBack g g') lm st.nl .res x v := by
 have ho : ∀ b, b < w.heap.size → pureIn (g.own b) = .oth → w'.heap[b]? = w.heap[b]? ∧ g'.own b = .oth ∧ g'.sl b = g.sl b := fun b hb h => t.oth b hb h
 have L : Le w g w' (gPureBack g g') := ⟨t.le.sl, t.le.cell, Nat.le_refl _, fun _ _ => rfl, t.le.sz⟩
 have K : ∀ hd, pureIn hd = .oth → pureOwn hd .oth = hd → Kp w g w' (gPureBack g g') hd := fun hd h1 h2 => ⟨L, fun b hb hg => by
  obtain ⟨k1, k2, k3⟩ := ho b hb (by rw [hg]; exact h1)
  exact ⟨k1, by simp only [gPureBack, hg, k2]; exact h2, k3⟩⟩
 refine ⟨⟨⟨fun b hb => ?_, fun b hb => wf.sl b hb, fun b hb => ?_⟩, hs.nt, hs.df, fun j => (hs.tm j).mono (fun c => K _ rfl rfl), hs.bx.keep (fun _ => K _ rfl rfl) (fun _ _ => K _ rfl rfl),
  hs.hp.keep rfl (fun _ => K _ rfl rfl) (fun _ _ => K _ rfl rfl)⟩, ⟨L, t.size, fun b hb hg => ?_, t.os, t.tape, t.output⟩, ?_⟩
 ·have h1 := wf.own b hb
  have h2 := hs.wf.own b (Nat.le_trans t.size hb)
  simp only [gPureBack, h1, h2, pureOwn]
 ·by_cases h1 : ∃ c, g'.own b = .res c
  ·obtain ⟨c, h1⟩ := h1
   exact wf.fit b (by rw [h1]; simp)
  ·have h2 : pureIn (g.own b) = .oth ∧ g.own b ≠ .oth := by
    simp only [gPureBack] at hb
    unfold pureOwn at hb
    split at hb
    ·rename_i c heq; exact absurd ⟨c, heq⟩ h1
    ·cases hgb : g.own b <;> rw [hgb] at hb <;> simp_all [pureIn]
   have hlt : b < w.heap.size := by
    rcases Nat.lt_or_ge b w.heap.size with h | h
    ·exact h
    ·exact absurd (hs.wf.own b h) h2.2
   obtain ⟨k1, k2, k3⟩ := ho b hlt h2.1
   obtain ⟨n, n1, n2⟩ := hs.wf.fit b h2.2
   exact ⟨n, by rw [bsz_eq_of_heap k1]; exact n1, by show g'.sl b ≤ n; rw [k3]; exact n2⟩
 ·obtain ⟨k1, k2, k3⟩ := ho b hb (by rw [hg]; rfl)
  exact ⟨k1, by simp only [gPureBack, hg, k2, pureOwn], k3⟩
 ·have sl : ∀ b, g'.sl b ≤ (gPureBack g g').sl b := fun b => Nat.le_refl _
  cases x with
  | v p => exact Rep.np (g := g') sl (fun _ _ _ => rfl) hx hn
  | ow n xs => exact ⟨by simp, Own.np (g := g') sl (fun _ _ _ => rfl) (fun b hb hg => ⟨rfl, by simp only [gPureBack, hg, pureOwn], rfl⟩) hx.2 hn⟩
  | tup xs =>
   obtain ⟨vs, e, hz, hc⟩ := hx
   refine ⟨vs, e, hz, fun j c hj => ?_⟩
   obtain ⟨u, hu, hr⟩ := hc j c hj
   exact ⟨u, hu, Rep.np (g := g') sl (fun _ _ _ => rfl) hr (npL_get hn j c hj)⟩
  | _ => simp [LV.np] at hn
end Go.Proofs.Am
namespace Go.Proofs.Am
open Go
variable {R : Type} {cx : Cx} {orc : Orc} {nt : Nat} {o : Oper} {st : St} {a : Act} {w : World} {g : Gh} {lm : Nat → Nat} {K : LV → St → Option R} {r : R}
theorem RepA.mono {w' : World} {g' : Gh} {k : Nat} {x : LV} {v : Value} (h : RepA w g k x v) (hk : Kp w g w' g' (.arg k)) : RepA w' g' k x v := by
 cases x <;> simp only [RepA] at h ⊢
 ·exact h.mono hk.le
 ·exact h.mono hk
def toArg (j k : Nat) : Hd → Hd
 | .tmp i c => if i = j then .arg k else .tmp i c
 | h => h
theorem ra_ok (h : SR nt st a w g lm) {o : Operand} {x : AV} (hx : st.ra o = some x) : ∃ g', SR nt st a w g' lm ∧ Qt w g w g' ∧ Rep w g' x (a.eval o) := by
 unfold St.ra at hx
 split at hx
 ·simp only [Option.some.injEq] at hx
  subst hx
  exact ⟨g, h, Qt.refl w g, .nilS⟩
 ·exact rv_ok h hx
theorem args_ok {tk : Bool} : ∀ (l : List Operand) (i : Nat) (st : St) (g : Gh) (k : List LV → St → Option R), SR nt st a w g lm → args tk st l k = some r →
  ∃ xs st1, k xs st1 = some r ∧ xs.length = l.length ∧ ∃ g1, SR nt st1 a w g1 lm ∧ Qt w g w g1 ∧ ∀ (j : Nat) (x : LV) (p : Operand), xs[j]? = some x → l[j]? = some p → RepA w g1 (i + j) x (a.eval p)
 | [], i, st, g, k, hs, h => ⟨[], st, h, rfl, g, hs, Qt.refl w g, by simp⟩
 | x :: l, i, st, g, k, hs, h => by
  have copy0 : ∀ p, (∃ g1, SR nt st a w g1 lm ∧ Qt w g w g1 ∧ Rep w g1 p (a.eval x)) → (args tk st l fun as st => k (.v p :: as) st) = some r → ∃ xs st1, k xs st1 = some r ∧ xs.length = (x :: l).length ∧ ∃ g1, SR nt st1 a w g1 lm ∧ Qt w g w g1 ∧
    ∀ (j : Nat) (y : LV) (p : Operand), xs[j]? = some y → (x :: l)[j]? = some p → RepA w g1 (i + j) y (a.eval p) := by
   rintro p ⟨g1, s1, t1, r1⟩ h
   obtain ⟨xs, st1, hk, hl, g2, s2, t2, r2⟩ := args_ok l (i + 1) st g1 _ s1 h
   refine ⟨.v p :: xs, st1, hk, by simp [hl], g2, s2, t1.trans t2, fun j y q hj hq => ?_⟩
   cases j with
   | zero =>
    simp only [List.getElem?_cons_zero, Option.some.injEq] at hj hq
    subst hj; subst hq
    exact r1.mono t2.le
   | succ j =>
    simp only [List.getElem?_cons_succ] at hj hq
    rw [show i + (j + 1) = i + 1 + j by omega]
    exact r2 j y q hj hq
  have copy : ((st.ra x).bind fun p => args tk st l fun as st => k (.v p :: as) st) = some r → ∃ xs st1, k xs st1 = some r ∧ xs.length = (x :: l).length ∧ ∃ g1, SR nt st1 a w g1 lm ∧ Qt w g w g1 ∧
    ∀ (j : Nat) (y : LV) (p : Operand), xs[j]? = some y → (x :: l)[j]? = some p → RepA w g1 (i + j) y (a.eval p) := by
   intro h
   simp only [Option.bind_eq_some_iff] at h
   obtain ⟨p, hp, h⟩ := h
   exact copy0 p (ra_ok hs hp) h
  have copyV : ((st.rv x).bind fun p => args tk st l fun as st => k (.v p :: as) st) = some r → ∃ xs st1, k xs st1 = some r ∧ xs.length = (x :: l).length ∧ ∃ g1, SR nt st1 a w g1 lm ∧ Qt w g w g1 ∧
    ∀ (j : Nat) (y : LV) (p : Operand), xs[j]? = some y → (x :: l)[j]? = some p → RepA w g1 (i + j) y (a.eval p) := by
   intro h
   simp only [Option.bind_eq_some_iff] at h
   obtain ⟨p, hp, h⟩ := h
   exact copy0 p (rv_ok hs hp) h
  unfold args at h
  cases tk with
  | false => exact copy (by simpa using h)
  | true =>
   simp only [cond_true] at h
   cases x with
   | tmp j =>
    simp only [Option.bind_eq_some_iff] at h
    obtain ⟨y, hy, h⟩ := h
    have hyj : st.t j = y ∧ (y.free ∨ ∃ n xs, y = .ow n xs) := by
     unfold LV.arg at hy
     split at hy
     ·rename_i heq; simp only [Option.some.injEq] at hy; subst hy; exact ⟨heq, .inl trivial⟩
     ·rename_i heq; simp only [Option.some.injEq] at hy; subst hy; exact ⟨heq, .inr ⟨_, _, rfl⟩⟩
     ·cases hy
    have K0 : ∀ hd, (∀ c, hd ≠ .tmp j c) → Kp w g w (gRel g (toArg j i)) hd := fun hd hne => rel_Kp w g (by
     cases hd <;> simp only [toArg]
     rename_i i' c
     rw [if_neg]
     rintro rfl; exact hne c rfl)
    have s1 : SR nt { st with t := upd st.t j .un } a w (gRel g (toArg j i)) lm := hs.tmpA (rel_Wf hs.wf rfl) rfl j (fun hd _ hne => K0 hd hne) .un trivial
    have hA : RepA w (gRel g (toArg j i)) i y (a.tmps.getD j undef) := by
     have := (hs.tm j).rel (ρ := toArg j i) (fun c _ => by simp [toArg])
     rw [hyj.1] at this
     unfold LV.arg at hy
     rw [hyj.1] at hy
     cases y <;> simp only [reduceCtorEq] at hy
     ·exact this
     ·simp only [RepV, toArg, if_true] at this; exact this.2
    obtain ⟨xs, st1, hk, hl, g2, s2, t2, r2⟩ := args_ok l (i + 1) _ _ _ s1 h
    refine ⟨y :: xs, st1, hk, by simp [hl], g2, s2, (⟨rel_Tr w g rfl, fun c => K0 _ (by simp), fun c => K0 _ (by simp)⟩ : Qt w g w (gRel g (toArg j i))).trans t2, fun k y' q hj hq => ?_⟩
    cases k with
    | zero =>
     simp only [List.getElem?_cons_zero, Option.some.injEq] at hj hq
     subst hj; subst hq
     exact hA.mono (t2.ka i)
    | succ k =>
     simp only [List.getElem?_cons_succ] at hj hq
     rw [show i + (k + 1) = i + 1 + k by omega]
     exact r2 k y' q hj hq
   | const c => exact copyV h
   | func f => exact copyV h
   | global gl => exact copyV h
theorem OpOk.call {P : Program} {f : FuncId} {vs : Array Value} {x : LV} {st' : St} (hrun : (execOp a.eval o).run P w = .ok (.enter f vs) w)
  (hc : Calls P f vs w fun e w' => ∃ v g' lm', e = .returned v ∧ SR nt st' a w' g' lm' ∧ Tr w g w' g' ∧ RepV w' g' lm' st'.nl .res x v) : OpOk P nt o a w g x st' := by
 intro next Q k
 unfold Oper.wp
 rw [hrun, Oper.upon_enter]
 refine hc.mono ?_
 rintro e w' ⟨v, g', lm', rfl, hs, ht, hr⟩
 exact k v w' g' lm' hs ht hr
theorem enter_eq {P : Program} {f : FuncId} {fn : Func} {c : Code} {vs : Array Value} (hf : P.funcs[f]? = some fn) (hb : fn.body = some c) :
  Frame.enter P f vs .normal = (frOf f).at { tmps := vs ++ Array.replicate (fn.ntmps - vs.size) undef, defers := [] } [.code c] := by
 simp [Frame.enter, Frame.at, hf, hb, frOf]
theorem calls_of_orc (hO : OrcOk cx orc) {f : FuncId} {fn : Func} {c : Code} {xs : List LV} {h h' : Heap} {x : LV} {vs : Array Value} (hf : cx.P.funcs[f]? = some fn) (hb : fn.body = some c) (hcut : cutAt cx f [.code c] = none)
  (ho : orc f [.code c] xs h = some (x, h')) {g0 : Gh} (hs : SR fn.ntmps (inSt xs h) { tmps := vs ++ Array.replicate (fn.ntmps - vs.size) undef, defers := [] } w g0 (fun _ => 0)) (hG : GOk cx w g0) :
  Calls cx.P f vs w fun e w' => ∃ v, e = .returned v ∧ Ret w g0 x h' v w' := by
 intro cs
 have hst : stOf cx f [.code c] xs h = inSt xs h := by simp only [stOf, hcut]
 obtain ⟨v, w', fr, h1, h2, h3, h4⟩ := hO f [.code c] xs h x h' fn ho hf _ w g0 (fun _ => 0) (by rw [hst]; exact hs) hG cs
 refine ⟨.returned v, w', fr, ⟨v, rfl, h4⟩, ?_, h2, h3⟩
 rw [enter_eq hf hb]
 exact h1
theorem callF_ok (hC : CxOk cx) (hO : OrcOk cx orc) (hG : GOk cx w g) {f : FuncId} {xs : List LV} {h' : Heap} {x : LV} {vs : Array Value} (hs : SR nt st a w g lm) (hvs : vs.size = xs.length)
  (hA : ∀ (j : Nat) (y : LV), xs[j]? = some y → ∃ u, vs[j]? = some u ∧ RepA w g j y u) (pu : Bool) (hpu : pu = true → npLs xs = true ∧ x.np = true)
  (h : callF cx orc f xs (bif pu then Heap.nil else st.h) = some (x, h')) :
  (∃ fn c, cx.P.funcs[f]? = some fn ∧ fn.body = some c) ∧
   Calls cx.P f vs w fun e w' => ∃ v g', e = .returned v ∧ SR nt (bif pu then st else { st with h := h' }) a w' g' lm ∧ Tr w g w' g' ∧ RepV w' g' lm st.nl .res x v := by
 have lift : ∀ {w' : World} {g' : Gh} {v : Value}, RepV w' g' (fun _ => 0) 0 .res x v → RepV w' g' lm st.nl .res x v := by
  intro w' g' v hx
  cases x <;> simp only [RepV] at hx ⊢ <;> try exact hx
  exact absurd hx.1 (by omega)
 unfold callF at h
 cases he : cx.ext f with
 | some e =>
  rw [he] at h
  simp only at h
  by_cases hall : xs.all LV.isV = true
  ·rw [hall, cond_true] at h
   simp only [Option.bind_eq_some_iff, Option.some.injEq, Prod.mk.injEq] at h
   obtain ⟨y, hy, rfl, hh⟩ := h
   obtain ⟨hext, hbody⟩ := hC.ext f e he
   refine ⟨hbody, (hext xs y hy w g vs hs.wf hG hvs (fun j z hj => ?_)).mono ?_⟩
   ·obtain ⟨u, hu, hr⟩ := hA j z hj
    have hv := (List.all_eq_true.1 hall) z (List.mem_of_getElem? hj)
    cases z <;> simp only [LV.isV, Bool.false_eq_true] at hv
    exact ⟨_, u, rfl, hu, hr⟩
   ·rintro e w' ⟨v, g', rfl, wf', hnb, htr, hkp, hr⟩
    have s1 : SR nt st a w' g' lm := hs.keep wf' hnb (fun hd h1 h2 _ => hkp hd h1 h2)
    refine ⟨v, g', rfl, ?_, htr, lift hr⟩
    cases pu with
    | true => exact s1
    | false =>
     simp only [cond_false] at hh ⊢
     subst hh
     exact s1
  ·rw [Bool.eq_false_iff.2 hall] at h; cases h
 | none =>
  rw [he] at h
  simp only at h
  have hnx : ∀ (l : List LV), npLs l = true → ∀ (j : Nat) (y : LV), l[j]? = some y → y.np = true := by
   intro l
   induction l with
   | nil => intro _ j y hj; simp at hj
   | cons z l ih =>
    intro hn j y hj
    simp only [npLs, Bool.and_eq_true] at hn
    cases j with
    | zero => simp at hj; subst hj; exact hn.1
    | succ j => simp at hj; exact ih hn.2 j y hj
  have k0 : ∀ hd, callIn hd = hd → Kp w g w (gRel g callIn) hd := fun hd he => rel_Kp w g he
  have hp0 : HeapOk w (gRel g callIn) st.h := hs.hp.keep rfl (fun _ => k0 _ rfl) (fun _ _ => k0 _ rfl)
  have wf0 : Wf w (gPure g) := ⟨fun b hb => by simp only [gPure, hs.wf.own b hb, pureIn], hs.wf.sl, fun b hb => hs.wf.fit b (fun e => hb (by simp only [gPure, e, pureIn]))⟩
  have hpn : HeapOk w (gPure g) Heap.nil := ⟨rfl, fun id bx hid => by simp [Heap.nil] at hid⟩
  have hGn : GOk cx w (gPure g) := ⟨fun i cs hi => Rep.np (g := g) (g' := gPure g) (fun _ => Nat.le_refl _) (fun _ _ _ => rfl) (hG.1 i cs hi) (hC.globs i cs hi), hG.2⟩
  have viaH : ∀ e, ExhOk cx f e → (∃ fn c, cx.P.funcs[f]? = some fn ∧ fn.body = some c) → (bif xs.all LV.isV then e xs (bif pu then Heap.nil else st.h) else none) = some (x, h') →
    (∃ fn c, cx.P.funcs[f]? = some fn ∧ fn.body = some c) ∧
     Calls cx.P f vs w fun e w' => ∃ v g', e = .returned v ∧ SR nt (bif pu then st else { st with h := h' }) a w' g' lm ∧ Tr w g w' g' ∧ RepV w' g' lm st.nl .res x v := by
   intro e hext hbody h
   by_cases hall : xs.all LV.isV = true
   ·rw [hall, cond_true] at h
    have hAv : ∀ (j : Nat) (y : LV), xs[j]? = some y → ∃ p u, y = .v p ∧ vs[j]? = some u ∧ Rep w g p u := fun j z hj => by
     obtain ⟨u, hu, hr⟩ := hA j z hj
     have hv := (List.all_eq_true.1 hall) z (List.mem_of_getElem? hj)
     cases z <;> simp only [LV.isV, Bool.false_eq_true] at hv
     exact ⟨_, u, rfl, hu, hr⟩
    refine ⟨hbody, ?_⟩
    cases pu with
    | false =>
     simp only [cond_false] at h
     refine (hext xs st.h x h' h w (gRel g callIn) vs (rel_Wf hs.wf rfl) hp0 (hG.mono (rel_Le w g callIn)) hvs (fun j y hj => by
      obtain ⟨p, u, e1, e2, hr⟩ := hAv j y hj
      exact ⟨p, u, e1, e2, hr.mono (rel_Le w g callIn)⟩)).mono ?_
     rintro e w' ⟨v, rfl, g', wf', ht, hh, hr⟩
     obtain ⟨s1, t1, r1⟩ := hs.back wf' ht hh hr
     exact ⟨v, _, rfl, s1, t1, r1⟩
    | true =>
     simp only [cond_true] at h
     obtain ⟨hn1, hn2⟩ := hpu rfl
     refine (hext xs Heap.nil x h' h w (gPure g) vs wf0 hpn hGn hvs (fun j y hj => by
      obtain ⟨p, u, e1, e2, hr⟩ := hAv j y hj
      refine ⟨p, u, e1, e2, Rep.np (g := g) (g' := gPure g) (fun _ => Nat.le_refl _) (fun _ _ _ => rfl) hr ?_⟩
      have := hnx xs hn1 j y hj
      rw [e1] at this
      exact this)).mono ?_
     rintro e w' ⟨v, rfl, g', wf', ht, hh, hr⟩
     obtain ⟨s1, t1, r1⟩ := hs.pureBack wf' ht hr hn2
     exact ⟨v, _, rfl, s1, t1, r1⟩
   ·rw [Bool.eq_false_iff.2 hall] at h; cases h
  cases hx : cx.exh f with
  | some e =>
   rw [hx] at h
   obtain ⟨hext, hbody⟩ := hC.exh f e hx
   exact viaH e hext hbody h
  | none =>
  rw [hx] at h
  simp only at h
  cases hxr : cx.exr f with
  | some e =>
   rw [hxr] at h
   obtain ⟨hext, hbody⟩ := hC.exr f e hxr
   exact viaH _ hext.exh hbody h
  | none =>
  rw [hxr] at h
  simp only [Option.bind_eq_some_iff] at h
  obtain ⟨fn, hf, c, hb, h⟩ := h
  by_cases hcut : (cutAt cx f [.code c]).isNone = true
  ·rw [hcut, cond_true] at h
   rw [Option.isNone_iff_eq_none] at hcut
   refine ⟨⟨fn, c, hf, hb⟩, ?_⟩
   cases pu with
   | false =>
    simp only [cond_false] at h
    have s0 : SR fn.ntmps (inSt xs st.h) { tmps := vs ++ Array.replicate (fn.ntmps - vs.size) undef, defers := [] } w (gRel g callIn) (fun _ => 0) :=
     SR.enter (rel_Wf hs.wf rfl) hp0 hvs (fun j y hj => by
      obtain ⟨u, hu, hr⟩ := hA j y hj
      refine ⟨u, hu, ?_⟩
      cases y <;> simp only [RepA] at hr <;> simp only [RepV]
      ·exact hr.mono (rel_Le w g callIn)
      ·exact ⟨by simp, hr.rel callIn⟩)
    refine (calls_of_orc hO hf hb hcut h s0 (hG.mono (rel_Le w g callIn))).mono ?_
    rintro e w' ⟨v, rfl, g', wf', ht, hh, hr⟩
    obtain ⟨s1, t1, r1⟩ := hs.back wf' ht hh hr
    exact ⟨v, _, rfl, s1, t1, r1⟩
   | true =>
    simp only [cond_true] at h
    obtain ⟨hn1, hn2⟩ := hpu rfl
    have s0 : SR fn.ntmps (inSt xs Heap.nil) { tmps := vs ++ Array.replicate (fn.ntmps - vs.size) undef, defers := [] } w (gPure g) (fun _ => 0) :=
     SR.enter wf0 hpn hvs (fun j y hj => by
      obtain ⟨u, hu, hr⟩ := hA j y hj
      have hnp := hnx xs hn1 j y hj
      refine ⟨u, hu, ?_⟩
      cases y <;> simp only [RepA] at hr <;> simp only [RepV]
      ·exact Rep.np (g := g) (g' := gPure g) (fun _ => Nat.le_refl _) (fun _ _ _ => rfl) hr hnp
      ·exact ⟨by simp, Own.np (g := g) (fun _ => Nat.le_refl _) (fun _ _ _ => rfl) (fun b hb hg => ⟨rfl, by simp only [gPure, hg, pureIn], rfl⟩) hr hnp⟩)
    refine (calls_of_orc hO hf hb hcut h s0 hGn).mono ?_
    rintro e w' ⟨v, rfl, g', wf', ht, hh, hr⟩
    obtain ⟨s1, t1, r1⟩ := hs.pureBack wf' ht hr hn2
    exact ⟨v, _, rfl, s1, t1, r1⟩
  ·rw [Bool.eq_false_iff.2 hcut] at h; cases h
theorem run_callFunc (hC : CxOk cx) {f : FuncId} {fn : Func} {c : Code} {vs : Array Value} (hf : cx.P.funcs[f]? = some fn) (hb : fn.body = some c) : (callFunc f vs).run cx.P w = .ok (.enter f vs) w := by
 have hn : (fn.name == "runtime.NumGoroutine") = false := by simpa using hC.names f fn hf
 unfold callFunc
 rw [Sem.run_bind]
 show ((Result.ok cx.P w).andThen _) = _
 rw [Result.andThen_ok]
 simp only [hf, hn, hb]
 rfl
theorem SR.copyRes {n : Nat} {xs : List (List AV)} {v : Value} (hs : SR nt st a w g lm) (hx : RepV w g lm st.nl .res (.ow n xs) v) :
  ∃ g', SR nt st a w g' lm ∧ Tr w g w g' ∧ Rep w g' (.imm xs) v := by
 obtain ⟨hne, ho⟩ := hx
 obtain ⟨g', wf', hn, htr, hkp, _, hrep⟩ := ho.cp hs.wf hne
 exact ⟨g', hs.keep wf' hn (fun hd _ h1 _ => hkp hd (h1 0)), htr, hrep⟩
theorem good_doCall {A : Type} (wr : A → LV) (un : Option (LV × Heap) → Option (A × Heap)) (hC : CxOk cx) (hO : OrcOk cx orc) (hG : GOk cx w g) {f : FuncId} {xs : List LV} {vs : Array Value} {pu : Bool} {call : Heap → Option (A × Heap)}
  (hcall : call = fun h => un (callF cx orc f xs h))
  (hun : ∀ (q : Option (LV × Heap)) (y : A) (h' : Heap), un q = some (y, h') → ∃ x, q = some (x, h') ∧ (wr y = x ∨ ∃ n zs, x = .ow n zs ∧ wr y = .v (.imm zs)))
  (hrun : ∀ {fn : Func} {c : Code}, cx.P.funcs[f]? = some fn → fn.body = some c → (execOp a.eval o).run cx.P w = .ok (.enter f vs) w)
  (hs : SR nt st a w g lm) (hvs : vs.size = xs.length) (hA : ∀ (j : Nat) (y : LV), xs[j]? = some y → ∃ u, vs[j]? = some u ∧ RepA w g j y u)
  (h : doCall wr pu xs call st K = some r) : Good cx.P nt o a w g K r := by
 subst hcall
 have conv : ∀ {y : A} {x : LV} {w' : World} {g' : Gh} {v : Value} {st' : St}, st'.nl = st.nl → (wr y = x ∨ ∃ n zs, x = .ow n zs ∧ wr y = .v (.imm zs)) → SR nt st' a w' g' lm → Tr w g w' g' → RepV w' g' lm st.nl .res x v →
   ∃ g'', SR nt st' a w' g'' lm ∧ Tr w g w' g'' ∧ RepV w' g'' lm st'.nl .res (wr y) v := by
  intro y x w' g' v st' hnl hy s1 t1 r1
  rcases hy with rfl | ⟨n, zs, rfl, hw⟩
  ·exact ⟨g', s1, t1, by rw [hnl]; exact r1⟩
  ·rw [← hnl] at r1
   obtain ⟨g2, s2, t2, r2⟩ := s1.copyRes r1
   exact ⟨g2, s2, t1.trans t2, by rw [hw]; exact r2⟩
 unfold doCall at h
 cases pu with
 | false =>
  simp only [cond_false, Option.bind_eq_some_iff] at h
  obtain ⟨⟨y, h'⟩, hq, h⟩ := h
  obtain ⟨x, hx, hy⟩ := hun _ y h' hq
  obtain ⟨⟨fn, c, hf, hb⟩, hcalls⟩ := callF_ok hC hO hG hs hvs hA false (by simp) hx
  refine ⟨_, _, h, OpOk.call (hrun hf hb) (hcalls.mono ?_)⟩
  rintro e w' ⟨v, g', rfl, s1, t1, r1⟩
  simp only [cond_false] at s1
  obtain ⟨g2, s2, t2, r2⟩ := conv (y := y) (st' := { st with h := h' }) rfl hy s1 t1 r1
  exact ⟨v, g2, lm, rfl, s2, t2, r2⟩
 | true =>
  simp only [cond_true] at h
  by_cases hn : npLs xs = true
  ·rw [hn, cond_true] at h
   simp only [Option.bind_eq_some_iff] at h
   obtain ⟨⟨y, h'⟩, hq, h⟩ := h
   by_cases hny : (wr y).np = true
   ·simp only [hny, cond_true] at h
    obtain ⟨x, hx, hy⟩ := hun _ y h' hq
    have hnx : x.np = true := by
     rcases hy with rfl | ⟨n, zs, rfl, hw⟩
     ·exact hny
     ·rw [hw] at hny; simpa [LV.np, AV.np] using hny
    obtain ⟨⟨fn, c, hf, hb⟩, hcalls⟩ := callF_ok hC hO hG hs hvs hA true (fun _ => ⟨hn, hnx⟩) hx
    refine ⟨_, _, h, OpOk.call (hrun hf hb) (hcalls.mono ?_)⟩
    rintro e w' ⟨v, g', rfl, s1, t1, r1⟩
    simp only [cond_true] at s1
    obtain ⟨g2, s2, t2, r2⟩ := conv (y := y) (st' := st) rfl hy s1 t1 r1
    exact ⟨v, g2, lm, rfl, s2, t2, r2⟩
   ·simp only [Bool.eq_false_iff.2 hny, cond_false, reduceCtorEq] at h
  ·rw [Bool.eq_false_iff.2 hn] at h; cases h
theorem toA_spec (q : Option (LV × Heap)) (y : AV) (h' : Heap) (h : toA q = some (y, h')) : ∃ x, q = some (x, h') ∧ (LV.v y = x ∨ ∃ n zs, x = .ow n zs ∧ LV.v y = .v (.imm zs)) := by
 unfold toA at h
 simp only [Option.bind_eq_some_iff, Option.some.injEq, Prod.mk.injEq] at h
 obtain ⟨⟨x, hx⟩, rfl, p, hp, rfl, rfl⟩ := h
 refine ⟨x, rfl, ?_⟩
 cases x <;> simp only [LV.cpy1, Option.some.injEq, reduceCtorEq] at hp
 ·subst hp; exact .inl rfl
 ·subst hp; exact .inr ⟨_, _, rfl, rfl⟩
theorem toT_spec (q : Option (LV × Heap)) (y : List AV) (h' : Heap) (h : toT q = some (y, h')) : ∃ x, q = some (x, h') ∧ (LV.tup y = x ∨ ∃ n zs, x = .ow n zs ∧ LV.tup y = .v (.imm zs)) := by
 unfold toT at h
 simp only [Option.bind_eq_some_iff] at h
 obtain ⟨⟨x, hx⟩, rfl, h⟩ := h
 cases x <;> simp only [reduceCtorEq, Option.some.injEq, Prod.mk.injEq] at h
 obtain ⟨rfl, rfl⟩ := h
 exact ⟨_, rfl, .inl rfl⟩
theorem good_call {c : Call} {f : FuncId} {tk pu : Bool} (hC : CxOk cx) (hO : OrcOk cx orc) (hG : GOk cx w g) (ho : o.op = .call c) (hc : c.callee = .value (.func f)) (hs : SR nt st a w g lm)
  (h : (args tk st c.args.toList fun xs st =>
   match mode cx f with
   | 0 => doCall .v pu xs (call1 cx orc f xs) st K
   | 1 => doCall .tup pu xs (callT cx orc f xs) st K
   | _ => doCall (fun x => x) pu xs (callF cx orc f xs) st K) = some r) : Good cx.P nt o a w g K r := by
 obtain ⟨xs, st1, h, hl, g1, s1, t1, r1⟩ := args_ok _ 0 _ _ _ hs h
 refine Good.pre t1 ?_
 have hvs : (c.args.map a.eval).size = xs.length := by simp [hl]
 have hA : ∀ (j : Nat) (y : LV), xs[j]? = some y → ∃ u, (c.args.map a.eval)[j]? = some u ∧ RepA w g1 j y u := by
  intro j y hj
  have hlt : j < c.args.toList.length := by rw [← hl]; exact (List.getElem?_eq_some_iff.1 hj).1
  have := r1 j y c.args.toList[j] hj (List.getElem?_eq_getElem hlt)
  rw [Nat.zero_add] at this
  have hlt' : j < c.args.size := by simpa using hlt
  exact ⟨a.eval c.args[j], by simp [hlt'], by simpa using this⟩
 have hrun : ∀ {fn : Func} {cd : Code}, cx.P.funcs[f]? = some fn → fn.body = some cd → (execOp a.eval o).run cx.P w = .ok (.enter f (c.args.map a.eval)) w := by
  intro fn cd hf hb
  simp only [execOp, ho, resolve, hc]
  have e : a.eval (.func f) = .func (.func f) #[] #[] := rfl
  simp only [e, Deferred.ofValue, Sem.run_bind, Sem.run_pure, Result.andThen_ok, invoke, Array.empty_append, Array.append_empty]
  exact run_callFunc hC hf hb
 split at h
 ·exact good_doCall .v toA hC hO (hG.mono t1.le) rfl toA_spec hrun s1 hvs hA h
 ·exact good_doCall .tup toT hC hO (hG.mono t1.le) rfl toT_spec hrun s1 hvs hA h
 ·exact good_doCall (fun x => x) (fun q => q) hC hO (hG.mono t1.le) rfl (fun q y h' hq => ⟨y, hq, .inl rfl⟩) hrun s1 hvs hA h
theorem fn_inv {f : FuncId} {fs caps : List AV} {v : Value} (h : Rep w g (.fn f fs caps) v) : ∃ vs us : Array Value, v = .func (.func f) vs us ∧ vs.size = fs.length ∧ us.size = caps.length ∧
  (∀ (j : Nat) (c : AV), fs[j]? = some c → ∃ u, vs[j]? = some u ∧ Rep w g c u) ∧ (∀ (j : Nat) (c : AV), caps[j]? = some c → ∃ u, us[j]? = some u ∧ Rep w g c u) := by
 cases h with
 | fn _ _ _ vs us h1 h2 p q c1 r1 c2 r2 => exact ⟨vs, us, rfl, h1, h2, fun j c hj => ⟨_, c1 j c hj, r1 j c hj⟩, fun j c hj => ⟨_, c2 j c hj, r2 j c hj⟩⟩
theorem good_callV {c : Call} {j0 : Tmp} {tk : Bool} (hC : CxOk cx) (hO : OrcOk cx orc) (hG : GOk cx w g) (ho : o.op = .call c) (hc : c.callee = .value (.tmp j0)) (hs : SR nt st a w g lm)
  (h : ((st.t j0).cpy.bind fun fv => args tk st c.args.toList fun xs st =>
   bif tupTy cx.P o.type then doCall .tup false xs (callVT cx orc fv xs) st K
   else doCall .v false xs (callV1 cx orc fv xs) st K) = some r) : Good cx.P nt o a w g K r := by
 simp only [Option.bind_eq_some_iff] at h
 obtain ⟨fv, hfv, h⟩ := h
 obtain ⟨g0, s0, t0, r0⟩ := hs.cpy j0 hfv
 have isfn : ∃ f fs caps, fv = .fn f fs caps ∨ ((∀ xs h, callV1 cx orc fv xs h = none) ∧ ∀ xs h, callVT cx orc fv xs h = none) := by
  cases fv with
  | fn f fs caps => exact ⟨f, fs, caps, .inl rfl⟩
  | _ => exact ⟨0, [], [], .inr ⟨fun _ _ => rfl, fun _ _ => rfl⟩⟩
 obtain ⟨f, fs, caps, hfn⟩ := isfn
 obtain ⟨xs, st1, h, hl, g1, s1, t1, r1⟩ := args_ok _ fs.length _ _ _ s0 h
 rcases hfn with rfl | ⟨n1, n2⟩
 ·obtain ⟨vs, us, hv, hv1, hv2, hc1, hc2⟩ := fn_inv (r0.mono t1.le)
  refine Good.pre (t0.trans t1) ?_
  let ws : Array Value := vs ++ c.args.map a.eval ++ us
  have hws : ws.size = (fs.map LV.v ++ xs ++ caps.map LV.v).length := by simp [ws, hl, hv1, hv2]
  have hA : ∀ (j : Nat) (y : LV), (fs.map LV.v ++ xs ++ caps.map LV.v)[j]? = some y → ∃ u, ws[j]? = some u ∧ RepA w g1 j y u := by
   intro j y hj
   have hxl : xs.length = c.args.size := by rw [hl]; simp
   by_cases h1 : j < fs.length
   ·rw [List.append_assoc, List.getElem?_append_left (by simpa using h1), List.getElem?_map, List.getElem?_eq_getElem h1] at hj
    simp only [Option.map_some, Option.some.injEq] at hj
    subst hj
    obtain ⟨u, hu, hr⟩ := hc1 j fs[j] (List.getElem?_eq_getElem h1)
    refine ⟨u, ?_, hr⟩
    simp only [ws, Array.append_assoc]
    rw [Array.getElem?_append_left (by omega)]
    exact hu
   ·by_cases h2 : j < fs.length + xs.length
    ·rw [List.append_assoc, List.getElem?_append_right (by simp; omega), List.getElem?_append_left (by simp; omega), List.length_map] at hj
     have hlt : j - fs.length < c.args.toList.length := by rw [← hl]; omega
     have := r1 (j - fs.length) y c.args.toList[j - fs.length] hj (List.getElem?_eq_getElem hlt)
     rw [show fs.length + (j - fs.length) = j by omega] at this
     refine ⟨a.eval c.args.toList[j - fs.length], ?_, this⟩
     simp only [ws, Array.append_assoc]
     have hlt' : j - fs.length < c.args.size := by simpa using hlt
     rw [Array.getElem?_append_right (by omega), hv1, Array.getElem?_append_left (by simpa using hlt')]
     simp [hlt']
    ·rw [List.getElem?_append_right (by simp; omega), List.getElem?_map] at hj
     cases hcj : caps[j - (fs.map LV.v ++ xs).length]? with
     | none => rw [hcj] at hj; cases hj
     | some p =>
      rw [hcj] at hj
      simp only [Option.map_some, Option.some.injEq] at hj
      subst hj
      obtain ⟨u, hu, hr⟩ := hc2 _ p hcj
      refine ⟨u, ?_, hr⟩
      simp only [ws]
      rw [Array.getElem?_append_right (by simp; omega)]
      have e : (vs ++ c.args.map a.eval).size = (fs.map LV.v ++ xs).length := by simp [hv1, hxl]
      rw [e]; exact hu
  have hrun : ∀ {fn : Func} {cd : Code}, cx.P.funcs[f]? = some fn → fn.body = some cd → (execOp a.eval o).run cx.P w = .ok (.enter f ws) w := by
   intro fn cd hf hb
   simp only [execOp, ho, resolve, hc]
   have e : a.eval (.tmp j0) = .func (.func f) vs us := hv
   simp only [e, Deferred.ofValue, Sem.run_bind, Sem.run_pure, Result.andThen_ok, invoke]
   exact run_callFunc hC hf hb
  by_cases ht : tupTy cx.P o.type = true
  ·rw [ht, cond_true] at h
   exact good_doCall (xs := fs.map LV.v ++ xs ++ caps.map LV.v) (pu := false) .tup toT hC hO (hG.mono (t0.trans t1).le) rfl toT_spec hrun s1 hws hA h
  ·rw [Bool.eq_false_iff.2 ht, cond_false] at h
   exact good_doCall (xs := fs.map LV.v ++ xs ++ caps.map LV.v) (pu := false) .v toA hC hO (hG.mono (t0.trans t1).le) rfl toA_spec hrun s1 hws hA h
 ·exfalso
  have z1 : callV1 cx orc fv xs = fun _ => none := funext (n1 xs)
  have z2 : callVT cx orc fv xs = fun _ => none := funext (n2 xs)
  rw [z1, z2] at h
  simp only [doCall, cond_false, Option.bind_none] at h
  cases ht : tupTy cx.P o.type <;> rw [ht] at h <;> cases h
theorem opO_ok (hC : CxOk cx) (hO : OrcOk cx orc) (hG : GOk cx w g) {f rid i : Nat} (hs : SR nt st a w g lm) (h : opO cx orc f rid i o st K = some r) : Good cx.P nt o a w g K r := by
 unfold opO at h
 cases ho : o.op with
 | move x =>
  rw [ho] at h
  cases har : cx.arr f rid i with
  | true =>
   simp only [har, cond_true] at h
   cases x <;> first | (cases h; done) | exact good_frz hs (by simp only [execOp, ho]; rfl) h
  | false =>
   simp only [har, cond_false] at h
   cases x <;> exact good_mv hs (by simp only [execOp, ho]; rfl) h
 | assign x =>
  rw [ho] at h
  cases har : cx.arr f rid i with
  | true =>
   simp only [har, cond_true] at h
   cases x <;> first | (cases h; done) | exact good_frz hs (by simp only [execOp, ho]; rfl) h
  | false =>
   simp only [har, cond_false] at h
   cases x <;> exact good_mv hs (by simp only [execOp, ho]; rfl) h
 | pick c x y => rw [ho] at h; exact good_pick ho hs h
 | alloc e => rw [ho] at h; exact good_alloc ho hs h
 | box e x => rw [ho] at h; exact good_box ho hs h
 | build t ps => rw [ho] at h; exact good_build ho hs h
 | buildSlice t l ps =>
  rw [ho] at h
  cases hp : cx.heap f rid i with
  | true => simp only [hp, cond_true] at h; exact good_buildSliceH ho hs h
  | false => simp only [hp, cond_false] at h; exact good_buildSlice ho hs h
 | nilCheck x => rw [ho] at h; exact good_nilCheck ho hs h
 | binOp op t x y yt => rw [ho] at h; exact good_binOp ho hs h
 | unOp op t x => rw [ho] at h; exact good_unOp ho hs h
 | convert s d x => rw [ho] at h; exact good_convert ho hs h
 | makeInterface t x => rw [ho] at h; exact good_makeInterface ho hs h
 | makeFunc fn fs cs =>
  rw [ho] at h
  cases fn with
  | func f => exact good_makeFunc ho hs h
  | _ => cases h
 | makeSlice t l c =>
  rw [ho] at h
  cases hp : cx.heap f rid i with
  | true => exact good_makeSliceH ho hs (by simpa only [hp, cond_true] using h)
  | false => exact good_makeSlice ho hs (by simpa only [hp, cond_false] using h)
 | slice t x lo hi mx => rw [ho] at h; exact good_slice ho hs h
 | fieldAddr s x j => rw [ho] at h; exact good_fieldAddr ho hs h
 | field s x j => rw [ho] at h; exact good_field ho hs h
 | indexAddr t x ix => rw [ho] at h; exact good_indexAddr ho hs h
 | index t x ix => rw [ho] at h; exact good_index ho hs h
 | extract x j => rw [ho] at h; exact good_extract ho hs h
 | store t x y => rw [ho] at h; exact good_store ho hs h
 | load t x =>
  rw [ho] at h
  simp only [Option.bind_eq_some_iff] at h
  obtain ⟨z, hz, h⟩ := h
  cases hh : cx.heap f rid i with
  | true =>
   rw [hh] at h
   simp only [cond_true] at h
   cases hx : st.rd x <;> rw [hx] at h <;> simp only [reduceCtorEq] at h
   cases ht : cx.take f rid i with
   | true => rw [ht] at h; exact good_take_heap ho hs hz hx h
   | false => rw [ht] at h; exact good_load_heap ho hs hz hx h
  | false =>
   rw [hh] at h
   simp only [cond_false] at h
   cases hx : st.rd x <;> rw [hx] at h <;> simp only [reduceCtorEq] at h
   ·cases ht : cx.take f rid i with
    | true => rw [ht] at h; cases h
    | false => rw [ht] at h; exact good_load_snap ho hs hz hx h
   ·rename_i b off
    by_cases hb : Nat.ble (off + (bif z.2 then z.1 else 1)) (st.z b) = true
    ·rw [hb, cond_true] at h
     have hb := Nat.le_of_ble_eq_true hb
     cases ht : cx.take f rid i with
     | true => rw [ht] at h; exact good_take_box ho hs hz hx hb h
     | false => rw [ht] at h; exact good_load_box ho hs hz hx hb h
    ·rw [Bool.eq_false_iff.2 hb] at h; cases h
 | call c =>
  rw [ho] at h
  cases hc : c.callee with
  | builtin b =>
   simp only [hc] at h
   unfold builtinK at h
   split at h
   ·rename_i x hx; exact good_len ho hc hx hs h
   ·rename_i x y hx
    cases hph : cx.heap f rid i with
    | true => rw [hph] at h; exact good_appendTo ho hc hx hs h
    | false =>
    rw [hph] at h
    simp only [cond_false] at h
    cases har : cx.arr f rid i with
    | true => rw [har] at h; exact good_appendH ho hc hx hs h
    | false => rw [har] at h; exact good_append ho hc hx hs h
   ·rename_i x y hx; exact good_copyH ho hc hx hs h
   ·rename_i x y hx; exact good_min ho hc hx hs h
   ·rename_i x y hx; exact good_max ho hc hx hs h
   ·rename_i x y z hx; exact good_max3 ho hc hx hs h
   ·rename_i x y z u us hx; exact good_maxL ho hc hx hs h
   ·cases h
  | invoke r m => simp [hc] at h
  | value v =>
   cases v with
   | func f => simp only [hc] at h; exact good_call hC hO hG ho hc hs h
   | tmp j => simp only [hc] at h; exact good_callV hC hO hG ho hc hs h
   | _ => simp [hc] at h
 | _ => rw [ho] at h; cases h
theorem arrTy_spec {P : Program} {t : TypeId} {e : Nat × TypeId} (h : arrTy P t = some e) : P.underlying t = some (.array e.1 e.2) := by
 unfold arrTy at h
 simp only [Option.bind_eq_some_iff] at h
 obtain ⟨d, hd, h⟩ := h
 cases d <;> simp only [reduceCtorEq, Option.some.injEq] at h
 subst h; exact hd
theorem globK_ok (hG : GOk cx w g) {gi : Nat} {cs : List AV} (hg : globOf o.op = some gi) (hcs : cx.glob gi = some cs) (hs : SR nt st a w g lm) (h : globK cx o.op cs st K = some r) : Good cx.P nt o a w g K r := by
 have hp := hG.1 gi cs hcs
 cases ho : o.op <;> rw [ho] at hg h <;> simp only [globOf, reduceCtorEq] at hg
 case load t x =>
  cases x <;> simp only [reduceCtorEq, Option.some.injEq] at hg
  subst hg
  simp only [globK, Option.bind_eq_some_iff, ldS] at h
  obtain ⟨z, hz, u, hu, h⟩ := h
  obtain ⟨y, hy, hr⟩ := load_run (g := g) hz (snap_cells hp) hu
  refine Good.pure hs h (v := y) ?_ hr
  simp only [execOp, ho]
  refine run_pureV ?_
  simp [Instr.loadAt, Act.eval, Instr.sureAddr, hy]
 case fieldAddr s x j =>
  cases x <;> simp only [reduceCtorEq, Option.some.injEq] at hg
  subst hg
  rename_i gi
  simp only [globK, Option.bind_eq_some_iff] at h
  obtain ⟨fs, hfs, fl, hfl, z, hz, h⟩ := h
  obtain ⟨fa, hfa, rfl⟩ := fieldsOf_spec hfs
  obtain ⟨i, d, hi, hsz, _, _⟩ := tyz_spec hz
  have hfl' : fa[j]? = some fl := by simpa using hfl
  cases hb : Nat.blt 0 z.1 with
  | false => rw [hb] at h; cases h
  | true =>
   rw [hb, cond_true] at h
   have hz0 : i.size ≠ 0 := by
    have := Nat.le_of_ble_eq_true hb
    omega
   refine Good.pure hs h (v := .pointer (some ⟨gi, 0 + fl.offset, none⟩)) ?_ (snap_drop hp)
   have : (Instr.fieldAt s (a.eval (.global gi)) j).run cx.P w = .ok (.pointer (some ⟨gi, 0 + fl.offset, none⟩)) w := by
    simp [Instr.fieldAt, run_underlying hfa, hfl', Act.eval, Instr.sureAddr, fieldPlace, run_sizeOf hi, hz0, Addr.add_mid]
   simp only [execOp, ho]
   exact run_pureV this
 case indexAddr t x ix =>
  cases x <;> simp only [reduceCtorEq, Option.some.injEq] at hg
  subst hg
  simp only [globK, Option.bind_eq_some_iff] at h
  obtain ⟨e, he, z, hz, b, hb, n, hn, h⟩ := h
  have hu := arrTy_spec he
  rename_i gi
  obtain ⟨i, d, hi, hsz, _, _⟩ := tyz_spec hz
  obtain ⟨g1, s1, t1, r1⟩ := rv_ok hs hb
  obtain ⟨k, hk⟩ := toI_rep r1 hn
  cases hc : (decide (0 ≤ n) && decide (n < e.1)) with
  | false => rw [hc] at h; cases h
  | true =>
   rw [hc, cond_true] at h
   simp only [Bool.and_eq_true, decide_eq_true_eq] at hc
   refine Good.pre t1 (Good.pure s1 h (v := .pointer (some ⟨gi, 0 + n.toNat * z.1, none⟩)) ?_ (snap_drop (hp.mono t1.le)))
   have : (Instr.indexAt t (a.eval (.global gi)) (a.eval ix)).run cx.P w = .ok (.pointer (some ⟨gi, 0 + n.toNat * z.1, none⟩)) w := by
    have he : a.eval (.global gi) = .pointer (some ⟨gi, 0, none⟩) := rfl
    simp [Instr.indexAt, hk, asIntOf, run_underlying hu, he, Instr.sureAddr, hc.1, hc.2, run_sizeOf hi, hsz, Addr.add_mid]
   simp only [execOp, ho]
   exact run_pureV this
theorem opK_ok (hC : CxOk cx) (hO : OrcOk cx orc) (hG : GOk cx w g) {f rid i : Nat} (hs : SR nt st a w g lm) (h : opK cx orc f rid i o st K = some r) : Good cx.P nt o a w g K r := by
 unfold opK at h
 cases hg : globOf o.op with
 | none => rw [hg] at h; exact opO_ok hC hO hG hs h
 | some gi =>
  rw [hg] at h
  simp only [Option.bind_eq_some_iff] at h
  obtain ⟨cs, hcs, h⟩ := h
  exact globK_ok hG hg hcs hs h
end Go.Proofs.Am
