/-
  The looker: tables of labels.
-/
import Derived.Test.YtoblgjmllmomhaaGreatDoorAmS15i
import Derived.Test.YtoblgjmllmomhaaGreatDoorAmS15wB
namespace Go.Proofs.YtoblgjmllmomhaaGreatDoor
set_option maxRecDepth 100000
open Go Go.Proofs.Am
theorem cxZ_ok (m : Int) : CxOk (cxZ m) := by
 have ht : ∀ (xs : List LV) (h : Heap) (y : LV), topE xs h = some y -> blk (cxB m) 53 (body_ Tryz.prog 53) xs h = some (y, h) := by
  intro xs h y hy
  unfold topE at hy
  split at hy
  ·rename_i L
   split at hy
   ·rename_i n id o k heq
    cases hb : Nat.beq n 4 && Nat.ble k 4611686018427387904 with
    | false => rw [hb] at hy; cases hy
    | true =>
     rw [hb] at hy
     rw [Bool.and_eq_true] at hb
     have := Nat.eq_of_beq_eq_true hb.1
     have hk := Nat.le_of_ble_eq_true hb.2
     subst this
     simp only [cond_true, Option.some.injEq] at hy
     subst hy
     refine w28_0 (k0 := heq) (k1 := heq) (k2 := rfl) (k3 := ?_)
     have hw : IntKind.wrap .i64 (((k + 1 : Nat) : Int) - Int.ofNat 1) = (k : Int) := by
      rw [wrapI (by unfold InZ; rw [ofN]; omega), ofN]; omega
     rw [hw]
     have h1 : decide ((0 : Int) <= (k : Int)) = true := decide_eq_true (by omega)
     have h2 : decide ((k : Int) < ((k + 1 : Nat) : Int)) = true := decide_eq_true (by omega)
     simp only [ixP, Nat.beq_refl, h1, h2, Bool.and_self, cond_true, Int.toNat_natCast]
   ·cases hy
  ·cases hy
 exact cxN_ok m ht (fun f x hx => by
  unfold exhZ at hx
  cases hb : Nat.beq f 52 with
  | false => rw [hb] at hx; cases hx
  | true =>
   rw [hb] at hx
   cases hx
   have := Nat.eq_of_beq_eq_true hb
   subst this
   obtain ⟨c, hc, _⟩ := body_of Tryz.func52 (by kernel_rfl)
   exact ⟨all_ok m (cxN_ok m ht (fun f x hx => by cases hx)) rfl rfl, _, c, Tryz.func52, hc⟩)
section
variable {m : Int} {s : Scp} {L : Nat} {h : Heap} {σ : LS} {N : Nat}
theorem fail_R (H : Rel s L h σ) (c : Int) : ∃ h', cA m 54 [vP L 0, .v (.ifc 56 (.int .i64 c))] h = some (.tup [], h') /\ Rel s L h' (σ.fail c) /\ Frm L h h' := by
 obtain ⟨r, b, pr, pb, H⟩ := H
 obtain ⟨h', hc, H', F⟩ := fail_Z (m := m) H c
 exact ⟨h', hc, ⟨_, _, _, _, H'⟩, F⟩
theorem take_R (H : Rel s L h σ) (I : Inv N σ) (hN : N < 2 ^ 41) (z : Int) :
  ∃ h', cA m 96 [vP L 0, vI z] h = some (.v (.int .i64 (σ.take z).2), h') /\ Rel s L h' (σ.take z).1 /\ Frm L h h' := by
 obtain ⟨r, b, pr, pb, H⟩ := H
 obtain ⟨h', _, hc, H', F⟩ := take_Z (m := m) H I.wf (Nat.lt_of_le_of_lt I.sz hN) z
 exact ⟨h', hc, ⟨_, _, _, _, H'⟩, F⟩
theorem all_R (H : Rel s L h σ) (I : Inv N σ) (hN : N < 2 ^ 41) {ts : List Int} (ht : ts.length < 2 ^ 41) :
  ∃ h', cA m 52 [vP L 0, vM (encN ts)] h = some (.tup [], h') /\ Rel s L h' (σ.all ts) /\ Frm L h h' := by
 obtain ⟨r, b, pr, pb, H⟩ := H
 obtain ⟨h', _, hc, H', F⟩ := all_H (m := m) H I.wf (Nat.lt_of_le_of_lt I.sz hN) ht
 exact ⟨h', hc, ⟨_, _, _, _, H'⟩, F⟩
theorem give_R (H : Rel s L h σ) (I : Inv N σ) {ts : List Int} (hN : N + ts.length < 2 ^ 41) : ∃ h', cA m 55 [vP L 0, vM (encN ts)] h = some (.tup [], h') /\ Rel s L h' (σ.give ts) := by
 obtain ⟨r, b, pr, pb, H⟩ := H
 have := I.sz
 obtain ⟨h', _, _, hc, H'⟩ := give_Z (m := m) H (ts := ts) (by omega)
 exact ⟨h', hc, ⟨_, _, _, _, H'⟩⟩
theorem stop_R (H : Rel s L h σ) (I : Inv N σ) (hN : N < 2 ^ 41) : ∃ h', cA m 93 [vP L 0] h = some (.tup [], h') /\ Rel s L h' σ.stop := by
 obtain ⟨r, b, pr, pb, H⟩ := H
 have := I.sz
 obtain ⟨h', _, hc, H'⟩ := stop_Z (m := m) H I.wf (by omega)
 exact ⟨h', hc, ⟨_, _, _, _, H'⟩⟩
theorem lbl_R (H : Rel s L h σ) (I : Inv N σ) (hN : N < 2 ^ 41) {n : Int} (h0 : 0 <= n) :
  (∃ t, σ.lbl n = some t /\ cA m 121 [vP L 0, vI n] h = some (.tup [.imm (encN t), .bool true], h)) ∨
  (σ.lbl n = none /\ ∃ h', cA m 121 [vP L 0, vI n] h = some (.tup [.imm [], .bool false], h') /\ Rel s L h' (σ.fail 5)) := by
 obtain ⟨r, b, pr, pb, H⟩ := H
 have := I.sz
 rcases lbl_Z (m := m) H I.wf.ne (by omega) h0 with h1 | ⟨h1, h', hc, H'⟩
 ·exact .inl h1
 ·exact .inr ⟨h1, h', hc, ⟨_, _, _, _, H'⟩⟩
theorem Rel.lt (H : Rel s L h σ) : L < h.bx.length := by
 obtain ⟨r, b, pr, pb, H⟩ := H
 exact (List.getElem?_eq_some_iff.1 H.lk).1
theorem Rel.more (H : Rel s L h σ) (bx : List LV) : Rel s L { h with bx := h.bx ++ [bx] } σ := by
 obtain ⟨r, b, pr, pb, H⟩ := H
 have hl := (List.getElem?_eq_some_iff.1 H.lk).1
 have e : ∀ i, i < h.bx.length -> (h.bx ++ [bx])[i]? = h.bx[i]? := fun i hi => List.getElem?_append_left hi
 refine ⟨r, b, pr, pb, (e L hl).trans H.lk, H.row.same fun i hi => e i ?_, H.blk.same fun i hi => e i ?_, H.rL, H.bL, H.rb⟩
 ·subst hi; exact H.row.lt
 ·subst hi; exact H.blk.lt
theorem eq_loop {x y : List Int} (hl : x.length = y.length) (hx : x.length < 2 ^ 41) : ∀ (k i : Nat), i + k = x.length ->
  bA m 145 4 [vM (encN x), vM (encN y), vI (x.length : Int), vI (Int.ofNat i)] h = some (.v (.bool (decide (x.drop i = y.drop i))), h)
 | 0, i, hi => by
  rw [List.drop_of_length_le (by omega), List.drop_of_length_le (by omega)]
  exact w64_4_2 (k0 := ltZ_f (by rw [ofN]; omega))
 | k + 1, i, hi => by
  have h1 : x[i]? = some x[i] := List.getElem?_eq_getElem (by omega)
  have h2 : y[i]? = some y[i] := List.getElem?_eq_getElem (by omega)
  have e1 : ixA (.imm (encN x)) (Int.ofNat i) 1 = some [.int .i64 x[i]] := ix_map (f := fun x => [AV.int .i64 x]) h1 rfl
  have e2 : ixA (.imm (encN y)) (Int.ofNat i) 1 = some [.int .i64 y[i]] := ix_map (f := fun x => [AV.int .i64 x]) h2 rfl
  rw [drop_get h1, drop_get h2]
  by_cases hq : x[i] = y[i]
  ·have := eq_loop hl hx k (i + 1) (by omega)
   rw [show (decide (x[i] :: x.drop (i + 1) = y[i] :: y.drop (i + 1))) = decide (x.drop (i + 1) = y.drop (i + 1)) from decide_eq_decide.2 (by rw [List.cons.injEq]; exact ⟨fun e => e.2, fun e => ⟨hq, e⟩⟩)]
   exact w64_4_1 (k0 := ltZ_t (by rw [ofN]; omega)) (k1 := e1) (k2 := e2) (k3 := congrArg not (eqZ_t hq)) (k4 := by rw [wrapS (by omega)]; exact this)
  ·rw [show (decide (x[i] :: x.drop (i + 1) = y[i] :: y.drop (i + 1))) = false from decide_eq_false (by rw [List.cons.injEq]; exact fun e => hq e.1)]
   exact w64_4_0 (k0 := ltZ_t (by rw [ofN]; omega)) (k1 := e1) (k2 := e2) (k3 := congrArg not (eqZ_f hq))
theorem eq_Z {x y : List Int} (hx : x.length < 2 ^ 41) : cA m 145 [vM (encN x), vM (encN y)] h = some (.v (.bool (decide (x = y))), h) := by
 have l1 : lnS (.imm (encN x)) = some (x.length : Int) := by show some _ = some _; rw [encN_len]
 have l2 : lnS (.imm (encN y)) = some (y.length : Int) := by show some _ = some _; rw [encN_len]
 by_cases hl : x.length = y.length
 ·exact callF_of rfl rfl (by kernel_rfl) (w64_1 (k0 := l1) (k1 := l2) (k2 := congrArg not (eqZ_t (by omega))) (k3 := l1) (k4 := eq_loop hl hx x.length 0 (by omega)))
 ·rw [show decide (x = y) = false from decide_eq_false (by rintro rfl; exact hl rfl)]
  exact callF_of rfl rfl (by kernel_rfl) (w64_0 (k0 := l1) (k1 := l2) (k2 := congrArg not (eqZ_f (by omega))))
def encT (t : List Int) : List AV := [.imm (encN t)]
theorem ne_Z {C : Nat} {x last : List Int} (hC : ldP h (.ptr C 0) 1 false = some (.imm (encN last))) (hx : x.length < 2 ^ 41) : callV (cxZ m) (blk (cxZ m)) (.fn 144 [] [.ptr C 0]) [vM (encN x)] h = some (.v (.bool (decide (x ≠ last))), h) := by
 have e : (decide (x ≠ last)) = !decide (x = last) := by simp
 rw [e]
 exact callF_of rfl rfl (by kernel_rfl) (w63_0 (k0 := hC) (k1 := eq_Z hx))
theorem any_loop {C : Nat} {last : List Int} (hC : ldP h (.ptr C 0) 1 false = some (.imm (encN last))) {ts : List (List Int)} (hts : ∀ t, t ∈ ts -> t.length <= 1) (hl : ts.length < 2 ^ 41) : ∀ (k i : Nat), i + k = ts.length ->
  ∃ z : Int, bA m 161 2 [vM (ts.map encT), .v (.fn 144 [] [.ptr C 0]), vI (ts.length : Int), vI (Int.ofNat i)] h = some (.v (.int .i64 z), h) /\ leZ (Int.ofNat 0) z = (ts.drop i).any (· ≠ last)
 | 0, i, hi => by
  rw [List.drop_of_length_le (by omega)]
  exact ⟨_, w71_2_2 (k0 := ltZ_f (by rw [ofN]; omega)), rfl⟩
 | k + 1, i, hi => by
  have h1 : ts[i]? = some ts[i] := List.getElem?_eq_getElem (by omega)
  have e1 : ixA (.imm (ts.map encT)) (Int.ofNat i) 1 = some [.imm (encN ts[i])] := ix_map (f := encT) h1 rfl
  have hle := hts ts[i] (List.getElem_mem _)
  have hv := ne_Z (m := m) hC (x := ts[i]) (by omega)
  rw [drop_get h1, List.any_cons]
  cases hq : decide (ts[i] ≠ last) with
  | true =>
   rw [hq] at hv
   exact ⟨_, w71_2_0 (k0 := ltZ_t (by rw [ofN]; omega)) (k1 := e1) (k2 := hv) (k3 := rfl), by rw [Bool.true_or]; exact leZ_t (by rw [ofN, ofN]; omega)⟩
  | false =>
   rw [hq] at hv
   obtain ⟨z, hz, he⟩ := any_loop hC hts hl k (i + 1) (by omega)
   exact ⟨z, w71_2_1 (k0 := ltZ_t (by rw [ofN]; omega)) (k1 := e1) (k2 := hv) (k3 := rfl) (k4 := by rw [wrapS (by omega)]; exact hz), by rw [Bool.false_or]; exact he⟩
theorem any_Z {C : Nat} {last : List Int} (hC : ldP h (.ptr C 0) 1 false = some (.imm (encN last))) {ts : List (List Int)} (hts : ∀ t, t ∈ ts -> t.length <= 1) (hl : ts.length < 2 ^ 41) :
  cA m 143 [vM (ts.map encT), .v (.fn 144 [] [.ptr C 0])] h = some (.v (.bool (ts.any (· ≠ last))), h) := by
 obtain ⟨z, hz, he⟩ := any_loop (m := m) hC hts hl ts.length 0 (by omega)
 rw [List.drop_zero] at he
 rw [← he]
 refine callF_of rfl rfl (by kernel_rfl) (w62_0 (k0 := callF_of rfl rfl (by kernel_rfl) (w71_0 (k0 := ?_))))
 rw [List.length_map]
 exact hz
theorem ap_T {out : List (List Int)} {t : List Int} (h : (out.length + 1) * 24 <= 140737488355328) : apL (.ow 1 (out.map encT)) 1 24 [[.imm (encN t)]] = some (.ow 1 ((out ++ [t]).map encT)) := by
 have e := ap_owned (n := 1) (b := 24) (out := out.map encT) (ys := [[.imm (encN t)]]) rfl (by simpa using h) (by decide)
 rw [e, List.map_append]
 rfl
theorem table_loop {l : List Int} (h0 : ∀ n, n ∈ l -> 0 <= n) (hl : l.length < 2 ^ 40) (hne : l ≠ []) (hN : N < 2 ^ 41) (I : Inv N σ) : ∀ (k i : Nat) (acc : List (List Int)), i + k = l.length -> acc.length = i -> (∀ t, t ∈ acc -> t.length <= 1) -> Rel s L h σ ->
  ∃ h', bA m 120 3 [vP L 0, .ow 1 (acc.map encT), vM (encN l), vI (l.length : Int), vI (Int.ofNat i)] h = some (.tup [], h') /\
   Rel s L h' (match σ.tbl (l.drop i) acc with
    | none => σ.fail 5
    | some ts => (((if ts.any (· ≠ ts.getLastD []) then σ.fail 4 else σ).take 1).1.all (ts.getLastD [])).stop)
 | 0, i, acc, hi, ha, hacc, H => by
  rw [List.drop_of_length_le (by omega)]
  simp only [LS.tbl]
  have hpos := List.length_pos_iff.2 hne
  have hane : acc ≠ [] := List.length_pos_iff.1 (by omega)
  obtain ⟨last, hlast⟩ : ∃ x, acc.getLast? = some x := ⟨_, List.getLast?_eq_some_getLast hane⟩
  have hD : acc.getLastD [] = last := by rw [List.getLastD_eq_getLast?, hlast]; rfl
  rw [hD]
  have hla : last.length <= 1 := hacc last (List.mem_of_getLast? hlast)
  have hix : ixA (.imm (acc.map encT)) (IntKind.wrap .i64 (Int.ofNat (acc.map encT).length - Int.ofNat 1)) 1 = some [.imm (encN last)] := by
   rw [List.length_map, ofN, wrapN (by omega) (by omega)]
   exact ix_map (f := encT) (by rw [← List.getLast?_eq_getElem?]; exact hlast) rfl
  have hb : ({ bx := h.bx ++ [[LV.ow 1 []]], mp := h.mp } : Heap).bx[h.bx.length]? = some [LV.ow 1 []] := by simp
  have hst := stP_at (x := .v (.imm (encN last))) hb (k := 0) (by simp)
  have hput : ({ bx := h.bx ++ [[LV.ow 1 []]], mp := h.mp } : Heap).put h.bx.length (([LV.ow 1 []] : List LV).set 0 (.v (.imm (encN last)))) = { h with bx := h.bx ++ [[vM (encN last)]] } := by
   simp [Heap.put]
  rw [hput] at hst
  have H1 := H.more [vM (encN last)]
  have hLC : h.bx.length ≠ L := by have := H.lt; omega
  have hC : ∀ {h2 : Heap}, Frm L { h with bx := h.bx ++ [[vM (encN last)]] } h2 -> ldP h2 (.ptr h.bx.length 0) 1 false = some (.imm (encN last)) := fun F =>
   ldP_at (bx := [vM (encN last)]) ((F.1 _ hLC).trans (by simp)) rfl
  have hany := any_Z (m := m) (hC (Frm.refl _ _)) hacc (ts := acc) (by omega)
  cases hq : acc.any (· ≠ last) with
  | true =>
   rw [hq] at hany
   obtain ⟨h2, c2, H2, F2⟩ := fail_R (m := m) H1 4
   obtain ⟨h3, c3, H3, F3⟩ := take_R (m := m) H2 (I.fail 4) hN 1
   obtain ⟨h4, c4, H4, _⟩ := all_R (m := m) H3 ((I.fail 4).take 1) hN (ts := last) (by omega)
   obtain ⟨h5, c5, H5⟩ := stop_R (m := m) H4 (((I.fail 4).take 1).all last) hN
   refine ⟨h5, w53_3_2 (k0 := ltZ_f (by rw [ofN]; omega)) (k1 := hix) (k2 := hst) (k3 := hany) (k4 := rfl) (k5 := c2) (k6 := c3) (k7 := hC (F2.trans F3)) (k8 := c4) (k9 := c5), ?_⟩
   rw [if_pos rfl]
   exact H5
  | false =>
   rw [hq] at hany
   obtain ⟨h3, c3, H3, F3⟩ := take_R (m := m) H1 I hN 1
   obtain ⟨h4, c4, H4, _⟩ := all_R (m := m) H3 (I.take 1) hN (ts := last) (by omega)
   obtain ⟨h5, c5, H5⟩ := stop_R (m := m) H4 ((I.take 1).all last) hN
   refine ⟨h5, w53_3_3 (k0 := ltZ_f (by rw [ofN]; omega)) (k1 := hix) (k2 := hst) (k3 := hany) (k4 := rfl) (k5 := c3) (k6 := hC F3) (k7 := c4) (k8 := c5), ?_⟩
   rw [if_neg (by simp)]
   exact H5
 | k + 1, i, acc, hi, ha, hacc, H => by
  have h1 : l[i]? = some l[i] := List.getElem?_eq_getElem (by omega)
  have e1 : ixA (.imm (encN l)) (Int.ofNat i) 1 = some [.int .i64 l[i]] := ix_map (f := fun x => [AV.int .i64 x]) h1 rfl
  rw [drop_get h1]
  unfold LS.tbl
  rcases lbl_R (m := m) H I hN (h0 l[i] (List.getElem_mem _)) with ⟨t, ht, hc⟩ | ⟨ht, h', hc, H'⟩
  ·rw [ht]
   have hle := I.lbl ht
   obtain ⟨h', hb, H'⟩ := table_loop h0 hl hne hN I k (i + 1) (acc ++ [t]) (by omega) (by simp [ha]) (fun x hx => by
    rcases List.mem_append.1 hx with hx | hx
    ·exact hacc x hx
    ·simp at hx; subst hx; exact hle) H
   exact ⟨h', w53_3_1 (k0 := ltZ_t (by rw [ofN]; omega)) (k1 := e1) (k2 := hc) (k3 := rfl) (k4 := ap_T (by omega)) (k5 := by rw [wrapS (by omega)]; exact hb), H'⟩
  ·rw [ht]
   exact ⟨h', w53_3_0 (k0 := ltZ_t (by rw [ofN]; omega)) (k1 := e1) (k2 := hc) (k3 := rfl), H'⟩
theorem table_R {o a b' v t : Int} {l : List Int} {bd el : List (List AV)} {q : Bool} (h0 : ∀ n, n ∈ l -> 0 <= n) (hl : l.length < 2 ^ 40) (hne : l ≠ []) (hN : N < 2 ^ 41) (I : Inv N σ) (H : Rel s L h σ) :
  ∃ h', cA m 120 [vP L 0, .v (.agg [.int .i64 o, .int .i64 a, .int .i64 b', .int .u64 v, .int .i64 t, .imm (encN l), .imm bd, .imm el, .bool q])] h = some (.tup [], h') /\ Rel s L h' (σ.table l) := by
 obtain ⟨h', hb, H'⟩ := table_loop (m := m) h0 hl hne hN I l.length 0 [] (by omega) rfl (by simp) H
 refine ⟨h', callF_of rfl rfl (by kernel_rfl) (w53_0 (k0 := by rw [encN_len]; exact hb)), ?_⟩
 rw [List.drop_zero] at H'
 exact H'
end
end Go.Proofs.YtoblgjmllmomhaaGreatDoor
