/-
  Is a module small: whole.
-/
import Derived.Test.YtoblgjmllmomhaaGreatDoorAmSVwV
import Derived.Test.YtoblgjmllmomhaaGreatDoorAmSVm1
import Derived.Test.YtoblgjmllmomhaaGreatDoorAmSVI
namespace Go.Proofs.YtoblgjmllmomhaaGreatDoor
set_option maxRecDepth 100000
open Go Go.RowKit Go.Proofs.Am
section
variable {m : Int}
def TB (m : Int) (f : Nat) (xs : List LV) : Prop := ∃ q : Bool, ∀ h, CALL m f xs h = some (.v (.bool q), h)
noncomputable def tbv (m : Int) (f : Nat) (xs : List LV) : Bool := @decide (∀ h, CALL m f xs h = some (.v (.bool true), h)) (Classical.propDecidable _)
theorem tbv_eq {f : Nat} {xs : List LV} (H : TB m f xs) (h : Heap) : CALL m f xs h = some (.v (.bool (tbv m f xs)), h) := by
 obtain ⟨q, hq⟩ := H
 have e : tbv m f xs = q := by
  unfold tbv
  cases q with
  | true => exact @decide_eq_true _ (Classical.propDecidable _) hq
  | false =>
   refine @decide_eq_false _ (Classical.propDecidable _) fun ht => ?_
   have := (hq Heap.nil).symm.trans (ht Heap.nil)
   cases this
 rw [e]; exact hq h
def CT (m : Int) (xs : List Ins) : Prop := ∃ n d : Int, ∀ h, CALL m 126 [.v (.imm (encIs xs))] h = some (.tup [.int .i64 n, .int .i64 d], h)
def CTp (m : Int) : Ins → Prop
 | .mk _ _ _ _ _ _ bd el _ => CT m bd ∧ CT m el
theorem blk_T (x : Ins) : TB m 149 [.v (.agg (encI x))] := by
 obtain ⟨o, a, b, v, t, l, bd, el, q⟩ := x
 cases e : leZ (Int.ofNat 2) o with
 | true => exact ⟨_, fun h => callF_of rfl rfl (by kernel_rfl) (v149_0 (k0 := e))⟩
 | false => exact ⟨_, fun h => callF_of rfl rfl (by kernel_rfl) (v149_1 (k0 := e))⟩
theorem ct_loop {xs : List Ins} (hx : ∀ x, x ∈ xs → CTp m x) (hl : xs.length < 2 ^ 62) : ∀ (k i : Nat), i + k = xs.length → ∀ c d : Int,
  ∃ n e : Int, ∀ h, blk (cxZ m) 126 (at_ Tryz.prog 126 3) [.v (.int .i64 c), .v (.int .i64 d), .v (.imm (encIs xs)), .v (.int .i64 (Int.ofNat xs.length)), .v (.int .i64 (Int.ofNat i))] h = some (.tup [.int .i64 n, .int .i64 e], h)
 | 0, i, hi, c, d => ⟨c, d, fun h => v126_3_2 (k0 := ltZ_f (by rw [ofN, ofN]; omega))⟩
 | k + 1, i, hi, c, d => by
  have h1 : xs[i]? = some xs[i] := List.getElem?_eq_getElem (by omega)
  have hm := hx xs[i] (List.getElem_mem _)
  have ih := ct_loop hx hl k (i + 1) (by omega)
  generalize xs[i] = x at h1 hm
  have k1 : ixA (.imm (encIs xs)) (Int.ofNat i) 9 = some (encI x) := by rw [encIs_map]; exact ix_map (f := encI) h1 (encI_len _)
  have kb := tbv_eq (blk_T (m := m) x)
  have k0 : ltZ (Int.ofNat i) (Int.ofNat xs.length) = true := ltZ_t (by rw [ofN, ofN]; omega)
  generalize tbv m 149 [.v (.agg (encI x))] = qb at kb
  obtain ⟨o, a, b, v, t, l, bd, el, q⟩ := x
  obtain ⟨⟨n1, d1, c1⟩, ⟨n2, d2, c2⟩⟩ := hm
  cases qb with
  | true =>
   obtain ⟨n, e, hh⟩ := ih (IntKind.i64.wrap (c + IntKind.i64.wrap (IntKind.i64.wrap (Int.ofNat 1 + n1) + n2))) _
   exact ⟨n, e, fun h => v126_3_0 (k0 := k0) (k1 := k1) (k2 := c1 h) (k3 := c2 h) (k4 := kb h) (k5 := rfl) (k6 := by rw [wrapS (by omega)]; exact hh h)⟩
  | false =>
   obtain ⟨n, e, hh⟩ := ih (IntKind.i64.wrap (c + IntKind.i64.wrap (IntKind.i64.wrap (Int.ofNat 1 + n1) + n2))) d
   exact ⟨n, e, fun h => v126_3_1 (k0 := k0) (k1 := k1) (k2 := c1 h) (k3 := c2 h) (k4 := kb h) (k5 := rfl) (k6 := by rw [wrapS (by omega)]; exact hh h)⟩
theorem ct_of {xs : List Ins} (hx : ∀ x, x ∈ xs → CTp m x) (hl : xs.length < 2 ^ 62) : CT m xs := by
 obtain ⟨n, e, hh⟩ := ct_loop hx hl xs.length 0 (by omega) (Int.ofNat 0) (Int.ofNat 0)
 exact ⟨n, e, fun h => callF_of rfl rfl (by kernel_rfl) (v126_0 (k0 := by rw [encIs_len]; exact hh h))⟩
mutual
theorem ct_I : ∀ x : Ins, cI x < 2 ^ 62 → CTp m x
 | .mk _ _ _ _ _ l bd el _ => fun h => by
  rw [cI] at h
  have h1 := cL_len bd
  have h2 := cL_len el
  exact ⟨ct_of (ct_L bd (by omega)) (by omega), ct_of (ct_L el (by omega)) (by omega)⟩
theorem ct_L : ∀ xs : List Ins, cL xs < 2 ^ 62 → ∀ x, x ∈ xs → CTp m x
 | [] => fun _ x hx => by cases hx
 | y :: ys => fun h x hx => by
  rw [cL] at h
  have h1 := ct_I y (by omega)
  have h2 := ct_L ys (by omega)
  rcases List.mem_cons.1 hx with e | hx
  ·rw [e]; exact h1
  ·exact h2 x hx
end
theorem count_T {xs : List Ins} (h : cL xs < 2 ^ 62) : CT m xs := ct_of (ct_L xs h) (by have := cL_len xs; omega)
def LTp (m : Int) : Ins → Prop
 | .mk _ _ _ _ _ _ bd el _ => TB m 127 [.v (.imm (encIs bd))] ∧ TB m 127 [.v (.imm (encIs el))]
theorem l150_T {x : Ins} (hx : LTp m x) : TB m 150 [.v (.agg (encI x))] := by
 obtain ⟨o, a, b, v, t, l, bd, el, q⟩ := x
 obtain ⟨⟨q1, c1⟩, ⟨q2, c2⟩⟩ := hx
 cases e : ltZ (Int.ofNat 64) (Int.ofNat (encN l).length) with
 | true => exact ⟨_, fun h => callF_of rfl rfl (by kernel_rfl) (v150_0 (k0 := e))⟩
 | false =>
  cases q1 with
  | false => exact ⟨_, fun h => callF_of rfl rfl (by kernel_rfl) (v150_1 (k0 := e) (k1 := c1 h) (k2 := rfl))⟩
  | true => exact ⟨_, fun h => callF_of rfl rfl (by kernel_rfl) (v150_2 (k0 := e) (k1 := c1 h) (k2 := rfl) (k3 := c2 h))⟩
theorem lt_of {xs : List Ins} (hx : ∀ x, x ∈ xs → LTp m x) (hl : xs.length < 2 ^ 62) : TB m 127 [.v (.imm (encIs xs))] := by
 have c : ∀ h, callF (cxZ m) (blk (cxZ m)) 42 [.v (.imm (encIs xs)), .v (.fn 150 [] [])] h = some (.v (.bool (xs.any fun x => tbv m 150 [.v (.agg (encI x))])), h) := fun h => by
  rw [encIs_map]
  exact has31 (F := fun x => tbv m 150 [.v (.agg (encI x))]) (fun x hm h => callV_fn.trans (tbv_eq (l150_T (hx x hm)) h)) hl
 exact ⟨_, fun h => callF_of rfl rfl (by kernel_rfl) (v127_0 (k0 := c h))⟩
mutual
theorem lt_I : ∀ x : Ins, cI x < 2 ^ 62 → LTp m x
 | .mk _ _ _ _ _ l bd el _ => fun h => by
  rw [cI] at h
  have h1 := cL_len bd
  have h2 := cL_len el
  exact ⟨lt_of (lt_L bd (by omega)) (by omega), lt_of (lt_L el (by omega)) (by omega)⟩
theorem lt_L : ∀ xs : List Ins, cL xs < 2 ^ 62 → ∀ x, x ∈ xs → LTp m x
 | [] => fun _ x hx => by cases hx
 | y :: ys => fun h x hx => by
  rw [cL] at h
  have h1 := lt_I y (by omega)
  have h2 := lt_L ys (by omega)
  rcases List.mem_cons.1 hx with e | hx
  ·rw [e]; exact h1
  ·exact h2 x hx
end
theorem lists_T {xs : List Ins} (h : cL xs < 2 ^ 62) : TB m 127 [.v (.imm (encIs xs))] := lt_of (lt_L xs h) (by have := cL_len xs; omega)
noncomputable def codB (m : Int) (xs : List Ins) : Bool := tbv m 108 [.v (.imm (encIs xs))]
theorem code_T {xs : List Ins} (h : cL xs < 2 ^ 62) : TB m 108 [.v (.imm (encIs xs))] := by
 obtain ⟨n, d, c⟩ := count_T (m := m) h
 obtain ⟨q, cl⟩ := lists_T (m := m) h
 cases e1 : leZ n (Int.ofNat 512) with
 | false => exact ⟨_, fun h => callF_of rfl rfl (by kernel_rfl) (v108_2 (k0 := c h) (k1 := e1))⟩
 | true =>
  cases e2 : leZ d (Int.ofNat 32) with
  | false => exact ⟨_, fun h => callF_of rfl rfl (by kernel_rfl) (v108_1 (k0 := c h) (k1 := e1) (k2 := e2))⟩
  | true => exact ⟨_, fun h => callF_of rfl rfl (by kernel_rfl) (v108_0 (k0 := c h) (k1 := e1) (k2 := e2) (k3 := cl h))⟩
theorem codeB_Z {xs : List Ins} (hx : cL xs < 2 ^ 62) (h : Heap) : CALL m 108 [.v (.imm (encIs xs))] h = some (.v (.bool (codB m xs)), h) := tbv_eq (code_T hx) h
section
variable {h : Heap}
theorem has151_loop {xs : List Imp} {fv : AV} {F : Imp → Bool} (hf : ∀ x, x ∈ xs → callV (cxZ m) (blk (cxZ m)) fv [.v (.agg x.enc)] h = some (.v (.bool (F x)), h)) (hl : xs.length < 2 ^ 62) : ∀ (k i : Nat), i + k = xs.length →
  ∃ z : Int, blk (cxZ m) 151 (at_ Tryz.prog 151 2) [.v (.imm (xs.map Imp.enc)), .v fv, .v (.int .i64 (Int.ofNat xs.length)), .v (.int .i64 (Int.ofNat i))] h = some (.v (.int .i64 z), h) ∧ leZ (Int.ofNat 0) z = (xs.drop i).any F
 | 0, i, hi => by
  rw [List.drop_of_length_le (by omega)]
  exact ⟨_, v151_2_2 (k0 := ltZ_f (by rw [ofN, ofN]; omega)), rfl⟩
 | k + 1, i, hi => by
  have h1 : xs[i]? = some xs[i] := List.getElem?_eq_getElem (by omega)
  have e1 : ixA (.imm (xs.map Imp.enc)) (Int.ofNat i) 8 = some (Imp.enc xs[i]) := ix_map (f := Imp.enc) h1 (Imp.enc_len _)
  have hv := hf xs[i] (List.getElem_mem _)
  rw [drop_get h1, List.any_cons]
  obtain ⟨z, hz, he⟩ := has151_loop hf hl k (i + 1) (by omega)
  generalize xs[i] = x at e1 hv ⊢
  obtain ⟨a1, a2, a3, a4, a5, ⟨lo, hi, hs⟩⟩ := x
  cases hq : F ⟨a1, a2, a3, a4, a5, ⟨lo, hi, hs⟩⟩ with
  | true =>
   rw [hq] at hv
   exact ⟨_, v151_2_0 (k0 := ltZ_t (by rw [ofN, ofN]; omega)) (k1 := e1) (k2 := hv) (k3 := rfl), by rw [Bool.true_or]; exact leZ_t (by rw [ofN, ofN]; omega)⟩
  | false =>
   rw [hq] at hv
   exact ⟨z, v151_2_1 (k0 := ltZ_t (by rw [ofN, ofN]; omega)) (k1 := e1) (k2 := hv) (k3 := rfl) (k4 := by rw [wrapS (by omega)]; exact hz), by rw [Bool.false_or]; exact he⟩
theorem has151 {xs : List Imp} {fv : AV} {F : Imp → Bool} (hf : ∀ x, x ∈ xs → callV (cxZ m) (blk (cxZ m)) fv [.v (.agg x.enc)] h = some (.v (.bool (F x)), h)) (hl : xs.length < 2 ^ 62) :
  callF (cxZ m) (blk (cxZ m)) 128 [.v (.imm (xs.map Imp.enc)), .v fv] h = some (.v (.bool (xs.any F)), h) := by
 obtain ⟨z, hz, he⟩ := has151_loop (m := m) (h := h) hf hl xs.length 0 (by omega)
 rw [List.drop_zero] at he
 rw [← he]
 refine callF_of rfl rfl (by kernel_rfl) (v128_0 (k0 := callF_of rfl rfl (by kernel_rfl) (v151_0 (k0 := ?_))))
 rw [List.length_map]
 exact hz
theorem has115_loop {xs : List Exq} {fv : AV} {F : Exq → Bool} (hf : ∀ x, x ∈ xs → callV (cxZ m) (blk (cxZ m)) fv [.v (.agg x.enc)] h = some (.v (.bool (F x)), h)) (hl : xs.length < 2 ^ 62) : ∀ (k i : Nat), i + k = xs.length →
  ∃ z : Int, blk (cxZ m) 115 (at_ Tryz.prog 115 2) [.v (.imm (xs.map Exq.enc)), .v fv, .v (.int .i64 (Int.ofNat xs.length)), .v (.int .i64 (Int.ofNat i))] h = some (.v (.int .i64 z), h) ∧ leZ (Int.ofNat 0) z = (xs.drop i).any F
 | 0, i, hi => by
  rw [List.drop_of_length_le (by omega)]
  exact ⟨_, v115_2_2 (k0 := ltZ_f (by rw [ofN, ofN]; omega)), rfl⟩
 | k + 1, i, hi => by
  have h1 : xs[i]? = some xs[i] := List.getElem?_eq_getElem (by omega)
  have e1 : ixA (.imm (xs.map Exq.enc)) (Int.ofNat i) 3 = some (Exq.enc xs[i]) := ix_map (f := Exq.enc) h1 (Exq.enc_len _)
  have hv := hf xs[i] (List.getElem_mem _)
  rw [drop_get h1, List.any_cons]
  obtain ⟨z, hz, he⟩ := has115_loop hf hl k (i + 1) (by omega)
  generalize xs[i] = x at e1 hv ⊢
  obtain ⟨na, kk, ii⟩ := x
  cases hq : F ⟨na, kk, ii⟩ with
  | true =>
   rw [hq] at hv
   exact ⟨_, v115_2_0 (k0 := ltZ_t (by rw [ofN, ofN]; omega)) (k1 := e1) (k2 := hv) (k3 := rfl), by rw [Bool.true_or]; exact leZ_t (by rw [ofN, ofN]; omega)⟩
  | false =>
   rw [hq] at hv
   exact ⟨z, v115_2_1 (k0 := ltZ_t (by rw [ofN, ofN]; omega)) (k1 := e1) (k2 := hv) (k3 := rfl) (k4 := by rw [wrapS (by omega)]; exact hz), by rw [Bool.false_or]; exact he⟩
theorem has115 {xs : List Exq} {fv : AV} {F : Exq → Bool} (hf : ∀ x, x ∈ xs → callV (cxZ m) (blk (cxZ m)) fv [.v (.agg x.enc)] h = some (.v (.bool (F x)), h)) (hl : xs.length < 2 ^ 62) :
  callF (cxZ m) (blk (cxZ m)) 74 [.v (.imm (xs.map Exq.enc)), .v fv] h = some (.v (.bool (xs.any F)), h) := by
 obtain ⟨z, hz, he⟩ := has115_loop (m := m) (h := h) hf hl xs.length 0 (by omega)
 rw [List.drop_zero] at he
 rw [← he]
 refine callF_of rfl rfl (by kernel_rfl) (v74_0 (k0 := callF_of rfl rfl (by kernel_rfl) (v115_0 (k0 := ?_))))
 rw [List.length_map]
 exact hz
theorem has152_loop {xs : List Cus} {fv : AV} {F : Cus → Bool} (hf : ∀ x, x ∈ xs → callV (cxZ m) (blk (cxZ m)) fv [.v (.agg x.enc)] h = some (.v (.bool (F x)), h)) (hl : xs.length < 2 ^ 62) : ∀ (k i : Nat), i + k = xs.length →
  ∃ z : Int, blk (cxZ m) 152 (at_ Tryz.prog 152 2) [.v (.imm (xs.map Cus.enc)), .v fv, .v (.int .i64 (Int.ofNat xs.length)), .v (.int .i64 (Int.ofNat i))] h = some (.v (.int .i64 z), h) ∧ leZ (Int.ofNat 0) z = (xs.drop i).any F
 | 0, i, hi => by
  rw [List.drop_of_length_le (by omega)]
  exact ⟨_, v152_2_2 (k0 := ltZ_f (by rw [ofN, ofN]; omega)), rfl⟩
 | k + 1, i, hi => by
  have h1 : xs[i]? = some xs[i] := List.getElem?_eq_getElem (by omega)
  have e1 : ixA (.imm (xs.map Cus.enc)) (Int.ofNat i) 2 = some (Cus.enc xs[i]) := ix_map (f := Cus.enc) h1 (Cus.enc_len _)
  have hv := hf xs[i] (List.getElem_mem _)
  rw [drop_get h1, List.any_cons]
  obtain ⟨z, hz, he⟩ := has152_loop hf hl k (i + 1) (by omega)
  generalize xs[i] = x at e1 hv ⊢
  obtain ⟨a1, a2⟩ := x
  cases hq : F ⟨a1, a2⟩ with
  | true =>
   rw [hq] at hv
   exact ⟨_, v152_2_0 (k0 := ltZ_t (by rw [ofN, ofN]; omega)) (k1 := e1) (k2 := hv) (k3 := rfl), by rw [Bool.true_or]; exact leZ_t (by rw [ofN, ofN]; omega)⟩
  | false =>
   rw [hq] at hv
   exact ⟨z, v152_2_1 (k0 := ltZ_t (by rw [ofN, ofN]; omega)) (k1 := e1) (k2 := hv) (k3 := rfl) (k4 := by rw [wrapS (by omega)]; exact hz), by rw [Bool.false_or]; exact he⟩
theorem has152 {xs : List Cus} {fv : AV} {F : Cus → Bool} (hf : ∀ x, x ∈ xs → callV (cxZ m) (blk (cxZ m)) fv [.v (.agg x.enc)] h = some (.v (.bool (F x)), h)) (hl : xs.length < 2 ^ 62) :
  callF (cxZ m) (blk (cxZ m)) 131 [.v (.imm (xs.map Cus.enc)), .v fv] h = some (.v (.bool (xs.any F)), h) := by
 obtain ⟨z, hz, he⟩ := has152_loop (m := m) (h := h) hf hl xs.length 0 (by omega)
 rw [List.drop_zero] at he
 rw [← he]
 refine callF_of rfl rfl (by kernel_rfl) (v131_0 (k0 := callF_of rfl rfl (by kernel_rfl) (v152_0 (k0 := ?_))))
 rw [List.length_map]
 exact hz
theorem has153_loop {xs : List Ele} {fv : AV} {F : Ele → Bool} (hf : ∀ x, x ∈ xs → callV (cxZ m) (blk (cxZ m)) fv [.v (.agg x.enc)] h = some (.v (.bool (F x)), h)) (hl : xs.length < 2 ^ 62) : ∀ (k i : Nat), i + k = xs.length →
  ∃ z : Int, blk (cxZ m) 153 (at_ Tryz.prog 153 2) [.v (.imm (xs.map Ele.enc)), .v fv, .v (.int .i64 (Int.ofNat xs.length)), .v (.int .i64 (Int.ofNat i))] h = some (.v (.int .i64 z), h) ∧ leZ (Int.ofNat 0) z = (xs.drop i).any F
 | 0, i, hi => by
  rw [List.drop_of_length_le (by omega)]
  exact ⟨_, v153_2_2 (k0 := ltZ_f (by rw [ofN, ofN]; omega)), rfl⟩
 | k + 1, i, hi => by
  have h1 : xs[i]? = some xs[i] := List.getElem?_eq_getElem (by omega)
  have e1 : ixA (.imm (xs.map Ele.enc)) (Int.ofNat i) 10 = some (Ele.enc xs[i]) := ix_map (f := Ele.enc) h1 (Ele.enc_len _)
  have hv := hf xs[i] (List.getElem_mem _)
  rw [drop_get h1, List.any_cons]
  obtain ⟨z, hz, he⟩ := has153_loop hf hl k (i + 1) (by omega)
  generalize xs[i] = x at e1 hv ⊢
  obtain ⟨⟨g1, g2, g3, g4, g5, g6, g7, g8, g9⟩, a2⟩ := x
  cases hq : F ⟨.mk g1 g2 g3 g4 g5 g6 g7 g8 g9, a2⟩ with
  | true =>
   rw [hq] at hv
   exact ⟨_, v153_2_0 (k0 := ltZ_t (by rw [ofN, ofN]; omega)) (k1 := e1) (k2 := hv) (k3 := rfl), by rw [Bool.true_or]; exact leZ_t (by rw [ofN, ofN]; omega)⟩
  | false =>
   rw [hq] at hv
   exact ⟨z, v153_2_1 (k0 := ltZ_t (by rw [ofN, ofN]; omega)) (k1 := e1) (k2 := hv) (k3 := rfl) (k4 := by rw [wrapS (by omega)]; exact hz), by rw [Bool.false_or]; exact he⟩
theorem has153 {xs : List Ele} {fv : AV} {F : Ele → Bool} (hf : ∀ x, x ∈ xs → callV (cxZ m) (blk (cxZ m)) fv [.v (.agg x.enc)] h = some (.v (.bool (F x)), h)) (hl : xs.length < 2 ^ 62) :
  callF (cxZ m) (blk (cxZ m)) 133 [.v (.imm (xs.map Ele.enc)), .v fv] h = some (.v (.bool (xs.any F)), h) := by
 obtain ⟨z, hz, he⟩ := has153_loop (m := m) (h := h) hf hl xs.length 0 (by omega)
 rw [List.drop_zero] at he
 rw [← he]
 refine callF_of rfl rfl (by kernel_rfl) (v133_0 (k0 := callF_of rfl rfl (by kernel_rfl) (v153_0 (k0 := ?_))))
 rw [List.length_map]
 exact hz
theorem has154_loop {xs : List Dat} {fv : AV} {F : Dat → Bool} (hf : ∀ x, x ∈ xs → callV (cxZ m) (blk (cxZ m)) fv [.v (.agg x.enc)] h = some (.v (.bool (F x)), h)) (hl : xs.length < 2 ^ 62) : ∀ (k i : Nat), i + k = xs.length →
  ∃ z : Int, blk (cxZ m) 154 (at_ Tryz.prog 154 2) [.v (.imm (xs.map Dat.enc)), .v fv, .v (.int .i64 (Int.ofNat xs.length)), .v (.int .i64 (Int.ofNat i))] h = some (.v (.int .i64 z), h) ∧ leZ (Int.ofNat 0) z = (xs.drop i).any F
 | 0, i, hi => by
  rw [List.drop_of_length_le (by omega)]
  exact ⟨_, v154_2_2 (k0 := ltZ_f (by rw [ofN, ofN]; omega)), rfl⟩
 | k + 1, i, hi => by
  have h1 : xs[i]? = some xs[i] := List.getElem?_eq_getElem (by omega)
  have e1 : ixA (.imm (xs.map Dat.enc)) (Int.ofNat i) 10 = some (Dat.enc xs[i]) := ix_map (f := Dat.enc) h1 (Dat.enc_len _)
  have hv := hf xs[i] (List.getElem_mem _)
  rw [drop_get h1, List.any_cons]
  obtain ⟨z, hz, he⟩ := has154_loop hf hl k (i + 1) (by omega)
  generalize xs[i] = x at e1 hv ⊢
  obtain ⟨⟨g1, g2, g3, g4, g5, g6, g7, g8, g9⟩, a2⟩ := x
  cases hq : F ⟨.mk g1 g2 g3 g4 g5 g6 g7 g8 g9, a2⟩ with
  | true =>
   rw [hq] at hv
   exact ⟨_, v154_2_0 (k0 := ltZ_t (by rw [ofN, ofN]; omega)) (k1 := e1) (k2 := hv) (k3 := rfl), by rw [Bool.true_or]; exact leZ_t (by rw [ofN, ofN]; omega)⟩
  | false =>
   rw [hq] at hv
   exact ⟨z, v154_2_1 (k0 := ltZ_t (by rw [ofN, ofN]; omega)) (k1 := e1) (k2 := hv) (k3 := rfl) (k4 := by rw [wrapS (by omega)]; exact hz), by rw [Bool.false_or]; exact he⟩
theorem has154 {xs : List Dat} {fv : AV} {F : Dat → Bool} (hf : ∀ x, x ∈ xs → callV (cxZ m) (blk (cxZ m)) fv [.v (.agg x.enc)] h = some (.v (.bool (F x)), h)) (hl : xs.length < 2 ^ 62) :
  callF (cxZ m) (blk (cxZ m)) 135 [.v (.imm (xs.map Dat.enc)), .v fv] h = some (.v (.bool (xs.any F)), h) := by
 obtain ⟨z, hz, he⟩ := has154_loop (m := m) (h := h) hf hl xs.length 0 (by omega)
 rw [List.drop_zero] at he
 rw [← he]
 refine callF_of rfl rfl (by kernel_rfl) (v135_0 (k0 := callF_of rfl rfl (by kernel_rfl) (v154_0 (k0 := ?_))))
 rw [List.length_map]
 exact hz
end
def impL (x : Imp) : Bool := ltZ (Int.ofNat 64) (Int.ofNat x.m.size) || ltZ (Int.ofNat 64) (Int.ofNat x.n.size)
def exqL (x : Exq) : Bool := ltZ (Int.ofNat 64) (Int.ofNat x.n.size)
def cusL (x : Cus) : Bool := ltZ (Int.ofNat 64) (Int.ofNat x.n.size) || ltZ (Int.ofNat 4096) (Int.ofNat x.b.length)
noncomputable def eleL (m : Int) (x : Ele) : Bool := ltZ (Int.ofNat 64) (Int.ofNat x.f.length) || !codB m [x.o]
noncomputable def datL (m : Int) (x : Dat) : Bool := ltZ (Int.ofNat 4096) (Int.ofNat x.b.length) || !codB m [x.o]
theorem encBy_len (l : List Int) : (Am.encB l).length = l.length := by simp [Am.encB]
theorem imp129 (x : Imp) (h : Heap) : CALL m 129 [.v (.agg x.enc)] h = some (.v (.bool (impL x)), h) := by
 unfold impL
 cases e : ltZ (Int.ofNat 64) (Int.ofNat x.m.size) with
 | true => exact callF_of rfl rfl (by kernel_rfl) (v129_0 (k0 := e))
 | false => exact callF_of rfl rfl (by kernel_rfl) (v129_1 (k0 := e))
theorem exq130 (x : Exq) (h : Heap) : CALL m 130 [.v (.agg x.enc)] h = some (.v (.bool (exqL x)), h) := callF_of rfl rfl (by kernel_rfl) v130_0
theorem cus132 (x : Cus) (h : Heap) : CALL m 132 [.v (.agg x.enc)] h = some (.v (.bool (cusL x)), h) := by
 unfold cusL
 cases e : ltZ (Int.ofNat 64) (Int.ofNat x.n.size) with
 | true => exact callF_of rfl rfl (by kernel_rfl) (v132_0 (k0 := e))
 | false =>
  rw [Bool.false_or, ← encBy_len]
  exact callF_of rfl rfl (by kernel_rfl) (v132_1 (k0 := e))
theorem ele134 {x : Ele} (hx : cL [x.o] < 2 ^ 62) (h : Heap) : CALL m 134 [.v (.agg x.enc)] h = some (.v (.bool (eleL m x)), h) := by
 have c := codeB_Z (m := m) hx h
 unfold eleL
 generalize codB m [x.o] = qc at c ⊢
 obtain ⟨⟨o, a, b, v, t, l, bd, el, q⟩, f⟩ := x
 cases e : ltZ (Int.ofNat 64) (Int.ofNat f.length) with
 | true => exact callF_of rfl rfl (by kernel_rfl) (v134_0 (k0 := by rw [encN_len]; exact e))
 | false => exact callF_of rfl rfl (by kernel_rfl) (v134_1 (k0 := by rw [encN_len]; exact e) (k1 := c))
theorem dat136 {x : Dat} (hx : cL [x.o] < 2 ^ 62) (h : Heap) : CALL m 136 [.v (.agg x.enc)] h = some (.v (.bool (datL m x)), h) := by
 have c := codeB_Z (m := m) hx h
 unfold datL
 generalize codB m [x.o] = qc at c ⊢
 obtain ⟨⟨o, a, b, v, t, l, bd, el, q⟩, f⟩ := x
 cases e : ltZ (Int.ofNat 4096) (Int.ofNat f.length) with
 | true => exact callF_of rfl rfl (by kernel_rfl) (v136_0 (k0 := by rw [encBy_len]; exact e))
 | false => exact callF_of rfl rfl (by kernel_rfl) (v136_1 (k0 := by rw [encBy_len]; exact e) (k1 := c))
structure Bk (M : Mdl) : Prop where
 ty : M.ty.length ≤ 1048576
 tl : ∀ x, x ∈ M.ty → x.p.length ≤ 1048576 ∧ x.r.length ≤ 1048576
 im : M.im.length ≤ 1048576
 fu : M.fu.length ≤ 1048576
 fl : ∀ x, x ∈ M.fu → x.l.length ≤ 1048576 ∧ cL x.b ≤ 1048576
 ta : M.ta.length ≤ 1048576
 me : M.me.length ≤ 1048576
 gl : M.gl.length ≤ 1048576
 gi : ∀ x, x ∈ M.gl → cL [x.i] ≤ 1048576
 ex : M.ex.length ≤ 1048576
 el : M.el.length ≤ 1048576
 eo : ∀ x, x ∈ M.el → cL [x.o] ≤ 1048576 ∧ x.f.length ≤ 1048576
 da : M.da.length ≤ 1048576
 dl : ∀ x, x ∈ M.da → cL [x.o] ≤ 1048576
 cu : M.cu.length ≤ 1048576
def textB (M : Mdl) : Bool := !(M.im.any impL) && (!(M.ex.any exqL) && !(M.cu.any cusL))
theorem text_Z {M : Mdl} (hM : Bk M) (h : Heap) : CALL m 109 [eM M] h = some (.v (.bool (textB M)), h) := by
 have c1 := has151 (m := m) (h := h) (xs := M.im) (fv := .fn 129 [] []) (F := impL) (fun x _ => callV_fn.trans (imp129 x h)) (by have := hM.im; omega)
 have c2 := has115 (m := m) (h := h) (xs := M.ex) (fv := .fn 130 [] []) (F := exqL) (fun x _ => callV_fn.trans (exq130 x h)) (by have := hM.ex; omega)
 have c3 := has152 (m := m) (h := h) (xs := M.cu) (fv := .fn 132 [] []) (F := cusL) (fun x _ => callV_fn.trans (cus132 x h)) (by have := hM.cu; omega)
 unfold textB
 cases q1 : M.im.any impL with
 | true => rw [q1] at c1; exact callF_of rfl rfl (by kernel_rfl) (v109_0 (k0 := c1) (k1 := rfl))
 | false =>
  rw [q1] at c1
  cases q2 : M.ex.any exqL with
  | true => rw [q2] at c2; exact callF_of rfl rfl (by kernel_rfl) (v109_2 (k0 := c1) (k1 := rfl) (k2 := c2) (k3 := rfl))
  | false => rw [q2] at c2; exact callF_of rfl rfl (by kernel_rfl) (v109_1 (k0 := c1) (k1 := rfl) (k2 := c2) (k3 := rfl) (k4 := c3))
noncomputable def segB (m : Int) (M : Mdl) : Bool := !(M.el.any (eleL m)) && !(M.da.any (datL m))
theorem seg_Z {M : Mdl} (hM : Bk M) (h : Heap) : CALL m 110 [eM M] h = some (.v (.bool (segB m M)), h) := by
 have c1 := has153 (m := m) (h := h) (xs := M.el) (fv := .fn 134 [] []) (F := eleL m) (fun x hx => callV_fn.trans (ele134 (by have := (hM.eo x hx).1; omega) h)) (by have := hM.el; omega)
 have c2 := has154 (m := m) (h := h) (xs := M.da) (fv := .fn 136 [] []) (F := datL m) (fun x hx => callV_fn.trans (dat136 (by have := hM.dl x hx; omega) h)) (by have := hM.da; omega)
 unfold segB
 cases q1 : M.el.any (eleL m) with
 | true => rw [q1] at c1; exact callF_of rfl rfl (by kernel_rfl) (v110_1 (k0 := c1) (k1 := rfl))
 | false => rw [q1] at c1; exact callF_of rfl rfl (by kernel_rfl) (v110_0 (k0 := c1) (k1 := rfl) (k2 := c2))
theorem mx_le (x y c : Int) : leZ (mxZ x y) c = (leZ x c && leZ y c) := by
 unfold mxZ
 rw [leZ_eq, leZ_eq, leZ_eq]
 by_cases hxy : y > x
 ·rw [decide_eq_true hxy, cond_true]
  by_cases h1 : y ≤ c
  ·rw [decide_eq_true h1, decide_eq_true (show x ≤ c by omega)]; rfl
  ·rw [decide_eq_false h1, Bool.and_false]
 ·rw [decide_eq_false hxy, cond_false]
  by_cases h1 : x ≤ c
  ·rw [decide_eq_true h1, decide_eq_true (show y ≤ c by omega)]; rfl
  ·rw [decide_eq_false h1]; rfl
def le64 (n : Nat) : Bool := leZ (n : Int) 64
def fewB (M : Mdl) : Bool := le64 M.ty.length && (le64 M.im.length && le64 M.fu.length && le64 M.ta.length && le64 M.me.length && le64 M.gl.length && le64 M.ex.length && le64 M.el.length && le64 M.da.length && le64 M.cu.length)
theorem few_Z (M : Mdl) (h : Heap) : CALL m 107 [eM M] h = some (.v (.bool (fewB M)), h) := by
 have e : (le64 M.im.length && le64 M.fu.length && le64 M.ta.length && le64 M.me.length && le64 M.gl.length && le64 M.ex.length && le64 M.el.length && le64 M.da.length && le64 M.cu.length) =
   leZ (mxZ (mxZ (mxZ (mxZ (mxZ (mxZ (mxZ (mxZ ((M.im.map Imp.enc).length : Int) ((M.fu.map MFn.enc).length : Int)) ((M.ta.map Lim.enc).length : Int)) ((M.me.map Lim.enc).length : Int)) ((M.gl.map Glo.enc).length : Int)) ((M.ex.map Exq.enc).length : Int)) ((M.el.map Ele.enc).length : Int)) ((M.da.map Dat.enc).length : Int)) ((M.cu.map Cus.enc).length : Int)) 64 := by
  simp only [mx_le, List.length_map, le64]
 unfold fewB
 rw [e]
 cases q : le64 M.ty.length with
 | true => exact callF_of rfl rfl (by kernel_rfl) (v107_0 (k0 := by rw [List.length_map]; exact q))
 | false => exact callF_of rfl rfl (by kernel_rfl) (v107_1 (k0 := by rw [List.length_map]; exact q))
end
end Go.Proofs.YtoblgjmllmomhaaGreatDoor
namespace Go.Proofs.YtoblgjmllmomhaaGreatDoor
set_option maxRecDepth 100000
open Go Go.RowKit Go.Proofs.Am
section
variable {m : Int} {h : Heap}
abbrev MCx (M : Mdl) : List LV := mC M
def styB (x : FTy) : Bool := !ltZ (Int.ofNat 64) (Int.ofNat x.p.length) && !ltZ (Int.ofNat 64) (Int.ofNat x.r.length)
noncomputable def sfuB (m : Int) (x : MFn) : Bool := !ltZ (Int.ofNat 64) (Int.ofNat x.l.length) && codB m x.b
noncomputable def sglB (m : Int) (x : Glo) : Bool := codB m [x.i]
noncomputable def smlB (m : Int) (M : Mdl) : Bool := fewB M && (M.ty.all styB && (M.fu.all (sfuB m) && (M.gl.all (sglB m) && (textB M && segB m M))))
theorem sml16 {M : Mdl} (hM : Bk M) : ∀ (d i : Nat), i + d = M.gl.length →
  blk (cxZ m) 62 (at_ Tryz.prog 62 16) ([.lp 0 0, .v (.imm (M.gl.map Glo.enc)), .v (.int .i64 (Int.ofNat M.gl.length)), .v (.int .i64 (Int.ofNat i))] ++ mC M) h = some (.v (.bool ((M.gl.drop i).all (sglB m) && (textB M && segB m M))), h)
 | 0, i, hi => by
  rw [List.drop_of_length_le (by omega), List.all_nil, Bool.true_and]
  have c1 := text_Z (m := m) hM h
  have c2 := seg_Z (m := m) hM h
  cases q1 : textB M with
  | true => rw [q1] at c1; exact v62_16_2 (k0 := ltZ_f (by rw [ofN, ofN]; omega)) (k1 := c1) (k2 := rfl) (k3 := c2)
  | false => rw [q1] at c1; exact v62_16_3 (k0 := ltZ_f (by rw [ofN, ofN]; omega)) (k1 := c1) (k2 := rfl)
 | d + 1, i, hi => by
  have hx : M.gl[i]? = some M.gl[i] := List.getElem?_eq_getElem (by omega)
  have hm := hM.gi M.gl[i] (List.getElem_mem _)
  have hgl := hM.gl
  have k0 : ltZ (Int.ofNat i) (Int.ofNat M.gl.length) = true := ltZ_t (by rw [ofN, ofN]; omega)
  have ih := sml16 hM d (i + 1) (by omega)
  rw [drop_get hx, List.all_cons]
  generalize M.gl[i] = x at hx hm ⊢
  have k1 : ixA (.imm (M.gl.map Glo.enc)) (Int.ofNat i) 11 = some x.enc := ix_map hx x.enc_len
  have c := codeB_Z (m := m) (xs := [x.i]) (by omega) h
  unfold sglB at *
  cases q : codB m [x.i] with
  | false =>
   rw [q] at c
   obtain ⟨t, mu, ⟨o, a, b, v, tt, l, bd, el, qq⟩⟩ := x
   exact v62_16_0 (k0 := k0) (k1 := k1) (k2 := c) (k3 := rfl)
  | true =>
   rw [q] at c
   obtain ⟨t, mu, ⟨o, a, b, v, tt, l, bd, el, qq⟩⟩ := x
   rw [Bool.true_and]
   exact v62_16_1 (k0 := k0) (k1 := k1) (k2 := c) (k3 := rfl) (k4 := by rw [wrapS (by omega)]; exact ih)
theorem sml10 {M : Mdl} (hM : Bk M) : ∀ (d i : Nat), i + d = M.fu.length →
  blk (cxZ m) 62 (at_ Tryz.prog 62 10) ([.lp 0 0, .v (.imm (M.fu.map MFn.enc)), .v (.int .i64 (Int.ofNat M.fu.length)), .v (.int .i64 (Int.ofNat i))] ++ mC M) h = some (.v (.bool ((M.fu.drop i).all (sfuB m) && (M.gl.all (sglB m) && (textB M && segB m M)))), h)
 | 0, i, hi => by
  rw [List.drop_of_length_le (by omega), List.all_nil, Bool.true_and]
  have := sml16 (m := m) (h := h) hM M.gl.length 0 (by omega)
  exact v62_10_3 (k0 := ltZ_f (by rw [ofN, ofN]; omega)) (k1 := by rw [List.length_map]; exact this)
 | d + 1, i, hi => by
  have hx : M.fu[i]? = some M.fu[i] := List.getElem?_eq_getElem (by omega)
  have hm := hM.fl M.fu[i] (List.getElem_mem _)
  have hgl := hM.fu
  have k0 : ltZ (Int.ofNat i) (Int.ofNat M.fu.length) = true := ltZ_t (by rw [ofN, ofN]; omega)
  have ih := sml10 hM d (i + 1) (by omega)
  rw [drop_get hx, List.all_cons]
  generalize M.fu[i] = x at hx hm ⊢
  have k1 : ixA (.imm (M.fu.map MFn.enc)) (Int.ofNat i) 3 = some x.enc := ix_map hx x.enc_len
  have c := codeB_Z (m := m) (xs := x.b) (by omega) h
  unfold sfuB at *
  cases e : ltZ (Int.ofNat 64) (Int.ofNat x.l.length) with
  | true => exact v62_10_0 (k0 := k0) (k1 := k1) (k2 := by rw [encN_len]; exact e)
  | false =>
   rw [Bool.not_false, Bool.true_and]
   cases q : codB m x.b with
   | false =>
    rw [q] at c
    exact v62_10_1 (k0 := k0) (k1 := k1) (k2 := by rw [encN_len]; exact e) (k3 := c) (k4 := rfl)
   | true =>
    rw [q] at c
    rw [Bool.true_and]
    exact v62_10_2 (k0 := k0) (k1 := k1) (k2 := by rw [encN_len]; exact e) (k3 := c) (k4 := rfl) (k5 := by rw [wrapS (by omega)]; exact ih)
theorem sml4 {M : Mdl} (hM : Bk M) : ∀ (d i : Nat), i + d = M.ty.length →
  blk (cxZ m) 62 (at_ Tryz.prog 62 4) ([.lp 0 0, .v (.imm (M.ty.map FTy.enc)), .v (.int .i64 (Int.ofNat M.ty.length)), .v (.int .i64 (Int.ofNat i))] ++ mC M) h = some (.v (.bool ((M.ty.drop i).all styB && (M.fu.all (sfuB m) && (M.gl.all (sglB m) && (textB M && segB m M))))), h)
 | 0, i, hi => by
  rw [List.drop_of_length_le (by omega), List.all_nil, Bool.true_and]
  have := sml10 (m := m) (h := h) hM M.fu.length 0 (by omega)
  exact v62_4_3 (k0 := ltZ_f (by rw [ofN, ofN]; omega)) (k1 := by rw [List.length_map]; exact this)
 | d + 1, i, hi => by
  have hx : M.ty[i]? = some M.ty[i] := List.getElem?_eq_getElem (by omega)
  have hgl := hM.ty
  have k0 : ltZ (Int.ofNat i) (Int.ofNat M.ty.length) = true := ltZ_t (by rw [ofN, ofN]; omega)
  have ih := sml4 hM d (i + 1) (by omega)
  rw [drop_get hx, List.all_cons]
  generalize M.ty[i] = x at hx ⊢
  have k1 : ixA (.imm (M.ty.map FTy.enc)) (Int.ofNat i) 2 = some x.enc := ix_map hx x.enc_len
  unfold styB at *
  cases e : ltZ (Int.ofNat 64) (Int.ofNat x.p.length) with
  | true => exact v62_4_0 (k0 := k0) (k1 := k1) (k2 := by rw [encN_len]; exact e)
  | false =>
   cases e2 : ltZ (Int.ofNat 64) (Int.ofNat x.r.length) with
   | true => exact v62_4_1 (k0 := k0) (k1 := k1) (k2 := by rw [encN_len]; exact e) (k3 := by rw [encN_len]; exact e2)
   | false =>
    simp only [Bool.not_false, Bool.true_and]
    exact v62_4_2 (k0 := k0) (k1 := k1) (k2 := by rw [encN_len]; exact e) (k3 := by rw [encN_len]; exact e2) (k4 := by rw [wrapS (by omega)]; exact ih)
theorem sml_Z {M : Mdl} (hM : Bk M) (h : Heap) : callF (cxZ m) (blk (cxZ m)) 62 [eM M] h = some (.v (.bool (smlB m M)), h) := by
 have c := few_Z (m := m) M h
 unfold smlB
 cases q : fewB M with
 | false => rw [q] at c; exact callF_of rfl rfl (by kernel_rfl) (v62_0 (k0 := c) (k1 := rfl))
 | true =>
  rw [q] at c
  have := sml4 (m := m) (h := h) hM M.ty.length 0 (by omega)
  exact callF_of rfl rfl (by kernel_rfl) (v62_1 (k0 := c) (k1 := rfl) (k2 := by rw [List.length_map]; exact this))
end
end Go.Proofs.YtoblgjmllmomhaaGreatDoor
