/-
  The law's own: the examples, counting, few, copies, comparisons.
-/
import Derived.Test.YtjelldpjopdimaaDoorAmS13t
import Derived.Test.YtjelldpjopdimaaDoorAmS13wK
import Derived.Test.YtjelldpjopdimaaDoorAmS13wL
import Derived.Test.YtjelldpjopdimaaDoorAmS13wM

namespace Go.Proofs.YtjelldpjopdimaaDoor
open Go Go.Proofs.Am

section
variable {m : Int}
def scp0 : Scp := ⟨[], [], [], false, false, [], 1⟩
def ins0 (o v : Int) : Ins := .mk o 0 0 v 0 [] [] [] false
theorem up1 : checkP scp0 [ins0 65 1, ins0 65 2, ins0 106 0] = none := by kernel_rfl
theorem up2 : checkP scp0 [ins0 0 0, ins0 106 0] = none := by kernel_rfl
theorem up3 : checkP scp0 [ins0 66 1] = some 4 := by kernel_rfl
theorem eq4 : binF Tryd.prog .eql 33 false (errA (some 4)) (.ifc 47 (.int .i64 (Int.ofNat 4))) = some (.bool true) := by kernel_rfl
theorem ty0 : TyLen 0 scp0 := fun x hx => by cases hx
theorem sl0 : ScpLen (2 ^ 62) scp0 where
  ty := by decide
  tl := fun x (hx : x ∈ ([] : List FTy)) => absurd hx (by simp)
  fn := by decide
  gl := by decide
  lo := by decide
theorem up_Z (h : Heap) : ∃ h', callF (cxZ m) (blk (cxZ m)) 6 [] h = some (.v (.bool true), h') := by
  obtain ⟨h1, c1⟩ := check_Z (m := m) ty0 sl0 (xs := [ins0 65 1, ins0 65 2, ins0 106 0]) (by decide) h
  obtain ⟨h2, c2⟩ := check_Z (m := m) ty0 sl0 (xs := [ins0 0 0, ins0 106 0]) (by decide) h1
  obtain ⟨h3, c3⟩ := check_Z (m := m) ty0 sl0 (xs := [ins0 66 1]) (by decide) h2
  rw [up1] at c1
  rw [up2] at c2
  rw [up3] at c3
  exact ⟨h3, callF_of rfl rfl (by kernel_rfl) (w6_0 (k0 := c1) (k1 := c2) (k2 := c3) (k3 := err_eql none) (k4 := rfl) (k5 := err_eql none) (k6 := rfl) (k7 := eq4))⟩
/-! ### Lists of numbers -/
theorem ints_loop {l : List Int} (hl : l.length < 2 ^ 62) {h : Heap} : ∀ (k i : Nat), i + k = l.length → blk (cxZ m) 12 (at_ Tryd.prog 12 4) [.v (.imm (encN l)), .v (.imm (encN l)), .v (.int .i64 (Int.ofNat i))] h = some (.v (.bool true), h)
  | 0, i, hi => w12_4_2 (k0 := ltZ_f (by rw [ofN, ofN, encN_len]; omega))
  | k + 1, i, hi => by
    have h1 : l[i]? = some l[i] := List.getElem?_eq_getElem (by omega)
    have e1 : ixA (.imm (encN l)) (Int.ofNat i) 1 = some [.int .i64 l[i]] := ix_map (f := fun x => [AV.int .i64 x]) h1 rfl
    exact w12_4_1 (k0 := ltZ_t (by rw [ofN, ofN, encN_len]; omega)) (k1 := e1) (k2 := e1) (k3 := congrArg not (eqZ_t rfl)) (k4 := by rw [wrapS (by omega)]; exact ints_loop hl k (i + 1) (by omega))
theorem ints_Z {l : List Int} (hl : l.length < 2 ^ 62) (h : Heap) : callF (cxZ m) (blk (cxZ m)) 12 [.v (.imm (encN l)), .v (.imm (encN l))] h = some (.v (.bool true), h) :=
  callF_of rfl rfl (by kernel_rfl) (w12_1 (k0 := congrArg not (eqZ_t rfl)) (k1 := ints_loop hl l.length 0 (by omega)))
theorem ap_ints {l : List Int} (hl : l.length < 2 ^ 40) : apL (.ow 1 []) 1 8 (encN l) = some (.ow 1 (encN l)) := by
  have := ap_owned (n := 1) (b := 8) (out := []) (ys := encN l) (by cases l <;> rfl) (by rw [encN_len]; simp; omega) (by decide)
  simpa using this
/-! ### Code: counted, copied, compared -/
def CountR (m : Int) (xs : List Ins) : Prop := ∀ h : Heap, ∃ n d, callF (cxZ m) (blk (cxZ m)) 7 [.v (.imm (encIs xs))] h = some (.tup [.int .i64 n, .int .i64 d], h)
def CntI (m : Int) : Ins → Prop
  | .mk _ _ _ _ _ _ bd el _ => CountR m bd ∧ CountR m el
theorem count_loop {xs : List Ins} (hx : ∀ x, x ∈ xs → CntI m x) (hl : xs.length < 2 ^ 62) {h : Heap} : ∀ (k i : Nat), i + k = xs.length → ∀ c d : Int, ∃ n e, blk (cxZ m) 7 (at_ Tryd.prog 7 4) [.v (.imm (encIs xs)), .v (.int .i64 c), .v (.int .i64 d), .v (.int .i64 (Int.ofNat i))] h = some (.tup [.int .i64 n, .int .i64 e], h)
  | 0, i, hi, c, d => ⟨c, d, w7_4_6 (k0 := ltZ_f (by rw [ofN, ofN, encIs_len]; omega))⟩
  | k + 1, i, hi, c, d => by
    have h1 : xs[i]? = some xs[i] := List.getElem?_eq_getElem (by omega)
    have e1 : ixA (.imm (encIs xs)) (Int.ofNat i) 9 = some (encI xs[i]) := by rw [encIs_map]; exact ix_map (f := encI) h1 (encI_len _)
    have hc := hx xs[i] (List.getElem_mem _)
    have k0 : ltZ (Int.ofNat i) (Int.ofNat (encIs xs).length) = true := ltZ_t (by rw [ofN, ofN, encIs_len]; omega)
    have ih := count_loop hx hl (h := h) k (i + 1) (by omega)
    generalize xs[i] = x at e1 hc
    obtain ⟨o, a, b, v, t, l, bd, el, q⟩ := x
    obtain ⟨n1, d1, c1⟩ := hc.1 h
    obtain ⟨n2, d2, c2⟩ := hc.2 h
    have hw := wrapS (n := i) (by omega)
    cases q1 : leZ (Int.ofNat 2) o with
    | false =>
      obtain ⟨n, e, hr⟩ := ih (IntKind.wrap .i64 (IntKind.wrap .i64 (IntKind.wrap .i64 (c + Int.ofNat 1) + n1) + n2)) d
      exact ⟨n, e, w7_4_5 (k0 := k0) (k1 := e1) (k2 := c1) (k3 := e1) (k4 := c2) (k5 := e1) (k6 := q1) (k7 := by rw [hw]; exact hr)⟩
    | true =>
      cases q2 : leZ o (Int.ofNat 4) with
      | false =>
        obtain ⟨n, e, hr⟩ := ih (IntKind.wrap .i64 (IntKind.wrap .i64 (IntKind.wrap .i64 (c + Int.ofNat 1) + n1) + n2)) d
        exact ⟨n, e, w7_4_4 (k0 := k0) (k1 := e1) (k2 := c1) (k3 := e1) (k4 := c2) (k5 := e1) (k6 := q1) (k7 := e1) (k8 := q2) (k9 := by rw [hw]; exact hr)⟩
      | true =>
        cases q3 : ltZ d (IntKind.wrap .i64 (d1 + Int.ofNat 1)) with
        | true =>
          cases q4 : ltZ (IntKind.wrap .i64 (d1 + Int.ofNat 1)) (IntKind.wrap .i64 (d2 + Int.ofNat 1)) with
          | true =>
            obtain ⟨n, e, hr⟩ := ih (IntKind.wrap .i64 (IntKind.wrap .i64 (IntKind.wrap .i64 (c + Int.ofNat 1) + n1) + n2)) (IntKind.wrap .i64 (d2 + Int.ofNat 1))
            exact ⟨n, e, w7_4_0 (k0 := k0) (k1 := e1) (k2 := c1) (k3 := e1) (k4 := c2) (k5 := e1) (k6 := q1) (k7 := e1) (k8 := q2) (k9 := q3) (k10 := q4) (k11 := by rw [hw]; exact hr)⟩
          | false =>
            obtain ⟨n, e, hr⟩ := ih (IntKind.wrap .i64 (IntKind.wrap .i64 (IntKind.wrap .i64 (c + Int.ofNat 1) + n1) + n2)) (IntKind.wrap .i64 (d1 + Int.ofNat 1))
            exact ⟨n, e, w7_4_1 (k0 := k0) (k1 := e1) (k2 := c1) (k3 := e1) (k4 := c2) (k5 := e1) (k6 := q1) (k7 := e1) (k8 := q2) (k9 := q3) (k10 := q4) (k11 := by rw [hw]; exact hr)⟩
        | false =>
          cases q4 : ltZ d (IntKind.wrap .i64 (d2 + Int.ofNat 1)) with
          | true =>
            obtain ⟨n, e, hr⟩ := ih (IntKind.wrap .i64 (IntKind.wrap .i64 (IntKind.wrap .i64 (c + Int.ofNat 1) + n1) + n2)) (IntKind.wrap .i64 (d2 + Int.ofNat 1))
            exact ⟨n, e, w7_4_2 (k0 := k0) (k1 := e1) (k2 := c1) (k3 := e1) (k4 := c2) (k5 := e1) (k6 := q1) (k7 := e1) (k8 := q2) (k9 := q3) (k10 := q4) (k11 := by rw [hw]; exact hr)⟩
          | false =>
            obtain ⟨n, e, hr⟩ := ih (IntKind.wrap .i64 (IntKind.wrap .i64 (IntKind.wrap .i64 (c + Int.ofNat 1) + n1) + n2)) d
            exact ⟨n, e, w7_4_3 (k0 := k0) (k1 := e1) (k2 := c1) (k3 := e1) (k4 := c2) (k5 := e1) (k6 := q1) (k7 := e1) (k8 := q2) (k9 := q3) (k10 := q4) (k11 := by rw [hw]; exact hr)⟩
theorem count_of {xs : List Ins} (hx : ∀ x, x ∈ xs → CntI m x) (hl : xs.length < 2 ^ 62) : CountR m xs := fun h => by
  obtain ⟨n, d, hr⟩ := count_loop hx hl (h := h) xs.length 0 (by omega) (Int.ofNat 0) (Int.ofNat 0)
  exact ⟨n, d, callF_of rfl rfl (by kernel_rfl) (w7_0 (k0 := hr))⟩
/-- Copied: as it is. -/
def CopyR (m : Int) (xs : List Ins) : Prop := ∀ h : Heap, callF (cxZ m) (blk (cxZ m)) 10 [.v (.imm (encIs xs))] h = some (.v (.imm (encIs xs)), h)
def CpI (m : Int) : Ins → Prop
  | .mk _ _ _ _ _ l bd el _ => l.length < 2 ^ 40 ∧ CopyR m bd ∧ CopyR m el
theorem copy_loop {xs : List Ins} (hx : ∀ x, x ∈ xs → CpI m x) (hl : xs.length < 2 ^ 40) {h : Heap} : ∀ (k i : Nat), i + k = xs.length → blk (cxZ m) 10 (at_ Tryd.prog 10 3) [.v (.imm (encIs xs)), .ow 9 (encIs (xs.take i)), .v (.int .i64 (Int.ofNat i))] h = some (.v (.imm (encIs xs)), h)
  | 0, i, hi => by
    rw [List.take_of_length_le (by omega)]
    exact w10_3_1 (k0 := ltZ_f (by rw [ofN, ofN, encIs_len]; omega))
  | k + 1, i, hi => by
    have h1 : xs[i]? = some xs[i] := List.getElem?_eq_getElem (by omega)
    have e1 : ixA (.imm (encIs xs)) (Int.ofNat i) 9 = some (encI xs[i]) := by rw [encIs_map]; exact ix_map (f := encI) h1 (encI_len _)
    have hc := hx xs[i] (List.getElem_mem _)
    have ih := copy_loop hx hl (h := h) k (i + 1) (by omega)
    have ht : xs.take (i + 1) = xs.take i ++ [xs[i]] := by rw [List.take_add_one, h1]; rfl
    rw [ht] at ih
    generalize xs[i] = x at e1 hc ih
    obtain ⟨o, a, b, v, t, l, bd, el, q⟩ := x
    obtain ⟨c0, c1, c2⟩ := hc
    have ap : apL (.ow 9 (encIs (xs.take i))) 9 120 [encI (.mk o a b v t l bd el q)] = some (.ow 9 (encIs (xs.take i ++ [.mk o a b v t l bd el q]))) := by
      have := ap_owned (n := 9) (b := 120) (out := encIs (xs.take i)) (ys := [encI (.mk o a b v t l bd el q)]) rfl (by rw [encIs_len, List.length_take]; simp; omega) (by decide)
      rw [this, encIs_map, encIs_map, List.map_append]
      rfl
    exact w10_3_0 (k0 := ltZ_t (by rw [ofN, ofN, encIs_len]; omega)) (k1 := e1) (k2 := ap_ints c0) (k3 := c1 h) (k4 := c2 h) (k5 := ap) (k6 := by rw [wrapS (by omega)]; exact ih)
theorem copy_of {xs : List Ins} (hx : ∀ x, x ∈ xs → CpI m x) (hl : xs.length < 2 ^ 40) : CopyR m xs := fun h =>
  callF_of rfl rfl (by kernel_rfl) (w10_0 (k0 := copy_loop hx hl xs.length 0 (by omega)))
/-- Compared with itself. -/
def SelfR (m : Int) (xs : List Ins) : Prop := ∀ h : Heap, callF (cxZ m) (blk (cxZ m)) 11 [.v (.imm (encIs xs)), .v (.imm (encIs xs))] h = some (.v (.bool true), h)
def SfI (m : Int) : Ins → Prop
  | .mk _ _ _ _ _ l bd el _ => l.length < 2 ^ 62 ∧ SelfR m bd ∧ SelfR m el
theorem self_loop {xs : List Ins} (hx : ∀ x, x ∈ xs → SfI m x) (hl : xs.length < 2 ^ 62) {h : Heap} : ∀ (k i : Nat), i + k = xs.length → blk (cxZ m) 11 (at_ Tryd.prog 11 4) [.v (.imm (encIs xs)), .v (.imm (encIs xs)), .v (.int .i64 (Int.ofNat i))] h = some (.v (.bool true), h)
  | 0, i, hi => w11_4_10 (k0 := ltZ_f (by rw [ofN, ofN, encIs_len]; omega))
  | k + 1, i, hi => by
    have h1 : xs[i]? = some xs[i] := List.getElem?_eq_getElem (by omega)
    have e1 : ixA (.imm (encIs xs)) (Int.ofNat i) 9 = some (encI xs[i]) := by rw [encIs_map]; exact ix_map (f := encI) h1 (encI_len _)
    have hc := hx xs[i] (List.getElem_mem _)
    have ih := self_loop hx hl (h := h) k (i + 1) (by omega)
    generalize xs[i] = x at e1 hc
    obtain ⟨o, a, b, v, t, l, bd, el, q⟩ := x
    obtain ⟨c0, c1, c2⟩ := hc
    have z : ∀ n : Int, (!eqZ n n) = false := fun n => congrArg not (eqZ_t rfl)
    exact w11_4_9 (k0 := ltZ_t (by rw [ofN, ofN, encIs_len]; omega)) (k1 := e1) (k2 := e1) (k3 := z o) (k4 := z a) (k5 := z b) (k6 := z v) (k7 := z t) (k8 := by cases q <;> rfl) (k9 := ints_Z c0 h) (k10 := rfl) (k11 := c1 h) (k12 := rfl) (k13 := c2 h) (k14 := rfl) (k15 := by rw [wrapS (by omega)]; exact ih)
theorem self_of {xs : List Ins} (hx : ∀ x, x ∈ xs → SfI m x) (hl : xs.length < 2 ^ 62) : SelfR m xs := fun h =>
  callF_of rfl rfl (by kernel_rfl) (w11_1 (k0 := congrArg not (eqZ_t rfl)) (k1 := self_loop hx hl xs.length 0 (by omega)))
def AllR (m : Int) (xs : List Ins) : Prop := CountR m xs ∧ CopyR m xs ∧ SelfR m xs
def AllI (m : Int) (x : Ins) : Prop := CntI m x ∧ CpI m x ∧ SfI m x
theorem all_of {xs : List Ins} (hx : ∀ x, x ∈ xs → AllI m x) (hl : xs.length < 2 ^ 40) : AllR m xs :=
  ⟨count_of (fun x h => (hx x h).1) (by omega), copy_of (fun x h => (hx x h).2.1) hl, self_of (fun x h => (hx x h).2.2) (by omega)⟩
mutual
theorem allI_Z : ∀ x : Ins, cI x < 2 ^ 40 → AllI m x
  | .mk _ _ _ _ _ l bd el _ => fun h => by
    rw [cI] at h
    have h1 := cL_len bd
    have h2 := cL_len el
    obtain ⟨a1, a2, a3⟩ := all_of (allL_Z bd (by omega)) (by omega)
    obtain ⟨b1, b2, b3⟩ := all_of (allL_Z el (by omega)) (by omega)
    exact ⟨⟨a1, b1⟩, ⟨by omega, a2, b2⟩, ⟨by omega, a3, b3⟩⟩
theorem allL_Z : ∀ xs : List Ins, cL xs < 2 ^ 40 → ∀ x, x ∈ xs → AllI m x
  | [] => fun _ x hx => by cases hx
  | y :: ys => fun h x hx => by
    rw [cL] at h
    have h1 := allI_Z y (by omega)
    have h2 := allL_Z ys (by omega)
    rcases List.mem_cons.1 hx with e | hx
    · rw [e]; exact h1
    · exact h2 x hx
end
theorem all3 {xs : List Ins} (h : cL xs < 2 ^ 40) : AllR m xs := all_of (allL_Z xs h) (by have := cL_len xs; omega)
/-! ### Few -/
theorem few_loop {s : Scp} (hl : s.ty.length < 2 ^ 62) {h : Heap} : ∀ (k i : Nat), i + k = s.ty.length → ∃ q, blk (cxZ m) 8 (at_ Tryd.prog 8 4) [.lp 0 0, .v (.int .i64 (Int.ofNat i)), .v (.imm (s.ty.map FTy.enc)), .v (.imm (encN s.fn)), .v (.imm (s.gl.map Glo.enc)), .v (.bool s.tb), .v (.bool s.mm), .v (.imm (encN s.lo)), .v (.int .i64 s.re)] h = some (.v (.bool q), h)
  | 0, i, hi => ⟨true, w8_4_3 (k0 := ltZ_f (by rw [ofN, ofN, List.length_map]; omega))⟩
  | k + 1, i, hi => by
    have h1 : s.ty[i]? = some s.ty[i] := List.getElem?_eq_getElem (by omega)
    have e1 : ixA (.imm (s.ty.map FTy.enc)) (Int.ofNat i) 2 = some (FTy.enc s.ty[i]) := ix_map (f := FTy.enc) h1 rfl
    have k0 : ltZ (Int.ofNat i) (Int.ofNat (s.ty.map FTy.enc).length) = true := ltZ_t (by rw [ofN, ofN, List.length_map]; omega)
    obtain ⟨q, hr⟩ := few_loop hl (h := h) k (i + 1) (by omega)
    generalize s.ty[i] = x at e1
    obtain ⟨p, r⟩ := x
    cases q1 : ltZ (Int.ofNat 200) (Int.ofNat (encN p).length) with
    | true => exact ⟨false, w8_4_0 (k0 := k0) (k1 := e1) (k2 := q1)⟩
    | false =>
      cases q2 : ltZ (Int.ofNat 200) (Int.ofNat (encN r).length) with
      | true => exact ⟨false, w8_4_1 (k0 := k0) (k1 := e1) (k2 := q1) (k3 := e1) (k4 := q2)⟩
      | false => exact ⟨q, w8_4_2 (k0 := k0) (k1 := e1) (k2 := q1) (k3 := e1) (k4 := q2) (k5 := by rw [wrapS (by omega)]; exact hr)⟩
theorem few_Z {s : Scp} (hl : s.ty.length < 2 ^ 62) (h : Heap) : ∃ q, callF (cxZ m) (blk (cxZ m)) 8 [.v (.agg s.enc)] h = some (.v (.bool q), h) := by
  cases q1 : ltZ (Int.ofNat 200) (Int.ofNat (s.ty.map FTy.enc).length) with
  | true => exact ⟨false, callF_of rfl rfl (by kernel_rfl) (w8_0 (k0 := q1))⟩
  | false =>
    cases q2 : ltZ (Int.ofNat 300) (Int.ofNat (encN s.fn).length) with
    | true => exact ⟨false, callF_of rfl rfl (by kernel_rfl) (w8_1 (k0 := q1) (k1 := q2))⟩
    | false =>
      cases q3 : ltZ (Int.ofNat 300) (Int.ofNat (s.gl.map Glo.enc).length) with
      | true => exact ⟨false, callF_of rfl rfl (by kernel_rfl) (w8_2 (k0 := q1) (k1 := q2) (k2 := q3))⟩
      | false =>
        cases q4 : ltZ (Int.ofNat 300) (Int.ofNat (encN s.lo).length) with
        | true => exact ⟨false, callF_of rfl rfl (by kernel_rfl) (w8_3 (k0 := q1) (k1 := q2) (k2 := q3) (k3 := q4))⟩
        | false =>
          obtain ⟨q, hr⟩ := few_loop (m := m) hl (h := h) s.ty.length 0 (by omega)
          exact ⟨q, callF_of rfl rfl (by kernel_rfl) (w8_4 (k0 := q1) (k1 := q2) (k2 := q3) (k3 := q4) (k4 := hr))⟩
/-- All lists are short. -/
structure Small (s : Scp) (xs : List Ins) : Prop where
  ty : s.ty.length ≤ 1048576
  tl : ∀ x, x ∈ s.ty → x.p.length ≤ 1048576 ∧ x.r.length ≤ 1048576
  fn : s.fn.length ≤ 1048576
  gl : s.gl.length ≤ 1048576
  lo : s.lo.length ≤ 1048576
  co : cL xs ≤ 1048576
theorem Small.scp {s : Scp} {xs : List Ins} (h : Small s xs) : ScpLen (2 ^ 62) s := ⟨by have := h.ty; omega, fun x hx => by have := h.tl x hx; omega, by have := h.fn; omega, by have := h.gl; omega, by have := h.lo; omega⟩
theorem check_S {s : Scp} {xs : List Ins} (h : Small s xs) (hp : Heap) : ∃ h', callF (cxZ m) (blk (cxZ m)) 9 [.v (.agg s.enc), .v (.imm (encIs xs))] hp = some (.v (errA (checkP s xs)), h') := by
  refine check_Z (R := 1048576) h.tl h.scp ?_ hp
  have := Nat.mul_le_mul_left (1048576 + 6) h.co
  omega
end
end Go.Proofs.YtjelldpjopdimaaDoor
