/-
  All instructions of any code, as both texts tell them.
-/
import Derived.Test.YtacfojpdccahhaaGreatDoorAmTwB
import Derived.Test.YtacfojpdccahhaaGreatDoorAmLebC
import Derived.Test.YtacfojpdccahhaaGreatDoorAmExpD
namespace Go.Proofs.YtacfojpdccahhaaGreatDoor
set_option maxRecDepth 100000
open Go Go.Proofs.Am
section
variable {m : Int}
theorem cL_len : ∀ xs : List Ins, xs.length ≤ cL xs
 | [] => Nat.le_refl _
 | .mk _ _ _ _ _ _ _ _ _ :: xs => by have := cL_len xs; simp only [List.length_cons, cL, cI]; omega
theorem ints_loop {l : List Int} (hl : l.length < 2 ^ 62) {h : Heap} : ∀ (k i : Nat), i + k = l.length → blk (cxZ m) 12 (at_ Tryz.prog 12 4) [.v (.imm (encN l)), .v (.imm (encN l)), .v (.int .i64 (Int.ofNat i))] h = some (.v (.bool true), h)
 | 0, i, hi => p12_4_2 (k0 := ltZ_f (by rw [ofN, ofN, encN_len]; omega))
 | k + 1, i, hi => by
  have h1 : l[i]? = some l[i] := List.getElem?_eq_getElem (by omega)
  have e1 : ixA (.imm (encN l)) (Int.ofNat i) 1 = some [.int .i64 l[i]] := ix_map (f := fun x => [AV.int .i64 x]) h1 rfl
  exact p12_4_1 (k0 := ltZ_t (by rw [ofN, ofN, encN_len]; omega)) (k1 := e1) (k2 := e1) (k3 := congrArg not (eqZ_t rfl)) (k4 := by rw [wrapS (by omega)]; exact ints_loop hl k (i + 1) (by omega))
theorem ints_Z {l : List Int} (hl : l.length < 2 ^ 62) (h : Heap) : callF (cxZ m) (blk (cxZ m)) 12 [.v (.imm (encN l)), .v (.imm (encN l))] h = some (.v (.bool true), h) :=
 callF_of rfl rfl (by kernel_rfl) (p12_1 (k0 := congrArg not (eqZ_t rfl)) (k1 := ints_loop hl l.length 0 (by omega)))
def CountR (m : Int) (xs : List Ins) : Prop := ∀ h : Heap, ∃ n d, callF (cxZ m) (blk (cxZ m)) 5 [.v (.imm (encIs xs))] h = some (.tup [.int .i64 n, .int .i64 d], h)
def CntI (m : Int) : Ins → Prop
 | .mk _ _ _ _ _ _ bd el _ => CountR m bd ∧ CountR m el
theorem count_loop {xs : List Ins} (hx : ∀ x, x ∈ xs → CntI m x) (hl : xs.length < 2 ^ 62) {h : Heap} : ∀ (k i : Nat), i + k = xs.length → ∀ c d : Int, ∃ n e, blk (cxZ m) 5 (at_ Tryz.prog 5 4) [.v (.imm (encIs xs)), .v (.int .i64 c), .v (.int .i64 d), .v (.int .i64 (Int.ofNat i))] h = some (.tup [.int .i64 n, .int .i64 e], h)
 | 0, i, hi, c, d => ⟨c, d, p5_4_6 (k0 := ltZ_f (by rw [ofN, ofN, encIs_len]; omega))⟩
 | k + 1, i, hi, c, d => by
  have h1 : xs[i]? = some xs[i] := List.getElem?_eq_getElem (by omega)
  have e1 : ixA (.imm (encIs xs)) (Int.ofNat i) 9 = some (encI xs[i]) := by rw [encIs_map]; exact ix_map (f := encI) h1 (encI_len _)
  have hc := hx xs[i] (List.getElem_mem _)
  have k0 : ltZ (Int.ofNat i) (Int.ofNat (encIs xs).length) = true := ltZ_t (by rw [ofN, ofN, encIs_len]; omega)
  have ih := count_loop hx hl (h := h) k (i + 1) (by omega)
  generalize xs[i] = x at e1 hc
  obtain ⟨o, a, b, v, t, l, bd, el, q⟩ := x
  obtain ⟨n1, d1, c1⟩ := hc.1 h
  obtain ⟨n2, d2, c2⟩ := hc.2 h
  have hw := wrapS (n := i) (by omega)
  cases q1 : leZ (Int.ofNat 2) o with
  | false =>
   obtain ⟨n, e, hr⟩ := ih (IntKind.wrap .i64 (IntKind.wrap .i64 (IntKind.wrap .i64 (c + Int.ofNat 1) + n1) + n2)) d
   exact ⟨n, e, p5_4_5 (k0 := k0) (k1 := e1) (k2 := c1) (k3 := e1) (k4 := c2) (k5 := e1) (k6 := q1) (k7 := by rw [hw]; exact hr)⟩
  | true =>
   cases q2 : leZ o (Int.ofNat 4) with
   | false =>
    obtain ⟨n, e, hr⟩ := ih (IntKind.wrap .i64 (IntKind.wrap .i64 (IntKind.wrap .i64 (c + Int.ofNat 1) + n1) + n2)) d
    exact ⟨n, e, p5_4_4 (k0 := k0) (k1 := e1) (k2 := c1) (k3 := e1) (k4 := c2) (k5 := e1) (k6 := q1) (k7 := e1) (k8 := q2) (k9 := by rw [hw]; exact hr)⟩
   | true =>
    cases q3 : ltZ d (IntKind.wrap .i64 (d1 + Int.ofNat 1)) with
    | true =>
     cases q4 : ltZ (IntKind.wrap .i64 (d1 + Int.ofNat 1)) (IntKind.wrap .i64 (d2 + Int.ofNat 1)) with
     | true =>
      obtain ⟨n, e, hr⟩ := ih (IntKind.wrap .i64 (IntKind.wrap .i64 (IntKind.wrap .i64 (c + Int.ofNat 1) + n1) + n2)) (IntKind.wrap .i64 (d2 + Int.ofNat 1))
      exact ⟨n, e, p5_4_0 (k0 := k0) (k1 := e1) (k2 := c1) (k3 := e1) (k4 := c2) (k5 := e1) (k6 := q1) (k7 := e1) (k8 := q2) (k9 := q3) (k10 := q4) (k11 := by rw [hw]; exact hr)⟩
     | false =>
      obtain ⟨n, e, hr⟩ := ih (IntKind.wrap .i64 (IntKind.wrap .i64 (IntKind.wrap .i64 (c + Int.ofNat 1) + n1) + n2)) (IntKind.wrap .i64 (d1 + Int.ofNat 1))
      exact ⟨n, e, p5_4_1 (k0 := k0) (k1 := e1) (k2 := c1) (k3 := e1) (k4 := c2) (k5 := e1) (k6 := q1) (k7 := e1) (k8 := q2) (k9 := q3) (k10 := q4) (k11 := by rw [hw]; exact hr)⟩
    | false =>
     cases q4 : ltZ d (IntKind.wrap .i64 (d2 + Int.ofNat 1)) with
     | true =>
      obtain ⟨n, e, hr⟩ := ih (IntKind.wrap .i64 (IntKind.wrap .i64 (IntKind.wrap .i64 (c + Int.ofNat 1) + n1) + n2)) (IntKind.wrap .i64 (d2 + Int.ofNat 1))
      exact ⟨n, e, p5_4_2 (k0 := k0) (k1 := e1) (k2 := c1) (k3 := e1) (k4 := c2) (k5 := e1) (k6 := q1) (k7 := e1) (k8 := q2) (k9 := q3) (k10 := q4) (k11 := by rw [hw]; exact hr)⟩
     | false =>
      obtain ⟨n, e, hr⟩ := ih (IntKind.wrap .i64 (IntKind.wrap .i64 (IntKind.wrap .i64 (c + Int.ofNat 1) + n1) + n2)) d
      exact ⟨n, e, p5_4_3 (k0 := k0) (k1 := e1) (k2 := c1) (k3 := e1) (k4 := c2) (k5 := e1) (k6 := q1) (k7 := e1) (k8 := q2) (k9 := q3) (k10 := q4) (k11 := by rw [hw]; exact hr)⟩
theorem count_of {xs : List Ins} (hx : ∀ x, x ∈ xs → CntI m x) (hl : xs.length < 2 ^ 62) : CountR m xs := fun h => by
 obtain ⟨n, d, hr⟩ := count_loop hx hl (h := h) xs.length 0 (by omega) (Int.ofNat 0) (Int.ofNat 0)
 exact ⟨n, d, callF_of rfl rfl (by kernel_rfl) (p5_0 (k0 := hr))⟩
def SelfR (m : Int) (xs : List Ins) : Prop := ∀ h : Heap, callF (cxZ m) (blk (cxZ m)) 6 [.v (.imm (encIs xs)), .v (.imm (encIs xs))] h = some (.v (.bool true), h)
def SfI (m : Int) : Ins → Prop
 | .mk _ _ _ _ _ l bd el _ => l.length < 2 ^ 62 ∧ SelfR m bd ∧ SelfR m el
theorem self_loop {xs : List Ins} (hx : ∀ x, x ∈ xs → SfI m x) (hl : xs.length < 2 ^ 62) {h : Heap} : ∀ (k i : Nat), i + k = xs.length → blk (cxZ m) 6 (at_ Tryz.prog 6 4) [.v (.imm (encIs xs)), .v (.imm (encIs xs)), .v (.int .i64 (Int.ofNat i))] h = some (.v (.bool true), h)
 | 0, i, hi => p6_4_10 (k0 := ltZ_f (by rw [ofN, ofN, encIs_len]; omega))
 | k + 1, i, hi => by
  have h1 : xs[i]? = some xs[i] := List.getElem?_eq_getElem (by omega)
  have e1 : ixA (.imm (encIs xs)) (Int.ofNat i) 9 = some (encI xs[i]) := by rw [encIs_map]; exact ix_map (f := encI) h1 (encI_len _)
  have hc := hx xs[i] (List.getElem_mem _)
  have ih := self_loop hx hl (h := h) k (i + 1) (by omega)
  generalize xs[i] = x at e1 hc
  obtain ⟨o, a, b, v, t, l, bd, el, q⟩ := x
  obtain ⟨c0, c1, c2⟩ := hc
  have z : ∀ n : Int, (!eqZ n n) = false := fun n => congrArg not (eqZ_t rfl)
  exact p6_4_9 (k0 := ltZ_t (by rw [ofN, ofN, encIs_len]; omega)) (k1 := e1) (k2 := e1) (k3 := z o) (k4 := z a) (k5 := z b) (k6 := z v) (k7 := z t) (k8 := by cases q <;> rfl) (k9 := ints_Z c0 h) (k10 := rfl) (k11 := c1 h) (k12 := rfl) (k13 := c2 h) (k14 := rfl) (k15 := by rw [wrapS (by omega)]; exact ih)
theorem self_of {xs : List Ins} (hx : ∀ x, x ∈ xs → SfI m x) (hl : xs.length < 2 ^ 62) : SelfR m xs := fun h =>
 callF_of rfl rfl (by kernel_rfl) (p6_1 (k0 := congrArg not (eqZ_t rfl)) (k1 := self_loop hx hl xs.length 0 (by omega)))
def AllR (m : Int) (xs : List Ins) : Prop := CountR m xs ∧ SelfR m xs
def AllI (m : Int) (x : Ins) : Prop := CntI m x ∧ SfI m x
theorem all_of {xs : List Ins} (hx : ∀ x, x ∈ xs → AllI m x) (hl : xs.length < 2 ^ 40) : AllR m xs :=
 ⟨count_of (fun x h => (hx x h).1) (by omega), self_of (fun x h => (hx x h).2) (by omega)⟩
mutual
theorem allI_Z : ∀ x : Ins, cI x < 2 ^ 40 → AllI m x
 | .mk _ _ _ _ _ l bd el _ => fun h => by
  rw [cI] at h
  have h1 := cL_len bd
  have h2 := cL_len el
  obtain ⟨a1, a3⟩ := all_of (allL_Z bd (by omega)) (by omega)
  obtain ⟨b1, b3⟩ := all_of (allL_Z el (by omega)) (by omega)
  exact ⟨⟨a1, b1⟩, ⟨by omega, a3, b3⟩⟩
theorem allL_Z : ∀ xs : List Ins, cL xs < 2 ^ 40 → ∀ x, x ∈ xs → AllI m x
 | [] => fun _ x hx => by cases hx
 | y :: ys => fun h x hx => by
  rw [cL] at h
  have h1 := allI_Z y (by omega)
  have h2 := allL_Z ys (by omega)
  rcases List.mem_cons.1 hx with e | hx
  ·rw [e]; exact h1
  ·exact h2 x hx
end
end
end Go.Proofs.YtacfojpdccahhaaGreatDoor
namespace Go.Proofs.YtacfojpdccahhaaGreatDoor
set_option maxRecDepth 100000
open Go Go.Proofs.Am
mutual
def flI : Ins → List Ins
 | .mk o a b v t l bd el q => .mk o a b v t l bd el q :: (flL bd ++ flL el)
def flL : List Ins → List Ins
 | [] => []
 | x :: xs => flI x ++ flL xs
end
mutual
theorem flI_len : ∀ x : Ins, (flI x).length = nI x
 | .mk _ _ _ _ _ _ bd el _ => by
  rw [flI, nI, List.length_cons, List.length_append, flL_len bd, flL_len el]; omega
theorem flL_len : ∀ xs : List Ins, (flL xs).length = nL xs
 | [] => by rw [flL, nL]; rfl
 | x :: xs => by rw [flL, nL, List.length_append, flI_len x, flL_len xs]
end
theorem ap_is {a b : List Ins} (hl : a.length + b.length ≤ 1000000000) : apL (.ow 9 (encIs a)) 9 120 (encIs b) = some (.ow 9 (encIs (a ++ b))) := by
 have := ap_owned (n := 9) (b := 120) (out := encIs a) (ys := encIs b) (by
  cases b with
  | nil => rfl
  | cons y ys => rw [encIs_map, List.map_cons]; show Nat.beq (encI y).length 9 = true; rw [encI_len]; rfl) (by rw [encIs_len, encIs_len]; omega) (by decide)
 rw [this, encIs_map, encIs_map, encIs_map, List.map_append]
section
variable {m : Int}
def FlR (m : Int) (f : Nat) (xs : List Ins) : Prop := ∀ h : Heap, callF (cxZ m) (blk (cxZ m)) f [.v (.imm (encIs xs))] h = some (.v (.imm (encIs (flL xs))), h)
def FlI (m : Int) (f : Nat) : Ins → Prop
 | .mk _ _ _ _ _ _ bd el _ => FlR m f bd ∧ FlR m f el
theorem fl7_loop {xs : List Ins} (hx : ∀ x, x ∈ xs → FlI m 7 x) (hl : xs.length < 2 ^ 62) {h : Heap} : ∀ (suf pre : List Ins) (out : List Ins), pre ++ suf = xs → out.length + nL suf ≤ 100000000 →
  blk (cxZ m) 7 (at_ Tryz.prog 7 3) [.ow 9 (encIs out), .v (.imm (encIs xs)), .v (.int .i64 (Int.ofNat (encIs xs).length)), .v (.int .i64 (Int.ofNat pre.length))] h = some (.v (.imm (encIs (out ++ flL suf))), h)
 | [], pre, out, hp, _ => by
  rw [List.append_nil] at hp
  subst hp
  rw [flL, List.append_nil]
  exact p7_3_1 (k0 := ltZ_f (by rw [encIs_len]; exact Int.le_refl _))
 | x :: suf, pre, out, hp, hb => by
  have hlt : pre.length < xs.length := by rw [← hp]; simp
  have hg : xs[pre.length]? = some x := by rw [← hp, List.getElem?_append_right (Nat.le_refl _), Nat.sub_self]; rfl
  have hc := hx x (List.mem_of_getElem? hg)
  have k1 : ixA (.imm (encIs xs)) (Int.ofNat pre.length) 9 = some (encI x) := by rw [encIs_map]; exact ix_map (f := encI) hg (encI_len x)
  obtain ⟨o, a, b, v, t, l, bd, el, q⟩ := x
  rw [nL, nI] at hb
  have lb := flL_len bd
  have le := flL_len el
  have ih := fl7_loop hx hl (h := h) suf (pre ++ [.mk o a b v t l bd el q]) (out ++ [.mk o a b v t l bd el q] ++ flL bd ++ flL el) (by rw [List.append_assoc]; exact hp) (by simp only [List.length_append, List.length_singleton, lb, le]; omega)
  rw [List.length_append, List.length_singleton] at ih
  have e : out ++ [Ins.mk o a b v t l bd el q] ++ flL bd ++ flL el ++ flL suf = out ++ flL (.mk o a b v t l bd el q :: suf) := by simp [flL, flI, List.append_assoc]
  rw [e] at ih
  have w := wrapS (n := pre.length) (by omega)
  exact p7_3_0 (k0 := ltZ_t (by rw [encIs_len, ofN, ofN]; omega)) (k1 := k1) (k2 := ap_is (b := [.mk o a b v t l bd el q]) (by simp; omega)) (k3 := hc.1 h) (k4 := ap_is (by simp only [List.length_append, List.length_singleton, lb]; omega)) (k5 := hc.2 h) (k6 := ap_is (by simp only [List.length_append, List.length_singleton, lb, le]; omega)) (k7 := by rw [w]; exact ih)
theorem fl8_loop {xs : List Ins} (hx : ∀ x, x ∈ xs → FlI m 8 x) (hl : xs.length < 2 ^ 62) {h : Heap} : ∀ (suf pre : List Ins) (out : List Ins), pre ++ suf = xs → out.length + nL suf ≤ 100000000 →
  blk (cxZ m) 8 (at_ Tryz.prog 8 3) [.v (.imm (encIs xs)), .ow 9 (encIs out), .v (.int .i64 (Int.ofNat pre.length))] h = some (.v (.imm (encIs (out ++ flL suf))), h)
 | [], pre, out, hp, _ => by
  rw [List.append_nil] at hp
  subst hp
  rw [flL, List.append_nil]
  exact p8_3_1 (k0 := ltZ_f (by rw [encIs_len]; exact Int.le_refl _))
 | x :: suf, pre, out, hp, hb => by
  have hlt : pre.length < xs.length := by rw [← hp]; simp
  have hg : xs[pre.length]? = some x := by rw [← hp, List.getElem?_append_right (Nat.le_refl _), Nat.sub_self]; rfl
  have hc := hx x (List.mem_of_getElem? hg)
  have k1 : ixA (.imm (encIs xs)) (Int.ofNat pre.length) 9 = some (encI x) := by rw [encIs_map]; exact ix_map (f := encI) hg (encI_len x)
  obtain ⟨o, a, b, v, t, l, bd, el, q⟩ := x
  rw [nL, nI] at hb
  have lb := flL_len bd
  have le := flL_len el
  have ih := fl8_loop hx hl (h := h) suf (pre ++ [.mk o a b v t l bd el q]) (out ++ [.mk o a b v t l bd el q] ++ flL bd ++ flL el) (by rw [List.append_assoc]; exact hp) (by simp only [List.length_append, List.length_singleton, lb, le]; omega)
  rw [List.length_append, List.length_singleton] at ih
  have e : out ++ [Ins.mk o a b v t l bd el q] ++ flL bd ++ flL el ++ flL suf = out ++ flL (.mk o a b v t l bd el q :: suf) := by simp [flL, flI, List.append_assoc]
  rw [e] at ih
  have w := wrapS (n := pre.length) (by omega)
  exact p8_3_0 (k0 := ltZ_t (by rw [encIs_len, ofN, ofN]; omega)) (k1 := k1) (k2 := ap_is (b := [.mk o a b v t l bd el q]) (by simp; omega)) (k3 := k1) (k4 := hc.1 h) (k5 := ap_is (by simp only [List.length_append, List.length_singleton, lb]; omega)) (k6 := k1) (k7 := hc.2 h) (k8 := ap_is (by simp only [List.length_append, List.length_singleton, lb, le]; omega)) (k9 := by rw [w]; exact ih)
theorem fl7_of {xs : List Ins} (hx : ∀ x, x ∈ xs → FlI m 7 x) (hl : nL xs ≤ 100000000) : FlR m 7 xs := fun h => by
 have hn := nL_len xs
 have := fl7_loop hx (by omega) (h := h) xs [] [] rfl (by simpa using hl)
 rw [List.nil_append] at this
 exact callF_of rfl rfl (by kernel_rfl) (p7_0 (k0 := this))
theorem fl8_of {xs : List Ins} (hx : ∀ x, x ∈ xs → FlI m 8 x) (hl : nL xs ≤ 100000000) : FlR m 8 xs := fun h => by
 have hn := nL_len xs
 have := fl8_loop hx (by omega) (h := h) xs [] [] rfl (by simpa using hl)
 rw [List.nil_append] at this
 exact callF_of rfl rfl (by kernel_rfl) (p8_0 (k0 := this))
mutual
theorem fl_I : ∀ x : Ins, nI x ≤ 100000000 → FlI m 7 x ∧ FlI m 8 x
 | .mk _ _ _ _ _ _ bd el _ => fun h => by
  rw [nI] at h
  exact ⟨⟨fl7_of (fun x hx => (fl_Is bd (by omega) x hx).1) (by omega), fl7_of (fun x hx => (fl_Is el (by omega) x hx).1) (by omega)⟩,
   ⟨fl8_of (fun x hx => (fl_Is bd (by omega) x hx).2) (by omega), fl8_of (fun x hx => (fl_Is el (by omega) x hx).2) (by omega)⟩⟩
theorem fl_Is : ∀ xs : List Ins, nL xs ≤ 100000000 → ∀ x, x ∈ xs → FlI m 7 x ∧ FlI m 8 x
 | [] => fun _ x hx => by cases hx
 | y :: ys => fun h x hx => by
  rw [nL] at h
  have h1 := fl_I y (by omega)
  have h2 := fl_Is ys (by omega)
  rcases List.mem_cons.1 hx with e | hx
  ·rw [e]; exact h1
  ·exact h2 x hx
end
mutual
theorem flI_all (P : Ins → Prop) (hP : ∀ o a b v t l bd el q, P (.mk o a b v t l bd el q) → (∀ z, z ∈ bd → P z) ∧ ∀ z, z ∈ el → P z) : ∀ x : Ins, P x → ∀ y, y ∈ flI x → P y
 | .mk o a b v t l bd el q => fun h y hy => by
  rw [flI] at hy
  rcases List.mem_cons.1 hy with rfl | hy
  ·exact h
  ·rcases List.mem_append.1 hy with hy | hy
   ·exact flL_all P hP bd (hP _ _ _ _ _ _ _ _ _ h).1 y hy
   ·exact flL_all P hP el (hP _ _ _ _ _ _ _ _ _ h).2 y hy
theorem flL_all (P : Ins → Prop) (hP : ∀ o a b v t l bd el q, P (.mk o a b v t l bd el q) → (∀ z, z ∈ bd → P z) ∧ ∀ z, z ∈ el → P z) : ∀ xs : List Ins, (∀ z, z ∈ xs → P z) → ∀ y, y ∈ flL xs → P y
 | [] => fun _ y hy => by rw [flL] at hy; cases hy
 | x :: xs => fun h y hy => by
  rw [flL] at hy
  rcases List.mem_append.1 hy with hy | hy
  ·exact flI_all P hP x (h x (.head _)) y hy
  ·exact flL_all P hP xs (fun z hz => h z (.tail _ hz)) y hy
end
theorem cL_mem : ∀ {xs : List Ins} {x : Ins}, x ∈ xs → cI x ≤ cL xs
 | y :: ys, x, h => by
  rw [cL]
  rcases List.mem_cons.1 h with rfl | h
  ·omega
  ·have := cL_mem h; omega
theorem self_fl {xs : List Ins} (hc : cL xs < 2 ^ 40) : SelfR m (flL xs) := by
 refine self_of (fun x hx => ?_) (by have := flL_len xs; have := nL_c xs; omega)
 have hs : cI x < 2 ^ 40 := flL_all (fun y => cI y < 2 ^ 40) (fun o a b v t l bd el q h => by
  rw [cI] at h
  exact ⟨fun z hz => by have := cL_mem hz; omega, fun z hz => by have := cL_mem hz; omega⟩) xs (fun z hz => by have := cL_mem hz; omega) x hx
 exact (allI_Z x hs).2
theorem run4 (m : Int) : (blkF (cxZ m) 40 4 (body_ Tryz.prog 4) [] Heap.nil).map Prod.fst = some (.v (.bool true)) := by kernel_rfl
theorem up4 : ∃ h', callF (cxZ m) (blk (cxZ m)) 4 [] Heap.nil = some (.v (.bool true), h') := by
 obtain ⟨h', e⟩ := blk_of_run (run4 m)
 exact ⟨h', callF_of rfl rfl (by kernel_rfl) e⟩
theorem blk3 {xs : List Ins} (hc : cL xs ≤ 1048576) : ∃ h', blk (cxZ m) 3 (body_ Tryz.prog 3) [.v (.imm (encIs xs))] Heap.nil = some (.v (.bool true), h') := by
 obtain ⟨h1, hu⟩ := up4 (m := m)
 have hl := cL_len xs
 have hn := nL_c xs
 obtain ⟨n, d, k1⟩ := (all_of (allL_Z (m := m) xs (by omega)) (by omega)).1 h1
 refine ⟨h1, ?_⟩
 cases q : ltZ (Int.ofNat 2000) n with
 | true => exact p3_0 (k0 := hu) (k1 := k1) (k2 := q)
 | false =>
  have f7 := fl7_of (m := m) (xs := xs) (fun x hx => (fl_Is xs (by omega) x hx).1) (by omega) h1
  have f8 := fl8_of (m := m) (xs := xs) (fun x hx => (fl_Is xs (by omega) x hx).2) (by omega) h1
  exact p3_1 (k0 := hu) (k1 := k1) (k2 := q) (k3 := rfl) (k4 := f7) (k5 := f8) (k6 := self_fl (m := m) (by omega) h1)
end
end Go.Proofs.YtacfojpdccahhaaGreatDoor
