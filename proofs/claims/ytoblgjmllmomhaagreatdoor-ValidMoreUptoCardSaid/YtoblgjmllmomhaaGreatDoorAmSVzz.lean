/-
  What both tell of functions and globals.
-/
import Derived.Test.YtoblgjmllmomhaaGreatDoorAmS15S
import Derived.KernelRfl
import Derived.Test.YtoblgjmllmomhaaGreatDoorAmMod
import Derived.Laws.BitsLemmas
import Derived.Test.YtoblgjmllmomhaaGreatDoorAmRowX
namespace Go.Proofs.YtoblgjmllmomhaaGreatDoor
open Go Go.Proofs.Am
variable {m c d re i0 i1 i2 i3 i4 i5 i6 i7 i8 i9 i10 i11 i12 i13 i14 i15 i16 i17 i18 i19 i20 i21 i22 i23 : Int} {xs ty fu gl lo l0 l1 l2 l3 l4 l5 l6 l7 l8 l9 l10 l11 : LL} {h h0 h1 : Heap} {r : LV × Heap} {i : Nat} {tb mm b0 b1 b2 b3 : Bool}
theorem w7_0 (k0 : bA m 8 4 [vM xs, vI (.ofNat 0), vI (.ofNat 0), vI (.ofNat 0)] h = some r) :
  bB m 8 [vM xs] h = some r :=
 bY (qS [] [] [] []) (tA t1 (k0)) (by kernel_rfl)
theorem w7_4_0 (k0 : ltZ (.ofNat i) (.ofNat xs.length) = true) (k1 : ixA (aM xs) (.ofNat i) 9 = some (nC i6 i7 i8 i9 i10 l2 l0 l3 b0)) (k2 : cA m 8 [vM l0] h = some (LV.tup [aI i2, aI i0], h0)) (k3 : ixA (aM xs) (.ofNat i) 9 = some (nC i11 i12 i13 i14 i15 l4 l5 l1 b1)) (k4 : cA m 8 [vM l1] h0 = some (LV.tup [aI i3, aI i1], h1)) (k5 : ixA (aM xs) (.ofNat i) 9 = some (nC i4 i16 i17 i18 i19 l6 l7 l8 b2)) (k6 : leZ (.ofNat 2) i4 = true) (k7 : ixA (aM xs) (.ofNat i) 9 = some (nC i5 i20 i21 i22 i23 l9 l10 l11 b3)) (k8 : leZ i5 (.ofNat 4) = true) (k9 : ltZ d (IntKind.wrap .i64 (i0 + Int.ofNat 1)) = true) (k10 : ltZ (IntKind.wrap .i64 (i0 + Int.ofNat 1)) (IntKind.wrap .i64 (i1 + Int.ofNat 1)) = true) (k11 : bA m 8 4 [vM xs, vI (IntKind.wrap .i64 (IntKind.wrap .i64 (IntKind.wrap .i64 (c + Int.ofNat 1) + i2) + i3)), vI (IntKind.wrap .i64 (i1 + Int.ofNat 1)), vI (IntKind.wrap .i64 (.ofNat (Nat.succ i)))] h1 = some r) :
  bA m 8 4 [vM xs, vI c, vI d, vI i] h = some r :=
 bY (qS [14, 47, 54, 58, 64] [] [(6, 2, (LV.v (AV.snap (nC i6 i7 i8 i9 i10 l2 l0 l3 b0)))), (7, 2, (LV.v (AV.snap (nC i11 i12 i13 i14 i15 l4 l5 l1 b1)))), (9, 2, (LV.v (AV.snap (nC i4 i16 i17 i18 i19 l6 l7 l8 b2)))), (9, 9, (LV.v (AV.snap (nC i5 i20 i21 i22 i23 l9 l10 l11 b3))))] [(6, 5, LV.tup [aI i2, aI i0], h0), (7, 5, LV.tup [aI i3, aI i1], h1)]) (tZ k0 (tA (tA t0 (tA tN (k1))) (tA k2 (tA (tA t0 (tA tN (k3))) (tA k4 (tA (tA t0 (tA tN (k5))) (tZ k6 (uT2 (tA (tA t0 (tA tN (k7))) (uT4 (tZ k8 (tZ k9 (tZ k10 (tA t1 (k11))))))))))))))) (by kernel_rfl)
theorem w7_4_1 (k0 : ltZ (.ofNat i) (.ofNat xs.length) = true) (k1 : ixA (aM xs) (.ofNat i) 9 = some (nC i6 i7 i8 i9 i10 l2 l0 l3 b0)) (k2 : cA m 8 [vM l0] h = some (LV.tup [aI i1, aI i0], h0)) (k3 : ixA (aM xs) (.ofNat i) 9 = some (nC i11 i12 i13 i14 i15 l4 l5 l1 b1)) (k4 : cA m 8 [vM l1] h0 = some (LV.tup [aI i2, aI i3], h1)) (k5 : ixA (aM xs) (.ofNat i) 9 = some (nC i4 i16 i17 i18 i19 l6 l7 l8 b2)) (k6 : leZ (.ofNat 2) i4 = true) (k7 : ixA (aM xs) (.ofNat i) 9 = some (nC i5 i20 i21 i22 i23 l9 l10 l11 b3)) (k8 : leZ i5 (.ofNat 4) = true) (k9 : ltZ d (IntKind.wrap .i64 (i0 + Int.ofNat 1)) = true) (k10 : ltZ (IntKind.wrap .i64 (i0 + Int.ofNat 1)) (IntKind.wrap .i64 (i3 + Int.ofNat 1)) = false) (k11 : bA m 8 4 [vM xs, vI (IntKind.wrap .i64 (IntKind.wrap .i64 (IntKind.wrap .i64 (c + Int.ofNat 1) + i1) + i2)), vI (IntKind.wrap .i64 (i0 + Int.ofNat 1)), vI (IntKind.wrap .i64 (.ofNat (Nat.succ i)))] h1 = some r) :
  bA m 8 4 [vM xs, vI c, vI d, vI i] h = some r :=
 bY (qS [14, 47, 54, 58] [64] [(6, 2, (LV.v (AV.snap (nC i6 i7 i8 i9 i10 l2 l0 l3 b0)))), (7, 2, (LV.v (AV.snap (nC i11 i12 i13 i14 i15 l4 l5 l1 b1)))), (9, 2, (LV.v (AV.snap (nC i4 i16 i17 i18 i19 l6 l7 l8 b2)))), (9, 9, (LV.v (AV.snap (nC i5 i20 i21 i22 i23 l9 l10 l11 b3))))] [(6, 5, LV.tup [aI i1, aI i0], h0), (7, 5, LV.tup [aI i2, aI i3], h1)]) (tZ k0 (tA (tA t0 (tA tN (k1))) (tA k2 (tA (tA t0 (tA tN (k3))) (tA k4 (tA (tA t0 (tA tN (k5))) (tZ k6 (uT2 (tA (tA t0 (tA tN (k7))) (uT4 (tZ k8 (tZ k9 (tZ k10 (tA t1 (k11))))))))))))))) (by kernel_rfl)
theorem w7_4_2 (k0 : ltZ (.ofNat i) (.ofNat xs.length) = true) (k1 : ixA (aM xs) (.ofNat i) 9 = some (nC i6 i7 i8 i9 i10 l2 l0 l3 b0)) (k2 : cA m 8 [vM l0] h = some (LV.tup [aI i1, aI i2], h0)) (k3 : ixA (aM xs) (.ofNat i) 9 = some (nC i11 i12 i13 i14 i15 l4 l5 l1 b1)) (k4 : cA m 8 [vM l1] h0 = some (LV.tup [aI i3, aI i0], h1)) (k5 : ixA (aM xs) (.ofNat i) 9 = some (nC i4 i16 i17 i18 i19 l6 l7 l8 b2)) (k6 : leZ (.ofNat 2) i4 = true) (k7 : ixA (aM xs) (.ofNat i) 9 = some (nC i5 i20 i21 i22 i23 l9 l10 l11 b3)) (k8 : leZ i5 (.ofNat 4) = true) (k9 : ltZ d (IntKind.wrap .i64 (i2 + Int.ofNat 1)) = false) (k10 : ltZ d (IntKind.wrap .i64 (i0 + Int.ofNat 1)) = true) (k11 : bA m 8 4 [vM xs, vI (IntKind.wrap .i64 (IntKind.wrap .i64 (IntKind.wrap .i64 (c + Int.ofNat 1) + i1) + i3)), vI (IntKind.wrap .i64 (i0 + Int.ofNat 1)), vI (IntKind.wrap .i64 (.ofNat (Nat.succ i)))] h1 = some r) :
  bA m 8 4 [vM xs, vI c, vI d, vI i] h = some r :=
 bY (qS [14, 47, 54, 64] [58] [(6, 2, (LV.v (AV.snap (nC i6 i7 i8 i9 i10 l2 l0 l3 b0)))), (7, 2, (LV.v (AV.snap (nC i11 i12 i13 i14 i15 l4 l5 l1 b1)))), (9, 2, (LV.v (AV.snap (nC i4 i16 i17 i18 i19 l6 l7 l8 b2)))), (9, 9, (LV.v (AV.snap (nC i5 i20 i21 i22 i23 l9 l10 l11 b3))))] [(6, 5, LV.tup [aI i1, aI i2], h0), (7, 5, LV.tup [aI i3, aI i0], h1)]) (tZ k0 (tA (tA t0 (tA tN (k1))) (tA k2 (tA (tA t0 (tA tN (k3))) (tA k4 (tA (tA t0 (tA tN (k5))) (tZ k6 (uT2 (tA (tA t0 (tA tN (k7))) (uT4 (tZ k8 (tZ k9 (tZ k10 (tA t1 (k11))))))))))))))) (by kernel_rfl)
theorem w7_4_3 (k0 : ltZ (.ofNat i) (.ofNat xs.length) = true) (k1 : ixA (aM xs) (.ofNat i) 9 = some (nC i6 i7 i8 i9 i10 l2 l0 l3 b0)) (k2 : cA m 8 [vM l0] h = some (LV.tup [aI i0, aI i1], h0)) (k3 : ixA (aM xs) (.ofNat i) 9 = some (nC i11 i12 i13 i14 i15 l4 l5 l1 b1)) (k4 : cA m 8 [vM l1] h0 = some (LV.tup [aI i2, aI i3], h1)) (k5 : ixA (aM xs) (.ofNat i) 9 = some (nC i4 i16 i17 i18 i19 l6 l7 l8 b2)) (k6 : leZ (.ofNat 2) i4 = true) (k7 : ixA (aM xs) (.ofNat i) 9 = some (nC i5 i20 i21 i22 i23 l9 l10 l11 b3)) (k8 : leZ i5 (.ofNat 4) = true) (k9 : ltZ d (IntKind.wrap .i64 (i1 + Int.ofNat 1)) = false) (k10 : ltZ d (IntKind.wrap .i64 (i3 + Int.ofNat 1)) = false) (k11 : bA m 8 4 [vM xs, vI (IntKind.wrap .i64 (IntKind.wrap .i64 (IntKind.wrap .i64 (c + Int.ofNat 1) + i0) + i2)), vI d, vI (IntKind.wrap .i64 (.ofNat (Nat.succ i)))] h1 = some r) :
  bA m 8 4 [vM xs, vI c, vI d, vI i] h = some r :=
 bY (qS [14, 47, 54] [58, 64] [(6, 2, (LV.v (AV.snap (nC i6 i7 i8 i9 i10 l2 l0 l3 b0)))), (7, 2, (LV.v (AV.snap (nC i11 i12 i13 i14 i15 l4 l5 l1 b1)))), (9, 2, (LV.v (AV.snap (nC i4 i16 i17 i18 i19 l6 l7 l8 b2)))), (9, 9, (LV.v (AV.snap (nC i5 i20 i21 i22 i23 l9 l10 l11 b3))))] [(6, 5, LV.tup [aI i0, aI i1], h0), (7, 5, LV.tup [aI i2, aI i3], h1)]) (tZ k0 (tA (tA t0 (tA tN (k1))) (tA k2 (tA (tA t0 (tA tN (k3))) (tA k4 (tA (tA t0 (tA tN (k5))) (tZ k6 (uT2 (tA (tA t0 (tA tN (k7))) (uT4 (tZ k8 (tZ k9 (tZ k10 (tA t1 (k11))))))))))))))) (by kernel_rfl)
theorem w7_4_4 (k0 : ltZ (.ofNat i) (.ofNat xs.length) = true) (k1 : ixA (aM xs) (.ofNat i) 9 = some (nC i4 i5 i6 i7 i8 l2 l0 l3 b0)) (k2 : cA m 8 [vM l0] h = some (LV.tup [aI i0, aI i9], h0)) (k3 : ixA (aM xs) (.ofNat i) 9 = some (nC i10 i11 i12 i13 i14 l4 l5 l1 b1)) (k4 : cA m 8 [vM l1] h0 = some (LV.tup [aI i1, aI i15], h1)) (k5 : ixA (aM xs) (.ofNat i) 9 = some (nC i2 i16 i17 i18 i19 l6 l7 l8 b2)) (k6 : leZ (.ofNat 2) i2 = true) (k7 : ixA (aM xs) (.ofNat i) 9 = some (nC i3 i20 i21 i22 i23 l9 l10 l11 b3)) (k8 : leZ i3 (.ofNat 4) = false) (k9 : bA m 8 4 [vM xs, vI (IntKind.wrap .i64 (IntKind.wrap .i64 (IntKind.wrap .i64 (c + Int.ofNat 1) + i0) + i1)), vI d, vI (IntKind.wrap .i64 (.ofNat (Nat.succ i)))] h1 = some r) :
  bA m 8 4 [vM xs, vI c, vI d, vI i] h = some r :=
 bY (qS [14, 47] [54] [(6, 2, (LV.v (AV.snap (nC i4 i5 i6 i7 i8 l2 l0 l3 b0)))), (7, 2, (LV.v (AV.snap (nC i10 i11 i12 i13 i14 l4 l5 l1 b1)))), (9, 2, (LV.v (AV.snap (nC i2 i16 i17 i18 i19 l6 l7 l8 b2)))), (9, 9, (LV.v (AV.snap (nC i3 i20 i21 i22 i23 l9 l10 l11 b3))))] [(6, 5, LV.tup [aI i0, aI i9], h0), (7, 5, LV.tup [aI i1, aI i15], h1)]) (tZ k0 (tA (tA t0 (tA tN (k1))) (tA k2 (tA (tA t0 (tA tN (k3))) (tA k4 (tA (tA t0 (tA tN (k5))) (tZ k6 (uT2 (tA (tA t0 (tA tN (k7))) (uT4 (tZ k8 (tA t1 (k9))))))))))))) (by kernel_rfl)
theorem w7_4_5 (k0 : ltZ (.ofNat i) (.ofNat xs.length) = true) (k1 : ixA (aM xs) (.ofNat i) 9 = some (nC i3 i4 i5 i6 i7 l2 l0 l3 b0)) (k2 : cA m 8 [vM l0] h = some (LV.tup [aI i0, aI i8], h0)) (k3 : ixA (aM xs) (.ofNat i) 9 = some (nC i9 i10 i11 i12 i13 l4 l5 l1 b1)) (k4 : cA m 8 [vM l1] h0 = some (LV.tup [aI i1, aI i14], h1)) (k5 : ixA (aM xs) (.ofNat i) 9 = some (nC i2 i15 i16 i17 i18 l6 l7 l8 b2)) (k6 : leZ (.ofNat 2) i2 = false) (k7 : bA m 8 4 [vM xs, vI (IntKind.wrap .i64 (IntKind.wrap .i64 (IntKind.wrap .i64 (c + Int.ofNat 1) + i0) + i1)), vI d, vI (IntKind.wrap .i64 (.ofNat (Nat.succ i)))] h1 = some r) :
  bA m 8 4 [vM xs, vI c, vI d, vI i] h = some r :=
 bY (qS [14] [47] [(6, 2, (LV.v (AV.snap (nC i3 i4 i5 i6 i7 l2 l0 l3 b0)))), (7, 2, (LV.v (AV.snap (nC i9 i10 i11 i12 i13 l4 l5 l1 b1)))), (9, 2, (LV.v (AV.snap (nC i2 i15 i16 i17 i18 l6 l7 l8 b2))))] [(6, 5, LV.tup [aI i0, aI i8], h0), (7, 5, LV.tup [aI i1, aI i14], h1)]) (tZ k0 (tA (tA t0 (tA tN (k1))) (tA k2 (tA (tA t0 (tA tN (k3))) (tA k4 (tA (tA t0 (tA tN (k5))) (tZ k6 (uF6 (tA t1 (k7)))))))))) (by kernel_rfl)
theorem w7_4_6 (k0 : ltZ (.ofNat i) (.ofNat xs.length) = false) :
  bA m 8 4 [vM xs, vI c, vI d, vI i] h = some ((LV.tup [aI c, aI d], h)) :=
 bY (qS [] [14] [] []) (tZ k0 (tR ((LV.tup [aI c, aI d], h)))) (by kernel_rfl)
end Go.Proofs.YtoblgjmllmomhaaGreatDoor
namespace Go.Proofs.YtoblgjmllmomhaaGreatDoor
set_option maxRecDepth 100000
open Go Go.Proofs.Am
theorem ltZ_true {a b : Nat} (h : a < b) : ltZ (Int.ofNat a) (Int.ofNat b) = true := Nat.ble_eq_true_of_le h
theorem ltZ_false {a b : Nat} (h : b ≤ a) : ltZ (Int.ofNat a) (Int.ofNat b) = false := by
 cases hb : ltZ (Int.ofNat a) (Int.ofNat b) with
 | false => rfl
 | true => have : a + 1 ≤ b := Nat.le_of_ble_eq_true hb; omega
theorem wrapNn {n : Nat} (h : n < 9223372036854775808) : IntKind.wrap .i64 (Int.ofNat n) = Int.ofNat n := by
 rw [IntKind.wrap_i64]
 have : (Int.ofNat n) = (n : Int) := rfl
 rw [this]; omega
theorem maxLen_eq : maxLen = 9223372036854775807 := by kernel_rfl
theorem callZ {m : Int} {f : Nat} {xs : List LV} {h : Heap} {y : LV × Heap} (he : extZ f = none) (hb : (body_ (Cx.P (cxZ m)) f).isEmpty = false) (hc : (cutAt (cxZ m) f (body_ (Cx.P (cxZ m)) f)).isNone = true) (hy : blk (cxZ m) f (body_ (Cx.P (cxZ m)) f) xs h = some y) (hx : (cxZ m).exh f = none := by rfl) (hr : (cxZ m).exr f = none := by rfl) : callF (cxZ m) (blk (cxZ m)) f xs h = some y :=
 callF_of (cx := cxZ m) he hb hc hy hx hr
theorem ix_of {A : Type} {f : A → List AV} {l : List A} {i n : Nat} (h : i < l.length) (hn : (f l[i]).length = n) : ixA (.imm (l.map f)) (Int.ofNat i) n = some (f l[i]) := by
 have h0 : (0 : Int) ≤ Int.ofNat i := Int.natCast_nonneg i
 simp only [ixA, decide_eq_true h0, cond_true, List.getElem?_map]
 rw [show (Int.ofNat i).toNat = i from rfl, List.getElem?_eq_getElem h]
 simp only [Option.map_some, Option.bind_some, hn, Nat.beq_refl, cond_true]
theorem ix_enc {l : List Ins} {i : Nat} (h : i < l.length) : ixA (.imm (encIs l)) (Int.ofNat i) 9 = some (encI l[i]) := by
 rw [encIs_map]; exact ix_of h (encI_len _)
theorem callV_fn {m : Int} {g : Nat} {ys : List LV} {h : Heap} : callV (cxZ m) (blk (cxZ m)) (.fn g [] []) ys h = callF (cxZ m) (blk (cxZ m)) g ys h := by
 simp [callV]
def RT (m : Int) (l : List Ins) : Prop := ∃ n d : Int, ∀ h, callF (cxZ m) (blk (cxZ m)) 8 [.v (.imm (encIs l))] h = some (.tup [.int .i64 n, .int .i64 d], h)
theorem loop7 (m : Int) (l : List Ins) (hl : l.length ≤ maxLen) (hc : ∀ o a b v t ll bd el q, Ins.mk o a b v t ll bd el q ∈ l → RT m bd ∧ RT m el) : ∀ (k i : Nat), i + k = l.length → ∀ (c d : Int), ∃ n d' : Int, ∀ (h : Heap),
  blk (cxZ m) 8 (at_ Tryz.prog 8 4) [.v (.imm (encIs l)), .v (.int .i64 c), .v (.int .i64 d), .v (.int .i64 (Int.ofNat i))] h = some (.tup [.int .i64 n, .int .i64 d'], h)
 | 0, i, hi, c, d => by
  obtain rfl : i = l.length := by omega
  exact ⟨c, d, fun h => w7_4_6 (k0 := (by rw [encIs_len]; exact ltZ_false (Nat.le_refl _)))⟩
 | k + 1, i, hi, c, d => by
  have hlt : i < l.length := by omega
  have hm : l[i] ∈ l := List.getElem_mem hlt
  have hix := ix_enc hlt
  have hl1 : ltZ (Int.ofNat i) (Int.ofNat (encIs l).length) = true := by rw [encIs_len]; exact ltZ_true hlt
  have ih := loop7 m l hl hc k (i + 1) (by omega)
  have hw : IntKind.wrap .i64 (Int.ofNat (Nat.succ i)) = Int.ofNat (i + 1) := wrapNn (by have := maxLen_eq; omega)
  rw [← hw] at ih
  generalize l[i] = x at hm hix
  obtain ⟨o, a, bb, v, t, ll, bd, el, q⟩ := x
  obtain ⟨⟨n1, d1, h1⟩, ⟨n2, d2, h2⟩⟩ := hc _ _ _ _ _ _ _ _ _ hm
  cases q1 : leZ (Int.ofNat 2) o with
  | false =>
   obtain ⟨n', d', hh⟩ := ih _ _
   exact ⟨n', d', fun h => w7_4_5 (k0 := hl1) (k1 := hix) (k2 := (h1 h)) (k3 := hix) (k4 := (h2 h)) (k5 := hix) (k6 := q1) (k7 := (hh h))⟩
  | true =>
   cases q2 : leZ o (Int.ofNat 4) with
   | false =>
    obtain ⟨n', d', hh⟩ := ih _ _
    exact ⟨n', d', fun h => w7_4_4 (k0 := hl1) (k1 := hix) (k2 := (h1 h)) (k3 := hix) (k4 := (h2 h)) (k5 := hix) (k6 := q1) (k7 := hix) (k8 := q2) (k9 := (hh h))⟩
   | true =>
    cases q3 : ltZ d (IntKind.wrap IntKind.i64 (d1 + Int.ofNat 1)) with
    | true =>
     cases q4 : ltZ (IntKind.wrap IntKind.i64 (d1 + Int.ofNat 1)) (IntKind.wrap IntKind.i64 (d2 + Int.ofNat 1)) with
     | true =>
      obtain ⟨n', d', hh⟩ := ih _ _
      exact ⟨n', d', fun h => w7_4_0 (k0 := hl1) (k1 := hix) (k2 := (h1 h)) (k3 := hix) (k4 := (h2 h)) (k5 := hix) (k6 := q1) (k7 := hix) (k8 := q2) (k9 := q3) (k10 := q4) (k11 := (hh h))⟩
     | false =>
      obtain ⟨n', d', hh⟩ := ih _ _
      exact ⟨n', d', fun h => w7_4_1 (k0 := hl1) (k1 := hix) (k2 := (h1 h)) (k3 := hix) (k4 := (h2 h)) (k5 := hix) (k6 := q1) (k7 := hix) (k8 := q2) (k9 := q3) (k10 := q4) (k11 := (hh h))⟩
    | false =>
     cases q4 : ltZ d (IntKind.wrap IntKind.i64 (d2 + Int.ofNat 1)) with
     | true =>
      obtain ⟨n', d', hh⟩ := ih _ _
      exact ⟨n', d', fun h => w7_4_2 (k0 := hl1) (k1 := hix) (k2 := (h1 h)) (k3 := hix) (k4 := (h2 h)) (k5 := hix) (k6 := q1) (k7 := hix) (k8 := q2) (k9 := q3) (k10 := q4) (k11 := (hh h))⟩
     | false =>
      obtain ⟨n', d', hh⟩ := ih _ _
      exact ⟨n', d', fun h => w7_4_3 (k0 := hl1) (k1 := hix) (k2 := (h1 h)) (k3 := hix) (k4 := (h2 h)) (k5 := hix) (k6 := q1) (k7 := hix) (k8 := q2) (k9 := q3) (k10 := q4) (k11 := (hh h))⟩
theorem rt_of (m : Int) (l : List Ins) (hl : l.length ≤ maxLen) (hc : ∀ o a b v t ll bd el q, Ins.mk o a b v t ll bd el q ∈ l → RT m bd ∧ RT m el) : RT m l := by
 obtain ⟨n, d, hh⟩ := loop7 m l hl hc l.length 0 (by omega) (Int.ofNat 0) (Int.ofNat 0)
 exact ⟨n, d, fun h => callZ rfl (by kernel_rfl) (by kernel_rfl) (w7_0 (k0 := (hh h)))⟩
theorem rt_ins (m : Int) {x : Ins} (hx : Fit x) : ∀ o a b v t ll bd el q, x = Ins.mk o a b v t ll bd el q → RT m bd ∧ RT m el := by
 induction hx with
 | mk o a b v t l bd el q hl hb he h1 h2 i1 i2 =>
  intro o' a' b' v' t' l' bd' el' q' e
  cases e
  exact ⟨rt_of m bd hb fun o a b v t ll bd el q hm => i1 _ hm o a b v t ll bd el q rfl,
   rt_of m el he fun o a b v t ll bd el q hm => i2 _ hm o a b v t ll bd el q rfl⟩
theorem count7 (m : Int) (l : List Ins) (hl : l.length ≤ maxLen) (hf : ∀ x, x ∈ l → Fit x) : RT m l :=
 rt_of m l hl fun o a b v t ll bd el q hm => rt_ins m (hf _ hm) o a b v t ll bd el q rfl
end Go.Proofs.YtoblgjmllmomhaaGreatDoor
namespace Go.Proofs.YtoblgjmllmomhaaGreatDoor
set_option maxRecDepth 100000
open Go Go.Proofs.Am
variable {m st k n o a b v t i0 i1 i2 i3 i4 i5 i6 i7 : Int} {ty im fu ta me gl ex el da cu out xs l bd ys l0 l1 l2 l3 l4 l5 l6 l7 l8 : LL} {h h0 h1 h2 h3 : Heap} {r : LV × Heap} {q b0 b1 b2 b3 : Bool} {s0 s1 s2 s3 : ByteArray}
theorem s26_0 (k0 : bA m 76 3 [vI k, LV.ow 8 [], vM im, vI (.ofNat im.length), vI (.ofNat 0)] h = some r) :
  bB m 76 [mV ty im fu ta me gl ex st el da cu, vI k] h = some r :=
 bY (qS [] [] [] []) (tA t1 (k0)) (by kernel_rfl)
theorem s26_3_0 {i : Nat} (k0 : ltZ (.ofNat i) n = true) (k1 : ixA (aM xs) (.ofNat i) 8 = some [aS s0, aS s1, aI i0, aI i1, aB b0, aI i2, aI i3, aB b1]) (k2 : eqZ i0 k = true) (k3 : leZ (.ofNat 0) k = true) (k4 : leZ k (.ofNat 3) = true) (k5 : apL (LV.ow 8 out) 8 80 [[aS s0, aS s1, aI i0, aI i1, aB b0, aI i2, aI i3, aB b1]] = some (LV.ow 8 l0)) (k6 : bA m 76 3 [vI k, LV.ow 8 l0, vM xs, vI n, vI (IntKind.wrap .i64 (.ofNat (Nat.succ i)))] h = some r) :
  bA m 76 3 [vI k, .ow 8 out, vM xs, vI n, vI (.ofNat i)] h = some r :=
 bY (qS [12, 19, 23, 26] [] [(4, 0, (LV.v (AV.snap [aS s0, aS s1, aI i0, aI i1, aB b0, aI i2, aI i3, aB b1]))), (6, 3, (LV.ow 8 l0))] []) (tZ k0 (tA (tA t0 (tA tN (k1))) (tZ k2 (uT2 (tZ k3 (uT2 (tZ k4 (u02 (tA t1 (tA k5 (tA t1 (k6)))))))))))) (by kernel_rfl)
theorem s26_3_1 {i : Nat} (k0 : ltZ (.ofNat i) n = true) (k1 : ixA (aM xs) (.ofNat i) 8 = some [aS s0, aS s1, aI i0, aI i1, aB b0, aI i2, aI i3, aB b1]) (k2 : eqZ i0 k = true) (k3 : leZ (.ofNat 0) k = true) (k4 : leZ k (.ofNat 3) = false) (k5 : bA m 76 3 [vI k, LV.ow 8 out, vM xs, vI n, vI (IntKind.wrap .i64 (.ofNat (Nat.succ i)))] h = some r) :
  bA m 76 3 [vI k, .ow 8 out, vM xs, vI n, vI (.ofNat i)] h = some r :=
 bY (qS [12, 19, 23] [26] [(4, 0, (LV.v (AV.snap [aS s0, aS s1, aI i0, aI i1, aB b0, aI i2, aI i3, aB b1])))] []) (tZ k0 (tA (tA t0 (tA tN (k1))) (tZ k2 (uT2 (tZ k3 (uT2 (tZ k4 (tA t1 (k5))))))))) (by kernel_rfl)
theorem s26_3_2 {i : Nat} (k0 : ltZ (.ofNat i) n = true) (k1 : ixA (aM xs) (.ofNat i) 8 = some [aS s0, aS s1, aI i0, aI i1, aB b0, aI i2, aI i3, aB b1]) (k2 : eqZ i0 k = true) (k3 : leZ (.ofNat 0) k = false) (k4 : bA m 76 3 [vI k, LV.ow 8 out, vM xs, vI n, vI (IntKind.wrap .i64 (.ofNat (Nat.succ i)))] h = some r) :
  bA m 76 3 [vI k, .ow 8 out, vM xs, vI n, vI (.ofNat i)] h = some r :=
 bY (qS [12, 19] [23] [(4, 0, (LV.v (AV.snap [aS s0, aS s1, aI i0, aI i1, aB b0, aI i2, aI i3, aB b1])))] []) (tZ k0 (tA (tA t0 (tA tN (k1))) (tZ k2 (uT2 (tZ k3 (uF2 (tA t1 (k4)))))))) (by kernel_rfl)
theorem s26_3_3 {i : Nat} (k0 : ltZ (.ofNat i) n = true) (k1 : ixA (aM xs) (.ofNat i) 8 = some [aS s0, aS s1, aI i0, aI i1, aB b0, aI i2, aI i3, aB b1]) (k2 : eqZ i0 k = false) (k3 : bA m 76 3 [vI k, LV.ow 8 out, vM xs, vI n, vI (IntKind.wrap .i64 (.ofNat (Nat.succ i)))] h = some r) :
  bA m 76 3 [vI k, .ow 8 out, vM xs, vI n, vI (.ofNat i)] h = some r :=
 bY (qS [12] [19] [(4, 0, (LV.v (AV.snap [aS s0, aS s1, aI i0, aI i1, aB b0, aI i2, aI i3, aB b1])))] []) (tZ k0 (tA (tA t0 (tA tN (k1))) (tZ k2 (uF2 (tA t1 (k3)))))) (by kernel_rfl)
theorem s26_3_4 {i : Nat} (k0 : ltZ (.ofNat i) n = false) :
  bA m 76 3 [vI k, .ow 8 out, vM xs, vI n, vI (.ofNat i)] h = some ((vM out, h)) :=
 bY (qS [] [12] [] []) (tZ k0 (tR ((vM out, h)))) (by kernel_rfl)
theorem s27_0 (k0 : eqZ k (.ofNat 0) = true) :
  bB m 77 [mV ty im fu ta me gl ex st el da cu, vI k] h = some ((vI (.ofNat fu.length), h)) :=
 bY (qS [6] [] [] []) (tZ k0 (tR ((vI (.ofNat fu.length), h)))) (by kernel_rfl)
theorem s27_1 (k0 : eqZ k (.ofNat 0) = false) (k1 : eqZ k (.ofNat 1) = true) :
  bB m 77 [mV ty im fu ta me gl ex st el da cu, vI k] h = some ((vI (.ofNat ta.length), h)) :=
 bY (qS [11] [6] [] []) (tZ k0 (tZ k1 (tR ((vI (.ofNat ta.length), h))))) (by kernel_rfl)
theorem s27_2 (k0 : eqZ k (.ofNat 0) = false) (k1 : eqZ k (.ofNat 1) = false) (k2 : eqZ k (.ofNat 2) = true) :
  bB m 77 [mV ty im fu ta me gl ex st el da cu, vI k] h = some ((vI (.ofNat me.length), h)) :=
 bY (qS [16] [6, 11] [] []) (tZ k0 (tZ k1 (tZ k2 (tR ((vI (.ofNat me.length), h)))))) (by kernel_rfl)
theorem s27_3 (k0 : eqZ k (.ofNat 0) = false) (k1 : eqZ k (.ofNat 1) = false) (k2 : eqZ k (.ofNat 2) = false) (k3 : eqZ k (.ofNat 3) = true) :
  bB m 77 [mV ty im fu ta me gl ex st el da cu, vI k] h = some ((vI (.ofNat gl.length), h)) :=
 bY (qS [21] [6, 11, 16] [] []) (tZ k0 (tZ k1 (tZ k2 (tZ k3 (tR ((vI (.ofNat gl.length), h))))))) (by kernel_rfl)
theorem s27_4 (k0 : eqZ k (.ofNat 0) = false) (k1 : eqZ k (.ofNat 1) = false) (k2 : eqZ k (.ofNat 2) = false) (k3 : eqZ k (.ofNat 3) = false) :
  bB m 77 [mV ty im fu ta me gl ex st el da cu, vI k] h = some ((vI (.ofNat 0), h)) :=
 bY (qS [] [6, 11, 16, 21] [] []) (tZ k0 (tZ k1 (tZ k2 (tZ k3 (tR ((vI (.ofNat 0), h))))))) (by kernel_rfl)
theorem s11_0 (k0 : cA m 76 [mV ty im fu ta me gl ex st el da cu, vI k] h = some (vM l0, h1)) (k1 : cA m 77 [mV ty im fu ta me gl ex st el da cu, vI k] h1 = some (vI i0, h0)) :
  bB m 36 [mV ty im fu ta me gl ex st el da cu, vI k] h = some ((vI (IntKind.wrap .i64 (Int.ofNat l0.length + i0)), h0)) :=
 bY (qS [] [] [] [(1, 2, vM l0, h1), (1, 6, vI i0, h0)]) (tA k0 (tA k1 (tR ((vI (IntKind.wrap .i64 (Int.ofNat l0.length + i0)), h0))))) (by kernel_rfl)
theorem s13_0 {i : Int} (k0 : ltZ i (.ofNat 0) = true) :
  bB m 73 [mV ty im fu ta me gl ex st el da cu, vI i] h = some ((LV.tup [AV.agg [aM [], aM []], AV.ifc 56 (aI (.ofNat 5))], h)) :=
 bY (qS [10] [] [] []) (tZ k0 (uT4 (tR ((LV.tup [AV.agg [aM [], aM []], AV.ifc 56 (aI (.ofNat 5))], h))))) (by kernel_rfl)
theorem s13_1 {i : Int} (k0 : ltZ i (.ofNat 0) = false) (k1 : cA m 36 [mV ty im fu ta me gl ex st el da cu, vI (.ofNat 0)] h = some (vI i0, h0)) (k2 : leZ i0 i = true) :
  bB m 73 [mV ty im fu ta me gl ex st el da cu, vI i] h = some ((LV.tup [AV.agg [aM [], aM []], AV.ifc 56 (aI (.ofNat 5))], h0)) :=
 bY (qS [15] [10] [] [(1, 5, vI i0, h0)]) (tZ k0 (uF2 (tA k1 (uF2 (tZ k2 (tR ((LV.tup [AV.agg [aM [], aM []], AV.ifc 56 (aI (.ofNat 5))], h0)))))))) (by kernel_rfl)
theorem s13_2 {i : Int} (k0 : ltZ i (.ofNat 0) = false) (k1 : cA m 36 [mV ty im fu ta me gl ex st el da cu, vI (.ofNat 0)] h = some (vI i0, h1)) (k2 : leZ i0 i = false) (k3 : cA m 76 [mV ty im fu ta me gl ex st el da cu, vI (.ofNat 0)] h1 = some (vM l0, h0)) (k4 : ltZ i (.ofNat l0.length) = true) (k5 : ixA (aM l0) i 8 = some [aS s0, aS s1, aI i2, aI i1, aB b0, aI i3, aI i4, aB b1]) (k6 : ltZ i1 (.ofNat 0) = true) :
  bB m 73 [mV ty im fu ta me gl ex st el da cu, vI i] h = some ((LV.tup [AV.agg [aM [], aM []], AV.ifc 56 (aI (.ofNat 5))], h0)) :=
 bY (qS [23, 40] [10, 15] [(6, 2, (LV.v (AV.snap [aS s0, aS s1, aI i2, aI i1, aB b0, aI i3, aI i4, aB b1])))] [(1, 5, vI i0, h1), (3, 1, vM l0, h0)]) (tZ k0 (uF2 (tA k1 (uF2 (tZ k2 (tA k3 (tZ k4 (tA (tA t0 (tA tN (k5))) (tZ k6 (uT5 (tR ((LV.tup [AV.agg [aM [], aM []], AV.ifc 56 (aI (.ofNat 5))], h0))))))))))))) (by kernel_rfl)
theorem s13_3 {i : Int} (k0 : ltZ i (.ofNat 0) = false) (k1 : cA m 36 [mV ty im fu ta me gl ex st el da cu, vI (.ofNat 0)] h = some (vI i0, h1)) (k2 : leZ i0 i = false) (k3 : cA m 76 [mV ty im fu ta me gl ex st el da cu, vI (.ofNat 0)] h1 = some (vM l0, h0)) (k4 : ltZ i (.ofNat l0.length) = true) (k5 : ixA (aM l0) i 8 = some [aS s0, aS s1, aI i2, aI i1, aB b0, aI i3, aI i4, aB b1]) (k6 : ltZ i1 (.ofNat 0) = false) (k7 : leZ (.ofNat ty.length) i1 = true) :
  bB m 73 [mV ty im fu ta me gl ex st el da cu, vI i] h = some ((LV.tup [AV.agg [aM [], aM []], AV.ifc 56 (aI (.ofNat 5))], h0)) :=
 bY (qS [23, 46] [10, 15, 40] [(6, 2, (LV.v (AV.snap [aS s0, aS s1, aI i2, aI i1, aB b0, aI i3, aI i4, aB b1])))] [(1, 5, vI i0, h1), (3, 1, vM l0, h0)]) (tZ k0 (uF2 (tA k1 (uF2 (tZ k2 (tA k3 (tZ k4 (tA (tA t0 (tA tN (k5))) (tZ k6 (uF5 (tZ k7 (tR ((LV.tup [AV.agg [aM [], aM []], AV.ifc 56 (aI (.ofNat 5))], h0)))))))))))))) (by kernel_rfl)
theorem s13_4 {i : Int} (k0 : ltZ i (.ofNat 0) = false) (k1 : cA m 36 [mV ty im fu ta me gl ex st el da cu, vI (.ofNat 0)] h = some (vI i0, h1)) (k2 : leZ i0 i = false) (k3 : cA m 76 [mV ty im fu ta me gl ex st el da cu, vI (.ofNat 0)] h1 = some (vM l1, h2)) (k4 : ltZ i (.ofNat l1.length) = true) (k5 : ixA (aM l1) i 8 = some [aS s0, aS s1, aI i2, aI i1, aB b0, aI i3, aI i4, aB b1]) (k6 : ltZ i1 (.ofNat 0) = false) (k7 : leZ (.ofNat ty.length) i1 = false) (k8 : ixA (aM ty) i1 2 = some [aM l3, aM l5]) (k9 : cA m 37 [vM l3] h2 = some (vM l2, h3)) (k10 : ixA (aM ty) i1 2 = some [aM l6, aM l4]) (k11 : cA m 37 [vM l4] h3 = some (vM l0, h0)) :
  bB m 73 [mV ty im fu ta me gl ex st el da cu, vI i] h = some ((LV.tup [AV.agg [aM l2, aM l0], AV.nilI], h0)) :=
 bY (qS [23] [10, 15, 40, 46] [(6, 2, (LV.v (AV.snap [aS s0, aS s1, aI i2, aI i1, aB b0, aI i3, aI i4, aB b1]))), (10, 3, (LV.v (AV.snap [aM l3, aM l5]))), (10, 10, (LV.v (AV.snap [aM l6, aM l4])))] [(1, 5, vI i0, h1), (3, 1, vM l1, h2), (10, 6, vM l2, h3), (10, 13, vM l0, h0)]) (tZ k0 (uF2 (tA k1 (uF2 (tZ k2 (tA k3 (tZ k4 (tA (tA t0 (tA tN (k5))) (tZ k6 (uF5 (tZ k7 (tA (tA t0 (tA tN (k8))) (tA k9 (tA (tA t0 (tA tN (k10))) (tA k11 (tR ((LV.tup [AV.agg [aM l2, aM l0], AV.nilI], h0)))))))))))))))))) (by kernel_rfl)
theorem s13_5 {i : Int} (k0 : ltZ i (.ofNat 0) = false) (k1 : cA m 36 [mV ty im fu ta me gl ex st el da cu, vI (.ofNat 0)] h = some (vI i0, h1)) (k2 : leZ i0 i = false) (k3 : cA m 76 [mV ty im fu ta me gl ex st el da cu, vI (.ofNat 0)] h1 = some (vM l0, h0)) (k4 : ltZ i (.ofNat l0.length) = false) (k5 : ixA (aM fu) (IntKind.wrap .i64 (i - Int.ofNat l0.length)) 3 = some [aI i1, aM l1, aM l2]) (k6 : ltZ i1 (.ofNat 0) = true) :
  bB m 73 [mV ty im fu ta me gl ex st el da cu, vI i] h = some ((LV.tup [AV.agg [aM [], aM []], AV.ifc 56 (aI (.ofNat 5))], h0)) :=
 bY (qS [40] [10, 15, 23] [(7, 6, (LV.v (AV.snap [aI i1, aM l1, aM l2])))] [(1, 5, vI i0, h1), (3, 1, vM l0, h0)]) (tZ k0 (uF2 (tA k1 (uF2 (tZ k2 (tA k3 (tZ k4 (tA (tA t0 (tA tN (k5))) (tZ k6 (uT5 (tR ((LV.tup [AV.agg [aM [], aM []], AV.ifc 56 (aI (.ofNat 5))], h0))))))))))))) (by kernel_rfl)
theorem s13_6 {i : Int} (k0 : ltZ i (.ofNat 0) = false) (k1 : cA m 36 [mV ty im fu ta me gl ex st el da cu, vI (.ofNat 0)] h = some (vI i0, h1)) (k2 : leZ i0 i = false) (k3 : cA m 76 [mV ty im fu ta me gl ex st el da cu, vI (.ofNat 0)] h1 = some (vM l0, h0)) (k4 : ltZ i (.ofNat l0.length) = false) (k5 : ixA (aM fu) (IntKind.wrap .i64 (i - Int.ofNat l0.length)) 3 = some [aI i1, aM l1, aM l2]) (k6 : ltZ i1 (.ofNat 0) = false) (k7 : leZ (.ofNat ty.length) i1 = true) :
  bB m 73 [mV ty im fu ta me gl ex st el da cu, vI i] h = some ((LV.tup [AV.agg [aM [], aM []], AV.ifc 56 (aI (.ofNat 5))], h0)) :=
 bY (qS [46] [10, 15, 23, 40] [(7, 6, (LV.v (AV.snap [aI i1, aM l1, aM l2])))] [(1, 5, vI i0, h1), (3, 1, vM l0, h0)]) (tZ k0 (uF2 (tA k1 (uF2 (tZ k2 (tA k3 (tZ k4 (tA (tA t0 (tA tN (k5))) (tZ k6 (uF5 (tZ k7 (tR ((LV.tup [AV.agg [aM [], aM []], AV.ifc 56 (aI (.ofNat 5))], h0)))))))))))))) (by kernel_rfl)
theorem s13_7 {i : Int} (k0 : ltZ i (.ofNat 0) = false) (k1 : cA m 36 [mV ty im fu ta me gl ex st el da cu, vI (.ofNat 0)] h = some (vI i0, h1)) (k2 : leZ i0 i = false) (k3 : cA m 76 [mV ty im fu ta me gl ex st el da cu, vI (.ofNat 0)] h1 = some (vM l1, h2)) (k4 : ltZ i (.ofNat l1.length) = false) (k5 : ixA (aM fu) (IntKind.wrap .i64 (i - Int.ofNat l1.length)) 3 = some [aI i1, aM l5, aM l6]) (k6 : ltZ i1 (.ofNat 0) = false) (k7 : leZ (.ofNat ty.length) i1 = false) (k8 : ixA (aM ty) i1 2 = some [aM l3, aM l7]) (k9 : cA m 37 [vM l3] h2 = some (vM l2, h3)) (k10 : ixA (aM ty) i1 2 = some [aM l8, aM l4]) (k11 : cA m 37 [vM l4] h3 = some (vM l0, h0)) :
  bB m 73 [mV ty im fu ta me gl ex st el da cu, vI i] h = some ((LV.tup [AV.agg [aM l2, aM l0], AV.nilI], h0)) :=
 bY (qS [] [10, 15, 23, 40, 46] [(7, 6, (LV.v (AV.snap [aI i1, aM l5, aM l6]))), (10, 3, (LV.v (AV.snap [aM l3, aM l7]))), (10, 10, (LV.v (AV.snap [aM l8, aM l4])))] [(1, 5, vI i0, h1), (3, 1, vM l1, h2), (10, 6, vM l2, h3), (10, 13, vM l0, h0)]) (tZ k0 (uF2 (tA k1 (uF2 (tZ k2 (tA k3 (tZ k4 (tA (tA t0 (tA tN (k5))) (tZ k6 (uF5 (tZ k7 (tA (tA t0 (tA tN (k8))) (tA k9 (tA (tA t0 (tA tN (k10))) (tA k11 (tR ((LV.tup [AV.agg [aM l2, aM l0], AV.nilI], h0)))))))))))))))))) (by kernel_rfl)
theorem s16_0 {i : Int} (k0 : cA m 76 [mV ty im fu ta me gl ex st el da cu, vI (.ofNat 3)] h = some (vM l0, h0)) (k1 : ltZ i (.ofNat 0) = true) :
  bB m 112 [mV ty im fu ta me gl ex st el da cu, vI i] h = some ((LV.tup [aI (.ofNat 0), aB false, aB false, AV.ifc 56 (aI (.ofNat 5))], h0)) :=
 bY (qS [15] [] [] [(1, 1, vM l0, h0)]) (tA k0 (tZ k1 (uT8 (tR ((LV.tup [aI (.ofNat 0), aB false, aB false, AV.ifc 56 (aI (.ofNat 5))], h0)))))) (by kernel_rfl)
theorem s16_1 {i : Int} (k0 : cA m 76 [mV ty im fu ta me gl ex st el da cu, vI (.ofNat 3)] h = some (vM l0, h0)) (k1 : ltZ i (.ofNat 0) = false) (k2 : leZ (IntKind.wrap .i64 (Int.ofNat (List.length l0 + List.length gl))) i = true) :
  bB m 112 [mV ty im fu ta me gl ex st el da cu, vI i] h = some ((LV.tup [aI (.ofNat 0), aB false, aB false, AV.ifc 56 (aI (.ofNat 5))], h0)) :=
 bY (qS [12] [15] [] [(1, 1, vM l0, h0)]) (tA k0 (tZ k1 (uF8 (tZ k2 (tR ((LV.tup [aI (.ofNat 0), aB false, aB false, AV.ifc 56 (aI (.ofNat 5))], h0))))))) (by kernel_rfl)
theorem s16_2 {i : Int} (k0 : cA m 76 [mV ty im fu ta me gl ex st el da cu, vI (.ofNat 3)] h = some (vM l0, h0)) (k1 : ltZ i (.ofNat 0) = false) (k2 : leZ (IntKind.wrap .i64 (Int.ofNat (List.length l0 + List.length gl))) i = false) (k3 : ltZ i (.ofNat l0.length) = true) (k4 : ixA (aM l0) i 8 = some [aS s0, aS s1, aI i1, aI i0, aB b1, aI i2, aI i3, aB b2]) (k5 : ixA (aM l0) i 8 = some [aS s2, aS s3, aI i4, aI i5, aB b0, aI i6, aI i7, aB b3]) :
  bB m 112 [mV ty im fu ta me gl ex st el da cu, vI i] h = some ((LV.tup [aI i0, aB b0, aB true, AV.nilI], h0)) :=
 bY (qS [26] [15, 12] [(5, 2, (LV.v (AV.snap [aS s0, aS s1, aI i1, aI i0, aB b1, aI i2, aI i3, aB b2]))), (5, 7, (LV.v (AV.snap [aS s2, aS s3, aI i4, aI i5, aB b0, aI i6, aI i7, aB b3])))] [(1, 1, vM l0, h0)]) (tA k0 (tZ k1 (uF8 (tZ k2 (tZ k3 (tA (tA t0 (tA tN (k4))) (tA (tA t0 (tA tN (k5))) (tR ((LV.tup [aI i0, aB b0, aB true, AV.nilI], h0)))))))))) (by kernel_rfl)
theorem s16_3 {i : Int} (k0 : cA m 76 [mV ty im fu ta me gl ex st el da cu, vI (.ofNat 3)] h = some (vM l0, h0)) (k1 : ltZ i (.ofNat 0) = false) (k2 : leZ (IntKind.wrap .i64 (Int.ofNat (List.length l0 + List.length gl))) i = false) (k3 : ltZ i (.ofNat l0.length) = false) (k4 : ixA (aM gl) (IntKind.wrap .i64 (i - Int.ofNat l0.length)) 11 = some ([aI i0, aB b0] ++ nC i1 i2 i3 i4 i5 l1 l2 l3 b1)) :
  bB m 112 [mV ty im fu ta me gl ex st el da cu, vI i] h = some ((LV.tup [aI i0, aB b0, aB false, AV.nilI], h0)) :=
 bY (qS [] [15, 12, 26] [(6, 6, (LV.v (AV.snap ([aI i0, aB b0] ++ nC i1 i2 i3 i4 i5 l1 l2 l3 b1))))] [(1, 1, vM l0, h0)]) (tA k0 (tZ k1 (uF8 (tZ k2 (tZ k3 (tA (tA t0 (tA tN (k4))) (tR ((LV.tup [aI i0, aB b0, aB false, AV.nilI], h0))))))))) (by kernel_rfl)
theorem s24_0 (k0 : cA m 8 [vM xs] h = some (LV.tup [aI i0, aI i1], h0)) :
  bB m 26 [vM xs] h = some ((vB (leZ i0 (.ofNat 2000)), h0)) :=
 bY (qS [] [] [] [(1, 1, LV.tup [aI i0, aI i1], h0)]) (tA k0 (tR ((vB (leZ i0 (.ofNat 2000)), h0)))) (by kernel_rfl)
theorem s25_0 :
  bB m 27 [vG (nC o a b v t l bd el q)] h = some ((vM [nC o a b v t l bd el q], h)) :=
 bY (qS [] [] [] []) (tR ((vM [nC o a b v t l bd el q], h))) (by kernel_rfl)
end Go.Proofs.YtoblgjmllmomhaaGreatDoor
namespace Go.Proofs.YtoblgjmllmomhaaGreatDoor
set_option maxRecDepth 100000
open Go Go.RowKit Go.Proofs.Am
abbrev eM (M : Mdl) : LV := .v (.agg M.enc)
noncomputable abbrev CALL (m : Int) (f : Nat) (xs : List LV) (h : Heap) := callF (cxZ m) (blk (cxZ m)) f xs h
def kindB (k : Int) (x : Imp) : Bool := eqZ x.k k && leZ (Int.ofNat 0) k && leZ k (Int.ofNat 3)
def impK (M : Mdl) (k : Int) : List Imp := M.im.filter (kindB k)
def ownK (M : Mdl) (k : Int) : Nat :=
 if k = 0 then M.fu.length else if k = 1 then M.ta.length else if k = 2 then M.me.length else if k = 3 then M.gl.length else 0
structure Small (M : Mdl) : Prop where
 fit : M.Fit
 ty : M.ty.length ≤ 200
 im : M.im.length ≤ 200
 fu : M.fu.length ≤ 200
 gl : M.gl.length ≤ 200
theorem Small.ta {M : Mdl} (h : Small M) : M.ta.length * 24 ≤ 140737488351232 := h.fit.2.2.2.1.1
theorem Small.me {M : Mdl} (h : Small M) : M.me.length * 24 ≤ 140737488351232 := h.fit.2.2.2.2.1.1
theorem Small.own {M : Mdl} (h : Small M) (k : Int) : ownK M k * 24 ≤ 140737488351232 := by
 have := h.ta; have := h.me; have := h.fu; have := h.gl
 unfold ownK
 repeat' split
 all_goals omega
theorem loop26 (m : Int) (k : Int) (im : List Imp) (hi : im.length ≤ 200) (h : Heap) : ∀ (d i : Nat), i + d = im.length → ∀ out : List Imp, out.length ≤ i →
  blk (cxZ m) 76 (at_ Tryz.prog 76 3) [.v (.int .i64 k), .ow 8 (out.map Imp.enc), .v (.imm (im.map Imp.enc)), .v (.int .i64 (Int.ofNat im.length)), .v (.int .i64 (Int.ofNat i))] h
   = some (.v (.imm ((out ++ (im.drop i).filter (kindB k)).map Imp.enc)), h)
 | 0, i, hd, out, ho => by
  obtain rfl : i = im.length := by omega
  rw [List.drop_length, List.filter_nil, List.append_nil]
  exact s26_3_4 (k0 := ltZ_f (Int.le_refl _))
 | d + 1, i, hd, out, ho => by
  have hlt : i < im.length := by omega
  have hx : im[i]? = some im[i] := List.getElem?_eq_getElem hlt
  generalize im[i] = x at hx
  have k0 : ltZ (Int.ofNat i) (Int.ofNat im.length) = true := ltZ_t (by rw [ofN, ofN]; omega)
  have k1 : ixA (.imm (im.map Imp.enc)) (Int.ofNat i) 8 = some (Imp.enc x) := ix_map hx x.enc_len
  have hw := wrapS (n := i) (by omega)
  rw [drop_get hx]
  cases e1 : eqZ x.k k with
  | false =>
   have hb : kindB k x = false := by simp only [kindB, e1, Bool.false_and]
   rw [List.filter_cons_of_neg (by rw [hb]; simp)]
   refine s26_3_3 (k0 := k0) (k1 := k1) (k2 := e1) (k3 := ?_) ..
   rw [hw]
   exact loop26 m k im hi h d (i + 1) (by omega) out (by omega)
  | true =>
   cases e2 : leZ (Int.ofNat 0) k with
   | false =>
    have hb : kindB k x = false := by simp only [kindB, e2, Bool.and_false, Bool.false_and]
    rw [List.filter_cons_of_neg (by rw [hb]; simp)]
    refine s26_3_2 (k0 := k0) (k1 := k1) (k2 := e1) (k3 := e2) (k4 := ?_) ..
    rw [hw]
    exact loop26 m k im hi h d (i + 1) (by omega) out (by omega)
   | true =>
    cases e3 : leZ k (Int.ofNat 3) with
    | false =>
     have hb : kindB k x = false := by simp only [kindB, e3, Bool.and_false]
     rw [List.filter_cons_of_neg (by rw [hb]; simp)]
     refine s26_3_1 (k0 := k0) (k1 := k1) (k2 := e1) (k3 := e2) (k4 := e3) (k5 := ?_) ..
     rw [hw]
     exact loop26 m k im hi h d (i + 1) (by omega) out (by omega)
    | true =>
     have hb : kindB k x = true := by simp only [kindB, e1, e2, e3, Bool.and_self]
     rw [List.filter_cons_of_pos hb]
     have k5 : apL (.ow 8 (out.map Imp.enc)) 8 80 [Imp.enc x] = some (.ow 8 ((out ++ [x]).map Imp.enc)) := by
      rw [ap_owned (fit_one x.enc_len) (by simp; omega) (by decide), List.map_append]
      rfl
     refine s26_3_0 (k0 := k0) (k1 := k1) (k2 := e1) (k3 := e2) (k4 := e3) (k5 := k5) (k6 := ?_) ..
     rw [hw, ← list_snoc out x ((im.drop (i + 1)).filter (kindB k))]
     exact loop26 m k im hi h d (i + 1) (by omega) (out ++ [x]) (by simp; omega)
theorem t26 (m : Int) {M : Mdl} (hM : Small M) (k : Int) (h : Heap) : CALL m 76 [eM M, .v (.int .i64 k)] h = some (.v (.imm ((impK M k).map Imp.enc)), h) := by
 refine callZ rfl (by kernel_rfl) (by kernel_rfl) (s26_0 (k0 := ?_) ..)
 have := loop26 m k M.im hM.im h M.im.length 0 (by omega) [] (Nat.le_refl _)
 rw [List.drop_zero, List.nil_append] at this
 rw [List.length_map]
 exact this
theorem impK_len {M : Mdl} (hM : Small M) (k : Int) : (impK M k).length ≤ 200 := Nat.le_trans (List.length_filter_le _ _) hM.im
theorem t27 (m : Int) (M : Mdl) (k : Int) (h : Heap) : CALL m 77 [eM M, .v (.int .i64 k)] h = some (.v (.int .i64 (Int.ofNat (ownK M k))), h) := by
 refine callZ rfl (by kernel_rfl) (by kernel_rfl) ?_
 unfold ownK
 by_cases h0 : k = 0
 ·rw [if_pos h0]
  refine (s27_0 (k0 := eqZ_t h0) ..).trans ?_
  rw [List.length_map]
 rw [if_neg h0]
 by_cases h1 : k = 1
 ·rw [if_pos h1]
  refine (s27_1 (k0 := eqZ_f h0) (k1 := eqZ_t h1) ..).trans ?_
  rw [List.length_map]
 rw [if_neg h1]
 by_cases h2 : k = 2
 ·rw [if_pos h2]
  refine (s27_2 (k0 := eqZ_f h0) (k1 := eqZ_f h1) (k2 := eqZ_t h2) ..).trans ?_
  rw [List.length_map]
 rw [if_neg h2]
 by_cases h3 : k = 3
 ·rw [if_pos h3]
  refine (s27_3 (k0 := eqZ_f h0) (k1 := eqZ_f h1) (k2 := eqZ_f h2) (k3 := eqZ_t h3) ..).trans ?_
  rw [List.length_map]
 rw [if_neg h3]
 exact s27_4 (k0 := eqZ_f h0) (k1 := eqZ_f h1) (k2 := eqZ_f h2) (k3 := eqZ_f h3) ..
theorem t11 (m : Int) {M : Mdl} (hM : Small M) (k : Int) (h : Heap) : CALL m 36 [eM M, .v (.int .i64 k)] h = some (.v (.int .i64 (Int.ofNat ((impK M k).length + ownK M k))), h) := by
 refine callZ rfl (by kernel_rfl) (by kernel_rfl) ((s11_0 (k0 := t26 m hM k h) (k1 := t27 m M k h) ..).trans ?_)
 have h1 := impK_len hM k
 have h2 := hM.own k
 rw [List.length_map, wrapI (by unfold InZ; simp only [ofN]; omega)]
 rfl
end Go.Proofs.YtoblgjmllmomhaaGreatDoor
namespace Go.Proofs.YtoblgjmllmomhaaGreatDoor
set_option maxRecDepth 100000
open Go Go.RowKit Go.Proofs.Am
def rawL (M : Mdl) : List Int := (impK M 0).map Imp.t ++ M.fu.map MFn.t
def tyOf (M : Mdl) (t : Int) : Option FTy := bif ltZ t (Int.ofNat 0) then none else M.ty[t.toNat]?
def fT (M : Mdl) (i : Int) : Option Int := bif ltZ i (Int.ofNat 0) then none else (rawL M)[i.toNat]?
def numT (M : Mdl) (t : Int) : Int := match tyOf M t with | some _ => t | none => -1
theorem numT_none {M : Mdl} {t : Int} (h : tyOf M t = none) : numT M t = -1 := by unfold numT; rw [h]
theorem numT_some {M : Mdl} {t : Int} {y : FTy} (h : tyOf M t = some y) : numT M t = t := by unfold numT; rw [h]
def numOf (M : Mdl) (i : Int) : Int := match fT M i with | some t => numT M t | none => -1
theorem ge_none {A : Type} {l : List A} {i : Int} {n : Nat} (hn : l.length = n) (h : leZ (Int.ofNat n) i = true) : l[i.toNat]? = none := by
 have := (leZ_i h).2 rfl
 rw [ofN] at this
 rw [List.getElem?_eq_none]
 omega
theorem lt_some {A : Type} {l : List A} {i : Int} {n : Nat} (hn : l.length = n) (h0 : ltZ i (Int.ofNat 0) = false) (h : leZ (Int.ofNat n) i = false) : ∃ x, l[i.toNat]? = some x ∧ 0 ≤ i := by
 have h1 := leZ_i h
 have h2 := ltZ_i h0
 simp only [ofN, Bool.false_eq_true, iff_false] at h1 h2
 exact ⟨_, List.getElem?_eq_getElem (by omega), by omega⟩
theorem ty_ans {M : Mdl} (hM : Small M) {t : Int} {y : FTy} (h : tyOf M t = some y) : ltZ t (Int.ofNat 0) = false ∧ leZ (Int.ofNat (M.ty.map FTy.enc).length) t = false ∧ ixA (.imm (M.ty.map FTy.enc)) t 2 = some y.enc ∧ y.Fit := by
 unfold tyOf at h
 cases h0 : ltZ t (Int.ofNat 0) with
 | true => rw [h0] at h; cases h
 | false =>
  rw [h0, cond_false] at h
  have h2 := ltZ_i h0
  simp only [ofN, Bool.false_eq_true, iff_false] at h2
  refine ⟨rfl, ?_, ix_mapZ (by omega) h y.enc_len, hM.fit.1.2 _ (List.mem_of_getElem? h)⟩
  have := (List.getElem?_eq_some_iff.1 h).1
  exact leZ_f (by rw [List.length_map, ofN]; omega)
theorem ty_none {M : Mdl} {t : Int} (h : tyOf M t = none) : ltZ t (Int.ofNat 0) = true ∨ (ltZ t (Int.ofNat 0) = false ∧ leZ (Int.ofNat (M.ty.map FTy.enc).length) t = true) := by
 unfold tyOf at h
 cases h0 : ltZ t (Int.ofNat 0) with
 | true => exact .inl rfl
 | false =>
  refine .inr ⟨rfl, ?_⟩
  rw [h0, cond_false, List.getElem?_eq_none_iff] at h
  have h2 := ltZ_i h0
  simp only [ofN, Bool.false_eq_true, iff_false] at h2
  exact leZ_t (by rw [List.length_map, ofN]; omega)
end Go.Proofs.YtoblgjmllmomhaaGreatDoor
