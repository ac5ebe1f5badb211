/-
  Whether a list of instructions may be, and how many they count, as the machine has it.
-/
import Derived.Test.YtmgjnbhofkchmaaDoorAmS05m
import Derived.Test.YtmgjnbhofkchmaaDoorAmIns
import Derived.Laws.BitsLemmas

namespace Go.Proofs.YtmgjnbhofkchmaaDoor
open Go Go.Proofs.Am

theorem ltZ_true {a b : Nat} (h : a < b) : ltZ (Int.ofNat a) (Int.ofNat b) = true := Nat.ble_eq_true_of_le h
theorem ltZ_false {a b : Nat} (h : b ≤ a) : ltZ (Int.ofNat a) (Int.ofNat b) = false := by
  cases hb : ltZ (Int.ofNat a) (Int.ofNat b) with
  | false => rfl
  | true => have : a + 1 ≤ b := Nat.le_of_ble_eq_true hb; omega
theorem wrapN {n : Nat} (h : n < 9223372036854775808) : IntKind.wrap .i64 (Int.ofNat n) = Int.ofNat n := by
  rw [IntKind.wrap_i64]
  have : (Int.ofNat n) = (n : Int) := rfl
  rw [this]; omega
theorem maxLen_eq : maxLen = 9223372036854775807 := by kernel_rfl
theorem callZ {m : Int} {f : Nat} {xs : List LV} {h : Heap} {y : LV × Heap} (he : extZ f = none) (hb : (body_ (Cx.P (cxZ m)) f).isEmpty = false) (hc : (cutAt (cxZ m) f (body_ (Cx.P (cxZ m)) f)).isNone = true) (hy : blk (cxZ m) f (body_ (Cx.P (cxZ m)) f) xs h = some y) : callF (cxZ m) (blk (cxZ m)) f xs h = some y :=
  callF_of (cx := cxZ m) he hb hc hy
theorem ix_of {A : Type} {f : A → List AV} {l : List A} {i n : Nat} (h : i < l.length) (hn : (f l[i]).length = n) : ixA (.imm (l.map f)) (Int.ofNat i) n = some (f l[i]) := by
  have h0 : (0 : Int) ≤ Int.ofNat i := Int.natCast_nonneg i
  simp only [ixA, decide_eq_true h0, cond_true, List.getElem?_map]
  rw [show (Int.ofNat i).toNat = i from rfl, List.getElem?_eq_getElem h]
  simp only [Option.map_some, Option.bind_some, hn, Nat.beq_refl, cond_true]
theorem ix_enc {l : List Ins} {i : Nat} (h : i < l.length) : ixA (.imm (encIs l)) (Int.ofNat i) 9 = some (encI l[i]) := by
  rw [encIs_map]; exact ix_of h (encI_len _)
theorem callV_fn {m : Int} {g : Nat} {ys : List LV} {h : Heap} : callV (cxZ m) (blk (cxZ m)) (.fn g [] []) ys h = callF (cxZ m) (blk (cxZ m)) g ys h := by
  simp [callV]

/-! ### Labels -/
/-! ### Lists of instructions -/
/-- What 'may' tells of an instruction. -/
def MT (m : Int) (x : Ins) (b : Bool) : Prop := ∀ h, callF (cxZ m) (blk (cxZ m)) 23 [.v (.agg (encI x))] h = some (.v (.bool b), h)
end Go.Proofs.YtmgjnbhofkchmaaDoor
