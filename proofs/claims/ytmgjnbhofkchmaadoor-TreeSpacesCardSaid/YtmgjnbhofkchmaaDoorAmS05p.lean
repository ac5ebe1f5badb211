/-
  Whether a list of instructions may be, and how many they count, as the machine has it.
-/
import Derived.Test.YtmgjnbhofkchmaaDoorAmS05m
import Derived.Test.YtmgjnbhofkchmaaDoorAmIns
import Derived.Laws.BitsLemmas

namespace Go.Proofs.YtmgjnbhofkchmaaDoor
open Go Go.Proofs.Am

theorem ltZ_true {a b : Nat} (h : a < b) : ltZ (Int.ofNat a) (Int.ofNat b) = true := Nat.ble_eq_true_of_le h
theorem ltZ_false {a b : Nat} (h : b ≤ a) : ltZ (Int.ofNat a) (Int.ofNat b) = false := by
  cases hb : ltZ (Int.ofNat a) (Int.ofNat b) with
  | false => rfl
  | true => have : a + 1 ≤ b := Nat.le_of_ble_eq_true hb; omega
theorem wrapN {n : Nat} (h : n < 9223372036854775808) : IntKind.wrap .i64 (Int.ofNat n) = Int.ofNat n := by
  rw [IntKind.wrap_i64]
  have : (Int.ofNat n) = (n : Int) := rfl
  rw [this]; omega
theorem maxLen_eq : maxLen = 9223372036854775807 := by kernel_rfl
theorem callZ {m : Int} {f : Nat} {xs : List LV} {h : Heap} {y : LV × Heap} (he : extZ f = none) (hb : (body_ (Cx.P (cxZ m)) f).isEmpty = false) (hc : (cutAt (cxZ m) f (body_ (Cx.P (cxZ m)) f)).isNone = true) (hy : blk (cxZ m) f (body_ (Cx.P (cxZ m)) f) xs h = some y) : callF (cxZ m) (blk (cxZ m)) f xs h = some y :=
  callF_of (cx := cxZ m) he hb hc hy
theorem ix_of {A : Type} {f : A → List AV} {l : List A} {i n : Nat} (h : i < l.length) (hn : (f l[i]).length = n) : ixA (.imm (l.map f)) (Int.ofNat i) n = some (f l[i]) := by
  have h0 : (0 : Int) ≤ Int.ofNat i := Int.natCast_nonneg i
  simp only [ixA, decide_eq_true h0, cond_true, List.getElem?_map]
  rw [show (Int.ofNat i).toNat = i from rfl, List.getElem?_eq_getElem h]
  simp only [Option.map_some, Option.bind_some, hn, Nat.beq_refl, cond_true]
theorem ix_enc {l : List Ins} {i : Nat} (h : i < l.length) : ixA (.imm (encIs l)) (Int.ofNat i) 9 = some (encI l[i]) := by
  rw [encIs_map]; exact ix_of h (encI_len _)
theorem callV_fn {m : Int} {g : Nat} {ys : List LV} {h : Heap} : callV (cxZ m) (blk (cxZ m)) (.fn g [] []) ys h = callF (cxZ m) (blk (cxZ m)) g ys h := by
  simp [callV]

/-! ### Labels -/
theorem loop75 (m : Int) (l : List Int) (hl : l.length ≤ maxLen) : ∀ (k i : Nat), i + k = l.length →
    ∃ z : Int, ∀ h, blk (cxZ m) 75 (at_ Tryd.prog 75 2) [.v (.imm (encN l)), .v (.fn 58 [] []), .v (.int .i64 (Int.ofNat l.length)), .v (.int .i64 (Int.ofNat i))] h = some (.v (.int .i64 z), h)
  | 0, i, hi => by
    obtain rfl : i = l.length := by omega
    exact ⟨_, fun h => s75_2_2 m _ _ _ _ h (ltZ_false (Nat.le_refl _))⟩
  | k + 1, i, hi => by
    have hlt : i < l.length := by omega
    obtain ⟨b, hb⟩ := s58_call m l[i]
    have hix : ixA (.imm (encN l)) (Int.ofNat i) 1 = some [.int .i64 l[i]] := ix_of (f := fun x => [AV.int .i64 x]) hlt rfl
    cases b with
    | true => exact ⟨_, fun h => s75_2_0 m _ _ _ i h _ true h (ltZ_true hlt) hix (callV_fn.trans (hb h)) rfl⟩
    | false =>
      obtain ⟨z, hz⟩ := loop75 m l hl k (i + 1) (by omega)
      refine ⟨z, fun h => s75_2_1 m _ _ _ i h _ false h _ (ltZ_true hlt) hix (callV_fn.trans (hb h)) rfl ?_⟩
      have := maxLen_eq
      rw [wrapN (by omega)]
      exact hz h
theorem tot57 (m : Int) (l : List Int) (hl : l.length ≤ maxLen) : ∃ b : Bool, ∀ h, callF (cxZ m) (blk (cxZ m)) 57 [.v (.imm (encN l)), .v (.fn 58 [] [])] h = some (.v (.bool b), h) := by
  obtain ⟨z, hz⟩ := loop75 m l hl l.length 0 (by omega)
  refine ⟨_, fun h => callZ rfl (by kernel_rfl) (by kernel_rfl) (s57_0 m _ _ h z h (callZ rfl (by kernel_rfl) (by kernel_rfl) (s75_0 m _ _ h _ ?_)))⟩
  have : (encN l).length = l.length := by simp [encN]
  rw [this]
  exact hz h

/-! ### Lists of instructions -/
/-- What 'may' tells of an instruction. -/
def MT (m : Int) (x : Ins) (b : Bool) : Prop := ∀ h, callF (cxZ m) (blk (cxZ m)) 23 [.v (.agg (encI x))] h = some (.v (.bool b), h)
theorem may22 {m : Int} {x : Ins} {b : Bool} (hx : MT m x b) (h : Heap) : callF (cxZ m) (blk (cxZ m)) 22 [.v (.agg (encI x))] h = some (.v (.bool (!b)), h) := by
  obtain ⟨o, a, bb, v, t, l, bd, el, q⟩ := x
  exact callZ rfl (by kernel_rfl) (by kernel_rfl) (s22_0 m _ _ _ _ _ _ _ _ _ h b h (hx h))
theorem loop53 (m : Int) (mb : Ins → Bool) (l : List Ins) (hl : l.length ≤ maxLen) (hm : ∀ x, x ∈ l → MT m x (mb x)) : ∀ (k i : Nat), i + k = l.length →
    ∃ z : Int, leZ (Int.ofNat 0) z = (l.drop i).any (fun x => !mb x) ∧ ∀ h, blk (cxZ m) 53 (at_ Tryd.prog 53 2) [.v (.imm (encIs l)), .v (.fn 22 [] []), .v (.int .i64 (Int.ofNat l.length)), .v (.int .i64 (Int.ofNat i))] h = some (.v (.int .i64 z), h)
  | 0, i, hi => by
    obtain rfl : i = l.length := by omega
    exact ⟨Int.negSucc 0, by rw [List.drop_length]; rfl, fun h => s53_2_2 m _ _ _ _ h (ltZ_false (Nat.le_refl _))⟩
  | k + 1, i, hi => by
    have hlt : i < l.length := by omega
    have hx := may22 (hm l[i] (List.getElem_mem hlt))
    have hix := ix_enc hlt
    rw [List.drop_eq_getElem_cons hlt, List.any_cons]
    generalize l[i] = x at hx hix
    obtain ⟨o, a, bb, v, t, ll, bd, el, q⟩ := x
    cases hb : mb (.mk o a bb v t ll bd el q) with
    | false =>
      rw [hb] at hx
      exact ⟨Int.ofNat i, by rw [Bool.not_false, Bool.true_or]; exact Nat.ble_eq_true_of_le (Nat.zero_le i), fun h => s53_2_0 m _ _ _ i h _ _ _ _ _ _ _ _ _ true h (ltZ_true hlt) hix (callV_fn.trans (hx h)) rfl⟩
    | true =>
      rw [hb] at hx
      obtain ⟨z, hz1, hz⟩ := loop53 m mb l hl hm k (i + 1) (by omega)
      refine ⟨z, by rw [hz1]; rfl, fun h => s53_2_1 m _ _ _ i h _ _ _ _ _ _ _ _ _ false h _ (ltZ_true hlt) hix (callV_fn.trans (hx h)) rfl ?_⟩
      have := maxLen_eq
      rw [wrapN (by omega)]
      exact hz h
theorem all_any (mb : Ins → Bool) : ∀ l : List Ins, l.all mb = !(l.any fun x => !mb x)
  | [] => rfl
  | x :: l => by rw [List.all_cons, List.any_cons, all_any mb l, Bool.not_or, Bool.not_not]
theorem may_list (m : Int) (mb : Ins → Bool) (l : List Ins) (hl : l.length ≤ maxLen) (hm : ∀ x, x ∈ l → MT m x (mb x)) (h : Heap) : callF (cxZ m) (blk (cxZ m)) 9 [.v (.imm (encIs l))] h = some (.v (.bool (l.all mb)), h) := by
  obtain ⟨z, hz1, hz⟩ := loop53 m mb l hl hm l.length 0 (by omega)
  have e : l.all mb = !leZ (Int.ofNat 0) z := by
    rw [hz1, List.drop_zero]
    exact all_any mb l
  rw [e]
  refine callZ rfl (by kernel_rfl) (by kernel_rfl) (s9_0 m _ h _ h (callZ rfl (by kernel_rfl) (by kernel_rfl) (s21_0 m _ _ h z h (callZ rfl (by kernel_rfl) (by kernel_rfl) (s53_0 m _ _ h _ ?_)))))
  rw [encIs_len]
  exact hz h
end Go.Proofs.YtmgjnbhofkchmaaDoor
