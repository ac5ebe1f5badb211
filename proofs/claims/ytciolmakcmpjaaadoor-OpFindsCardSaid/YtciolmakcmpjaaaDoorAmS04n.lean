/-
  What texts begin with and end with; whether a name is a float's; where a name stands in a list; what op.Find tells of a name that is none.
-/
import Derived.Test.YtciolmakcmpjaaaDoorAmS04m
import Derived.Laws.Strings
import Derived.Laws.BitsLemmas
namespace Go.Proofs.YtciolmakcmpjaaaDoor
open Go Go.Proofs.Am

theorem leZ_nat (a b : Nat) : leZ (Int.ofNat a) (Int.ofNat b) = Nat.ble a b := by
  unfold leZ ltZ Nat.blt
  by_cases h : a ≤ b
  · rw [Nat.ble_eq_true_of_le h]
    have : Nat.ble (b + 1) a = false := by
      cases hb : Nat.ble (b + 1) a with
      | false => rfl
      | true => have := Nat.le_of_ble_eq_true hb; omega
    simp only [this, Bool.not_false]
  · have h1 : Nat.ble a b = false := by
      cases hb : Nat.ble a b with
      | false => rfl
      | true => exact absurd (Nat.le_of_ble_eq_true hb) h
    have h2 : Nat.ble (b + 1) a = true := Nat.ble_eq_true_of_le (by omega)
    simp only [h1, h2, Bool.not_true]
theorem ltZ_true {a b : Nat} (h : a < b) : ltZ (Int.ofNat a) (Int.ofNat b) = true := Nat.ble_eq_true_of_le h
theorem ltZ_false {a b : Nat} (h : b ≤ a) : ltZ (Int.ofNat a) (Int.ofNat b) = false := by
  cases hb : ltZ (Int.ofNat a) (Int.ofNat b) with
  | false => rfl
  | true => have : a + 1 ≤ b := Nat.le_of_ble_eq_true hb; omega
theorem wrapN {n : Nat} (h : n < 9223372036854775808) : IntKind.wrap .i64 (Int.ofNat n) = Int.ofNat n := by
  rw [IntKind.wrap_i64]
  have : (Int.ofNat n) = (n : Int) := rfl
  rw [this]; omega
theorem slA_str {P : Program} {t : TypeId} {s : ByteArray} (hu : P.underlying t = some .string) {lo hi : Option Int} {a b : Nat} (h1 : lo.getD 0 = (a : Int)) (h2 : hi.getD s.size = (b : Int)) (h3 : a ≤ b) (h4 : b ≤ s.size) :
    slA P t (.str s) lo hi = some (.str (s.extract a b)) := by
  unfold slA
  rw [hu]
  simp only [h1, h2, Int.toNat_natCast]
  have : (decide (0 ≤ (a : Int)) && decide ((a : Int) ≤ (b : Int)) && decide ((b : Int) ≤ (s.size : Int))) = true := by
    simp only [Bool.and_eq_true, decide_eq_true_eq]; omega
  rw [this, cond_true]

theorem small_lt {s : ByteArray} (h : small s = true) : s.size < 4294967281 := Nat.le_of_ble_eq_true h
theorem size_in (s : ByteArray) (h : small s = true) (e : ByteArray) (he : e.size ≤ s.size) : IntKind.wrap .i64 (Int.ofNat s.size - Int.ofNat e.size) = ((s.size - e.size : Nat) : Int) := by
  have := small_lt h
  have e1 : Int.ofNat s.size - Int.ofNat e.size = Int.ofNat (s.size - e.size) := by
    show (s.size : Int) - (e.size : Int) = ((s.size - e.size : Nat) : Int)
    omega
  rw [e1]
  exact wrapN (by omega)
theorem callP {m : Int} {f : Nat} {xs : List LV} {h : Heap} {y : LV × Heap} (he : extF f = none) (hb : (body_ Tryd.prog f).isEmpty = false) (hy : blk (cxP m) f (body_ Tryd.prog f) xs h = some y) : callF (cxP m) (blk (cxP m)) f xs h = some y :=
  callF_of (cx := cxP m) he hb (by rw [cut_none rfl]; rfl) hy

theorem suf_core (m : Int) (s e : ByteArray) (hs : small s = true) (h : Heap) (f : Nat) (hf : f = 35 ∨ f = 22) : blk (cxP m) f (body_ Tryd.prog f) [.v (.str s), .v (.str e)] h = some (.v (.bool (suf s e)), h) := by
  cases hb : Nat.ble e.size s.size with
  | true =>
    have hle := Nat.le_of_ble_eq_true hb
    have k0 : leZ (Int.ofNat e.size) (Int.ofNat s.size) = true := by rw [leZ_nat]; exact hb
    have k1 : slA Tryd.prog 9 (.str s) (some (IntKind.wrap .i64 (Int.ofNat s.size - Int.ofNat e.size))) none = some (.str (s.extract (s.size - e.size) s.size)) :=
      slA_str Tryd.underlying9 (by rw [size_in s hs e hle]; rfl) rfl (by omega) (Nat.le_refl _)
    have r : suf s e = ((s.extract (s.size - e.size) s.size).toList == e.toList) := by simp only [suf, hb, Bool.true_and]
    rw [r]
    rcases hf with rfl | rfl
    · exact s35_0 m s e h _ k0 k1
    · exact s22_0 m s e h _ k0 k1
  | false =>
    have k0 : leZ (Int.ofNat e.size) (Int.ofNat s.size) = false := by rw [leZ_nat]; exact hb
    have r : suf s e = false := by simp only [suf, hb, Bool.false_and]
    rw [r]
    rcases hf with rfl | rfl
    · exact s35_1 m s e h k0
    · exact s22_1 m s e h k0
theorem pre_core (m : Int) (s e : ByteArray) (h : Heap) : blk (cxP m) 37 (body_ Tryd.prog 37) [.v (.str s), .v (.str e)] h = some (.v (.bool (pre s e)), h) := by
  cases hb : Nat.ble e.size s.size with
  | true =>
    have hle := Nat.le_of_ble_eq_true hb
    have k0 : leZ (Int.ofNat e.size) (Int.ofNat s.size) = true := by rw [leZ_nat]; exact hb
    have k1 : slA Tryd.prog 9 (.str s) none (some (Int.ofNat e.size)) = some (.str (s.extract 0 e.size)) :=
      slA_str Tryd.underlying9 rfl rfl (by omega) hle
    have r : pre s e = ((s.extract 0 e.size).toList == e.toList) := by simp only [pre, hb, Bool.true_and]
    rw [r]
    exact s37_0 m s e h _ k0 k1
  | false =>
    have k0 : leZ (Int.ofNat e.size) (Int.ofNat s.size) = false := by rw [leZ_nat]; exact hb
    have r : pre s e = false := by simp only [pre, hb, Bool.false_and]
    rw [r]
    exact s37_1 m s e h k0
theorem suf_run (m : Int) (s e : ByteArray) (hs : small s = true) : blk (cxP m) 30 (body_ Tryd.prog 30) [.v (.str s), .v (.str e)] Heap.nil = some (.v (.bool (suf s e)), Heap.nil) :=
  s30_0 m s e Heap.nil _ Heap.nil (callP rfl (by kernel_rfl) (suf_core m s e hs Heap.nil 35 (.inl rfl)))
theorem pre_run (m : Int) (s e : ByteArray) : blk (cxP m) 32 (body_ Tryd.prog 32) [.v (.str s), .v (.str e)] Heap.nil = some (.v (.bool (pre s e)), Heap.nil) :=
  s32_0 m s e Heap.nil _ Heap.nil (callP rfl (by kernel_rfl) (pre_core m s e Heap.nil))

theorem body_one {f : FuncId} {fn : Func} {c : Code} (h : Tryd.prog.funcs[f]? = some fn) (hc : fn.body = some c) : body_ Tryd.prog f = [.code c] := by simp only [body_, h, hc]
theorem ext_of' {m : Int} {f : FuncId} {fn : Func} (hf : Tryd.prog.funcs[f]? = some fn) (hb : fn.body.isSome = true) {cx' : Cx} (hP : cx'.P = Tryd.prog) (hg : cx'.glob = (cxS m).glob) {e : List LV → Option LV}
    (he : ∀ (xs : List LV) (x : LV), e xs = some x → npLs xs = true ∧ x.np = true ∧ ∃ h', blk (cxP m) f (body_ Tryd.prog f) xs Heap.nil = some (x, h')) : ExtOk cx' f e ∧ ∃ fn c, cx'.P.funcs[f]? = some fn ∧ fn.body = some c := by
  obtain ⟨c, hc, _⟩ := body_of hf hb
  refine ⟨ext_run (cxP_ok m) hP hg hf hc (cut_none rfl f _) fun xs x hx => ?_, fn, c, by rw [hP]; exact hf, hc⟩
  obtain ⟨h1, h2, h3⟩ := he xs x hx
  rw [body_one hf hc] at h3
  exact ⟨h1, h2, h3⟩
theorem sufE_run {m : Int} {xs : List LV} {x : LV} (f : Nat) (hf : f = 30 ∨ f = 22) (hx : sufE xs = some x) : npLs xs = true ∧ x.np = true ∧ ∃ h', blk (cxP m) f (body_ Tryd.prog f) xs Heap.nil = some (x, h') := by
  unfold sufE at hx
  split at hx
  · rename_i s e
    cases hs : small s with
    | false => rw [hs] at hx; cases hx
    | true =>
      rw [hs, cond_true, Option.some.injEq] at hx
      subst hx
      refine ⟨rfl, rfl, ?_⟩
      rcases hf with rfl | rfl
      · exact ⟨_, suf_run m s e hs⟩
      · exact ⟨_, suf_core m s e hs Heap.nil 22 (.inr rfl)⟩
  · cases hx
theorem preE_run {m : Int} {xs : List LV} {x : LV} (hx : preE xs = some x) : npLs xs = true ∧ x.np = true ∧ ∃ h', blk (cxP m) 32 (body_ Tryd.prog 32) xs Heap.nil = some (x, h') := by
  unfold preE at hx
  split at hx
  · rename_i s e
    cases hs : small s with
    | false => rw [hs] at hx; cases hx
    | true =>
      rw [hs, cond_true, Option.some.injEq] at hx
      subst hx
      exact ⟨rfl, rfl, _, pre_run m s e⟩
  · cases hx
theorem cxY_ok (m : Int) : CxOk (cxY m) where
  names := names_ok
  ext := fun f e h => by
    have h : extY f = some e := h
    unfold extY at h
    split at h
    · cases h; exact up_ok (m := m) rfl rfl
    · cases h; exact look_ok (m := m) rfl rfl
    · cases h; exact all_ok (m := m) rfl rfl
    · exact (cxS_ok m).ext 18 e h
    · cases h; exact ext_of' (m := m) Tryd.func22 (by kernel_rfl) rfl rfl fun xs x hx => sufE_run 22 (.inr rfl) hx
    · cases h; exact ext_of' (m := m) Tryd.func30 (by kernel_rfl) rfl rfl fun xs x hx => sufE_run 30 (.inl rfl) hx
    · cases h; exact ext_of' (m := m) Tryd.func32 (by kernel_rfl) rfl rfl fun xs x hx => preE_run hx
    · cases h
  mixed := by kernel_rfl
  globs := globs_ok m

/-! ### Floats' names -/
def fl6 (s : ByteArray) : Bool := suf s (sb [95, 102, 51, 50]) || (suf s (sb [95, 102, 54, 52]) || (suf s (sb [95, 102, 51, 50, 95, 115]) || (suf s (sb [95, 102, 51, 50, 95, 117]) || (suf s (sb [95, 102, 54, 52, 95, 115]) || suf s (sb [95, 102, 54, 52, 95, 117])))))
def fl (s : ByteArray) : Bool := pre s (sb [102, 51, 50, 46]) || (pre s (sb [102, 54, 52, 46]) || fl6 s)
theorem callSuf {m : Int} {s e : ByteArray} (hs : small s = true) (f : Nat) (hf : f = 30 ∨ f = 22) {b : Bool} (hb : suf s e = b) : callF (cxY m) (blk (cxY m)) f [.v (.str s), .v (.str e)] Heap.nil = some (.v (.bool b), Heap.nil) := by
  subst hb
  rcases hf with rfl | rfl
  · exact callF_ext (e := sufE) rfl rfl (by simp only [sufE, hs, cond_true])
  · exact callF_ext (e := sufE) rfl rfl (by simp only [sufE, hs, cond_true])
theorem callPre {m : Int} {s e : ByteArray} (hs : small s = true) {b : Bool} (hb : pre s e = b) : callF (cxY m) (blk (cxY m)) 32 [.v (.str s), .v (.str e)] Heap.nil = some (.v (.bool b), Heap.nil) := by
  subst hb
  exact callF_ext (e := preE) rfl rfl (by simp only [preE, hs, cond_true])

def ends6 : List ByteArray := [sb [95, 102, 51, 50], sb [95, 102, 54, 52], sb [95, 102, 51, 50, 95, 115], sb [95, 102, 51, 50, 95, 117], sb [95, 102, 54, 52, 95, 115], sb [95, 102, 54, 52, 95, 117]]
/-- The loop over the ends. -/
theorem loop23 (m : Int) (s : ByteArray) (hs : small s = true) (h : Heap) : ∀ (k i : Nat), i + k = 6 →
    blk (cxY m) 23 (at_ Tryd.prog 23 4) [.v (.str s), .ow 1 (ends6.map fun e => [.str e]), .v (.int .i64 (Int.ofNat 6)), .v (.int .i64 (Int.ofNat i))] h = some (.v (.bool ((ends6.drop i).any (suf s))), h)
  | 0, i, hi => by
    obtain rfl : i = 6 := by omega
    exact s23_4_2 m s _ _ 6 h (ltZ_false (Nat.le_refl _))
  | k + 1, i, hi => by
    have hlt : i < ends6.length := by show i < 6; omega
    have k0 : ltZ (Int.ofNat i) (Int.ofNat 6) = true := ltZ_true (by omega)
    have k1 : ixA (.imm (ends6.map fun e => [.str e])) (Int.ofNat i) 1 = some [.str ends6[i]] := by
      have h0 : (0 : Int) ≤ Int.ofNat i := Int.natCast_nonneg i
      simp only [ixA, decide_eq_true h0, cond_true, List.getElem?_map]
      rw [show (Int.ofNat i).toNat = i from rfl, List.getElem?_eq_getElem hlt]
      rfl
    rw [List.drop_eq_getElem_cons hlt, List.any_cons]
    cases hb : suf s ends6[i] with
    | true => exact s23_4_0 m s _ _ i h _ true Heap.nil k0 k1 (callSuf hs 30 (.inl rfl) hb) rfl
    | false =>
      have ih := loop23 m s hs h k (i + 1) (by omega)
      refine s23_4_1 m s _ _ i h _ false Heap.nil _ k0 k1 (callSuf hs 30 (.inl rfl) hb) rfl ?_
      rw [wrapN (by omega)]
      exact ih
theorem run23 (m : Int) (s : ByteArray) (hs : small s = true) (h : Heap) : blk (cxY m) 23 (body_ Tryd.prog 23) [.v (.str s)] h = some (.v (.bool (fl s)), h) := by
  cases h1 : pre s (sb [102, 51, 50, 46]) with
  | true =>
    have r : fl s = true := by simp only [fl, h1, Bool.true_or]
    rw [r]
    exact s23_0 m s h true Heap.nil (callPre hs h1) rfl
  | false =>
    cases h2 : pre s (sb [102, 54, 52, 46]) with
    | true =>
      have r : fl s = true := by simp only [fl, h1, h2, Bool.true_or, Bool.false_or]
      rw [r]
      exact s23_1 m s h false Heap.nil true Heap.nil (callPre hs h1) rfl (callPre hs h2) rfl
    | false =>
      have r : fl s = ends6.any (suf s) := by simp only [fl, h1, h2, Bool.false_or, fl6, ends6, List.any_cons, List.any_nil, Bool.or_false]
      rw [r]
      exact s23_2 m s h false Heap.nil false Heap.nil _ (callPre hs h1) rfl (callPre hs h2) rfl (loop23 m s hs h 6 0 rfl)
end Go.Proofs.YtciolmakcmpjaaaDoor
