/-
  The machine for trees: op.Look by its table, slices.Clone by its contract; texts are cut at their loops.
-/
import Derived.Test.YtmgjnbhofkchmaaDoorAmS05d
import Derived.Test.YtmgjnbhofkchmaaDoorAmS05h

namespace Go.Proofs.YtmgjnbhofkchmaaDoor
open Go Go.Proofs.Am
def extZ (f : Nat) : Option (List LV → Option LV) := bif Nat.beq f 54 then some lookE else bif Nat.beq f 28 then some cloneE else none
/-- Cuts of the laws' own texts, beside the loops'. -/
def cutZ (f id : Nat) : Option Keep :=
  match f, id with
  | 4, 5 => some ⟨[1, 2, 3, 7], [(0, 11)], 1⟩
  | 4, 7 => some ⟨[2, 3, 7], [(0, 11)], 1⟩
  | 4, 14 => some ⟨[2, 3, 7], [(0, 11)], 2⟩
  | 4, 16 => some ⟨[2, 3, 7, 12, 13, 14, 15, 16], [(0, 11)], 2⟩
  | _, _ => cutF f id
noncomputable def cxZ (m : Int) : Cx := { cxS m with cut := cutZ, ext := extZ }
theorem cxZ_ok (m : Int) : CxOk (cxZ m) where
  names := names_ok
  ext := fun f e h => by
    have h : extZ f = some e := h
    unfold extZ at h
    cases hb : Nat.beq f 54 with
    | false =>
      rw [hb, cond_false] at h
      cases hc : Nat.beq f 28 with
      | false => rw [hc] at h; cases h
      | true =>
        rw [hc] at h
        cases h
        have := Nat.eq_of_beq_eq_true hc
        subst this
        obtain ⟨c, hc, _⟩ := body_of Tryd.func28 (by kernel_rfl)
        exact ⟨clone28 rfl, _, c, Tryd.func28, hc⟩
    | true =>
      rw [hb] at h
      cases h
      have := Nat.eq_of_beq_eq_true hb
      subst this
      exact look_ok (m := m) rfl rfl
  mixed := by kernel_rfl
  globs := globs_ok m

/-- What op.Look tells has its shape. -/
def lookShape : LV → Bool
  | .tup [.agg [.int .i64 _, .str _, .int .i64 _, .imm _, .int .i64 _, .int .i64 _, .bool _], .nilI] => true
  | .tup [.agg [.int .i64 _, .str _, .int .i64 _, .imm _, .int .i64 _, .int .i64 _, .bool _], .ifc _ _] => true
  | _ => false
theorem lookShapes : (lookShape noneL && lookL.all lookShape) = true := by kernel_rfl
theorem lookV_shape (z : Int) : lookShape (lookV z) = true := by
  have h := lookShapes
  rw [Bool.and_eq_true] at h
  unfold lookV
  split
  · rename_i n
    cases h2 : lookL[n]? with
    | none => exact h.1
    | some x => exact List.all_eq_true.1 h.2 x (List.mem_of_getElem? h2)
  · exact h.1
theorem callLook {m z : Int} {h : Heap} : callF (cxZ m) (blk (cxZ m)) 54 [.v (.int .i64 z)] h = some (lookV z, h) := callF_ext (e := lookE) rfl rfl rfl
theorem look_call (m z : Int) : ∃ (a : Int) (s : ByteArray) (k : Int) (t : List (List AV)) (g y : Int) (q : Bool) (e : AV), ∀ h : Heap,
    callF (cxZ m) (blk (cxZ m)) 54 [.v (.int .i64 z)] h = some (.tup [.agg [.int .i64 a, .str s, .int .i64 k, .imm t, .int .i64 g, .int .i64 y, .bool q], e], h) := by
  simp only [callLook]
  have hs := lookV_shape z
  generalize lookV z = x at hs
  unfold lookShape at hs
  split at hs
  · exact ⟨_, _, _, _, _, _, _, _, fun _ => rfl⟩
  · exact ⟨_, _, _, _, _, _, _, _, fun _ => rfl⟩
  · cases hs
theorem err_call {m z : Int} {h h' : Heap} {x e : AV} (hc : callF (cxZ m) (blk (cxZ m)) 54 [.v (.int .i64 z)] h = some (.tup [x, e], h')) : ∃ q : Bool, binF (Cx.P (cxZ m)) BinOp.neq 46 true e AV.nilI = some (AV.bool q) := by
  rw [callLook] at hc
  simp only [Option.some.injEq, Prod.mk.injEq] at hc
  have hs := lookV_shape z
  rw [hc.1] at hs
  unfold lookShape at hs
  split at hs
  · rename_i heq
    injection heq with heq
    injection heq with _ heq
    injection heq with heq _
    subst heq
    exact ⟨false, by kernel_rfl⟩
  · rename_i heq
    injection heq with heq
    injection heq with _ heq
    injection heq with heq _
    subst heq
    exact ⟨true, by kernel_rfl⟩
  · cases hs
theorem look_tot (z : Int) : ∃ (a : Int) (s : ByteArray) (k : Int) (t : List (List AV)) (g y : Int) (q : Bool) (e : AV), ∀ h : Heap,
    (lookV z, h) = (.tup [.agg [.int .i64 a, .str s, .int .i64 k, .imm t, .int .i64 g, .int .i64 y, .bool q], e], h) := by
  obtain ⟨a, s, k, t, g, y, q, e, hh⟩ := look_call 0 z
  refine ⟨a, s, k, t, g, y, q, e, fun h => ?_⟩
  have := hh h
  rw [callLook] at this
  exact Option.some.inj this
theorem err_tot {m z : Int} {h h' : Heap} {x e : AV} (hc : (lookV z, h) = (.tup [x, e], h')) : ∃ q : Bool, binF (Cx.P (cxZ m)) BinOp.neq 46 true e AV.nilI = some (AV.bool q) :=
  err_call (z := z) (h := h) (h' := h') (x := x) (callLook.trans (congrArg some hc))
end Go.Proofs.YtmgjnbhofkchmaaDoor
