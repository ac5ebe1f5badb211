/-
  What takes types, the last one first, as a contract: the machine's 'take', one by one.
-/
import Derived.RangeFuncNested
import Derived.RangeFuncBound
import Derived.RangeFuncCalls
import Derived.RangeFuncLeaves
import Derived.Shelf.Abstract
import Derived.Shelf.RegionOpen
import Derived.WalkKit
import Derived.OwnWalkIn
import Derived.TacticsInMore
import Derived.LoopNIn
import Derived.LoopIn
import Derived.Test.YtjelldpjopdimaaDoorProg
import Derived.Test.YtjelldpjopdimaaDoorAmS13e
/-
  A range over slices.Backward of whole numbers: the iterator's contract.
-/
namespace Go.Proofs.YtjelldpjopdimaaDoor
open Go Go.RowKit Go.Shelf

attribute [local go_sem] Oper.semAt_some

/-- What has come when k rounds are over. -/
def upto {α : Type} (f : Nat → α) (k : Nat) : List α := (List.range k).map f
theorem upto_succ {α : Type} (f : Nat → α) (k : Nat) : upto f (k + 1) = upto f k ++ [f k] := by simp [upto, List.range_succ]
theorem upto_length {α : Type} (f : Nat → α) (k : Nat) : (upto f k).length = k := by simp [upto]
/-- What the iterator reads: the box that it has captured, and the slice's cells. -/
def Kpt (Bs b off len : Nat) (A B : World) : Prop := (∀ v, A.cell? ⟨Bs, 0, none⟩ = some v → B.cell? ⟨Bs, 0, none⟩ = some v) ∧ ∀ j v, j < len → A.cell? ⟨b, off + j, none⟩ = some v → B.cell? ⟨b, off + j, none⟩ = some v
theorem Kpt.refl (Bs b off len : Nat) (A : World) : Kpt Bs b off len A A := ⟨fun _ h => h, fun _ _ _ h => h⟩
theorem Kpt.trans {Bs b off len : Nat} {A B C : World} (h : Kpt Bs b off len A B) (k : Kpt Bs b off len B C) : Kpt Bs b off len A C := ⟨fun v hv => k.1 v (h.1 v hv), fun j v hj hv => k.2 j v hj (h.2 j v hj hv)⟩
set_option maxRecDepth 100000 in
set_option maxHeartbeats 2000000 in
theorem back1_in (F : Fence) (n : Nat) (h55 : F.fn 55) (hro : F.round = none) (hn : 1 ≤ n) (l Bs b off len cap : Nat) (zs : List Int) (hreach : len * 8 ≤ 140737488351232) (J Jx : List (Nat × Int) → World → Prop)
    (hY : ∀ pre x W, J pre W → pre.length < len → YieldAt F (n - 1) Tryd.prog l #[.int .i64 (x.1 : Int), .int .i64 x.2] W fun e W' =>
      (e = .returned (.bool true) ∧ J (pre ++ [x]) W' ∧ Kpt Bs b off len W W') ∨ (e = .returned (.bool false) ∧ Jx (pre ++ [x]) W'))
    (W : World) (hBs : W.cell? ⟨Bs, 0, none⟩ = some (.slice (some ⟨b, off, none⟩) len cap)) (hc : ∀ j, j < len → W.cell? ⟨b, off + j, none⟩ = some (.int .i64 (zs[j]?.getD 0))) (h0 : J [] W) :
    CallsIn F n Tryd.prog 55 #[.func (.yield l) #[] #[], .pointer (some ⟨Bs, 0, none⟩)] W fun e W' => (∃ v, e = .returned v) ∧
      ((∃ ys, ys = upto (fun j => (len - 1 - j, zs[len - 1 - j]?.getD 0)) len ∧ J ys W') ∨ (∃ pre, (∃ k, k ≤ len ∧ pre = upto (fun j => (len - 1 - j, zs[len - 1 - j]?.getD 0)) k) ∧ Jx pre W')) := by
  refine callsIn_of_wp Tryd.func55 rfl h55 ?_ hro
  simp only [Tryd.ntmps55, List.size_toArray, List.length_cons, List.length_nil, Nat.reduceAdd, Nat.reduceSub, Array.replicate_succ, Array.replicate_zero, List.push_toArray, List.append_toArray, List.nil_append, List.cons_append]
  gi_wp2
  gi_loopw [3] (fun i wr => ∃ k : Nat, k ≤ len ∧ i = .int .i64 ((len - k : Nat) - 1 : Int) ∧ J (upto (fun j => (len - 1 - j, zs[len - 1 - j]?.getD 0)) k) wr ∧ Kpt Bs b off len W wr)
    (fun i _ => (intOf i + 1).toNat)
  case atStart => exact ⟨0, Nat.zero_le _, by simp, h0, Kpt.refl _ _ _ _ _⟩
  case round =>
    obtain ⟨k, hk, rfl, hJs, hnx⟩ := hrel
    have hBx := hnx.1 _ hBs
    by_cases hlt : k < len
    · obtain ⟨fn, tmps, assign, body, hy, hR⟩ := hY _ (len - 1 - k, zs[len - 1 - k]?.getD 0) wr hJs (by rw [upto_length]; exact hlt)
      dsimp only at hy
      have hcx := hnx.2 _ _ (by omega) (hc (len - 1 - k) (by omega))
      rw [show ((len - k : Nat) - 1 : Int) = ((len - 1 - k : Nat) : Int) by omega]
      gi_wp2
      refine hR.mono ?_
      rintro e W3 (⟨rfl, hJ3, hk3⟩ | ⟨rfl, hJx3⟩)
      · gi_wp2
        go_roundw
        case rel => exact ⟨k + 1, by omega, by simp; omega, by rw [upto_succ]; exact hJ3, hnx.trans hk3⟩
        case measure => simp [intOf]
      · gi_wp2
        refine bodyPost_ret (results_none rfl _ _ _) rfl ?_
        exact ⟨⟨_, rfl⟩, .inr ⟨_, ⟨k + 1, by omega, (upto_succ _ _).symm⟩, hJx3⟩⟩
    · obtain rfl : k = len := by omega
      rw [show ((k - k : Nat) - 1 : Int) = -1 by omega]
      gi_wp2
      go_end0
      exact ⟨⟨_, rfl⟩, .inl ⟨_, rfl, hJs⟩⟩

set_option maxRecDepth 100000 in
set_option maxHeartbeats 1000000 in
/-- .. of no elements: no round. -/
theorem back1_nil_in (F : Fence) (n : Nat) (h55 : F.fn 55) (hro : F.round = none) (l Bs : Nat) (ad : Option Addr) (cap : Nat) (J : List (Nat × Int) → World → Prop) (W : World) (hBs : W.cell? ⟨Bs, 0, none⟩ = some (.slice ad 0 cap)) (h0 : J [] W) :
    CallsIn F n Tryd.prog 55 #[.func (.yield l) #[] #[], .pointer (some ⟨Bs, 0, none⟩)] W fun e W' => (∃ v, e = .returned v) ∧ J [] W' := by
  refine callsIn_of_wp Tryd.func55 rfl h55 ?_ hro
  simp only [Tryd.ntmps55, List.size_toArray, List.length_cons, List.length_nil, Nat.reduceAdd, Nat.reduceSub, Array.replicate_succ, Array.replicate_zero, List.push_toArray, List.append_toArray, List.nil_append, List.cons_append]
  gi_wp2
  gi_loopw [3] (fun i wr => i = .int .i64 (-1) ∧ J [] wr) (fun _ _ => 0)
  case atStart => exact ⟨rfl, h0⟩
  case round =>
    obtain ⟨rfl, hJs⟩ := hrel
    gi_wp2
    go_end0
    exact ⟨⟨_, rfl⟩, hJs⟩

set_option maxHeartbeats 1000000 in
/-- slices.Backward(s): the slice value is boxed; the function value captures the box. -/
theorem backward_in (F : Fence) (n : Nat) (h47 : F.fn 47) (hro : F.round = none) (a : Option Addr) (len cap : Nat) (w : World) :
    CallsIn F n Tryd.prog 47 #[.slice a len cap] w fun e w' => e = .returned (.func (.func 55) #[] #[.pointer (some ⟨w.heap.size, 0, none⟩)]) ∧ w' = w.alloc (.cells #[.slice a len cap] 23) := by
  refine callsIn_of_wp Tryd.func47 rfl h47 ?_ hro
  simp only [Tryd.ntmps47, List.size_toArray, List.length_cons, List.length_nil, Nat.reduceAdd, Nat.reduceSub, Array.replicate_succ, Array.replicate_zero, List.push_toArray, List.append_toArray, List.nil_append, List.cons_append]
  gi_wp2
  go_ret
  exact ⟨rfl, rfl⟩

/-- A slice value's whole numbers. -/
def IntsAt (W : World) (sv : Value) (b off : Nat) (zs : List Int) : Prop :=
  (∃ ad cap, sv = .slice ad 0 cap ∧ zs = []) ∨ ∃ cap, sv = .slice (some ⟨b, off, none⟩) zs.length cap ∧ ∀ j, j < zs.length → W.cell? ⟨b, off + j, none⟩ = some (.int .i64 (zs[j]?.getD 0))

theorem back_stops (F : Fence) (n : Nat) (h55 : F.fn 55) (hro : F.round = none) (hn : 1 ≤ n) (Bs b off : Nat) (sv : Value) (zs : List Int) (hreach : zs.length * 8 ≤ 140737488351232) (w : World) (hBs : Bs < w.heap.size)
    (hc : w.cell? ⟨Bs, 0, none⟩ = some sv) (hI : IntsAt w sv b off zs) :
    SeqStopsK F n Tryd.prog 55 #[.pointer (some ⟨Bs, 0, none⟩)] (fun x : Nat × Int => #[Value.int .i64 (x.1 : Int), Value.int .i64 x.2]) (Kpt Bs b off zs.length) (fun ys => ys = upto (fun j => (zs.length - 1 - j, zs[zs.length - 1 - j]?.getD 0)) zs.length)
      (fun pre => ∃ k, k ≤ zs.length ∧ pre = upto (fun j => (zs.length - 1 - j, zs[zs.length - 1 - j]?.getD 0)) k) zs.length w := fun l J Jx W hW _ _ hY h0 => by
  have hc' := (hW.cell (p := ⟨Bs, 0, none⟩) hBs).trans hc
  rcases hI with ⟨ad, cap, rfl, rfl⟩ | ⟨cap, rfl, hcs⟩
  · exact (back1_nil_in F n h55 hro l Bs ad cap J W hc' h0).mono fun e W' ⟨he, hj⟩ => ⟨he, .inl ⟨_, rfl, hj⟩⟩
  · exact back1_in F n h55 hro hn l Bs b off zs.length cap zs hreach J Jx hY W hc' (fun j hj => (hW.cell (p := ⟨b, off + j, none⟩) (World.block_lt_of_cell? w ⟨b, off + j, none⟩ (hcs j hj))).trans (hcs j hj)) h0
end Go.Proofs.YtjelldpjopdimaaDoor


namespace Go.Proofs.YtjelldpjopdimaaDoor
open Go Go.Proofs.Am Go.RowKit Go.Shelf

attribute [local go_sem] Oper.semAt_some

def intsX : List (List AV) → Option (List Int)
  | [] => some []
  | [.int .i64 z] :: r => (intsX r).bind fun zs => some (z :: zs)
  | _ :: _ => none
def intsA : AV → Option (List Int)
  | .nilS => some []
  | .imm xs => intsX xs
  | _ => none
theorem intsX_eq : ∀ (xs : List (List AV)) (zs : List Int), intsX xs = some zs → xs = zs.map fun z => [AV.int .i64 z]
  | [], zs, h => by simp only [intsX, Option.some.injEq] at h; subst h; rfl
  | x :: xs, zs, h => by
    unfold intsX at h
    split at h
    · rename_i heq; cases heq
    · rename_i z r heq
      simp only [List.cons.injEq] at heq
      obtain ⟨rfl, rfl⟩ := heq
      simp only [Option.bind_eq_some_iff, Option.some.injEq] at h
      obtain ⟨ws, hw, rfl⟩ := h
      rw [intsX_eq _ ws hw]; rfl
    · cases h
noncomputable abbrev cxN (m : Int) : Cx := cxE m fun _ => none
theorem cxN_ok (m : Int) (ht : ∀ (xs : List LV) (h : Heap) (y : LV), topE xs h = some y → blk (cxB m) 28 (body_ Tryd.prog 28) xs h = some (y, h)) {e : FuncId → Option (List LV → Heap → Option (LV × Heap))}
    (he : ∀ (f : FuncId) (x : List LV → Heap → Option (LV × Heap)), e f = some x → ExhOk (cxE m e) f x ∧ ∃ fn c, Tryd.prog.funcs[f]? = some fn ∧ fn.body = some c) : CxOk (cxE m e) where
  names := names_ok
  ext := (cxB_ok m).ext
  mixed := (cxB_ok m).mixed
  globs := globs_ok m
  exh := he
  exr := fun f x h => by
    have h : exrZ f = some x := h
    unfold exrZ at h
    cases hb : Nat.beq f 28 with
    | false => rw [hb] at h; cases h
    | true =>
      rw [hb] at h
      cases h
      have := Nat.eq_of_beq_eq_true hb
      subst this
      obtain ⟨c, hc, hbody⟩ := body_of Tryd.func28 (by kernel_rfl)
      have hcut : (cutAt (cxB m) 28 (body_ Tryd.prog 28)).isNone = true := by kernel_rfl
      have hb2 : body_ Tryd.prog 28 = [.code c] := by simp only [body_, Tryd.func28, hc]
      rw [hb2, Option.isNone_iff_eq_none] at hcut
      rw [hb2] at ht
      exact ⟨exr_run (cxB_ok m) rfl rfl Tryd.func28 hc hcut ht, _, c, Tryd.func28, hc⟩

noncomputable def takeR (m : Int) (p : AV) (z : Int) (h : Heap) : Option Heap := (callF (cxN m) (blk (cxN m)) 48 [.v p, .v (.int .i64 z)] h).map (·.2)
noncomputable def takesR (m : Int) (p : AV) : List Int → Heap → Option Heap
  | [], h => some h
  | z :: zs, h => (takeR m p z h).bind (takesR m p zs)
/-- Whatever is taken, one behind the other, it may be taken. -/
def Fine (m : Int) (p : AV) (h : Heap) : Prop := ∀ zs, ∃ h', takesR m p zs h = some h'
open Classical in
/-- The last one first. -/
noncomputable def allE (m : Int) : List LV → Heap → Option (LV × Heap)
  | [.v (.ptr L o), .v a], h => (intsA a).bind fun zs => bif Nat.ble (zs.length * 8) 140737488351232 then (if Fine m (.ptr L o) h then (takesR m (.ptr L o) zs.reverse h).bind fun h' => some (.tup [], h') else none) else none
  | _, _ => none
theorem takesR_app (m : Int) (p : AV) : ∀ (xs ys : List Int) (h : Heap), takesR m p (xs ++ ys) h = (takesR m p xs h).bind (takesR m p ys)
  | [], ys, h => rfl
  | x :: xs, ys, h => by
    simp only [List.cons_append, takesR]
    cases takeR m p x h with
    | none => rfl
    | some h1 => simp only [Option.bind_some, takesR_app m p xs ys h1]

/-- A call of 'take', as the machine says. -/
theorem take_call (m : Int) (hC : CxOk (cxN m)) {p : AV} {z : Int} {h h' : Heap} (ht : takeR m p z h = some h') {w : World} {g : Gh} {pv : Value} (wf : Wf w g) (hh : HeapOk w g h) (hG : GOk (cxN m) w g) (hp : Rep w g p pv) :
    Calls Tryd.prog 48 #[pv, .int .i64 z] w fun e w' => ∃ v g', e = .returned v ∧ Wf w' g' ∧ Tr w g w' g' ∧ HeapOk w' g' h' := by
  unfold takeR at ht
  rw [Option.map_eq_some_iff] at ht
  obtain ⟨⟨x, h1⟩, hx, rfl⟩ := ht
  obtain ⟨c, hc, _⟩ := body_of Tryd.func48 (by kernel_rfl)
  have hb2 : body_ Tryd.prog 48 = [.code c] := by simp only [body_, Tryd.func48, hc]
  have hcut : (cutAt (cxN m) 48 (body_ Tryd.prog 48)).isNone = true := by kernel_rfl
  rw [hb2] at hcut
  have ho : blk (cxN m) 48 [.code c] [.v p, .v (.int .i64 z)] h = some (x, h1) := by
    have e1 : (cxN m).ext 48 = none := rfl
    have e2 : (cxN m).exr 48 = none := rfl
    unfold callF at hx
    rw [e1] at hx
    simp only at hx
    rw [e2] at hx
    have e3 : (cxN m).P.funcs[48]? = some Tryd.f48 := Tryd.func48
    rw [e3] at hx
    simp only [Option.bind_some, hc, hcut, cond_true] at hx
    exact hx
  rw [Option.isNone_iff_eq_none] at hcut
  have hr : ∀ (j : Nat) (y : LV), ([.v p, .v (.int .i64 z)] : List LV)[j]? = some y → ∃ q u, y = .v q ∧ (#[pv, Value.int .i64 z])[j]? = some u ∧ Rep w g q u := by
    intro j y hj
    match j, hj with
    | 0, hj => simp only [List.getElem?_cons_zero, Option.some.injEq] at hj; subst hj; exact ⟨p, pv, rfl, rfl, hp⟩
    | 1, hj => simp only [List.getElem?_cons_succ, List.getElem?_cons_zero, Option.some.injEq] at hj; subst hj; exact ⟨_, _, rfl, rfl, .int _ _⟩
    | n + 2, hj => simp at hj
  have s0 : SR Tryd.f48.ntmps (inSt [.v p, .v (.int .i64 z)] h) { tmps := #[pv, Value.int .i64 z] ++ Array.replicate (Tryd.f48.ntmps - (#[pv, Value.int .i64 z]).size) undef, defers := [] } w g (fun _ => 0) :=
    SR.enter wf hh rfl (fun j y hj => by
      obtain ⟨q, u, rfl, hu, hrp⟩ := hr j y hj
      exact ⟨u, hu, hrp⟩)
  refine (calls_of_orc (cx := cxN m) (blk_ok hC) Tryd.func48 hc hcut ho s0 hG).mono ?_
  rintro e w' ⟨v, rfl, g', wf', t, hh', _⟩
  exact ⟨v, g', rfl, wf', t, hh'⟩

/-- What is between two rounds. -/
structure Btw (m : Int) (w : World) (g : Gh) (p : AV) (a : AV) (pv sv : Value) (b1 b2 : Nat) (hk : Heap) (W : World) : Prop where
  ex : ∃ g', Wf W g' ∧ Tr w g W g' ∧ HeapOk W g' hk ∧ GOk (cxN m) W g' ∧ Rep W g' p pv ∧ Rep W g' a sv ∧ g'.own b1 = .oth ∧ g'.own b2 = .oth
  c1 : W.cell? ⟨b1, 0, none⟩ = some pv
  c2 : W.cell? ⟨b2, 0, none⟩ = some sv

variable {m : Int} {w W W' : World} {g : Gh} {p a : AV} {pv sv : Value} {b1 b2 : Nat} {hk : Heap} {row : Option Nat}
theorem Btw.grown (h : Btw m w g p a pv sv b1 b2 hk W) (wf0 : Wf w g) (hg : W.grownBy W' row) (hr : ∀ r, row = some r → w.heap.size ≤ r ∧ ∃ o : Obj, W.heap[r]? = some o ∧ o.isCells = false) : Btw m w g p a pv sv b1 b2 hk W' := by
  obtain ⟨⟨g', h1, h2, h3, h4, h5, h6, h7, h8⟩, c1, c2⟩ := h
  obtain ⟨k1, k2, k3, L⟩ := grown_keep wf0 h1 h2 h3 hg hr
  have cell : ∀ b v, W.cell? ⟨b, 0, none⟩ = some v → W'.cell? ⟨b, 0, none⟩ = some v := fun b v hv => by
    have hne : row ≠ some b := by
      rintro rfl
      obtain ⟨_, o, ho, hc⟩ := hr b rfl
      have h9 : Cl W b 0 = some v := hv
      rw [(noCells ho hc).1] at h9; cases h9
    exact (Cl_eq_of_heap (hg.block b (Cl_lt hv) (Ne.symm hne))).trans hv
  exact ⟨⟨_, k1, k2, k3, fun i cs hi => (h4 i cs hi).monoW L, h5.monoW L, h6.monoW L, by rw [gOff_own]; exact h7, by rw [gOff_own]; exact h8⟩, cell _ _ c1, cell _ _ c2⟩

theorem imm_ints {W : World} {g : Gh} {zs : List Int} {a : AV} {sv : Value} (h : Rep W g a sv) (ha : intsA a = some zs) : ∃ b off, IntsAt W sv b off zs ∧ ∀ j, j < zs.length → off + j < g.sl b := by
  cases a <;> simp only [intsA, reduceCtorEq, Option.some.injEq] at ha
  case nilS =>
    subst ha
    cases h
    exact ⟨0, 0, .inl ⟨_, _, rfl, rfl⟩, fun j hj => by simp at hj⟩
  case imm xs =>
    have := intsX_eq xs zs ha
    subst this
    generalize hx : zs.map (fun z => [AV.int .i64 z]) = xs at h
    cases h with
    | imm0 ad cap =>
      have : zs = [] := by simpa using hx
      subst this
      exact ⟨0, 0, .inl ⟨_, _, rfl, rfl⟩, fun j hj => by simp at hj⟩
    | imm _ n b o cap f hl hn hc hr =>
      subst hx
      have hget : ∀ j, j < zs.length → (zs.map fun z => [AV.int .i64 z])[j]? = some [AV.int .i64 (zs[j]?.getD 0)] := fun j hj => by
        rw [List.getElem?_map, List.getElem?_eq_getElem hj]; rfl
      have key : ∀ j, j < zs.length → o + j < g.sl b ∧ W.cell? ⟨b, o + j, none⟩ = some (.int .i64 (zs[j]?.getD 0)) := fun j hj => by
        have h1 := hget j hj
        have hn1 : n = 1 := by rw [← hn j _ h1]; rfl
        subst hn1
        obtain ⟨k1, k2, _⟩ := hc j _ 0 _ h1 rfl
        have h3 := hr j _ 0 _ h1 rfl
        generalize f j 0 = u at k2 h3
        cases h3
        rw [Nat.mul_one, Nat.add_zero] at k1 k2
        exact ⟨k1, k2⟩
      refine ⟨b, o, .inr ⟨cap, by rw [List.length_map], fun j hj => (key j hj).2⟩, fun j hj => (key j hj).1⟩

set_option maxRecDepth 100000 in
set_option maxHeartbeats 4000000 in
/-- What takes types: the contract. -/
theorem all_ok (m : Int) (hC : CxOk (cxN m)) {cx' : Cx} (hP : cx'.P = Tryd.prog) (hgl : cx'.glob = (cxN m).glob) : ExhOk cx' 27 (allE m) := by
  intro xs h x h' hx w g vs wf hh hG hl hr
  unfold allE at hx
  split at hx
  · rename_i L o a
    simp only [Option.bind_eq_some_iff] at hx
    obtain ⟨zs, hzs, hx⟩ := hx
    cases hb : Nat.ble (zs.length * 8) 140737488351232 with
    | false => rw [hb] at hx; cases hx
    | true =>
    rw [hb, cond_true] at hx
    by_cases hfine : Fine m (.ptr L o) h
    case neg => rw [if_neg hfine] at hx; cases hx
    rw [if_pos hfine] at hx
    simp only [Option.bind_eq_some_iff, Option.some.injEq, Prod.mk.injEq] at hx
    obtain ⟨hend, htk, rfl, rfl⟩ := hx
    have hreach := Nat.le_of_ble_eq_true hb
    obtain ⟨pv, sv, rfl⟩ := vs_two rfl hl
    obtain ⟨p', u, hp', hu, hrp⟩ := hr 0 _ rfl
    obtain ⟨a', u', ha', hu', hra⟩ := hr 1 _ rfl
    cases hp'; cases ha'
    simp at hu hu'
    subst hu; subst hu'
    rw [hP]
    have hG : GOk (cxN m) w g := fun i cs hi => hG i cs (by rw [hgl]; exact hi)
    obtain ⟨hLn, rfl⟩ := ptr_inv hrp
    obtain ⟨b, off, hI, hsl⟩ := imm_ints hra hzs
    have hsv : ∃ ad cap, sv = .slice ad zs.length cap := by
      rcases hI with ⟨ad, cap, rfl, rfl⟩ | ⟨cap, rfl, _⟩
      · exact ⟨ad, cap, rfl⟩
      · exact ⟨_, cap, rfl⟩
    obtain ⟨ad, cap, rfl⟩ := hsv
    let f := fun j : Nat => (zs.length - 1 - j, zs[zs.length - 1 - j]?.getD 0)
    have hf : ∀ j, j < zs.length → zs.reverse[j]? = some (f j).2 := fun j hj => by
      rw [List.getElem?_reverse hj]
      simp only [f]
      rw [List.getElem?_eq_getElem (by omega)]; rfl
    refine (callsIn_wide (n := 5)).1 ?_
    refine callsIn_of_wp_marks Tryd.func27 rfl trivial ?_ rfl
    simp only [Tryd.ntmps27, List.size_toArray, List.length_cons, List.length_nil, Nat.reduceAdd, Nat.reduceSub, Array.replicate_succ, Array.replicate_zero, List.push_toArray, List.append_toArray, List.nil_append, List.cons_append]
    gi_wp2_with (refine ⟨trivial, ?_⟩; gi_at_call 47; refine (backward_in Fence.wide _ trivial rfl _ _ _ _).mono ?_; rintro e w' ⟨rfl, rfl⟩)
    have hB0 : Below w.heap.size w ((w.alloc (.cells #[.pointer (some ⟨g.bm L, o, none⟩)] 49)).alloc (.cells #[.slice ad zs.length cap] 23)) := ((Below.refl _ w).alloc (Nat.le_refl _) _).alloc (by simp) _
    have c1 : ((w.alloc (.cells #[.pointer (some ⟨g.bm L, o, none⟩)] 49)).alloc (.cells #[.slice ad zs.length cap] 23)).cell? ⟨w.heap.size, 0, none⟩ = some (.pointer (some ⟨g.bm L, o, none⟩)) := by
      have e1 := alloc_new w (.cells #[Value.pointer (some ⟨g.bm L, o, none⟩)] 49)
      have e2 := alloc_heap (w.alloc (.cells #[Value.pointer (some ⟨g.bm L, o, none⟩)] 49)) (.cells #[Value.slice ad zs.length cap] 23) (b := w.heap.size) (by simp)
      exact Cl_of (e2.trans e1)
    have c2 : ((w.alloc (.cells #[.pointer (some ⟨g.bm L, o, none⟩)] 49)).alloc (.cells #[.slice ad zs.length cap] 23)).cell? ⟨w.heap.size + 1, 0, none⟩ = some (.slice ad zs.length cap) := by
      have e1 := alloc_new (w.alloc (.cells #[Value.pointer (some ⟨g.bm L, o, none⟩)] 49)) (.cells #[Value.slice ad zs.length cap] 23)
      rw [World.size_alloc] at e1
      exact Cl_of e1
    have hstart : Btw m w g (.ptr L o) a (.pointer (some ⟨g.bm L, o, none⟩)) (.slice ad zs.length cap) w.heap.size (w.heap.size + 1) h ((w.alloc (.cells #[.pointer (some ⟨g.bm L, o, none⟩)] 49)).alloc (.cells #[.slice ad zs.length cap] 23)) := by
      obtain ⟨k1, k2, k3, L1⟩ := grown_keep wf wf (Tr.refl w g) hh (World.grownBy_alloc w (.cells #[Value.pointer (some ⟨g.bm L, o, none⟩)] 49) none) (fun r e => by cases e)
      obtain ⟨q1, q2, q3, L2⟩ := grown_keep wf k1 k2 k3 (World.grownBy_alloc (w.alloc (.cells #[Value.pointer (some ⟨g.bm L, o, none⟩)] 49)) (.cells #[Value.slice ad zs.length cap] 23) none) (fun r e => by cases e)
      exact ⟨⟨_, q1, q2, q3, fun i cs hi => ((hG i cs hi).monoW L1).monoW L2, (hrp.monoW L1).monoW L2, (hra.monoW L1).monoW L2, wf.own _ (Nat.le_refl _), wf.own _ (by omega)⟩, c1, c2⟩
    have hstp := back_stops Fence.wide 4 trivial rfl (by omega) (w.heap.size + 1) b off (.slice ad zs.length cap) zs hreach ((w.alloc (.cells #[.pointer (some ⟨g.bm L, o, none⟩)] 49)).alloc (.cells #[.slice ad zs.length cap] 23)) (by simp) c2
      (by
        rcases hI with ⟨ad', cap', e1, e2⟩ | ⟨cap', e1, hcs⟩
        · exact .inl ⟨ad', cap', e1, e2⟩
        · exact .inr ⟨cap', e1, fun j hj => (hB0.cell (p := ⟨b, off + j, none⟩) (World.block_lt_of_cell? w ⟨b, off + j, none⟩ (hcs j hj))).trans (hcs j hj)⟩)
    have hup : (upto f zs.length).map (·.2) = zs.reverse := by
      apply List.ext_getElem?
      intro j
      rw [List.getElem?_map]
      by_cases hj : j < zs.length
      · rw [hf j hj]
        simp only [upto, List.getElem?_map, List.getElem?_range hj, Option.map_some]
      · rw [List.getElem?_eq_none (by rw [upto_length]; omega), List.getElem?_eq_none (by rw [List.length_reverse]; omega)]; rfl
    refine wpIn_rangeFunc_ownG rfl (by omega) (gf := 55) (lb := #[.pointer (some ⟨w.heap.size + 1, 0, none⟩)]) rfl trivial (enters_of Tryd.func55 (by kernel_rfl) rfl)
      hstp (fun h k => h.trans k) ?hKb (Below.refl _ _) (fun _ => rfl)
      (fun pre W => ∃ hk, takesR m (.ptr L o) (pre.map (·.2)) h = some hk ∧ Btw m w g (.ptr L o) a (.pointer (some ⟨g.bm L, o, none⟩)) (.slice ad zs.length cap) w.heap.size (w.heap.size + 1) hk W)
      (fun _ _ _ => False)
      ?hI (fun _ _ _ _ _ hs _ _ => hs) ⟨h, rfl, hstart⟩
      (fun x => { tmps := #[.pointer (some ⟨g.bm L, o, none⟩), .slice ad zs.length cap, .pointer (some ⟨w.heap.size, 0, none⟩), undef, undef, .int .i64 x.2, .slice ad zs.length cap, .func (.func 55) #[] #[.pointer (some ⟨w.heap.size + 1, 0, none⟩)], .int .i64 (x.1 : Int), .int .i64 x.2, undef, undef, undef], defers := [] }) ?assign ?body ?done ?stop
    case hKb =>
      intro W l ob ob' _ hob hcl _
      have hne : ∀ (b' j : Nat) v, W.cell? ⟨b', j, none⟩ = some v → (W.putObj l ob').cell? ⟨b', j, none⟩ = some v := fun b' j v hv => by
        have hnb : b' ≠ l := by
          rintro rfl
          have h9 : Cl W b' j = some v := hv
          rw [(noCells hob hcl).1] at h9; cases h9
        exact (Cl_eq_of_heap ((grownBy_putObj' W l ob').block b' (Cl_lt hv) (by simp; exact hnb))).trans hv
      exact ⟨fun v hv => hne _ _ v hv, fun j v _ hv => hne _ _ v hv⟩
    case hI =>
      rintro pre W W' row ⟨hk, e1, hB⟩ hg hr
      exact ⟨hk, e1, hB.grown wf hg (fun r e => ⟨by have := (hr r e).1; simp at this; omega, (hr r e).2⟩)⟩
    case assign =>
      intro l x W K hK
      gi_wp2
      exact hK
    case body =>
      rintro l pre x W ⟨hk, e1, hB⟩ _
      obtain ⟨⟨g', h1, h2, h3, h4, h5, h6, h7, h8⟩, k1, k2⟩ := hB
      obtain ⟨hk', ht⟩ : ∃ hk', takeR m (.ptr L o) x.2 hk = some hk' := by
        obtain ⟨q, hq⟩ := hfine (pre.map (·.2) ++ [x.2])
        rw [takesR_app, e1, Option.bind_some, takesR] at hq
        cases e : takeR m (.ptr L o) x.2 hk with
        | none => rw [e] at hq; cases hq
        | some hk' => exact ⟨hk', rfl⟩
      have hcall := take_call m hC ht h1 h3 h4 h5
      gi_wp2_with (refine ⟨trivial, ?_⟩; gi_at_call 48; refine (CallsIn.inRound l (callsIn_wide.2 hcall)).mono ?_; rintro e W1 ⟨v, g1, rfl, q1, q2, q3⟩)
      have same : ∀ b', g'.own b' = .oth → ∀ v, W.cell? ⟨b', 0, none⟩ = some v → W1.cell? ⟨b', 0, none⟩ = some v := fun b' ho v hv => (Cl_eq_of_heap (q2.oth b' (Cl_lt hv) ho).1).trans hv
      refine ⟨⟨q2.size, fun k ob _ hk ho => q2.others h1 hk ho⟩, ⟨fun v hv => same _ h8 v hv, fun j v hj hv => (q2.le.cell b (off + j) (Nat.lt_of_lt_of_le (hsl j hj) (h2.le.sl b))).trans hv⟩, hk', ?_, ⟨g1, q1, h2.trans q2, q3, h4.mono q2.le, h5.mono q2.le, h6.mono q2.le, (q2.oth _ (Cl_lt k1) h7).2.1, (q2.oth _ (Cl_lt k2) h8).2.1⟩, same _ h7 _ k1, same _ h8 _ k2⟩
      rw [List.map_append, takesR_app, e1, Option.bind_some]
      simp only [List.map_cons, List.map_nil, takesR, ht, Option.bind_some]
    case done =>
      rintro D xs W hD rfl ⟨hk, e1, hB⟩ hK
      gi_wp2
      have e2 : hk = hend := by
        have e3 : takesR m (.ptr L o) ((upto f zs.length).map (·.2)) h = some hk := e1
        rw [hup, htk] at e3
        exact (Option.some.inj e3).symm
      subst e2
      have hB2 := hB.grown wf (grownBy_putObj' W D (.deferred none)) (fun r e => by cases e; exact ⟨by simp at hD; omega, _, hK, rfl⟩)
      obtain ⟨⟨g', h1, h2, h3, _⟩, _⟩ := hB2
      refine ⟨by simp, .inl ⟨_, _, rfl, run_takeDeferred hK, ?_⟩⟩
      exact ⟨_, results_none rfl _ _ _, _, rfl, g', h1, h2, h3, #[], rfl, rfl, fun j c hj => by simp at hj⟩
    case stop =>
      rintro D c pre W _ _ h _
      exact h.elim
  · cases hx
end Go.Proofs.YtjelldpjopdimaaDoor

/-
  The machine for code's types, whole.
-/
namespace Go.Proofs.YtjelldpjopdimaaDoor
open Go Go.Proofs.Am
noncomputable def exhZ (m : Int) (f : Nat) : Option (List LV → Heap → Option (LV × Heap)) := bif Nat.beq f 27 then some (allE m) else none
noncomputable def cxZ (m : Int) : Cx := cxE m (exhZ m)
end Go.Proofs.YtjelldpjopdimaaDoor
