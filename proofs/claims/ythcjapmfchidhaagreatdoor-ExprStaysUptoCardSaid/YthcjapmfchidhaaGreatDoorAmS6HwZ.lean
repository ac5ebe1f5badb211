/-
  Ways through texts, one by one (printed by a program of this repo).
-/
import Derived.Test.YthcjapmfchidhaaGreatDoorAmS6wJ
import Derived.Test.YthcjapmfchidhaaGreatDoorAmMod
import Derived.KernelRfl
namespace Go.Proofs.YthcjapmfchidhaaGreatDoor
open Go Go.Proofs.Am
theorem callF_inv {cx : Cx} {orc : Orc} {f : FuncId} {xs : List LV} {h : Heap} {y : LV × Heap} {fn : Func} {c : Code} (hf : cx.P.funcs[f]? = some fn) (hb : fn.body = some c) (he : cx.ext f = none) (hh : cx.exh f = none) (hr : cx.exr f = none) (hy : callF cx orc f xs h = some y) : orc f [.code c] xs h = some y := by
 unfold callF at hy
 rw [he, hh, hr] at hy
 simp only [hf, hb, Option.bind_some] at hy
 cases hc : (cutAt cx f [.code c]).isNone with
 | true => rw [hc, cond_true] at hy; exact hy
 | false => rw [hc, cond_false] at hy; cases hy
noncomputable def runE (cx : Cx) (f : FuncId) (xs : List LV) (h : Heap) : Option (LV × Heap) := blk cx f (body_ cx.P f) xs h
theorem runE_ok {cx cx' : Cx} (hC : CxOk cx) (hP : cx'.P = cx.P) (hg : cx'.glob = cx.glob) {f : FuncId} {fn : Func} (hf : cx.P.funcs[f]? = some fn) (hs : fn.body.isSome = true) (hcut : (cutAt cx f (body_ cx.P f)).isNone = true)
  (hraw : ∀ (i : Nat) (v : Value), cx.raw i = some v → cx'.raw i = some v) : ExhOk cx' f (runE cx f) ∧ ∃ fn c, cx'.P.funcs[f]? = some fn ∧ fn.body = some c := by
 obtain ⟨c, hc⟩ := Option.isSome_iff_exists.1 hs
 have e : body_ cx.P f = [.code c] := body_eq hf hc
 rw [e, Option.isNone_iff_eq_none] at hcut
 refine ⟨exh_run hC hP hg hf hc hcut (fun xs h y hy => ?_) hraw, fn, c, by rw [hP]; exact hf, hc⟩
 unfold runE at hy
 rw [e] at hy
 exact hy
namespace H
def takeH (f r i : Nat) : Bool := bif Nat.beq f 34 || Nat.beq f 20 || Nat.beq f 59 then false else takeF f r i
def heapH (f r i : Nat) : Bool :=
 match f with
 | 34 => inP [(4, 5), (6, 5), (8, 2), (9, 2), (13, 2), (15, 7), (17, 5), (21, 6)] r i
 | 59 => inP [(4, 4)] r i
 | 9 => inP [(3, 3)] r i
 | 40 => inP [(1, 3), (3, 3), (3, 7), (4, 4), (6, 3), (6, 7), (7, 3), (7, 7), (7, 9), (7, 10)] r i
 | 89 => inP [(4, 10), (4, 11)] r i
 | 90 => inP [(6, 3), (6, 4)] r i
 | 98 => inP [(7, 2), (7, 3)] r i
 | _ => heapF f r i
def retH (f : Nat) : Bool := Nat.beq f 80
noncomputable def exhH (m : Int) (f : Nat) : Option (List LV → Heap → Option (LV × Heap)) := bif Nat.beq f 19 || Nat.beq f 58 || Nat.beq f 60 || Nat.beq f 79 then some (runE (cxZ m) f) else none
noncomputable def cxZ (m : Int) : Cx := { YthcjapmfchidhaaGreatDoor.cxZ m with take := takeH, heap := heapH, retOw := retH, exh := exhH m }
theorem cxZ_ok (m : Int) : CxOk (cxZ m) where
 names := names_ok
 ext := fun f e h => (YthcjapmfchidhaaGreatDoor.cxZ_ok m).ext f e h
 mixed := by kernel_rfl
 globs := globs_ok m
 exr := fun f e h => (YthcjapmfchidhaaGreatDoor.cxZ_ok m).exr f e h
 exh := fun f e h => by
  have h : exhH m f = some e := h
  unfold exhH at h
  cases hb : (Nat.beq f 19 || Nat.beq f 58 || Nat.beq f 60 || Nat.beq f 79) with
  | false => rw [hb] at h; cases h
  | true =>
   rw [hb] at h
   cases h
   simp only [Bool.or_eq_true] at hb
   rcases hb with ((hb | hb) | hb) | hb <;> (have := Nat.eq_of_beq_eq_true hb; subst this)
   ·exact runE_ok (YthcjapmfchidhaaGreatDoor.cxZ_ok m) rfl rfl Tryz.func19 (by kernel_rfl) (by kernel_rfl) (fun _ _ h => h)
   ·exact runE_ok (YthcjapmfchidhaaGreatDoor.cxZ_ok m) rfl rfl Tryz.func58 (by kernel_rfl) (by kernel_rfl) (fun _ _ h => h)
   ·exact runE_ok (YthcjapmfchidhaaGreatDoor.cxZ_ok m) rfl rfl Tryz.func60 (by kernel_rfl) (by kernel_rfl) (fun _ _ h => h)
   ·exact runE_ok (YthcjapmfchidhaaGreatDoor.cxZ_ok m) rfl rfl Tryz.func79 (by kernel_rfl) (by kernel_rfl) (fun _ _ h => h)
noncomputable abbrev cA (m : Int) := callF (cxZ m) (blk (cxZ m))
noncomputable abbrev cV (m : Int) := callV (cxZ m) (blk (cxZ m))
noncomputable abbrev bA (m : Int) (f r : Nat) := blk (cxZ m) f (at_ Tryz.prog f r)
noncomputable abbrev bB (m : Int) (f : Nat) := blk (cxZ m) f (body_ Tryz.prog f)
abbrev nE (m : Int) (x : AV) (b : Bool) : Prop := binF (Cx.P (cxZ m)) BinOp.neq 28 true x .nilI = some (.bool b)
abbrev qE (m : Int) (x : AV) (b : Bool) : Prop := binF (Cx.P (cxZ m)) BinOp.eql 28 true x .nilI = some (.bool b)
end H
end Go.Proofs.YthcjapmfchidhaaGreatDoor
namespace Go.Proofs.YthcjapmfchidhaaGreatDoor.H
set_option maxRecDepth 100000
open Go Go.Proofs.Am
variable {m o a b v t i0 i1 i2 i3 : Int} {I n n0 n1 : Nat} {l bd el l0 : LL} {q b0 b1 : Bool} {h h0 h1 : Heap} {r : LV × Heap} {v0 : AV} {s0 : ByteArray}
theorem p34_1 (k0 : (lookV o, h) = (LV.tup [AV.agg [aI i0, aS s0, aI i1, aM l0, aI i2, aI i3, aB b0], v0], h0)) (k1 : nE m v0 b1) (k2 : b1 = false) (k3 : apG h0 (AV.arr 1 I 0 n) 1 1 [[AV.int IntKind.u8 (IntKind.wrap IntKind.u8 o)]] = some (AV.arr 1 n0 0 n1, h1)) (k4 : bA m 34 5 [LV.v (AV.arr 1 n0 0 n1), LV.lp 0 0, LV.lp 1 0, vI o, vI a, vI b, LV.v (AV.int IntKind.u64 v), vI t, vM l, vM bd, vM el, vB q, vI i0, vS s0, vI i1, vM l0, vI i2, vI i3, vB b0] h1 = some r) :
  bB m 34 [.v (.arr 1 I 0 n), vG (nC o a b v t l bd el q)] h = some r :=
 bY (qS [] [1099992] [(2, 1, (vB b1))] [(1, 2, LV.tup [AV.agg [aI i0, aS s0, aI i1, aM l0, aI i2, aI i3, aB b0], v0], h0), (4, 5, LV.v (AV.arr 1 n0 0 n1), h1)]) (tZ k0 (tA k1 (tZ k2 (u12 (tA k3 (tA t1 (k4))))))) (by kernel_rfl)
theorem p34n_1 (k0 : (lookV o, h) = (LV.tup [AV.agg [aI i0, aS s0, aI i1, aM l0, aI i2, aI i3, aB b0], v0], h0)) (k1 : nE m v0 b1) (k2 : b1 = false) (k3 : bA m 34 5 [LV.v (AV.arr 1 (List.length (Heap.bx h0)) 0 1), LV.lp 0 0, LV.lp 1 0, vI o, vI a, vI b, LV.v (AV.int IntKind.u64 v), vI t, vM l, vM bd, vM el, vB q, vI i0, vS s0, vI i1, vM l0, vI i2, vI i3, vB b0] { bx := Heap.bx h0 ++ [[LV.v (AV.int IntKind.u8 (IntKind.wrap IntKind.u8 o))]], mp := Heap.mp h0 } = some r) :
  bB m 34 [.v .nilS, vG (nC o a b v t l bd el q)] h = some r :=
 bY (qS [] [1099992] [(2, 1, (vB b1))] [(1, 2, LV.tup [AV.agg [aI i0, aS s0, aI i1, aM l0, aI i2, aI i3, aB b0], v0], h0)]) (tZ k0 (tA k1 (tZ k2 (tA t1 (k3))))) (by kernel_rfl)
end Go.Proofs.YthcjapmfchidhaaGreatDoor.H
namespace Go.Proofs.YthcjapmfchidhaaGreatDoor.H
set_option maxRecDepth 100000
open Go Go.Proofs.Am
variable {m o a b v t ob ok gv bz i0 : Int} {I n n0 n1 n2 n3 n4 n5 n6 n7 n8 n9 : Nat} {l bd el tk l0 : LL} {q sg : Bool} {on : ByteArray} {h h0 h1 h2 h3 h4 h5 : Heap}
theorem p34_5_0 (k0 : eqZ ok (.ofNat 2) = true) (k1 : cA m 58 [vI t] h = some (LV.v (AV.int IntKind.u8 i0), h1)) (k2 : apG h1 (AV.arr 1 I 0 n) 1 1 [[AV.int IntKind.u8 i0]] = some (AV.arr 1 n2 0 n3, h2)) (k3 : cA m 20 [LV.v (AV.arr 1 n2 0 n3), vM bd] h2 = some (LV.v (AV.arr 1 n4 0 n5), h3)) (k4 : q = true) (k5 : apG h3 (AV.arr 1 n4 0 n5) 1 1 [[AV.int IntKind.u8 (.ofNat 5)]] = some (AV.arr 1 n6 0 n7, h4)) (k6 : cA m 20 [LV.v (AV.arr 1 n6 0 n7), vM el] h4 = some (LV.v (AV.arr 1 n8 0 n9), h5)) (k7 : apG h5 (AV.arr 1 n8 0 n9) 1 1 [[AV.int IntKind.u8 (.ofNat 11)]] = some (AV.arr 1 n0 0 n1, h0)) :
  bA m 34 5 [.v (.arr 1 I 0 n), .lp 0 0, .lp 1 0, vI o, vI a, vI b, .v (.int .u64 v), vI t, vM l, vM bd, vM el, vB q, vI ob, vS on, vI ok, vM tk, vI gv, vI bz, vB sg] h = some ((LV.v (AV.arr 1 n0 0 n1), h0)) :=
 bY (qS [1099998, 1099992] [] [] [(6, 3, LV.v (AV.int IntKind.u8 i0), h1), (6, 5, LV.v (AV.arr 1 n2 0 n3), h2), (6, 8, LV.v (AV.arr 1 n4 0 n5), h3), (8, 2, LV.v (AV.arr 1 n6 0 n7), h4), (8, 5, LV.v (AV.arr 1 n8 0 n9), h5), (9, 2, LV.v (AV.arr 1 n0 0 n1), h0)]) (tZ k0 (tA k1 (u12 (tA k2 (tA k3 (tZ k4 (u12 (tA k5 (tA k6 (u12 (tA k7 (tR ((LV.v (AV.arr 1 n0 0 n1), h0)))))))))))))) (by kernel_rfl)
theorem p34_5_1 (k0 : eqZ ok (.ofNat 2) = true) (k1 : cA m 58 [vI t] h = some (LV.v (AV.int IntKind.u8 i0), h1)) (k2 : apG h1 (AV.arr 1 I 0 n) 1 1 [[AV.int IntKind.u8 i0]] = some (AV.arr 1 n2 0 n3, h2)) (k3 : cA m 20 [LV.v (AV.arr 1 n2 0 n3), vM bd] h2 = some (LV.v (AV.arr 1 n4 0 n5), h3)) (k4 : q = false) (k5 : apG h3 (AV.arr 1 n4 0 n5) 1 1 [[AV.int IntKind.u8 (.ofNat 11)]] = some (AV.arr 1 n0 0 n1, h0)) :
  bA m 34 5 [.v (.arr 1 I 0 n), .lp 0 0, .lp 1 0, vI o, vI a, vI b, .v (.int .u64 v), vI t, vM l, vM bd, vM el, vB q, vI ob, vS on, vI ok, vM tk, vI gv, vI bz, vB sg] h = some ((LV.v (AV.arr 1 n0 0 n1), h0)) :=
 bY (qS [1099998] [1099992] [] [(6, 3, LV.v (AV.int IntKind.u8 i0), h1), (6, 5, LV.v (AV.arr 1 n2 0 n3), h2), (6, 8, LV.v (AV.arr 1 n4 0 n5), h3), (9, 2, LV.v (AV.arr 1 n0 0 n1), h0)]) (tZ k0 (tA k1 (u12 (tA k2 (tA k3 (tZ k4 (u12 (tA k5 (tR ((LV.v (AV.arr 1 n0 0 n1), h0))))))))))) (by kernel_rfl)
theorem p34_5_2 (k0 : eqZ ok (.ofNat 2) = false) (k1 : eqZ ok (.ofNat 7) = true) (k2 : cA m 59 [LV.v (AV.arr 1 I 0 n), vM [[aI a], [aI b]]] h = some (LV.v (AV.arr 1 n0 0 n1), h0)) :
  bA m 34 5 [.v (.arr 1 I 0 n), .lp 0 0, .lp 1 0, vI o, vI a, vI b, .v (.int .u64 v), vI t, vM l, vM bd, vM el, vB q, vI ob, vS on, vI ok, vM tk, vI gv, vI bz, vB sg] h = some ((LV.v (AV.arr 1 n0 0 n1), h0)) :=
 bY (qS [50] [1099998] [] [(11, 6, LV.v (AV.arr 1 n0 0 n1), h0)]) (tZ k0 (tZ k1 (uT3 (tA k2 (tR ((LV.v (AV.arr 1 n0 0 n1), h0))))))) (by kernel_rfl)
theorem p34_5_3 (k0 : eqZ ok (.ofNat 2) = false) (k1 : eqZ ok (.ofNat 7) = false) (k2 : eqZ ok (.ofNat 8) = true) (k3 : cA m 59 [LV.v (AV.arr 1 I 0 n), vM [[aI a], [aI b]]] h = some (LV.v (AV.arr 1 n0 0 n1), h0)) :
  bA m 34 5 [.v (.arr 1 I 0 n), .lp 0 0, .lp 1 0, vI o, vI a, vI b, .v (.int .u64 v), vI t, vM l, vM bd, vM el, vB q, vI ob, vS on, vI ok, vM tk, vI gv, vI bz, vB sg] h = some ((LV.v (AV.arr 1 n0 0 n1), h0)) :=
 bY (qS [1099995] [1099998, 50] [] [(11, 6, LV.v (AV.arr 1 n0 0 n1), h0)]) (tZ k0 (tZ k1 (uF3 (tZ k2 (tA k3 (tR ((LV.v (AV.arr 1 n0 0 n1), h0)))))))) (by kernel_rfl)
theorem p34_5_4 (k0 : eqZ ok (.ofNat 2) = false) (k1 : eqZ ok (.ofNat 7) = false) (k2 : eqZ ok (.ofNat 8) = false) (k3 : eqZ ok (.ofNat 9) = true) (k4 : apG h (AV.arr 1 I 0 n) 1 1 [[AV.int IntKind.u8 (.ofNat 0)]] = some (AV.arr 1 n0 0 n1, h0)) :
  bA m 34 5 [.v (.arr 1 I 0 n), .lp 0 0, .lp 1 0, vI o, vI a, vI b, .v (.int .u64 v), vI t, vM l, vM bd, vM el, vB q, vI ob, vS on, vI ok, vM tk, vI gv, vI bz, vB sg] h = some ((LV.v (AV.arr 1 n0 0 n1), h0)) :=
 bY (qS [1099992] [1099998, 50, 1099995] [] [(13, 2, LV.v (AV.arr 1 n0 0 n1), h0)]) (tZ k0 (tZ k1 (uF3 (tZ k2 (tZ k3 (u12 (tA k4 (tR ((LV.v (AV.arr 1 n0 0 n1), h0)))))))))) (by kernel_rfl)
theorem p34_5_5 (k0 : eqZ ok (.ofNat 2) = false) (k1 : eqZ ok (.ofNat 7) = false) (k2 : eqZ ok (.ofNat 8) = false) (k3 : eqZ ok (.ofNat 9) = false) (k4 : eqZ ok (.ofNat 10) = true) (k5 : eqZ gv (.ofNat 1) = true) (k6 : cA m 60 [vI (IntKind.wrap .i64 (IntKind.wrap IntKind.i32 (IntKind.wrap IntKind.u32 v)))] h = some (vM l0, h1)) (k7 : apG h1 (AV.arr 1 I 0 n) 1 1 l0 = some (AV.arr 1 n0 0 n1, h0)) :
  bA m 34 5 [.v (.arr 1 I 0 n), .lp 0 0, .lp 1 0, vI o, vI a, vI b, .v (.int .u64 v), vI t, vM l, vM bd, vM el, vB q, vI ob, vS on, vI ok, vM tk, vI gv, vI bz, vB sg] h = some ((LV.v (AV.arr 1 n0 0 n1), h0)) :=
 bY (qS [73, 1099989] [1099998, 50, 1099995, 1099992] [] [(15, 6, vM l0, h1), (15, 7, LV.v (AV.arr 1 n0 0 n1), h0)]) (tZ k0 (tZ k1 (uF3 (tZ k2 (tZ k3 (tZ k4 (uT3 (tZ k5 (tA k6 (u12 (tA k7 (tR ((LV.v (AV.arr 1 n0 0 n1), h0)))))))))))))) (by kernel_rfl)
theorem p34_5_6 (k0 : eqZ ok (.ofNat 2) = false) (k1 : eqZ ok (.ofNat 7) = false) (k2 : eqZ ok (.ofNat 8) = false) (k3 : eqZ ok (.ofNat 9) = false) (k4 : eqZ ok (.ofNat 10) = true) (k5 : eqZ gv (.ofNat 1) = false) (k6 : cA m 60 [vI (IntKind.wrap .i64 v)] h = some (vM l0, h1)) (k7 : apG h1 (AV.arr 1 I 0 n) 1 1 l0 = some (AV.arr 1 n0 0 n1, h0)) :
  bA m 34 5 [.v (.arr 1 I 0 n), .lp 0 0, .lp 1 0, vI o, vI a, vI b, .v (.int .u64 v), vI t, vM l, vM bd, vM el, vB q, vI ob, vS on, vI ok, vM tk, vI gv, vI bz, vB sg] h = some ((LV.v (AV.arr 1 n0 0 n1), h0)) :=
 bY (qS [73, 1099986] [1099998, 50, 1099995, 1099992, 1099989] [] [(17, 4, vM l0, h1), (17, 5, LV.v (AV.arr 1 n0 0 n1), h0)]) (tZ k0 (tZ k1 (uF3 (tZ k2 (tZ k3 (tZ k4 (uT3 (tZ k5 (tZ k4 (tA k6 (u12 (tA k7 (tR ((LV.v (AV.arr 1 n0 0 n1), h0))))))))))))))) (by kernel_rfl)
theorem p34_5_15 (k0 : eqZ ok (.ofNat 2) = false) (k1 : eqZ ok (.ofNat 7) = false) (k2 : eqZ ok (.ofNat 8) = false) (k3 : eqZ ok (.ofNat 9) = false) (k4 : eqZ ok (.ofNat 10) = false) (k5 : eqZ o (.ofNat 14) = true) (k6 : cA m 59 [LV.v (AV.arr 1 I 0 n), vM [[aI (IntKind.wrap .i64 (Int.ofNat l.length - Int.ofNat 1))]]] h = some (LV.v (AV.arr 1 n2 0 n3), h1)) (k7 : cA m 59 [LV.v (AV.arr 1 n2 0 n3), vM l] h1 = some (LV.v (AV.arr 1 n0 0 n1), h0)) :
  bA m 34 5 [.v (.arr 1 I 0 n), .lp 0 0, .lp 1 0, vI o, vI a, vI b, .v (.int .u64 v), vI t, vM l, vM bd, vM el, vB q, vI ob, vS on, vI ok, vM tk, vI gv, vI bz, vB sg] h = some ((LV.v (AV.arr 1 n0 0 n1), h0)) :=
 bY (qS [1099983] [1099998, 50, 1099995, 1099992, 73, 1099986] [] [(19, 6, LV.v (AV.arr 1 n2 0 n3), h1), (19, 9, LV.v (AV.arr 1 n0 0 n1), h0)]) (tZ k0 (tZ k1 (uF3 (tZ k2 (tZ k3 (tZ k4 (uF3 (tZ k4 (tZ k5 (tA k6 (tA k7 (tR ((LV.v (AV.arr 1 n0 0 n1), h0)))))))))))))) (by kernel_rfl)
theorem p34_5_16 (k0 : eqZ ok (.ofNat 2) = false) (k1 : eqZ ok (.ofNat 7) = false) (k2 : eqZ ok (.ofNat 8) = false) (k3 : eqZ ok (.ofNat 9) = false) (k4 : eqZ ok (.ofNat 10) = false) (k5 : eqZ o (.ofNat 14) = false) (k6 : eqZ o (.ofNat 17) = true) (k7 : cA m 59 [LV.v (AV.arr 1 I 0 n), vM [[aI a]]] h = some (LV.v (AV.arr 1 n2 0 n3), h1)) (k8 : apG h1 (AV.arr 1 n2 0 n3) 1 1 [[AV.int IntKind.u8 (.ofNat 0)]] = some (AV.arr 1 n0 0 n1, h0)) :
  bA m 34 5 [.v (.arr 1 I 0 n), .lp 0 0, .lp 1 0, vI o, vI a, vI b, .v (.int .u64 v), vI t, vM l, vM bd, vM el, vB q, vI ob, vS on, vI ok, vM tk, vI gv, vI bz, vB sg] h = some ((LV.v (AV.arr 1 n0 0 n1), h0)) :=
 bY (qS [1099980] [1099998, 50, 1099995, 1099992, 73, 1099986, 1099983] [] [(21, 4, LV.v (AV.arr 1 n2 0 n3), h1), (21, 6, LV.v (AV.arr 1 n0 0 n1), h0)]) (tZ k0 (tZ k1 (uF3 (tZ k2 (tZ k3 (tZ k4 (uF3 (tZ k4 (tZ k5 (tZ k6 (tA k7 (u12 (tA k8 (tR ((LV.v (AV.arr 1 n0 0 n1), h0)))))))))))))))) (by kernel_rfl)
theorem p34_5_17 (k0 : eqZ ok (.ofNat 2) = false) (k1 : eqZ ok (.ofNat 7) = false) (k2 : eqZ ok (.ofNat 8) = false) (k3 : eqZ ok (.ofNat 9) = false) (k4 : eqZ ok (.ofNat 10) = false) (k5 : eqZ o (.ofNat 14) = false) (k6 : eqZ o (.ofNat 17) = false) (k7 : eqZ ok (.ofNat 4) = true) (k8 : cA m 59 [LV.v (AV.arr 1 I 0 n), vM [[aI a]]] h = some (LV.v (AV.arr 1 n0 0 n1), h0)) :
  bA m 34 5 [.v (.arr 1 I 0 n), .lp 0 0, .lp 1 0, vI o, vI a, vI b, .v (.int .u64 v), vI t, vM l, vM bd, vM el, vB q, vI ob, vS on, vI ok, vM tk, vI gv, vI bz, vB sg] h = some ((LV.v (AV.arr 1 n0 0 n1), h0)) :=
 bY (qS [125] [1099998, 50, 1099995, 1099992, 73, 1099986, 1099983, 1099980] [] [(23, 4, LV.v (AV.arr 1 n0 0 n1), h0)]) (tZ k0 (tZ k1 (uF3 (tZ k2 (tZ k3 (tZ k4 (uF3 (tZ k4 (tZ k5 (tZ k6 (tZ k7 (uT3 (tA k8 (tR ((LV.v (AV.arr 1 n0 0 n1), h0)))))))))))))))) (by kernel_rfl)
theorem p34_5_18 (k0 : eqZ ok (.ofNat 2) = false) (k1 : eqZ ok (.ofNat 7) = false) (k2 : eqZ ok (.ofNat 8) = false) (k3 : eqZ ok (.ofNat 9) = false) (k4 : eqZ ok (.ofNat 10) = false) (k5 : eqZ o (.ofNat 14) = false) (k6 : eqZ o (.ofNat 17) = false) (k7 : eqZ ok (.ofNat 4) = false) (k8 : eqZ ok (.ofNat 6) = true) (k9 : cA m 59 [LV.v (AV.arr 1 I 0 n), vM [[aI a]]] h = some (LV.v (AV.arr 1 n0 0 n1), h0)) :
  bA m 34 5 [.v (.arr 1 I 0 n), .lp 0 0, .lp 1 0, vI o, vI a, vI b, .v (.int .u64 v), vI t, vM l, vM bd, vM el, vB q, vI ob, vS on, vI ok, vM tk, vI gv, vI bz, vB sg] h = some ((LV.v (AV.arr 1 n0 0 n1), h0)) :=
 bY (qS [130] [1099998, 50, 1099995, 1099992, 73, 1099986, 1099983, 1099980, 125] [] [(23, 4, LV.v (AV.arr 1 n0 0 n1), h0)]) (tZ k0 (tZ k1 (uF3 (tZ k2 (tZ k3 (tZ k4 (uF3 (tZ k4 (tZ k5 (tZ k6 (tZ k7 (uF3 (tZ k8 (uT3 (tA k9 (tR ((LV.v (AV.arr 1 n0 0 n1), h0)))))))))))))))))) (by kernel_rfl)
theorem p34_5_19 (k0 : eqZ ok (.ofNat 2) = false) (k1 : eqZ ok (.ofNat 7) = false) (k2 : eqZ ok (.ofNat 8) = false) (k3 : eqZ ok (.ofNat 9) = false) (k4 : eqZ ok (.ofNat 10) = false) (k5 : eqZ o (.ofNat 14) = false) (k6 : eqZ o (.ofNat 17) = false) (k7 : eqZ ok (.ofNat 4) = false) (k8 : eqZ ok (.ofNat 6) = false) (k9 : eqZ o (.ofNat 12) = true) (k10 : cA m 59 [LV.v (AV.arr 1 I 0 n), vM [[aI a]]] h = some (LV.v (AV.arr 1 n0 0 n1), h0)) :
  bA m 34 5 [.v (.arr 1 I 0 n), .lp 0 0, .lp 1 0, vI o, vI a, vI b, .v (.int .u64 v), vI t, vM l, vM bd, vM el, vB q, vI ob, vS on, vI ok, vM tk, vI gv, vI bz, vB sg] h = some ((LV.v (AV.arr 1 n0 0 n1), h0)) :=
 bY (qS [135] [1099998, 50, 1099995, 1099992, 73, 1099986, 1099983, 1099980, 125, 130] [] [(23, 4, LV.v (AV.arr 1 n0 0 n1), h0)]) (tZ k0 (tZ k1 (uF3 (tZ k2 (tZ k3 (tZ k4 (uF3 (tZ k4 (tZ k5 (tZ k6 (tZ k7 (uF3 (tZ k8 (uF3 (tZ k9 (uT3 (tA k10 (tR ((LV.v (AV.arr 1 n0 0 n1), h0)))))))))))))))))))) (by kernel_rfl)
theorem p34_5_20 (k0 : eqZ ok (.ofNat 2) = false) (k1 : eqZ ok (.ofNat 7) = false) (k2 : eqZ ok (.ofNat 8) = false) (k3 : eqZ ok (.ofNat 9) = false) (k4 : eqZ ok (.ofNat 10) = false) (k5 : eqZ o (.ofNat 14) = false) (k6 : eqZ o (.ofNat 17) = false) (k7 : eqZ ok (.ofNat 4) = false) (k8 : eqZ ok (.ofNat 6) = false) (k9 : eqZ o (.ofNat 12) = false) (k10 : eqZ o (.ofNat 13) = true) (k11 : cA m 59 [LV.v (AV.arr 1 I 0 n), vM [[aI a]]] h = some (LV.v (AV.arr 1 n0 0 n1), h0)) :
  bA m 34 5 [.v (.arr 1 I 0 n), .lp 0 0, .lp 1 0, vI o, vI a, vI b, .v (.int .u64 v), vI t, vM l, vM bd, vM el, vB q, vI ob, vS on, vI ok, vM tk, vI gv, vI bz, vB sg] h = some ((LV.v (AV.arr 1 n0 0 n1), h0)) :=
 bY (qS [1099977] [1099998, 50, 1099995, 1099992, 73, 1099986, 1099983, 1099980, 125, 130, 135] [] [(23, 4, LV.v (AV.arr 1 n0 0 n1), h0)]) (tZ k0 (tZ k1 (uF3 (tZ k2 (tZ k3 (tZ k4 (uF3 (tZ k4 (tZ k5 (tZ k6 (tZ k7 (uF3 (tZ k8 (uF3 (tZ k9 (uF3 (tZ k10 (tA k11 (tR ((LV.v (AV.arr 1 n0 0 n1), h0))))))))))))))))))))) (by kernel_rfl)
theorem p34_5_21 (k0 : eqZ ok (.ofNat 2) = false) (k1 : eqZ ok (.ofNat 7) = false) (k2 : eqZ ok (.ofNat 8) = false) (k3 : eqZ ok (.ofNat 9) = false) (k4 : eqZ ok (.ofNat 10) = false) (k5 : eqZ o (.ofNat 14) = false) (k6 : eqZ o (.ofNat 17) = false) (k7 : eqZ ok (.ofNat 4) = false) (k8 : eqZ ok (.ofNat 6) = false) (k9 : eqZ o (.ofNat 12) = false) (k10 : eqZ o (.ofNat 13) = false) :
  bA m 34 5 [.v (.arr 1 I 0 n), .lp 0 0, .lp 1 0, vI o, vI a, vI b, .v (.int .u64 v), vI t, vM l, vM bd, vM el, vB q, vI ob, vS on, vI ok, vM tk, vI gv, vI bz, vB sg] h = some ((LV.v (AV.arr 1 I 0 n), h)) :=
 bY (qS [] [1099998, 50, 1099995, 1099992, 73, 1099986, 1099983, 1099980, 125, 130, 135, 1099977] [] []) (tZ k0 (tZ k1 (uF3 (tZ k2 (tZ k3 (tZ k4 (uF3 (tZ k4 (tZ k5 (tZ k6 (tZ k7 (uF3 (tZ k8 (uF3 (tZ k9 (uF3 (tZ k10 (tR ((LV.v (AV.arr 1 I 0 n), h)))))))))))))))))))) (by kernel_rfl)
end Go.Proofs.YthcjapmfchidhaaGreatDoor.H
namespace Go.Proofs.YthcjapmfchidhaaGreatDoor.H
set_option maxRecDepth 100000
open Go Go.Proofs.Am
variable {m z i0 i1 i2 i3 i4 : Int} {I n i n0 n1 : Nat} {xs : (LL)} {h h0 h1 : Heap} {r : LV × Heap} {l0 l1 l2 : LL} {b0 : Bool}
theorem p20_0 (k0 : bA m 20 2 [LV.v (AV.arr 1 I 0 n), vM xs, vI (.ofNat xs.length), vI (.ofNat 0)] h = some r) :
  bB m 20 [.v (.arr 1 I 0 n), vM xs] h = some r :=
 bY (qS [] [] [] []) (tA t1 (k0)) (by kernel_rfl)
theorem p20n_0 (k0 : bA m 20 2 [LV.v AV.nilS, vM xs, vI (.ofNat xs.length), vI (.ofNat 0)] h = some r) :
  bB m 20 [.v .nilS, vM xs] h = some r :=
 bY (qS [] [] [] []) (tA t1 (k0)) (by kernel_rfl)
theorem p20_2_0 (k0 : ltZ (.ofNat i) z = true) (k1 : ixA (aM xs) (.ofNat i) 9 = some (nC i0 i1 i2 i3 i4 l0 l1 l2 b0)) (k2 : cA m 34 [LV.v (AV.arr 1 I 0 n), vG (nC i0 i1 i2 i3 i4 l0 l1 l2 b0)] h = some (LV.v (AV.arr 1 n0 0 n1), h0)) (k3 : bA m 20 2 [LV.v (AV.arr 1 n0 0 n1), vM xs, vI z, vI (IntKind.wrap .i64 (.ofNat (Nat.succ i)))] h0 = some r) :
  bA m 20 2 [.v (.arr 1 I 0 n), vM xs, vI z, vI (.ofNat i)] h = some r :=
 bY (qS [1099997] [] [(3, 0, (LV.v (AV.snap (nC i0 i1 i2 i3 i4 l0 l1 l2 b0))))] [(4, 2, LV.v (AV.arr 1 n0 0 n1), h0)]) (tZ k0 (tA (tA t0 (tA tN (k1))) (tA k2 (tA t1 (k3))))) (by kernel_rfl)
theorem p20_2_1 (k0 : ltZ (.ofNat i) z = false) :
  bA m 20 2 [.v (.arr 1 I 0 n), vM xs, vI z, vI (.ofNat i)] h = some ((LV.v (AV.arr 1 I 0 n), h)) :=
 bY (qS [] [1099997] [] []) (tZ k0 (tR ((LV.v (AV.arr 1 I 0 n), h)))) (by kernel_rfl)
theorem p20_2n_0 (k0 : ltZ (.ofNat i) z = true) (k1 : ixA (aM xs) (.ofNat i) 9 = some (nC i0 i1 i2 i3 i4 l0 l1 l2 b0)) (k2 : cA m 34 [LV.v AV.nilS, vG (nC i0 i1 i2 i3 i4 l0 l1 l2 b0)] h = some (LV.v (AV.arr 1 n0 0 n1), h0)) (k3 : bA m 20 2 [LV.v (AV.arr 1 n0 0 n1), vM xs, vI z, vI (IntKind.wrap .i64 (.ofNat (Nat.succ i)))] h0 = some r) :
  bA m 20 2 [.v .nilS, vM xs, vI z, vI (.ofNat i)] h = some r :=
 bY (qS [1099997] [] [(3, 0, (LV.v (AV.snap (nC i0 i1 i2 i3 i4 l0 l1 l2 b0))))] [(4, 2, LV.v (AV.arr 1 n0 0 n1), h0)]) (tZ k0 (tA (tA t0 (tA tN (k1))) (tA k2 (tA t1 (k3))))) (by kernel_rfl)
theorem p20_2n_1 (k0 : ltZ (.ofNat i) z = false) :
  bA m 20 2 [.v .nilS, vM xs, vI z, vI (.ofNat i)] h = some ((LV.v AV.nilS, h)) :=
 bY (qS [] [1099997] [] []) (tZ k0 (tR ((LV.v AV.nilS, h)))) (by kernel_rfl)
theorem p59_0 (k0 : bA m 59 2 [LV.v (AV.arr 1 I 0 n), vM xs, vI (.ofNat xs.length), vI (.ofNat 0)] h = some r) :
  bB m 59 [.v (.arr 1 I 0 n), vM xs] h = some r :=
 bY (qS [] [] [] []) (tA t1 (k0)) (by kernel_rfl)
theorem p59_2_0 (k0 : ltZ (.ofNat i) z = true) (k1 : ixA (aM xs) (.ofNat i) 1 = some [aI i0]) (k2 : cA m 79 [LV.v (AV.int IntKind.u64 (IntKind.wrap IntKind.u64 i0))] h = some (vM l0, h0)) (k3 : apG h0 (AV.arr 1 I 0 n) 1 1 l0 = some (AV.arr 1 n0 0 n1, h1)) (k4 : bA m 59 2 [LV.v (AV.arr 1 n0 0 n1), vM xs, vI z, vI (IntKind.wrap .i64 (.ofNat (Nat.succ i)))] h1 = some r) :
  bA m 59 2 [.v (.arr 1 I 0 n), vM xs, vI z, vI (.ofNat i)] h = some r :=
 bY (qS [1099997] [] [(3, 0, (LV.v (AV.snap [aI i0])))] [(4, 3, vM l0, h0), (4, 4, LV.v (AV.arr 1 n0 0 n1), h1)]) (tZ k0 (tA (tA t0 (tA tN (k1))) (tA k2 (u12 (tA k3 (tA t1 (k4))))))) (by kernel_rfl)
theorem p59_2_1 (k0 : ltZ (.ofNat i) z = false) :
  bA m 59 2 [.v (.arr 1 I 0 n), vM xs, vI z, vI (.ofNat i)] h = some ((LV.v (AV.arr 1 I 0 n), h)) :=
 bY (qS [] [1099997] [] []) (tZ k0 (tR ((LV.v (AV.arr 1 I 0 n), h)))) (by kernel_rfl)
end Go.Proofs.YthcjapmfchidhaaGreatDoor.H
namespace Go.Proofs.YthcjapmfchidhaaGreatDoor.H
set_option maxRecDepth 100000
open Go Go.Proofs.Am
variable {m : Int} {xs : (LL)} {h h0 h1 h2 : Heap} {b0 : Bool} {n0 n1 n2 n3 : Nat}
theorem p9_0 (k0 : cA m 19 [vM xs] h = some (vB b0, h0)) (k1 : (!b0) = true) :
  bB m 9 [vM xs] h = some ((LV.tup [aM [], AV.ifc 32 (aI (.ofNat 1))], h0)) :=
 bY (qS [1099994] [] [] [(1, 1, vB b0, h0)]) (tA k0 (tZ k1 (tR ((LV.tup [aM [], AV.ifc 32 (aI (.ofNat 1))], h0))))) (by kernel_rfl)
theorem p9_1 (k0 : cA m 19 [vM xs] h = some (vB b0, h1)) (k1 : (!b0) = false) (k2 : cA m 20 [LV.v AV.nilS, vM xs] h1 = some (LV.v (AV.arr 1 n2 0 n3), h2)) (k3 : apG h2 (AV.arr 1 n2 0 n3) 1 1 [[AV.int IntKind.u8 (.ofNat 11)]] = some (AV.arr 1 n0 0 n1, h0)) :
  bB m 9 [vM xs] h = some ((LV.tup [AV.arr 1 n0 0 n1, AV.nilI], h0)) :=
 bY (qS [] [1099994] [] [(1, 1, vB b0, h1), (3, 1, LV.v (AV.arr 1 n2 0 n3), h2), (3, 3, LV.v (AV.arr 1 n0 0 n1), h0)]) (tA k0 (tZ k1 (tA k2 (u12 (tA k3 (tR ((LV.tup [AV.arr 1 n0 0 n1, AV.nilI], h0)))))))) (by kernel_rfl)
end Go.Proofs.YthcjapmfchidhaaGreatDoor.H
namespace Go.Proofs.YthcjapmfchidhaaGreatDoor.H
set_option maxRecDepth 100000
open Go Go.Proofs.Am
variable {m p b v g i0 i1 : Int} {I n n0 n1 : Nat} {h : Heap} {r : LV × Heap}
theorem p97_0 (k0 : leZ (.ofNat 1) b = true) (k1 : leZ b (.ofNat 64) = true) (k2 : leZ (.ofNat 0) p = true) :
  bB m 97 [.v (.arr 1 I 0 n), vI p, vI b] h = some ((vB (leZ p (.ofNat n)), h)) :=
 bY (qS [9, 13, 17] [] [] []) (tZ k0 (uT2 (tZ k1 (uT2 (tZ k2 (uT4 (tR ((vB (leZ p (.ofNat n)), h))))))))) (by kernel_rfl)
theorem p98_0 (k0 : bA m 98 3 [LV.v (AV.arr 1 I 0 n), vI p, vI b, LV.v (AV.int IntKind.u64 (.ofNat 0)), vI (.ofNat 0)] h = some r) :
  bB m 98 [.v (.arr 1 I 0 n), vI p, vI b] h = some r :=
 bY (qS [] [] [] []) (tA t1 (k0)) (by kernel_rfl)
theorem p98_3_0 (k0 : ltZ g b = true) (k1 : leZ (.ofNat n) p = true) :
  bA m 98 3 [.v (.arr 1 I 0 n), vI p, vI b, .v (.int .u64 v), vI g] h = some ((LV.tup [AV.int IntKind.u64 (.ofNat 0), aI (.ofNat 0), aI (.ofNat 0), aB false], h)) :=
 bY (qS [1099998, 1099991] [] [] []) (tZ k0 (tZ k1 (tR ((LV.tup [AV.int IntKind.u64 (.ofNat 0), aI (.ofNat 0), aI (.ofNat 0), aB false], h))))) (by kernel_rfl)
theorem p98_3_1 (k0 : ltZ g b = true) (k1 : leZ (.ofNat n) p = false) (k2 : ixP (AV.arr 1 I 0 n) p 1 = some (AV.ptr n0 n1)) (k3 : ldP h (AV.ptr n0 n1) 1 false = some (AV.int IntKind.u8 i0)) (k4 : binF (Cx.P (cxZ m)) BinOp.shl 46 false (AV.int IntKind.u64 (.ofNat (BitVec.toNat (BitVec.ofInt (IntKind.bits IntKind.u8) i0 &&& BitVec.ofInt (IntKind.bits IntKind.u8) 127) % 256 % 18446744073709551616))) (aI g) = some (AV.int IntKind.u64 i1)) (k5 : ltZ i0 (.ofNat 128) = true) :
  bA m 98 3 [.v (.arr 1 I 0 n), vI p, vI b, .v (.int .u64 v), vI g] h = some ((LV.tup [AV.int IntKind.u64 (.ofNat (BitVec.toNat (BitVec.ofInt (IntKind.bits IntKind.u64) v ||| BitVec.ofInt (IntKind.bits IntKind.u64) i1) % 18446744073709551616)), aI (IntKind.wrap .i64 (g + Int.ofNat 7)), aI (IntKind.wrap .i64 (p + Int.ofNat 1)), aB true], h)) :=
 bY (qS [1099998, 1099981] [1099991] [(9, 5, (LV.v (AV.int IntKind.u64 i1)))] [(7, 2, vP n0 n1, Heap.nil), (7, 3, LV.v (AV.int IntKind.u8 i0), Heap.nil)]) (tZ k0 (tZ k1 (tA t1 (tA tN (tA k2 (tA t1 (tA tN (tA t0 (tA k3 (tA k4 (tZ k5 (tR ((LV.tup [AV.int IntKind.u64 (.ofNat (BitVec.toNat (BitVec.ofInt (IntKind.bits IntKind.u64) v ||| BitVec.ofInt (IntKind.bits IntKind.u64) i1) % 18446744073709551616)), aI (IntKind.wrap .i64 (g + Int.ofNat 7)), aI (IntKind.wrap .i64 (p + Int.ofNat 1)), aB true], h)))))))))))))) (by kernel_rfl)
theorem p98_3_2 (k0 : ltZ g b = true) (k1 : leZ (.ofNat n) p = false) (k2 : ixP (AV.arr 1 I 0 n) p 1 = some (AV.ptr n0 n1)) (k3 : ldP h (AV.ptr n0 n1) 1 false = some (AV.int IntKind.u8 i0)) (k4 : binF (Cx.P (cxZ m)) BinOp.shl 46 false (AV.int IntKind.u64 (.ofNat (BitVec.toNat (BitVec.ofInt (IntKind.bits IntKind.u8) i0 &&& BitVec.ofInt (IntKind.bits IntKind.u8) 127) % 256 % 18446744073709551616))) (aI g) = some (AV.int IntKind.u64 i1)) (k5 : ltZ i0 (.ofNat 128) = false) (k6 : bA m 98 3 [LV.v (AV.arr 1 I 0 n), vI (IntKind.wrap .i64 (p + Int.ofNat 1)), vI b, LV.v (AV.int IntKind.u64 (.ofNat (BitVec.toNat (BitVec.ofInt (IntKind.bits IntKind.u64) v ||| BitVec.ofInt (IntKind.bits IntKind.u64) i1) % 18446744073709551616))), vI (IntKind.wrap .i64 (g + Int.ofNat 7))] h = some r) :
  bA m 98 3 [.v (.arr 1 I 0 n), vI p, vI b, .v (.int .u64 v), vI g] h = some r :=
 bY (qS [1099998] [1099991, 1099981] [(9, 5, (LV.v (AV.int IntKind.u64 i1)))] [(7, 2, vP n0 n1, Heap.nil), (7, 3, LV.v (AV.int IntKind.u8 i0), Heap.nil)]) (tZ k0 (tZ k1 (tA t1 (tA tN (tA k2 (tA t1 (tA tN (tA t0 (tA k3 (tA k4 (tZ k5 (tA t1 (k6))))))))))))) (by kernel_rfl)
theorem p98_3_3 (k0 : ltZ g b = false) :
  bA m 98 3 [.v (.arr 1 I 0 n), vI p, vI b, .v (.int .u64 v), vI g] h = some ((LV.tup [AV.int IntKind.u64 (.ofNat 0), aI (.ofNat 0), aI (.ofNat 0), aB false], h)) :=
 bY (qS [] [1099998] [] []) (tZ k0 (tR ((LV.tup [AV.int IntKind.u64 (.ofNat 0), aI (.ofNat 0), aI (.ofNat 0), aB false], h)))) (by kernel_rfl)
end Go.Proofs.YthcjapmfchidhaaGreatDoor.H
namespace Go.Proofs.YthcjapmfchidhaaGreatDoor.H
set_option maxRecDepth 100000
open Go Go.Proofs.Am
variable {m p b i0 i1 i2 i3 i4 i5 i6 : Int} {I n n0 n1 : Nat} {h h0 h1 : Heap} {b0 b1 : Bool}
theorem p89_1 (k0 : cA m 97 [LV.v (AV.arr 1 I 0 n), vI p, vI b] h = some (vB b0, h1)) (k1 : (!b0) = false) (k2 : cA m 98 [LV.v (AV.arr 1 I 0 n), vI p, vI b] h1 = some (LV.tup [AV.int IntKind.u64 i0, aI i1, aI i2, aB b1], h0)) (k3 : (!b1) = true) :
  bB m 89 [.v (.arr 1 I 0 n), vI p, vI b] h = some ((LV.tup [AV.int IntKind.u64 (.ofNat 0), aI (.ofNat 0), AV.ifc 32 (aI (.ofNat 2))], h0)) :=
 bY (qS [30] [1099994] [] [(1, 3, vB b0, h1), (3, 3, LV.tup [AV.int IntKind.u64 i0, aI i1, aI i2, aB b1], h0)]) (tA k0 (tZ k1 (tA k2 (tZ k3 (uT5 (tR ((LV.tup [AV.int IntKind.u64 (.ofNat 0), aI (.ofNat 0), AV.ifc 32 (aI (.ofNat 2))], h0)))))))) (by kernel_rfl)
theorem p89_2 (k0 : cA m 97 [LV.v (AV.arr 1 I 0 n), vI p, vI b] h = some (vB b0, h1)) (k1 : (!b0) = false) (k2 : cA m 98 [LV.v (AV.arr 1 I 0 n), vI p, vI b] h1 = some (LV.tup [AV.int IntKind.u64 i4, aI i0, aI i1, aB b1], h0)) (k3 : (!b1) = false) (k4 : ltZ b i0 = true) (k5 : ixP (AV.arr 1 I 0 n) (IntKind.wrap .i64 (i1 - Int.ofNat 1)) 1 = some (AV.ptr n0 n1)) (k6 : ldP h0 (AV.ptr n0 n1) 1 false = some (AV.int IntKind.u8 i2)) (k7 : binF (Cx.P (cxZ m)) BinOp.shr 5 false (AV.int IntKind.u8 i2) (aI (IntKind.wrap .i64 (IntKind.wrap .i64 (b + Int.ofNat 7) - i0))) = some (AV.int IntKind.u8 i3)) (k8 : (!eqZ i3 (.ofNat 0)) = true) :
  bB m 89 [.v (.arr 1 I 0 n), vI p, vI b] h = some ((LV.tup [AV.int IntKind.u64 (.ofNat 0), aI (.ofNat 0), AV.ifc 32 (aI (.ofNat 2))], h0)) :=
 bY (qS [34, 1099987] [1099994, 30] [(4, 16, (LV.v (AV.int IntKind.u8 i3)))] [(1, 3, vB b0, h1), (3, 3, LV.tup [AV.int IntKind.u64 i4, aI i0, aI i1, aB b1], h0), (4, 10, vP n0 n1, Heap.nil), (4, 11, LV.v (AV.int IntKind.u8 i2), Heap.nil)]) (tA k0 (tZ k1 (tA k2 (tZ k3 (uF3 (tZ k4 (uT3 (tA t1 (tA tN (tA k5 (tA tT (tA t1 (tA tN (tA t0 (tA k6 (uT5 (tA k7 (tA tT (tA tF (tA tT (tA tF (tZ k8 (tR ((LV.tup [AV.int IntKind.u64 (.ofNat 0), aI (.ofNat 0), AV.ifc 32 (aI (.ofNat 2))], h0))))))))))))))))))))))))) (by kernel_rfl)
theorem p89_3 (k0 : cA m 97 [LV.v (AV.arr 1 I 0 n), vI p, vI b] h = some (vB b0, h1)) (k1 : (!b0) = false) (k2 : cA m 98 [LV.v (AV.arr 1 I 0 n), vI p, vI b] h1 = some (LV.tup [AV.int IntKind.u64 i1, aI i2, aI i0, aB b1], h0)) (k3 : (!b1) = false) (k4 : ltZ b i2 = true) (k5 : ixP (AV.arr 1 I 0 n) (IntKind.wrap .i64 (i0 - Int.ofNat 1)) 1 = some (AV.ptr n0 n1)) (k6 : ldP h0 (AV.ptr n0 n1) 1 false = some (AV.int IntKind.u8 i3)) (k7 : binF (Cx.P (cxZ m)) BinOp.shr 5 false (AV.int IntKind.u8 i3) (aI (IntKind.wrap .i64 (IntKind.wrap .i64 (b + Int.ofNat 7) - i2))) = some (AV.int IntKind.u8 i4)) (k8 : (!eqZ i4 (.ofNat 0)) = false) :
  bB m 89 [.v (.arr 1 I 0 n), vI p, vI b] h = some ((LV.tup [AV.int IntKind.u64 i1, aI i0, AV.nilI], h0)) :=
 bY (qS [34] [1099994, 30, 1099987] [(4, 16, (LV.v (AV.int IntKind.u8 i4)))] [(1, 3, vB b0, h1), (3, 3, LV.tup [AV.int IntKind.u64 i1, aI i2, aI i0, aB b1], h0), (4, 10, vP n0 n1, Heap.nil), (4, 11, LV.v (AV.int IntKind.u8 i3), Heap.nil)]) (tA k0 (tZ k1 (tA k2 (tZ k3 (uF3 (tZ k4 (uT3 (tA t1 (tA tN (tA k5 (tA tT (tA t1 (tA tN (tA t0 (tA k6 (uT5 (tA k7 (tA tT (tA tF (tA tT (tA tF (tZ k8 (tR ((LV.tup [AV.int IntKind.u64 i1, aI i0, AV.nilI], h0))))))))))))))))))))))))) (by kernel_rfl)
theorem p89_4 (k0 : cA m 97 [LV.v (AV.arr 1 I 0 n), vI p, vI b] h = some (vB b0, h1)) (k1 : (!b0) = false) (k2 : cA m 98 [LV.v (AV.arr 1 I 0 n), vI p, vI b] h1 = some (LV.tup [AV.int IntKind.u64 i0, aI i2, aI i1, aB b1], h0)) (k3 : (!b1) = false) (k4 : ltZ b i2 = false) :
  bB m 89 [.v (.arr 1 I 0 n), vI p, vI b] h = some ((LV.tup [AV.int IntKind.u64 i0, aI i1, AV.nilI], h0)) :=
 bY (qS [] [1099994, 30, 34] [] [(1, 3, vB b0, h1), (3, 3, LV.tup [AV.int IntKind.u64 i0, aI i2, aI i1, aB b1], h0)]) (tA k0 (tZ k1 (tA k2 (tZ k3 (uF3 (tZ k4 (uF9 (uF4 (tR ((LV.tup [AV.int IntKind.u64 i0, aI i1, AV.nilI], h0))))))))))) (by kernel_rfl)
theorem p90_1 (k0 : cA m 97 [LV.v (AV.arr 1 I 0 n), vI p, vI b] h = some (vB b0, h1)) (k1 : (!b0) = false) (k2 : cA m 98 [LV.v (AV.arr 1 I 0 n), vI p, vI b] h1 = some (LV.tup [AV.int IntKind.u64 i0, aI i1, aI i2, aB b1], h0)) (k3 : (!b1) = true) :
  bB m 90 [.v (.arr 1 I 0 n), vI p, vI b] h = some ((LV.tup [aI (.ofNat 0), aI (.ofNat 0), AV.ifc 32 (aI (.ofNat 2))], h0)) :=
 bY (qS [1099987] [1099994] [] [(1, 3, vB b0, h1), (3, 3, LV.tup [AV.int IntKind.u64 i0, aI i1, aI i2, aB b1], h0)]) (tA k0 (tZ k1 (tA k2 (tZ k3 (tR ((LV.tup [aI (.ofNat 0), aI (.ofNat 0), AV.ifc 32 (aI (.ofNat 2))], h0))))))) (by kernel_rfl)
theorem p90_2 (k0 : cA m 97 [LV.v (AV.arr 1 I 0 n), vI p, vI b] h = some (vB b0, h1)) (k1 : (!b0) = false) (k2 : cA m 98 [LV.v (AV.arr 1 I 0 n), vI p, vI b] h1 = some (LV.tup [AV.int IntKind.u64 i5, aI i0, aI i2, aB b1], h0)) (k3 : (!b1) = false) (k4 : ixP (AV.arr 1 I 0 n) (IntKind.wrap .i64 (i2 - Int.ofNat 1)) 1 = some (AV.ptr n0 n1)) (k5 : ldP h0 (AV.ptr n0 n1) 1 false = some (AV.int IntKind.u8 i3)) (k6 : ltZ b i0 = true) (k7 : binF (Cx.P (cxZ m)) BinOp.shr 5 false (AV.int IntKind.u8 i3) (aI (IntKind.wrap .i64 (IntKind.wrap .i64 (IntKind.wrap .i64 (b + Int.ofNat 7) - i0) - Int.ofNat 1))) = some (AV.int IntKind.u8 i1)) (k8 : (!eqZ i1 (.ofNat 0)) = true) (k9 : binF (Cx.P (cxZ m)) BinOp.shr 5 true (AV.int IntKind.u8 (.ofNat 127)) (aI (IntKind.wrap .i64 (IntKind.wrap .i64 (IntKind.wrap .i64 (b + Int.ofNat 7) - i0) - Int.ofNat 1))) = some (AV.int IntKind.u8 i4)) (k10 : (!eqZ i1 i4) = true) :
  bB m 90 [.v (.arr 1 I 0 n), vI p, vI b] h = some ((LV.tup [aI (.ofNat 0), aI (.ofNat 0), AV.ifc 32 (aI (.ofNat 2))], h0)) :=
 bY (qS [1099980, 52, 1099973] [1099994, 1099987] [(9, 3, (LV.v (AV.int IntKind.u8 i1))), (10, 6, (LV.v (AV.int IntKind.u8 i4)))] [(1, 3, vB b0, h1), (3, 3, LV.tup [AV.int IntKind.u64 i5, aI i0, aI i2, aB b1], h0), (6, 3, vP n0 n1, Heap.nil), (6, 4, LV.v (AV.int IntKind.u8 i3), Heap.nil)]) (tA k0 (tZ k1 (tA k2 (tZ k3 (tA t1 (tA tN (tA k4 (tA t1 (tA tN (tA t0 (tA k5 (tZ k6 (tA k7 (tZ k8 (uT3 (tA k9 (uT2 (tZ k10 (tR ((LV.tup [aI (.ofNat 0), aI (.ofNat 0), AV.ifc 32 (aI (.ofNat 2))], h0))))))))))))))))))))) (by kernel_rfl)
theorem p90_3 (k0 : cA m 97 [LV.v (AV.arr 1 I 0 n), vI p, vI b] h = some (vB b0, h1)) (k1 : (!b0) = false) (k2 : cA m 98 [LV.v (AV.arr 1 I 0 n), vI p, vI b] h1 = some (LV.tup [AV.int IntKind.u64 i2, aI i0, aI i1, aB b1], h0)) (k3 : (!b1) = false) (k4 : ixP (AV.arr 1 I 0 n) (IntKind.wrap .i64 (i1 - Int.ofNat 1)) 1 = some (AV.ptr n0 n1)) (k5 : ldP h0 (AV.ptr n0 n1) 1 false = some (AV.int IntKind.u8 i3)) (k6 : ltZ b i0 = true) (k7 : binF (Cx.P (cxZ m)) BinOp.shr 5 false (AV.int IntKind.u8 i3) (aI (IntKind.wrap .i64 (IntKind.wrap .i64 (IntKind.wrap .i64 (b + Int.ofNat 7) - i0) - Int.ofNat 1))) = some (AV.int IntKind.u8 i4)) (k8 : (!eqZ i4 (.ofNat 0)) = true) (k9 : binF (Cx.P (cxZ m)) BinOp.shr 5 true (AV.int IntKind.u8 (.ofNat 127)) (aI (IntKind.wrap .i64 (IntKind.wrap .i64 (IntKind.wrap .i64 (b + Int.ofNat 7) - i0) - Int.ofNat 1))) = some (AV.int IntKind.u8 i6)) (k10 : (!eqZ i4 i6) = false) (k11 : ltZ i0 (.ofNat 64) = true) (k12 : (!eqZ (.ofNat (BitVec.toNat (BitVec.ofInt (IntKind.bits IntKind.u8) i3 &&& BitVec.ofInt (IntKind.bits IntKind.u8) 64) % 256)) (.ofNat 0)) = true) (k13 : binF (Cx.P (cxZ m)) BinOp.shl 46 true (AV.int IntKind.u64 (.ofNat 18446744073709551615)) (aI i0) = some (AV.int IntKind.u64 i5)) :
  bB m 90 [.v (.arr 1 I 0 n), vI p, vI b] h = some ((LV.tup [aI (IntKind.wrap .i64 (.ofNat (BitVec.toNat (BitVec.ofInt (IntKind.bits IntKind.u64) i2 ||| BitVec.ofInt (IntKind.bits IntKind.u64) i5) % 18446744073709551616))), aI i1, AV.nilI], h0)) :=
 bY (qS [1099980, 52, 62, 1099968] [1099994, 1099987, 1099973] [(9, 3, (LV.v (AV.int IntKind.u8 i4))), (10, 6, (LV.v (AV.int IntKind.u8 i6))), (13, 2, (LV.v (AV.int IntKind.u64 i5)))] [(1, 3, vB b0, h1), (3, 3, LV.tup [AV.int IntKind.u64 i2, aI i0, aI i1, aB b1], h0), (6, 3, vP n0 n1, Heap.nil), (6, 4, LV.v (AV.int IntKind.u8 i3), Heap.nil)]) (tA k0 (tZ k1 (tA k2 (tZ k3 (tA t1 (tA tN (tA k4 (tA t1 (tA tN (tA t0 (tA k5 (tZ k6 (tA k7 (tZ k8 (uT3 (tA k9 (uT2 (tZ k10 (tZ k11 (uT3 (tZ k12 (tA k13 (tR ((LV.tup [aI (IntKind.wrap .i64 (.ofNat (BitVec.toNat (BitVec.ofInt (IntKind.bits IntKind.u64) i2 ||| BitVec.ofInt (IntKind.bits IntKind.u64) i5) % 18446744073709551616))), aI i1, AV.nilI], h0))))))))))))))))))))))))) (by kernel_rfl)
theorem p90_5 (k0 : cA m 97 [LV.v (AV.arr 1 I 0 n), vI p, vI b] h = some (vB b0, h1)) (k1 : (!b0) = false) (k2 : cA m 98 [LV.v (AV.arr 1 I 0 n), vI p, vI b] h1 = some (LV.tup [AV.int IntKind.u64 i2, aI i0, aI i1, aB b1], h0)) (k3 : (!b1) = false) (k4 : ixP (AV.arr 1 I 0 n) (IntKind.wrap .i64 (i1 - Int.ofNat 1)) 1 = some (AV.ptr n0 n1)) (k5 : ldP h0 (AV.ptr n0 n1) 1 false = some (AV.int IntKind.u8 i4)) (k6 : ltZ b i0 = true) (k7 : binF (Cx.P (cxZ m)) BinOp.shr 5 false (AV.int IntKind.u8 i4) (aI (IntKind.wrap .i64 (IntKind.wrap .i64 (IntKind.wrap .i64 (b + Int.ofNat 7) - i0) - Int.ofNat 1))) = some (AV.int IntKind.u8 i3)) (k8 : (!eqZ i3 (.ofNat 0)) = true) (k9 : binF (Cx.P (cxZ m)) BinOp.shr 5 true (AV.int IntKind.u8 (.ofNat 127)) (aI (IntKind.wrap .i64 (IntKind.wrap .i64 (IntKind.wrap .i64 (b + Int.ofNat 7) - i0) - Int.ofNat 1))) = some (AV.int IntKind.u8 i5)) (k10 : (!eqZ i3 i5) = false) (k11 : ltZ i0 (.ofNat 64) = false) :
  bB m 90 [.v (.arr 1 I 0 n), vI p, vI b] h = some ((LV.tup [aI (IntKind.wrap .i64 i2), aI i1, AV.nilI], h0)) :=
 bY (qS [1099980, 52] [1099994, 1099987, 1099973, 62] [(9, 3, (LV.v (AV.int IntKind.u8 i3))), (10, 6, (LV.v (AV.int IntKind.u8 i5)))] [(1, 3, vB b0, h1), (3, 3, LV.tup [AV.int IntKind.u64 i2, aI i0, aI i1, aB b1], h0), (6, 3, vP n0 n1, Heap.nil), (6, 4, LV.v (AV.int IntKind.u8 i4), Heap.nil)]) (tA k0 (tZ k1 (tA k2 (tZ k3 (tA t1 (tA tN (tA k4 (tA t1 (tA tN (tA t0 (tA k5 (tZ k6 (tA k7 (tZ k8 (uT3 (tA k9 (uT2 (tZ k10 (tZ k11 (uF3 (tR ((LV.tup [aI (IntKind.wrap .i64 i2), aI i1, AV.nilI], h0))))))))))))))))))))))) (by kernel_rfl)
theorem p90_7 (k0 : cA m 97 [LV.v (AV.arr 1 I 0 n), vI p, vI b] h = some (vB b0, h1)) (k1 : (!b0) = false) (k2 : cA m 98 [LV.v (AV.arr 1 I 0 n), vI p, vI b] h1 = some (LV.tup [AV.int IntKind.u64 i2, aI i0, aI i1, aB b1], h0)) (k3 : (!b1) = false) (k4 : ixP (AV.arr 1 I 0 n) (IntKind.wrap .i64 (i1 - Int.ofNat 1)) 1 = some (AV.ptr n0 n1)) (k5 : ldP h0 (AV.ptr n0 n1) 1 false = some (AV.int IntKind.u8 i3)) (k6 : ltZ b i0 = true) (k7 : binF (Cx.P (cxZ m)) BinOp.shr 5 false (AV.int IntKind.u8 i3) (aI (IntKind.wrap .i64 (IntKind.wrap .i64 (IntKind.wrap .i64 (b + Int.ofNat 7) - i0) - Int.ofNat 1))) = some (AV.int IntKind.u8 i4)) (k8 : (!eqZ i4 (.ofNat 0)) = false) (k9 : ltZ i0 (.ofNat 64) = true) (k10 : (!eqZ (.ofNat (BitVec.toNat (BitVec.ofInt (IntKind.bits IntKind.u8) i3 &&& BitVec.ofInt (IntKind.bits IntKind.u8) 64) % 256)) (.ofNat 0)) = false) :
  bB m 90 [.v (.arr 1 I 0 n), vI p, vI b] h = some ((LV.tup [aI (IntKind.wrap .i64 i2), aI i1, AV.nilI], h0)) :=
 bY (qS [1099980, 62] [1099994, 1099987, 52, 1099968] [(9, 3, (LV.v (AV.int IntKind.u8 i4)))] [(1, 3, vB b0, h1), (3, 3, LV.tup [AV.int IntKind.u64 i2, aI i0, aI i1, aB b1], h0), (6, 3, vP n0 n1, Heap.nil), (6, 4, LV.v (AV.int IntKind.u8 i3), Heap.nil)]) (tA k0 (tZ k1 (tA k2 (tZ k3 (tA t1 (tA tN (tA k4 (tA t1 (tA tN (tA t0 (tA k5 (tZ k6 (tA k7 (tZ k8 (uF5 (tZ k9 (uT3 (tZ k10 (tR ((LV.tup [aI (IntKind.wrap .i64 i2), aI i1, AV.nilI], h0))))))))))))))))))))) (by kernel_rfl)
theorem p90_8 (k0 : cA m 97 [LV.v (AV.arr 1 I 0 n), vI p, vI b] h = some (vB b0, h1)) (k1 : (!b0) = false) (k2 : cA m 98 [LV.v (AV.arr 1 I 0 n), vI p, vI b] h1 = some (LV.tup [AV.int IntKind.u64 i2, aI i0, aI i1, aB b1], h0)) (k3 : (!b1) = false) (k4 : ixP (AV.arr 1 I 0 n) (IntKind.wrap .i64 (i1 - Int.ofNat 1)) 1 = some (AV.ptr n0 n1)) (k5 : ldP h0 (AV.ptr n0 n1) 1 false = some (AV.int IntKind.u8 i3)) (k6 : ltZ b i0 = true) (k7 : binF (Cx.P (cxZ m)) BinOp.shr 5 false (AV.int IntKind.u8 i3) (aI (IntKind.wrap .i64 (IntKind.wrap .i64 (IntKind.wrap .i64 (b + Int.ofNat 7) - i0) - Int.ofNat 1))) = some (AV.int IntKind.u8 i4)) (k8 : (!eqZ i4 (.ofNat 0)) = false) (k9 : ltZ i0 (.ofNat 64) = false) :
  bB m 90 [.v (.arr 1 I 0 n), vI p, vI b] h = some ((LV.tup [aI (IntKind.wrap .i64 i2), aI i1, AV.nilI], h0)) :=
 bY (qS [1099980] [1099994, 1099987, 52, 62] [(9, 3, (LV.v (AV.int IntKind.u8 i4)))] [(1, 3, vB b0, h1), (3, 3, LV.tup [AV.int IntKind.u64 i2, aI i0, aI i1, aB b1], h0), (6, 3, vP n0 n1, Heap.nil), (6, 4, LV.v (AV.int IntKind.u8 i3), Heap.nil)]) (tA k0 (tZ k1 (tA k2 (tZ k3 (tA t1 (tA tN (tA k4 (tA t1 (tA tN (tA t0 (tA k5 (tZ k6 (tA k7 (tZ k8 (uF5 (tZ k9 (uF3 (tR ((LV.tup [aI (IntKind.wrap .i64 i2), aI i1, AV.nilI], h0)))))))))))))))))))) (by kernel_rfl)
theorem p90_9 (k0 : cA m 97 [LV.v (AV.arr 1 I 0 n), vI p, vI b] h = some (vB b0, h1)) (k1 : (!b0) = false) (k2 : cA m 98 [LV.v (AV.arr 1 I 0 n), vI p, vI b] h1 = some (LV.tup [AV.int IntKind.u64 i2, aI i0, aI i1, aB b1], h0)) (k3 : (!b1) = false) (k4 : ixP (AV.arr 1 I 0 n) (IntKind.wrap .i64 (i1 - Int.ofNat 1)) 1 = some (AV.ptr n0 n1)) (k5 : ldP h0 (AV.ptr n0 n1) 1 false = some (AV.int IntKind.u8 i4)) (k6 : ltZ b i0 = false) (k7 : ltZ i0 (.ofNat 64) = true) (k8 : (!eqZ (.ofNat (BitVec.toNat (BitVec.ofInt (IntKind.bits IntKind.u8) i4 &&& BitVec.ofInt (IntKind.bits IntKind.u8) 64) % 256)) (.ofNat 0)) = true) (k9 : binF (Cx.P (cxZ m)) BinOp.shl 46 true (AV.int IntKind.u64 (.ofNat 18446744073709551615)) (aI i0) = some (AV.int IntKind.u64 i3)) :
  bB m 90 [.v (.arr 1 I 0 n), vI p, vI b] h = some ((LV.tup [aI (IntKind.wrap .i64 (.ofNat (BitVec.toNat (BitVec.ofInt (IntKind.bits IntKind.u64) i2 ||| BitVec.ofInt (IntKind.bits IntKind.u64) i3) % 18446744073709551616))), aI i1, AV.nilI], h0)) :=
 bY (qS [62, 1099975] [1099994, 1099987, 1099980] [(13, 2, (LV.v (AV.int IntKind.u64 i3)))] [(1, 3, vB b0, h1), (3, 3, LV.tup [AV.int IntKind.u64 i2, aI i0, aI i1, aB b1], h0), (6, 3, vP n0 n1, Heap.nil), (6, 4, LV.v (AV.int IntKind.u8 i4), Heap.nil)]) (tA k0 (tZ k1 (tA k2 (tZ k3 (tA t1 (tA tN (tA k4 (tA t1 (tA tN (tA t0 (tA k5 (tZ k6 (tZ k7 (uT3 (tZ k8 (tA k9 (tR ((LV.tup [aI (IntKind.wrap .i64 (.ofNat (BitVec.toNat (BitVec.ofInt (IntKind.bits IntKind.u64) i2 ||| BitVec.ofInt (IntKind.bits IntKind.u64) i3) % 18446744073709551616))), aI i1, AV.nilI], h0))))))))))))))))))) (by kernel_rfl)
theorem p90_10 (k0 : cA m 97 [LV.v (AV.arr 1 I 0 n), vI p, vI b] h = some (vB b0, h1)) (k1 : (!b0) = false) (k2 : cA m 98 [LV.v (AV.arr 1 I 0 n), vI p, vI b] h1 = some (LV.tup [AV.int IntKind.u64 i1, aI i2, aI i0, aB b1], h0)) (k3 : (!b1) = false) (k4 : ixP (AV.arr 1 I 0 n) (IntKind.wrap .i64 (i0 - Int.ofNat 1)) 1 = some (AV.ptr n0 n1)) (k5 : ldP h0 (AV.ptr n0 n1) 1 false = some (AV.int IntKind.u8 i3)) (k6 : ltZ b i2 = false) (k7 : ltZ i2 (.ofNat 64) = true) (k8 : (!eqZ (.ofNat (BitVec.toNat (BitVec.ofInt (IntKind.bits IntKind.u8) i3 &&& BitVec.ofInt (IntKind.bits IntKind.u8) 64) % 256)) (.ofNat 0)) = false) :
  bB m 90 [.v (.arr 1 I 0 n), vI p, vI b] h = some ((LV.tup [aI (IntKind.wrap .i64 i1), aI i0, AV.nilI], h0)) :=
 bY (qS [62] [1099994, 1099987, 1099980, 1099975] [] [(1, 3, vB b0, h1), (3, 3, LV.tup [AV.int IntKind.u64 i1, aI i2, aI i0, aB b1], h0), (6, 3, vP n0 n1, Heap.nil), (6, 4, LV.v (AV.int IntKind.u8 i3), Heap.nil)]) (tA k0 (tZ k1 (tA k2 (tZ k3 (tA t1 (tA tN (tA k4 (tA t1 (tA tN (tA t0 (tA k5 (tZ k6 (tZ k7 (uT3 (tZ k8 (tR ((LV.tup [aI (IntKind.wrap .i64 i1), aI i0, AV.nilI], h0)))))))))))))))))) (by kernel_rfl)
end Go.Proofs.YthcjapmfchidhaaGreatDoor.H
namespace Go.Proofs.YthcjapmfchidhaaGreatDoor.H
set_option maxRecDepth 100000
open Go Go.Proofs.Am
variable {m t i0 i1 i2 i3 i4 : Int} {L n0 n1 : Nat} {h h0 h1 : Heap} {v0 v1 v2 : AV} {b0 b1 : Bool}
theorem p40_0 (k0 : ldP h (AV.ptr L 3) 1 false = some v0) (k1 : nE m v0 b0) (k2 : b0 = true) :
  bB m 40 [vP L 0] h = some ((vI (.ofNat 0), h)) :=
 bY (qS [1099994] [] [(1, 4, (vB b0))] [(1, 3, LV.v v0, Heap.nil)]) (tA t1 (tA tN (tA t0 (tA k0 (tA k1 (tZ k2 (tR ((vI (.ofNat 0), h))))))))) (by kernel_rfl)
theorem p40_1 (k0 : ldP h (AV.ptr L 3) 1 false = some v0) (k1 : nE m v0 b0) (k2 : b0 = false) (k3 : ldP h (AV.ptr L 1) 1 false = some (aI i0)) (k4 : ldP h (AV.ptr L 0) 1 false = some v1) (k5 : lnS v1 = some i1) (k6 : leZ i1 i0 = true) (k7 : ldP h (AV.ptr L 0) 1 false = some v2) (k8 : lnS v2 = some i2) (k9 : cA m 24 [vP L 0, vI i2, vF 32 (aI (.ofNat 2))] h = some (LV.tup [], h0)) :
  bB m 40 [vP L 0] h = some ((vI (.ofNat 0), h0)) :=
 bY (qS [1099989] [1099994] [(1, 4, (vB b0)), (3, 8, (vI i1)), (4, 5, (vI i2))] [(1, 3, LV.v v0, Heap.nil), (3, 3, vI i0, Heap.nil), (3, 7, LV.v v1, Heap.nil), (4, 4, LV.v v2, Heap.nil), (4, 7, LV.tup [], h0)]) (tA t1 (tA tN (tA t0 (tA k0 (tA k1 (tZ k2 (tA t1 (tA tN (tA t0 (tA k3 (tA t1 (tA tN (tA t0 (tA k4 (tA k5 (tZ k6 (tA t1 (tA tN (tA t0 (tA k7 (tA k8 (tA k9 (tR ((vI (.ofNat 0), h0))))))))))))))))))))))))) (by kernel_rfl)
theorem p40_2 (k0 : ldP h (AV.ptr L 3) 1 false = some v0) (k1 : nE m v0 b0) (k2 : b0 = false) (k3 : ldP h (AV.ptr L 1) 1 false = some (aI i1)) (k4 : ldP h (AV.ptr L 0) 1 false = some v1) (k5 : lnS v1 = some i2) (k6 : leZ i2 i1 = false) (k7 : ldP h (AV.ptr L 1) 1 false = some (aI i3)) (k8 : stP h (AV.ptr L 1) [vI (IntKind.wrap .i64 (i3 + Int.ofNat 1))] = some h0) (k9 : ldP h0 (AV.ptr L 0) 1 false = some v2) (k10 : ldP h0 (AV.ptr L 1) 1 false = some (aI i4)) (k11 : ixP v2 (IntKind.wrap .i64 (i4 - Int.ofNat 1)) 1 = some (AV.ptr n0 n1)) (k12 : ldP h0 (AV.ptr n0 n1) 1 false = some (AV.int IntKind.u8 i0)) :
  bB m 40 [vP L 0] h = some ((vI (IntKind.wrap .i64 i0), h0)) :=
 bY (qS [] [1099994, 1099989] [(1, 4, (vB b0)), (3, 8, (vI i2))] [(1, 3, LV.v v0, Heap.nil), (3, 3, vI i1, Heap.nil), (3, 7, LV.v v1, Heap.nil), (6, 3, vI i3, Heap.nil), (6, 7, LV.ud, h0), (7, 3, LV.v v2, Heap.nil), (7, 7, vI i4, Heap.nil), (7, 9, vP n0 n1, Heap.nil), (7, 10, LV.v (AV.int IntKind.u8 i0), Heap.nil)]) (tA t1 (tA tN (tA t0 (tA k0 (tA k1 (tZ k2 (tA t1 (tA tN (tA t0 (tA k3 (tA t1 (tA tN (tA t0 (tA k4 (tA k5 (tZ k6 (tA t1 (tA tN (tA t0 (tA k7 (tA t1 (tA t0 (tA tU (tA t1 (tA k8 (tA t1 (tA tN (tA t0 (tA k9 (tA t1 (tA tN (tA t0 (tA k10 (tA t1 (tA tN (tA k11 (tA t1 (tA tN (tA t0 (tA k12 (tR ((vI (IntKind.wrap .i64 i0), h0))))))))))))))))))))))))))))))))))))))))))) (by kernel_rfl)
theorem p68_0 (k0 : ldP h (AV.ptr L 3) 1 false = some v0) (k1 : nE m v0 b0) (k2 : b0 = true) :
  bB m 68 [vP L 0] h = some ((vI (.ofNat 0), h)) :=
 bY (qS [1099994] [] [(1, 4, (vB b0))] [(1, 3, LV.v v0, Heap.nil)]) (tA t1 (tA tN (tA t0 (tA k0 (tA k1 (tZ k2 (tR ((vI (.ofNat 0), h))))))))) (by kernel_rfl)
theorem p68_1 (k0 : ldP h (AV.ptr L 3) 1 false = some v0) (k1 : nE m v0 b0) (k2 : b0 = false) (k3 : ldP h (AV.ptr L 0) 1 false = some v1) (k4 : ldP h (AV.ptr L 1) 1 false = some (aI i0)) (k5 : cA m 89 [LV.v v1, vI i0, vI (.ofNat 32)] h = some (LV.tup [AV.int IntKind.u64 i2, aI i3, v2], h0)) (k6 : nE m v2 b1) (k7 : b1 = true) (k8 : ldP h0 (AV.ptr L 1) 1 false = some (aI i1)) (k9 : cA m 24 [vP L 0, vI i1, vF 32 (aI (.ofNat 2))] h0 = some (LV.tup [], h1)) :
  bB m 68 [vP L 0] h = some ((vI (.ofNat 0), h1)) :=
 bY (qS [1099987] [1099994] [(1, 4, (vB b0)), (4, 1, (vB b1))] [(1, 3, LV.v v0, Heap.nil), (3, 3, LV.v v1, Heap.nil), (3, 7, vI i0, Heap.nil), (3, 8, LV.tup [AV.int IntKind.u64 i2, aI i3, v2], h0), (5, 4, vI i1, Heap.nil), (5, 6, LV.tup [], h1)]) (tA t1 (tA tN (tA t0 (tA k0 (tA k1 (tZ k2 (tA t1 (tA tN (tA t0 (tA k3 (tA t1 (tA tN (tA t0 (tA k4 (tA k5 (tA k6 (tZ k7 (tA t1 (tA tN (tA t0 (tA k8 (tA k9 (tR ((vI (.ofNat 0), h1))))))))))))))))))))))))) (by kernel_rfl)
theorem p68_2 (k0 : ldP h (AV.ptr L 3) 1 false = some v0) (k1 : nE m v0 b0) (k2 : b0 = false) (k3 : ldP h (AV.ptr L 0) 1 false = some v1) (k4 : ldP h (AV.ptr L 1) 1 false = some (aI i1)) (k5 : cA m 89 [LV.v v1, vI i1, vI (.ofNat 32)] h = some (LV.tup [AV.int IntKind.u64 i0, aI i2, v2], h1)) (k6 : nE m v2 b1) (k7 : b1 = false) (k8 : stP h1 (AV.ptr L 1) [vI i2] = some h0) :
  bB m 68 [vP L 0] h = some ((vI (IntKind.wrap .i64 i0), h0)) :=
 bY (qS [] [1099994, 1099987] [(1, 4, (vB b0)), (4, 1, (vB b1))] [(1, 3, LV.v v0, Heap.nil), (3, 3, LV.v v1, Heap.nil), (3, 7, vI i1, Heap.nil), (3, 8, LV.tup [AV.int IntKind.u64 i0, aI i2, v2], h1), (7, 4, LV.ud, h0)]) (tA t1 (tA tN (tA t0 (tA k0 (tA k1 (tZ k2 (tA t1 (tA tN (tA t0 (tA k3 (tA t1 (tA tN (tA t0 (tA k4 (tA k5 (tA k6 (tZ k7 (tA t1 (tA t0 (tA tU (tA t1 (tA k8 (tR ((vI (IntKind.wrap .i64 i0), h0))))))))))))))))))))))))) (by kernel_rfl)
theorem p70_1 (k0 : eqZ t (.ofNat 1) = true) (k1 : ldP h (AV.ptr L 3) 1 false = some v0) (k2 : nE m v0 b0) (k3 : b0 = false) (k4 : ldP h (AV.ptr L 0) 1 false = some v1) (k5 : ldP h (AV.ptr L 1) 1 false = some (aI i0)) (k6 : cA m 90 [LV.v v1, vI i0, vI (.ofNat 32)] h = some (LV.tup [aI i2, aI i3, v2], h0)) (k7 : nE m v2 b1) (k8 : b1 = true) (k9 : ldP h0 (AV.ptr L 1) 1 false = some (aI i1)) (k10 : cA m 24 [vP L 0, vI i1, vF 32 (aI (.ofNat 2))] h0 = some (LV.tup [], h1)) :
  bB m 70 [vP L 0, vI t] h = some ((LV.v (AV.int IntKind.u64 (.ofNat 0)), h1)) :=
 bY (qS [1099992, 1099980] [1099987] [(4, 4, (vB b0)), (7, 1, (vB b1))] [(4, 3, LV.v v0, Heap.nil), (6, 3, LV.v v1, Heap.nil), (6, 7, vI i0, Heap.nil), (6, 9, LV.tup [aI i2, aI i3, v2], h0), (8, 4, vI i1, Heap.nil), (8, 6, LV.tup [], h1)]) (tZ k0 (tA t1 (tA tN (tA t0 (tA k1 (tA k2 (tZ k3 (tA t1 (tA tN (tA t0 (tA k4 (tA t1 (tA tN (tA t0 (tA k5 (tA k6 (tA k7 (tZ k8 (tA t1 (tA tN (tA t0 (tA k9 (tA k10 (tR ((LV.v (AV.int IntKind.u64 (.ofNat 0)), h1)))))))))))))))))))))))))) (by kernel_rfl)
theorem p70_2 (k0 : eqZ t (.ofNat 1) = true) (k1 : ldP h (AV.ptr L 3) 1 false = some v0) (k2 : nE m v0 b0) (k3 : b0 = false) (k4 : ldP h (AV.ptr L 0) 1 false = some v1) (k5 : ldP h (AV.ptr L 1) 1 false = some (aI i1)) (k6 : cA m 90 [LV.v v1, vI i1, vI (.ofNat 32)] h = some (LV.tup [aI i0, aI i2, v2], h1)) (k7 : nE m v2 b1) (k8 : b1 = false) (k9 : stP h1 (AV.ptr L 1) [vI i2] = some h0) :
  bB m 70 [vP L 0, vI t] h = some ((LV.v (AV.int IntKind.u64 (IntKind.wrap IntKind.u64 (IntKind.wrap IntKind.u32 i0))), h0)) :=
 bY (qS [1099992] [1099987, 1099980] [(4, 4, (vB b0)), (7, 1, (vB b1))] [(4, 3, LV.v v0, Heap.nil), (6, 3, LV.v v1, Heap.nil), (6, 7, vI i1, Heap.nil), (6, 9, LV.tup [aI i0, aI i2, v2], h1), (10, 4, LV.ud, h0)]) (tZ k0 (tA t1 (tA tN (tA t0 (tA k1 (tA k2 (tZ k3 (tA t1 (tA tN (tA t0 (tA k4 (tA t1 (tA tN (tA t0 (tA k5 (tA k6 (tA k7 (tZ k8 (tA t1 (tA t0 (tA tU (tA t1 (tA k9 (tR ((LV.v (AV.int IntKind.u64 (IntKind.wrap IntKind.u64 (IntKind.wrap IntKind.u32 i0))), h0)))))))))))))))))))))))))) (by kernel_rfl)
theorem p70_4 (k0 : eqZ t (.ofNat 1) = false) (k1 : ldP h (AV.ptr L 3) 1 false = some v0) (k2 : nE m v0 b0) (k3 : b0 = false) (k4 : ldP h (AV.ptr L 0) 1 false = some v1) (k5 : ldP h (AV.ptr L 1) 1 false = some (aI i0)) (k6 : cA m 90 [LV.v v1, vI i0, vI (.ofNat 64)] h = some (LV.tup [aI i2, aI i3, v2], h0)) (k7 : nE m v2 b1) (k8 : b1 = true) (k9 : ldP h0 (AV.ptr L 1) 1 false = some (aI i1)) (k10 : cA m 24 [vP L 0, vI i1, vF 32 (aI (.ofNat 2))] h0 = some (LV.tup [], h1)) :
  bB m 70 [vP L 0, vI t] h = some ((LV.v (AV.int IntKind.u64 (.ofNat 0)), h1)) :=
 bY (qS [1099980] [1099992, 1099987] [(4, 4, (vB b0)), (7, 1, (vB b1))] [(4, 3, LV.v v0, Heap.nil), (6, 3, LV.v v1, Heap.nil), (6, 7, vI i0, Heap.nil), (6, 9, LV.tup [aI i2, aI i3, v2], h0), (8, 4, vI i1, Heap.nil), (8, 6, LV.tup [], h1)]) (tZ k0 (tA t1 (tA tN (tA t0 (tA k1 (tA k2 (tZ k3 (tA t1 (tA tN (tA t0 (tA k4 (tA t1 (tA tN (tA t0 (tA k5 (tA k6 (tA k7 (tZ k8 (tA t1 (tA tN (tA t0 (tA k9 (tA k10 (tR ((LV.v (AV.int IntKind.u64 (.ofNat 0)), h1)))))))))))))))))))))))))) (by kernel_rfl)
theorem p70_5 (k0 : eqZ t (.ofNat 1) = false) (k1 : ldP h (AV.ptr L 3) 1 false = some v0) (k2 : nE m v0 b0) (k3 : b0 = false) (k4 : ldP h (AV.ptr L 0) 1 false = some v1) (k5 : ldP h (AV.ptr L 1) 1 false = some (aI i1)) (k6 : cA m 90 [LV.v v1, vI i1, vI (.ofNat 64)] h = some (LV.tup [aI i0, aI i2, v2], h1)) (k7 : nE m v2 b1) (k8 : b1 = false) (k9 : stP h1 (AV.ptr L 1) [vI i2] = some h0) :
  bB m 70 [vP L 0, vI t] h = some ((LV.v (AV.int IntKind.u64 (IntKind.wrap IntKind.u64 i0)), h0)) :=
 bY (qS [] [1099992, 1099987, 1099980] [(4, 4, (vB b0)), (7, 1, (vB b1))] [(4, 3, LV.v v0, Heap.nil), (6, 3, LV.v v1, Heap.nil), (6, 7, vI i1, Heap.nil), (6, 9, LV.tup [aI i0, aI i2, v2], h1), (10, 4, LV.ud, h0)]) (tZ k0 (tA t1 (tA tN (tA t0 (tA k1 (tA k2 (tZ k3 (tA t1 (tA tN (tA t0 (tA k4 (tA t1 (tA tN (tA t0 (tA k5 (tA k6 (tA k7 (tZ k8 (tA t1 (tA t0 (tA tU (tA t1 (tA k9 (tR ((LV.v (AV.int IntKind.u64 (IntKind.wrap IntKind.u64 i0)), h0)))))))))))))))))))))))))) (by kernel_rfl)
end Go.Proofs.YthcjapmfchidhaaGreatDoor.H
namespace Go.Proofs.YthcjapmfchidhaaGreatDoor.H
set_option maxRecDepth 100000
open Go Go.Proofs.Am
variable {m p i0 i1 i2 : Int} {I n : Nat} {h h0 h1 : Heap} {v0 v1 : AV} {b0 : Bool} {l0 : LL}
theorem p12_2 (k0 : ltZ p (.ofNat 0) = false) (k1 : ltZ (.ofNat n) p = false) (k2 : cA m 23 [vP (List.length (Heap.bx h)) 0, vI (.ofNat 0)] { bx := Heap.bx h ++ [[LV.v (AV.arr 1 I 0 n), vI p, vI (.ofNat 0), LV.v AV.nilI]], mp := Heap.mp h } = some (LV.tup [aM l0, aI i0], h1)) (k3 : eqZ i0 (.ofNat 5) = true) (k4 : ldP h1 (AV.ptr (List.length (Heap.bx h)) 1) 1 false = some (aI i1)) (k5 : cA m 24 [vP (List.length (Heap.bx h)) 0, vI (IntKind.wrap .i64 (i1 - Int.ofNat 1)), vF 32 (aI (.ofNat 2))] h1 = some (LV.tup [], h0)) (k6 : ldP h0 (AV.ptr (List.length (Heap.bx h)) 3) 1 false = some v1) (k7 : nE m v1 b0) (k8 : b0 = true) (k9 : ldP h0 (AV.ptr (List.length (Heap.bx h)) 3) 1 false = some v0) :
  bB m 12 [.v (.arr 1 I 0 n), vI p] h = some ((LV.tup [aM [], aI (.ofNat 0), v0], h0)) :=
 bY (qS [1099985, 1099980] [12, 1099994] [(7, 4, (vB b0))] [(4, 1, LV.tup [aM l0, aI i0], h1), (6, 4, vI i1, Heap.nil), (6, 7, LV.tup [], h0), (7, 3, LV.v v1, Heap.nil), (8, 3, LV.v v0, Heap.nil)]) (tZ k0 (uF4 (tZ k1 (tA k2 (tZ k3 (tA t1 (tA tN (tA t0 (tA k4 (tA k5 (tA t1 (tA tN (tA t0 (tA k6 (tA k7 (tZ k8 (tA t1 (tA tN (tA t0 (tA k9 (tR ((LV.tup [aM [], aI (.ofNat 0), v0], h0))))))))))))))))))))))) (by kernel_rfl)
theorem p12_4 (k0 : ltZ p (.ofNat 0) = false) (k1 : ltZ (.ofNat n) p = false) (k2 : cA m 23 [vP (List.length (Heap.bx h)) 0, vI (.ofNat 0)] { bx := Heap.bx h ++ [[LV.v (AV.arr 1 I 0 n), vI p, vI (.ofNat 0), LV.v AV.nilI]], mp := Heap.mp h } = some (LV.tup [aM l0, aI i0], h0)) (k3 : eqZ i0 (.ofNat 5) = false) (k4 : ldP h0 (AV.ptr (List.length (Heap.bx h)) 3) 1 false = some v1) (k5 : nE m v1 b0) (k6 : b0 = true) (k7 : ldP h0 (AV.ptr (List.length (Heap.bx h)) 3) 1 false = some v0) :
  bB m 12 [.v (.arr 1 I 0 n), vI p] h = some ((LV.tup [aM [], aI (.ofNat 0), v0], h0)) :=
 bY (qS [1099980] [12, 1099994, 1099985] [(7, 4, (vB b0))] [(4, 1, LV.tup [aM l0, aI i0], h0), (7, 3, LV.v v1, Heap.nil), (8, 3, LV.v v0, Heap.nil)]) (tZ k0 (uF4 (tZ k1 (tA k2 (tZ k3 (tA t1 (tA tN (tA t0 (tA k4 (tA k5 (tZ k6 (tA t1 (tA tN (tA t0 (tA k7 (tR ((LV.tup [aM [], aI (.ofNat 0), v0], h0)))))))))))))))))) (by kernel_rfl)
theorem p12_5 (k0 : ltZ p (.ofNat 0) = false) (k1 : ltZ (.ofNat n) p = false) (k2 : cA m 23 [vP (List.length (Heap.bx h)) 0, vI (.ofNat 0)] { bx := Heap.bx h ++ [[LV.v (AV.arr 1 I 0 n), vI p, vI (.ofNat 0), LV.v AV.nilI]], mp := Heap.mp h } = some (LV.tup [aM l0, aI i1], h0)) (k3 : eqZ i1 (.ofNat 5) = false) (k4 : ldP h0 (AV.ptr (List.length (Heap.bx h)) 3) 1 false = some v0) (k5 : nE m v0 b0) (k6 : b0 = false) (k7 : ldP h0 (AV.ptr (List.length (Heap.bx h)) 1) 1 false = some (aI i0)) :
  bB m 12 [.v (.arr 1 I 0 n), vI p] h = some ((LV.tup [aM l0, aI i0, AV.nilI], h0)) :=
 bY (qS [] [12, 1099994, 1099985, 1099980] [(7, 4, (vB b0))] [(4, 1, LV.tup [aM l0, aI i1], h0), (7, 3, LV.v v0, Heap.nil), (9, 4, vI i0, Heap.nil)]) (tZ k0 (uF4 (tZ k1 (tA k2 (tZ k3 (tA t1 (tA tN (tA t0 (tA k4 (tA k5 (tZ k6 (tA t1 (tA tN (tA t0 (tA k7 (tR ((LV.tup [aM l0, aI i0, AV.nilI], h0)))))))))))))))))) (by kernel_rfl)
end Go.Proofs.YthcjapmfchidhaaGreatDoor.H
namespace Go.Proofs.YthcjapmfchidhaaGreatDoor.H
set_option maxRecDepth 100000
open Go Go.Proofs.Am
variable {m p i0 i1 i2 : Int} {h h0 h1 : Heap} {v0 v1 : AV} {b0 : Bool} {l0 : LL}
theorem p12e_4 (k0 : ltZ p (.ofNat 0) = false) (k1 : ltZ (.ofNat 0) p = false) (k2 : cA m 23 [vP (List.length (Heap.bx h)) 0, vI (.ofNat 0)] { bx := Heap.bx h ++ [[LV.v AV.nilE, vI p, vI (.ofNat 0), LV.v AV.nilI]], mp := Heap.mp h } = some (LV.tup [aM l0, aI i0], h0)) (k3 : eqZ i0 (.ofNat 5) = false) (k4 : ldP h0 (AV.ptr (List.length (Heap.bx h)) 3) 1 false = some v1) (k5 : nE m v1 b0) (k6 : b0 = true) (k7 : ldP h0 (AV.ptr (List.length (Heap.bx h)) 3) 1 false = some v0) :
  bB m 12 [.v .nilE, vI p] h = some ((LV.tup [aM [], aI (.ofNat 0), v0], h0)) :=
 bY (qS [1099980] [12, 1099994, 1099985] [(7, 4, (vB b0))] [(4, 1, LV.tup [aM l0, aI i0], h0), (7, 3, LV.v v1, Heap.nil), (8, 3, LV.v v0, Heap.nil)]) (tZ k0 (uF4 (tZ k1 (tA k2 (tZ k3 (tA t1 (tA tN (tA t0 (tA k4 (tA k5 (tZ k6 (tA t1 (tA tN (tA t0 (tA k7 (tR ((LV.tup [aM [], aI (.ofNat 0), v0], h0)))))))))))))))))) (by kernel_rfl)
end Go.Proofs.YthcjapmfchidhaaGreatDoor.H
