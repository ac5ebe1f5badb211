/-
  Ways through texts, one by one (printed by a program of this repo).
-/
import Derived.Test.YthcjapmfchidhaaGreatDoorAmS6f
import Derived.Test.YthcjapmfchidhaaGreatDoorAmS6iu
import Derived.Test.YthcjapmfchidhaaGreatDoorAmSym
import Derived.Test.YthcjapmfchidhaaGreatDoorAmGrown
import Derived.KernelRfl
namespace Go.Proofs.YthcjapmfchidhaaGreatDoor
open Go Go.Proofs.Am
noncomputable def extZ (f : Nat) : Option (List LV → Option LV) := bif Nat.beq f 61 then some rowsE else bif Nat.beq f 41 then some lookE else bif Nat.beq f 44 then some floatE else bif Nat.beq f 30 then some isE else none
def cutX (f id : Nat) : Option Keep :=
 bif Nat.beq f 21 && Nat.beq id 5 then some ⟨[1, 3, 4, 5, 6], [(0, 9)], 1⟩ else bif Nat.beq f 21 && Nat.beq id 7 then some ⟨[1], [(0, 9)], 1⟩
 else bif Nat.beq f 34 && Nat.beq id 5 then some ⟨[0, 3, 5], [(0, 9), (1, 7)], 2⟩ else cutF f id
def exrZ (f : Nat) : Option (List LV → Heap → Option LV) := bif Nat.beq f 18 then some isS else none
noncomputable def cxZ (m : Int) : Cx := { cxS m with cut := cutX, ext := extZ, exr := exrZ, raw := rawF }
theorem fn_of {f : FuncId} {fn : Func} (h : Tryz.prog.funcs[f]? = some fn) (hb : fn.body.isSome = true) : ∃ fn c, Tryz.prog.funcs[f]? = some fn ∧ fn.body = some c := by
 obtain ⟨c, hc, _⟩ := body_of h hb
 exact ⟨fn, c, h, hc⟩
theorem cxZ_ok (m : Int) : CxOk (cxZ m) where
 names := names_ok
 ext := fun f e h => by
  have h : extZ f = some e := h
  unfold extZ at h
  cases hb : Nat.beq f 61 with
  | true =>
   rw [hb] at h
   cases h
   have := Nat.eq_of_beq_eq_true hb
   subst this
   exact rows_ok (m := m) rfl rfl
  | false =>
  rw [hb, cond_false] at h
  cases hb : Nat.beq f 41 with
  | true =>
   rw [hb] at h
   cases h
   have := Nat.eq_of_beq_eq_true hb
   subst this
   exact look_ok (m := m) rfl rfl
  | false =>
  rw [hb, cond_false] at h
  cases hb : Nat.beq f 44 with
  | true =>
   rw [hb] at h
   cases h
   have := Nat.eq_of_beq_eq_true hb
   subst this
   exact float_ok (m := m) rfl rfl
  | false =>
  rw [hb, cond_false] at h
  cases hb : Nat.beq f 30 with
  | false => rw [hb] at h; cases h
  | true =>
   rw [hb] at h
   cases h
   have := Nat.eq_of_beq_eq_true hb
   subst this
   exact ⟨is30 rfl, fn_of Tryz.func30 (by kernel_rfl)⟩
 mixed := by kernel_rfl
 globs := globs_ok m
 exr := fun f e h => by
  have h : exrZ f = some e := h
  unfold exrZ at h
  cases hb : Nat.beq f 18 with
  | false => rw [hb] at h; cases h
  | true =>
   rw [hb] at h
   cases h
   have := Nat.eq_of_beq_eq_true hb
   subst this
   exact ⟨is18r rfl rfl, fn_of Tryz.func18 (by kernel_rfl)⟩
end Go.Proofs.YthcjapmfchidhaaGreatDoor
namespace Go.Proofs.YthcjapmfchidhaaGreatDoor
open Go Go.Proofs.Am
abbrev LL := List (List AV)
abbrev aI : Int → AV := AV.int .i64
abbrev aM : LL → AV := AV.imm
abbrev aB : Bool → AV := AV.bool
abbrev aS : ByteArray → AV := AV.str
abbrev vI (x : Int) : LV := .v (.int .i64 x)
abbrev vM (x : LL) : LV := .v (.imm x)
abbrev vB (x : Bool) : LV := .v (.bool x)
abbrev vG (x : List AV) : LV := .v (.agg x)
abbrev vP (i o : Nat) : LV := .v (.ptr i o)
abbrev vF (t : TypeId) (a : AV) : LV := .v (.ifc t a)
abbrev vS (s : ByteArray) : LV := .v (.str s)
abbrev nC (o a b v t : Int) (l bd el : LL) (q : Bool) : List AV := [.int .i64 o, .int .i64 a, .int .i64 b, .int .u64 v, .int .i64 t, .imm l, .imm bd, .imm el, .bool q]
abbrev mV (ty im fu ta me gl ex : LL) (st : Int) (el da cu : LL) : LV := .v (.agg [.imm ty, .imm im, .imm fu, .imm ta, .imm me, .imm gl, .imm ex, .int .i64 st, .imm el, .imm da, .imm cu])
abbrev mL (ty im fu ta me gl ex : LL) (st : Int) (el da cu : LL) : List LV := [.v (.imm ty), .v (.imm im), .v (.imm fu), .v (.imm ta), .v (.imm me), .v (.imm gl), .v (.imm ex), .v (.int .i64 st), .v (.imm el), .v (.imm da), .v (.imm cu)]
noncomputable abbrev cA (m : Int) := callF (cxZ m) (blk (cxZ m))
noncomputable abbrev cV (m : Int) := callV (cxZ m) (blk (cxZ m))
noncomputable abbrev bA (m : Int) (f r : Nat) := blk (cxZ m) f (at_ Tryz.prog f r)
noncomputable abbrev bB (m : Int) (f : Nat) := blk (cxZ m) f (body_ Tryz.prog f)
abbrev nE (m : Int) (x : AV) (b : Bool) : Prop := binF (Cx.P (cxZ m)) BinOp.neq 28 true x .nilI = some (.bool b)
abbrev qE (m : Int) (x : AV) (b : Bool) : Prop := binF (Cx.P (cxZ m)) BinOp.eql 28 true x .nilI = some (.bool b)
def lkB (t f : List Nat) (n : Nat) : Option Bool := bif t.any (Nat.beq n) then some true else bif f.any (Nat.beq n) then some false else none
def lkV {A : Type} : List (Nat × Nat × A) → Nat → Nat → Option A
 | [], _, _ => none
 | x :: xs, r, i => bif Nat.beq x.1 r && Nat.beq x.2.1 i then some x.2.2 else lkV xs r i
def qS (t f : List Nat) (v : List (Nat × Nat × LV)) (c : List (Nat × Nat × LV × Heap)) : Scr := ⟨lkB t f, lkV v, lkV c, false⟩
theorem bY {cx : Cx} {f : FuncId} {todo : List Item} {xs : List LV} {h : Heap} {r : LV × Heap} {p : Prop} (scr : Scr) (hp : p) (e : stepW cx (blk cx) scr f todo xs h r = p) : blk cx f todo xs h = some r := blk_by hp e
theorem tZ {A : Type} {x y : A} {q : Prop} (h : x = y) (hq : q) : some x = some y ∧ q := ⟨congrArg some h, hq⟩
theorem uT2 {p : Prop} (h : p) : some true = some true ∧ some true = some true ∧ p := tA tT (tA tT h)
theorem uT3 {p : Prop} (h : p) : some true = some true ∧ some true = some true ∧ some true = some true ∧ p := tA tT (uT2 h)
theorem uT4 {p : Prop} (h : p) : some true = some true ∧ some true = some true ∧ some true = some true ∧ some true = some true ∧ p := tA tT (uT3 h)
theorem uT5 {p : Prop} (h : p) : some true = some true ∧ some true = some true ∧ some true = some true ∧ some true = some true ∧ some true = some true ∧ p := tA tT (uT4 h)
theorem uT6 {p : Prop} (h : p) : some true = some true ∧ some true = some true ∧ some true = some true ∧ some true = some true ∧ some true = some true ∧ some true = some true ∧ p := tA tT (uT5 h)
theorem uF2 {p : Prop} (h : p) : some false = some false ∧ some false = some false ∧ p := tA tF (tA tF h)
theorem uF3 {p : Prop} (h : p) : some false = some false ∧ some false = some false ∧ some false = some false ∧ p := tA tF (uF2 h)
theorem uF4 {p : Prop} (h : p) : some false = some false ∧ some false = some false ∧ some false = some false ∧ some false = some false ∧ p := tA tF (uF3 h)
theorem uF5 {p : Prop} (h : p) : some false = some false ∧ some false = some false ∧ some false = some false ∧ some false = some false ∧ some false = some false ∧ p := tA tF (uF4 h)
theorem uF6 {p : Prop} (h : p) : some false = some false ∧ some false = some false ∧ some false = some false ∧ some false = some false ∧ some false = some false ∧ some false = some false ∧ p := tA tF (uF5 h)
theorem uF7 {p : Prop} (h : p) : some false = some false ∧ some false = some false ∧ some false = some false ∧ some false = some false ∧ some false = some false ∧ some false = some false ∧ some false = some false ∧ p := tA tF (uF6 h)
theorem uF8 {p : Prop} (h : p) : some false = some false ∧ some false = some false ∧ some false = some false ∧ some false = some false ∧ some false = some false ∧ some false = some false ∧ some false = some false ∧ some false = some false ∧ p := tA tF (uF7 h)
theorem uF9 {p : Prop} (h : p) : some false = some false ∧ some false = some false ∧ some false = some false ∧ some false = some false ∧ some false = some false ∧ some false = some false ∧ some false = some false ∧ some false = some false ∧ some false = some false ∧ p := tA tF (uF8 h)
theorem u12 {p : Prop} (h : p) : true = true ∧ true = true ∧ p := tA t1 (tA t1 h)
theorem u02 {p : Prop} (h : p) : false = false ∧ false = false ∧ p := tA t0 (tA t0 h)
end Go.Proofs.YthcjapmfchidhaaGreatDoor
namespace Go.Proofs.YthcjapmfchidhaaGreatDoor
set_option maxRecDepth 100000
open Go Go.Proofs.Am
variable {m v t n i0 : Int} {h h0 : Heap} {r : LV × Heap} {out bs xs : (LL)} {i : Nat} {l0 l1 : LL}
theorem p79_0 (k0 : bA m 79 2 [LV.v (AV.int IntKind.u64 v), LV.ow 1 []] h = some r) :
  bB m 79 [.v (.int .u64 v)] h = some r :=
 bY (qS [] [] [] []) (tA t1 (k0)) (by kernel_rfl)
theorem p79_2_0 (k0 : leZ (.ofNat 128) v = true) (k1 : apL (LV.ow 1 out) 1 1 [[AV.int IntKind.u8 (.ofNat (BitVec.toNat (BitVec.ofInt (IntKind.bits IntKind.u8) (IntKind.wrap IntKind.u8 v) ||| BitVec.ofInt (IntKind.bits IntKind.u8) 128) % 256))]] = some (LV.ow 1 l0)) (k2 : bA m 79 2 [LV.v (AV.int IntKind.u64 (Int.fdiv v (.ofNat 128))), LV.ow 1 l0] h = some r) :
  bA m 79 2 [.v (.int .u64 v), .ow 1 out] h = some r :=
 bY (qS [1099998] [] [(3, 5, (LV.ow 1 l0))] []) (tZ k0 (u02 (tA t1 (tA k1 (tA t1 (k2)))))) (by kernel_rfl)
theorem p79_2_1 (k0 : leZ (.ofNat 128) v = false) (k1 : apL (LV.ow 1 out) 1 1 [[AV.int IntKind.u8 (IntKind.wrap IntKind.u8 v)]] = some (LV.ow 1 l0)) :
  bA m 79 2 [.v (.int .u64 v), .ow 1 out] h = some ((vM l0, h)) :=
 bY (qS [] [1099998] [(5, 4, (LV.ow 1 l0))] []) (tZ k0 (u02 (tA t1 (tA k1 (tR ((vM l0, h))))))) (by kernel_rfl)
theorem p60_0 (k0 : bA m 60 2 [vI v, LV.ow 1 []] h = some r) :
  bB m 60 [vI v] h = some r :=
 bY (qS [] [] [] []) (tA t1 (k0)) (by kernel_rfl)
theorem p60_2_0 (k0 : ltZ v (Int.negSucc 63) = true) (k1 : apL (LV.ow 1 out) 1 1 [[AV.int IntKind.u8 (.ofNat (BitVec.toNat (BitVec.ofInt (IntKind.bits IntKind.u8) (IntKind.wrap IntKind.u8 v) ||| BitVec.ofInt (IntKind.bits IntKind.u8) 128) % 256))]] = some (LV.ow 1 l0)) (k2 : bA m 60 2 [vI (Int.fdiv v (.ofNat 128)), LV.ow 1 l0] h = some r) :
  bA m 60 2 [vI v, .ow 1 out] h = some r :=
 bY (qS [6] [] [(3, 5, (LV.ow 1 l0))] []) (tZ k0 (uT2 (u02 (tA t1 (tA k1 (tA t1 (k2))))))) (by kernel_rfl)
theorem p60_2_1 (k0 : ltZ v (Int.negSucc 63) = false) (k1 : leZ (.ofNat 64) v = true) (k2 : apL (LV.ow 1 out) 1 1 [[AV.int IntKind.u8 (.ofNat (BitVec.toNat (BitVec.ofInt (IntKind.bits IntKind.u8) (IntKind.wrap IntKind.u8 v) ||| BitVec.ofInt (IntKind.bits IntKind.u8) 128) % 256))]] = some (LV.ow 1 l0)) (k3 : bA m 60 2 [vI (Int.fdiv v (.ofNat 128)), LV.ow 1 l0] h = some r) :
  bA m 60 2 [vI v, .ow 1 out] h = some r :=
 bY (qS [1099998] [6] [(3, 5, (LV.ow 1 l0))] []) (tZ k0 (uF2 (tZ k1 (u02 (tA t1 (tA k2 (tA t1 (k3)))))))) (by kernel_rfl)
theorem p60_2_2 (k0 : ltZ v (Int.negSucc 63) = false) (k1 : leZ (.ofNat 64) v = false) (k2 : apL (LV.ow 1 out) 1 1 [[AV.int IntKind.u8 (.ofNat (BitVec.toNat (BitVec.ofInt (IntKind.bits IntKind.u8) (IntKind.wrap IntKind.u8 v) &&& BitVec.ofInt (IntKind.bits IntKind.u8) 127) % 256))]] = some (LV.ow 1 l0)) :
  bA m 60 2 [vI v, .ow 1 out] h = some ((vM l0, h)) :=
 bY (qS [] [6, 1099998] [(5, 5, (LV.ow 1 l0))] []) (tZ k0 (uF2 (tZ k1 (u02 (tA t1 (tA k2 (tR ((vM l0, h))))))))) (by kernel_rfl)
theorem p58_0 (k0 : eqZ t (.ofNat 1) = true) :
  bB m 58 [vI t] h = some ((LV.v (AV.int IntKind.u8 (.ofNat 127)), h)) :=
 bY (qS [1099991] [] [] []) (tZ k0 (tR ((LV.v (AV.int IntKind.u8 (.ofNat 127)), h)))) (by kernel_rfl)
theorem p58_1 (k0 : eqZ t (.ofNat 1) = false) (k1 : eqZ t (.ofNat 2) = true) :
  bB m 58 [vI t] h = some ((LV.v (AV.int IntKind.u8 (.ofNat 126)), h)) :=
 bY (qS [1099988] [1099991] [] []) (tZ k0 (tZ k1 (tR ((LV.v (AV.int IntKind.u8 (.ofNat 126)), h))))) (by kernel_rfl)
theorem p58_2 (k0 : eqZ t (.ofNat 1) = false) (k1 : eqZ t (.ofNat 2) = false) :
  bB m 58 [vI t] h = some ((LV.v (AV.int IntKind.u8 (.ofNat 64)), h)) :=
 bY (qS [] [1099991, 1099988] [] []) (tZ k0 (tZ k1 (tR ((LV.v (AV.int IntKind.u8 (.ofNat 64)), h))))) (by kernel_rfl)
theorem p59o_0 (k0 : bA m 59 2 [LV.ow 1 bs, vM xs, vI (.ofNat xs.length), vI (.ofNat 0)] h = some r) :
  bB m 59 [.ow 1 bs, .ow 1 xs] h = some r :=
 bY (qS [] [] [] []) (tA t1 (k0)) (by kernel_rfl)
theorem p59_0 (k0 : bA m 59 2 [LV.ow 1 bs, vM xs, vI (.ofNat xs.length), vI (.ofNat 0)] h = some r) :
  bB m 59 [.ow 1 bs, vM xs] h = some r :=
 bY (qS [] [] [] []) (tA t1 (k0)) (by kernel_rfl)
theorem p59_2_0 (k0 : ltZ (.ofNat i) n = true) (k1 : ixA (aM xs) (.ofNat i) 1 = some [aI i0]) (k2 : cA m 79 [LV.v (AV.int IntKind.u64 (IntKind.wrap IntKind.u64 i0))] h = some (vM l0, h0)) (k3 : apL (LV.ow 1 bs) 1 1 l0 = some (LV.ow 1 l1)) (k4 : bA m 59 2 [LV.ow 1 l1, vM xs, vI n, vI (IntKind.wrap .i64 (.ofNat (Nat.succ i)))] h0 = some r) :
  bA m 59 2 [.ow 1 bs, vM xs, vI n, vI (.ofNat i)] h = some r :=
 bY (qS [1099997] [] [(3, 0, (LV.v (AV.snap [aI i0]))), (4, 4, (LV.ow 1 l1))] [(4, 3, vM l0, h0)]) (tZ k0 (tA (tA t0 (tA tN (k1))) (tA k2 (u02 (tA t1 (tA k3 (tA t1 (k4)))))))) (by kernel_rfl)
theorem p59_2_1 (k0 : ltZ (.ofNat i) n = false) :
  bA m 59 2 [.ow 1 bs, vM xs, vI n, vI (.ofNat i)] h = some ((LV.ow 1 bs, h)) :=
 bY (qS [] [1099997] [] []) (tZ k0 (tR ((LV.ow 1 bs, h)))) (by kernel_rfl)
end Go.Proofs.YthcjapmfchidhaaGreatDoor
namespace Go.Proofs.YthcjapmfchidhaaGreatDoor
set_option maxRecDepth 100000
open Go Go.Proofs.Am
variable {m p k i0 i1 : Int} {bs out : (LL)} {h : Heap} {r : LV × Heap} {l0 : LL}
end Go.Proofs.YthcjapmfchidhaaGreatDoor
namespace Go.Proofs.YthcjapmfchidhaaGreatDoor
set_option maxRecDepth 100000
open Go Go.Proofs.Am
variable {m p b nx i x k mo v i0 i1 : Int} {bs ds l : (LL)} {sg b0 : Bool} {h h0 : Heap} {r : LV × Heap} {l0 : LL}
end Go.Proofs.YthcjapmfchidhaaGreatDoor
namespace Go.Proofs.YthcjapmfchidhaaGreatDoor
set_option maxRecDepth 100000
open Go Go.Proofs.Am
variable {m v n x i i0 i1 : Int} {sg b0 : Bool} {h h0 : Heap} {r : LV × Heap} {out : (LL)} {l0 : LL}
end Go.Proofs.YthcjapmfchidhaaGreatDoor
namespace Go.Proofs.YthcjapmfchidhaaGreatDoor
open Go Go.Proofs.Am
variable {m o a b v t n i0 i1 i2 i3 i4 : Int} {l bd el xs l0 l1 l2 : LL} {q b0 b1 b2 : Bool} {h h0 h1 h2 : Heap} {fv : AV} {r : LV × Heap} {i : Nat}
theorem w36_0 (k0 : eqZ a (.ofNat 0) = true) (k1 : eqZ b (.ofNat 0) = true) (k2 : eqZ v (.ofNat 0) = true) (k3 : eqZ t (.ofNat 0) = true) (k4 : eqZ (.ofNat l.length) (.ofNat 0) = true) (k5 : eqZ (.ofNat bd.length) (.ofNat 0) = true) (k6 : eqZ (.ofNat el.length) (.ofNat 0) = true) :
  bB m 57 [vG (nC o a b v t l bd el q)] h = some ((vB !q, h)) :=
 bY (qS [6, 11, 16, 21, 27, 33, 39] [] [] []) (tZ k0 (uT3 (tZ k1 (uT3 (tZ k2 (uT3 (tZ k3 (uT4 (tZ k4 (uT4 (tZ k5 (uT4 (tZ k6 (uT3 (tR ((vB !q, h))))))))))))))))) (by kernel_rfl)
theorem w36_1 (k0 : eqZ a (.ofNat 0) = true) (k1 : eqZ b (.ofNat 0) = true) (k2 : eqZ v (.ofNat 0) = true) (k3 : eqZ t (.ofNat 0) = true) (k4 : eqZ (.ofNat l.length) (.ofNat 0) = true) (k5 : eqZ (.ofNat bd.length) (.ofNat 0) = true) (k6 : eqZ (.ofNat el.length) (.ofNat 0) = false) :
  bB m 57 [vG (nC o a b v t l bd el q)] h = some ((vB false, h)) :=
 bY (qS [6, 11, 16, 21, 27, 33] [39] [] []) (tZ k0 (uT3 (tZ k1 (uT3 (tZ k2 (uT3 (tZ k3 (uT4 (tZ k4 (uT4 (tZ k5 (uT4 (tZ k6 (uF3 (tR ((vB false, h))))))))))))))))) (by kernel_rfl)
theorem w36_2 (k0 : eqZ a (.ofNat 0) = true) (k1 : eqZ b (.ofNat 0) = true) (k2 : eqZ v (.ofNat 0) = true) (k3 : eqZ t (.ofNat 0) = true) (k4 : eqZ (.ofNat l.length) (.ofNat 0) = true) (k5 : eqZ (.ofNat bd.length) (.ofNat 0) = false) :
  bB m 57 [vG (nC o a b v t l bd el q)] h = some ((vB false, h)) :=
 bY (qS [6, 11, 16, 21, 27] [33] [] []) (tZ k0 (uT3 (tZ k1 (uT3 (tZ k2 (uT3 (tZ k3 (uT4 (tZ k4 (uT4 (tZ k5 (uF4 (tR ((vB false, h))))))))))))))) (by kernel_rfl)
theorem w36_3 (k0 : eqZ a (.ofNat 0) = true) (k1 : eqZ b (.ofNat 0) = true) (k2 : eqZ v (.ofNat 0) = true) (k3 : eqZ t (.ofNat 0) = true) (k4 : eqZ (.ofNat l.length) (.ofNat 0) = false) :
  bB m 57 [vG (nC o a b v t l bd el q)] h = some ((vB false, h)) :=
 bY (qS [6, 11, 16, 21] [27] [] []) (tZ k0 (uT3 (tZ k1 (uT3 (tZ k2 (uT3 (tZ k3 (uT4 (tZ k4 (uF4 (tR ((vB false, h))))))))))))) (by kernel_rfl)
theorem w36_4 (k0 : eqZ a (.ofNat 0) = true) (k1 : eqZ b (.ofNat 0) = true) (k2 : eqZ v (.ofNat 0) = true) (k3 : eqZ t (.ofNat 0) = false) :
  bB m 57 [vG (nC o a b v t l bd el q)] h = some ((vB false, h)) :=
 bY (qS [6, 11, 16] [21] [] []) (tZ k0 (uT3 (tZ k1 (uT3 (tZ k2 (uT3 (tZ k3 (uF4 (tR ((vB false, h))))))))))) (by kernel_rfl)
theorem w36_5 (k0 : eqZ a (.ofNat 0) = true) (k1 : eqZ b (.ofNat 0) = true) (k2 : eqZ v (.ofNat 0) = false) :
  bB m 57 [vG (nC o a b v t l bd el q)] h = some ((vB false, h)) :=
 bY (qS [6, 11] [16] [] []) (tZ k0 (uT3 (tZ k1 (uT3 (tZ k2 (uF3 (tR ((vB false, h))))))))) (by kernel_rfl)
theorem w36_6 (k0 : eqZ a (.ofNat 0) = true) (k1 : eqZ b (.ofNat 0) = false) :
  bB m 57 [vG (nC o a b v t l bd el q)] h = some ((vB false, h)) :=
 bY (qS [6] [11] [] []) (tZ k0 (uT3 (tZ k1 (uF3 (tR ((vB false, h))))))) (by kernel_rfl)
theorem w36_7 (k0 : eqZ a (.ofNat 0) = false) :
  bB m 57 [vG (nC o a b v t l bd el q)] h = some ((vB false, h)) :=
 bY (qS [] [6] [] []) (tZ k0 (uF3 (tR ((vB false, h))))) (by kernel_rfl)
theorem w34_0 (k0 : leZ (.ofNat 0) n = true) :
  bB m 54 [vI n] h = some ((vB (leZ n (.ofNat 4294967295)), h)) :=
 bY (qS [5] [] [] []) (tZ k0 (uT2 (tR ((vB (leZ n (.ofNat 4294967295)), h))))) (by kernel_rfl)
theorem w34_1 (k0 : leZ (.ofNat 0) n = false) :
  bB m 54 [vI n] h = some ((vB false, h)) :=
 bY (qS [] [5] [] []) (tZ k0 (uF2 (tR ((vB false, h))))) (by kernel_rfl)
theorem w35_0 (k0 : cA m 54 [vI n] h = some (vB b0, h0)) :
  bB m 56 [vI n] h = some ((vB !b0, h0)) :=
 bY (qS [] [] [] [(1, 1, vB b0, h0)]) (tA k0 (tR ((vB !b0, h0)))) (by kernel_rfl)
theorem w33_0 (k0 : ltZ t (.ofNat 0) = true) :
  bB m 53 [vG (nC o a b v t l bd el q)] h = some ((vB false, h)) :=
 bY (qS [6] [] [] []) (tZ k0 (uT3 (tR ((vB false, h))))) (by kernel_rfl)
theorem w33_1 (k0 : ltZ t (.ofNat 0) = false) (k1 : ltZ (.ofNat 2) t = true) :
  bB m 53 [vG (nC o a b v t l bd el q)] h = some ((vB false, h)) :=
 bY (qS [11] [6] [] []) (tZ k0 (uF3 (tZ k1 (uT4 (tR ((vB false, h))))))) (by kernel_rfl)
theorem w33_2 (k0 : ltZ t (.ofNat 0) = false) (k1 : ltZ (.ofNat 2) t = false) (k2 : cA m 19 [vM bd] h = some (vB b0, h0)) (k3 : (!b0) = true) :
  bB m 53 [vG (nC o a b v t l bd el q)] h = some ((vB false, h0)) :=
 bY (qS [17] [6, 11] [] [(1, 11, vB b0, h0)]) (tZ k0 (uF3 (tZ k1 (uF2 (tA k2 (uF2 (tZ k3 (uT4 (tR ((vB false, h0))))))))))) (by kernel_rfl)
theorem w33_3 (k0 : ltZ t (.ofNat 0) = false) (k1 : ltZ (.ofNat 2) t = false) (k2 : cA m 19 [vM bd] h = some (vB b1, h1)) (k3 : (!b1) = false) (k4 : cA m 19 [vM el] h1 = some (vB b0, h0)) (k5 : (!b0) = true) :
  bB m 53 [vG (nC o a b v t l bd el q)] h = some ((vB false, h0)) :=
 bY (qS [22] [6, 11, 17] [] [(1, 11, vB b1, h1), (1, 17, vB b0, h0)]) (tZ k0 (uF3 (tZ k1 (uF2 (tA k2 (uF2 (tZ k3 (uF2 (tA k4 (uF2 (tZ k5 (tR ((vB false, h0)))))))))))))) (by kernel_rfl)
theorem w33_4 (k0 : ltZ t (.ofNat 0) = false) (k1 : ltZ (.ofNat 2) t = false) (k2 : cA m 19 [vM bd] h = some (vB b1, h1)) (k3 : (!b1) = false) (k4 : cA m 19 [vM el] h1 = some (vB b0, h0)) (k5 : (!b0) = false) (k6 : (!eqZ o (.ofNat 4)) = true) (k7 : q = true) :
  bB m 53 [vG (nC o a b v t l bd el q)] h = some ((vB false, h0)) :=
 bY (qS [26, 30] [6, 11, 17, 22] [] [(1, 11, vB b1, h1), (1, 17, vB b0, h0)]) (tZ k0 (uF3 (tZ k1 (uF2 (tA k2 (uF2 (tZ k3 (uF2 (tA k4 (uF2 (tZ k5 (tZ k6 (uT2 (tZ k7 (uT5 (tR ((vB false, h0)))))))))))))))))) (by kernel_rfl)
theorem w33_5 (k0 : ltZ t (.ofNat 0) = false) (k1 : ltZ (.ofNat 2) t = false) (k2 : cA m 19 [vM bd] h = some (vB b1, h1)) (k3 : (!b1) = false) (k4 : cA m 19 [vM el] h1 = some (vB b0, h0)) (k5 : (!b0) = false) (k6 : (!eqZ o (.ofNat 4)) = true) (k7 : q = false) (k8 : (!q) = true) (k9 : ltZ (.ofNat 0) (.ofNat el.length) = true) :
  bB m 53 [vG (nC o a b v t l bd el q)] h = some ((vB false, h0)) :=
 bY (qS [26, 34, 40] [6, 11, 17, 22, 30] [] [(1, 11, vB b1, h1), (1, 17, vB b0, h0)]) (tZ k0 (uF3 (tZ k1 (uF2 (tA k2 (uF2 (tZ k3 (uF2 (tA k4 (uF2 (tZ k5 (tZ k6 (uT2 (tZ k7 (uF3 (tZ k8 (uT3 (tA tF (tA tT (tA tF (tZ k9 (tR ((vB false, h0)))))))))))))))))))))))) (by kernel_rfl)
theorem w33_6 (k0 : ltZ t (.ofNat 0) = false) (k1 : ltZ (.ofNat 2) t = false) (k2 : cA m 19 [vM bd] h = some (vB b1, h1)) (k3 : (!b1) = false) (k4 : cA m 19 [vM el] h1 = some (vB b2, h2)) (k5 : (!b2) = false) (k6 : (!eqZ o (.ofNat 4)) = true) (k7 : q = false) (k8 : (!q) = true) (k9 : ltZ (.ofNat 0) (.ofNat el.length) = false) (k10 : cA m 57 [vG [aI o, aI a, aI b, AV.int IntKind.u64 v, aI (.ofNat 0), aM l, aM [], aM [], aB false]] h2 = some (vB b0, h0)) :
  bB m 53 [vG (nC o a b v t l bd el q)] h = some ((vB b0, h0)) :=
 bY (qS [26, 34] [6, 11, 17, 22, 30, 40] [] [(1, 11, vB b1, h1), (1, 17, vB b2, h2), (6, 1, vB b0, h0)]) (tZ k0 (uF3 (tZ k1 (uF2 (tA k2 (uF2 (tZ k3 (uF2 (tA k4 (uF2 (tZ k5 (tZ k6 (uT2 (tZ k7 (uF3 (tZ k8 (uT3 (tA tF (tA tT (tA tF (tZ k9 (tA k10 (tR ((vB b0, h0))))))))))))))))))))))))) (by kernel_rfl)
theorem w33_8 (k0 : ltZ t (.ofNat 0) = false) (k1 : ltZ (.ofNat 2) t = false) (k2 : cA m 19 [vM bd] h = some (vB b1, h1)) (k3 : (!b1) = false) (k4 : cA m 19 [vM el] h1 = some (vB b0, h0)) (k5 : (!b0) = false) (k6 : (!eqZ o (.ofNat 4)) = false) (k7 : (!q) = true) (k8 : ltZ (.ofNat 0) (.ofNat el.length) = true) :
  bB m 53 [vG (nC o a b v t l bd el q)] h = some ((vB false, h0)) :=
 bY (qS [34, 40] [6, 11, 17, 22, 26] [] [(1, 11, vB b1, h1), (1, 17, vB b0, h0)]) (tZ k0 (uF3 (tZ k1 (uF2 (tA k2 (uF2 (tZ k3 (uF2 (tA k4 (uF2 (tZ k5 (tZ k6 (uF2 (tZ k7 (uT4 (tZ k8 (tR ((vB false, h0))))))))))))))))))) (by kernel_rfl)
theorem w33_9 (k0 : ltZ t (.ofNat 0) = false) (k1 : ltZ (.ofNat 2) t = false) (k2 : cA m 19 [vM bd] h = some (vB b1, h1)) (k3 : (!b1) = false) (k4 : cA m 19 [vM el] h1 = some (vB b2, h2)) (k5 : (!b2) = false) (k6 : (!eqZ o (.ofNat 4)) = false) (k7 : (!q) = true) (k8 : ltZ (.ofNat 0) (.ofNat el.length) = false) (k9 : cA m 57 [vG [aI o, aI a, aI b, AV.int IntKind.u64 v, aI (.ofNat 0), aM l, aM [], aM [], aB false]] h2 = some (vB b0, h0)) :
  bB m 53 [vG (nC o a b v t l bd el q)] h = some ((vB b0, h0)) :=
 bY (qS [34] [6, 11, 17, 22, 26, 40] [] [(1, 11, vB b1, h1), (1, 17, vB b2, h2), (6, 1, vB b0, h0)]) (tZ k0 (uF3 (tZ k1 (uF2 (tA k2 (uF2 (tZ k3 (uF2 (tA k4 (uF2 (tZ k5 (tZ k6 (uF2 (tZ k7 (uT4 (tZ k8 (tA k9 (tR ((vB b0, h0)))))))))))))))))))) (by kernel_rfl)
theorem w33_10 (k0 : ltZ t (.ofNat 0) = false) (k1 : ltZ (.ofNat 2) t = false) (k2 : cA m 19 [vM bd] h = some (vB b1, h1)) (k3 : (!b1) = false) (k4 : cA m 19 [vM el] h1 = some (vB b2, h2)) (k5 : (!b2) = false) (k6 : (!eqZ o (.ofNat 4)) = false) (k7 : (!q) = false) (k8 : cA m 57 [vG [aI o, aI a, aI b, AV.int IntKind.u64 v, aI (.ofNat 0), aM l, aM [], aM [], aB false]] h2 = some (vB b0, h0)) :
  bB m 53 [vG (nC o a b v t l bd el q)] h = some ((vB b0, h0)) :=
 bY (qS [] [6, 11, 17, 22, 26, 34] [] [(1, 11, vB b1, h1), (1, 17, vB b2, h2), (6, 1, vB b0, h0)]) (tZ k0 (uF3 (tZ k1 (uF2 (tA k2 (uF2 (tZ k3 (uF2 (tA k4 (uF2 (tZ k5 (tZ k6 (uF2 (tZ k7 (uF4 (tA k8 (tR ((vB b0, h0))))))))))))))))))) (by kernel_rfl)
theorem w18_0 (k0 : cA m 33 [vG (nC o a b v t l bd el q)] h = some (vB b0, h0)) :
  bB m 32 [vG (nC o a b v t l bd el q)] h = some ((vB !b0, h0)) :=
 bY (qS [] [] [] [(1, 1, vB b0, h0)]) (tA k0 (tR ((vB !b0, h0)))) (by kernel_rfl)
theorem w13_0 (k0 : cA m 31 [vM xs, LV.v (AV.fn 32 [] [])] h = some (vB b0, h0)) :
  bB m 19 [vM xs] h = some ((vB !b0, h0)) :=
 bY (qS [] [] [] [(1, 1, vB b0, h0)]) (tA k0 (tR ((vB !b0, h0)))) (by kernel_rfl)
theorem w17_0 (k0 : cA m 52 [vM xs, LV.v fv] h = some (vI i0, h0)) :
  bB m 31 [vM xs, .v fv] h = some ((vB (leZ (.ofNat 0) i0), h0)) :=
 bY (qS [] [] [] [(1, 2, vI i0, h0)]) (tA k0 (tR ((vB (leZ (.ofNat 0) i0), h0)))) (by kernel_rfl)
theorem w31_0 (k0 : bA m 52 2 [vM xs, LV.v fv, vI (.ofNat xs.length), vI (.ofNat 0)] h = some r) :
  bB m 52 [vM xs, .v fv] h = some r :=
 bY (qS [] [] [] []) (tA t1 (k0)) (by kernel_rfl)
theorem w31_2_0 (k0 : ltZ (.ofNat i) n = true) (k1 : ixA (aM xs) (.ofNat i) 9 = some (nC i0 i1 i2 i3 i4 l0 l1 l2 b1)) (k2 : cV m fv [vG (nC i0 i1 i2 i3 i4 l0 l1 l2 b1)] h = some (vB b0, h0)) (k3 : b0 = true) :
  bA m 52 2 [vM xs, .v fv, vI n, vI i] h = some ((vI (.ofNat i), h0)) :=
 bY (qS [9, 16] [] [(4, 3, (LV.v (AV.snap (nC i0 i1 i2 i3 i4 l0 l1 l2 b1))))] [(4, 5, vB b0, h0)]) (tZ k0 (tA (tA t0 (tA tN (k1))) (tA k2 (tZ k3 (tR ((vI (.ofNat i), h0))))))) (by kernel_rfl)
theorem w31_2_1 (k0 : ltZ (.ofNat i) n = true) (k1 : ixA (aM xs) (.ofNat i) 9 = some (nC i0 i1 i2 i3 i4 l0 l1 l2 b1)) (k2 : cV m fv [vG (nC i0 i1 i2 i3 i4 l0 l1 l2 b1)] h = some (vB b0, h0)) (k3 : b0 = false) (k4 : bA m 52 2 [vM xs, LV.v fv, vI n, vI (IntKind.wrap .i64 (.ofNat (Nat.succ i)))] h0 = some r) :
  bA m 52 2 [vM xs, .v fv, vI n, vI i] h = some r :=
 bY (qS [9] [16] [(4, 3, (LV.v (AV.snap (nC i0 i1 i2 i3 i4 l0 l1 l2 b1))))] [(4, 5, vB b0, h0)]) (tZ k0 (tA (tA t0 (tA tN (k1))) (tA k2 (tZ k3 (tA t1 (k4)))))) (by kernel_rfl)
theorem w31_2_2 (k0 : ltZ (.ofNat i) n = false) :
  bA m 52 2 [vM xs, .v fv, vI n, vI i] h = some ((vI (Int.negSucc 0), h)) :=
 bY (qS [] [9] [] []) (tZ k0 (tR ((vI (Int.negSucc 0), h)))) (by kernel_rfl)
theorem w22_0 (k0 : cA m 78 [vM xs, LV.v fv] h = some (vI i0, h0)) :
  bB m 55 [vM xs, .v fv] h = some ((vB (leZ (.ofNat 0) i0), h0)) :=
 bY (qS [] [] [] [(1, 2, vI i0, h0)]) (tA k0 (tR ((vB (leZ (.ofNat 0) i0), h0)))) (by kernel_rfl)
theorem w38_0 (k0 : bA m 78 2 [vM xs, LV.v fv, vI (.ofNat xs.length), vI (.ofNat 0)] h = some r) :
  bB m 78 [vM xs, .v fv] h = some r :=
 bY (qS [] [] [] []) (tA t1 (k0)) (by kernel_rfl)
theorem w38_2_0 (k0 : ltZ (.ofNat i) n = true) (k1 : ixA (aM xs) (.ofNat i) 1 = some [aI i0]) (k2 : cV m fv [vI i0] h = some (vB b0, h0)) (k3 : b0 = true) :
  bA m 78 2 [vM xs, .v fv, vI n, vI i] h = some ((vI (.ofNat i), h0)) :=
 bY (qS [9, 16] [] [(4, 3, (LV.v (AV.snap [aI i0])))] [(4, 5, vB b0, h0)]) (tZ k0 (tA (tA t0 (tA tN (k1))) (tA k2 (tZ k3 (tR ((vI (.ofNat i), h0))))))) (by kernel_rfl)
theorem w38_2_1 (k0 : ltZ (.ofNat i) n = true) (k1 : ixA (aM xs) (.ofNat i) 1 = some [aI i0]) (k2 : cV m fv [vI i0] h = some (vB b0, h0)) (k3 : b0 = false) (k4 : bA m 78 2 [vM xs, LV.v fv, vI n, vI (IntKind.wrap .i64 (.ofNat (Nat.succ i)))] h0 = some r) :
  bA m 78 2 [vM xs, .v fv, vI n, vI i] h = some r :=
 bY (qS [9] [16] [(4, 3, (LV.v (AV.snap [aI i0])))] [(4, 5, vB b0, h0)]) (tZ k0 (tA (tA t0 (tA tN (k1))) (tA k2 (tZ k3 (tA t1 (k4)))))) (by kernel_rfl)
theorem w38_2_2 (k0 : ltZ (.ofNat i) n = false) :
  bA m 78 2 [vM xs, .v fv, vI n, vI i] h = some ((vI (Int.negSucc 0), h)) :=
 bY (qS [] [9] [] []) (tZ k0 (tR ((vI (Int.negSucc 0), h)))) (by kernel_rfl)
end Go.Proofs.YthcjapmfchidhaaGreatDoor
namespace Go.Proofs.YthcjapmfchidhaaGreatDoor
open Go Go.Proofs.Am
variable {m o a b v t i0 i1 i2 i3 : Int} {l bd el l0 : LL} {q b0 b1 b2 b3 b4 : Bool} {h h0 h1 h2 h3 : Heap} {v0 : AV} {s0 : ByteArray}
theorem w19_0 (k0 : (lookV o, h) = (LV.tup [AV.agg [aI i0, aS s0, aI i1, aM l0, aI i2, aI i3, aB b1], v0], h0)) (k1 : nE m v0 b0) (k2 : b0 = true) :
  bB m 33 [vG (nC o a b v t l bd el q)] h = some ((vB false, h0)) :=
 bY (qS [12] [] [(2, 1, (vB b0))] [(1, 2, LV.tup [AV.agg [aI i0, aS s0, aI i1, aM l0, aI i2, aI i3, aB b1], v0], h0)]) (tZ k0 (tA k1 (tZ k2 (tR ((vB false, h0)))))) (by kernel_rfl)
theorem w19_1 (k0 : (lookV o, h) = (LV.tup [AV.agg [aI i1, aS s0, aI i0, aM l0, aI i2, aI i3, aB b2], v0], h1)) (k1 : nE m v0 b1) (k2 : b1 = false) (k3 : eqZ i0 (.ofNat 2) = true) (k4 : cA m 53 [vG (nC o a b v t l bd el q)] h1 = some (vB b0, h0)) :
  bB m 33 [vG (nC o a b v t l bd el q)] h = some ((vB b0, h0)) :=
 bY (qS [13] [12] [(2, 1, (vB b1))] [(1, 2, LV.tup [AV.agg [aI i1, aS s0, aI i0, aM l0, aI i2, aI i3, aB b2], v0], h1), (5, 1, vB b0, h0)]) (tZ k0 (tA k1 (tZ k2 (tZ k3 (tA k4 (tR ((vB b0, h0)))))))) (by kernel_rfl)
theorem w19_2 (k0 : (lookV o, h) = (LV.tup [AV.agg [aI i2, aS s0, aI i0, aM l0, aI i1, aI i3, aB b1], v0], h0)) (k1 : nE m v0 b0) (k2 : b0 = false) (k3 : eqZ i0 (.ofNat 2) = false) (k4 : eqZ i0 (.ofNat 10) = true) (k5 : eqZ i1 (.ofNat 1) = true) (k6 : ltZ (.ofNat 4294967295) v = true) :
  bB m 33 [vG (nC o a b v t l bd el q)] h = some ((vB false, h0)) :=
 bY (qS [19, 26, 30] [12, 13] [(2, 1, (vB b0))] [(1, 2, LV.tup [AV.agg [aI i2, aS s0, aI i0, aM l0, aI i1, aI i3, aB b1], v0], h0)]) (tZ k0 (tA k1 (tZ k2 (tZ k3 (tZ k4 (tZ k5 (uT3 (tZ k6 (tR ((vB false, h0))))))))))) (by kernel_rfl)
theorem w19_3 (k0 : (lookV o, h) = (LV.tup [AV.agg [aI i2, aS s0, aI i0, aM l0, aI i1, aI i3, aB b2], v0], h1)) (k1 : nE m v0 b1) (k2 : b1 = false) (k3 : eqZ i0 (.ofNat 2) = false) (k4 : eqZ i0 (.ofNat 10) = true) (k5 : eqZ i1 (.ofNat 1) = true) (k6 : ltZ (.ofNat 4294967295) v = false) (k7 : cA m 57 [vG [aI o, aI a, aI b, AV.int IntKind.u64 (.ofNat 0), aI t, aM l, aM bd, aM el, aB q]] h1 = some (vB b0, h0)) :
  bB m 33 [vG (nC o a b v t l bd el q)] h = some ((vB b0, h0)) :=
 bY (qS [19, 26] [12, 13, 30] [(2, 1, (vB b1))] [(1, 2, LV.tup [AV.agg [aI i2, aS s0, aI i0, aM l0, aI i1, aI i3, aB b2], v0], h1), (22, 1, vB b0, h0)]) (tZ k0 (tA k1 (tZ k2 (tZ k3 (tZ k4 (tZ k5 (uT3 (tZ k6 (tA k7 (tR ((vB b0, h0)))))))))))) (by kernel_rfl)
theorem w19_4 (k0 : (lookV o, h) = (LV.tup [AV.agg [aI i2, aS s0, aI i0, aM l0, aI i1, aI i3, aB b2], v0], h1)) (k1 : nE m v0 b1) (k2 : b1 = false) (k3 : eqZ i0 (.ofNat 2) = false) (k4 : eqZ i0 (.ofNat 10) = true) (k5 : eqZ i1 (.ofNat 1) = false) (k6 : cA m 57 [vG [aI o, aI a, aI b, AV.int IntKind.u64 (.ofNat 0), aI t, aM l, aM bd, aM el, aB q]] h1 = some (vB b0, h0)) :
  bB m 33 [vG (nC o a b v t l bd el q)] h = some ((vB b0, h0)) :=
 bY (qS [19] [12, 13, 26] [(2, 1, (vB b1))] [(1, 2, LV.tup [AV.agg [aI i2, aS s0, aI i0, aM l0, aI i1, aI i3, aB b2], v0], h1), (22, 1, vB b0, h0)]) (tZ k0 (tA k1 (tZ k2 (tZ k3 (tZ k4 (tZ k5 (uF3 (tA k6 (tR ((vB b0, h0))))))))))) (by kernel_rfl)
theorem w19_5 (k0 : (lookV o, h) = (LV.tup [AV.agg [aI i1, aS s0, aI i0, aM l0, aI i2, aI i3, aB b2], v0], h1)) (k1 : nE m v0 b1) (k2 : b1 = false) (k3 : eqZ i0 (.ofNat 2) = false) (k4 : eqZ i0 (.ofNat 10) = false) (k5 : eqZ i0 (.ofNat 7) = true) (k6 : cA m 54 [vI a] h1 = some (vB b0, h0)) (k7 : (!b0) = true) :
  bB m 33 [vG (nC o a b v t l bd el q)] h = some ((vB false, h0)) :=
 bY (qS [36, 45] [12, 13, 19] [(2, 1, (vB b1))] [(1, 2, LV.tup [AV.agg [aI i1, aS s0, aI i0, aM l0, aI i2, aI i3, aB b2], v0], h1), (11, 2, vB b0, h0)]) (tZ k0 (tA k1 (tZ k2 (tZ k3 (tZ k4 (tZ k5 (uT3 (tA k6 (tZ k7 (uT4 (tR ((vB false, h0))))))))))))) (by kernel_rfl)
theorem w19_6 (k0 : (lookV o, h) = (LV.tup [AV.agg [aI i1, aS s0, aI i0, aM l0, aI i2, aI i3, aB b3], v0], h1)) (k1 : nE m v0 b2) (k2 : b2 = false) (k3 : eqZ i0 (.ofNat 2) = false) (k4 : eqZ i0 (.ofNat 10) = false) (k5 : eqZ i0 (.ofNat 7) = true) (k6 : cA m 54 [vI a] h1 = some (vB b1, h2)) (k7 : (!b1) = false) (k8 : cA m 54 [vI b] h2 = some (vB b0, h0)) (k9 : (!b0) = true) :
  bB m 33 [vG (nC o a b v t l bd el q)] h = some ((vB false, h0)) :=
 bY (qS [36, 50] [12, 13, 19, 45] [(2, 1, (vB b2))] [(1, 2, LV.tup [AV.agg [aI i1, aS s0, aI i0, aM l0, aI i2, aI i3, aB b3], v0], h1), (11, 2, vB b1, h2), (11, 7, vB b0, h0)]) (tZ k0 (tA k1 (tZ k2 (tZ k3 (tZ k4 (tZ k5 (uT3 (tA k6 (tZ k7 (uF2 (tA k8 (uF2 (tZ k9 (tR ((vB false, h0)))))))))))))))) (by kernel_rfl)
theorem w19_7 (k0 : (lookV o, h) = (LV.tup [AV.agg [aI i1, aS s0, aI i0, aM l0, aI i2, aI i3, aB b4], v0], h1)) (k1 : nE m v0 b3) (k2 : b3 = false) (k3 : eqZ i0 (.ofNat 2) = false) (k4 : eqZ i0 (.ofNat 10) = false) (k5 : eqZ i0 (.ofNat 7) = true) (k6 : cA m 54 [vI a] h1 = some (vB b1, h2)) (k7 : (!b1) = false) (k8 : cA m 54 [vI b] h2 = some (vB b2, h3)) (k9 : (!b2) = false) (k10 : cA m 57 [vG [aI o, aI (.ofNat 0), aI (.ofNat 0), AV.int IntKind.u64 v, aI t, aM l, aM bd, aM el, aB q]] h3 = some (vB b0, h0)) :
  bB m 33 [vG (nC o a b v t l bd el q)] h = some ((vB b0, h0)) :=
 bY (qS [36] [12, 13, 19, 45, 50] [(2, 1, (vB b3))] [(1, 2, LV.tup [AV.agg [aI i1, aS s0, aI i0, aM l0, aI i2, aI i3, aB b4], v0], h1), (11, 2, vB b1, h2), (11, 7, vB b2, h3), (22, 1, vB b0, h0)]) (tZ k0 (tA k1 (tZ k2 (tZ k3 (tZ k4 (tZ k5 (uT3 (tA k6 (tZ k7 (uF2 (tA k8 (uF2 (tZ k9 (tA k10 (tR ((vB b0, h0))))))))))))))))) (by kernel_rfl)
theorem w19_8 (k0 : (lookV o, h) = (LV.tup [AV.agg [aI i1, aS s0, aI i0, aM l0, aI i2, aI i3, aB b2], v0], h1)) (k1 : nE m v0 b1) (k2 : b1 = false) (k3 : eqZ i0 (.ofNat 2) = false) (k4 : eqZ i0 (.ofNat 10) = false) (k5 : eqZ i0 (.ofNat 7) = false) (k6 : eqZ i0 (.ofNat 8) = true) (k7 : cA m 54 [vI a] h1 = some (vB b0, h0)) (k8 : (!b0) = true) :
  bB m 33 [vG (nC o a b v t l bd el q)] h = some ((vB false, h0)) :=
 bY (qS [32, 45] [12, 13, 19, 36] [(2, 1, (vB b1))] [(1, 2, LV.tup [AV.agg [aI i1, aS s0, aI i0, aM l0, aI i2, aI i3, aB b2], v0], h1), (11, 2, vB b0, h0)]) (tZ k0 (tA k1 (tZ k2 (tZ k3 (tZ k4 (tZ k5 (uF3 (tZ k6 (tA k7 (tZ k8 (uT4 (tR ((vB false, h0)))))))))))))) (by kernel_rfl)
theorem w19_9 (k0 : (lookV o, h) = (LV.tup [AV.agg [aI i1, aS s0, aI i0, aM l0, aI i2, aI i3, aB b3], v0], h1)) (k1 : nE m v0 b2) (k2 : b2 = false) (k3 : eqZ i0 (.ofNat 2) = false) (k4 : eqZ i0 (.ofNat 10) = false) (k5 : eqZ i0 (.ofNat 7) = false) (k6 : eqZ i0 (.ofNat 8) = true) (k7 : cA m 54 [vI a] h1 = some (vB b1, h2)) (k8 : (!b1) = false) (k9 : cA m 54 [vI b] h2 = some (vB b0, h0)) (k10 : (!b0) = true) :
  bB m 33 [vG (nC o a b v t l bd el q)] h = some ((vB false, h0)) :=
 bY (qS [32, 50] [12, 13, 19, 36, 45] [(2, 1, (vB b2))] [(1, 2, LV.tup [AV.agg [aI i1, aS s0, aI i0, aM l0, aI i2, aI i3, aB b3], v0], h1), (11, 2, vB b1, h2), (11, 7, vB b0, h0)]) (tZ k0 (tA k1 (tZ k2 (tZ k3 (tZ k4 (tZ k5 (uF3 (tZ k6 (tA k7 (tZ k8 (uF2 (tA k9 (uF2 (tZ k10 (tR ((vB false, h0))))))))))))))))) (by kernel_rfl)
theorem w19_10 (k0 : (lookV o, h) = (LV.tup [AV.agg [aI i1, aS s0, aI i0, aM l0, aI i2, aI i3, aB b4], v0], h1)) (k1 : nE m v0 b3) (k2 : b3 = false) (k3 : eqZ i0 (.ofNat 2) = false) (k4 : eqZ i0 (.ofNat 10) = false) (k5 : eqZ i0 (.ofNat 7) = false) (k6 : eqZ i0 (.ofNat 8) = true) (k7 : cA m 54 [vI a] h1 = some (vB b1, h2)) (k8 : (!b1) = false) (k9 : cA m 54 [vI b] h2 = some (vB b2, h3)) (k10 : (!b2) = false) (k11 : cA m 57 [vG [aI o, aI (.ofNat 0), aI (.ofNat 0), AV.int IntKind.u64 v, aI t, aM l, aM bd, aM el, aB q]] h3 = some (vB b0, h0)) :
  bB m 33 [vG (nC o a b v t l bd el q)] h = some ((vB b0, h0)) :=
 bY (qS [32] [12, 13, 19, 36, 45, 50] [(2, 1, (vB b3))] [(1, 2, LV.tup [AV.agg [aI i1, aS s0, aI i0, aM l0, aI i2, aI i3, aB b4], v0], h1), (11, 2, vB b1, h2), (11, 7, vB b2, h3), (22, 1, vB b0, h0)]) (tZ k0 (tA k1 (tZ k2 (tZ k3 (tZ k4 (tZ k5 (uF3 (tZ k6 (tA k7 (tZ k8 (uF2 (tA k9 (uF2 (tZ k10 (tA k11 (tR ((vB b0, h0)))))))))))))))))) (by kernel_rfl)
theorem w19_11 (k0 : (lookV o, h) = (LV.tup [AV.agg [aI i1, aS s0, aI i0, aM l0, aI i2, aI i3, aB b1], v0], h0)) (k1 : nE m v0 b0) (k2 : b0 = false) (k3 : eqZ i0 (.ofNat 2) = false) (k4 : eqZ i0 (.ofNat 10) = false) (k5 : eqZ i0 (.ofNat 7) = false) (k6 : eqZ i0 (.ofNat 8) = false) (k7 : (ByteArray.toList s0 == ByteArray.toList { data := #[98, 114, 95, 116, 97, 98, 108, 101] }) = true) (k8 : eqZ (.ofNat l.length) (.ofNat 0) = true) :
  bB m 33 [vG (nC o a b v t l bd el q)] h = some ((vB false, h0)) :=
 bY (qS [53, 61] [12, 13, 19, 36, 32] [(2, 1, (vB b0))] [(1, 2, LV.tup [AV.agg [aI i1, aS s0, aI i0, aM l0, aI i2, aI i3, aB b1], v0], h0)]) (tZ k0 (tA k1 (tZ k2 (tZ k3 (tZ k4 (tZ k5 (uF3 (tZ k6 (tZ k7 (tZ k8 (uT3 (tR ((vB false, h0)))))))))))))) (by kernel_rfl)
theorem w19_12 (k0 : (lookV o, h) = (LV.tup [AV.agg [aI i1, aS s0, aI i0, aM l0, aI i2, aI i3, aB b2], v0], h1)) (k1 : nE m v0 b1) (k2 : b1 = false) (k3 : eqZ i0 (.ofNat 2) = false) (k4 : eqZ i0 (.ofNat 10) = false) (k5 : eqZ i0 (.ofNat 7) = false) (k6 : eqZ i0 (.ofNat 8) = false) (k7 : (ByteArray.toList s0 == ByteArray.toList { data := #[98, 114, 95, 116, 97, 98, 108, 101] }) = true) (k8 : eqZ (.ofNat l.length) (.ofNat 0) = false) (k9 : cA m 55 [vM l, LV.v (AV.fn 56 [] [])] h1 = some (vB b0, h0)) (k10 : b0 = true) :
  bB m 33 [vG (nC o a b v t l bd el q)] h = some ((vB false, h0)) :=
 bY (qS [53, 65] [12, 13, 19, 36, 32, 61] [(2, 1, (vB b1))] [(1, 2, LV.tup [AV.agg [aI i1, aS s0, aI i0, aM l0, aI i2, aI i3, aB b2], v0], h1), (15, 7, vB b0, h0)]) (tZ k0 (tA k1 (tZ k2 (tZ k3 (tZ k4 (tZ k5 (uF3 (tZ k6 (tZ k7 (tZ k8 (uF2 (tA k9 (tA tF (tZ k10 (tR ((vB false, h0))))))))))))))))) (by kernel_rfl)
theorem w19_13 (k0 : (lookV o, h) = (LV.tup [AV.agg [aI i1, aS s0, aI i0, aM l0, aI i2, aI i3, aB b3], v0], h1)) (k1 : nE m v0 b2) (k2 : b2 = false) (k3 : eqZ i0 (.ofNat 2) = false) (k4 : eqZ i0 (.ofNat 10) = false) (k5 : eqZ i0 (.ofNat 7) = false) (k6 : eqZ i0 (.ofNat 8) = false) (k7 : (ByteArray.toList s0 == ByteArray.toList { data := #[98, 114, 95, 116, 97, 98, 108, 101] }) = true) (k8 : eqZ (.ofNat l.length) (.ofNat 0) = false) (k9 : cA m 55 [vM l, LV.v (AV.fn 56 [] [])] h1 = some (vB b1, h2)) (k10 : b1 = false) (k11 : cA m 57 [vG (nC o a b v t [] bd el q)] h2 = some (vB b0, h0)) :
  bB m 33 [vG (nC o a b v t l bd el q)] h = some ((vB b0, h0)) :=
 bY (qS [53] [12, 13, 19, 36, 32, 61, 65] [(2, 1, (vB b2))] [(1, 2, LV.tup [AV.agg [aI i1, aS s0, aI i0, aM l0, aI i2, aI i3, aB b3], v0], h1), (15, 7, vB b1, h2), (22, 1, vB b0, h0)]) (tZ k0 (tA k1 (tZ k2 (tZ k3 (tZ k4 (tZ k5 (uF3 (tZ k6 (tZ k7 (tZ k8 (uF2 (tA k9 (tA tF (tZ k10 (tA k11 (tR ((vB b0, h0)))))))))))))))))) (by kernel_rfl)
theorem w19_14 (k0 : (lookV o, h) = (LV.tup [AV.agg [aI i1, aS s0, aI i0, aM l0, aI i2, aI i3, aB b2], v0], h1)) (k1 : nE m v0 b1) (k2 : b1 = false) (k3 : eqZ i0 (.ofNat 2) = false) (k4 : eqZ i0 (.ofNat 10) = false) (k5 : eqZ i0 (.ofNat 7) = false) (k6 : eqZ i0 (.ofNat 8) = false) (k7 : (ByteArray.toList s0 == ByteArray.toList { data := #[98, 114, 95, 116, 97, 98, 108, 101] }) = false) (k8 : eqZ i0 (.ofNat 4) = true) (k9 : cA m 54 [vI a] h1 = some (vB b0, h0)) (k10 : (!b0) = true) :
  bB m 33 [vG (nC o a b v t l bd el q)] h = some ((vB false, h0)) :=
 bY (qS [71, 89] [12, 13, 19, 36, 32, 53] [(2, 1, (vB b1))] [(1, 2, LV.tup [AV.agg [aI i1, aS s0, aI i0, aM l0, aI i2, aI i3, aB b2], v0], h1), (19, 2, vB b0, h0)]) (tZ k0 (tA k1 (tZ k2 (tZ k3 (tZ k4 (tZ k5 (uF3 (tZ k6 (tZ k7 (tZ k8 (uT3 (tA k9 (tZ k10 (tR ((vB false, h0)))))))))))))))) (by kernel_rfl)
theorem w19_15 (k0 : (lookV o, h) = (LV.tup [AV.agg [aI i1, aS s0, aI i0, aM l0, aI i2, aI i3, aB b3], v0], h1)) (k1 : nE m v0 b2) (k2 : b2 = false) (k3 : eqZ i0 (.ofNat 2) = false) (k4 : eqZ i0 (.ofNat 10) = false) (k5 : eqZ i0 (.ofNat 7) = false) (k6 : eqZ i0 (.ofNat 8) = false) (k7 : (ByteArray.toList s0 == ByteArray.toList { data := #[98, 114, 95, 116, 97, 98, 108, 101] }) = false) (k8 : eqZ i0 (.ofNat 4) = true) (k9 : cA m 54 [vI a] h1 = some (vB b1, h2)) (k10 : (!b1) = false) (k11 : cA m 57 [vG [aI o, aI (.ofNat 0), aI b, AV.int IntKind.u64 v, aI t, aM l, aM bd, aM el, aB q]] h2 = some (vB b0, h0)) :
  bB m 33 [vG (nC o a b v t l bd el q)] h = some ((vB b0, h0)) :=
 bY (qS [71] [12, 13, 19, 36, 32, 53, 89] [(2, 1, (vB b2))] [(1, 2, LV.tup [AV.agg [aI i1, aS s0, aI i0, aM l0, aI i2, aI i3, aB b3], v0], h1), (19, 2, vB b1, h2), (22, 1, vB b0, h0)]) (tZ k0 (tA k1 (tZ k2 (tZ k3 (tZ k4 (tZ k5 (uF3 (tZ k6 (tZ k7 (tZ k8 (uT3 (tA k9 (tZ k10 (tA k11 (tR ((vB b0, h0))))))))))))))))) (by kernel_rfl)
theorem w19_16 (k0 : (lookV o, h) = (LV.tup [AV.agg [aI i1, aS s0, aI i0, aM l0, aI i2, aI i3, aB b2], v0], h1)) (k1 : nE m v0 b1) (k2 : b1 = false) (k3 : eqZ i0 (.ofNat 2) = false) (k4 : eqZ i0 (.ofNat 10) = false) (k5 : eqZ i0 (.ofNat 7) = false) (k6 : eqZ i0 (.ofNat 8) = false) (k7 : (ByteArray.toList s0 == ByteArray.toList { data := #[98, 114, 95, 116, 97, 98, 108, 101] }) = false) (k8 : eqZ i0 (.ofNat 4) = false) (k9 : eqZ i0 (.ofNat 6) = true) (k10 : cA m 54 [vI a] h1 = some (vB b0, h0)) (k11 : (!b0) = true) :
  bB m 33 [vG (nC o a b v t l bd el q)] h = some ((vB false, h0)) :=
 bY (qS [76, 89] [12, 13, 19, 36, 32, 53, 71] [(2, 1, (vB b1))] [(1, 2, LV.tup [AV.agg [aI i1, aS s0, aI i0, aM l0, aI i2, aI i3, aB b2], v0], h1), (19, 2, vB b0, h0)]) (tZ k0 (tA k1 (tZ k2 (tZ k3 (tZ k4 (tZ k5 (uF3 (tZ k6 (tZ k7 (tZ k8 (uF3 (tZ k9 (uT5 (tA k10 (tZ k11 (tR ((vB false, h0)))))))))))))))))) (by kernel_rfl)
theorem w19_17 (k0 : (lookV o, h) = (LV.tup [AV.agg [aI i1, aS s0, aI i0, aM l0, aI i2, aI i3, aB b3], v0], h1)) (k1 : nE m v0 b2) (k2 : b2 = false) (k3 : eqZ i0 (.ofNat 2) = false) (k4 : eqZ i0 (.ofNat 10) = false) (k5 : eqZ i0 (.ofNat 7) = false) (k6 : eqZ i0 (.ofNat 8) = false) (k7 : (ByteArray.toList s0 == ByteArray.toList { data := #[98, 114, 95, 116, 97, 98, 108, 101] }) = false) (k8 : eqZ i0 (.ofNat 4) = false) (k9 : eqZ i0 (.ofNat 6) = true) (k10 : cA m 54 [vI a] h1 = some (vB b1, h2)) (k11 : (!b1) = false) (k12 : cA m 57 [vG [aI o, aI (.ofNat 0), aI b, AV.int IntKind.u64 v, aI t, aM l, aM bd, aM el, aB q]] h2 = some (vB b0, h0)) :
  bB m 33 [vG (nC o a b v t l bd el q)] h = some ((vB b0, h0)) :=
 bY (qS [76] [12, 13, 19, 36, 32, 53, 71, 89] [(2, 1, (vB b2))] [(1, 2, LV.tup [AV.agg [aI i1, aS s0, aI i0, aM l0, aI i2, aI i3, aB b3], v0], h1), (19, 2, vB b1, h2), (22, 1, vB b0, h0)]) (tZ k0 (tA k1 (tZ k2 (tZ k3 (tZ k4 (tZ k5 (uF3 (tZ k6 (tZ k7 (tZ k8 (uF3 (tZ k9 (uT5 (tA k10 (tZ k11 (tA k12 (tR ((vB b0, h0))))))))))))))))))) (by kernel_rfl)
theorem w19_18 (k0 : (lookV o, h) = (LV.tup [AV.agg [aI i1, aS s0, aI i0, aM l0, aI i2, aI i3, aB b2], v0], h1)) (k1 : nE m v0 b1) (k2 : b1 = false) (k3 : eqZ i0 (.ofNat 2) = false) (k4 : eqZ i0 (.ofNat 10) = false) (k5 : eqZ i0 (.ofNat 7) = false) (k6 : eqZ i0 (.ofNat 8) = false) (k7 : (ByteArray.toList s0 == ByteArray.toList { data := #[98, 114, 95, 116, 97, 98, 108, 101] }) = false) (k8 : eqZ i0 (.ofNat 4) = false) (k9 : eqZ i0 (.ofNat 6) = false) (k10 : eqZ i0 (.ofNat 3) = true) (k11 : (!ByteArray.toList s0 == ByteArray.toList { data := #[114, 101, 116, 117, 114, 110] }) = true) (k12 : cA m 54 [vI a] h1 = some (vB b0, h0)) (k13 : (!b0) = true) :
  bB m 33 [vG (nC o a b v t l bd el q)] h = some ((vB false, h0)) :=
 bY (qS [80, 67, 89] [12, 13, 19, 36, 32, 53, 71, 76] [(2, 1, (vB b1))] [(1, 2, LV.tup [AV.agg [aI i1, aS s0, aI i0, aM l0, aI i2, aI i3, aB b2], v0], h1), (19, 2, vB b0, h0)]) (tZ k0 (tA k1 (tZ k2 (tZ k3 (tZ k4 (tZ k5 (uF3 (tZ k6 (tZ k7 (tZ k8 (uF3 (tZ k9 (uF3 (tZ k10 (uT2 (tA tF (tA tT (tA tF (tZ k11 (tA k12 (tZ k13 (tR ((vB false, h0)))))))))))))))))))))))) (by kernel_rfl)
theorem w19_19 (k0 : (lookV o, h) = (LV.tup [AV.agg [aI i1, aS s0, aI i0, aM l0, aI i2, aI i3, aB b3], v0], h1)) (k1 : nE m v0 b2) (k2 : b2 = false) (k3 : eqZ i0 (.ofNat 2) = false) (k4 : eqZ i0 (.ofNat 10) = false) (k5 : eqZ i0 (.ofNat 7) = false) (k6 : eqZ i0 (.ofNat 8) = false) (k7 : (ByteArray.toList s0 == ByteArray.toList { data := #[98, 114, 95, 116, 97, 98, 108, 101] }) = false) (k8 : eqZ i0 (.ofNat 4) = false) (k9 : eqZ i0 (.ofNat 6) = false) (k10 : eqZ i0 (.ofNat 3) = true) (k11 : (!ByteArray.toList s0 == ByteArray.toList { data := #[114, 101, 116, 117, 114, 110] }) = true) (k12 : cA m 54 [vI a] h1 = some (vB b1, h2)) (k13 : (!b1) = false) (k14 : cA m 57 [vG [aI o, aI (.ofNat 0), aI b, AV.int IntKind.u64 v, aI t, aM l, aM bd, aM el, aB q]] h2 = some (vB b0, h0)) :
  bB m 33 [vG (nC o a b v t l bd el q)] h = some ((vB b0, h0)) :=
 bY (qS [80, 67] [12, 13, 19, 36, 32, 53, 71, 76, 89] [(2, 1, (vB b2))] [(1, 2, LV.tup [AV.agg [aI i1, aS s0, aI i0, aM l0, aI i2, aI i3, aB b3], v0], h1), (19, 2, vB b1, h2), (22, 1, vB b0, h0)]) (tZ k0 (tA k1 (tZ k2 (tZ k3 (tZ k4 (tZ k5 (uF3 (tZ k6 (tZ k7 (tZ k8 (uF3 (tZ k9 (uF3 (tZ k10 (uT2 (tA tF (tA tT (tA tF (tZ k11 (tA k12 (tZ k13 (tA k14 (tR ((vB b0, h0))))))))))))))))))))))))) (by kernel_rfl)
theorem w19_20 (k0 : (lookV o, h) = (LV.tup [AV.agg [aI i1, aS s0, aI i0, aM l0, aI i2, aI i3, aB b2], v0], h1)) (k1 : nE m v0 b1) (k2 : b1 = false) (k3 : eqZ i0 (.ofNat 2) = false) (k4 : eqZ i0 (.ofNat 10) = false) (k5 : eqZ i0 (.ofNat 7) = false) (k6 : eqZ i0 (.ofNat 8) = false) (k7 : (ByteArray.toList s0 == ByteArray.toList { data := #[98, 114, 95, 116, 97, 98, 108, 101] }) = false) (k8 : eqZ i0 (.ofNat 4) = false) (k9 : eqZ i0 (.ofNat 6) = false) (k10 : eqZ i0 (.ofNat 3) = true) (k11 : (!ByteArray.toList s0 == ByteArray.toList { data := #[114, 101, 116, 117, 114, 110] }) = false) (k12 : cA m 57 [vG (nC o a b v t l bd el q)] h1 = some (vB b0, h0)) :
  bB m 33 [vG (nC o a b v t l bd el q)] h = some ((vB b0, h0)) :=
 bY (qS [80] [12, 13, 19, 36, 32, 53, 71, 76, 67] [(2, 1, (vB b1))] [(1, 2, LV.tup [AV.agg [aI i1, aS s0, aI i0, aM l0, aI i2, aI i3, aB b2], v0], h1), (22, 1, vB b0, h0)]) (tZ k0 (tA k1 (tZ k2 (tZ k3 (tZ k4 (tZ k5 (uF3 (tZ k6 (tZ k7 (tZ k8 (uF3 (tZ k9 (uF3 (tZ k10 (uT2 (tA tF (tA tT (tA tF (tZ k11 (tA k12 (tR ((vB b0, h0))))))))))))))))))))))) (by kernel_rfl)
theorem w19_21 (k0 : (lookV o, h) = (LV.tup [AV.agg [aI i1, aS s0, aI i0, aM l0, aI i2, aI i3, aB b2], v0], h1)) (k1 : nE m v0 b1) (k2 : b1 = false) (k3 : eqZ i0 (.ofNat 2) = false) (k4 : eqZ i0 (.ofNat 10) = false) (k5 : eqZ i0 (.ofNat 7) = false) (k6 : eqZ i0 (.ofNat 8) = false) (k7 : (ByteArray.toList s0 == ByteArray.toList { data := #[98, 114, 95, 116, 97, 98, 108, 101] }) = false) (k8 : eqZ i0 (.ofNat 4) = false) (k9 : eqZ i0 (.ofNat 6) = false) (k10 : eqZ i0 (.ofNat 3) = false) (k11 : cA m 57 [vG (nC o a b v t l bd el q)] h1 = some (vB b0, h0)) :
  bB m 33 [vG (nC o a b v t l bd el q)] h = some ((vB b0, h0)) :=
 bY (qS [] [12, 13, 19, 36, 32, 53, 71, 76, 80] [(2, 1, (vB b1))] [(1, 2, LV.tup [AV.agg [aI i1, aS s0, aI i0, aM l0, aI i2, aI i3, aB b2], v0], h1), (22, 1, vB b0, h0)]) (tZ k0 (tA k1 (tZ k2 (tZ k3 (tZ k4 (tZ k5 (uF3 (tZ k6 (tZ k7 (tZ k8 (uF3 (tZ k9 (uF3 (tZ k10 (uF5 (tA k11 (tR ((vB b0, h0))))))))))))))))))) (by kernel_rfl)
end Go.Proofs.YthcjapmfchidhaaGreatDoor
namespace Go.Proofs.YthcjapmfchidhaaGreatDoor
set_option maxRecDepth 100000
open Go Go.Proofs.Am
variable {m p b v g i0 i1 : Int} {bs : (LL)} {h : Heap} {r : LV × Heap}
theorem p97_0 (k0 : leZ (.ofNat 1) b = true) (k1 : leZ b (.ofNat 64) = true) (k2 : leZ (.ofNat 0) p = true) :
  bB m 97 [vM bs, vI p, vI b] h = some ((vB (leZ p (.ofNat bs.length)), h)) :=
 bY (qS [9, 13, 17] [] [] []) (tZ k0 (uT2 (tZ k1 (uT2 (tZ k2 (uT4 (tR ((vB (leZ p (.ofNat bs.length)), h))))))))) (by kernel_rfl)
theorem p98_0 (k0 : bA m 98 3 [vM bs, vI p, vI b, LV.v (AV.int IntKind.u64 (.ofNat 0)), vI (.ofNat 0)] h = some r) :
  bB m 98 [vM bs, vI p, vI b] h = some r :=
 bY (qS [] [] [] []) (tA t1 (k0)) (by kernel_rfl)
theorem p98_3_0 (k0 : ltZ g b = true) (k1 : leZ (.ofNat bs.length) p = true) :
  bA m 98 3 [vM bs, vI p, vI b, .v (.int .u64 v), vI g] h = some ((LV.tup [AV.int IntKind.u64 (.ofNat 0), aI (.ofNat 0), aI (.ofNat 0), aB false], h)) :=
 bY (qS [1099998, 1099991] [] [] []) (tZ k0 (tZ k1 (tR ((LV.tup [AV.int IntKind.u64 (.ofNat 0), aI (.ofNat 0), aI (.ofNat 0), aB false], h))))) (by kernel_rfl)
theorem p98_3_1 (k0 : ltZ g b = true) (k1 : leZ (.ofNat bs.length) p = false) (k2 : ixA (aM bs) p 1 = some [AV.int IntKind.u8 i0]) (k3 : binF (Cx.P (cxZ m)) BinOp.shl 46 false (AV.int IntKind.u64 (.ofNat (BitVec.toNat (BitVec.ofInt (IntKind.bits IntKind.u8) i0 &&& BitVec.ofInt (IntKind.bits IntKind.u8) 127) % 256 % 18446744073709551616))) (aI g) = some (AV.int IntKind.u64 i1)) (k4 : ltZ i0 (.ofNat 128) = true) :
  bA m 98 3 [vM bs, vI p, vI b, .v (.int .u64 v), vI g] h = some ((LV.tup [AV.int IntKind.u64 (.ofNat (BitVec.toNat (BitVec.ofInt (IntKind.bits IntKind.u64) v ||| BitVec.ofInt (IntKind.bits IntKind.u64) i1) % 18446744073709551616)), aI (IntKind.wrap .i64 (g + Int.ofNat 7)), aI (IntKind.wrap .i64 (p + Int.ofNat 1)), aB true], h)) :=
 bY (qS [1099998, 1099981] [1099991] [(7, 2, (LV.v (AV.snap [AV.int IntKind.u8 i0]))), (9, 5, (LV.v (AV.int IntKind.u64 i1)))] []) (tZ k0 (tZ k1 (tA (tA t0 (tA tN (k2))) (tA k3 (tZ k4 (tR ((LV.tup [AV.int IntKind.u64 (.ofNat (BitVec.toNat (BitVec.ofInt (IntKind.bits IntKind.u64) v ||| BitVec.ofInt (IntKind.bits IntKind.u64) i1) % 18446744073709551616)), aI (IntKind.wrap .i64 (g + Int.ofNat 7)), aI (IntKind.wrap .i64 (p + Int.ofNat 1)), aB true], h)))))))) (by kernel_rfl)
theorem p98_3_2 (k0 : ltZ g b = true) (k1 : leZ (.ofNat bs.length) p = false) (k2 : ixA (aM bs) p 1 = some [AV.int IntKind.u8 i0]) (k3 : binF (Cx.P (cxZ m)) BinOp.shl 46 false (AV.int IntKind.u64 (.ofNat (BitVec.toNat (BitVec.ofInt (IntKind.bits IntKind.u8) i0 &&& BitVec.ofInt (IntKind.bits IntKind.u8) 127) % 256 % 18446744073709551616))) (aI g) = some (AV.int IntKind.u64 i1)) (k4 : ltZ i0 (.ofNat 128) = false) (k5 : bA m 98 3 [vM bs, vI (IntKind.wrap .i64 (p + Int.ofNat 1)), vI b, LV.v (AV.int IntKind.u64 (.ofNat (BitVec.toNat (BitVec.ofInt (IntKind.bits IntKind.u64) v ||| BitVec.ofInt (IntKind.bits IntKind.u64) i1) % 18446744073709551616))), vI (IntKind.wrap .i64 (g + Int.ofNat 7))] h = some r) :
  bA m 98 3 [vM bs, vI p, vI b, .v (.int .u64 v), vI g] h = some r :=
 bY (qS [1099998] [1099991, 1099981] [(7, 2, (LV.v (AV.snap [AV.int IntKind.u8 i0]))), (9, 5, (LV.v (AV.int IntKind.u64 i1)))] []) (tZ k0 (tZ k1 (tA (tA t0 (tA tN (k2))) (tA k3 (tZ k4 (tA t1 (k5))))))) (by kernel_rfl)
theorem p98_3_3 (k0 : ltZ g b = false) :
  bA m 98 3 [vM bs, vI p, vI b, .v (.int .u64 v), vI g] h = some ((LV.tup [AV.int IntKind.u64 (.ofNat 0), aI (.ofNat 0), aI (.ofNat 0), aB false], h)) :=
 bY (qS [] [1099998] [] []) (tZ k0 (tR ((LV.tup [AV.int IntKind.u64 (.ofNat 0), aI (.ofNat 0), aI (.ofNat 0), aB false], h)))) (by kernel_rfl)
end Go.Proofs.YthcjapmfchidhaaGreatDoor
namespace Go.Proofs.YthcjapmfchidhaaGreatDoor
set_option maxRecDepth 100000
open Go Go.Proofs.Am
variable {m p b i0 i1 i2 i3 i4 i5 i6 : Int} {bs : (LL)} {h h0 h1 : Heap} {b0 b1 : Bool}
theorem p89_1 (k0 : cA m 97 [vM bs, vI p, vI b] h = some (vB b0, h1)) (k1 : (!b0) = false) (k2 : cA m 98 [vM bs, vI p, vI b] h1 = some (LV.tup [AV.int IntKind.u64 i0, aI i1, aI i2, aB b1], h0)) (k3 : (!b1) = true) :
  bB m 89 [vM bs, vI p, vI b] h = some ((LV.tup [AV.int IntKind.u64 (.ofNat 0), aI (.ofNat 0), AV.ifc 32 (aI (.ofNat 2))], h0)) :=
 bY (qS [30] [1099994] [] [(1, 3, vB b0, h1), (3, 3, LV.tup [AV.int IntKind.u64 i0, aI i1, aI i2, aB b1], h0)]) (tA k0 (tZ k1 (tA k2 (tZ k3 (uT5 (tR ((LV.tup [AV.int IntKind.u64 (.ofNat 0), aI (.ofNat 0), AV.ifc 32 (aI (.ofNat 2))], h0)))))))) (by kernel_rfl)
theorem p89_2 (k0 : cA m 97 [vM bs, vI p, vI b] h = some (vB b0, h1)) (k1 : (!b0) = false) (k2 : cA m 98 [vM bs, vI p, vI b] h1 = some (LV.tup [AV.int IntKind.u64 i4, aI i0, aI i1, aB b1], h0)) (k3 : (!b1) = false) (k4 : ltZ b i0 = true) (k5 : ixA (aM bs) (IntKind.wrap .i64 (i1 - Int.ofNat 1)) 1 = some [AV.int IntKind.u8 i2]) (k6 : binF (Cx.P (cxZ m)) BinOp.shr 5 false (AV.int IntKind.u8 i2) (aI (IntKind.wrap .i64 (IntKind.wrap .i64 (b + Int.ofNat 7) - i0))) = some (AV.int IntKind.u8 i3)) (k7 : (!eqZ i3 (.ofNat 0)) = true) :
  bB m 89 [vM bs, vI p, vI b] h = some ((LV.tup [AV.int IntKind.u64 (.ofNat 0), aI (.ofNat 0), AV.ifc 32 (aI (.ofNat 2))], h0)) :=
 bY (qS [34, 1099987] [1099994, 30] [(4, 10, (LV.v (AV.snap [AV.int IntKind.u8 i2]))), (4, 16, (LV.v (AV.int IntKind.u8 i3)))] [(1, 3, vB b0, h1), (3, 3, LV.tup [AV.int IntKind.u64 i4, aI i0, aI i1, aB b1], h0)]) (tA k0 (tZ k1 (tA k2 (tZ k3 (uF3 (tZ k4 (uT3 (tA (tA t0 (tA tN (k5))) (uT6 (tA k6 (tA tT (tA tF (tA tT (tA tF (tZ k7 (tR ((LV.tup [AV.int IntKind.u64 (.ofNat 0), aI (.ofNat 0), AV.ifc 32 (aI (.ofNat 2))], h0)))))))))))))))))) (by kernel_rfl)
theorem p89_3 (k0 : cA m 97 [vM bs, vI p, vI b] h = some (vB b0, h1)) (k1 : (!b0) = false) (k2 : cA m 98 [vM bs, vI p, vI b] h1 = some (LV.tup [AV.int IntKind.u64 i1, aI i2, aI i0, aB b1], h0)) (k3 : (!b1) = false) (k4 : ltZ b i2 = true) (k5 : ixA (aM bs) (IntKind.wrap .i64 (i0 - Int.ofNat 1)) 1 = some [AV.int IntKind.u8 i3]) (k6 : binF (Cx.P (cxZ m)) BinOp.shr 5 false (AV.int IntKind.u8 i3) (aI (IntKind.wrap .i64 (IntKind.wrap .i64 (b + Int.ofNat 7) - i2))) = some (AV.int IntKind.u8 i4)) (k7 : (!eqZ i4 (.ofNat 0)) = false) :
  bB m 89 [vM bs, vI p, vI b] h = some ((LV.tup [AV.int IntKind.u64 i1, aI i0, AV.nilI], h0)) :=
 bY (qS [34] [1099994, 30, 1099987] [(4, 10, (LV.v (AV.snap [AV.int IntKind.u8 i3]))), (4, 16, (LV.v (AV.int IntKind.u8 i4)))] [(1, 3, vB b0, h1), (3, 3, LV.tup [AV.int IntKind.u64 i1, aI i2, aI i0, aB b1], h0)]) (tA k0 (tZ k1 (tA k2 (tZ k3 (uF3 (tZ k4 (uT3 (tA (tA t0 (tA tN (k5))) (uT6 (tA k6 (tA tT (tA tF (tA tT (tA tF (tZ k7 (tR ((LV.tup [AV.int IntKind.u64 i1, aI i0, AV.nilI], h0)))))))))))))))))) (by kernel_rfl)
theorem p89_4 (k0 : cA m 97 [vM bs, vI p, vI b] h = some (vB b0, h1)) (k1 : (!b0) = false) (k2 : cA m 98 [vM bs, vI p, vI b] h1 = some (LV.tup [AV.int IntKind.u64 i0, aI i2, aI i1, aB b1], h0)) (k3 : (!b1) = false) (k4 : ltZ b i2 = false) :
  bB m 89 [vM bs, vI p, vI b] h = some ((LV.tup [AV.int IntKind.u64 i0, aI i1, AV.nilI], h0)) :=
 bY (qS [] [1099994, 30, 34] [] [(1, 3, vB b0, h1), (3, 3, LV.tup [AV.int IntKind.u64 i0, aI i2, aI i1, aB b1], h0)]) (tA k0 (tZ k1 (tA k2 (tZ k3 (uF3 (tZ k4 (uF9 (uF4 (tR ((LV.tup [AV.int IntKind.u64 i0, aI i1, AV.nilI], h0))))))))))) (by kernel_rfl)
theorem p90_1 (k0 : cA m 97 [vM bs, vI p, vI b] h = some (vB b0, h1)) (k1 : (!b0) = false) (k2 : cA m 98 [vM bs, vI p, vI b] h1 = some (LV.tup [AV.int IntKind.u64 i0, aI i1, aI i2, aB b1], h0)) (k3 : (!b1) = true) :
  bB m 90 [vM bs, vI p, vI b] h = some ((LV.tup [aI (.ofNat 0), aI (.ofNat 0), AV.ifc 32 (aI (.ofNat 2))], h0)) :=
 bY (qS [1099987] [1099994] [] [(1, 3, vB b0, h1), (3, 3, LV.tup [AV.int IntKind.u64 i0, aI i1, aI i2, aB b1], h0)]) (tA k0 (tZ k1 (tA k2 (tZ k3 (tR ((LV.tup [aI (.ofNat 0), aI (.ofNat 0), AV.ifc 32 (aI (.ofNat 2))], h0))))))) (by kernel_rfl)
theorem p90_2 (k0 : cA m 97 [vM bs, vI p, vI b] h = some (vB b0, h1)) (k1 : (!b0) = false) (k2 : cA m 98 [vM bs, vI p, vI b] h1 = some (LV.tup [AV.int IntKind.u64 i5, aI i0, aI i2, aB b1], h0)) (k3 : (!b1) = false) (k4 : ixA (aM bs) (IntKind.wrap .i64 (i2 - Int.ofNat 1)) 1 = some [AV.int IntKind.u8 i3]) (k5 : ltZ b i0 = true) (k6 : binF (Cx.P (cxZ m)) BinOp.shr 5 false (AV.int IntKind.u8 i3) (aI (IntKind.wrap .i64 (IntKind.wrap .i64 (IntKind.wrap .i64 (b + Int.ofNat 7) - i0) - Int.ofNat 1))) = some (AV.int IntKind.u8 i1)) (k7 : (!eqZ i1 (.ofNat 0)) = true) (k8 : binF (Cx.P (cxZ m)) BinOp.shr 5 true (AV.int IntKind.u8 (.ofNat 127)) (aI (IntKind.wrap .i64 (IntKind.wrap .i64 (IntKind.wrap .i64 (b + Int.ofNat 7) - i0) - Int.ofNat 1))) = some (AV.int IntKind.u8 i4)) (k9 : (!eqZ i1 i4) = true) :
  bB m 90 [vM bs, vI p, vI b] h = some ((LV.tup [aI (.ofNat 0), aI (.ofNat 0), AV.ifc 32 (aI (.ofNat 2))], h0)) :=
 bY (qS [1099980, 52, 1099973] [1099994, 1099987] [(6, 3, (LV.v (AV.snap [AV.int IntKind.u8 i3]))), (9, 3, (LV.v (AV.int IntKind.u8 i1))), (10, 6, (LV.v (AV.int IntKind.u8 i4)))] [(1, 3, vB b0, h1), (3, 3, LV.tup [AV.int IntKind.u64 i5, aI i0, aI i2, aB b1], h0)]) (tA k0 (tZ k1 (tA k2 (tZ k3 (tA (tA t0 (tA tN (k4))) (tZ k5 (tA k6 (tZ k7 (uT3 (tA k8 (uT2 (tZ k9 (tR ((LV.tup [aI (.ofNat 0), aI (.ofNat 0), AV.ifc 32 (aI (.ofNat 2))], h0))))))))))))))) (by kernel_rfl)
theorem p90_3 (k0 : cA m 97 [vM bs, vI p, vI b] h = some (vB b0, h1)) (k1 : (!b0) = false) (k2 : cA m 98 [vM bs, vI p, vI b] h1 = some (LV.tup [AV.int IntKind.u64 i2, aI i0, aI i1, aB b1], h0)) (k3 : (!b1) = false) (k4 : ixA (aM bs) (IntKind.wrap .i64 (i1 - Int.ofNat 1)) 1 = some [AV.int IntKind.u8 i3]) (k5 : ltZ b i0 = true) (k6 : binF (Cx.P (cxZ m)) BinOp.shr 5 false (AV.int IntKind.u8 i3) (aI (IntKind.wrap .i64 (IntKind.wrap .i64 (IntKind.wrap .i64 (b + Int.ofNat 7) - i0) - Int.ofNat 1))) = some (AV.int IntKind.u8 i4)) (k7 : (!eqZ i4 (.ofNat 0)) = true) (k8 : binF (Cx.P (cxZ m)) BinOp.shr 5 true (AV.int IntKind.u8 (.ofNat 127)) (aI (IntKind.wrap .i64 (IntKind.wrap .i64 (IntKind.wrap .i64 (b + Int.ofNat 7) - i0) - Int.ofNat 1))) = some (AV.int IntKind.u8 i6)) (k9 : (!eqZ i4 i6) = false) (k10 : ltZ i0 (.ofNat 64) = true) (k11 : (!eqZ (.ofNat (BitVec.toNat (BitVec.ofInt (IntKind.bits IntKind.u8) i3 &&& BitVec.ofInt (IntKind.bits IntKind.u8) 64) % 256)) (.ofNat 0)) = true) (k12 : binF (Cx.P (cxZ m)) BinOp.shl 46 true (AV.int IntKind.u64 (.ofNat 18446744073709551615)) (aI i0) = some (AV.int IntKind.u64 i5)) :
  bB m 90 [vM bs, vI p, vI b] h = some ((LV.tup [aI (IntKind.wrap .i64 (.ofNat (BitVec.toNat (BitVec.ofInt (IntKind.bits IntKind.u64) i2 ||| BitVec.ofInt (IntKind.bits IntKind.u64) i5) % 18446744073709551616))), aI i1, AV.nilI], h0)) :=
 bY (qS [1099980, 52, 62, 1099968] [1099994, 1099987, 1099973] [(6, 3, (LV.v (AV.snap [AV.int IntKind.u8 i3]))), (9, 3, (LV.v (AV.int IntKind.u8 i4))), (10, 6, (LV.v (AV.int IntKind.u8 i6))), (13, 2, (LV.v (AV.int IntKind.u64 i5)))] [(1, 3, vB b0, h1), (3, 3, LV.tup [AV.int IntKind.u64 i2, aI i0, aI i1, aB b1], h0)]) (tA k0 (tZ k1 (tA k2 (tZ k3 (tA (tA t0 (tA tN (k4))) (tZ k5 (tA k6 (tZ k7 (uT3 (tA k8 (uT2 (tZ k9 (tZ k10 (uT3 (tZ k11 (tA k12 (tR ((LV.tup [aI (IntKind.wrap .i64 (.ofNat (BitVec.toNat (BitVec.ofInt (IntKind.bits IntKind.u64) i2 ||| BitVec.ofInt (IntKind.bits IntKind.u64) i5) % 18446744073709551616))), aI i1, AV.nilI], h0))))))))))))))))))) (by kernel_rfl)
theorem p90_5 (k0 : cA m 97 [vM bs, vI p, vI b] h = some (vB b0, h1)) (k1 : (!b0) = false) (k2 : cA m 98 [vM bs, vI p, vI b] h1 = some (LV.tup [AV.int IntKind.u64 i2, aI i0, aI i1, aB b1], h0)) (k3 : (!b1) = false) (k4 : ixA (aM bs) (IntKind.wrap .i64 (i1 - Int.ofNat 1)) 1 = some [AV.int IntKind.u8 i4]) (k5 : ltZ b i0 = true) (k6 : binF (Cx.P (cxZ m)) BinOp.shr 5 false (AV.int IntKind.u8 i4) (aI (IntKind.wrap .i64 (IntKind.wrap .i64 (IntKind.wrap .i64 (b + Int.ofNat 7) - i0) - Int.ofNat 1))) = some (AV.int IntKind.u8 i3)) (k7 : (!eqZ i3 (.ofNat 0)) = true) (k8 : binF (Cx.P (cxZ m)) BinOp.shr 5 true (AV.int IntKind.u8 (.ofNat 127)) (aI (IntKind.wrap .i64 (IntKind.wrap .i64 (IntKind.wrap .i64 (b + Int.ofNat 7) - i0) - Int.ofNat 1))) = some (AV.int IntKind.u8 i5)) (k9 : (!eqZ i3 i5) = false) (k10 : ltZ i0 (.ofNat 64) = false) :
  bB m 90 [vM bs, vI p, vI b] h = some ((LV.tup [aI (IntKind.wrap .i64 i2), aI i1, AV.nilI], h0)) :=
 bY (qS [1099980, 52] [1099994, 1099987, 1099973, 62] [(6, 3, (LV.v (AV.snap [AV.int IntKind.u8 i4]))), (9, 3, (LV.v (AV.int IntKind.u8 i3))), (10, 6, (LV.v (AV.int IntKind.u8 i5)))] [(1, 3, vB b0, h1), (3, 3, LV.tup [AV.int IntKind.u64 i2, aI i0, aI i1, aB b1], h0)]) (tA k0 (tZ k1 (tA k2 (tZ k3 (tA (tA t0 (tA tN (k4))) (tZ k5 (tA k6 (tZ k7 (uT3 (tA k8 (uT2 (tZ k9 (tZ k10 (uF3 (tR ((LV.tup [aI (IntKind.wrap .i64 i2), aI i1, AV.nilI], h0))))))))))))))))) (by kernel_rfl)
theorem p90_7 (k0 : cA m 97 [vM bs, vI p, vI b] h = some (vB b0, h1)) (k1 : (!b0) = false) (k2 : cA m 98 [vM bs, vI p, vI b] h1 = some (LV.tup [AV.int IntKind.u64 i2, aI i0, aI i1, aB b1], h0)) (k3 : (!b1) = false) (k4 : ixA (aM bs) (IntKind.wrap .i64 (i1 - Int.ofNat 1)) 1 = some [AV.int IntKind.u8 i3]) (k5 : ltZ b i0 = true) (k6 : binF (Cx.P (cxZ m)) BinOp.shr 5 false (AV.int IntKind.u8 i3) (aI (IntKind.wrap .i64 (IntKind.wrap .i64 (IntKind.wrap .i64 (b + Int.ofNat 7) - i0) - Int.ofNat 1))) = some (AV.int IntKind.u8 i4)) (k7 : (!eqZ i4 (.ofNat 0)) = false) (k8 : ltZ i0 (.ofNat 64) = true) (k9 : (!eqZ (.ofNat (BitVec.toNat (BitVec.ofInt (IntKind.bits IntKind.u8) i3 &&& BitVec.ofInt (IntKind.bits IntKind.u8) 64) % 256)) (.ofNat 0)) = false) :
  bB m 90 [vM bs, vI p, vI b] h = some ((LV.tup [aI (IntKind.wrap .i64 i2), aI i1, AV.nilI], h0)) :=
 bY (qS [1099980, 62] [1099994, 1099987, 52, 1099968] [(6, 3, (LV.v (AV.snap [AV.int IntKind.u8 i3]))), (9, 3, (LV.v (AV.int IntKind.u8 i4)))] [(1, 3, vB b0, h1), (3, 3, LV.tup [AV.int IntKind.u64 i2, aI i0, aI i1, aB b1], h0)]) (tA k0 (tZ k1 (tA k2 (tZ k3 (tA (tA t0 (tA tN (k4))) (tZ k5 (tA k6 (tZ k7 (uF5 (tZ k8 (uT3 (tZ k9 (tR ((LV.tup [aI (IntKind.wrap .i64 i2), aI i1, AV.nilI], h0))))))))))))))) (by kernel_rfl)
theorem p90_8 (k0 : cA m 97 [vM bs, vI p, vI b] h = some (vB b0, h1)) (k1 : (!b0) = false) (k2 : cA m 98 [vM bs, vI p, vI b] h1 = some (LV.tup [AV.int IntKind.u64 i2, aI i0, aI i1, aB b1], h0)) (k3 : (!b1) = false) (k4 : ixA (aM bs) (IntKind.wrap .i64 (i1 - Int.ofNat 1)) 1 = some [AV.int IntKind.u8 i3]) (k5 : ltZ b i0 = true) (k6 : binF (Cx.P (cxZ m)) BinOp.shr 5 false (AV.int IntKind.u8 i3) (aI (IntKind.wrap .i64 (IntKind.wrap .i64 (IntKind.wrap .i64 (b + Int.ofNat 7) - i0) - Int.ofNat 1))) = some (AV.int IntKind.u8 i4)) (k7 : (!eqZ i4 (.ofNat 0)) = false) (k8 : ltZ i0 (.ofNat 64) = false) :
  bB m 90 [vM bs, vI p, vI b] h = some ((LV.tup [aI (IntKind.wrap .i64 i2), aI i1, AV.nilI], h0)) :=
 bY (qS [1099980] [1099994, 1099987, 52, 62] [(6, 3, (LV.v (AV.snap [AV.int IntKind.u8 i3]))), (9, 3, (LV.v (AV.int IntKind.u8 i4)))] [(1, 3, vB b0, h1), (3, 3, LV.tup [AV.int IntKind.u64 i2, aI i0, aI i1, aB b1], h0)]) (tA k0 (tZ k1 (tA k2 (tZ k3 (tA (tA t0 (tA tN (k4))) (tZ k5 (tA k6 (tZ k7 (uF5 (tZ k8 (uF3 (tR ((LV.tup [aI (IntKind.wrap .i64 i2), aI i1, AV.nilI], h0)))))))))))))) (by kernel_rfl)
theorem p90_9 (k0 : cA m 97 [vM bs, vI p, vI b] h = some (vB b0, h1)) (k1 : (!b0) = false) (k2 : cA m 98 [vM bs, vI p, vI b] h1 = some (LV.tup [AV.int IntKind.u64 i2, aI i0, aI i1, aB b1], h0)) (k3 : (!b1) = false) (k4 : ixA (aM bs) (IntKind.wrap .i64 (i1 - Int.ofNat 1)) 1 = some [AV.int IntKind.u8 i4]) (k5 : ltZ b i0 = false) (k6 : ltZ i0 (.ofNat 64) = true) (k7 : (!eqZ (.ofNat (BitVec.toNat (BitVec.ofInt (IntKind.bits IntKind.u8) i4 &&& BitVec.ofInt (IntKind.bits IntKind.u8) 64) % 256)) (.ofNat 0)) = true) (k8 : binF (Cx.P (cxZ m)) BinOp.shl 46 true (AV.int IntKind.u64 (.ofNat 18446744073709551615)) (aI i0) = some (AV.int IntKind.u64 i3)) :
  bB m 90 [vM bs, vI p, vI b] h = some ((LV.tup [aI (IntKind.wrap .i64 (.ofNat (BitVec.toNat (BitVec.ofInt (IntKind.bits IntKind.u64) i2 ||| BitVec.ofInt (IntKind.bits IntKind.u64) i3) % 18446744073709551616))), aI i1, AV.nilI], h0)) :=
 bY (qS [62, 1099975] [1099994, 1099987, 1099980] [(6, 3, (LV.v (AV.snap [AV.int IntKind.u8 i4]))), (13, 2, (LV.v (AV.int IntKind.u64 i3)))] [(1, 3, vB b0, h1), (3, 3, LV.tup [AV.int IntKind.u64 i2, aI i0, aI i1, aB b1], h0)]) (tA k0 (tZ k1 (tA k2 (tZ k3 (tA (tA t0 (tA tN (k4))) (tZ k5 (tZ k6 (uT3 (tZ k7 (tA k8 (tR ((LV.tup [aI (IntKind.wrap .i64 (.ofNat (BitVec.toNat (BitVec.ofInt (IntKind.bits IntKind.u64) i2 ||| BitVec.ofInt (IntKind.bits IntKind.u64) i3) % 18446744073709551616))), aI i1, AV.nilI], h0))))))))))))) (by kernel_rfl)
theorem p90_10 (k0 : cA m 97 [vM bs, vI p, vI b] h = some (vB b0, h1)) (k1 : (!b0) = false) (k2 : cA m 98 [vM bs, vI p, vI b] h1 = some (LV.tup [AV.int IntKind.u64 i1, aI i2, aI i0, aB b1], h0)) (k3 : (!b1) = false) (k4 : ixA (aM bs) (IntKind.wrap .i64 (i0 - Int.ofNat 1)) 1 = some [AV.int IntKind.u8 i3]) (k5 : ltZ b i2 = false) (k6 : ltZ i2 (.ofNat 64) = true) (k7 : (!eqZ (.ofNat (BitVec.toNat (BitVec.ofInt (IntKind.bits IntKind.u8) i3 &&& BitVec.ofInt (IntKind.bits IntKind.u8) 64) % 256)) (.ofNat 0)) = false) :
  bB m 90 [vM bs, vI p, vI b] h = some ((LV.tup [aI (IntKind.wrap .i64 i1), aI i0, AV.nilI], h0)) :=
 bY (qS [62] [1099994, 1099987, 1099980, 1099975] [(6, 3, (LV.v (AV.snap [AV.int IntKind.u8 i3])))] [(1, 3, vB b0, h1), (3, 3, LV.tup [AV.int IntKind.u64 i1, aI i2, aI i0, aB b1], h0)]) (tA k0 (tZ k1 (tA k2 (tZ k3 (tA (tA t0 (tA tN (k4))) (tZ k5 (tZ k6 (uT3 (tZ k7 (tR ((LV.tup [aI (IntKind.wrap .i64 i1), aI i0, AV.nilI], h0)))))))))))) (by kernel_rfl)
end Go.Proofs.YthcjapmfchidhaaGreatDoor
