/-
  Numbers with a sign, read, by the program.
-/
import Derived.Test.YthcjapmfchidhaaGreatDoorAmS6wJ
import Derived.Test.YthcjapmfchidhaaGreatDoorAmHeap
import Derived.Test.YthcjapmfchidhaaGreatDoorAmExpD
import Derived.KernelRfl
namespace Go.Proofs.YthcjapmfchidhaaGreatDoor
set_option maxRecDepth 100000
open Go Go.Proofs.Am
def intsX : List (List AV) → Option (List Int)
 | [] => some []
 | [.int .i64 z] :: r => (intsX r).bind fun zs => some (z :: zs)
 | _ :: _ => none
theorem intsX_eq : ∀ (xs : List (List AV)) (zs : List Int), intsX xs = some zs → xs = zs.map fun z => [AV.int .i64 z]
 | [], zs, h => by simp only [intsX, Option.some.injEq] at h; subst h; rfl
 | x :: xs, zs, h => by
  unfold intsX at h
  split at h
  ·rename_i heq; cases heq
  ·rename_i z r heq
   simp only [List.cons.injEq] at heq
   obtain ⟨rfl, rfl⟩ := heq
   simp only [Option.bind_eq_some_iff, Option.some.injEq] at h
   obtain ⟨ws, hw, rfl⟩ := h
   rw [intsX_eq _ ws hw]; rfl
  ·cases h
def errA : Option Int → AV
 | none => .nilI
 | some c => .ifc 32 (.int .i64 c)
def encB (b : Blk) : List AV := [.imm (encN b.lab), .imm (encN b.res), .int .i64 b.ht, .bool b.nv]
def lkC (s : Scp) (pr pb : AV) (e : Option Int) : List LV := s.enc.map .v ++ [.v pr, .v pb, .v (errA e)]
structure HR (s : Scp) (L : Nat) (h : Heap) (r b : Option Nat) (pr pb : AV) (σ : LS) : Prop where
 lk : h.bx[L]? = some (lkC s pr pb σ.err)
 row : Sl h 1 (encN σ.row) r pr
 blk : Sl h 4 (σ.blk.map encB) b pb
 rL : r ≠ some L
 bL : b ≠ some L
 rb : ∀ i, r = some i → b ≠ some i
def Frm (L : Nat) (h h' : Heap) : Prop := (∀ q, q ≠ L → h'.bx[q]? = h.bx[q]?) ∧ h'.bx.length = h.bx.length
theorem Frm.put (h : Heap) (L : Nat) (bx : List LV) : Frm L h (h.put L bx) := ⟨fun _ hq => put_ne (Ne.symm hq), put_len _ _ _⟩
theorem err_neq (o : Option Int) : binF Tryz.prog .neq 28 true (errA o) .nilI = some (.bool o.isSome) := by
 cases o with
 | none => kernel_rfl
 | some c => kernel_rfl
section
variable {m : Int} {e : FuncId → Option (List LV → Heap → Option (LV × Heap))} {s : Scp} {L : Nat} {h : Heap} {r b : Option Nat} {pr pb : AV} {σ : LS}
theorem HR.put (H : HR s L h r b pr pb σ) {pr' : AV} {σ' : LS} (hb : σ'.blk = σ.blk) (hr : Sl h 1 (encN σ'.row) r pr') : HR s L (h.put L (lkC s pr' pb σ'.err)) r b pr' pb σ' :=
 ⟨put_same H.lk, hr.put H.rL, by rw [hb]; exact H.blk.put H.bL, H.rL, H.bL, H.rb⟩
end
end Go.Proofs.YthcjapmfchidhaaGreatDoor
namespace Go.Proofs.YthcjapmfchidhaaGreatDoor
set_option maxRecDepth 100000
open Go Go.Proofs.Am
abbrev opA (ob : Int) (nm : ByteArray) (ok : Int) (tk : List (List AV)) (gv bz : Int) (sg : Bool) : AV := .agg [.int .i64 ob, .str nm, .int .i64 ok, .imm tk, .int .i64 gv, .int .i64 bz, .bool sg]
section
variable {m : Int} {s : Scp} {L : Nat} {h : Heap} {σ : LS} {N : Nat} {ob ok gv bz : Int} {tk : List (List AV)} {sg : Bool} {o a b v t : Int} {l : List Int} {ll bd el : List (List AV)} {q : Bool}
end
end Go.Proofs.YthcjapmfchidhaaGreatDoor
namespace Go.Proofs.YthcjapmfchidhaaGreatDoor
set_option maxRecDepth 100000
open Go Go.Proofs.Am
def opP (x : LV) : Option OpR :=
 match x with
 | .tup [.agg [.int .i64 ob, .str nm, .int .i64 k, .imm tk, .int .i64 gv, .int .i64 bz, .bool sg], .nilI] => (intsX tk).map fun ts => ⟨ob, nm, k, ts, gv, bz, sg⟩
 | _ => none
def opI (z : Int) : Option OpR := opP (lookV z)
theorem opP_some {x : LV} {r : OpR} (h : opP x = some r) : x = .tup [opA r.byte r.nm r.kind (encN r.takes) r.gives r.bytes r.sg, .nilI] := by
 unfold opP at h
 split at h
 ·rename_i ob nm k tk gv bz sg
  obtain ⟨ts, ht, rfl⟩ := Option.map_eq_some_iff.1 h
  rw [intsX_eq _ _ ht]
  rfl
 ·cases h
def namesK : List (Nat × Nat × List UInt8) := [(2, 2, [98, 108, 111, 99, 107]), (2, 3, [108, 111, 111, 112]), (2, 4, [105, 102]),
 (3, 12, [98, 114]), (3, 13, [98, 114, 95, 105, 102]), (3, 14, [98, 114, 95, 116, 97, 98, 108, 101]), (3, 15, [114, 101, 116, 117, 114, 110]),
 (4, 16, [99, 97, 108, 108]), (4, 17, [99, 97, 108, 108, 95, 105, 110, 100, 105, 114, 101, 99, 116]),
 (5, 26, [100, 114, 111, 112]), (5, 27, [115, 101, 108, 101, 99, 116]),
 (6, 32, [108, 111, 99, 97, 108, 46, 103, 101, 116]), (6, 33, [108, 111, 99, 97, 108, 46, 115, 101, 116]), (6, 34, [108, 111, 99, 97, 108, 46, 116, 101, 101]), (6, 35, [103, 108, 111, 98, 97, 108, 46, 103, 101, 116]), (6, 36, [103, 108, 111, 98, 97, 108, 46, 115, 101, 116])]
def eqL : List UInt8 → List UInt8 → Bool
 | [], [] => true
 | x :: xs, y :: ys => Nat.beq x.toNat y.toNat && eqL xs ys
 | _, _ => false
theorem eqL_eq : ∀ {xs ys : List UInt8}, eqL xs ys = true → xs = ys
 | [], [], _ => rfl
 | x :: xs, y :: ys, h => by
  simp only [eqL, Bool.and_eq_true] at h
  have h1 := Nat.eq_of_beq_eq_true h.1
  rw [UInt8.toNat_inj.1 h1, eqL_eq h.2]
 | [], _ :: _, h => by cases h
 | _ :: _, [], h => by cases h
def chkK (n : Nat) (r : OpR) : Bool :=
 eqZ r.byte (Int.ofNat n) && Nat.ble r.takes.length 3 && ((r.nm.toList == (sb [98, 114, 95, 116, 97, 98, 108, 101]).toList) == Nat.beq n 14) && ((r.nm.toList == (sb [114, 101, 116, 117, 114, 110]).toList) == Nat.beq n 15) &&
 (bif leZ 2 r.kind && leZ r.kind 6 then namesK.any fun e => eqZ r.kind (Int.ofNat e.1) && Nat.beq e.2.1 n && eqL r.nm.data.toList e.2.2
  else (r.nm.toList == (sb [117, 110, 114, 101, 97, 99, 104, 97, 98, 108, 101]).toList) == Nat.beq n 0)
def isNo : LV → Bool
 | .tup [.agg [.int .i64 _, .str _, .int .i64 _, .imm _, .int .i64 _, .int .i64 _, .bool _], .ifc 32 (.int .i64 _)] => true
 | _ => false
def chk1 (n : Nat) (x : LV) : Bool :=
 match opP x with
 | some r => chkK n r
 | none => isNo x
def chkL : Nat → List LV → Bool
 | _, [] => true
 | n, x :: xs => chk1 n x && chkL (n + 1) xs
theorem chk_all : chkL 0 lookL = true := by kernel_rfl
theorem chkL_get : ∀ (l : List LV) (n k : Nat) (x : LV), chkL n l = true → l[k]? = some x → chk1 (n + k) x = true
 | [], n, k, x, _, h => by simp at h
 | y :: l, n, 0, x, h, hx => by
  simp only [chkL, Bool.and_eq_true] at h
  simp only [List.getElem?_cons_zero, Option.some.injEq] at hx
  subst hx
  exact h.1
 | y :: l, n, k + 1, x, h, hx => by
  simp only [chkL, Bool.and_eq_true] at h
  have := chkL_get l (n + 1) k x h.2 (by simpa using hx)
  rwa [show n + (k + 1) = n + 1 + k by omega]
theorem none_no : opP noneL = none := by kernel_rfl
theorem look_cases (z : Int) : (∃ (n : Nat) (r : OpR), z = n ∧ opI z = some r ∧ chkK n r = true) ∨ (opI z = none ∧ isNo (lookV z) = true) := by
 have hno : isNo noneL = true := by kernel_rfl
 have hn := none_no
 unfold opI lookV
 cases z with
 | negSucc k => exact .inr ⟨hn, hno⟩
 | ofNat n =>
  cases hx : lookL[n]? with
  | none => simp only [hx, Option.getD_none]; exact .inr ⟨hn, hno⟩
  | some x =>
   have h1 := chkL_get lookL 0 n x chk_all hx
   rw [Nat.zero_add] at h1
   simp only [hx, Option.getD_some]
   unfold chk1 at h1
   cases hp : opP x with
   | none => rw [hp] at h1; exact .inr ⟨rfl, h1⟩
   | some r => rw [hp] at h1; exact .inl ⟨n, r, rfl, rfl, h1⟩
theorem isNo_eq {x : LV} (h : isNo x = true) : ∃ ob nm k tk gv bz sg c, x = .tup [opA ob nm k tk gv bz sg, .ifc 32 (.int .i64 c)] := by
 unfold isNo at h
 split at h
 ·exact ⟨_, _, _, _, _, _, _, _, rfl⟩
 ·cases h
theorem sb_eq {nm : ByteArray} {l : List UInt8} (h : nm.data.toList = l) : nm = sb l := by
 subst h
 cases nm
 rfl
structure OpFacts (z : Int) (r : OpR) : Prop where
 takes : r.takes.length ≤ 3
 byte : r.byte = z
 bt : (r.nm.toList == (sb [98, 114, 95, 116, 97, 98, 108, 101]).toList) = decide (z = 14)
 rt : (r.nm.toList == (sb [114, 101, 116, 117, 114, 110]).toList) = decide (z = 15)
 k2 : r.kind = 2 → (z = 2 ∧ r.nm = sb [98, 108, 111, 99, 107]) ∨ (z = 3 ∧ r.nm = sb [108, 111, 111, 112]) ∨ (z = 4 ∧ r.nm = sb [105, 102])
 k3 : r.kind = 3 → (z = 12 ∧ r.nm = sb [98, 114]) ∨ (z = 13 ∧ r.nm = sb [98, 114, 95, 105, 102]) ∨ (z = 14 ∧ r.nm = sb [98, 114, 95, 116, 97, 98, 108, 101]) ∨ (z = 15 ∧ r.nm = sb [114, 101, 116, 117, 114, 110])
 k4 : r.kind = 4 → (z = 16 ∧ r.nm = sb [99, 97, 108, 108]) ∨ (z = 17 ∧ r.nm = sb [99, 97, 108, 108, 95, 105, 110, 100, 105, 114, 101, 99, 116])
 k5 : r.kind = 5 → (z = 26 ∧ r.nm = sb [100, 114, 111, 112]) ∨ (z = 27 ∧ r.nm = sb [115, 101, 108, 101, 99, 116])
 k6 : r.kind = 6 → (z = 32 ∧ r.nm = sb [108, 111, 99, 97, 108, 46, 103, 101, 116]) ∨ (z = 33 ∧ r.nm = sb [108, 111, 99, 97, 108, 46, 115, 101, 116]) ∨ (z = 34 ∧ r.nm = sb [108, 111, 99, 97, 108, 46, 116, 101, 101]) ∨ (z = 35 ∧ r.nm = sb [103, 108, 111, 98, 97, 108, 46, 103, 101, 116]) ∨ (z = 36 ∧ r.nm = sb [103, 108, 111, 98, 97, 108, 46, 115, 101, 116])
 k0 : ¬(2 ≤ r.kind ∧ r.kind ≤ 6) → (r.nm.toList == (sb [117, 110, 114, 101, 97, 99, 104, 97, 98, 108, 101]).toList) = decide (z = 0)
theorem namesK_get {n : Nat} {r : OpR} (h : (namesK.any fun e => eqZ r.kind (Int.ofNat e.1) && Nat.beq e.2.1 n && eqL r.nm.data.toList e.2.2) = true) : ∃ e, e ∈ namesK ∧ r.kind = (e.1 : Int) ∧ e.2.1 = n ∧ r.nm = sb e.2.2 := by
 obtain ⟨e, he, h⟩ := List.any_eq_true.1 h
 rw [Bool.and_eq_true, Bool.and_eq_true, eqZ_eq, beq_iff_eq] at h
 exact ⟨e, he, h.1.1, Nat.eq_of_beq_eq_true h.1.2, sb_eq (eqL_eq h.2)⟩
theorem op_facts {z : Int} {r : OpR} (h : opI z = some r) : OpFacts z r := by
 rcases look_cases z with ⟨n, r', hz, hr, hc⟩ | ⟨hn, _⟩
 ·rw [h] at hr
  cases hr
  unfold chkK at hc
  simp only [Bool.and_eq_true] at hc
  obtain ⟨⟨⟨⟨hb, ht⟩, hbt⟩, hrt⟩, hk⟩ := hc
  have beqd : ∀ (k : Nat), Nat.beq n k = decide (z = (k : Int)) := fun k => by
   rw [hz]
   cases h1 : Nat.beq n k with
   | true => rw [Nat.eq_of_beq_eq_true h1]; simp
   | false => exact (decide_eq_false (fun e => by have := Int.ofNat.inj e; subst this; rw [Nat.beq_refl] at h1; cases h1)).symm
  rw [beq_iff_eq, beqd] at hbt hrt
  have hbyte : r.byte = z := by rw [hz]; exact (eqZ_i hb).2 rfl
  have htk := Nat.le_of_ble_eq_true ht
  by_cases hin : 2 ≤ r.kind ∧ r.kind ≤ 6
  ·have e1 : (leZ 2 r.kind && leZ r.kind 6) = true := by rw [leZ_t hin.1, leZ_t hin.2]; rfl
   rw [e1, cond_true] at hk
   obtain ⟨⟨k, q, nm⟩, he, h1, h2, h3⟩ := namesK_get hk
   simp only at h1 h2 h3
   simp only [namesK, List.mem_cons, Prod.mk.injEq, List.not_mem_nil, or_false] at he
   subst h2
   have key : ∀ (p : Nat), r.kind = (p : Int) → k = p := fun p hp => by rw [hp] at h1; omega
   refine ⟨htk, hbyte, hbt, hrt, fun hh => ?_, fun hh => ?_, fun hh => ?_, fun hh => ?_, fun hh => ?_, fun hh => absurd hin hh⟩
   ·have := key 2 hh
    subst this
    rcases he with ⟨x, rfl, rfl⟩ | ⟨x, rfl, rfl⟩ | ⟨x, rfl, rfl⟩ | ⟨x, rfl, rfl⟩ | ⟨x, rfl, rfl⟩ | ⟨x, rfl, rfl⟩ | ⟨x, rfl, rfl⟩ | ⟨x, rfl, rfl⟩ | ⟨x, rfl, rfl⟩ | ⟨x, rfl, rfl⟩ | ⟨x, rfl, rfl⟩ | ⟨x, rfl, rfl⟩ | ⟨x, rfl, rfl⟩ | ⟨x, rfl, rfl⟩ | ⟨x, rfl, rfl⟩ | ⟨x, rfl, rfl⟩ <;> first | (exfalso; omega) | (simp [h3, hz])
   ·have := key 3 hh
    subst this
    rcases he with ⟨x, rfl, rfl⟩ | ⟨x, rfl, rfl⟩ | ⟨x, rfl, rfl⟩ | ⟨x, rfl, rfl⟩ | ⟨x, rfl, rfl⟩ | ⟨x, rfl, rfl⟩ | ⟨x, rfl, rfl⟩ | ⟨x, rfl, rfl⟩ | ⟨x, rfl, rfl⟩ | ⟨x, rfl, rfl⟩ | ⟨x, rfl, rfl⟩ | ⟨x, rfl, rfl⟩ | ⟨x, rfl, rfl⟩ | ⟨x, rfl, rfl⟩ | ⟨x, rfl, rfl⟩ | ⟨x, rfl, rfl⟩ <;> first | (exfalso; omega) | (simp [h3, hz])
   ·have := key 4 hh
    subst this
    rcases he with ⟨x, rfl, rfl⟩ | ⟨x, rfl, rfl⟩ | ⟨x, rfl, rfl⟩ | ⟨x, rfl, rfl⟩ | ⟨x, rfl, rfl⟩ | ⟨x, rfl, rfl⟩ | ⟨x, rfl, rfl⟩ | ⟨x, rfl, rfl⟩ | ⟨x, rfl, rfl⟩ | ⟨x, rfl, rfl⟩ | ⟨x, rfl, rfl⟩ | ⟨x, rfl, rfl⟩ | ⟨x, rfl, rfl⟩ | ⟨x, rfl, rfl⟩ | ⟨x, rfl, rfl⟩ | ⟨x, rfl, rfl⟩ <;> first | (exfalso; omega) | (simp [h3, hz])
   ·have := key 5 hh
    subst this
    rcases he with ⟨x, rfl, rfl⟩ | ⟨x, rfl, rfl⟩ | ⟨x, rfl, rfl⟩ | ⟨x, rfl, rfl⟩ | ⟨x, rfl, rfl⟩ | ⟨x, rfl, rfl⟩ | ⟨x, rfl, rfl⟩ | ⟨x, rfl, rfl⟩ | ⟨x, rfl, rfl⟩ | ⟨x, rfl, rfl⟩ | ⟨x, rfl, rfl⟩ | ⟨x, rfl, rfl⟩ | ⟨x, rfl, rfl⟩ | ⟨x, rfl, rfl⟩ | ⟨x, rfl, rfl⟩ | ⟨x, rfl, rfl⟩ <;> first | (exfalso; omega) | (simp [h3, hz])
   ·have := key 6 hh
    subst this
    rcases he with ⟨x, rfl, rfl⟩ | ⟨x, rfl, rfl⟩ | ⟨x, rfl, rfl⟩ | ⟨x, rfl, rfl⟩ | ⟨x, rfl, rfl⟩ | ⟨x, rfl, rfl⟩ | ⟨x, rfl, rfl⟩ | ⟨x, rfl, rfl⟩ | ⟨x, rfl, rfl⟩ | ⟨x, rfl, rfl⟩ | ⟨x, rfl, rfl⟩ | ⟨x, rfl, rfl⟩ | ⟨x, rfl, rfl⟩ | ⟨x, rfl, rfl⟩ | ⟨x, rfl, rfl⟩ | ⟨x, rfl, rfl⟩ <;> first | (exfalso; omega) | (simp [h3, hz])
  ·have e1 : (leZ 2 r.kind && leZ r.kind 6) = false := by
    cases h1 : leZ 2 r.kind with
    | false => rfl
    | true =>
     rw [Bool.true_and]
     exact leZ_f (by have := (leZ_i h1).2 rfl; omega)
   rw [e1, cond_false, beq_iff_eq] at hk
   refine ⟨htk, hbyte, hbt, hrt, fun hh => absurd ⟨by omega, by omega⟩ hin, fun hh => absurd ⟨by omega, by omega⟩ hin, fun hh => absurd ⟨by omega, by omega⟩ hin, fun hh => absurd ⟨by omega, by omega⟩ hin, fun hh => absurd ⟨by omega, by omega⟩ hin, fun _ => ?_⟩
   rw [hk, hz]
   cases n with
   | zero => rfl
   | succ k => exact (decide_eq_false (by omega)).symm
 ·rw [h] at hn; cases hn
end Go.Proofs.YthcjapmfchidhaaGreatDoor
namespace Go.Proofs.YthcjapmfchidhaaGreatDoor
set_option maxRecDepth 100000
open Go Go.Proofs.Am
section
variable {m : Int} {s : Scp} {L R : Nat}
variable {o a b v t : Int} {ll : List (List AV)} {bd el : List Ins} {q : Bool} {ob ok gv bz : Int} {tk : List (List AV)} {sg : Bool} {h : Heap} {σ : LS} {N cb cl : Nat}
theorem cL_len : ∀ xs : List Ins, xs.length ≤ cL xs
 | [] => Nat.le_refl _
 | x :: xs => by
  have := cL_len xs
  have h1 : 1 ≤ cI x := by cases x; rw [cI]; omega
  rw [cL, List.length_cons]
  omega
end
end Go.Proofs.YthcjapmfchidhaaGreatDoor
namespace Go.Proofs.YthcjapmfchidhaaGreatDoor
set_option maxRecDepth 100000
open Go Go.Proofs.Am
section
variable {m : Int} {h : Heap}
theorem has38_loop {xs : List Int} {fv : AV} {F : Int → Bool} (hf : ∀ x, x ∈ xs → ∀ h, callV (cxZ m) (blk (cxZ m)) fv [.v (.int .i64 x)] h = some (.v (.bool (F x)), h)) (hl : xs.length < 2 ^ 62) : ∀ (k i : Nat), i + k = xs.length →
  ∃ z : Int, blk (cxZ m) 78 (at_ Tryz.prog 78 2) [.v (.imm (xs.map (fun x => [AV.int .i64 x]))), .v fv, .v (.int .i64 (Int.ofNat xs.length)), .v (.int .i64 (Int.ofNat i))] h = some (.v (.int .i64 z), h) ∧ leZ (Int.ofNat 0) z = (xs.drop i).any F
 | 0, i, hi => by
  rw [List.drop_of_length_le (by omega)]
  exact ⟨_, w38_2_2 (k0 := ltZ_f (by rw [ofN, ofN]; omega)), rfl⟩
 | k + 1, i, hi => by
  have h1 : xs[i]? = some xs[i] := List.getElem?_eq_getElem (by omega)
  have e1 : ixA (.imm (xs.map (fun x => [AV.int .i64 x]))) (Int.ofNat i) 1 = some ((fun x => [AV.int .i64 x]) xs[i]) := ix_map (f := (fun x => [AV.int .i64 x])) h1 rfl
  have hv := hf xs[i] (List.getElem_mem _) h
  rw [drop_get h1, List.any_cons]
  obtain ⟨z, hz, he⟩ := has38_loop hf hl k (i + 1) (by omega)
  generalize xs[i] = x at e1 hv ⊢
  cases hq : F x with
  | true =>
   rw [hq] at hv
   exact ⟨_, w38_2_0 (k0 := ltZ_t (by rw [ofN, ofN]; omega)) (k1 := e1) (k2 := hv) (k3 := rfl), by rw [Bool.true_or]; exact leZ_t (by rw [ofN, ofN]; omega)⟩
  | false =>
   rw [hq] at hv
   exact ⟨z, w38_2_1 (k0 := ltZ_t (by rw [ofN, ofN]; omega)) (k1 := e1) (k2 := hv) (k3 := rfl) (k4 := by rw [wrapS (by omega)]; exact hz), by rw [Bool.false_or]; exact he⟩
theorem has38 {xs : List Int} {fv : AV} {F : Int → Bool} (hf : ∀ x, x ∈ xs → ∀ h, callV (cxZ m) (blk (cxZ m)) fv [.v (.int .i64 x)] h = some (.v (.bool (F x)), h)) (hl : xs.length < 2 ^ 62) :
  callF (cxZ m) (blk (cxZ m)) 55 [.v (.imm (xs.map (fun x => [AV.int .i64 x]))), .v fv] h = some (.v (.bool (xs.any F)), h) := by
 obtain ⟨z, hz, he⟩ := has38_loop (m := m) (h := h) hf hl xs.length 0 (by omega)
 rw [List.drop_zero] at he
 rw [← he]
 refine callF_of rfl rfl (by kernel_rfl) (w22_0 (k0 := callF_of rfl rfl (by kernel_rfl) (w38_0 (k0 := ?_))))
 rw [List.length_map]
 exact hz
theorem has31_loop {xs : List Ins} {fv : AV} {F : Ins → Bool} (hf : ∀ x, x ∈ xs → ∀ h, callV (cxZ m) (blk (cxZ m)) fv [.v (.agg (encI x))] h = some (.v (.bool (F x)), h)) (hl : xs.length < 2 ^ 62) : ∀ (k i : Nat), i + k = xs.length →
  ∃ z : Int, blk (cxZ m) 52 (at_ Tryz.prog 52 2) [.v (.imm (xs.map encI)), .v fv, .v (.int .i64 (Int.ofNat xs.length)), .v (.int .i64 (Int.ofNat i))] h = some (.v (.int .i64 z), h) ∧ leZ (Int.ofNat 0) z = (xs.drop i).any F
 | 0, i, hi => by
  rw [List.drop_of_length_le (by omega)]
  exact ⟨_, w31_2_2 (k0 := ltZ_f (by rw [ofN, ofN]; omega)), rfl⟩
 | k + 1, i, hi => by
  have h1 : xs[i]? = some xs[i] := List.getElem?_eq_getElem (by omega)
  have e1 : ixA (.imm (xs.map encI)) (Int.ofNat i) 9 = some (encI xs[i]) := ix_map (f := encI) h1 (encI_len _)
  have hv := hf xs[i] (List.getElem_mem _) h
  rw [drop_get h1, List.any_cons]
  obtain ⟨z, hz, he⟩ := has31_loop hf hl k (i + 1) (by omega)
  generalize xs[i] = x at e1 hv ⊢
  obtain ⟨g1, g2, g3, g4, g5, g6, g7, g8, g9⟩ := x
  cases hq : F (.mk g1 g2 g3 g4 g5 g6 g7 g8 g9) with
  | true =>
   rw [hq] at hv
   exact ⟨_, w31_2_0 (k0 := ltZ_t (by rw [ofN, ofN]; omega)) (k1 := e1) (k2 := hv) (k3 := rfl), by rw [Bool.true_or]; exact leZ_t (by rw [ofN, ofN]; omega)⟩
  | false =>
   rw [hq] at hv
   exact ⟨z, w31_2_1 (k0 := ltZ_t (by rw [ofN, ofN]; omega)) (k1 := e1) (k2 := hv) (k3 := rfl) (k4 := by rw [wrapS (by omega)]; exact hz), by rw [Bool.false_or]; exact he⟩
theorem has31 {xs : List Ins} {fv : AV} {F : Ins → Bool} (hf : ∀ x, x ∈ xs → ∀ h, callV (cxZ m) (blk (cxZ m)) fv [.v (.agg (encI x))] h = some (.v (.bool (F x)), h)) (hl : xs.length < 2 ^ 62) :
  callF (cxZ m) (blk (cxZ m)) 31 [.v (.imm (xs.map encI)), .v fv] h = some (.v (.bool (xs.any F)), h) := by
 obtain ⟨z, hz, he⟩ := has31_loop (m := m) (h := h) hf hl xs.length 0 (by omega)
 rw [List.drop_zero] at he
 rw [← he]
 refine callF_of rfl rfl (by kernel_rfl) (w17_0 (k0 := callF_of rfl rfl (by kernel_rfl) (w31_0 (k0 := ?_))))
 rw [List.length_map]
 exact hz
theorem num_Z (n : Int) (h : Heap) : callF (cxZ m) (blk (cxZ m)) 54 [.v (.int .i64 n)] h = some (.v (.bool (numZ n)), h) := by
 unfold numZ
 by_cases h0 : 0 ≤ n
 ·have e : leZ n (Int.ofNat 4294967295) = decide (n ≤ 4294967295) := leZ_eq _ _
  rw [decide_eq_true h0, Bool.true_and, ← e]
  exact callF_of rfl rfl (by kernel_rfl) (w34_0 (k0 := leZ_t (a := Int.ofNat 0) h0))
 ·rw [decide_eq_false h0, Bool.false_and]
  exact callF_of rfl rfl (by kernel_rfl) (w34_1 (k0 := leZ_f (a := Int.ofNat 0) (by rw [ofN]; omega)))
theorem nums_Z {l : List Int} (hl : l.length < 2 ^ 62) (h : Heap) : callF (cxZ m) (blk (cxZ m)) 55 [.v (.imm (encN l)), .v (.fn 56 [] [])] h = some (.v (.bool (l.any fun n => !numZ n)), h) :=
 has38 (fun x _ h => callF_of rfl rfl (by kernel_rfl) (w35_0 (k0 := num_Z x h))) hl
def bareB (a b v t : Int) (l bd el : List (List AV)) (q : Bool) : Bool := decide (a = 0) && decide (b = 0) && decide (v = 0) && decide (t = 0) && l.isEmpty && bd.isEmpty && el.isEmpty && !q
theorem len0 {A : Type} {l : List A} : eqZ (Int.ofNat l.length) (Int.ofNat 0) = l.isEmpty := by
 cases l with
 | nil => rfl
 | cons x l => exact eqZ_f (by rw [ofN, ofN]; simp; omega)
theorem bare_Z (o a b v t : Int) (l bd el : List (List AV)) (q : Bool) (h : Heap) : callF (cxZ m) (blk (cxZ m)) 57 [.v (.agg [.int .i64 o, .int .i64 a, .int .i64 b, .int .u64 v, .int .i64 t, .imm l, .imm bd, .imm el, .bool q])] h = some (.v (.bool (bareB a b v t l bd el q)), h) := by
 unfold bareB
 have z : ∀ {x : Int}, x = 0 → eqZ x (Int.ofNat 0) = true := fun e => eqZ_t (b := Int.ofNat 0) e
 have n : ∀ {x : Int}, ¬ x = 0 → eqZ x (Int.ofNat 0) = false := fun e => eqZ_f (b := Int.ofNat 0) e
 by_cases ha : a = 0
 case neg => rw [decide_eq_false ha]; exact callF_of rfl rfl (by kernel_rfl) (w36_7 (k0 := n ha))
 by_cases hb : b = 0
 case neg => rw [decide_eq_true ha, decide_eq_false hb]; exact callF_of rfl rfl (by kernel_rfl) (w36_6 (k0 := z ha) (k1 := n hb))
 by_cases hv : v = 0
 case neg => rw [decide_eq_true ha, decide_eq_true hb, decide_eq_false hv]; exact callF_of rfl rfl (by kernel_rfl) (w36_5 (k0 := z ha) (k1 := z hb) (k2 := n hv))
 by_cases ht : t = 0
 case neg => rw [decide_eq_true ha, decide_eq_true hb, decide_eq_true hv, decide_eq_false ht]; exact callF_of rfl rfl (by kernel_rfl) (w36_4 (k0 := z ha) (k1 := z hb) (k2 := z hv) (k3 := n ht))
 rw [decide_eq_true ha, decide_eq_true hb, decide_eq_true hv, decide_eq_true ht]
 have el0 := len0 (l := l)
 have bd0 := len0 (l := bd)
 have ee0 := len0 (l := el)
 cases hl : l.isEmpty with
 | false => rw [hl] at el0; exact callF_of rfl rfl (by kernel_rfl) (w36_3 (k0 := z ha) (k1 := z hb) (k2 := z hv) (k3 := z ht) (k4 := el0))
 | true =>
  rw [hl] at el0
  cases hbd : bd.isEmpty with
  | false => rw [hbd] at bd0; exact callF_of rfl rfl (by kernel_rfl) (w36_2 (k0 := z ha) (k1 := z hb) (k2 := z hv) (k3 := z ht) (k4 := el0) (k5 := bd0))
  | true =>
   rw [hbd] at bd0
   cases hel : el.isEmpty with
   | false => rw [hel] at ee0; exact callF_of rfl rfl (by kernel_rfl) (w36_1 (k0 := z ha) (k1 := z hb) (k2 := z hv) (k3 := z ht) (k4 := el0) (k5 := bd0) (k6 := ee0))
   | true => rw [hel] at ee0; exact callF_of rfl rfl (by kernel_rfl) (w36_0 (k0 := z ha) (k1 := z hb) (k2 := z hv) (k3 := z ht) (k4 := el0) (k5 := bd0) (k6 := ee0))
end
end Go.Proofs.YthcjapmfchidhaaGreatDoor
namespace Go.Proofs.YthcjapmfchidhaaGreatDoor
set_option maxRecDepth 100000
open Go Go.Proofs.Am
section
variable {m : Int}
def MayR (m : Int) (x : Ins) : Prop := ∀ h : Heap, callF (cxZ m) (blk (cxZ m)) 33 [.v (.agg (encI x))] h = some (.v (.bool (mayI opI x)), h)
theorem encN_e (l : List Int) : (encN l).isEmpty = l.isEmpty := by cases l <;> rfl
theorem encIs_e (l : List Ins) : (encIs l).isEmpty = l.isEmpty := by cases l <;> rfl
theorem mayL_of {xs : List Ins} (h : ∀ x, x ∈ xs → MayR m x) (hl : xs.length < 2 ^ 62) (hp : Heap) : callF (cxZ m) (blk (cxZ m)) 19 [.v (.imm (encIs xs))] hp = some (.v (.bool (mayL opI xs)), hp) := by
 have e : mayL opI xs = !(xs.any fun x => !mayI opI x) := by
  rw [mayL_mem]
  induction xs with
  | nil => rfl
  | cons x xs ih =>
   rw [List.all_cons, List.any_cons, ih (fun y hy => h y (List.mem_cons_of_mem _ hy)) (by simp at hl; omega)]
   cases mayI opI x <;> simp
 rw [e, encIs_map]
 refine callF_of rfl rfl (by kernel_rfl) (w13_0 (k0 := has31 (F := fun x => !mayI opI x) (fun x hx h' => ?_) hl))
 have := h x hx h'
 cases x
 exact callF_of rfl rfl (by kernel_rfl) (w18_0 (k0 := this))
theorem block_B {o a b v t : Int} {l : List Int} {bd el : List Ins} {q : Bool} (hb : ∀ x, x ∈ bd → MayR m x) (he : ∀ x, x ∈ el → MayR m x) (hlb : bd.length < 2 ^ 62) (hle : el.length < 2 ^ 62) (h : Heap) :
  callF (cxZ m) (blk (cxZ m)) 53 [.v (.agg (encI (.mk o a b v t l bd el q)))] h = some (.v (.bool (decide (0 ≤ t) && decide (t ≤ 2) && mayL opI bd && mayL opI el && !(decide (o ≠ 4) && q) && !(!q && !el.isEmpty) && (decide (a = 0) && decide (b = 0) && decide (v = 0) && l.isEmpty))), h) := by
 have cb := mayL_of hb hlb h
 have ce := mayL_of he hle h
 have cbr : callF (cxZ m) (blk (cxZ m)) 57 [.v (.agg [.int .i64 o, .int .i64 a, .int .i64 b, .int .u64 v, .int .i64 (Int.ofNat 0), .imm (encN l), .imm [], .imm [], .bool false])] h = some (.v (.bool (decide (a = 0) && decide (b = 0) && decide (v = 0) && l.isEmpty)), h) := by
  have := bare_Z (m := m) o a b v (Int.ofNat 0) (encN l) [] [] false h
  rw [this]
  unfold bareB
  rw [encN_e]
  simp
 by_cases h0 : 0 ≤ t
 case neg =>
  rw [decide_eq_false h0]
  exact callF_of rfl rfl (by kernel_rfl) (w33_0 (k0 := ltZ_t (b := Int.ofNat 0) (by rw [ofN]; omega)))
 rw [decide_eq_true h0]
 have k0 : ltZ t (Int.ofNat 0) = false := ltZ_f (b := Int.ofNat 0) h0
 by_cases h2 : t ≤ 2
 case neg =>
  rw [decide_eq_false h2]
  exact callF_of rfl rfl (by kernel_rfl) (w33_1 (k0 := k0) (k1 := ltZ_t (a := Int.ofNat 2) (by rw [ofN]; omega)))
 rw [decide_eq_true h2]
 have k1 : ltZ (Int.ofNat 2) t = false := ltZ_f (a := Int.ofNat 2) h2
 cases mb : mayL opI bd with
 | false =>
  rw [mb] at cb
  exact callF_of rfl rfl (by kernel_rfl) (w33_2 (k0 := k0) (k1 := k1) (k2 := cb) (k3 := rfl))
 | true =>
  rw [mb] at cb
  cases me : mayL opI el with
  | false =>
   rw [me] at ce
   exact callF_of rfl rfl (by kernel_rfl) (w33_3 (k0 := k0) (k1 := k1) (k2 := cb) (k3 := rfl) (k4 := ce) (k5 := rfl))
  | true =>
   rw [me] at ce
   have lt0 : ltZ (Int.ofNat 0) (Int.ofNat (encIs el).length) = !el.isEmpty := by
    cases el with
    | nil => rfl
    | cons x xs => exact ltZ_t (by rw [ofN, ofN, encIs_len]; simp)
   by_cases h4 : o = 4
   ·rw [show (decide (o ≠ 4)) = false by simp [h4], Bool.false_and]
    have k6 : (!eqZ o (Int.ofNat 4)) = false := congrArg not (eqZ_t (b := Int.ofNat 4) h4)
    cases q with
    | true =>
     simp only [Bool.not_true, Bool.false_and, Bool.not_false, Bool.true_and, Bool.and_true]
     exact callF_of rfl rfl (by kernel_rfl) (w33_10 (k0 := k0) (k1 := k1) (k2 := cb) (k3 := rfl) (k4 := ce) (k5 := rfl) (k6 := k6) (k7 := rfl) (k8 := cbr))
    | false =>
     cases hel : el.isEmpty with
     | true =>
      rw [hel] at lt0
      simp only [Bool.not_true, Bool.and_false, Bool.not_false, Bool.true_and, Bool.and_true]
      exact callF_of rfl rfl (by kernel_rfl) (w33_9 (k0 := k0) (k1 := k1) (k2 := cb) (k3 := rfl) (k4 := ce) (k5 := rfl) (k6 := k6) (k7 := rfl) (k8 := lt0) (k9 := cbr))
     | false =>
      rw [hel] at lt0
      exact callF_of rfl rfl (by kernel_rfl) (w33_8 (k0 := k0) (k1 := k1) (k2 := cb) (k3 := rfl) (k4 := ce) (k5 := rfl) (k6 := k6) (k7 := rfl) (k8 := lt0))
   ·rw [show (decide (o ≠ 4)) = true by simp [h4], Bool.true_and]
    have k6 : (!eqZ o (Int.ofNat 4)) = true := congrArg not (eqZ_f (b := Int.ofNat 4) h4)
    cases q with
    | true =>
     exact callF_of rfl rfl (by kernel_rfl) (w33_4 (k0 := k0) (k1 := k1) (k2 := cb) (k3 := rfl) (k4 := ce) (k5 := rfl) (k6 := k6) (k7 := rfl))
    | false =>
     cases hel : el.isEmpty with
     | true =>
      rw [hel] at lt0
      simp only [Bool.not_true, Bool.and_false, Bool.not_false, Bool.true_and, Bool.and_true]
      exact callF_of rfl rfl (by kernel_rfl) (w33_6 (k0 := k0) (k1 := k1) (k2 := cb) (k3 := rfl) (k4 := ce) (k5 := rfl) (k6 := k6) (k7 := rfl) (k8 := rfl) (k9 := lt0) (k10 := cbr))
     | false =>
      rw [hel] at lt0
      exact callF_of rfl rfl (by kernel_rfl) (w33_5 (k0 := k0) (k1 := k1) (k2 := cb) (k3 := rfl) (k4 := ce) (k5 := rfl) (k6 := k6) (k7 := rfl) (k8 := rfl) (k9 := lt0))
theorem and_ac (A B V T K D E Q : Bool) : (A && B && V && T && K && D && E && Q) = (A && B && V && K && (T && D && E && Q)) := by
 simp only [Bool.and_left_comm, Bool.and_comm]
theorem any_all (l : List Int) : (l.any fun n => !numZ n) = !(l.all numZ) := by
 induction l with
 | nil => rfl
 | cons x l ih => rw [List.any_cons, List.all_cons, ih]; cases numZ x <;> simp
theorem may_of {o a b v t : Int} {l : List Int} {bd el : List Ins} {q : Bool} (hb : ∀ x, x ∈ bd → MayR m x) (he : ∀ x, x ∈ el → MayR m x) (hlb : bd.length < 2 ^ 62) (hle : el.length < 2 ^ 62) (hll : l.length < 2 ^ 62) : MayR m (.mk o a b v t l bd el q) := by
 intro h
 unfold mayI
 cases hop : opI o with
 | none =>
  simp only
  rcases look_cases o with ⟨_, _, _, hr, _⟩ | ⟨_, hno⟩
  ·rw [hop] at hr; cases hr
  obtain ⟨ob, nm, k, tk, gv, bz, sg, c, hlk⟩ := isNo_eq hno
  have hlk2 : (lookV o, h) = (LV.tup [opA ob nm k tk gv bz sg, errA (some c)], h) := by rw [hlk]; rfl
  exact callF_of rfl rfl (by kernel_rfl) (w19_0 (k0 := hlk2) (k1 := err_neq (some c)) (k2 := rfl))
 | some r =>
  have f := op_facts hop
  have k0 : (lookV o, h) = (LV.tup [opA r.byte r.nm r.kind (encN r.takes) r.gives r.bytes r.sg, .nilI], h) := by
   have := opP_some hop
   unfold opI at *
   rw [this]
  have k1 := err_neq none
  simp only
  by_cases h2 : r.kind = 2
  ·rw [if_pos h2]
   exact callF_of rfl rfl (by kernel_rfl) (w19_1 (k0 := k0) (k1 := k1) (k2 := rfl) (k3 := eqZ_t (b := Int.ofNat 2) h2) (k4 := block_B hb he hlb hle h))
  rw [if_neg h2]
  have e2 := eqZ_f (b := Int.ofNat 2) h2
  have br : ∀ (a' b' v' : Int) (l' : List Int), callF (cxZ m) (blk (cxZ m)) 57 [.v (.agg [.int .i64 o, .int .i64 a', .int .i64 b', .int .u64 v', .int .i64 t, .imm (encN l'), .imm (encIs bd), .imm (encIs el), .bool q])] h = some (.v (.bool (decide (a' = 0) && decide (b' = 0) && decide (v' = 0) && l'.isEmpty && (decide (t = 0) && bd.isEmpty && el.isEmpty && !q))), h) := fun a' b' v' l' => by
   rw [bare_Z]
   unfold bareB
   rw [encN_e, encIs_e, encIs_e, and_ac]
  generalize (decide (t = 0) && bd.isEmpty && el.isEmpty && !q) = T at br ⊢
  unfold mayP
  by_cases h10 : r.kind = 10
  ·rw [if_pos h10]
   have e10 := eqZ_t (b := Int.ofNat 10) h10
   have hbr := br a b 0 l
   rw [show (decide ((0 : Int) = 0)) = true from rfl, Bool.and_true] at hbr
   by_cases hg : r.gives = 1
   ·rw [decide_eq_true hg, Bool.true_and]
    have eg := eqZ_t (b := Int.ofNat 1) hg
    by_cases hv : 4294967295 < v
    ·rw [decide_eq_true hv, Bool.not_true, Bool.false_and, Bool.false_and]
     exact callF_of rfl rfl (by kernel_rfl) (w19_2 (k0 := k0) (k1 := k1) (k2 := rfl) (k3 := e2) (k4 := e10) (k5 := eg) (k6 := ltZ_t (a := Int.ofNat 4294967295) hv))
    ·rw [decide_eq_false hv, Bool.not_false, Bool.true_and]
     exact callF_of rfl rfl (by kernel_rfl) (w19_3 (k0 := k0) (k1 := k1) (k2 := rfl) (k3 := e2) (k4 := e10) (k5 := eg) (k6 := ltZ_f (a := Int.ofNat 4294967295) (Int.not_lt.1 hv)) (k7 := hbr))
   ·rw [decide_eq_false hg, Bool.false_and, Bool.not_false, Bool.true_and]
    exact callF_of rfl rfl (by kernel_rfl) (w19_4 (k0 := k0) (k1 := k1) (k2 := rfl) (k3 := e2) (k4 := e10) (k5 := eqZ_f (b := Int.ofNat 1) hg) (k6 := hbr))
  rw [if_neg h10]
  have e10 := eqZ_f (b := Int.ofNat 10) h10
  have na := num_Z (m := m) a h
  have nb := num_Z (m := m) b h
  by_cases h78 : r.kind = 7 ∨ r.kind = 8
  ·rw [if_pos h78]
   have hbr := br 0 0 v l
   rw [show (decide ((0 : Int) = 0)) = true from rfl, Bool.true_and, Bool.true_and] at hbr
   by_cases h7 : r.kind = 7
   ·have e7 := eqZ_t (b := Int.ofNat 7) h7
    cases qa : numZ a with
    | false =>
     rw [qa] at na
     exact callF_of rfl rfl (by kernel_rfl) (w19_5 (k0 := k0) (k1 := k1) (k2 := rfl) (k3 := e2) (k4 := e10) (k5 := e7) (k6 := na) (k7 := rfl))
    | true =>
     rw [qa] at na
     cases qb : numZ b with
     | false =>
      rw [qb] at nb
      exact callF_of rfl rfl (by kernel_rfl) (w19_6 (k0 := k0) (k1 := k1) (k2 := rfl) (k3 := e2) (k4 := e10) (k5 := e7) (k6 := na) (k7 := rfl) (k8 := nb) (k9 := rfl))
     | true =>
      rw [qb] at nb
      simp only [Bool.true_and]
      exact callF_of rfl rfl (by kernel_rfl) (w19_7 (k0 := k0) (k1 := k1) (k2 := rfl) (k3 := e2) (k4 := e10) (k5 := e7) (k6 := na) (k7 := rfl) (k8 := nb) (k9 := rfl) (k10 := hbr))
   ·have e7 := eqZ_f (b := Int.ofNat 7) h7
    have e8 := eqZ_t (b := Int.ofNat 8) (h78.resolve_left h7)
    cases qa : numZ a with
    | false =>
     rw [qa] at na
     exact callF_of rfl rfl (by kernel_rfl) (w19_8 (k0 := k0) (k1 := k1) (k2 := rfl) (k3 := e2) (k4 := e10) (k5 := e7) (k6 := e8) (k7 := na) (k8 := rfl))
    | true =>
     rw [qa] at na
     cases qb : numZ b with
     | false =>
      rw [qb] at nb
      exact callF_of rfl rfl (by kernel_rfl) (w19_9 (k0 := k0) (k1 := k1) (k2 := rfl) (k3 := e2) (k4 := e10) (k5 := e7) (k6 := e8) (k7 := na) (k8 := rfl) (k9 := nb) (k10 := rfl))
     | true =>
      rw [qb] at nb
      simp only [Bool.true_and]
      exact callF_of rfl rfl (by kernel_rfl) (w19_10 (k0 := k0) (k1 := k1) (k2 := rfl) (k3 := e2) (k4 := e10) (k5 := e7) (k6 := e8) (k7 := na) (k8 := rfl) (k9 := nb) (k10 := rfl) (k11 := hbr))
  rw [if_neg h78]
  have e7 := eqZ_f (b := Int.ofNat 7) (fun e => h78 (.inl e))
  have e8 := eqZ_f (b := Int.ofNat 8) (fun e => h78 (.inr e))
  have kb := f.bt
  have kr := f.rt
  by_cases h14 : o = 14
  ·rw [if_pos h14]
   rw [decide_eq_true h14] at kb
   have hbr := br a b v []
   rw [show (([] : List Int).isEmpty) = true from rfl, Bool.and_true] at hbr
   have l0 := len0 (l := encN l)
   rw [encN_e] at l0
   have ns := nums_Z (m := m) hll h
   rw [any_all] at ns
   cases ql : l.isEmpty with
   | true =>
    rw [ql] at l0
    exact callF_of rfl rfl (by kernel_rfl) (w19_11 (k0 := k0) (k1 := k1) (k2 := rfl) (k3 := e2) (k4 := e10) (k5 := e7) (k6 := e8) (k7 := kb) (k8 := l0))
   | false =>
    rw [ql] at l0
    cases qa : l.all numZ with
    | false =>
     rw [qa] at ns
     exact callF_of rfl rfl (by kernel_rfl) (w19_12 (k0 := k0) (k1 := k1) (k2 := rfl) (k3 := e2) (k4 := e10) (k5 := e7) (k6 := e8) (k7 := kb) (k8 := l0) (k9 := ns) (k10 := rfl))
    | true =>
     rw [qa] at ns
     simp only [Bool.not_false, Bool.true_and]
     exact callF_of rfl rfl (by kernel_rfl) (w19_13 (k0 := k0) (k1 := k1) (k2 := rfl) (k3 := e2) (k4 := e10) (k5 := e7) (k6 := e8) (k7 := kb) (k8 := l0) (k9 := ns) (k10 := rfl) (k11 := hbr))
  rw [if_neg h14]
  rw [decide_eq_false h14] at kb
  have hbr := br 0 b v l
  rw [show (decide ((0 : Int) = 0)) = true from rfl, Bool.true_and] at hbr
  by_cases h4 : r.kind = 4
  ·rw [if_pos (.inl h4)]
   have e4 := eqZ_t (b := Int.ofNat 4) h4
   cases qa : numZ a with
   | false =>
    rw [qa] at na
    exact callF_of rfl rfl (by kernel_rfl) (w19_14 (k0 := k0) (k1 := k1) (k2 := rfl) (k3 := e2) (k4 := e10) (k5 := e7) (k6 := e8) (k7 := kb) (k8 := e4) (k9 := na) (k10 := rfl))
   | true =>
    rw [qa] at na
    simp only [Bool.true_and]
    exact callF_of rfl rfl (by kernel_rfl) (w19_15 (k0 := k0) (k1 := k1) (k2 := rfl) (k3 := e2) (k4 := e10) (k5 := e7) (k6 := e8) (k7 := kb) (k8 := e4) (k9 := na) (k10 := rfl) (k11 := hbr))
  have e4 := eqZ_f (b := Int.ofNat 4) h4
  by_cases h6 : r.kind = 6
  ·rw [if_pos (.inr (.inl h6))]
   have e6 := eqZ_t (b := Int.ofNat 6) h6
   cases qa : numZ a with
   | false =>
    rw [qa] at na
    exact callF_of rfl rfl (by kernel_rfl) (w19_16 (k0 := k0) (k1 := k1) (k2 := rfl) (k3 := e2) (k4 := e10) (k5 := e7) (k6 := e8) (k7 := kb) (k8 := e4) (k9 := e6) (k10 := na) (k11 := rfl))
   | true =>
    rw [qa] at na
    simp only [Bool.true_and]
    exact callF_of rfl rfl (by kernel_rfl) (w19_17 (k0 := k0) (k1 := k1) (k2 := rfl) (k3 := e2) (k4 := e10) (k5 := e7) (k6 := e8) (k7 := kb) (k8 := e4) (k9 := e6) (k10 := na) (k11 := rfl) (k12 := hbr))
  have e6 := eqZ_f (b := Int.ofNat 6) h6
  have hbr2 := br a b v l
  by_cases h3 : r.kind = 3
  ·have e3 := eqZ_t (b := Int.ofNat 3) h3
   by_cases h15 : o = 15
   ·rw [if_neg (fun hh => hh.elim h4 fun hh => hh.elim h6 fun hh => hh.2 h15)]
    rw [decide_eq_true h15] at kr
    exact callF_of rfl rfl (by kernel_rfl) (w19_20 (k0 := k0) (k1 := k1) (k2 := rfl) (k3 := e2) (k4 := e10) (k5 := e7) (k6 := e8) (k7 := kb) (k8 := e4) (k9 := e6) (k10 := e3) (k11 := congrArg not kr) (k12 := hbr2))
   ·rw [if_pos (.inr (.inr ⟨h3, h15⟩))]
    rw [decide_eq_false h15] at kr
    cases qa : numZ a with
    | false =>
     rw [qa] at na
     exact callF_of rfl rfl (by kernel_rfl) (w19_18 (k0 := k0) (k1 := k1) (k2 := rfl) (k3 := e2) (k4 := e10) (k5 := e7) (k6 := e8) (k7 := kb) (k8 := e4) (k9 := e6) (k10 := e3) (k11 := congrArg not kr) (k12 := na) (k13 := rfl))
    | true =>
     rw [qa] at na
     simp only [Bool.true_and]
     exact callF_of rfl rfl (by kernel_rfl) (w19_19 (k0 := k0) (k1 := k1) (k2 := rfl) (k3 := e2) (k4 := e10) (k5 := e7) (k6 := e8) (k7 := kb) (k8 := e4) (k9 := e6) (k10 := e3) (k11 := congrArg not kr) (k12 := na) (k13 := rfl) (k14 := hbr))
  ·rw [if_neg (fun hh => hh.elim h4 fun hh => hh.elim h6 fun hh => h3 hh.1)]
   exact callF_of rfl rfl (by kernel_rfl) (w19_21 (k0 := k0) (k1 := k1) (k2 := rfl) (k3 := e2) (k4 := e10) (k5 := e7) (k6 := e8) (k7 := kb) (k8 := e4) (k9 := e6) (k10 := eqZ_f (b := Int.ofNat 3) h3) (k11 := hbr2))
mutual
theorem may_R : ∀ x : Ins, cI x < 2 ^ 62 → MayR m x
 | .mk _ _ _ _ _ l bd el _ => fun h => by
  rw [cI] at h
  have h1 := cL_len bd
  have h2 := cL_len el
  exact may_of (mays_R bd (by omega)) (mays_R el (by omega)) (by omega) (by omega) (by omega)
theorem mays_R : ∀ xs : List Ins, cL xs < 2 ^ 62 → ∀ x, x ∈ xs → MayR m x
 | [] => fun _ x hx => by cases hx
 | y :: ys => fun h x hx => by
  rw [cL] at h
  have h1 := may_R y (by omega)
  have h2 := mays_R ys (by omega)
  rcases List.mem_cons.1 hx with e | hx
  ·rw [e]; exact h1
  ·exact h2 x hx
end
theorem mayL_Z {xs : List Ins} (h : cL xs < 2 ^ 62) (hp : Heap) : callF (cxZ m) (blk (cxZ m)) 19 [.v (.imm (encIs xs))] hp = some (.v (.bool (mayL opI xs)), hp) :=
 mayL_of (mays_R xs h) (by have := cL_len xs; omega) hp
end
end Go.Proofs.YthcjapmfchidhaaGreatDoor
namespace Go.Proofs.YthcjapmfchidhaaGreatDoor
set_option maxRecDepth 100000
open Go Go.Proofs.Am
section
variable {m : Int} {h : Heap}
theorem putU_loop : ∀ (k v : Nat) (out : List Nat), v < 128 ^ k → 0 < k → out.length + k ≤ 140737488355328 → blk (cxZ m) 79 (at_ Tryz.prog 79 2) [.v (.int .u64 (v : Int)), .ow 1 (encBy out)] h = some (.v (.imm (encBy (out ++ uB k v))), h)
 | 0, _, _, _, h0, _ => absurd h0 (by decide)
 | k + 1, v, out, hv, _, hl => by
  by_cases h1 : v < 128
  ·have k1 := ap_by1 (out := out) (x := IntKind.wrap .u8 (v : Int)) (y := v) (wrap8i rfl (by omega)) (by omega)
   rw [uB, if_pos h1]
   exact p79_2_1 (k0 := leZ_f (a := Int.ofNat 128) (by rw [ofN]; omega)) (k1 := k1)
  ·have e := or8 (v : Int)
   rw [show ((v : Int) % 128).toNat = v % 128 by omega] at e
   have k1 := ap_by1 (out := out) (y := v % 128 + 128) e (by omega)
   have hk : 0 < k := by
    cases k with
    | zero => rw [Nat.zero_add, Nat.pow_one] at hv; omega
    | succ k => omega
   have ih := putU_loop k (v / 128) (out ++ [v % 128 + 128]) (by rw [Nat.div_lt_iff_lt_mul (by decide), ← Nat.pow_succ]; exact hv) hk (by rw [List.length_append, List.length_singleton]; omega)
   rw [uB, if_neg h1]
   rw [List.append_assoc, List.singleton_append] at ih
   exact p79_2_0 (k0 := leZ_t (a := Int.ofNat 128) (by rw [ofN]; omega)) (k1 := k1) (k2 := by rw [fdiv128]; exact ih)
theorem putU_Z {v : Nat} (hv : v < 2 ^ 64) : callF (cxZ m) (blk (cxZ m)) 79 [.v (.int .u64 (v : Int))] h = some (.v (.imm (encBy (uB 10 v))), h) :=
 callF_of rfl rfl (by kernel_rfl) (p79_0 (k0 := putU_loop 10 v [] (Nat.lt_of_lt_of_le hv (by decide)) (by decide) (by decide)))
theorem inR_pos {k : Nat} {v : Int} (hv : inR k v) (h1 : v < -64 ∨ 64 ≤ v) : 0 < k := by
 cases k with
 | zero => unfold inR at hv; rw [Int.pow_zero] at hv; omega
 | succ k => omega
theorem putS_loop : ∀ (k : Nat) (v : Int) (out : List Nat), inR k v → out.length + k + 1 ≤ 140737488355328 → blk (cxZ m) 60 (at_ Tryz.prog 60 2) [.v (.int .i64 v), .ow 1 (encBy out)] h = some (.v (.imm (encBy (out ++ sB (k + 1) v))), h) := by
 intro k
 induction k with
 | zero =>
  intro v out hv hl
  have hn : ¬(v < -64 ∨ 64 ≤ v) := fun hh => absurd (inR_pos hv hh) (by decide)
  have k1 := ap_by1 (out := out) (y := (v % 128).toNat) (and8 v) (by omega)
  rw [sB, if_neg hn]
  exact p60_2_2 (k0 := ltZ_f (b := Int.negSucc 63) (by show -64 ≤ v; omega)) (k1 := leZ_f (a := Int.ofNat 64) (by rw [ofN]; omega)) (k2 := k1)
 | succ k ih =>
  intro v out hv hl
  by_cases h1 : v < -64 ∨ 64 ≤ v
  ·have k1 := ap_by1 (out := out) (y := (v % 128).toNat + 128) (or8 v) (by omega)
   have ih := ih (v / 128) (out ++ [(v % 128).toNat + 128]) (inR_succ.1 hv) (by rw [List.length_append, List.length_singleton]; omega)
   rw [sB, if_pos h1]
   rw [List.append_assoc, List.singleton_append] at ih
   by_cases h2 : v < -64
   ·exact p60_2_0 (k0 := ltZ_t (b := Int.negSucc 63) (by show v < -64; exact h2)) (k1 := k1) (k2 := by rw [fdiv128]; exact ih)
   ·exact p60_2_1 (k0 := ltZ_f (b := Int.negSucc 63) (by show -64 ≤ v; omega)) (k1 := leZ_t (a := Int.ofNat 64) (by rw [ofN]; omega)) (k2 := k1) (k3 := by rw [fdiv128]; exact ih)
  ·have k1 := ap_by1 (out := out) (y := (v % 128).toNat) (and8 v) (by omega)
   rw [sB, if_neg h1]
   exact p60_2_2 (k0 := ltZ_f (b := Int.negSucc 63) (by show -64 ≤ v; omega)) (k1 := leZ_f (a := Int.ofNat 64) (by rw [ofN]; omega)) (k2 := k1)
theorem putS_Z {v : Int} (hv : -9223372036854775808 ≤ v ∧ v < 9223372036854775808) : callF (cxZ m) (blk (cxZ m)) 60 [.v (.int .i64 v)] h = some (.v (.imm (encBy (sB 10 v))), h) :=
 callF_of rfl rfl (by kernel_rfl) (p60_0 (k0 := putS_loop 9 v [] (by unfold inR; rw [show (128 : Int) ^ 9 = 9223372036854775808 by decide]; omega) (by decide)))
theorem uL_lt {a : Int} (ha : numZ a = true) : a.toNat < 2 ^ 64 := by
 unfold numZ at ha
 rw [Bool.and_eq_true, decide_eq_true_eq, decide_eq_true_eq] at ha
 have : (2 : Nat) ^ 64 = 18446744073709551616 := by decide
 omega
theorem uB_len : ∀ (k v : Nat), (uB k v).length ≤ k
 | 0, _ => Nat.le_refl _
 | k + 1, v => by
  rw [uB]
  split
  ·simp
  ·have := uB_len k (v / 128)
   simp only [List.length_cons]; omega
theorem sB_len : ∀ (k : Nat) (v : Int), (sB k v).length ≤ k
 | 0, _ => Nat.le_refl _
 | k + 1, v => by
  rw [sB]
  split
  ·have := sB_len k (v / 128)
   simp only [List.length_cons]; omega
  ·simp
theorem uLs_len : ∀ l : List Int, ((l.map uL).flatten).length ≤ 10 * l.length
 | [] => Nat.le_refl _
 | a :: l => by
  have h1 := uLs_len l
  have h2 := uB_len 10 a.toNat
  rw [List.map_cons, List.flatten_cons, List.length_append, List.length_cons]
  unfold uL at h1 ⊢
  omega
theorem put_loop {xs : List Int} (hx : xs.all numZ = true) (hl : xs.length < 2 ^ 62) : ∀ (suf pre : List Int) (bs : List Nat), pre ++ suf = xs → bs.length + 10 * suf.length ≤ 140737488355328 →
  blk (cxZ m) 59 (at_ Tryz.prog 59 2) [.ow 1 (encBy bs), .v (.imm (encN xs)), .v (.int .i64 (Int.ofNat (encN xs).length)), .v (.int .i64 (Int.ofNat pre.length))] h = some (.ow 1 (encBy (bs ++ (suf.map uL).flatten)), h)
 | [], pre, bs, hp, _ => by
  rw [List.append_nil] at hp
  subst hp
  rw [List.map_nil, List.flatten_nil, List.append_nil]
  exact p59_2_1 (k0 := ltZ_f (by rw [encN_len]; exact Int.le_refl _))
 | a :: suf, pre, bs, hp, hb => by
  have hlt : pre.length < xs.length := by rw [← hp]; simp
  have hg : xs[pre.length]? = some a := by rw [← hp, List.getElem?_append_right (Nat.le_refl _), Nat.sub_self]; rfl
  have ha : numZ a = true := List.all_eq_true.1 hx a (List.mem_of_getElem? hg)
  have k1 : ixA (.imm (encN xs)) (Int.ofNat pre.length) 1 = some [.int .i64 a] := ix_map (f := fun x : Int => [AV.int .i64 x]) hg rfl
  have hlen := uB_len 10 a.toNat
  rw [List.length_cons] at hb
  have k3 := ap_by (out := bs) (ys := uL a) (by unfold uL; omega)
  have hw : IntKind.wrap .u64 a = ((a.toNat : Nat) : Int) := by
   unfold numZ at ha
   rw [Bool.and_eq_true, decide_eq_true_eq, decide_eq_true_eq] at ha
   rw [wrapU64]; omega
  have ih := put_loop hx hl suf (pre ++ [a]) (bs ++ uL a) (by rw [List.append_assoc]; exact hp) (by rw [List.length_append]; unfold uL; omega)
  rw [List.map_cons, List.flatten_cons, ← List.append_assoc]
  rw [List.length_append, List.length_singleton] at ih
  exact p59_2_0 (k0 := ltZ_t (by rw [encN_len, ofN, ofN]; omega)) (k1 := k1) (k2 := by rw [hw]; exact putU_Z (uL_lt ha)) (k3 := k3) (k4 := by rw [wrapS (by omega)]; exact ih)
theorem put_Zo {xs : List Int} {bs : List Nat} (hx : xs.all numZ = true) (hl : xs.length < 2 ^ 62) (hb : bs.length + 10 * xs.length ≤ 140737488355328) : callF (cxZ m) (blk (cxZ m)) 59 [.ow 1 (encBy bs), .ow 1 (encN xs)] h = some (.ow 1 (encBy (bs ++ (xs.map uL).flatten)), h) :=
 callF_of rfl rfl (by kernel_rfl) (p59o_0 (k0 := put_loop hx hl xs [] bs rfl hb))
theorem put_Z {xs : List Int} {bs : List Nat} (hx : xs.all numZ = true) (hl : xs.length < 2 ^ 62) (hb : bs.length + 10 * xs.length ≤ 140737488355328) : callF (cxZ m) (blk (cxZ m)) 59 [.ow 1 (encBy bs), .v (.imm (encN xs))] h = some (.ow 1 (encBy (bs ++ (xs.map uL).flatten)), h) :=
 callF_of rfl rfl (by kernel_rfl) (p59_0 (k0 := put_loop hx hl xs [] bs rfl hb))
theorem put1_Z {a : Int} {bs : List Nat} (ha : numZ a = true) (hb : bs.length + 10 ≤ 140737488355328) : callF (cxZ m) (blk (cxZ m)) 59 [.ow 1 (encBy bs), .ow 1 [[.int .i64 a]]] h = some (.ow 1 (encBy (bs ++ uL a)), h) := by
 have := put_Zo (m := m) (h := h) (xs := [a]) (bs := bs) (by simp [ha]) (by show 1 < 2 ^ 62; decide) hb
 simpa [encN] using this
theorem put2_Z {a b : Int} {bs : List Nat} (ha : numZ a = true) (hb : numZ b = true) (hl : bs.length + 20 ≤ 140737488355328) : callF (cxZ m) (blk (cxZ m)) 59 [.ow 1 (encBy bs), .ow 1 [[.int .i64 a], [.int .i64 b]]] h = some (.ow 1 (encBy (bs ++ (uL a ++ uL b))), h) := by
 have := put_Zo (m := m) (h := h) (xs := [a, b]) (bs := bs) (by simp [ha, hb]) (by show 2 < 2 ^ 62; decide) hl
 simpa [encN] using this
end
end Go.Proofs.YthcjapmfchidhaaGreatDoor
namespace Go.Proofs.YthcjapmfchidhaaGreatDoor
set_option maxRecDepth 100000
open Go Go.Proofs.Am
theorem shl_F {t : TypeId} {c : Bool} {k : IntKind} {a : Int} {g : Nat} {z : Int} (hz : z = (g : Int)) : binF Tryz.prog .shl t c (.int k a) (.int .i64 z) = some (.int k (IntKind.wrap k (a * 2 ^ (min g k.bits)))) := by
 subst hz
 show shI .shl k a (g : Int) = _
 unfold shI
 rw [decide_eq_false (by omega)]
 rfl
theorem shr_F {t : TypeId} {c : Bool} {k : IntKind} {a : Int} {g : Nat} {z : Int} (hz : z = (g : Int)) : binF Tryz.prog .shr t c (.int k a) (.int .i64 z) = some (.int k (a.fdiv (2 ^ (min g k.bits)))) := by
 subst hz
 show shI .shr k a (g : Int) = _
 unfold shI
 rw [decide_eq_false (by omega)]
 rfl
theorem or64 {a c i : Nat} (ha : a < 2 ^ i) (h : 2 ^ i * c < 18446744073709551616) (h2 : a < 18446744073709551616) :
  (Int.ofNat (BitVec.toNat (BitVec.ofInt (IntKind.bits .u64) (a : Int) ||| BitVec.ofInt (IntKind.bits .u64) ((2 ^ i * c : Nat) : Int)) % 18446744073709551616)) = ((a + 2 ^ i * c : Nat) : Int) := by
 show Int.ofNat ((BitVec.ofInt 64 (a : Int) ||| BitVec.ofInt 64 ((2 ^ i * c : Nat) : Int)).toNat % 18446744073709551616) = _
 have e1 : (BitVec.ofInt 64 (a : Int)).toNat = a := by
  rw [BitVec.toNat_ofInt]; show ((a : Int) % 18446744073709551616).toNat = a; omega
 have e2 : (BitVec.ofInt 64 ((2 ^ i * c : Nat) : Int)).toNat = 2 ^ i * c := by
  rw [BitVec.toNat_ofInt]; show (((2 ^ i * c : Nat) : Int) % 18446744073709551616).toNat = 2 ^ i * c; omega
 have e3 := Nat.two_pow_add_eq_or_of_lt ha c
 rw [BitVec.toNat_or, e1, e2, Nat.or_comm, ← e3]
 have hlt : 2 ^ i * c + a < 18446744073709551616 := by
  have : 2 ^ i * c ||| a < 2 ^ 64 := Nat.or_lt_two_pow (show 2 ^ i * c < 2 ^ 64 from h) (show a < 2 ^ 64 from h2)
  rw [e3]; exact this
 rw [Nat.mod_eq_of_lt hlt]
 show ((2 ^ i * c + a : Nat) : Int) = _
 omega
theorem digN_last {bs : List Nat} : ∀ (k p : Nat) {d : List Nat} {q : Nat}, digN bs k p = some (d, q) → ∃ y low, bs[q - 1]? = some y ∧ y < 128 ∧ valD d = low + y * 128 ^ (d.length - 1) ∧ low < 128 ^ (d.length - 1)
 | 0, _, d, q, h => by cases h
 | k + 1, p, d, q, h => by
  unfold digN at h
  cases hx : bs[p]? with
  | none => rw [hx] at h; cases h
  | some x =>
   rw [hx] at h
   simp only at h
   by_cases h1 : x < 128
   ·rw [if_pos h1] at h
    cases h
    exact ⟨x, 0, hx, h1, by simp [valD], by simp⟩
   ·rw [if_neg h1, Option.map_eq_some_iff] at h
    obtain ⟨r, hr, he⟩ := h
    cases he
    obtain ⟨y, low, h2, h3, h4, h5⟩ := digN_last k (p + 1) hr
    obtain ⟨h6, _⟩ := digN_ok k (p + 1) hr
    have hl : (x % 128 :: r.1).length - 1 = (r.1.length - 1) + 1 := by rw [List.length_cons]; omega
    refine ⟨y, x % 128 + 128 * low, h2, h3, ?_, ?_⟩
    ·rw [valD, h4, hl, Nat.pow_succ]
     generalize 128 ^ (r.1.length - 1) = P
     have : y * (P * 128) = 128 * (y * P) := by rw [Nat.mul_comm P, Nat.mul_left_comm]
     omega
    ·rw [hl, Nat.pow_succ]; omega
section
variable {m : Int} {h : Heap}
def noRaw : LV := .tup [.int .u64 (Int.ofNat 0), .int .i64 (Int.ofNat 0), .int .i64 (Int.ofNat 0), .bool false]
def rawV (bs : List Nat) (k p j acc : Nat) : LV := match digN bs k p with | none => noRaw | some r => .tup [.int .u64 (((acc + valD r.1 * 2 ^ (7 * j)) % 18446744073709551616 : Nat) : Int), .int .i64 ((7 * j + 7 * r.1.length : Nat) : Int), .int .i64 (r.2 : Int), .bool true]
theorem raw_loop {bs : List Nat} (hb : ∀ x, x ∈ bs → x < 256) (hl : bs.length < 2 ^ 62) {B K : Nat} (hB : (B = 32 ∧ K = 5) ∨ (B = 64 ∧ K = 10)) : ∀ (k j p acc : Nat), j + k = K → p ≤ bs.length → acc < 2 ^ (7 * j) → acc < 18446744073709551616 →
  blk (cxZ m) 98 (at_ Tryz.prog 98 3) [.v (.imm (encBy bs)), .v (.int .i64 (p : Int)), .v (.int .i64 (B : Int)), .v (.int .u64 (acc : Int)), .v (.int .i64 ((7 * j : Nat) : Int))] h = some (rawV bs k p j acc, h)
 | 0, j, p, acc, hk, _, _, _ => by
  unfold rawV digN
  exact p98_3_3 (k0 := ltZ_f (by omega))
 | k + 1, j, p, acc, hk, hp, ha, ha2 => by
  have k0 : ltZ ((7 * j : Nat) : Int) (B : Int) = true := ltZ_t (by omega)
  unfold rawV digN
  cases hx : bs[p]? with
  | none =>
   have := List.getElem?_eq_none_iff.1 hx
   exact p98_3_0 (k0 := k0) (k1 := leZ_t (by rw [encBy_len, ofN]; omega))
  | some x =>
   have hlt := (List.getElem?_eq_some_iff.1 hx).1
   have h256 := hb x (List.mem_of_getElem? hx)
   have k1 : leZ (Int.ofNat (encBy bs).length) (p : Int) = false := leZ_f (by rw [encBy_len, ofN]; omega)
   have k2 := ix_by (l := bs) (z := (p : Int)) rfl hx
   have w7 : IntKind.wrap .i64 (((7 * j : Nat) : Int) + Int.ofNat 7) = ((7 * (j + 1) : Nat) : Int) := by rw [ofN, wrapI (by unfold InZ; omega)]; omega
   have wp : IntKind.wrap .i64 ((p : Int) + Int.ofNat 1) = ((p + 1 : Nat) : Int) := by rw [ofN, wrapI (by unfold InZ; omega)]; omega
   have hp7 : 2 ^ 64 = 2 ^ (7 * j) * 2 ^ (64 - 7 * j) := by rw [← Nat.pow_add, show 7 * j + (64 - 7 * j) = 64 by omega]
   have h64 : (2 : Nat) ^ 64 = 18446744073709551616 := by decide
   have hs : x % 128 * 2 ^ (7 * j) % 18446744073709551616 = 2 ^ (7 * j) * (x % 128 % 2 ^ (64 - 7 * j)) := by
    rw [← h64, hp7, Nat.mul_comm (x % 128), Nat.mul_mod_mul_left]
   have hsl : 2 ^ (7 * j) * (x % 128 % 2 ^ (64 - 7 * j)) < 18446744073709551616 := by rw [← hs]; exact Nat.mod_lt _ (by decide)
   have e8 : (Int.ofNat (BitVec.toNat (BitVec.ofInt (IntKind.bits .u8) (x : Int) &&& BitVec.ofInt (IntKind.bits .u8) 127) % 256 % 18446744073709551616)) = ((x % 128 : Nat) : Int) := by
    have := and8n h256
    have h2 := Int.ofNat.inj this
    rw [h2]
    show ((x % 128 % 18446744073709551616 : Nat) : Int) = _
    congr 1; omega
   have k3 : binF Tryz.prog .shl 46 false (.int .u64 (Int.ofNat (BitVec.toNat (BitVec.ofInt (IntKind.bits .u8) (x : Int) &&& BitVec.ofInt (IntKind.bits .u8) 127) % 256 % 18446744073709551616))) (.int .i64 ((7 * j : Nat) : Int)) = some (.int .u64 ((2 ^ (7 * j) * (x % 128 % 2 ^ (64 - 7 * j)) : Nat) : Int)) := by
    rw [e8, shl_F rfl, wrapU64, ← hs]
    have : min (7 * j) (IntKind.bits .u64) = 7 * j := Nat.min_eq_left (by show 7 * j ≤ 64; omega)
    rw [this]
    congr 2
   have hor := or64 (i := 7 * j) (c := x % 128 % 2 ^ (64 - 7 * j)) ha hsl ha2
   have hlt2 : acc + 2 ^ (7 * j) * (x % 128 % 2 ^ (64 - 7 * j)) < 18446744073709551616 := by
    have e3 := Nat.two_pow_add_eq_or_of_lt ha (x % 128 % 2 ^ (64 - 7 * j))
    have : 2 ^ (7 * j) * (x % 128 % 2 ^ (64 - 7 * j)) ||| acc < 2 ^ 64 := Nat.or_lt_two_pow (show _ < 2 ^ 64 from hsl) (show acc < 2 ^ 64 from ha2)
    rw [← e3, h64] at this
    omega
   have hacc : ∀ D : Nat, (acc + 2 ^ (7 * j) * (x % 128 % 2 ^ (64 - 7 * j)) + D * 2 ^ (7 * (j + 1))) % 18446744073709551616 = (acc + (x % 128 + 128 * D) * 2 ^ (7 * j)) % 18446744073709551616 := fun D => by
    rw [← hs, show (7 * (j + 1)) = 7 * j + 7 by omega, Nat.pow_add, Nat.add_mul, show 128 * D * 2 ^ (7 * j) = D * (2 ^ (7 * j) * 2 ^ 7) by rw [show (2 : Nat) ^ 7 = 128 by decide, Nat.mul_comm 128 D, Nat.mul_assoc, Nat.mul_comm 128]]
    generalize x % 128 * 2 ^ (7 * j) = A
    generalize D * (2 ^ (7 * j) * 2 ^ 7) = E
    omega
   simp only
   by_cases h1 : x < 128
   ·rw [if_pos h1]
    have := p98_3_1 (m := m) (h := h) (v := (acc : Int)) (k0 := k0) (k1 := k1) (k2 := k2) (k3 := k3) (k4 := ltZ_t (b := Int.ofNat 128) (by rw [ofN]; omega))
    rw [hor, w7, wp] at this
    have h0 := hacc 0
    rw [Nat.zero_mul, Nat.add_zero, Nat.mod_eq_of_lt hlt2, Nat.mul_zero, Nat.add_zero] at h0
    rw [h0] at this
    simp only [valD, List.length_singleton, Nat.mul_zero, Nat.add_zero]
    rw [Nat.mod_eq_of_lt h1] at this
    rw [show 7 * j + 7 * 1 = 7 * (j + 1) by omega]
    exact this
   ·rw [if_neg h1]
    have hlt3 : acc + 2 ^ (7 * j) * (x % 128 % 2 ^ (64 - 7 * j)) < 2 ^ (7 * (j + 1)) := by
     have e : 2 ^ (7 * (j + 1)) = 2 ^ (7 * j) * 128 := by rw [show (7 * (j + 1)) = 7 * j + 7 by omega, Nat.pow_add]
     have hle : x % 128 % 2 ^ (64 - 7 * j) ≤ 127 := by have := Nat.mod_le (x % 128) (2 ^ (64 - 7 * j)); omega
     have := Nat.mul_le_mul_left (2 ^ (7 * j)) hle
     rw [e]
     have e2 : 2 ^ (7 * j) * 128 = 2 ^ (7 * j) * 127 + 2 ^ (7 * j) := by rw [← Nat.mul_succ]
     omega
    have ih := raw_loop hb hl hB k (j + 1) (p + 1) (acc + 2 ^ (7 * j) * (x % 128 % 2 ^ (64 - 7 * j))) (by omega) (by omega) hlt3 hlt2
    have := p98_3_2 (m := m) (h := h) (v := (acc : Int)) (k0 := k0) (k1 := k1) (k2 := k2) (k3 := k3) (k4 := ltZ_f (b := Int.ofNat 128) (by rw [ofN]; omega)) (k5 := by rw [hor, w7, wp]; exact ih)
    refine this.trans ?_
    unfold rawV
    cases digN bs k (p + 1) with
    | none => rfl
    | some r =>
     simp only [Option.map_some, valD, List.length_cons]
     rw [hacc]
     congr 4
     congr 2
     omega
theorem raw98 {bs : List Nat} (hb : ∀ x, x ∈ bs → x < 256) (hl : bs.length < 2 ^ 62) {B K p : Nat} (hB : (B = 32 ∧ K = 5) ∨ (B = 64 ∧ K = 10)) (hp : p ≤ bs.length) :
  callF (cxZ m) (blk (cxZ m)) 98 [.v (.imm (encBy bs)), .v (.int .i64 (p : Int)), .v (.int .i64 (B : Int))] h = some (rawV bs K p 0 0, h) :=
 callF_of rfl rfl (by kernel_rfl) (p98_0 (k0 := raw_loop (m := m) (h := h) hb hl hB K 0 p 0 (by omega) hp (by decide) (by decide)))
theorem may97 {bs : List Nat} {B p : Nat} (hB : B = 32 ∨ B = 64) (hp : p ≤ bs.length) : callF (cxZ m) (blk (cxZ m)) 97 [.v (.imm (encBy bs)), .v (.int .i64 (p : Int)), .v (.int .i64 (B : Int))] h = some (.v (.bool true), h) := by
 have := callF_of (cx := cxZ m) rfl rfl (by kernel_rfl) (p97_0 (m := m) (h := h) (p := (p : Int)) (b := (B : Int)) (bs := encBy bs) (k0 := leZ_t (a := Int.ofNat 1) (by rw [ofN]; omega)) (k1 := leZ_t (b := Int.ofNat 64) (by rw [ofN]; omega)) (k2 := leZ_t (a := Int.ofNat 0) (by rw [ofN]; omega)))
 rw [leZ_t (by rw [encBy_len, ofN]; omega)] at this
 exact this
def formE : AV := .ifc 32 (.int .i64 (Int.ofNat 2))
def uV (bs : List Nat) (p : Nat) : LV := match digN bs 5 p with
 | none => .tup [.int .u64 (Int.ofNat 0), .int .i64 (Int.ofNat 0), formE]
 | some r => if valD r.1 < 4294967296 then .tup [.int .u64 (valD r.1 : Int), .int .i64 (r.2 : Int), .nilI] else .tup [.int .u64 (Int.ofNat 0), .int .i64 (Int.ofNat 0), formE]
theorem u89 {bs : List Nat} (hb : ∀ x, x ∈ bs → x < 256) (hl : bs.length < 2 ^ 62) {p : Nat} (hp : p ≤ bs.length) :
  callF (cxZ m) (blk (cxZ m)) 89 [.v (.imm (encBy bs)), .v (.int .i64 (p : Int)), .v (.int .i64 (Int.ofNat 32))] h = some (uV bs p, h) := by
 have hm := may97 (m := m) (h := h) (bs := bs) (B := 32) (p := p) (.inl rfl) hp
 have hr := raw98 (m := m) (h := h) hb hl (B := 32) (K := 5) (p := p) (.inl ⟨rfl, rfl⟩) hp
 unfold rawV at hr
 unfold uV
 cases hd : digN bs 5 p with
 | none =>
  rw [hd] at hr
  exact callF_of rfl rfl (by kernel_rfl) (p89_1 (k0 := hm) (k1 := rfl) (k2 := hr) (k3 := rfl))
 | some r =>
  obtain ⟨d, q⟩ := r
  rw [hd] at hr
  obtain ⟨d1, d2, d3, d4, d5⟩ := digN_ok _ _ hd
  obtain ⟨y, low, y1, y2, y3, y4⟩ := digN_last _ _ hd
  have hV := valD_lt d5
  have hV5 : 128 ^ d.length ≤ 128 ^ 5 := Nat.pow_le_pow_right (by decide) d2
  have e5 : (128 : Nat) ^ 5 = 34359738368 := by decide
  simp only [Nat.mul_zero, Nat.zero_add, Nat.pow_zero, Nat.mul_one] at hr
  rw [Nat.mod_eq_of_lt (by omega)] at hr
  simp only
  by_cases h5 : d.length = 5
  ·rw [h5] at hr y3 y4
   have k4 : ltZ (Int.ofNat 32) ((7 * 5 : Nat) : Int) = true := by decide
   have k5 := ix_by (l := bs) (z := IntKind.wrap .i64 ((q : Int) - Int.ofNat 1)) (i := q - 1) (by rw [ofN, wrapI (by unfold InZ; omega)]; omega) y1
   have k6 : binF Tryz.prog .shr 5 false (.int .u8 (y : Int)) (.int .i64 (IntKind.wrap .i64 (IntKind.wrap .i64 (Int.ofNat 32 + Int.ofNat 7) - ((7 * 5 : Nat) : Int)))) = some (.int .u8 ((y / 16 : Nat) : Int)) := by
    rw [shr_F (g := 4) (by kernel_rfl)]
    show some (AV.int .u8 ((y : Int).fdiv 16)) = _
    rw [Int.fdiv_eq_ediv_of_nonneg _ (by decide)]
    rfl
   have e4 : (128 : Nat) ^ (5 - 1) = 268435456 := by decide
   rw [e4] at y3 y4
   by_cases hy : y / 16 = 0
   ·rw [if_pos (by omega)]
    exact callF_of rfl rfl (by kernel_rfl) (p89_3 (k0 := hm) (k1 := rfl) (k2 := hr) (k3 := rfl) (k4 := k4) (k5 := k5) (k6 := k6) (k7 := congrArg not (eqZ_t (b := Int.ofNat 0) (by rw [hy]; rfl))))
   ·rw [if_neg (by omega)]
    exact callF_of rfl rfl (by kernel_rfl) (p89_2 (k0 := hm) (k1 := rfl) (k2 := hr) (k3 := rfl) (k4 := k4) (k5 := k5) (k6 := k6) (k7 := congrArg not (eqZ_f (b := Int.ofNat 0) (by rw [ofN]; omega))))
  ·have h4 : 128 ^ d.length ≤ 128 ^ 4 := Nat.pow_le_pow_right (by decide) (by omega)
   have e4 : (128 : Nat) ^ 4 = 268435456 := by decide
   rw [if_pos (by omega)]
   exact callF_of rfl rfl (by kernel_rfl) (p89_4 (k0 := hm) (k1 := rfl) (k2 := hr) (k3 := rfl) (k4 := ltZ_f (a := Int.ofNat 32) (by rw [ofN]; omega)))
end
end Go.Proofs.YthcjapmfchidhaaGreatDoor
namespace Go.Proofs.YthcjapmfchidhaaGreatDoor
set_option maxRecDepth 100000
open Go Go.Proofs.Am
theorem n2_35 : (2 : Nat) ^ (7 * 5) = 34359738368 := by decide
theorem i2_35 : (2 : Int) ^ (7 * 5) = 34359738368 := by decide
theorem n2_70 : (2 : Nat) ^ (7 * 10) = 1180591620717411303424 := by decide
theorem i2_70 : (2 : Int) ^ (7 * 10) = 1180591620717411303424 := by decide
theorem i2_64 : (2 : Int) ^ 64 = 18446744073709551616 := by decide
theorem i2_31 : (2 : Int) ^ (32 - 1) = 2147483648 := by decide
theorem i2_63 : (2 : Int) ^ (64 - 1) = 9223372036854775808 := by decide
theorem rdS_5 {V : Nat} (hV : V < 34359738368) : rdS V 5 32 = if V < 2147483648 then some V else if 2 * V < 34359738368 then none else if 34359738368 ≤ V + 2147483648 then some ((((V : Int) - 34359738368) % 18446744073709551616).toNat) else none := by
 unfold rdS sxt
 rw [n2_35, i2_35, i2_64, i2_31]
 by_cases h : 2 * V < 34359738368
 ·simp only [if_pos h]
  by_cases h1 : V < 2147483648
  ·rw [if_pos (by omega), if_pos h1]; congr 1; omega
  ·rw [if_neg (by omega), if_neg h1]
 ·simp only [if_neg h]
  rw [if_neg (show ¬ V < 2147483648 by omega)]
  by_cases h1 : 34359738368 ≤ V + 2147483648
  ·rw [if_pos h1, if_pos (by omega)]
  ·rw [if_neg h1, if_neg (by omega)]
theorem rdS_10 {V : Nat} (hV : V < 1180591620717411303424) : rdS V 10 64 = if V < 9223372036854775808 then some V else if 2 * V < 1180591620717411303424 then none else if 1180591620717411303424 ≤ V + 9223372036854775808 then some ((((V : Int) - 1180591620717411303424) % 18446744073709551616).toNat) else none := by
 unfold rdS sxt
 rw [n2_70, i2_70, i2_64, i2_63]
 by_cases h : 2 * V < 1180591620717411303424
 ·simp only [if_pos h]
  by_cases h1 : V < 9223372036854775808
  ·rw [if_pos (by omega), if_pos h1]; congr 1; omega
  ·rw [if_neg (by omega), if_neg h1]
 ·simp only [if_neg h]
  rw [if_neg (show ¬ V < 9223372036854775808 by omega)]
  by_cases h1 : 1180591620717411303424 ≤ V + 9223372036854775808
  ·rw [if_pos h1, if_pos (by omega)]
  ·rw [if_neg h1, if_neg (by omega)]
theorem and64_tab : (List.range 256).all (fun x => Nat.beq ((BitVec.ofInt 8 (Int.ofNat x) &&& BitVec.ofInt 8 64).toNat % 256) (if x % 128 < 64 then 0 else 64)) = true := by kernel_rfl
theorem and64n {x : Nat} (hx : x < 128) : (Int.ofNat (BitVec.toNat (BitVec.ofInt (IntKind.bits .u8) (x : Int) &&& BitVec.ofInt (IntKind.bits .u8) 64) % 256)) = ((if x < 64 then 0 else 64 : Nat) : Int) := by
 have h := tab_at (f := fun x => (BitVec.ofInt 8 (Int.ofNat x) &&& BitVec.ofInt 8 64).toNat % 256) (g := fun x => if x % 128 < 64 then 0 else 64) and64_tab (x := x) (by omega)
 show Int.ofNat ((BitVec.ofInt 8 (Int.ofNat x) &&& BitVec.ofInt 8 64).toNat % 256) = _
 rw [h, Nat.mod_eq_of_lt hx]
 rfl
theorem ext_F {n : Nat} (hn : n ≤ 9) : binF Tryz.prog .shl 46 true (.int .u64 (Int.ofNat 18446744073709551615)) (.int .i64 ((7 * n : Nat) : Int)) = some (.int .u64 ((2 ^ (7 * n) * (2 ^ (64 - 7 * n) - 1) : Nat) : Int)) := by
 have hc : n = 0 ∨ n = 1 ∨ n = 2 ∨ n = 3 ∨ n = 4 ∨ n = 5 ∨ n = 6 ∨ n = 7 ∨ n = 8 ∨ n = 9 := by omega
 rcases hc with rfl | rfl | rfl | rfl | rfl | rfl | rfl | rfl | rfl | rfl <;> exact (shl_F rfl).trans (by kernel_rfl)
section
variable {m : Int} {h : Heap}
def sV (bs : List Nat) (B K : Nat) (p : Nat) : LV := match digN bs K p with
 | none => .tup [.int .i64 (Int.ofNat 0), .int .i64 (Int.ofNat 0), formE]
 | some r => match rdS (valD r.1) r.1.length B with
  | none => .tup [.int .i64 (Int.ofNat 0), .int .i64 (Int.ofNat 0), formE]
  | some x => .tup [.int .i64 (IntKind.wrap .i64 (x : Int)), .int .i64 (r.2 : Int), .nilI]
theorem ext_val {V n : Nat} (hn : 1 ≤ n) (h9 : n ≤ 9) (hV : V < 2 ^ (7 * n)) : (sxt V (7 * n) % (2 : Int) ^ 64).toNat = if 2 * V < 2 ^ (7 * n) then V else V + 2 ^ (7 * n) * (2 ^ (64 - 7 * n) - 1) := by
 unfold sxt
 have h64 : (2 : Int) ^ 64 = 18446744073709551616 := by decide
 have hp : 2 ^ (7 * n) * (2 ^ (64 - 7 * n) - 1) = 18446744073709551616 - 2 ^ (7 * n) := by
  rw [Nat.mul_sub, ← Nat.pow_add, show 7 * n + (64 - 7 * n) = 64 by omega, Nat.mul_one]
 have hle : 2 ^ (7 * n) ≤ 2 ^ 63 := Nat.pow_le_pow_right (by decide) (by omega)
 have h63 : (2 : Nat) ^ 63 = 9223372036854775808 := by decide
 have hpi : (2 : Int) ^ (7 * n) = ((2 ^ (7 * n) : Nat) : Int) := by push_cast; rfl
 rw [h64, hpi, hp]
 generalize 2 ^ (7 * n) = P at *
 split
 ·omega
 ·omega
theorem s90 {bs : List Nat} (hb : ∀ x, x ∈ bs → x < 256) (hl : bs.length < 2 ^ 62) {B K p : Nat} (hB : (B = 32 ∧ K = 5) ∨ (B = 64 ∧ K = 10)) (hp : p ≤ bs.length) :
  callF (cxZ m) (blk (cxZ m)) 90 [.v (.imm (encBy bs)), .v (.int .i64 (p : Int)), .v (.int .i64 (B : Int))] h = some (sV bs B K p, h) := by
 have hm := may97 (m := m) (h := h) (bs := bs) (B := B) (p := p) (by omega) hp
 have hr := raw98 (m := m) (h := h) hb hl (B := B) (K := K) (p := p) hB hp
 unfold rawV at hr
 unfold sV
 cases hd : digN bs K p with
 | none =>
  rw [hd] at hr
  exact callF_of rfl rfl (by kernel_rfl) (p90_1 (k0 := hm) (k1 := rfl) (k2 := hr) (k3 := rfl))
 | some r =>
  obtain ⟨d, q⟩ := r
  rw [hd] at hr
  obtain ⟨d1, d2, d3, d4, d5⟩ := digN_ok _ _ hd
  obtain ⟨y, low, y1, y2, y3, y4⟩ := digN_last _ _ hd
  have hV := valD_lt d5
  simp only [Nat.mul_zero, Nat.zero_add, Nat.pow_zero, Nat.mul_one] at hr
  simp only
  generalize hVd : valD d = V at *
  generalize hn : d.length = n at *
  have k4 := ix_by (l := bs) (z := IntKind.wrap .i64 ((q : Int) - Int.ofNat 1)) (i := q - 1) (by rw [ofN, wrapI (by unfold InZ; omega)]; omega) y1
  have e64 := and64n y2
  have w64 : ∀ z : Nat, z < 18446744073709551616 → IntKind.wrap .i64 (z : Int) = IntKind.wrap .i64 (z : Int) := fun _ _ => rfl
  have hP : 2 ^ (7 * n) = 128 * 128 ^ (n - 1) := by rw [← pow128, ← Nat.pow_succ', show (n - 1).succ = n by omega]
  have hsg : y < 64 ↔ 2 * V < 2 ^ (7 * n) := by
   rw [hP, y3]
   generalize 128 ^ (n - 1) = P at *
   constructor
   ·intro hy
    have : y * P ≤ 63 * P := Nat.mul_le_mul_right _ (by omega)
    omega
   ·intro hv
    rcases Nat.lt_or_ge y 64 with hh | hh
    ·exact hh
    ·have : 64 * P ≤ y * P := Nat.mul_le_mul_right _ hh
     omega
  by_cases h10 : n = 10
  ·
   have hB64 : B = 64 ∧ K = 10 := by omega
   obtain ⟨rfl, rfl⟩ := hB64
   subst h10
   have e9 : (128 : Nat) ^ (10 - 1) = 9223372036854775808 := by decide
   have e10 : (128 : Nat) ^ 10 = 1180591620717411303424 := by decide
   rw [e9] at y3 y4
   rw [e10] at hV
   have k5 : ltZ (Int.ofNat 64) ((7 * 10 : Nat) : Int) = true := by decide
   have k6 : binF Tryz.prog .shr 5 false (.int .u8 (y : Int)) (.int .i64 (IntKind.wrap .i64 (IntKind.wrap .i64 (IntKind.wrap .i64 (Int.ofNat 64 + Int.ofNat 7) - ((7 * 10 : Nat) : Int)) - Int.ofNat 1))) = some (.int .u8 (y : Int)) := by
    rw [shr_F (g := 0) (by kernel_rfl)]
    show some (AV.int .u8 ((y : Int).fdiv 1)) = _
    rw [Int.fdiv_eq_ediv_of_nonneg _ (by decide), Int.ediv_one]
   have k8 : binF Tryz.prog .shr 5 true (.int .u8 (Int.ofNat 127)) (.int .i64 (IntKind.wrap .i64 (IntKind.wrap .i64 (IntKind.wrap .i64 (Int.ofNat 64 + Int.ofNat 7) - ((7 * 10 : Nat) : Int)) - Int.ofNat 1))) = some (.int .u8 (Int.ofNat 127)) := by
    rw [shr_F (g := 0) (by kernel_rfl)]
    kernel_rfl
   have n64 : ltZ ((7 * 10 : Nat) : Int) (Int.ofNat 64) = false := by decide
   rw [rdS_10 hV]
   by_cases y0 : y = 0
   ·rw [if_pos (by omega), ← Nat.mod_eq_of_lt (show V < 18446744073709551616 by omega)]
    exact callF_of rfl rfl (by kernel_rfl) (p90_8 (k0 := hm) (k1 := rfl) (k2 := hr) (k3 := rfl) (k4 := k4) (k5 := k5) (k6 := k6) (k7 := congrArg not (eqZ_t (b := Int.ofNat 0) (by rw [y0]; rfl))) (k8 := n64))
   ·have k7 : (!eqZ (y : Int) (Int.ofNat 0)) = true := congrArg not (eqZ_f (b := Int.ofNat 0) (by rw [ofN]; omega))
    rw [if_neg (by omega)]
    by_cases y127 : y = 127
    ·rw [if_neg (by omega), if_pos (by omega), show (((V : Int) - 1180591620717411303424) % 18446744073709551616).toNat = V % 18446744073709551616 by omega]
     exact callF_of rfl rfl (by kernel_rfl) (p90_5 (k0 := hm) (k1 := rfl) (k2 := hr) (k3 := rfl) (k4 := k4) (k5 := k5) (k6 := k6) (k7 := k7) (k8 := k8) (k9 := congrArg not (eqZ_t (b := Int.ofNat 127) (by rw [y127]; rfl))) (k10 := n64))
    ·have hnone : (if 2 * V < 1180591620717411303424 then none else if 1180591620717411303424 ≤ V + 9223372036854775808 then some ((((V : Int) - 1180591620717411303424) % 18446744073709551616).toNat) else none : Option Nat) = none := by
      split
      ·rfl
      ·rw [if_neg (by omega)]
     rw [hnone]
     exact callF_of rfl rfl (by kernel_rfl) (p90_2 (k0 := hm) (k1 := rfl) (k2 := hr) (k3 := rfl) (k4 := k4) (k5 := k5) (k6 := k6) (k7 := k7) (k8 := k8) (k9 := congrArg not (eqZ_f (b := Int.ofNat 127) (by rw [ofN]; omega))))
  ·
   have h9 : n ≤ 9 := by omega
   have hV' : V < 2 ^ (7 * n) := by rw [← pow128]; exact hV
   have hle : 2 ^ (7 * n) ≤ 2 ^ 63 := Nat.pow_le_pow_right (by decide) (by omega)
   have h63 : (2 : Nat) ^ 63 = 9223372036854775808 := by decide
   have hVm : V % 18446744073709551616 = V := Nat.mod_eq_of_lt (by omega)
   have hx := ext_val d1 h9 hV'
   have k64 : ltZ ((7 * n : Nat) : Int) (Int.ofNat 64) = true := ltZ_t (by rw [ofN]; omega)
   rw [hVm] at hr
   have hE := ext_F h9
   have hor := or64 (a := V) (c := 2 ^ (64 - 7 * n) - 1) hV' (by
    have hp : 2 ^ (7 * n) * (2 ^ (64 - 7 * n) - 1) = 18446744073709551616 - 2 ^ (7 * n) := by
     rw [Nat.mul_sub, ← Nat.pow_add, show 7 * n + (64 - 7 * n) = 64 by omega, Nat.mul_one]
    have hp0 : 0 < 2 ^ (7 * n) := Nat.pow_pos (by decide)
    omega) (by omega)
   have res : ∀ {r0 : LV}, (y < 64 → r0 = .tup [.int .i64 (IntKind.wrap .i64 (V : Int)), .int .i64 (q : Int), .nilI]) → (¬ y < 64 → r0 = .tup [.int .i64 (IntKind.wrap .i64 ((V + 2 ^ (7 * n) * (2 ^ (64 - 7 * n) - 1) : Nat) : Int)), .int .i64 (q : Int), .nilI]) → r0 = .tup [.int .i64 (IntKind.wrap .i64 (((sxt V (7 * n) % (2 : Int) ^ 64).toNat : Nat) : Int)), .int .i64 (q : Int), .nilI] := fun h1 h2 => by
    rw [hx]
    by_cases hy : y < 64
    ·rw [if_pos (hsg.1 hy)]; exact h1 hy
    ·rw [if_neg (fun hh => hy (hsg.2 hh))]; exact h2 hy
   by_cases h5 : B = 32 ∧ n = 5
   ·obtain ⟨rfl, rfl⟩ := h5
    have e4 : (128 : Nat) ^ (5 - 1) = 268435456 := by decide
    have e5 : (2 : Nat) ^ (7 * 5) = 34359738368 := by decide
    rw [e4] at y3 y4
    have k5 : ltZ (Int.ofNat 32) ((7 * 5 : Nat) : Int) = true := by decide
    have k6 : binF Tryz.prog .shr 5 false (.int .u8 (y : Int)) (.int .i64 (IntKind.wrap .i64 (IntKind.wrap .i64 (IntKind.wrap .i64 (Int.ofNat 32 + Int.ofNat 7) - ((7 * 5 : Nat) : Int)) - Int.ofNat 1))) = some (.int .u8 ((y / 8 : Nat) : Int)) := by
     rw [shr_F (g := 3) (by kernel_rfl)]
     show some (AV.int .u8 ((y : Int).fdiv 8)) = _
     rw [Int.fdiv_eq_ediv_of_nonneg _ (by decide)]
     rfl
    have k8 : binF Tryz.prog .shr 5 true (.int .u8 (Int.ofNat 127)) (.int .i64 (IntKind.wrap .i64 (IntKind.wrap .i64 (IntKind.wrap .i64 (Int.ofNat 32 + Int.ofNat 7) - ((7 * 5 : Nat) : Int)) - Int.ofNat 1))) = some (.int .u8 (Int.ofNat 15)) := by
     rw [shr_F (g := 3) (by kernel_rfl)]
     kernel_rfl
    have hrd := rdS_5 (V := V) (by rw [e5] at hV'; exact hV')
    by_cases y0 : y / 8 = 0
    ·have hy : y < 64 := by omega
     have kz : (!eqZ ((y / 8 : Nat) : Int) (Int.ofNat 0)) = false := congrArg not (eqZ_t (b := Int.ofNat 0) (by rw [y0]; rfl))
     rw [hrd, if_pos (by omega)]
     exact callF_of rfl rfl (by kernel_rfl) (p90_7 (k0 := hm) (k1 := rfl) (k2 := hr) (k3 := rfl) (k4 := k4) (k5 := k5) (k6 := k6) (k7 := kz) (k8 := k64) (k9 := by rw [e64, if_pos hy]; rfl))
    ·have k7 : (!eqZ ((y / 8 : Nat) : Int) (Int.ofNat 0)) = true := congrArg not (eqZ_f (b := Int.ofNat 0) (by rw [ofN]; omega))
     rw [hrd, if_neg (by omega)]
     by_cases y15 : y / 8 = 15
     ·have hy : ¬ y < 64 := by omega
      have ex : ((((V : Int) - 34359738368) % 18446744073709551616).toNat) = V + 2 ^ (7 * 5) * (2 ^ (64 - 7 * 5) - 1) := by
       rw [show 2 ^ (7 * 5) * (2 ^ (64 - 7 * 5) - 1) = 18446744039349813248 by decide]; omega
      rw [if_neg (by omega), if_pos (by omega), ex]
      have := callF_of (cx := cxZ m) rfl rfl (by kernel_rfl) (p90_3 (k0 := hm) (k1 := rfl) (k2 := hr) (k3 := rfl) (k4 := k4) (k5 := k5) (k6 := k6) (k7 := k7) (k8 := k8) (k9 := congrArg not (eqZ_t (b := Int.ofNat 15) (by rw [y15]; rfl))) (k10 := k64) (k11 := by rw [e64, if_neg hy]; rfl) (k12 := hE))
      rw [hor] at this
      exact this
     ·have hnone : (if 2 * V < 34359738368 then none else if 34359738368 ≤ V + 2147483648 then some ((((V : Int) - 34359738368) % 18446744073709551616).toNat) else none : Option Nat) = none := by
       split
       ·rfl
       ·rw [if_neg (by omega)]
      rw [hnone]
      exact callF_of rfl rfl (by kernel_rfl) (p90_2 (k0 := hm) (k1 := rfl) (k2 := hr) (k3 := rfl) (k4 := k4) (k5 := k5) (k6 := k6) (k7 := k7) (k8 := k8) (k9 := congrArg not (eqZ_f (b := Int.ofNat 15) (by rw [ofN]; omega))))
   ·have hfit : 7 * n ≤ B := by omega
    have k5 : ltZ (B : Int) ((7 * n : Nat) : Int) = false := ltZ_f (by omega)
    have hrd : rdS V n B = some ((sxt V (7 * n) % (2 : Int) ^ 64).toNat) := by unfold rdS; rw [if_pos (.inl hfit)]
    rw [hrd]
    simp only
    rw [hx]
    by_cases hy : y < 64
    ·rw [if_pos (hsg.1 hy)]
     exact callF_of rfl rfl (by kernel_rfl) (p90_10 (k0 := hm) (k1 := rfl) (k2 := hr) (k3 := rfl) (k4 := k4) (k5 := k5) (k6 := k64) (k7 := by rw [e64, if_pos hy]; rfl))
    ·rw [if_neg (fun hh => hy (hsg.2 hh))]
     have := callF_of (cx := cxZ m) rfl rfl (by kernel_rfl) (p90_9 (k0 := hm) (k1 := rfl) (k2 := hr) (k3 := rfl) (k4 := k4) (k5 := k5) (k6 := k64) (k7 := by rw [e64, if_neg hy]; rfl) (k8 := hE))
     rw [hor] at this
     exact this
end
end Go.Proofs.YthcjapmfchidhaaGreatDoor
