/-
  The program's reader: any list, and Get.
-/
import Derived.Test.YthcjapmfchidhaaGreatDoorAmS6s
import Derived.Test.YthcjapmfchidhaaGreatDoorAmS6twM
import Derived.Test.YthcjapmfchidhaaGreatDoorAmS6f
import Derived.Test.YthcjapmfchidhaaGreatDoorAmExpD
import Derived.Test.YthcjapmfchidhaaGreatDoorAmHeap
import Derived.Test.YthcjapmfchidhaaGreatDoorAmExpC
namespace Go.Proofs.YthcjapmfchidhaaGreatDoor
set_option maxRecDepth 100000
open Go Go.Proofs.Am
def findQ (z : Int) : List RowQ → Option RowQ
 | [] => none
 | r :: rs => bif eqZ (.ofNat r.b) z then some r else findQ z rs
def kindQ (z : Int) : Int := match findQ z rowsT with | some r => .ofNat r.k | none => 0
def intsN : List Nat → List Int → Bool
 | [], [] => true
 | n :: ns, z :: zs => eqZ (.ofNat n) z && intsN ns zs
 | _, _ => false
theorem intsN_eq : ∀ {ns : List Nat} {zs : List Int}, intsN ns zs = true → ns.map Int.ofNat = zs
 | [], [], _ => rfl
 | n :: ns, z :: zs, h => by
  simp only [intsN, Bool.and_eq_true] at h
  rw [List.map_cons, (eqZ_i h.1).2 rfl, intsN_eq h.2]
 | [], _ :: _, h => by cases h
 | _ :: _, [], h => by cases h
def kChk (n k : Nat) : Bool := ((Nat.ble 12 n && Nat.ble n 15) == Nat.beq k 3) && ((Nat.ble 16 n && Nat.ble n 17) == Nat.beq k 4) && ((Nat.ble 26 n && Nat.ble n 27) == Nat.beq k 5) && ((Nat.ble 32 n && Nat.ble n 36) == Nat.beq k 6) && ((Nat.ble 2 n && Nat.ble n 4) == Nat.beq k 2) && ((Nat.ble 0 n && Nat.ble n 1) == Nat.beq k 1)
theorem rngB {a b n c k : Nat} (h : ((Nat.ble a n && Nat.ble n b) == Nat.beq k c) = true) : (a ≤ n ∧ n ≤ b) ↔ k = c := by
 rw [beq_iff_eq] at h
 constructor
 ·rintro ⟨h1, h2⟩
  rw [Nat.ble_eq_true_of_le h1, Nat.ble_eq_true_of_le h2] at h
  exact Nat.eq_of_beq_eq_true h.symm
 ·rintro rfl
  rw [Nat.beq_refl, Bool.and_eq_true] at h
  exact ⟨Nat.le_of_ble_eq_true h.1, Nat.le_of_ble_eq_true h.2⟩
def chkQ (n : Nat) (x : LV) : Bool :=
 match opP x, findQ (.ofNat n) rowsT with
 | some r, some q => eqZ (.ofNat q.k) r.kind && intsN q.tk r.takes && eqZ (.ofNat q.gv) r.gives && eqZ (.ofNat q.y) r.bytes && Nat.ble q.y 8 && q.tk.all (fun t => Nat.ble 1 t && Nat.ble t 2) && Nat.ble q.gv 2 && (!Nat.beq q.k 10 || (Nat.beq q.gv 1 == Nat.beq n 65)) && kChk n q.k
 | none, none => true
 | _, _ => false
def chkQL : Nat → List LV → Bool
 | _, [] => true
 | n, x :: xs => chkQ n x && chkQL (n + 1) xs
theorem chkQ_all : chkQL 0 lookL = true := by kernel_rfl
theorem chkQL_get : ∀ (l : List LV) (n k : Nat) (x : LV), chkQL n l = true → l[k]? = some x → chkQ (n + k) x = true
 | [], n, k, x, _, h => by simp at h
 | y :: l, n, 0, x, h, hx => by
  simp only [chkQL, Bool.and_eq_true] at h
  simp only [List.getElem?_cons_zero, Option.some.injEq] at hx
  subst hx
  exact h.1
 | y :: l, n, k + 1, x, h, hx => by
  simp only [chkQL, Bool.and_eq_true] at h
  have := chkQL_get l (n + 1) k x h.2 (by simpa using hx)
  rwa [show n + (k + 1) = n + 1 + k by omega]
theorem findQ_mem {z : Int} : ∀ {rs : List RowQ} {q : RowQ}, findQ z rs = some q → q ∈ rs ∧ (Int.ofNat q.b) = z
 | [], q, h => by cases h
 | r :: rs, q, h => by
  rw [findQ] at h
  cases hb : eqZ (.ofNat r.b) z with
  | true => rw [hb, cond_true] at h; cases h; exact ⟨by simp, (eqZ_i hb).2 rfl⟩
  | false =>
   rw [hb, cond_false] at h
   obtain ⟨h1, h2⟩ := findQ_mem h
   exact ⟨List.mem_cons_of_mem _ h1, h2⟩
theorem rows_lt : (rowsT.all fun r => Nat.blt r.b 192) = true := by kernel_rfl
theorem lookLen : lookL.length = 192 := by kernel_rfl
structure QF (z : Int) (r : OpR) (q : RowQ) : Prop where
 fd : findQ z rowsT = some q
 k : (q.k : Int) = r.kind
 tk : q.tk.map Int.ofNat = r.takes
 gv : (q.gv : Int) = r.gives
 y : (q.y : Int) = r.bytes
 y8 : q.y ≤ 8
 t2 : ∀ t, t ∈ q.tk → 1 ≤ t ∧ t ≤ 2
 g2 : q.gv ≤ 2
 c10 : r.kind = 10 → (r.gives = 1 ↔ z = 65)
 kk : ∃ n : Nat, z = n ∧ kChk n q.k = true
theorem op_row (z : Int) : (opI z = none ∧ findQ z rowsT = none) ∨ ∃ r q, opI z = some r ∧ QF z r q := by
 have big : ∀ z : Int, (z < 0 ∨ 192 ≤ z) → findQ z rowsT = none := by
  intro z hz
  cases hf : findQ z rowsT with
  | none => rfl
  | some q =>
   obtain ⟨h1, h2⟩ := findQ_mem hf
   have := Nat.le_of_ble_eq_true (List.all_eq_true.1 rows_lt q h1)
   have h3 : Int.ofNat q.b = (q.b : Int) := rfl
   omega
 rcases (show z < 0 ∨ 0 ≤ z by omega) with h | h
 ·left
  refine ⟨?_, big z (.inl h)⟩
  unfold opI lookV
  cases z with
  | ofNat n => exact absurd h (by have : Int.ofNat n = (n : Int) := rfl; omega)
  | negSucc k => exact none_no
 ·obtain ⟨n, rfl⟩ := Int.eq_ofNat_of_zero_le h
  unfold opI lookV
  show (opP ((lookL[n]?).getD noneL) = none ∧ _) ∨ ∃ r q, opP ((lookL[n]?).getD noneL) = some r ∧ _
  cases hx : lookL[n]? with
  | none =>
   have : 192 ≤ n := by rw [← lookLen]; exact List.getElem?_eq_none_iff.1 hx
   exact .inl ⟨none_no, big _ (.inr (by omega))⟩
  | some x =>
   have h1 := chkQL_get lookL 0 n x chkQ_all hx
   rw [Nat.zero_add] at h1
   unfold chkQ at h1
   have h2 : Int.ofNat n = (n : Int) := rfl
   rw [h2] at h1
   cases hp : opP x with
   | none =>
    rw [hp] at h1
    cases hf : findQ (n : Int) rowsT with
    | none => exact .inl ⟨hp, rfl⟩
    | some q => rw [hf] at h1; cases h1
   | some r =>
    rw [hp] at h1
    cases hf : findQ (n : Int) rowsT with
    | none => rw [hf] at h1; cases h1
    | some q =>
     rw [hf] at h1
     simp only [Bool.and_eq_true] at h1
     obtain ⟨⟨⟨⟨⟨⟨⟨⟨e1, e2⟩, e3⟩, e4⟩, e5⟩, e6⟩, e7⟩, e9⟩, e8⟩ := h1
     refine .inr ⟨r, q, hp, hf, (eqZ_i e1).2 rfl, intsN_eq e2, (eqZ_i e3).2 rfl, (eqZ_i e4).2 rfl, Nat.le_of_ble_eq_true e5, fun t ht => ?_, Nat.le_of_ble_eq_true e7, fun hk => ?_, n, rfl, e8⟩
     ·have := List.all_eq_true.1 e6 t ht
      rw [Bool.and_eq_true] at this
      exact ⟨Nat.le_of_ble_eq_true this.1, Nat.le_of_ble_eq_true this.2⟩
     ·have k1 : (q.k : Int) = r.kind := (eqZ_i e1).2 rfl
      have g1 : (q.gv : Int) = r.gives := (eqZ_i e3).2 rfl
      have hk10 : q.k = 10 := by omega
      rw [hk10, Nat.beq_refl, Bool.not_true, Bool.false_or, beq_iff_eq] at e9
      constructor
      ·intro hg
       have : q.gv = 1 := by omega
       rw [this, Nat.beq_refl] at e9
       have := Nat.eq_of_beq_eq_true e9.symm
       omega
      ·intro hz
       have : n = 65 := by omega
       rw [this, Nat.beq_refl] at e9
       have := Nat.eq_of_beq_eq_true e9
       omega
theorem QF.ks {z : Int} {r : OpR} {q : RowQ} (h : QF z r q) : ((12 ≤ z ∧ z ≤ 15) ↔ r.kind = 3) ∧ ((16 ≤ z ∧ z ≤ 17) ↔ r.kind = 4) ∧ ((26 ≤ z ∧ z ≤ 27) ↔ r.kind = 5) ∧ ((32 ≤ z ∧ z ≤ 36) ↔ r.kind = 6) ∧ ((2 ≤ z ∧ z ≤ 4) ↔ r.kind = 2) ∧ ((0 ≤ z ∧ z ≤ 1) ↔ r.kind = 1) ∧ 0 ≤ z := by
 obtain ⟨n, hz, hc⟩ := h.kk
 have hk := h.k
 unfold kChk at hc
 simp only [Bool.and_eq_true] at hc
 obtain ⟨⟨⟨⟨⟨h3, h4⟩, h5⟩, h6⟩, h2⟩, h1⟩ := hc
 have h3 := rngB h3
 have h4 := rngB h4
 have h5 := rngB h5
 have h6 := rngB h6
 have h2 := rngB h2
 have h1 := rngB h1
 refine ⟨?_, ?_, ?_, ?_, ?_, ?_, by omega⟩ <;> omega
section
variable {m : Int} {s : Scp} {L : Nat} {h : Heap} {N R : Nat} {o a b v t : Int} {ll bd el : List (List AV)} {q : Bool}
end
end Go.Proofs.YthcjapmfchidhaaGreatDoor
namespace Go.Proofs.YthcjapmfchidhaaGreatDoor
set_option maxRecDepth 100000
open Go Go.Proofs.Am
def chkO (n : Nat) : Bool :=
 match opP ((lookL[n]?).getD noneL) with
 | none => !(Nat.beq n 65 || Nat.beq n 66)
 | some r => (eqZ r.kind 10 == (Nat.beq n 65 || Nat.beq n 66)) && !floN n
theorem chkO_all : (List.range 192).all chkO = true := by kernel_rfl
def chkF (n : Nat) (x : LV) : Bool :=
 match x with
 | .tup [_, .ifc 32 (.int .i64 c)] => eqZ c 3 == floN n
 | _ => true
theorem chkF_all : ((List.range 192).all fun n => chkF n ((lookL[n]?).getD noneL)) = true := by kernel_rfl
theorem chkF_big (k : Nat) : chkF (k + 192) noneL = true := by kernel_rfl
theorem chkF_neg : (match noneL with | .tup [_, .ifc 32 (.int .i64 c)] => eqZ c 3 == false | _ => true) = true := by kernel_rfl
theorem op_lt {z : Int} {r : OpR} (h : opI z = some r) : ∃ n : Nat, z = n ∧ n < 192 ∧ lookV z = (lookL[n]?).getD noneL := by
 unfold opI lookV at h
 unfold lookV
 cases z with
 | negSucc k => rw [none_no] at h; cases h
 | ofNat n =>
  refine ⟨n, rfl, ?_, rfl⟩
  rcases Nat.lt_or_ge n 192 with hn | hn
  ·exact hn
  ·have : lookL[n]? = none := List.getElem?_eq_none (by rw [lookLen]; exact hn)
   simp only [this, Option.getD_none] at h
   rw [none_no] at h
   cases h
theorem nb {n k : Nat} : Nat.beq n k = true ↔ n = k := ⟨Nat.eq_of_beq_eq_true, fun h => by rw [h]; exact Nat.beq_refl k⟩
theorem opLaw : OpLaw opI where
 rng := fun {z r} h => by
  obtain ⟨n, rfl, hn, _⟩ := op_lt h
  omega
 k2 := fun {z r} h => by
  rcases op_row z with ⟨h0, _⟩ | ⟨r', q, h1, hq⟩
  ·rw [h] at h0; cases h0
  ·rw [h] at h1; cases h1
   exact hq.ks.2.2.2.2.1.symm
 k3 := fun {z r} h => by
  rcases op_row z with ⟨h0, _⟩ | ⟨r', q, h1, hq⟩
  ·rw [h] at h0; cases h0
  ·rw [h] at h1; cases h1
   exact hq.ks.1.symm
 k4 := fun {z r} h => by
  rcases op_row z with ⟨h0, _⟩ | ⟨r', q, h1, hq⟩
  ·rw [h] at h0; cases h0
  ·rw [h] at h1; cases h1
   exact hq.ks.2.1.symm
 k10 := fun {z r} h => by
  obtain ⟨n, rfl, hn, hl⟩ := op_lt h
  have hc := List.all_eq_true.1 chkO_all n (List.mem_range.2 hn)
  have h' : opP ((lookL[n]?).getD noneL) = some r := by unfold opI at h; rw [hl] at h; exact h
  unfold chkO at hc
  rw [h'] at hc
  simp only [Bool.and_eq_true, beq_iff_eq] at hc
  have h10 := eqZ_i (a := r.kind) (b := 10) rfl
  rw [h10, hc.1, Bool.or_eq_true, nb, nb]
  omega
 g10 := fun {z r} h hk => by
  rcases op_row z with ⟨h0, _⟩ | ⟨r', q, h1, hq⟩
  ·rw [h] at h0; cases h0
  ·rw [h] at h1; cases h1
   exact hq.c10 hk
 no := by
  constructor <;> kernel_rfl
theorem op_some {z : Int} {r : OpR} (h : opI z = some r) : lookV z = .tup [opA z r.nm r.kind (encN r.takes) r.gives r.bytes r.sg, .nilI] := by
 have h1 := opP_some h
 rw [(op_facts h).byte] at h1
 exact h1
theorem op_none {z : Int} (h : opI z = none) : ∃ ob nm k tk gv bz sg c, lookV z = .tup [opA ob nm k tk gv bz sg, .ifc 32 (.int .i64 c)] ∧ (c = 3 ↔ floB z = true) := by
 rcases look_cases z with ⟨_, _, _, hr, _⟩ | ⟨_, hno⟩
 ·rw [h] at hr; cases hr
 ·obtain ⟨ob, nm, k, tk, gv, bz, sg, c, hlk⟩ := isNo_eq hno
  refine ⟨ob, nm, k, tk, gv, bz, sg, c, hlk, ?_⟩
  have key : (eqZ c 3 == floB z) = true := by
   have hc : ∀ (n : Nat) (x : LV), chkF n x = true → x = .tup [opA ob nm k tk gv bz sg, .ifc 32 (.int .i64 c)] → (eqZ c 3 == floN n) = true := fun n x h1 h2 => by
    rw [h2] at h1; exact h1
   cases z with
   | negSucc j =>
    have h1 := chkF_neg
    have h2 : noneL = .tup [opA ob nm k tk gv bz sg, .ifc 32 (.int .i64 c)] := hlk
    rw [h2] at h1
    exact h1
   | ofNat n =>
    rcases Nat.lt_or_ge n 192 with hn | hn
    ·exact hc n _ (List.all_eq_true.1 chkF_all n (List.mem_range.2 hn)) hlk
    ·obtain ⟨j, rfl⟩ : ∃ j, n = j + 192 := ⟨n - 192, by omega⟩
     have h2 : lookL[j + 192]? = none := List.getElem?_eq_none (by rw [lookLen]; omega)
     have h3 : lookV (Int.ofNat (j + 192)) = noneL := by unfold lookV; simp only [h2, Option.getD_none]
     rw [h3] at hlk
     exact hc _ _ (chkF_big j) hlk
  rw [beq_iff_eq] at key
  rw [← key]
  exact eqZ_i rfl
end Go.Proofs.YthcjapmfchidhaaGreatDoor
namespace Go.Proofs.YthcjapmfchidhaaGreatDoor
set_option maxRecDepth 100000
open Go Go.Proofs.Am
def Er (L : Nat) (h : Heap) : Option PErr → AV → Prop
 | none, a => a = .nilI
 | some e, a => ∃ id, L < id ∧ a = .ifc 63 (.ptr id 0) ∧ h.bx[id]? = some [.v (.int .i64 (e.1 : Int)), .v (.ifc 32 (.int .i64 e.2))]
def rdC (bs : List Nat) (p n : Int) (a : AV) : List LV := [.v (.imm (encBy bs)), .v (.int .i64 p), .v (.int .i64 n), .v a]
def Rd (L : Nat) (h : Heap) (bs : List Nat) (p n : Int) (e : Option PErr) : Prop := ∃ a, h.bx[L]? = some (rdC bs p n a) ∧ Er L h e a
def RdE (L : Nat) (h : Heap) (bs : List Nat) (e : PErr) : Prop := ∃ p n : Int, Rd L h bs p n (some e)
def Fr (L : Nat) (h h' : Heap) : Prop := (∀ q, q < h.bx.length → q ≠ L → h'.bx[q]? = h.bx[q]?) ∧ h.bx.length ≤ h'.bx.length
theorem Fr.refl (L : Nat) (h : Heap) : Fr L h h := ⟨fun _ _ _ => rfl, Nat.le_refl _⟩
theorem Fr.trans {L : Nat} {h h1 h2 : Heap} (a : Fr L h h1) (b : Fr L h1 h2) : Fr L h h2 := ⟨fun q hq hn => (b.1 q (Nat.lt_of_lt_of_le hq a.2) hn).trans (a.1 q hq hn), Nat.le_trans a.2 b.2⟩
theorem Fr.put (h : Heap) (L : Nat) (bx : List LV) : Fr L h (h.put L bx) := ⟨fun _ _ hn => put_ne (Ne.symm hn), by rw [put_len]; exact Nat.le_refl _⟩
theorem Er.qn {L : Nat} {h : Heap} {e : Option PErr} {a : AV} (H : Er L h e a) : binF Tryz.prog .eql 28 true a .nilI = some (.bool e.isNone) ∧ binF Tryz.prog .neq 28 true a .nilI = some (.bool e.isSome) := by
 cases e with
 | none =>
  have : a = .nilI := H
  subst this
  exact ⟨by kernel_rfl, by kernel_rfl⟩
 | some e =>
  obtain ⟨id, _, rfl, _⟩ := H
  exact ⟨by kernel_rfl, by kernel_rfl⟩
section
variable {m : Int} {L : Nat} {h : Heap} {bs : List Nat} {p n : Int} {e : Option PErr}
theorem Rd.ld0 (H : Rd L h bs p n e) : ldP h (.ptr L 0) 1 false = some (.imm (encBy bs)) := by obtain ⟨a, h1, _⟩ := H; exact ldP_at h1 rfl
theorem Rd.ld1 (H : Rd L h bs p n e) : ldP h (.ptr L 1) 1 false = some (.int .i64 p) := by obtain ⟨a, h1, _⟩ := H; exact ldP_at h1 rfl
theorem Rd.ld2 (H : Rd L h bs p n e) : ldP h (.ptr L 2) 1 false = some (.int .i64 n) := by obtain ⟨a, h1, _⟩ := H; exact ldP_at h1 rfl
theorem Rd.ld3 (H : Rd L h bs p n e) : ∃ a, ldP h (.ptr L 3) 1 false = some a ∧ binF Tryz.prog .eql 28 true a .nilI = some (.bool e.isNone) ∧ binF Tryz.prog .neq 28 true a .nilI = some (.bool e.isSome) := by
 obtain ⟨a, h1, h2⟩ := H
 exact ⟨a, ldP_at h1 rfl, h2.qn⟩
theorem Er.put {a : AV} {bx : List LV} (H : Er L h e a) : Er L (h.put L bx) e a := by
 cases e with
 | none => exact H
 | some e =>
  obtain ⟨id, h1, h2, h3⟩ := H
  exact ⟨id, h1, h2, by rw [put_ne (Nat.ne_of_lt h1)]; exact h3⟩
theorem Rd.set1 (H : Rd L h bs p n e) (p' : Int) : ∃ h', stP h (.ptr L 1) [.v (.int .i64 p')] = some h' ∧ Rd L h' bs p' n e ∧ Fr L h h' := by
 obtain ⟨a, h1, h2⟩ := H
 refine ⟨_, stP_at h1 (show 1 < 4 by decide), ⟨a, ?_, h2.put⟩, Fr.put _ _ _⟩
 rw [put_same h1]; rfl
theorem Rd.set2 (H : Rd L h bs p n e) (n' : Int) : ∃ h', stP h (.ptr L 2) [.v (.int .i64 n')] = some h' ∧ Rd L h' bs p n' e ∧ Fr L h h' := by
 obtain ⟨a, h1, h2⟩ := H
 refine ⟨_, stP_at h1 (show 2 < 4 by decide), ⟨a, ?_, h2.put⟩, Fr.put _ _ _⟩
 rw [put_same h1]; rfl
theorem fail_R (H : Rd L h bs p n none) (pl : Nat) (c : Int) {z : Int} (hz : z = (pl : Int)) : ∃ h', callF (cxZ m) (blk (cxZ m)) 24 [.v (.ptr L 0), .v (.int .i64 z), .v (.ifc 32 (.int .i64 c))] h = some (.tup [], h') ∧ Rd L h' bs p n (some (pl, c)) ∧ Fr L h h' := by
 subst hz
 obtain ⟨a, h3, hq, _⟩ := H.ld3
 obtain ⟨a', h1, h2⟩ := H
 have hlt : L < h.bx.length := (List.getElem?_eq_some_iff.1 h1).1
 have hb : (Heap.mk (h.bx ++ [[LV.v (.int .i64 (pl : Int)), .v (.ifc 32 (.int .i64 c))]]) h.mp).bx[L]? = some (rdC bs p n a') := by
  show (h.bx ++ _)[L]? = _
  rw [List.getElem?_append_left hlt]; exact h1
 have hst := stP_at (x := .v (.ifc 63 (.ptr h.bx.length 0))) hb (k := 3) (by decide : 3 < 4)
 refine ⟨_, callF_of rfl rfl (by kernel_rfl) (p24_0 (k0 := h3) (k1 := hq) (k2 := rfl) (k3 := hst)), ⟨.ifc 63 (.ptr h.bx.length 0), ?_, h.bx.length, by omega, rfl, ?_⟩, fun q hq hn => ?_, ?_⟩
 ·rw [put_same hb]; rfl
 ·rw [put_ne (by omega)]
  show (h.bx ++ _)[h.bx.length]? = _
  rw [List.getElem?_append_right (Nat.le_refl _), Nat.sub_self]; rfl
 ·rw [put_ne (Ne.symm hn)]
  show (h.bx ++ _)[q]? = _
  rw [List.getElem?_append_left hq]
 ·rw [put_len]
  show _ ≤ (h.bx ++ _).length
  rw [List.length_append]; omega
theorem fail_E {e : PErr} (H : RdE L h bs e) (z c : Int) : callF (cxZ m) (blk (cxZ m)) 24 [.v (.ptr L 0), .v (.int .i64 z), .v (.ifc 32 (.int .i64 c))] h = some (.tup [], h) := by
 obtain ⟨p, n, H⟩ := H
 obtain ⟨a, h3, hq, _⟩ := H.ld3
 exact callF_of rfl rfl (by kernel_rfl) (p24_1 (k0 := h3) (k1 := hq) (k2 := rfl))
def Res {A : Type} (L : Nat) (h : Heap) (bs : List Nat) (n : Int) (r : PR A) (ok : A → Prop) : Prop :=
 match r with
 | .ok x => ok x.1 ∧ Rd L h bs (x.2 : Int) n none
 | .error e => RdE L h bs e
theorem byte_R (hb : ∀ x, x ∈ bs → x < 256) (hl : bs.length < 2 ^ 61) {p : Nat} (H : Rd L h bs (p : Int) n none) :
  ∃ h' v, callF (cxZ m) (blk (cxZ m)) 40 [.v (.ptr L 0)] h = some (.v (.int .i64 v), h') ∧ Fr L h h' ∧ Res L h' bs n (pByte bs p) (fun x => v = (x : Int)) := by
 obtain ⟨a, h3, _, hq⟩ := H.ld3
 unfold pByte
 cases hx : bs[p]? with
 | none =>
  have hge := List.getElem?_eq_none_iff.1 hx
  obtain ⟨h', hc, H', F⟩ := fail_R (m := m) H bs.length 2 (z := Int.ofNat (encBy bs).length) (by rw [encBy_len]; rfl)
  exact ⟨h', _, callF_of rfl rfl (by kernel_rfl) (p40_1 (k0 := h3) (k1 := hq) (k2 := rfl) (k3 := H.ld1) (k4 := H.ld0) (k5 := leZ_t (by rw [encBy_len, ofN]; omega)) (k6 := H.ld0) (k7 := hc)), F, ⟨_, _, H'⟩⟩
 | some x =>
  have hlt := (List.getElem?_eq_some_iff.1 hx).1
  have h256 := hb x (List.mem_of_getElem? hx)
  have wp : IntKind.wrap .i64 ((p : Int) + Int.ofNat 1) = ((p + 1 : Nat) : Int) := by rw [ofN, wrapI (by unfold InZ; omega)]; omega
  have wq : IntKind.wrap .i64 (((p + 1 : Nat) : Int) - Int.ofNat 1) = (p : Int) := by rw [ofN, wrapI (by unfold InZ; omega)]; omega
  obtain ⟨h', hs, H', F⟩ := H.set1 (IntKind.wrap .i64 ((p : Int) + Int.ofNat 1))
  have hv : IntKind.wrap .i64 (x : Int) = (x : Int) := wrapI (by unfold InZ; omega)
  refine ⟨h', _, callF_of rfl rfl (by kernel_rfl) (p40_2 (k0 := h3) (k1 := hq) (k2 := rfl) (k3 := H.ld1) (k4 := H.ld0) (k5 := leZ_f (by rw [encBy_len, ofN]; omega)) (k6 := H.ld1) (k7 := hs) (k8 := H'.ld0) (k9 := H'.ld1) (k10 := ix_by (by rw [wp, wq]) hx)), F, hv, ?_⟩
  rw [wp] at H'
  exact H'
theorem byte_E {e : PErr} (H : RdE L h bs e) : callF (cxZ m) (blk (cxZ m)) 40 [.v (.ptr L 0)] h = some (.v (.int .i64 (Int.ofNat 0)), h) := by
 obtain ⟨p, n, H⟩ := H
 obtain ⟨a, h3, _, hq⟩ := H.ld3
 exact callF_of rfl rfl (by kernel_rfl) (p40_0 (k0 := h3) (k1 := hq) (k2 := rfl))
theorem must_R (hb : ∀ x, x ∈ bs → x < 256) (hl : bs.length < 2 ^ 61) {p : Nat} (H : Rd L h bs (p : Int) n none) :
  ∃ h', callF (cxZ m) (blk (cxZ m)) 69 [.v (.ptr L 0), .v (.int .i64 (Int.ofNat 0))] h = some (.tup [], h') ∧ Fr L h h' ∧ Res L h' bs n (pMust bs 0 p) (fun _ => True) := by
 obtain ⟨h1, v, hc, F1, R1⟩ := byte_R (m := m) hb hl H
 unfold pMust
 cases hp : pByte bs p with
 | error e =>
  rw [hp] at R1
  have R1 : RdE L h1 bs e := R1
  have hf := fail_E (m := m) R1 (p : Int) (Int.ofNat 2)
  by_cases hv : v = 0
  ·exact ⟨h1, callF_of rfl rfl (by kernel_rfl) (p69_1 (k0 := H.ld1) (k1 := hc) (k2 := congrArg not (eqZ_t (b := Int.ofNat 0) hv))), F1, R1⟩
  ·exact ⟨h1, callF_of rfl rfl (by kernel_rfl) (p69_0 (k0 := H.ld1) (k1 := hc) (k2 := congrArg not (eqZ_f (b := Int.ofNat 0) hv)) (k3 := hf)), F1, R1⟩
 | ok r =>
  rw [hp] at R1
  obtain ⟨hv, R1⟩ := R1
  simp only
  by_cases h0 : r.1 = 0
  ·rw [if_pos h0]
   exact ⟨h1, callF_of rfl rfl (by kernel_rfl) (p69_1 (k0 := H.ld1) (k1 := hc) (k2 := congrArg not (eqZ_t (b := Int.ofNat 0) (by rw [hv, h0]; rfl)))), F1, trivial, R1⟩
  ·rw [if_neg h0]
   obtain ⟨h2, hf, R2, F2⟩ := fail_R (m := m) R1 p 2 (z := (p : Int)) rfl
   exact ⟨h2, callF_of rfl rfl (by kernel_rfl) (p69_0 (k0 := H.ld1) (k1 := hc) (k2 := congrArg not (eqZ_f (b := Int.ofNat 0) (by rw [hv, ofN]; omega))) (k3 := hf)), F1.trans F2, ⟨_, _, R2⟩⟩
theorem must_E {e : PErr} (H : RdE L h bs e) : callF (cxZ m) (blk (cxZ m)) 69 [.v (.ptr L 0), .v (.int .i64 (Int.ofNat 0))] h = some (.tup [], h) := by
 have hc := byte_E (m := m) H
 obtain ⟨p, n, H⟩ := H
 exact callF_of rfl rfl (by kernel_rfl) (p69_1 (k0 := H.ld1) (k1 := hc) (k2 := rfl))
theorem formE_q : binF Tryz.prog .neq 28 true formE .nilI = some (.bool true) ∧ binF Tryz.prog .neq 28 true .nilI .nilI = some (.bool false) := ⟨by kernel_rfl, by kernel_rfl⟩
theorem num_R (hb : ∀ x, x ∈ bs → x < 256) (hl : bs.length < 2 ^ 61) {p : Nat} (hp : p ≤ bs.length) (H : Rd L h bs (p : Int) n none) :
  ∃ h' v, callF (cxZ m) (blk (cxZ m)) 68 [.v (.ptr L 0)] h = some (.v (.int .i64 v), h') ∧ Fr L h h' ∧ Res L h' bs n (pNum bs p) (fun x => v = x) := by
 obtain ⟨a, h3, _, hq⟩ := H.ld3
 have hu := u89 (m := m) (h := h) hb (by omega) hp
 unfold uV at hu
 unfold pNum
 have bad : (callF (cxZ m) (blk (cxZ m)) 89 [.v (.imm (encBy bs)), .v (.int .i64 (p : Int)), .v (.int .i64 (Int.ofNat 32))] h = some (.tup [.int .u64 (Int.ofNat 0), .int .i64 (Int.ofNat 0), formE], h)) →
   ∃ h' v, callF (cxZ m) (blk (cxZ m)) 68 [.v (.ptr L 0)] h = some (.v (.int .i64 v), h') ∧ Fr L h h' ∧ RdE L h' bs (p, 2) := fun hu => by
  obtain ⟨h1, hf, R1, F1⟩ := fail_R (m := m) H p 2 (z := (p : Int)) rfl
  exact ⟨h1, _, callF_of rfl rfl (by kernel_rfl) (p68_1 (k0 := h3) (k1 := hq) (k2 := rfl) (k3 := H.ld0) (k4 := H.ld1) (k5 := hu) (k6 := formE_q.1) (k7 := rfl) (k8 := H.ld1) (k9 := hf)), F1, ⟨_, _, R1⟩⟩
 cases hd : digN bs 5 p with
 | none =>
  rw [hd] at hu
  exact bad hu
 | some r =>
  rw [hd] at hu
  simp only at hu ⊢
  have e32 : (2 : Nat) ^ 32 = 4294967296 := by decide
  by_cases hv : valD r.1 < 4294967296
  ·rw [if_pos hv] at hu
   rw [if_pos (by rw [e32]; exact hv)]
   obtain ⟨h1, hs, R1, F1⟩ := H.set1 (r.2 : Int)
   exact ⟨h1, _, callF_of rfl rfl (by kernel_rfl) (p68_2 (k0 := h3) (k1 := hq) (k2 := rfl) (k3 := H.ld0) (k4 := H.ld1) (k5 := hu) (k6 := formE_q.2) (k7 := rfl) (k8 := hs)), F1, wrapI (by unfold InZ; omega), R1⟩
  ·rw [if_neg hv] at hu
   rw [if_neg (by rw [e32]; exact hv)]
   exact bad hu
theorem num_E {e : PErr} (H : RdE L h bs e) : callF (cxZ m) (blk (cxZ m)) 68 [.v (.ptr L 0)] h = some (.v (.int .i64 (Int.ofNat 0)), h) := by
 obtain ⟨p, n, H⟩ := H
 obtain ⟨a, h3, _, hq⟩ := H.ld3
 exact callF_of rfl rfl (by kernel_rfl) (p68_0 (k0 := h3) (k1 := hq) (k2 := rfl))
theorem con_R (hb : ∀ x, x ∈ bs → x < 256) (hl : bs.length < 2 ^ 61) {p : Nat} (hp : p ≤ bs.length) (H : Rd L h bs (p : Int) n none) {t : Int} {w : Bool} (ht : w = false ↔ t = 1) :
  ∃ h' v, callF (cxZ m) (blk (cxZ m)) 70 [.v (.ptr L 0), .v (.int .i64 t)] h = some (.v (.int .u64 v), h') ∧ Fr L h h' ∧ Res L h' bs n (pCon bs w p) (fun x => v = x) := by
 obtain ⟨a, h3, _, hq⟩ := H.ld3
 unfold pCon
 cases w with
 | false =>
  have k0 := eqZ_t (b := Int.ofNat 1) (ht.1 rfl)
  have hu := s90 (m := m) (h := h) hb (by omega) (B := 32) (K := 5) (.inl ⟨rfl, rfl⟩) hp
  unfold sV at hu
  have bad : (callF (cxZ m) (blk (cxZ m)) 90 [.v (.imm (encBy bs)), .v (.int .i64 (p : Int)), .v (.int .i64 (Int.ofNat 32))] h = some (.tup [.int .i64 (Int.ofNat 0), .int .i64 (Int.ofNat 0), formE], h)) →
    ∃ h' v, callF (cxZ m) (blk (cxZ m)) 70 [.v (.ptr L 0), .v (.int .i64 t)] h = some (.v (.int .u64 v), h') ∧ Fr L h h' ∧ RdE L h' bs (p, 2) := fun hu => by
   obtain ⟨h1, hf, R1, F1⟩ := fail_R (m := m) H p 2 (z := (p : Int)) rfl
   exact ⟨h1, _, callF_of rfl rfl (by kernel_rfl) (p70_1 (k0 := k0) (k1 := h3) (k2 := hq) (k3 := rfl) (k4 := H.ld0) (k5 := H.ld1) (k6 := hu) (k7 := formE_q.1) (k8 := rfl) (k9 := H.ld1) (k10 := hf)), F1, ⟨_, _, R1⟩⟩
  rw [if_neg (by decide)]
  cases hd : digN bs 5 p with
  | none =>
   rw [hd] at hu
   exact bad hu
  | some r =>
   rw [hd] at hu
   simp only [Bool.false_eq_true, if_false] at hu ⊢
   cases hr : rdS (valD r.1) r.1.length 32 with
   | none => rw [hr] at hu; exact bad hu
   | some x =>
    rw [hr] at hu
    obtain ⟨h1, hs, R1, F1⟩ := H.set1 (r.2 : Int)
    refine ⟨h1, _, callF_of rfl rfl (by kernel_rfl) (p70_2 (k0 := k0) (k1 := h3) (k2 := hq) (k3 := rfl) (k4 := H.ld0) (k5 := H.ld1) (k6 := hu) (k7 := formE_q.2) (k8 := rfl) (k9 := hs)), F1, ?_, R1⟩
    show IntKind.wrap .u64 (IntKind.wrap .u32 (IntKind.wrap .i64 (x : Int))) = ((x % 4294967296 : Nat) : Int)
    rw [wrapU64, wrapU32, wrapI64]
    split <;> omega
 | true =>
  have k0 := eqZ_f (a := t) (b := Int.ofNat 1) (fun hh => absurd (ht.2 hh) (by decide))
  have hu := s90 (m := m) (h := h) hb (by omega) (B := 64) (K := 10) (.inr ⟨rfl, rfl⟩) hp
  unfold sV at hu
  have bad : (callF (cxZ m) (blk (cxZ m)) 90 [.v (.imm (encBy bs)), .v (.int .i64 (p : Int)), .v (.int .i64 (Int.ofNat 64))] h = some (.tup [.int .i64 (Int.ofNat 0), .int .i64 (Int.ofNat 0), formE], h)) →
    ∃ h' v, callF (cxZ m) (blk (cxZ m)) 70 [.v (.ptr L 0), .v (.int .i64 t)] h = some (.v (.int .u64 v), h') ∧ Fr L h h' ∧ RdE L h' bs (p, 2) := fun hu => by
   obtain ⟨h1, hf, R1, F1⟩ := fail_R (m := m) H p 2 (z := (p : Int)) rfl
   exact ⟨h1, _, callF_of rfl rfl (by kernel_rfl) (p70_4 (k0 := k0) (k1 := h3) (k2 := hq) (k3 := rfl) (k4 := H.ld0) (k5 := H.ld1) (k6 := hu) (k7 := formE_q.1) (k8 := rfl) (k9 := H.ld1) (k10 := hf)), F1, ⟨_, _, R1⟩⟩
  rw [if_pos rfl]
  cases hd : digN bs 10 p with
  | none =>
   rw [hd] at hu
   exact bad hu
  | some r =>
   rw [hd] at hu
   simp only [if_true] at hu ⊢
   cases hr : rdS (valD r.1) r.1.length 64 with
   | none => rw [hr] at hu; exact bad hu
   | some x =>
    rw [hr] at hu
    have hx : x < 18446744073709551616 := by
     unfold rdS at hr
     split at hr
     ·rw [i2_64] at hr; cases hr; omega
     ·cases hr
    obtain ⟨h1, hs, R1, F1⟩ := H.set1 (r.2 : Int)
    refine ⟨h1, _, callF_of rfl rfl (by kernel_rfl) (p70_5 (k0 := k0) (k1 := h3) (k2 := hq) (k3 := rfl) (k4 := H.ld0) (k5 := H.ld1) (k6 := hu) (k7 := formE_q.2) (k8 := rfl) (k9 := hs)), F1, ?_, R1⟩
    show IntKind.wrap .u64 (IntKind.wrap .i64 (x : Int)) = (x : Int)
    rw [wrapU64, wrapI64]
    split <;> omega
theorem res_R (hb : ∀ x, x ∈ bs → x < 256) (hl : bs.length < 2 ^ 61) {p : Nat} (H : Rd L h bs (p : Int) n none) :
  ∃ h' v, callF (cxZ m) (blk (cxZ m)) 88 [.v (.ptr L 0)] h = some (.v (.int .i64 v), h') ∧ Fr L h h' ∧ Res L h' bs n (pRes bs p) (fun x => v = x) := by
 obtain ⟨h1, v, hc, F1, R1⟩ := byte_R (m := m) hb hl H
 unfold pRes
 cases hp : pByte bs p with
 | error e =>
  rw [hp] at R1
  have R1 : RdE L h1 bs e := R1
  have f2 := fail_E (m := m) R1 (p : Int) (Int.ofNat 2)
  have f3 := fail_E (m := m) R1 (p : Int) (Int.ofNat 3)
  by_cases c64 : v = 64
  ·exact ⟨h1, _, callF_of rfl rfl (by kernel_rfl) (p88_0 (k0 := H.ld1) (k1 := hc) (k2 := eqZ_t (b := Int.ofNat 64) c64)), F1, R1⟩
  by_cases c127 : v = 127
  ·exact ⟨h1, _, callF_of rfl rfl (by kernel_rfl) (p88_1 (k0 := H.ld1) (k1 := hc) (k2 := eqZ_f (b := Int.ofNat 64) c64) (k3 := eqZ_t (b := Int.ofNat 127) c127)), F1, R1⟩
  by_cases c126 : v = 126
  ·exact ⟨h1, _, callF_of rfl rfl (by kernel_rfl) (p88_2 (k0 := H.ld1) (k1 := hc) (k2 := eqZ_f (b := Int.ofNat 64) c64) (k3 := eqZ_f (b := Int.ofNat 127) c127) (k4 := eqZ_t (b := Int.ofNat 126) c126)), F1, R1⟩
  by_cases c125 : v = 125
  ·exact ⟨h1, _, callF_of rfl rfl (by kernel_rfl) (p88_3 (k0 := H.ld1) (k1 := hc) (k2 := eqZ_f (b := Int.ofNat 64) c64) (k3 := eqZ_f (b := Int.ofNat 127) c127) (k4 := eqZ_f (b := Int.ofNat 126) c126) (k5 := eqZ_t (b := Int.ofNat 125) c125) (k6 := f3) (k7 := f2)), F1, R1⟩
  by_cases c124 : v = 124
  ·exact ⟨h1, _, callF_of rfl rfl (by kernel_rfl) (p88_5 (k0 := H.ld1) (k1 := hc) (k2 := eqZ_f (b := Int.ofNat 64) c64) (k3 := eqZ_f (b := Int.ofNat 127) c127) (k4 := eqZ_f (b := Int.ofNat 126) c126) (k5 := eqZ_f (b := Int.ofNat 125) c125) (k6 := eqZ_t (b := Int.ofNat 124) c124) (k7 := f3) (k8 := f2)), F1, R1⟩
  ·exact ⟨h1, _, callF_of rfl rfl (by kernel_rfl) (p88_6 (k0 := H.ld1) (k1 := hc) (k2 := eqZ_f (b := Int.ofNat 64) c64) (k3 := eqZ_f (b := Int.ofNat 127) c127) (k4 := eqZ_f (b := Int.ofNat 126) c126) (k5 := eqZ_f (b := Int.ofNat 125) c125) (k6 := eqZ_f (b := Int.ofNat 124) c124) (k7 := f2)), F1, R1⟩
 | ok r =>
  rw [hp] at R1
  obtain ⟨hv, R1⟩ := R1
  simp only
  have hne : ∀ k : Nat, r.1 ≠ k → eqZ v (Int.ofNat k) = false := fun k hk => eqZ_f (by rw [hv, ofN]; omega)
  have heq : ∀ k : Nat, r.1 = k → eqZ v (Int.ofNat k) = true := fun k hk => eqZ_t (by rw [hv, ofN]; omega)
  by_cases c64 : r.1 = 64
  ·rw [if_pos c64]
   exact ⟨h1, _, callF_of rfl rfl (by kernel_rfl) (p88_0 (k0 := H.ld1) (k1 := hc) (k2 := heq _ c64)), F1, rfl, R1⟩
  rw [if_neg c64]
  by_cases c127 : r.1 = 127
  ·rw [if_pos c127]
   exact ⟨h1, _, callF_of rfl rfl (by kernel_rfl) (p88_1 (k0 := H.ld1) (k1 := hc) (k2 := hne _ c64) (k3 := heq _ c127)), F1, rfl, R1⟩
  rw [if_neg c127]
  by_cases c126 : r.1 = 126
  ·rw [if_pos c126]
   exact ⟨h1, _, callF_of rfl rfl (by kernel_rfl) (p88_2 (k0 := H.ld1) (k1 := hc) (k2 := hne _ c64) (k3 := hne _ c127) (k4 := heq _ c126)), F1, rfl, R1⟩
  rw [if_neg c126]
  by_cases c125 : r.1 = 125
  ·obtain ⟨h2, f3, R2, F2⟩ := fail_R (m := m) R1 p 3 (z := (p : Int)) rfl
   have R2 : RdE L h2 bs (p, 3) := ⟨_, _, R2⟩
   rw [if_pos (.inl c125)]
   exact ⟨h2, _, callF_of rfl rfl (by kernel_rfl) (p88_3 (k0 := H.ld1) (k1 := hc) (k2 := hne _ c64) (k3 := hne _ c127) (k4 := hne _ c126) (k5 := heq _ c125) (k6 := f3) (k7 := fail_E (m := m) R2 _ _)), F1.trans F2, R2⟩
  by_cases c124 : r.1 = 124
  ·obtain ⟨h2, f3, R2, F2⟩ := fail_R (m := m) R1 p 3 (z := (p : Int)) rfl
   have R2 : RdE L h2 bs (p, 3) := ⟨_, _, R2⟩
   rw [if_pos (.inr c124)]
   exact ⟨h2, _, callF_of rfl rfl (by kernel_rfl) (p88_5 (k0 := H.ld1) (k1 := hc) (k2 := hne _ c64) (k3 := hne _ c127) (k4 := hne _ c126) (k5 := hne _ c125) (k6 := heq _ c124) (k7 := f3) (k8 := fail_E (m := m) R2 _ _)), F1.trans F2, R2⟩
  ·obtain ⟨h2, f2, R2, F2⟩ := fail_R (m := m) R1 p 2 (z := (p : Int)) rfl
   rw [if_neg (by omega)]
   exact ⟨h2, _, callF_of rfl rfl (by kernel_rfl) (p88_6 (k0 := H.ld1) (k1 := hc) (k2 := hne _ c64) (k3 := hne _ c127) (k4 := hne _ c126) (k5 := hne _ c125) (k6 := hne _ c124) (k7 := f2)), F1.trans F2, ⟨_, _, R2⟩⟩
theorem nums_E {e : PErr} (H : RdE L h bs e) (out : List Int) (k z : Int) : blk (cxZ m) 71 (at_ Tryz.prog 71 7) [.v (.ptr L 0), .v (.int .i64 k), .ow 1 (encN out), .v (.int .i64 z)] h = some (.v (.imm (encN out)), h) := by
 obtain ⟨p, n, H⟩ := H
 obtain ⟨a, h3, hq, _⟩ := H.ld3
 by_cases hz : z ≤ k
 ·exact p71_7_1 (k0 := leZ_t hz) (k1 := h3) (k2 := hq) (k3 := rfl)
 ·exact p71_7_2 (k0 := leZ_f (by omega))
theorem pNum_q {bs : List Nat} {p : Nat} {x : Int} {q : Nat} (h : pNum bs p = .ok (x, q)) : p < q ∧ q ≤ bs.length ∧ 0 ≤ x ∧ x < 4294967296 := by
 unfold pNum at h
 cases hd : digN bs 5 p with
 | none => rw [hd] at h; cases h
 | some r =>
  rw [hd] at h
  simp only at h
  split at h
  ·rename_i hv
   have e32 : (2 : Nat) ^ 32 = 4294967296 := by decide
   rw [e32] at hv
   obtain ⟨d1, d2, d3, d4, _⟩ := digN_ok 5 p (d := r.1) (q := r.2) hd
   cases h
   exact ⟨by omega, d4, by omega, by omega⟩
  ·cases h
theorem nums_R (hb : ∀ x, x ∈ bs → x < 256) (hl : bs.length < 2 ^ 61) {k : Nat} (hk : k < 64) : ∀ (j : Nat) {p : Nat} {z : Nat} {h : Heap} {out : List Int}, z + j = k + 1 → out.length = z → p ≤ bs.length → Rd L h bs (p : Int) n none →
  ∃ h' vs, blk (cxZ m) 71 (at_ Tryz.prog 71 7) [.v (.ptr L 0), .v (.int .i64 (k : Int)), .ow 1 (encN out), .v (.int .i64 (z : Int))] h = some (.v (.imm (encN vs)), h') ∧ Fr L h h' ∧ Res L h' bs n (pNums bs j p) (fun l => vs = out ++ l)
 | 0, p, z, h, out, hz, ho, hp, H => by
  refine ⟨h, out, p71_7_2 (k0 := leZ_f (by omega)), Fr.refl _ _, ?_⟩
  rw [pNums]
  exact ⟨(List.append_nil out).symm, H⟩
 | j + 1, p, z, h, out, hz, ho, hp, H => by
  obtain ⟨a, h3, hq, _⟩ := H.ld3
  obtain ⟨h1, v, hc, F1, R1⟩ := num_R (m := m) hb hl hp H
  have k5 : apL (.ow 1 (encN out)) 1 8 [[.int .i64 v]] = some (.ow 1 (encN (out ++ [v]))) := ap_int (by omega)
  have wz : IntKind.wrap .i64 ((z : Int) + Int.ofNat 1) = ((z + 1 : Nat) : Int) := by rw [ofN, wrapI (by unfold InZ; omega)]; omega
  have k0 : leZ (z : Int) (k : Int) = true := leZ_t (by omega)
  rw [pNums]
  cases hn : pNum bs p with
  | error e =>
   rw [hn] at R1
   have R1 : RdE L h1 bs e := R1
   exact ⟨h1, out ++ [v], p71_7_0 (k0 := k0) (k1 := h3) (k2 := hq) (k3 := rfl) (k4 := hc) (k5 := k5) (k6 := nums_E R1 _ _ _), F1, R1⟩
  | ok r =>
   obtain ⟨x, q⟩ := r
   rw [hn] at R1
   obtain ⟨hv, R1⟩ := R1
   have hv : v = x := hv
   subst hv
   obtain ⟨_, hq2, _⟩ := pNum_q hn
   obtain ⟨h2, vs, hc2, F2, R2⟩ := nums_R hb hl hk j (p := q) (z := z + 1) (out := out ++ [v]) (by omega) (by rw [List.length_append, List.length_singleton]; omega) hq2 R1
   refine ⟨h2, vs, p71_7_0 (k0 := k0) (k1 := h3) (k2 := hq) (k3 := rfl) (k4 := hc) (k5 := k5) (k6 := by rw [wz]; exact hc2), F1.trans F2, ?_⟩
   simp only
   cases hm : pNums bs j q with
   | error e => rw [hm] at R2; exact R2
   | ok s =>
    rw [hm] at R2
    exact ⟨R2.1.trans (by rw [List.append_assoc, List.singleton_append]), R2.2⟩
theorem labs_R (hb : ∀ x, x ∈ bs → x < 256) (hl : bs.length < 2 ^ 61) {p : Nat} (hp : p ≤ bs.length) (H : Rd L h bs (p : Int) n none) :
  ∃ h' vs, callF (cxZ m) (blk (cxZ m)) 71 [.v (.ptr L 0)] h = some (.v (.imm (encN vs)), h') ∧ Fr L h h' ∧ Res L h' bs n (pLabs bs p) (fun l => vs = l) := by
 obtain ⟨h1, v, hc, F1, R1⟩ := num_R (m := m) hb hl hp H
 unfold pLabs
 have nil : encN ([] : List Int) = [] := rfl
 cases hn : pNum bs p with
 | error e =>
  rw [hn] at R1
  have R1 : RdE L h1 bs e := R1
  have hf := fail_E (m := m) R1 (p : Int) (Int.ofNat 7)
  by_cases hv : 64 ≤ v
  ·exact ⟨h1, [], callF_of rfl rfl (by kernel_rfl) (p71_0 (k0 := H.ld1) (k1 := hc) (k2 := leZ_t (a := Int.ofNat 64) hv) (k3 := hf) (k4 := nums_E R1 [] _ _)), F1, R1⟩
  ·exact ⟨h1, [], callF_of rfl rfl (by kernel_rfl) (p71_1 (k0 := H.ld1) (k1 := hc) (k2 := leZ_f (a := Int.ofNat 64) (by rw [ofN]; omega)) (k3 := nums_E R1 [] _ _)), F1, R1⟩
 | ok r =>
  obtain ⟨x, q⟩ := r
  rw [hn] at R1
  obtain ⟨hv, R1⟩ := R1
  have hv : v = x := hv
  subst hv
  obtain ⟨_, hq2, hx0, _⟩ := pNum_q hn
  simp only
  by_cases h64 : 64 ≤ v
  ·obtain ⟨h2, hf, R2, F2⟩ := fail_R (m := m) R1 p 7 (z := (p : Int)) rfl
   have R2 : RdE L h2 bs (p, 7) := ⟨_, _, R2⟩
   rw [if_pos h64]
   exact ⟨h2, [], callF_of rfl rfl (by kernel_rfl) (p71_0 (k0 := H.ld1) (k1 := hc) (k2 := leZ_t (a := Int.ofNat 64) h64) (k3 := hf) (k4 := nums_E R2 [] _ _)), F1.trans F2, R2⟩
  ·rw [if_neg h64]
   have e : v = ((v.toNat : Nat) : Int) := by omega
   obtain ⟨h2, vs, hc2, F2, R2⟩ := nums_R (m := m) (k := v.toNat) hb hl (by omega) (v.toNat + 1) (p := q) (z := 0) (out := []) (by omega) rfl hq2 R1
   rw [← e] at hc2
   refine ⟨h2, vs, callF_of rfl rfl (by kernel_rfl) (p71_1 (k0 := H.ld1) (k1 := hc) (k2 := leZ_f (a := Int.ofNat 64) (by rw [ofN]; omega)) (k3 := hc2)), F1.trans F2, ?_⟩
   cases hm : pNums bs (v.toNat + 1) q with
   | error e => rw [hm] at R2; exact R2
   | ok s => rw [hm] at R2; exact R2
end
end Go.Proofs.YthcjapmfchidhaaGreatDoor
namespace Go.Proofs.YthcjapmfchidhaaGreatDoor
set_option maxRecDepth 100000
open Go Go.Proofs.Am
def pL (bs : List Nat) (f : Nat) : Nat → Nat → Nat → PL := pList opI floB bs f
section
variable {m : Int} {L : Nat} {h : Heap} {bs : List Nat}
theorem list_E {e : PErr} (H : RdE L h bs e) (out : List (List AV)) (d : Int) : blk (cxZ m) 23 (at_ Tryz.prog 23 2) [.v (.ptr L 0), .v (.int .i64 d), .ow 9 out] h = some (.tup [.imm [], .int .i64 (Int.ofNat 0)], h) := by
 obtain ⟨p, n, H⟩ := H
 obtain ⟨a, h3, hq, _⟩ := H.ld3
 exact p23_2_15 (k0 := h3) (k1 := hq) (k2 := rfl)
theorem listC_E {e : PErr} (H : RdE L h bs e) (d : Int) : callF (cxZ m) (blk (cxZ m)) 23 [.v (.ptr L 0), .v (.int .i64 d)] h = some (.tup [.imm [], .int .i64 (Int.ofNat 0)], h) :=
 callF_of rfl rfl (by kernel_rfl) (p23_0 (k0 := list_E H [] d))
def ResL (L : Nat) (h : Heap) (bs : List Nat) (out : List Ins) (r : PL) (vs : List Ins) (last : Int) : Prop :=
 match r with
 | .ok x => vs = out ++ x.1 ∧ last = (x.2.1 : Int) ∧ Rd L h bs (x.2.2.1 : Int) (x.2.2.2 : Int) none
 | .error e => RdE L h bs e
def ResI (L : Nat) (h : Heap) (bs : List Nat) (r : PI) (v : Ins) : Prop :=
 match r with
 | .ok x => v = x.1 ∧ Rd L h bs (x.2.1 : Int) (x.2.2 : Int) none
 | .error e => RdE L h bs e
def ListW (m : Int) (L : Nat) (bs : List Nat) (f : Nat) : Prop := ∀ ⦃d p n : Nat⦄ ⦃h : Heap⦄ ⦃out : List Ins⦄, p ≤ bs.length → bs.length < p + f → n ≤ 512 → out.length ≤ n → d ≤ 33 → Rd L h bs (p : Int) (n : Int) none →
 ∃ h' vs last, blk (cxZ m) 23 (at_ Tryz.prog 23 2) [.v (.ptr L 0), .v (.int .i64 (d : Int)), .ow 9 (encIs out)] h = some (.tup [.imm (encIs vs), .int .i64 last], h') ∧ Fr L h h' ∧ ResL L h' bs out (pL bs f d p n) vs last
theorem listC {f : Nat} (W : ListW m L bs f) {d p n : Nat} (hp : p ≤ bs.length) (hf : bs.length < p + f) (hn : n ≤ 512) (hd : d ≤ 33) (H : Rd L h bs (p : Int) (n : Int) none) :
  ∃ h' vs last, callF (cxZ m) (blk (cxZ m)) 23 [.v (.ptr L 0), .v (.int .i64 (d : Int))] h = some (.tup [.imm (encIs vs), .int .i64 last], h') ∧ Fr L h h' ∧ ResL L h' bs [] (pL bs f d p n) vs last := by
 obtain ⟨h', vs, last, hc, F, R⟩ := W (out := []) hp hf hn (Nat.zero_le _) hd H
 exact ⟨h', vs, last, callF_of rfl rfl (by kernel_rfl) (p23_0 (k0 := hc)), F, R⟩
theorem list_q {f d p n : Nat} {xs : List Ins} {l q n' : Nat} (hp : p ≤ bs.length) (h : pL bs f d p n = .ok (xs, l, q, n')) : ListOk opI bs d p n xs l q n' := list_ok opLaw f hp h
theorem block_R (hb : ∀ x, x ∈ bs → x < 256) (hl : bs.length < 2 ^ 61) {f : Nat} (W : ListW m L bs f) {o : Int} {r : OpR} {d p n : Nat} (h2 : r.kind = 2) (_hp : p ≤ bs.length) (hf : bs.length < p + f) (hn : n ≤ 512) (hd : d < 32) (H : Rd L h bs (p : Int) (n : Int) none) :
  ∃ h' v, callF (cxZ m) (blk (cxZ m)) 67 [.v (.ptr L 0), .v (.agg (encI (.mk o 0 0 0 0 [] [] [] false))), .v (.int .i64 ((d + 1 : Nat) : Int))] h = some (.v (.agg (encI v)), h') ∧ Fr L h h' ∧ ResI L h' bs (pIns bs (pL bs f) d r o p n) v := by
 obtain ⟨h1, t, hc1, F1, R1⟩ := res_R (m := m) hb hl H
 unfold pIns
 rw [if_pos h2]
 have nil : (AV.imm [] : AV) = .imm (encIs []) := rfl
 cases hr : pRes bs p with
 | error e =>
  rw [hr] at R1
  have R1 : RdE L h1 bs e := R1
  have hc2 := listC_E (m := m) R1 ((d + 1 : Nat) : Int)
  exact ⟨h1, .mk o 0 0 0 t [] [] [] false, callF_of rfl rfl (by kernel_rfl) (p67_4 (k0 := hc1) (k1 := hc2) (k2 := rfl)), F1, R1⟩
 | ok x =>
  rw [hr] at R1
  obtain ⟨ht, R1⟩ := R1
  obtain ⟨a1, a2, _, _⟩ := pRes_ok (t := x.1) (q := x.2) hr
  obtain ⟨h2', vs, last, hc2, F2, R2⟩ := listC W (d := d + 1) a2 (by omega) hn (by omega) R1
  simp only
  cases hL : pL bs f (d + 1) x.2 n with
  | error e =>
   rw [hL] at R2
   have R2 : RdE L h2' bs e := R2
   by_cases h5 : last = 5
   ·
    have hf2 := fail_E (m := m) R2
    have hc3 := listC_E (m := m) R2 ((d + 1 : Nat) : Int)
    obtain ⟨p', n', R3⟩ := R2
    by_cases h4 : o = 4
    ·exact ⟨h2', .mk o 0 0 0 t [] vs [] true, callF_of rfl rfl (by kernel_rfl) (p67_3 (k0 := hc1) (k1 := hc2) (k2 := eqZ_t (b := Int.ofNat 5) h5) (k3 := congrArg not (eqZ_t (b := Int.ofNat 4) h4)) (k4 := hc3) (k5 := rfl)), F1.trans F2, ⟨p', n', R3⟩⟩
    ·exact ⟨h2', .mk o 0 0 0 t [] vs [] true, callF_of rfl rfl (by kernel_rfl) (p67_1 (k0 := hc1) (k1 := hc2) (k2 := eqZ_t (b := Int.ofNat 5) h5) (k3 := congrArg not (eqZ_f (b := Int.ofNat 4) h4)) (k4 := R3.ld1) (k5 := hf2 _ _) (k6 := hc3) (k7 := rfl)), F1.trans F2, ⟨p', n', R3⟩⟩
   ·exact ⟨h2', .mk o 0 0 0 t [] vs [] false, callF_of rfl rfl (by kernel_rfl) (p67_4 (k0 := hc1) (k1 := hc2) (k2 := eqZ_f (b := Int.ofNat 5) h5)), F1.trans F2, R2⟩
  | ok y =>
   obtain ⟨bd, l, p2, n2⟩ := y
   have B := list_q a2 hL
   rw [hL] at R2
   obtain ⟨e1, e2, R2⟩ := R2
   have e1 : vs = bd := e1
   have e2 : last = (l : Int) := e2
   subst e1
   subst e2
   have ht' : t = x.1 := ht
   subst ht'
   have R2 : Rd L h2' bs (p2 : Int) (n2 : Int) none := R2
   simp only
   by_cases h5 : l = 5
   ·rw [if_pos h5]
    have k2 : eqZ (l : Int) (Int.ofNat 5) = true := eqZ_t (by rw [h5]; rfl)
    by_cases h4 : o = 4
    ·rw [if_pos h4]
     have sz := B.sz
     obtain ⟨h3, vs2, last2, hc3, F3, R3⟩ := listC W (d := d + 1) B.qb (by omega) (B.n5 hn) (by omega) R2
     have k3 : (!eqZ o (Int.ofNat 4)) = false := congrArg not (eqZ_t (b := Int.ofNat 4) h4)
     cases hL2 : pL bs f (d + 1) p2 n2 with
     | error e =>
      rw [hL2] at R3
      have R3 : RdE L h3 bs e := R3
      by_cases h55 : last2 = 5
      ·have hf2 := fail_E (m := m) R3
       obtain ⟨p', n', R4⟩ := R3
       exact ⟨h3, .mk o 0 0 0 x.1 [] vs vs2 true, callF_of rfl rfl (by kernel_rfl) (p67_2 (k0 := hc1) (k1 := hc2) (k2 := k2) (k3 := k3) (k4 := hc3) (k5 := eqZ_t (b := Int.ofNat 5) h55) (k6 := R4.ld1) (k7 := hf2 _ _)), (F1.trans F2).trans F3, ⟨p', n', R4⟩⟩
      ·exact ⟨h3, .mk o 0 0 0 x.1 [] vs vs2 true, callF_of rfl rfl (by kernel_rfl) (p67_3 (k0 := hc1) (k1 := hc2) (k2 := k2) (k3 := k3) (k4 := hc3) (k5 := eqZ_f (b := Int.ofNat 5) h55)), (F1.trans F2).trans F3, R3⟩
     | ok z =>
      obtain ⟨el, l2, p3, n3⟩ := z
      have E := list_q B.qb hL2
      have sz2 := E.sz
      rw [hL2] at R3
      obtain ⟨e1, e2, R3⟩ := R3
      have e1 : vs2 = el := e1
      have e2 : last2 = (l2 : Int) := e2
      subst e1
      subst e2
      have R3 : Rd L h3 bs (p3 : Int) (n3 : Int) none := R3
      simp only
      by_cases h55 : l2 = 5
      ·rw [if_pos h55]
       obtain ⟨h4', hf2, R4, F4⟩ := fail_R (m := m) R3 (p3 - 1) 2 (z := IntKind.wrap .i64 ((p3 : Int) - Int.ofNat 1)) (by rw [ofN, wrapI (by have := E.qb; unfold InZ; omega)]; omega)
       exact ⟨h4', .mk o 0 0 0 x.1 [] vs vs2 true, callF_of rfl rfl (by kernel_rfl) (p67_2 (k0 := hc1) (k1 := hc2) (k2 := k2) (k3 := k3) (k4 := hc3) (k5 := eqZ_t (b := Int.ofNat 5) (by rw [h55]; rfl)) (k6 := R3.ld1) (k7 := hf2)), ((F1.trans F2).trans F3).trans F4, ⟨_, _, R4⟩⟩
      ·rw [if_neg h55]
       exact ⟨h3, .mk o 0 0 0 x.1 [] vs vs2 true, callF_of rfl rfl (by kernel_rfl) (p67_3 (k0 := hc1) (k1 := hc2) (k2 := k2) (k3 := k3) (k4 := hc3) (k5 := eqZ_f (b := Int.ofNat 5) (by rw [ofN]; omega))), (F1.trans F2).trans F3, rfl, R3⟩
    ·rw [if_neg h4]
     have sz := B.sz
     obtain ⟨h4', hf2, R4, F4⟩ := fail_R (m := m) R2 (p2 - 1) 2 (z := IntKind.wrap .i64 ((p2 : Int) - Int.ofNat 1)) (by rw [ofN, wrapI (by have := B.qb; unfold InZ; omega)]; omega)
     have R4 : RdE L h4' bs (p2 - 1, 2) := ⟨_, _, R4⟩
     have hc3 := listC_E (m := m) R4 ((d + 1 : Nat) : Int)
     exact ⟨h4', .mk o 0 0 0 x.1 [] vs [] true, callF_of rfl rfl (by kernel_rfl) (p67_1 (k0 := hc1) (k1 := hc2) (k2 := k2) (k3 := congrArg not (eqZ_f (b := Int.ofNat 4) h4)) (k4 := R2.ld1) (k5 := hf2) (k6 := hc3) (k7 := rfl)), (F1.trans F2).trans F4, R4⟩
   ·rw [if_neg h5]
    exact ⟨h2', .mk o 0 0 0 x.1 [] vs [] false, callF_of rfl rfl (by kernel_rfl) (p67_4 (k0 := hc1) (k1 := hc2) (k2 := eqZ_f (b := Int.ofNat 5) (by rw [ofN]; omega))), F1.trans F2, rfl, R2⟩
theorem fields_R (hb : ∀ x, x ∈ bs → x < 256) (hl : bs.length < 2 ^ 61) {f : Nat} (W : ListW m L bs f) {o : Int} {r : OpR} {d p n : Nat} (hop : opI o = some r) (hp : p ≤ bs.length) (hf : bs.length < p + f) (hn : n ≤ 512) (hd : r.kind = 2 → d < 32) (hd33 : d ≤ 33) (H : Rd L h bs (p : Int) (n : Int) none) :
  ∃ h' v, callF (cxZ m) (blk (cxZ m)) 42 [.v (.ptr L 0), .v (opA o r.nm r.kind (encN r.takes) r.gives r.bytes r.sg), .v (.int .i64 (d : Int))] h = some (.v (.agg (encI v)), h') ∧ Fr L h h' ∧ ResI L h' bs (pIns bs (pL bs f) d r o p n) v := by
 have f3 := opLaw.k3 hop
 have f4 := opLaw.k4 hop
 have f10 := opLaw.k10 hop
 have g10 := opLaw.g10 hop
 by_cases h2 : r.kind = 2
 ·obtain ⟨h1, v, hc, F, R⟩ := block_R hb hl W (o := o) h2 hp hf hn (hd h2) H
  have wd : IntKind.wrap .i64 ((d : Int) + Int.ofNat 1) = ((d + 1 : Nat) : Int) := by rw [ofN, wrapI (by unfold InZ; omega)]; omega
  obtain ⟨o', a, b, v', t, l, bd, el, q⟩ := v
  exact ⟨h1, _, callF_of rfl rfl (by kernel_rfl) (p42_0 (k0 := eqZ_t (b := Int.ofNat 2) h2) (k1 := by rw [wd]; exact hc)), F, R⟩
 have n2 := eqZ_f (a := r.kind) (b := Int.ofNat 2) h2
 unfold pIns
 rw [if_neg h2]
 unfold pPlain
 by_cases h78 : r.kind = 7 ∨ r.kind = 8
 ·rw [if_pos h78]
  obtain ⟨h1, a, hc1, F1, R1⟩ := num_R (m := m) hb hl hp H
  unfold pNum2
  cases hn1 : pNum bs p with
  | error e =>
   rw [hn1] at R1
   have R1 : RdE L h1 bs e := R1
   have hc2 := num_E (m := m) R1
   by_cases h7 : r.kind = 7
   ·exact ⟨h1, .mk o a 0 0 0 [] [] [] false, callF_of rfl rfl (by kernel_rfl) (p42_1 (k0 := n2) (k1 := eqZ_t (b := Int.ofNat 7) h7) (k2 := hc1) (k3 := hc2)), F1, R1⟩
   ·exact ⟨h1, .mk o a 0 0 0 [] [] [] false, callF_of rfl rfl (by kernel_rfl) (p42_2 (k0 := n2) (k1 := eqZ_f (b := Int.ofNat 7) h7) (k2 := eqZ_t (b := Int.ofNat 8) (show r.kind = 8 from by omega)) (k3 := hc1) (k4 := hc2)), F1, R1⟩
  | ok x =>
   rw [hn1] at R1
   obtain ⟨e1, R1⟩ := R1
   obtain ⟨_, _, q1, _⟩ := pNum_ok (x := x.1) (q := x.2) hn1
   obtain ⟨h2', b, hc2, F2, R2⟩ := num_R (m := m) hb hl q1 R1
   dsimp only
   by_cases h7 : r.kind = 7
   ·exact ⟨h2', .mk o a b 0 0 [] [] [] false, callF_of rfl rfl (by kernel_rfl) (p42_1 (k0 := n2) (k1 := eqZ_t (b := Int.ofNat 7) h7) (k2 := hc1) (k3 := hc2)), F1.trans F2, by
    cases hn2 : pNum bs x.2 with
    | error e => rw [hn2] at R2; exact R2
    | ok y =>
     rw [hn2] at R2
     have e1 : a = x.1 := e1
     have e2 : b = y.1 := R2.1
     subst e1; subst e2
     exact ⟨rfl, R2.2⟩⟩
   ·exact ⟨h2', .mk o a b 0 0 [] [] [] false, callF_of rfl rfl (by kernel_rfl) (p42_2 (k0 := n2) (k1 := eqZ_f (b := Int.ofNat 7) h7) (k2 := eqZ_t (b := Int.ofNat 8) (show r.kind = 8 from by omega)) (k3 := hc1) (k4 := hc2)), F1.trans F2, by
    cases hn2 : pNum bs x.2 with
    | error e => rw [hn2] at R2; exact R2
    | ok y =>
     rw [hn2] at R2
     have e1 : a = x.1 := e1
     have e2 : b = y.1 := R2.1
     subst e1; subst e2
     exact ⟨rfl, R2.2⟩⟩
 rw [if_neg h78]
 have n7 := eqZ_f (a := r.kind) (b := Int.ofNat 7) (fun hh => h78 (.inl hh))
 have n8 := eqZ_f (a := r.kind) (b := Int.ofNat 8) (fun hh => h78 (.inr hh))
 by_cases h9 : r.kind = 9
 ·rw [if_pos h9]
  obtain ⟨h1, hc1, F1, R1⟩ := must_R (m := m) hb hl H
  refine ⟨h1, .mk o 0 0 0 0 [] [] [] false, callF_of rfl rfl (by kernel_rfl) (p42_3 (k0 := n2) (k1 := n7) (k2 := n8) (k3 := eqZ_t (b := Int.ofNat 9) h9) (k4 := hc1)), F1, by
   revert R1
   cases pMust bs 0 p with
   | error e => exact fun R => R
   | ok s => exact fun R => ⟨rfl, R.2⟩⟩
 rw [if_neg h9]
 have n9 := eqZ_f (a := r.kind) (b := Int.ofNat 9) h9
 by_cases h65 : o = 65
 ·have hk : r.kind = 10 := f10.2 (.inl h65)
  rw [if_pos h65]
  obtain ⟨h1, v, hc1, F1, R1⟩ := con_R (m := m) hb hl hp H (t := r.gives) (w := false) ⟨fun _ => (g10 hk).2 h65, fun _ => rfl⟩
  exact ⟨h1, .mk o 0 0 v 0 [] [] [] false, callF_of rfl rfl (by kernel_rfl) (p42_4 (k0 := n2) (k1 := n7) (k2 := n8) (k3 := n9) (k4 := eqZ_t (b := Int.ofNat 10) hk) (k5 := hc1)), F1, by
   revert R1
   cases pCon bs false p with
   | error e => exact fun R => R
   | ok s => exact fun R => ⟨by rw [show v = s.1 from R.1], R.2⟩⟩
 rw [if_neg h65]
 by_cases h66 : o = 66
 ·have hk : r.kind = 10 := f10.2 (.inr h66)
  rw [if_pos h66]
  obtain ⟨h1, v, hc1, F1, R1⟩ := con_R (m := m) hb hl hp H (t := r.gives) (w := true) ⟨fun hh => (by cases hh), fun hh => absurd ((g10 hk).1 hh) h65⟩
  exact ⟨h1, .mk o 0 0 v 0 [] [] [] false, callF_of rfl rfl (by kernel_rfl) (p42_4 (k0 := n2) (k1 := n7) (k2 := n8) (k3 := n9) (k4 := eqZ_t (b := Int.ofNat 10) hk) (k5 := hc1)), F1, by
   revert R1
   cases pCon bs true p with
   | error e => exact fun R => R
   | ok s => exact fun R => ⟨by rw [show v = s.1 from R.1], R.2⟩⟩
 rw [if_neg h66]
 have hk10 : r.kind ≠ 10 := fun hh => by rcases f10.1 hh with e | e <;> omega
 have n10 := eqZ_f (a := r.kind) (b := Int.ofNat 10) hk10
 by_cases h14 : o = 14
 ·rw [if_pos h14]
  obtain ⟨h1, v, hc1, F1, R1⟩ := labs_R (m := m) hb hl hp H
  exact ⟨h1, .mk o 0 0 0 0 v [] [] false, callF_of rfl rfl (by kernel_rfl) (p42_5 (k0 := n2) (k1 := n7) (k2 := n8) (k3 := n9) (k4 := n10) (k5 := eqZ_t (b := Int.ofNat 14) h14) (k6 := hc1)), F1, by
   revert R1
   cases pLabs bs p with
   | error e => exact fun R => R
   | ok s => exact fun R => ⟨by rw [show v = s.1 from R.1], R.2⟩⟩
 rw [if_neg h14]
 have n14 := eqZ_f (a := o) (b := Int.ofNat 14) h14
 by_cases h17 : o = 17
 ·rw [if_pos h17]
  obtain ⟨h1, a, hc1, F1, R1⟩ := num_R (m := m) hb hl hp H
  cases hn1 : pNum bs p with
  | error e =>
   rw [hn1] at R1
   have R1 : RdE L h1 bs e := R1
   exact ⟨h1, .mk o a 0 0 0 [] [] [] false, callF_of rfl rfl (by kernel_rfl) (p42_6 (k0 := n2) (k1 := n7) (k2 := n8) (k3 := n9) (k4 := n10) (k5 := n14) (k6 := eqZ_t (b := Int.ofNat 17) h17) (k7 := hc1) (k8 := must_E R1)), F1, R1⟩
  | ok x =>
   rw [hn1] at R1
   obtain ⟨e1, R1⟩ := R1
   have e1 : a = x.1 := e1
   subst e1
   obtain ⟨h2', hc2, F2, R2⟩ := must_R (m := m) hb hl R1
   dsimp only
   refine ⟨h2', .mk o x.1 0 0 0 [] [] [] false, callF_of rfl rfl (by kernel_rfl) (p42_6 (k0 := n2) (k1 := n7) (k2 := n8) (k3 := n9) (k4 := n10) (k5 := n14) (k6 := eqZ_t (b := Int.ofNat 17) h17) (k7 := hc1) (k8 := hc2)), F1.trans F2, by
    revert R2
    cases pMust bs 0 x.2 with
    | error e => exact fun R => R
    | ok s => exact fun R => ⟨rfl, R.2⟩⟩
 rw [if_neg h17]
 have n17 := eqZ_f (a := o) (b := Int.ofNat 17) h17
 by_cases hc : r.kind = 4 ∨ r.kind = 6 ∨ o = 12 ∨ o = 13
 ·rw [if_pos hc]
  obtain ⟨h1, a, hc1, F1, R1⟩ := num_R (m := m) hb hl hp H
  by_cases c4 : r.kind = 4
  ·exact ⟨h1, .mk o a 0 0 0 [] [] [] false, callF_of rfl rfl (by kernel_rfl) (p42_7 (k0 := n2) (k1 := n7) (k2 := n8) (k3 := n9) (k4 := n10) (k5 := n14) (k6 := n17) (k7 := eqZ_t (b := Int.ofNat 4) c4) (k8 := hc1)), F1, by
   revert R1
   cases pNum bs p with
   | error e => exact fun R => R
   | ok s => exact fun R => ⟨by rw [show a = s.1 from R.1], R.2⟩⟩
  have n4 := eqZ_f (a := r.kind) (b := Int.ofNat 4) c4
  by_cases c6 : r.kind = 6
  ·exact ⟨h1, .mk o a 0 0 0 [] [] [] false, callF_of rfl rfl (by kernel_rfl) (p42_8 (k0 := n2) (k1 := n7) (k2 := n8) (k3 := n9) (k4 := n10) (k5 := n14) (k6 := n17) (k7 := n4) (k8 := eqZ_t (b := Int.ofNat 6) c6) (k9 := hc1)), F1, by
   revert R1
   cases pNum bs p with
   | error e => exact fun R => R
   | ok s => exact fun R => ⟨by rw [show a = s.1 from R.1], R.2⟩⟩
  have n6 := eqZ_f (a := r.kind) (b := Int.ofNat 6) c6
  by_cases c12 : o = 12
  ·exact ⟨h1, .mk o a 0 0 0 [] [] [] false, callF_of rfl rfl (by kernel_rfl) (p42_9 (k0 := n2) (k1 := n7) (k2 := n8) (k3 := n9) (k4 := n10) (k5 := n14) (k6 := n17) (k7 := n4) (k8 := n6) (k9 := eqZ_t (b := Int.ofNat 12) c12) (k10 := hc1)), F1, by
   revert R1
   cases pNum bs p with
   | error e => exact fun R => R
   | ok s => exact fun R => ⟨by rw [show a = s.1 from R.1], R.2⟩⟩
  ·exact ⟨h1, .mk o a 0 0 0 [] [] [] false, callF_of rfl rfl (by kernel_rfl) (p42_10 (k0 := n2) (k1 := n7) (k2 := n8) (k3 := n9) (k4 := n10) (k5 := n14) (k6 := n17) (k7 := n4) (k8 := n6) (k9 := eqZ_f (b := Int.ofNat 12) c12) (k10 := eqZ_t (b := Int.ofNat 13) (show o = 13 from by omega)) (k11 := hc1)), F1, by
   revert R1
   cases pNum bs p with
   | error e => exact fun R => R
   | ok s => exact fun R => ⟨by rw [show a = s.1 from R.1], R.2⟩⟩
 ·rw [if_neg hc]
  exact ⟨h, .mk o 0 0 0 0 [] [] [] false, callF_of rfl rfl (by kernel_rfl) (p42_11 (k0 := n2) (k1 := n7) (k2 := n8) (k3 := n9) (k4 := n10) (k5 := n14) (k6 := n17) (k7 := eqZ_f (b := Int.ofNat 4) (fun hh => hc (.inl hh))) (k8 := eqZ_f (b := Int.ofNat 6) (fun hh => hc (.inr (.inl hh)))) (k9 := eqZ_f (b := Int.ofNat 12) (fun hh => hc (.inr (.inr (.inl hh))))) (k10 := eqZ_f (b := Int.ofNat 13) (fun hh => hc (.inr (.inr (.inr hh)))))), Fr.refl _ _, rfl, H⟩
end
end Go.Proofs.YthcjapmfchidhaaGreatDoor
namespace Go.Proofs.YthcjapmfchidhaaGreatDoor
set_option maxRecDepth 100000
open Go Go.Proofs.Am
section
variable {m : Int} {L : Nat} {h : Heap} {bs : List Nat}
theorem is_num30 (c : Int) : callF (cxZ m) (blk (cxZ m)) 30 [.v (.ifc 32 (.int .i64 c)), .v (.ifc 32 (.int .i64 (Int.ofNat 3)))] h = some (.v (.bool (c == 3)), h) := callF_ext (e := isE) rfl rfl rfl
theorem is_nil30 : callF (cxZ m) (blk (cxZ m)) 30 [.v .nilI, .v (.ifc 32 (.int .i64 (Int.ofNat 3)))] h = some (.v (.bool false), h) := callF_ext (e := isE) rfl rfl rfl
theorem ap_ins {out : List Ins} (h : out.length ≤ 100000) (x : Ins) : apL (.ow 9 (encIs out)) 9 120 [encI x] = some (.ow 9 (encIs (out ++ [x]))) := by
 have := ap_owned (n := 9) (b := 120) (out := encIs out) (ys := [encI x]) (fit_one (encI_len x)) (by rw [encIs_len]; simp only [List.length_singleton]; omega) (by decide)
 rw [this, encIs_map, encIs_map, List.map_append]
 rfl
theorem plain_code {bs : List Nat} {r : OpR} {o : Int} {p : Nat} {x : Ins} {q : Nat} (h : pPlain bs r o p = .ok (x, q)) : ∃ a b v t l bd el qq, x = .mk o a b v t l bd el qq := by
 unfold pPlain at h
 repeat' split at h
 all_goals first | (cases h; exact ⟨_, _, _, _, _, _, _, _, rfl⟩) | cases h
theorem ins_code {bs : List Nat} {rec : Nat → Nat → Nat → PL} {d : Nat} {r : OpR} {o : Int} {p n : Nat} {x : Ins} {q n' : Nat} (h : pIns bs rec d r o p n = .ok (x, q, n')) : ∃ a b v t l bd el qq, x = .mk o a b v t l bd el qq := by
 unfold pIns at h
 split at h
 ·repeat' split at h
  all_goals first | (cases h; exact ⟨_, _, _, _, _, _, _, _, rfl⟩) | cases h
 ·split at h
  ·cases h
  ·rename_i s hs
   obtain ⟨y, q'⟩ := s
   have := plain_code hs
   cases h
   exact this
theorem ins_adv {f d p n : Nat} {r : OpR} {o : Int} {x : Ins} {q n' : Nat} (hop : opI o = some r) (hp : p < bs.length) (hd : r.kind = 2 → d < 32) (h : pIns bs (pList opI floB bs f) d r o (p + 1) (n + 1) = .ok (x, q, n')) : p < q := by
 have I := ins_ok opLaw hop (show p + 1 ≤ bs.length by omega) hd (fun {d p n xs l q n'} hp hr => list_q (f := f) hp hr) h
 obtain ⟨a, b, v, t, l, bd, el, qq, rfl⟩ := ins_code h
 have := I.sz
 rw [insB, hop] at this
 simp only [List.length_cons] at this
 omega
theorem list_step (hb : ∀ x, x ∈ bs → x < 256) (hl : bs.length < 2 ^ 61) {f : Nat} (W : ListW m L bs f) : ListW m L bs (f + 1) := by
 intro d p n h out hp hf hn ho hd H
 obtain ⟨a, h3, hq, _⟩ := H.ld3
 obtain ⟨h0, v, hc, F0, R0⟩ := byte_R (m := m) hb hl H
 unfold pL pByte at *
 rw [pList]
 cases hx : bs[p]? with
 | none =>
  rw [hx] at R0
  have R0 : RdE L h0 bs (bs.length, 2) := R0
  obtain ⟨p', n', R1⟩ := R0
  obtain ⟨a', h3', _, hq'⟩ := R1.ld3
  exact ⟨h0, out, v, p23_2_0 (k0 := h3) (k1 := hq) (k2 := rfl) (k3 := H.ld1) (k4 := hc) (k5 := h3') (k6 := hq') (k7 := rfl), F0, ⟨p', n', R1⟩⟩
 | some x =>
 rw [hx] at R0
 obtain ⟨hv, R0⟩ := R0
 have hv : v = (x : Int) := hv
 subst hv
 have R0 : Rd L h0 bs ((p + 1 : Nat) : Int) (n : Int) none := R0
 have hlt := (List.getElem?_eq_some_iff.1 hx).1
 obtain ⟨a1, h31, _, hq1⟩ := R0.ld3
 simp only
 by_cases h11 : x = 11
 ·rw [if_pos (.inl h11)]
  exact ⟨h0, out, (x : Int), p23_2_1 (k0 := h3) (k1 := hq) (k2 := rfl) (k3 := H.ld1) (k4 := hc) (k5 := h31) (k6 := hq1) (k7 := rfl) (k8 := eqZ_t (b := Int.ofNat 11) (by rw [h11]; rfl)), F0, (List.append_nil out).symm, rfl, R0⟩
 have n11 : eqZ (x : Int) (Int.ofNat 11) = false := eqZ_f (by rw [ofN]; omega)
 by_cases h5 : x = 5
 ·rw [if_pos (.inr h5)]
  exact ⟨h0, out, (x : Int), p23_2_2 (k0 := h3) (k1 := hq) (k2 := rfl) (k3 := H.ld1) (k4 := hc) (k5 := h31) (k6 := hq1) (k7 := rfl) (k8 := n11) (k9 := eqZ_t (b := Int.ofNat 5) (by rw [h5]; rfl)), F0, (List.append_nil out).symm, rfl, R0⟩
 have n5 : eqZ (x : Int) (Int.ofNat 5) = false := eqZ_f (by rw [ofN]; omega)
 rw [if_neg (by omega)]
 have wn : IntKind.wrap .i64 ((n : Int) + Int.ofNat 1) = ((n + 1 : Nat) : Int) := by rw [ofN, wrapI (by unfold InZ; omega)]; omega
 cases hop : opI (x : Int) with
 | none =>
  obtain ⟨ob, nm, k, tk, gv, bz, sg, c, hlk, hfl⟩ := op_none hop
  have hlk0 : (lookV (x : Int), h0) = (LV.tup [opA ob nm k tk gv bz sg, .ifc 32 (.int .i64 c)], h0) := by rw [hlk]
  simp only
  by_cases c3 : c = 3
  ·rw [if_pos (hfl.1 c3)]
   obtain ⟨h1, hfc, R1, F1⟩ := fail_R (m := m) R0 p 3 (z := (p : Int)) rfl
   obtain ⟨h2, hs, R2, F2⟩ := R1.set2 (IntKind.wrap .i64 ((n : Int) + Int.ofNat 1))
   obtain ⟨a2, h32, hq2, _⟩ := R2.ld3
   have R2 : RdE L h2 bs (p, 3) := ⟨_, _, R2⟩
   exact ⟨h2, [], _, p23_2_4 (k0 := h3) (k1 := hq) (k2 := rfl) (k3 := H.ld1) (k4 := hc) (k5 := h31) (k6 := hq1) (k7 := rfl) (k8 := n11) (k9 := n5) (k10 := hlk0) (k11 := is_num30 c) (k12 := by rw [c3]; rfl) (k13 := hfc) (k14 := R1.ld2) (k15 := hs) (k16 := h32) (k17 := hq2) (k18 := rfl) (k19 := list_E R2 _ _), (F0.trans F1).trans F2, R2⟩
  ·rw [if_neg (fun hh => c3 (hfl.2 hh))]
   obtain ⟨h1, hfc, R1, F1⟩ := fail_R (m := m) R0 p 2 (z := (p : Int)) rfl
   obtain ⟨h2, hs, R2, F2⟩ := R1.set2 (IntKind.wrap .i64 ((n : Int) + Int.ofNat 1))
   obtain ⟨a2, h32, hq2, _⟩ := R2.ld3
   have R2 : RdE L h2 bs (p, 2) := ⟨_, _, R2⟩
   exact ⟨h2, [], _, p23_2_6 (k0 := h3) (k1 := hq) (k2 := rfl) (k3 := H.ld1) (k4 := hc) (k5 := h31) (k6 := hq1) (k7 := rfl) (k8 := n11) (k9 := n5) (k10 := hlk0) (k11 := is_num30 c) (k12 := by simp [c3]) (k13 := err_neq (some c)) (k14 := rfl) (k15 := hfc) (k16 := R1.ld2) (k17 := hs) (k18 := h32) (k19 := hq2) (k20 := rfl) (k21 := list_E R2 _ _), (F0.trans F1).trans F2, R2⟩
 | some r =>
  have hlk := op_some hop
  have hlk0 : (lookV (x : Int), h0) = (LV.tup [opA (x : Int) r.nm r.kind (encN r.takes) r.gives r.bytes r.sg, .nilI], h0) := by rw [hlk]
  simp only
  by_cases hbig : 512 ≤ n
  ·rw [if_pos (.inl hbig)]
   obtain ⟨h1, hfc, R1, F1⟩ := fail_R (m := m) R0 p 7 (z := (p : Int)) rfl
   obtain ⟨h2, hs, R2, F2⟩ := R1.set2 (IntKind.wrap .i64 ((n : Int) + Int.ofNat 1))
   obtain ⟨a2, h32, hq2, _⟩ := R2.ld3
   have R2 : RdE L h2 bs (p, 7) := ⟨_, _, R2⟩
   exact ⟨h2, [], _, p23_2_8 (k0 := h3) (k1 := hq) (k2 := rfl) (k3 := H.ld1) (k4 := hc) (k5 := h31) (k6 := hq1) (k7 := rfl) (k8 := n11) (k9 := n5) (k10 := hlk0) (k11 := is_nil30) (k12 := rfl) (k13 := err_neq none) (k14 := rfl) (k15 := R0.ld2) (k16 := leZ_t (a := Int.ofNat 512) (by rw [ofN]; omega)) (k17 := hfc) (k18 := R1.ld2) (k19 := hs) (k20 := h32) (k21 := hq2) (k22 := rfl) (k23 := list_E R2 _ _), (F0.trans F1).trans F2, R2⟩
  have n512 : leZ (Int.ofNat 512) (n : Int) = false := leZ_f (by rw [ofN]; omega)
  by_cases hdp : r.kind = 2 ∧ 32 ≤ d
  ·rw [if_pos (.inr hdp)]
   obtain ⟨h1, hfc, R1, F1⟩ := fail_R (m := m) R0 p 7 (z := (p : Int)) rfl
   obtain ⟨h2, hs, R2, F2⟩ := R1.set2 (IntKind.wrap .i64 ((n : Int) + Int.ofNat 1))
   obtain ⟨a2, h32, hq2, _⟩ := R2.ld3
   have R2 : RdE L h2 bs (p, 7) := ⟨_, _, R2⟩
   exact ⟨h2, [], _, p23_2_10 (k0 := h3) (k1 := hq) (k2 := rfl) (k3 := H.ld1) (k4 := hc) (k5 := h31) (k6 := hq1) (k7 := rfl) (k8 := n11) (k9 := n5) (k10 := hlk0) (k11 := is_nil30) (k12 := rfl) (k13 := err_neq none) (k14 := rfl) (k15 := R0.ld2) (k16 := n512) (k17 := eqZ_t (b := Int.ofNat 2) hdp.1) (k18 := leZ_t (a := Int.ofNat 32) (by rw [ofN]; omega)) (k19 := hfc) (k20 := R1.ld2) (k21 := hs) (k22 := h32) (k23 := hq2) (k24 := rfl) (k25 := list_E R2 _ _), (F0.trans F1).trans F2, R2⟩
  rw [if_neg (by omega)]
  obtain ⟨h2, hs, R2, F2⟩ := R0.set2 (IntKind.wrap .i64 ((n : Int) + Int.ofNat 1))
  obtain ⟨a2, h32, hq2, _⟩ := R2.ld3
  rw [wn] at R2
  obtain ⟨h4, i, hfi, F4, R4⟩ := fields_R (m := m) hb hl W hop hlt (by omega) (by omega) (fun hk => by omega) hd R2
  unfold pL at R4
  have hap := ap_ins (out := out) (by omega) i
  have key : ∃ h' vs last, blk (cxZ m) 23 (at_ Tryz.prog 23 2) [.v (.ptr L 0), .v (.int .i64 (d : Int)), .ow 9 (encIs (out ++ [i]))] h4 = some (.tup [.imm (encIs vs), .int .i64 last], h') ∧ Fr L h4 h' ∧
    ResL L h' bs out (match pIns bs (pList opI floB bs f) d r (x : Int) (p + 1) (n + 1) with | .error e => .error e | .ok (i, p2, n2) => match pList opI floB bs f d p2 n2 with | .error e => .error e | .ok (is, last, p3, n3) => .ok (i :: is, last, p3, n3)) vs last := by
   cases hi : pIns bs (pList opI floB bs f) d r (x : Int) (p + 1) (n + 1) with
   | error e =>
    rw [hi] at R4
    have R4 : RdE L h4 bs e := R4
    exact ⟨h4, [], _, list_E R4 _ _, Fr.refl _ _, R4⟩
   | ok y =>
    obtain ⟨i', p2, n2⟩ := y
    rw [hi] at R4
    obtain ⟨e1, R4⟩ := R4
    have e1 : i = i' := e1
    subst e1
    have R4 : Rd L h4 bs (p2 : Int) (n2 : Int) none := R4
    have I := ins_ok opLaw hop hlt (fun hk => by omega) (fun {d p n xs l q n'} hp hr => list_q (f := f) hp hr) hi
    have sz := I.sz
    have ne := I.ne
    have n1 := I.n1
    have hin : 1 ≤ (insB opI i).length ∨ True := .inr trivial
    have hp2 : p < p2 := ins_adv hop hlt (fun hk => by omega) hi
    obtain ⟨h5, vs, last, hc5, F5, R5⟩ := W (d := d) (p := p2) (n := n2) (out := out ++ [i]) I.qb (by omega) (I.n5 (by omega)) (by rw [List.length_append, List.length_singleton]; omega) hd R4
    refine ⟨h5, vs, last, hc5, F5, ?_⟩
    unfold pL at R5
    simp only
    cases hL : pList opI floB bs f d p2 n2 with
    | error e => rw [hL] at R5; exact R5
    | ok z =>
     obtain ⟨is, l, p3, n3⟩ := z
     rw [hL] at R5
     obtain ⟨e2, e3, R5⟩ := R5
     have e2 : vs = (out ++ [i]) ++ is := e2
     exact ⟨by rw [e2, List.append_assoc]; rfl, e3, R5⟩
  obtain ⟨h5, vs, last, hc5, F5, R5⟩ := key
  have FF := ((F0.trans F2).trans F4).trans F5
  obtain ⟨io, ia, ib, iv, it, il, ibd, iel, iq⟩ := i
  by_cases h2k : r.kind = 2
  ·exact ⟨h5, vs, last, p23_2_11 (k0 := h3) (k1 := hq) (k2 := rfl) (k3 := H.ld1) (k4 := hc) (k5 := h31) (k6 := hq1) (k7 := rfl) (k8 := n11) (k9 := n5) (k10 := hlk0) (k11 := is_nil30) (k12 := rfl) (k13 := err_neq none) (k14 := rfl) (k15 := R0.ld2) (k16 := n512) (k17 := eqZ_t (b := Int.ofNat 2) h2k) (k18 := leZ_f (a := Int.ofNat 32) (by rw [ofN]; omega)) (k19 := R0.ld2) (k20 := hs) (k21 := h32) (k22 := hq2) (k23 := rfl) (k24 := hfi) (k25 := hap) (k26 := hc5), FF, R5⟩
  ·exact ⟨h5, vs, last, p23_2_13 (k0 := h3) (k1 := hq) (k2 := rfl) (k3 := H.ld1) (k4 := hc) (k5 := h31) (k6 := hq1) (k7 := rfl) (k8 := n11) (k9 := n5) (k10 := hlk0) (k11 := is_nil30) (k12 := rfl) (k13 := err_neq none) (k14 := rfl) (k15 := R0.ld2) (k16 := n512) (k17 := eqZ_f (b := Int.ofNat 2) h2k) (k18 := R0.ld2) (k19 := hs) (k20 := h32) (k21 := hq2) (k22 := rfl) (k23 := hfi) (k24 := hap) (k25 := hc5), FF, R5⟩
theorem list_W (hb : ∀ x, x ∈ bs → x < 256) (hl : bs.length < 2 ^ 61) : ∀ f : Nat, ListW m L bs f
 | 0 => fun d p n h out hp hf => by omega
 | f + 1 => list_step hb hl (list_W hb hl f)
def codeE (c : Int) : AV := .ifc 32 (.int .i64 c)
def GetR (h h' : Heap) (bs : List Nat) (p : Nat) (x : LV) : Prop :=
 (∀ q, q < h.bx.length → h'.bx[q]? = h.bx[q]?) ∧ h.bx.length ≤ h'.bx.length ∧
 match pExpr opI floB bs p with
 | .ok r => x = .tup [.imm (encIs r.1), .int .i64 (r.2 : Int), .nilI]
 | .error e => ∃ id, h.bx.length ≤ id ∧ x = .tup [.imm [], .int .i64 (Int.ofNat 0), .ifc 63 (.ptr id 0)] ∧ h'.bx[id]? = some [.v (.int .i64 (e.1 : Int)), .v (.ifc 32 (.int .i64 e.2))]
theorem get12 (hb : ∀ x, x ∈ bs → x < 256) (hl : bs.length < 2 ^ 61) {p : Nat} (hp : p ≤ bs.length) (h : Heap) :
  ∃ h' x, callF (cxZ m) (blk (cxZ m)) 12 [.v (.imm (encBy bs)), .v (.int .i64 (p : Int))] h = some (x, h') ∧ GetR h h' bs p x := by
 have k0 : ltZ (p : Int) (Int.ofNat 0) = false := ltZ_f (by rw [ofN]; omega)
 have k1 : ltZ (Int.ofNat (encBy bs).length) (p : Int) = false := ltZ_f (by rw [encBy_len, ofN]; omega)
 have H : Rd h.bx.length ⟨h.bx ++ [rdC bs (p : Int) (0 : Nat) .nilI], h.mp⟩ bs (p : Int) ((0 : Nat) : Int) none := by
  refine ⟨.nilI, ?_, rfl⟩
  show (h.bx ++ _)[h.bx.length]? = _
  rw [List.getElem?_append_right (Nat.le_refl _), Nat.sub_self]; rfl
 have old : ∀ q, q < h.bx.length → (Heap.mk (h.bx ++ [rdC bs (p : Int) (0 : Nat) .nilI]) h.mp).bx[q]? = h.bx[q]? := fun q hq => by
  show (h.bx ++ _)[q]? = _
  rw [List.getElem?_append_left hq]
 have olen : (Heap.mk (h.bx ++ [rdC bs (p : Int) (0 : Nat) .nilI]) h.mp).bx.length = h.bx.length + 1 := by
  show (h.bx ++ _).length = _
  rw [List.length_append]; rfl
 obtain ⟨h1, vs, last, hc, F, R⟩ := listC (list_W (m := m) (L := h.bx.length) hb hl (bs.length + 1)) (d := 0) hp (by omega) (by decide) (by decide) H
 have fr : ∀ {h' : Heap}, Fr h.bx.length ⟨h.bx ++ [rdC bs (p : Int) (0 : Nat) .nilI], h.mp⟩ h' → (∀ q, q < h.bx.length → h'.bx[q]? = h.bx[q]?) ∧ h.bx.length ≤ h'.bx.length := fun F => by
  refine ⟨fun q hq => (F.1 q (by rw [olen]; omega) (by omega)).trans (old q hq), ?_⟩
  have := F.2
  rw [olen] at this
  omega
 have bad : ∀ {h' : Heap} {e : PErr}, Fr h.bx.length ⟨h.bx ++ [rdC bs (p : Int) (0 : Nat) .nilI], h.mp⟩ h' → RdE h.bx.length h' bs e → ∃ a, ldP h' (.ptr h.bx.length 3) 1 false = some a ∧ binF Tryz.prog .neq 28 true a .nilI = some (.bool true) ∧
   ∃ id, h.bx.length ≤ id ∧ a = .ifc 63 (.ptr id 0) ∧ h'.bx[id]? = some [.v (.int .i64 (e.1 : Int)), .v (.ifc 32 (.int .i64 e.2))] := fun {h' e} F ⟨p', n', a, e1, e2⟩ => by
  refine ⟨a, ldP_at e1 rfl, e2.qn.2, ?_⟩
  obtain ⟨id, i1, i2, i3⟩ := e2
  refine ⟨id, ?_, i2, i3⟩
  omega
 unfold GetR pExpr
 unfold pL at R
 cases hL : pList opI floB bs (bs.length + 1) 0 p 0 with
 | error e =>
  rw [hL] at R
  have R : RdE h.bx.length h1 bs e := R
  obtain ⟨a, b1, b2, id, b3, rfl, b4⟩ := bad F R
  obtain ⟨f1, f2⟩ := fr F
  by_cases h5 : last = 5
  ·have hf := fail_E (m := m) R
   obtain ⟨p', n', R1⟩ := R
   exact ⟨h1, _, callF_of rfl rfl (by kernel_rfl) (p12_2 (k0 := k0) (k1 := k1) (k2 := hc) (k3 := eqZ_t (b := Int.ofNat 5) h5) (k4 := R1.ld1) (k5 := hf _ _) (k6 := b1) (k7 := b2) (k8 := rfl) (k9 := b1)), f1, f2, id, b3, rfl, b4⟩
  ·exact ⟨h1, _, callF_of rfl rfl (by kernel_rfl) (p12_4 (k0 := k0) (k1 := k1) (k2 := hc) (k3 := eqZ_f (b := Int.ofNat 5) h5) (k4 := b1) (k5 := b2) (k6 := rfl) (k7 := b1)), f1, f2, id, b3, rfl, b4⟩
 | ok y =>
  obtain ⟨xs, l, q, n'⟩ := y
  have B := list_q (f := bs.length + 1) hp hL
  rw [hL] at R
  obtain ⟨e1, e2, R⟩ := R
  have e1 : vs = xs := e1
  have e2 : last = (l : Int) := e2
  subst e1; subst e2
  have R : Rd h.bx.length h1 bs (q : Int) (n' : Int) none := R
  simp only
  by_cases h5 : l = 5
  ·rw [if_pos h5]
   have sz := B.sz
   obtain ⟨h2, hf, R2, F2⟩ := fail_R (m := m) R (q - 1) 2 (z := IntKind.wrap .i64 ((q : Int) - Int.ofNat 1)) (by rw [ofN, wrapI (by have := B.qb; unfold InZ; omega)]; omega)
   have F3 := F.trans F2
   obtain ⟨a, b1, b2, id, b3, rfl, b4⟩ := bad F3 ⟨_, _, R2⟩
   obtain ⟨f1, f2⟩ := fr F3
   exact ⟨h2, _, callF_of rfl rfl (by kernel_rfl) (p12_2 (k0 := k0) (k1 := k1) (k2 := hc) (k3 := eqZ_t (b := Int.ofNat 5) (by rw [h5]; rfl)) (k4 := R.ld1) (k5 := hf) (k6 := b1) (k7 := b2) (k8 := rfl) (k9 := b1)), f1, f2, id, b3, rfl, b4⟩
  ·rw [if_neg h5]
   obtain ⟨a, h3, _, hq⟩ := R.ld3
   obtain ⟨f1, f2⟩ := fr F
   exact ⟨h1, _, callF_of rfl rfl (by kernel_rfl) (p12_5 (k0 := k0) (k1 := k1) (k2 := hc) (k3 := eqZ_f (b := Int.ofNat 5) (by rw [ofN]; omega)) (k4 := h3) (k5 := hq) (k6 := rfl) (k7 := R.ld1)), f1, f2, rfl⟩
end
end Go.Proofs.YthcjapmfchidhaaGreatDoor
