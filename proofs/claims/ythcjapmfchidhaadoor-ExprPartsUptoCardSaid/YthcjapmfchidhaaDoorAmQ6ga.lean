/-
  The program's reader in the heap: how its box tells where it stands; what fails; bytes, numbers, labels, results.
-/
import Derived.Test.YthcjapmfchidhaaDoorAmQ6z
import Derived.Test.YthcjapmfchidhaaDoorAmQ6wH
import Derived.Test.YthcjapmfchidhaaDoorAmHeap
namespace Go.Proofs.YthcjapmfchidhaaDoor
set_option maxRecDepth 100000
open Go Go.Proofs.Am
def Er (L : Nat) (h : Heap) : Option PErr → AV → Prop
 | none, a => a = .nilI
 | some e, a => ∃ id, L < id ∧ a = .ifc 48 (.ptr id 0) ∧ h.bx[id]? = some [.v (.int .i64 (e.1 : Int)), .v (.ifc 39 (.int .i64 e.2))]
def rdC (bs : List Nat) (p n : Int) (a : AV) : List LV := [.v (.imm (encBy bs)), .v (.int .i64 p), .v (.int .i64 n), .v a]
def Rd (L : Nat) (h : Heap) (bs : List Nat) (p n : Int) (e : Option PErr) : Prop := ∃ a, h.bx[L]? = some (rdC bs p n a) ∧ Er L h e a
def RdE (L : Nat) (h : Heap) (bs : List Nat) (e : PErr) : Prop := ∃ p n : Int, Rd L h bs p n (some e)
def Fr (L : Nat) (h h' : Heap) : Prop := (∀ q, q < h.bx.length → q ≠ L → h'.bx[q]? = h.bx[q]?) ∧ h.bx.length ≤ h'.bx.length
theorem Fr.refl (L : Nat) (h : Heap) : Fr L h h := ⟨fun _ _ _ => rfl, Nat.le_refl _⟩
theorem Fr.trans {L : Nat} {h h1 h2 : Heap} (a : Fr L h h1) (b : Fr L h1 h2) : Fr L h h2 := ⟨fun q hq hn => (b.1 q (Nat.lt_of_lt_of_le hq a.2) hn).trans (a.1 q hq hn), Nat.le_trans a.2 b.2⟩
theorem Fr.put (h : Heap) (L : Nat) (bx : List LV) : Fr L h (h.put L bx) := ⟨fun _ _ hn => put_ne (Ne.symm hn), by rw [put_len]; exact Nat.le_refl _⟩
theorem Er.qn {L : Nat} {h : Heap} {e : Option PErr} {a : AV} (H : Er L h e a) : binF Tryd.prog .eql 28 true a .nilI = some (.bool e.isNone) ∧ binF Tryd.prog .neq 28 true a .nilI = some (.bool e.isSome) := by
 cases e with
 | none =>
  have : a = .nilI := H
  subst this
  exact ⟨by kernel_rfl, by kernel_rfl⟩
 | some e =>
  obtain ⟨id, _, rfl, _⟩ := H
  exact ⟨by kernel_rfl, by kernel_rfl⟩
section
variable {m : Int} {L : Nat} {h : Heap} {bs : List Nat} {p n : Int} {e : Option PErr}
theorem Rd.ld0 (H : Rd L h bs p n e) : ldP h (.ptr L 0) 1 false = some (.imm (encBy bs)) := by obtain ⟨a, h1, _⟩ := H; exact ldP_at h1 rfl
theorem Rd.ld1 (H : Rd L h bs p n e) : ldP h (.ptr L 1) 1 false = some (.int .i64 p) := by obtain ⟨a, h1, _⟩ := H; exact ldP_at h1 rfl
theorem Rd.ld2 (H : Rd L h bs p n e) : ldP h (.ptr L 2) 1 false = some (.int .i64 n) := by obtain ⟨a, h1, _⟩ := H; exact ldP_at h1 rfl
theorem Rd.ld3 (H : Rd L h bs p n e) : ∃ a, ldP h (.ptr L 3) 1 false = some a ∧ binF Tryd.prog .eql 28 true a .nilI = some (.bool e.isNone) ∧ binF Tryd.prog .neq 28 true a .nilI = some (.bool e.isSome) := by
 obtain ⟨a, h1, h2⟩ := H
 exact ⟨a, ldP_at h1 rfl, h2.qn⟩
theorem Er.put {a : AV} {bx : List LV} (H : Er L h e a) : Er L (h.put L bx) e a := by
 cases e with
 | none => exact H
 | some e =>
  obtain ⟨id, h1, h2, h3⟩ := H
  exact ⟨id, h1, h2, by rw [put_ne (Nat.ne_of_lt h1)]; exact h3⟩
theorem Rd.set1 (H : Rd L h bs p n e) (p' : Int) : ∃ h', stP h (.ptr L 1) [.v (.int .i64 p')] = some h' ∧ Rd L h' bs p' n e ∧ Fr L h h' := by
 obtain ⟨a, h1, h2⟩ := H
 refine ⟨_, stP_at h1 (show 1 < 4 by decide), ⟨a, ?_, h2.put⟩, Fr.put _ _ _⟩
 rw [put_same h1]; rfl
theorem Rd.set2 (H : Rd L h bs p n e) (n' : Int) : ∃ h', stP h (.ptr L 2) [.v (.int .i64 n')] = some h' ∧ Rd L h' bs p n' e ∧ Fr L h h' := by
 obtain ⟨a, h1, h2⟩ := H
 refine ⟨_, stP_at h1 (show 2 < 4 by decide), ⟨a, ?_, h2.put⟩, Fr.put _ _ _⟩
 rw [put_same h1]; rfl
theorem fail_R (H : Rd L h bs p n none) (pl : Nat) (c : Int) {z : Int} (hz : z = (pl : Int)) : ∃ h', callF (cxZ m) (blk (cxZ m)) 12 [.v (.ptr L 0), .v (.int .i64 z), .v (.ifc 39 (.int .i64 c))] h = some (.tup [], h') ∧ Rd L h' bs p n (some (pl, c)) ∧ Fr L h h' := by
 subst hz
 obtain ⟨a, h3, hq, _⟩ := H.ld3
 obtain ⟨a', h1, h2⟩ := H
 have hlt : L < h.bx.length := (List.getElem?_eq_some_iff.1 h1).1
 have hb : (Heap.mk (h.bx ++ [[LV.v (.int .i64 (pl : Int)), .v (.ifc 39 (.int .i64 c))]]) h.mp).bx[L]? = some (rdC bs p n a') := by
  show (h.bx ++ _)[L]? = _
  rw [List.getElem?_append_left hlt]; exact h1
 have hst := stP_at (x := .v (.ifc 48 (.ptr h.bx.length 0))) hb (k := 3) (by decide : 3 < 4)
 refine ⟨_, callF_of rfl rfl (by kernel_rfl) (p24_0 (k0 := h3) (k1 := hq) (k2 := rfl) (k3 := hst)), ⟨.ifc 48 (.ptr h.bx.length 0), ?_, h.bx.length, by omega, rfl, ?_⟩, fun q hq hn => ?_, ?_⟩
 ·rw [put_same hb]; rfl
 ·rw [put_ne (by omega)]
  show (h.bx ++ _)[h.bx.length]? = _
  rw [List.getElem?_append_right (Nat.le_refl _), Nat.sub_self]; rfl
 ·rw [put_ne (Ne.symm hn)]
  show (h.bx ++ _)[q]? = _
  rw [List.getElem?_append_left hq]
 ·rw [put_len]
  show _ ≤ (h.bx ++ _).length
  rw [List.length_append]; omega
theorem fail_E {e : PErr} (H : RdE L h bs e) (z c : Int) : callF (cxZ m) (blk (cxZ m)) 12 [.v (.ptr L 0), .v (.int .i64 z), .v (.ifc 39 (.int .i64 c))] h = some (.tup [], h) := by
 obtain ⟨p, n, H⟩ := H
 obtain ⟨a, h3, hq, _⟩ := H.ld3
 exact callF_of rfl rfl (by kernel_rfl) (p24_1 (k0 := h3) (k1 := hq) (k2 := rfl))
def Res {A : Type} (L : Nat) (h : Heap) (bs : List Nat) (n : Int) (r : PR A) (ok : A → Prop) : Prop :=
 match r with
 | .ok x => ok x.1 ∧ Rd L h bs (x.2 : Int) n none
 | .error e => RdE L h bs e
theorem byte_R (hb : ∀ x, x ∈ bs → x < 256) (hl : bs.length < 2 ^ 61) {p : Nat} (H : Rd L h bs (p : Int) n none) :
  ∃ h' v, callF (cxZ m) (blk (cxZ m)) 19 [.v (.ptr L 0)] h = some (.v (.int .i64 v), h') ∧ Fr L h h' ∧ Res L h' bs n (pByte bs p) (fun x => v = (x : Int)) := by
 obtain ⟨a, h3, _, hq⟩ := H.ld3
 unfold pByte
 cases hx : bs[p]? with
 | none =>
  have hge := List.getElem?_eq_none_iff.1 hx
  obtain ⟨h', hc, H', F⟩ := fail_R (m := m) H bs.length 2 (z := Int.ofNat (encBy bs).length) (by rw [encBy_len]; rfl)
  exact ⟨h', _, callF_of rfl rfl (by kernel_rfl) (p40_1 (k0 := h3) (k1 := hq) (k2 := rfl) (k3 := H.ld1) (k4 := H.ld0) (k5 := leZ_t (by rw [encBy_len, ofN]; omega)) (k6 := H.ld0) (k7 := hc)), F, ⟨_, _, H'⟩⟩
 | some x =>
  have hlt := (List.getElem?_eq_some_iff.1 hx).1
  have h256 := hb x (List.mem_of_getElem? hx)
  have wp : IntKind.wrap .i64 ((p : Int) + Int.ofNat 1) = ((p + 1 : Nat) : Int) := by rw [ofN, wrapI (by unfold InZ; omega)]; omega
  have wq : IntKind.wrap .i64 (((p + 1 : Nat) : Int) - Int.ofNat 1) = (p : Int) := by rw [ofN, wrapI (by unfold InZ; omega)]; omega
  obtain ⟨h', hs, H', F⟩ := H.set1 (IntKind.wrap .i64 ((p : Int) + Int.ofNat 1))
  have hv : IntKind.wrap .i64 (x : Int) = (x : Int) := wrapI (by unfold InZ; omega)
  refine ⟨h', _, callF_of rfl rfl (by kernel_rfl) (p40_2 (k0 := h3) (k1 := hq) (k2 := rfl) (k3 := H.ld1) (k4 := H.ld0) (k5 := leZ_f (by rw [encBy_len, ofN]; omega)) (k6 := H.ld1) (k7 := hs) (k8 := H'.ld0) (k9 := H'.ld1) (k10 := ix_by (by rw [wp, wq]) hx)), F, hv, ?_⟩
  rw [wp] at H'
  exact H'
theorem byte_E {e : PErr} (H : RdE L h bs e) : callF (cxZ m) (blk (cxZ m)) 19 [.v (.ptr L 0)] h = some (.v (.int .i64 (Int.ofNat 0)), h) := by
 obtain ⟨p, n, H⟩ := H
 obtain ⟨a, h3, _, hq⟩ := H.ld3
 exact callF_of rfl rfl (by kernel_rfl) (p40_0 (k0 := h3) (k1 := hq) (k2 := rfl))
theorem must_R (hb : ∀ x, x ∈ bs → x < 256) (hl : bs.length < 2 ^ 61) {p : Nat} (H : Rd L h bs (p : Int) n none) :
  ∃ h', callF (cxZ m) (blk (cxZ m)) 43 [.v (.ptr L 0), .v (.int .i64 (Int.ofNat 0))] h = some (.tup [], h') ∧ Fr L h h' ∧ Res L h' bs n (pMust bs 0 p) (fun _ => True) := by
 obtain ⟨h1, v, hc, F1, R1⟩ := byte_R (m := m) hb hl H
 unfold pMust
 cases hp : pByte bs p with
 | error e =>
  rw [hp] at R1
  have R1 : RdE L h1 bs e := R1
  have hf := fail_E (m := m) R1 (p : Int) (Int.ofNat 2)
  by_cases hv : v = 0
  ·exact ⟨h1, callF_of rfl rfl (by kernel_rfl) (p69_1 (k0 := H.ld1) (k1 := hc) (k2 := congrArg not (eqZ_t (b := Int.ofNat 0) hv))), F1, R1⟩
  ·exact ⟨h1, callF_of rfl rfl (by kernel_rfl) (p69_0 (k0 := H.ld1) (k1 := hc) (k2 := congrArg not (eqZ_f (b := Int.ofNat 0) hv)) (k3 := hf)), F1, R1⟩
 | ok r =>
  rw [hp] at R1
  obtain ⟨hv, R1⟩ := R1
  simp only
  by_cases h0 : r.1 = 0
  ·rw [if_pos h0]
   exact ⟨h1, callF_of rfl rfl (by kernel_rfl) (p69_1 (k0 := H.ld1) (k1 := hc) (k2 := congrArg not (eqZ_t (b := Int.ofNat 0) (by rw [hv, h0]; rfl)))), F1, trivial, R1⟩
  ·rw [if_neg h0]
   obtain ⟨h2, hf, R2, F2⟩ := fail_R (m := m) R1 p 2 (z := (p : Int)) rfl
   exact ⟨h2, callF_of rfl rfl (by kernel_rfl) (p69_0 (k0 := H.ld1) (k1 := hc) (k2 := congrArg not (eqZ_f (b := Int.ofNat 0) (by rw [hv, ofN]; omega))) (k3 := hf)), F1.trans F2, ⟨_, _, R2⟩⟩
theorem must_E {e : PErr} (H : RdE L h bs e) : callF (cxZ m) (blk (cxZ m)) 43 [.v (.ptr L 0), .v (.int .i64 (Int.ofNat 0))] h = some (.tup [], h) := by
 have hc := byte_E (m := m) H
 obtain ⟨p, n, H⟩ := H
 exact callF_of rfl rfl (by kernel_rfl) (p69_1 (k0 := H.ld1) (k1 := hc) (k2 := rfl))
theorem formE_q : binF Tryd.prog .neq 28 true formE .nilI = some (.bool true) ∧ binF Tryd.prog .neq 28 true .nilI .nilI = some (.bool false) := ⟨by kernel_rfl, by kernel_rfl⟩
theorem num_R (hb : ∀ x, x ∈ bs → x < 256) (hl : bs.length < 2 ^ 61) {p : Nat} (hp : p ≤ bs.length) (H : Rd L h bs (p : Int) n none) :
  ∃ h' v, callF (cxZ m) (blk (cxZ m)) 42 [.v (.ptr L 0)] h = some (.v (.int .i64 v), h') ∧ Fr L h h' ∧ Res L h' bs n (pNum bs p) (fun x => v = x) := by
 obtain ⟨a, h3, _, hq⟩ := H.ld3
 have hu := u89 (m := m) (h := h) hb (by omega) hp
 unfold uV at hu
 unfold pNum
 have bad : (callF (cxZ m) (blk (cxZ m)) 57 [.v (.imm (encBy bs)), .v (.int .i64 (p : Int)), .v (.int .i64 (Int.ofNat 32))] h = some (.tup [.int .u64 (Int.ofNat 0), .int .i64 (Int.ofNat 0), formE], h)) →
   ∃ h' v, callF (cxZ m) (blk (cxZ m)) 42 [.v (.ptr L 0)] h = some (.v (.int .i64 v), h') ∧ Fr L h h' ∧ RdE L h' bs (p, 2) := fun hu => by
  obtain ⟨h1, hf, R1, F1⟩ := fail_R (m := m) H p 2 (z := (p : Int)) rfl
  exact ⟨h1, _, callF_of rfl rfl (by kernel_rfl) (p68_1 (k0 := h3) (k1 := hq) (k2 := rfl) (k3 := H.ld0) (k4 := H.ld1) (k5 := hu) (k6 := formE_q.1) (k7 := rfl) (k8 := H.ld1) (k9 := hf)), F1, ⟨_, _, R1⟩⟩
 cases hd : digN bs 5 p with
 | none =>
  rw [hd] at hu
  exact bad hu
 | some r =>
  rw [hd] at hu
  simp only at hu ⊢
  have e32 : (2 : Nat) ^ 32 = 4294967296 := by decide
  by_cases hv : valD r.1 < 4294967296
  ·rw [if_pos hv] at hu
   rw [if_pos (by rw [e32]; exact hv)]
   obtain ⟨h1, hs, R1, F1⟩ := H.set1 (r.2 : Int)
   exact ⟨h1, _, callF_of rfl rfl (by kernel_rfl) (p68_2 (k0 := h3) (k1 := hq) (k2 := rfl) (k3 := H.ld0) (k4 := H.ld1) (k5 := hu) (k6 := formE_q.2) (k7 := rfl) (k8 := hs)), F1, wrapI (by unfold InZ; omega), R1⟩
  ·rw [if_neg hv] at hu
   rw [if_neg (by rw [e32]; exact hv)]
   exact bad hu
theorem num_E {e : PErr} (H : RdE L h bs e) : callF (cxZ m) (blk (cxZ m)) 42 [.v (.ptr L 0)] h = some (.v (.int .i64 (Int.ofNat 0)), h) := by
 obtain ⟨p, n, H⟩ := H
 obtain ⟨a, h3, _, hq⟩ := H.ld3
 exact callF_of rfl rfl (by kernel_rfl) (p68_0 (k0 := h3) (k1 := hq) (k2 := rfl))
theorem con_R (hb : ∀ x, x ∈ bs → x < 256) (hl : bs.length < 2 ^ 61) {p : Nat} (hp : p ≤ bs.length) (H : Rd L h bs (p : Int) n none) {t : Int} {w : Bool} (ht : w = false ↔ t = 1) :
  ∃ h' v, callF (cxZ m) (blk (cxZ m)) 44 [.v (.ptr L 0), .v (.int .i64 t)] h = some (.v (.int .u64 v), h') ∧ Fr L h h' ∧ Res L h' bs n (pCon bs w p) (fun x => v = x) := by
 obtain ⟨a, h3, _, hq⟩ := H.ld3
 unfold pCon
 cases w with
 | false =>
  have k0 := eqZ_t (b := Int.ofNat 1) (ht.1 rfl)
  have hu := s90 (m := m) (h := h) hb (by omega) (B := 32) (K := 5) (.inl ⟨rfl, rfl⟩) hp
  unfold sV at hu
  have bad : (callF (cxZ m) (blk (cxZ m)) 58 [.v (.imm (encBy bs)), .v (.int .i64 (p : Int)), .v (.int .i64 (Int.ofNat 32))] h = some (.tup [.int .i64 (Int.ofNat 0), .int .i64 (Int.ofNat 0), formE], h)) →
    ∃ h' v, callF (cxZ m) (blk (cxZ m)) 44 [.v (.ptr L 0), .v (.int .i64 t)] h = some (.v (.int .u64 v), h') ∧ Fr L h h' ∧ RdE L h' bs (p, 2) := fun hu => by
   obtain ⟨h1, hf, R1, F1⟩ := fail_R (m := m) H p 2 (z := (p : Int)) rfl
   exact ⟨h1, _, callF_of rfl rfl (by kernel_rfl) (p70_1 (k0 := k0) (k1 := h3) (k2 := hq) (k3 := rfl) (k4 := H.ld0) (k5 := H.ld1) (k6 := hu) (k7 := formE_q.1) (k8 := rfl) (k9 := H.ld1) (k10 := hf)), F1, ⟨_, _, R1⟩⟩
  rw [if_neg (by decide)]
  cases hd : digN bs 5 p with
  | none =>
   rw [hd] at hu
   exact bad hu
  | some r =>
   rw [hd] at hu
   simp only [Bool.false_eq_true, if_false] at hu ⊢
   cases hr : rdS (valD r.1) r.1.length 32 with
   | none => rw [hr] at hu; exact bad hu
   | some x =>
    rw [hr] at hu
    obtain ⟨h1, hs, R1, F1⟩ := H.set1 (r.2 : Int)
    refine ⟨h1, _, callF_of rfl rfl (by kernel_rfl) (p70_2 (k0 := k0) (k1 := h3) (k2 := hq) (k3 := rfl) (k4 := H.ld0) (k5 := H.ld1) (k6 := hu) (k7 := formE_q.2) (k8 := rfl) (k9 := hs)), F1, ?_, R1⟩
    show IntKind.wrap .u64 (IntKind.wrap .u32 (IntKind.wrap .i64 (x : Int))) = ((x % 4294967296 : Nat) : Int)
    rw [wrapU64, wrapU32, wrapI64]
    split <;> omega
 | true =>
  have k0 := eqZ_f (a := t) (b := Int.ofNat 1) (fun hh => absurd (ht.2 hh) (by decide))
  have hu := s90 (m := m) (h := h) hb (by omega) (B := 64) (K := 10) (.inr ⟨rfl, rfl⟩) hp
  unfold sV at hu
  have bad : (callF (cxZ m) (blk (cxZ m)) 58 [.v (.imm (encBy bs)), .v (.int .i64 (p : Int)), .v (.int .i64 (Int.ofNat 64))] h = some (.tup [.int .i64 (Int.ofNat 0), .int .i64 (Int.ofNat 0), formE], h)) →
    ∃ h' v, callF (cxZ m) (blk (cxZ m)) 44 [.v (.ptr L 0), .v (.int .i64 t)] h = some (.v (.int .u64 v), h') ∧ Fr L h h' ∧ RdE L h' bs (p, 2) := fun hu => by
   obtain ⟨h1, hf, R1, F1⟩ := fail_R (m := m) H p 2 (z := (p : Int)) rfl
   exact ⟨h1, _, callF_of rfl rfl (by kernel_rfl) (p70_4 (k0 := k0) (k1 := h3) (k2 := hq) (k3 := rfl) (k4 := H.ld0) (k5 := H.ld1) (k6 := hu) (k7 := formE_q.1) (k8 := rfl) (k9 := H.ld1) (k10 := hf)), F1, ⟨_, _, R1⟩⟩
  rw [if_pos rfl]
  cases hd : digN bs 10 p with
  | none =>
   rw [hd] at hu
   exact bad hu
  | some r =>
   rw [hd] at hu
   simp only [if_true] at hu ⊢
   cases hr : rdS (valD r.1) r.1.length 64 with
   | none => rw [hr] at hu; exact bad hu
   | some x =>
    rw [hr] at hu
    have hx : x < 18446744073709551616 := by
     unfold rdS at hr
     split at hr
     ·rw [i2_64] at hr; cases hr; omega
     ·cases hr
    obtain ⟨h1, hs, R1, F1⟩ := H.set1 (r.2 : Int)
    refine ⟨h1, _, callF_of rfl rfl (by kernel_rfl) (p70_5 (k0 := k0) (k1 := h3) (k2 := hq) (k3 := rfl) (k4 := H.ld0) (k5 := H.ld1) (k6 := hu) (k7 := formE_q.2) (k8 := rfl) (k9 := hs)), F1, ?_, R1⟩
    show IntKind.wrap .u64 (IntKind.wrap .i64 (x : Int)) = (x : Int)
    rw [wrapU64, wrapI64]
    split <;> omega
theorem res_R (hb : ∀ x, x ∈ bs → x < 256) (hl : bs.length < 2 ^ 61) {p : Nat} (H : Rd L h bs (p : Int) n none) :
  ∃ h' v, callF (cxZ m) (blk (cxZ m)) 56 [.v (.ptr L 0)] h = some (.v (.int .i64 v), h') ∧ Fr L h h' ∧ Res L h' bs n (pRes bs p) (fun x => v = x) := by
 obtain ⟨h1, v, hc, F1, R1⟩ := byte_R (m := m) hb hl H
 unfold pRes
 cases hp : pByte bs p with
 | error e =>
  rw [hp] at R1
  have R1 : RdE L h1 bs e := R1
  have f2 := fail_E (m := m) R1 (p : Int) (Int.ofNat 2)
  have f3 := fail_E (m := m) R1 (p : Int) (Int.ofNat 3)
  by_cases c64 : v = 64
  ·exact ⟨h1, _, callF_of rfl rfl (by kernel_rfl) (p88_0 (k0 := H.ld1) (k1 := hc) (k2 := eqZ_t (b := Int.ofNat 64) c64)), F1, R1⟩
  by_cases c127 : v = 127
  ·exact ⟨h1, _, callF_of rfl rfl (by kernel_rfl) (p88_1 (k0 := H.ld1) (k1 := hc) (k2 := eqZ_f (b := Int.ofNat 64) c64) (k3 := eqZ_t (b := Int.ofNat 127) c127)), F1, R1⟩
  by_cases c126 : v = 126
  ·exact ⟨h1, _, callF_of rfl rfl (by kernel_rfl) (p88_2 (k0 := H.ld1) (k1 := hc) (k2 := eqZ_f (b := Int.ofNat 64) c64) (k3 := eqZ_f (b := Int.ofNat 127) c127) (k4 := eqZ_t (b := Int.ofNat 126) c126)), F1, R1⟩
  by_cases c125 : v = 125
  ·exact ⟨h1, _, callF_of rfl rfl (by kernel_rfl) (p88_3 (k0 := H.ld1) (k1 := hc) (k2 := eqZ_f (b := Int.ofNat 64) c64) (k3 := eqZ_f (b := Int.ofNat 127) c127) (k4 := eqZ_f (b := Int.ofNat 126) c126) (k5 := eqZ_t (b := Int.ofNat 125) c125) (k6 := f3) (k7 := f2)), F1, R1⟩
  by_cases c124 : v = 124
  ·exact ⟨h1, _, callF_of rfl rfl (by kernel_rfl) (p88_5 (k0 := H.ld1) (k1 := hc) (k2 := eqZ_f (b := Int.ofNat 64) c64) (k3 := eqZ_f (b := Int.ofNat 127) c127) (k4 := eqZ_f (b := Int.ofNat 126) c126) (k5 := eqZ_f (b := Int.ofNat 125) c125) (k6 := eqZ_t (b := Int.ofNat 124) c124) (k7 := f3) (k8 := f2)), F1, R1⟩
  ·exact ⟨h1, _, callF_of rfl rfl (by kernel_rfl) (p88_6 (k0 := H.ld1) (k1 := hc) (k2 := eqZ_f (b := Int.ofNat 64) c64) (k3 := eqZ_f (b := Int.ofNat 127) c127) (k4 := eqZ_f (b := Int.ofNat 126) c126) (k5 := eqZ_f (b := Int.ofNat 125) c125) (k6 := eqZ_f (b := Int.ofNat 124) c124) (k7 := f2)), F1, R1⟩
 | ok r =>
  rw [hp] at R1
  obtain ⟨hv, R1⟩ := R1
  simp only
  have hne : ∀ k : Nat, r.1 ≠ k → eqZ v (Int.ofNat k) = false := fun k hk => eqZ_f (by rw [hv, ofN]; omega)
  have heq : ∀ k : Nat, r.1 = k → eqZ v (Int.ofNat k) = true := fun k hk => eqZ_t (by rw [hv, ofN]; omega)
  by_cases c64 : r.1 = 64
  ·rw [if_pos c64]
   exact ⟨h1, _, callF_of rfl rfl (by kernel_rfl) (p88_0 (k0 := H.ld1) (k1 := hc) (k2 := heq _ c64)), F1, rfl, R1⟩
  rw [if_neg c64]
  by_cases c127 : r.1 = 127
  ·rw [if_pos c127]
   exact ⟨h1, _, callF_of rfl rfl (by kernel_rfl) (p88_1 (k0 := H.ld1) (k1 := hc) (k2 := hne _ c64) (k3 := heq _ c127)), F1, rfl, R1⟩
  rw [if_neg c127]
  by_cases c126 : r.1 = 126
  ·rw [if_pos c126]
   exact ⟨h1, _, callF_of rfl rfl (by kernel_rfl) (p88_2 (k0 := H.ld1) (k1 := hc) (k2 := hne _ c64) (k3 := hne _ c127) (k4 := heq _ c126)), F1, rfl, R1⟩
  rw [if_neg c126]
  by_cases c125 : r.1 = 125
  ·obtain ⟨h2, f3, R2, F2⟩ := fail_R (m := m) R1 p 3 (z := (p : Int)) rfl
   have R2 : RdE L h2 bs (p, 3) := ⟨_, _, R2⟩
   rw [if_pos (.inl c125)]
   exact ⟨h2, _, callF_of rfl rfl (by kernel_rfl) (p88_3 (k0 := H.ld1) (k1 := hc) (k2 := hne _ c64) (k3 := hne _ c127) (k4 := hne _ c126) (k5 := heq _ c125) (k6 := f3) (k7 := fail_E (m := m) R2 _ _)), F1.trans F2, R2⟩
  by_cases c124 : r.1 = 124
  ·obtain ⟨h2, f3, R2, F2⟩ := fail_R (m := m) R1 p 3 (z := (p : Int)) rfl
   have R2 : RdE L h2 bs (p, 3) := ⟨_, _, R2⟩
   rw [if_pos (.inr c124)]
   exact ⟨h2, _, callF_of rfl rfl (by kernel_rfl) (p88_5 (k0 := H.ld1) (k1 := hc) (k2 := hne _ c64) (k3 := hne _ c127) (k4 := hne _ c126) (k5 := hne _ c125) (k6 := heq _ c124) (k7 := f3) (k8 := fail_E (m := m) R2 _ _)), F1.trans F2, R2⟩
  ·obtain ⟨h2, f2, R2, F2⟩ := fail_R (m := m) R1 p 2 (z := (p : Int)) rfl
   rw [if_neg (by omega)]
   exact ⟨h2, _, callF_of rfl rfl (by kernel_rfl) (p88_6 (k0 := H.ld1) (k1 := hc) (k2 := hne _ c64) (k3 := hne _ c127) (k4 := hne _ c126) (k5 := hne _ c125) (k6 := hne _ c124) (k7 := f2)), F1.trans F2, ⟨_, _, R2⟩⟩
theorem nums_E {e : PErr} (H : RdE L h bs e) (out : List Int) (k z : Int) : blk (cxZ m) 45 (at_ Tryd.prog 45 7) [.v (.ptr L 0), .v (.int .i64 k), .ow 1 (encN out), .v (.int .i64 z)] h = some (.v (.imm (encN out)), h) := by
 obtain ⟨p, n, H⟩ := H
 obtain ⟨a, h3, hq, _⟩ := H.ld3
 by_cases hz : z ≤ k
 ·exact p71_7_1 (k0 := leZ_t hz) (k1 := h3) (k2 := hq) (k3 := rfl)
 ·exact p71_7_2 (k0 := leZ_f (by omega))
theorem pNum_q {bs : List Nat} {p : Nat} {x : Int} {q : Nat} (h : pNum bs p = .ok (x, q)) : p < q ∧ q ≤ bs.length ∧ 0 ≤ x ∧ x < 4294967296 := by
 unfold pNum at h
 cases hd : digN bs 5 p with
 | none => rw [hd] at h; cases h
 | some r =>
  rw [hd] at h
  simp only at h
  split at h
  ·rename_i hv
   have e32 : (2 : Nat) ^ 32 = 4294967296 := by decide
   rw [e32] at hv
   obtain ⟨d1, d2, d3, d4, _⟩ := digN_ok 5 p (d := r.1) (q := r.2) hd
   cases h
   exact ⟨by omega, d4, by omega, by omega⟩
  ·cases h
theorem nums_R (hb : ∀ x, x ∈ bs → x < 256) (hl : bs.length < 2 ^ 61) {k : Nat} (hk : k < 64) : ∀ (j : Nat) {p : Nat} {z : Nat} {h : Heap} {out : List Int}, z + j = k + 1 → out.length = z → p ≤ bs.length → Rd L h bs (p : Int) n none →
  ∃ h' vs, blk (cxZ m) 45 (at_ Tryd.prog 45 7) [.v (.ptr L 0), .v (.int .i64 (k : Int)), .ow 1 (encN out), .v (.int .i64 (z : Int))] h = some (.v (.imm (encN vs)), h') ∧ Fr L h h' ∧ Res L h' bs n (pNums bs j p) (fun l => vs = out ++ l)
 | 0, p, z, h, out, hz, ho, hp, H => by
  refine ⟨h, out, p71_7_2 (k0 := leZ_f (by omega)), Fr.refl _ _, ?_⟩
  rw [pNums]
  exact ⟨(List.append_nil out).symm, H⟩
 | j + 1, p, z, h, out, hz, ho, hp, H => by
  obtain ⟨a, h3, hq, _⟩ := H.ld3
  obtain ⟨h1, v, hc, F1, R1⟩ := num_R (m := m) hb hl hp H
  have k5 : apL (.ow 1 (encN out)) 1 8 [[.int .i64 v]] = some (.ow 1 (encN (out ++ [v]))) := ap_int (by omega)
  have wz : IntKind.wrap .i64 ((z : Int) + Int.ofNat 1) = ((z + 1 : Nat) : Int) := by rw [ofN, wrapI (by unfold InZ; omega)]; omega
  have k0 : leZ (z : Int) (k : Int) = true := leZ_t (by omega)
  rw [pNums]
  cases hn : pNum bs p with
  | error e =>
   rw [hn] at R1
   have R1 : RdE L h1 bs e := R1
   exact ⟨h1, out ++ [v], p71_7_0 (k0 := k0) (k1 := h3) (k2 := hq) (k3 := rfl) (k4 := hc) (k5 := k5) (k6 := nums_E R1 _ _ _), F1, R1⟩
  | ok r =>
   obtain ⟨x, q⟩ := r
   rw [hn] at R1
   obtain ⟨hv, R1⟩ := R1
   have hv : v = x := hv
   subst hv
   obtain ⟨_, hq2, _⟩ := pNum_q hn
   obtain ⟨h2, vs, hc2, F2, R2⟩ := nums_R hb hl hk j (p := q) (z := z + 1) (out := out ++ [v]) (by omega) (by rw [List.length_append, List.length_singleton]; omega) hq2 R1
   refine ⟨h2, vs, p71_7_0 (k0 := k0) (k1 := h3) (k2 := hq) (k3 := rfl) (k4 := hc) (k5 := k5) (k6 := by rw [wz]; exact hc2), F1.trans F2, ?_⟩
   simp only
   cases hm : pNums bs j q with
   | error e => rw [hm] at R2; exact R2
   | ok s =>
    rw [hm] at R2
    exact ⟨R2.1.trans (by rw [List.append_assoc, List.singleton_append]), R2.2⟩
theorem labs_R (hb : ∀ x, x ∈ bs → x < 256) (hl : bs.length < 2 ^ 61) {p : Nat} (hp : p ≤ bs.length) (H : Rd L h bs (p : Int) n none) :
  ∃ h' vs, callF (cxZ m) (blk (cxZ m)) 45 [.v (.ptr L 0)] h = some (.v (.imm (encN vs)), h') ∧ Fr L h h' ∧ Res L h' bs n (pLabs bs p) (fun l => vs = l) := by
 obtain ⟨h1, v, hc, F1, R1⟩ := num_R (m := m) hb hl hp H
 unfold pLabs
 have nil : encN ([] : List Int) = [] := rfl
 cases hn : pNum bs p with
 | error e =>
  rw [hn] at R1
  have R1 : RdE L h1 bs e := R1
  have hf := fail_E (m := m) R1 (p : Int) (Int.ofNat 7)
  by_cases hv : 64 ≤ v
  ·exact ⟨h1, [], callF_of rfl rfl (by kernel_rfl) (p71_0 (k0 := H.ld1) (k1 := hc) (k2 := leZ_t (a := Int.ofNat 64) hv) (k3 := hf) (k4 := nums_E R1 [] _ _)), F1, R1⟩
  ·exact ⟨h1, [], callF_of rfl rfl (by kernel_rfl) (p71_1 (k0 := H.ld1) (k1 := hc) (k2 := leZ_f (a := Int.ofNat 64) (by rw [ofN]; omega)) (k3 := nums_E R1 [] _ _)), F1, R1⟩
 | ok r =>
  obtain ⟨x, q⟩ := r
  rw [hn] at R1
  obtain ⟨hv, R1⟩ := R1
  have hv : v = x := hv
  subst hv
  obtain ⟨_, hq2, hx0, _⟩ := pNum_q hn
  simp only
  by_cases h64 : 64 ≤ v
  ·obtain ⟨h2, hf, R2, F2⟩ := fail_R (m := m) R1 p 7 (z := (p : Int)) rfl
   have R2 : RdE L h2 bs (p, 7) := ⟨_, _, R2⟩
   rw [if_pos h64]
   exact ⟨h2, [], callF_of rfl rfl (by kernel_rfl) (p71_0 (k0 := H.ld1) (k1 := hc) (k2 := leZ_t (a := Int.ofNat 64) h64) (k3 := hf) (k4 := nums_E R2 [] _ _)), F1.trans F2, R2⟩
  ·rw [if_neg h64]
   have e : v = ((v.toNat : Nat) : Int) := by omega
   obtain ⟨h2, vs, hc2, F2, R2⟩ := nums_R (m := m) (k := v.toNat) hb hl (by omega) (v.toNat + 1) (p := q) (z := 0) (out := []) (by omega) rfl hq2 R1
   rw [← e] at hc2
   refine ⟨h2, vs, callF_of rfl rfl (by kernel_rfl) (p71_1 (k0 := H.ld1) (k1 := hc) (k2 := leZ_f (a := Int.ofNat 64) (by rw [ofN]; omega)) (k3 := hc2)), F1.trans F2, ?_⟩
   cases hm : pNums bs (v.toNat + 1) q with
   | error e => rw [hm] at R2; exact R2
   | ok s => rw [hm] at R2; exact R2
end
end Go.Proofs.YthcjapmfchidhaaDoor
