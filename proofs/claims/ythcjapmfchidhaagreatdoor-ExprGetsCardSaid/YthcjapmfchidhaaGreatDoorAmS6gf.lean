/-
  The document's reader: any list, and an expression.
-/
import Derived.Test.YthcjapmfchidhaaGreatDoorAmS6gc
import Derived.Test.YthcjapmfchidhaaGreatDoorAmS6z
import Derived.Test.YthcjapmfchidhaaGreatDoorAmS6twM
import Derived.Test.YthcjapmfchidhaaGreatDoorAmS6wE
namespace Go.Proofs.YthcjapmfchidhaaGreatDoor
set_option maxRecDepth 100000
open Go Go.Proofs.Am
def qdC (bs : List Nat) (p n b w : Int) : List LV := [.v (.imm (encBy bs)), .v (.int .i64 p), .v (.int .i64 n), .v (.int .i64 b), .v (.int .i64 w)]
def bdO : Option PErr → Int
 | none => 0
 | some e => e.2
def Qd (L : Nat) (h : Heap) (bs : List Nat) (p n : Int) (e : Option PErr) : Prop := ∃ w : Int, h.bx[L]? = some (qdC bs p n (bdO e) w) ∧ ∀ e', e = some e' → w = (e'.1 : Int) ∧ e'.2 ≠ 0
def QdE (L : Nat) (h : Heap) (bs : List Nat) (e : PErr) : Prop := ∃ p n : Int, Qd L h bs p n (some e)
section
variable {m : Int} {L : Nat} {h : Heap} {bs : List Nat} {p n : Int} {e : Option PErr}
theorem Qd.ld0 (H : Qd L h bs p n e) : ldP h (.ptr L 0) 1 false = some (.imm (encBy bs)) := by obtain ⟨a, h1, _⟩ := H; exact ldP_at h1 rfl
theorem Qd.ld1 (H : Qd L h bs p n e) : ldP h (.ptr L 1) 1 false = some (.int .i64 p) := by obtain ⟨a, h1, _⟩ := H; exact ldP_at h1 rfl
theorem Qd.ld2 (H : Qd L h bs p n e) : ldP h (.ptr L 2) 1 false = some (.int .i64 n) := by obtain ⟨a, h1, _⟩ := H; exact ldP_at h1 rfl
theorem Qd.ld3 (H : Qd L h bs p n e) : ldP h (.ptr L 3) 1 false = some (.int .i64 (bdO e)) := by obtain ⟨a, h1, _⟩ := H; exact ldP_at h1 rfl
theorem eq0 : eqZ (bdO none) (Int.ofNat 0) = true := by kernel_rfl
theorem neq0 : (!eqZ (bdO none) (Int.ofNat 0)) = false := by kernel_rfl
theorem Qd.ez {e : PErr} (H : Qd L h bs p n (some e)) : eqZ (bdO (some e)) (Int.ofNat 0) = false := by
 obtain ⟨w, _, h2⟩ := H
 exact eqZ_f (h2 e rfl).2
theorem Qd.nez {e : PErr} (H : Qd L h bs p n (some e)) : (!eqZ (bdO (some e)) (Int.ofNat 0)) = true := by rw [H.ez]; rfl
theorem Qd.set1 (H : Qd L h bs p n e) (p' : Int) : ∃ h', stP h (.ptr L 1) [.v (.int .i64 p')] = some h' ∧ Qd L h' bs p' n e ∧ Fr L h h' := by
 obtain ⟨a, h1, h2⟩ := H
 refine ⟨_, stP_at h1 (show 1 < 5 by decide), ⟨a, ?_, h2⟩, Fr.put _ _ _⟩
 rw [put_same h1]; rfl
theorem Qd.set2 (H : Qd L h bs p n e) (n' : Int) : ∃ h', stP h (.ptr L 2) [.v (.int .i64 n')] = some h' ∧ Qd L h' bs p n' e ∧ Fr L h h' := by
 obtain ⟨a, h1, h2⟩ := H
 refine ⟨_, stP_at h1 (show 2 < 5 by decide), ⟨a, ?_, h2⟩, Fr.put _ _ _⟩
 rw [put_same h1]; rfl
theorem amiss_Q (H : Qd L h bs p n none) (pl : Nat) (c : Int) (hc0 : c ≠ 0) {z : Int} (hz : z = (pl : Int)) : ∃ h', callF (cxZ m) (blk (cxZ m)) 26 [.v (.ptr L 0), .v (.int .i64 c), .v (.int .i64 z)] h = some (.tup [], h') ∧ Qd L h' bs p n (some (pl, c)) ∧ Fr L h h' := by
 subst hz
 have h3 := H.ld3
 obtain ⟨w, h1, _⟩ := H
 have s1 := stP_at (x := .v (.int .i64 c)) h1 (show 3 < 5 by decide)
 have g1 := put_same (bx := (qdC bs p n (bdO none) w).set 3 (.v (.int .i64 c))) h1
 have s2 := stP_at (x := .v (.int .i64 (pl : Int))) g1 (show 4 < 5 by decide)
 refine ⟨_, callF_of rfl rfl (by kernel_rfl) (p26_0 (k0 := h3) (k1 := eq0) (k2 := s1) (k3 := s2)), ⟨(pl : Int), ?_, fun e' he => ?_⟩, (Fr.put _ _ _).trans (Fr.put _ _ _)⟩
 ·rw [put_same g1]; rfl
 ·cases he; exact ⟨rfl, hc0⟩
theorem amiss_QE {e : PErr} (H : QdE L h bs e) (z c : Int) : callF (cxZ m) (blk (cxZ m)) 26 [.v (.ptr L 0), .v (.int .i64 c), .v (.int .i64 z)] h = some (.tup [], h) := by
 obtain ⟨p, n, H⟩ := H
 exact callF_of rfl rfl (by kernel_rfl) (p26_1 (k0 := H.ld3) (k1 := H.ez))
def QRes {A : Type} (L : Nat) (h : Heap) (bs : List Nat) (n : Int) (r : PR A) (ok : A → Prop) : Prop :=
 match r with
 | .ok x => ok x.1 ∧ Qd L h bs (x.2 : Int) n none
 | .error e => QdE L h bs e
theorem byte_QE {e : PErr} (H : QdE L h bs e) : callF (cxZ m) (blk (cxZ m)) 43 [.v (.ptr L 0)] h = some (.v (.int .i64 (Int.negSucc 0)), h) := by
 obtain ⟨p, n, H⟩ := H
 exact callF_of rfl rfl (by kernel_rfl) (p43_4 (k0 := H.ld3) (k1 := H.ez) (k2 := H.ld3) (k3 := H.nez))
theorem byte_Q (hb : ∀ x, x ∈ bs → x < 256) (hl : bs.length < 2 ^ 61) {p : Nat} (H : Qd L h bs (p : Int) n none) :
  ∃ h' v, callF (cxZ m) (blk (cxZ m)) 43 [.v (.ptr L 0)] h = some (.v (.int .i64 v), h') ∧ Fr L h h' ∧ QRes L h' bs n (pByte bs p) (fun x => v = (x : Int)) ∧ ((∃ e, pByte bs p = .error e) → v = Int.negSucc 0) := by
 unfold pByte
 cases hx : bs[p]? with
 | none =>
  have hge := List.getElem?_eq_none_iff.1 hx
  obtain ⟨h', hc, H', F⟩ := amiss_Q (m := m) H bs.length 2 (by decide) (z := Int.ofNat (encBy bs).length) (by rw [encBy_len]; rfl)
  exact ⟨h', _, callF_of rfl rfl (by kernel_rfl) (p43_0 (k0 := H.ld3) (k1 := eq0) (k2 := H.ld1) (k3 := H.ld0) (k4 := leZ_t (by rw [encBy_len, ofN]; omega)) (k5 := H.ld0) (k6 := hc) (k7 := H'.ld3) (k8 := H'.nez)), F, ⟨_, _, H'⟩, fun _ => rfl⟩
 | some x =>
  have hlt := (List.getElem?_eq_some_iff.1 hx).1
  have h256 := hb x (List.mem_of_getElem? hx)
  have wp : IntKind.wrap .i64 ((p : Int) + Int.ofNat 1) = ((p + 1 : Nat) : Int) := by rw [ofN, wrapI (by unfold InZ; omega)]; omega
  have wq : IntKind.wrap .i64 (((p + 1 : Nat) : Int) - Int.ofNat 1) = (p : Int) := by rw [ofN, wrapI (by unfold InZ; omega)]; omega
  obtain ⟨h', hs, H', F⟩ := H.set1 (IntKind.wrap .i64 ((p : Int) + Int.ofNat 1))
  have hv : IntKind.wrap .i64 (x : Int) = (x : Int) := wrapI (by unfold InZ; omega)
  refine ⟨h', _, callF_of rfl rfl (by kernel_rfl) (p43_3 (k0 := H.ld3) (k1 := eq0) (k2 := H.ld1) (k3 := H.ld0) (k4 := leZ_f (by rw [encBy_len, ofN]; omega)) (k5 := H.ld3) (k6 := neq0) (k7 := H.ld1) (k8 := hs) (k9 := H'.ld0) (k10 := H'.ld1) (k11 := ix_by (by rw [wp, wq]) hx)), F, ⟨hv, ?_⟩, fun ⟨e, he⟩ => by cases he⟩
  rw [wp] at H'
  exact H'
theorem must_QE {e : PErr} (H : QdE L h bs e) : callF (cxZ m) (blk (cxZ m)) 74 [.v (.ptr L 0), .v (.int .i64 (Int.ofNat 0))] h = some (.tup [], h) := by
 have hc := byte_QE (m := m) H
 have hf := amiss_QE (m := m) H
 obtain ⟨p, n, H⟩ := H
 exact callF_of rfl rfl (by kernel_rfl) (p74_0 (k0 := H.ld1) (k1 := hc) (k2 := rfl) (k3 := hf _ _))
theorem must_Q (hb : ∀ x, x ∈ bs → x < 256) (hl : bs.length < 2 ^ 61) {p : Nat} (H : Qd L h bs (p : Int) n none) :
  ∃ h', callF (cxZ m) (blk (cxZ m)) 74 [.v (.ptr L 0), .v (.int .i64 (Int.ofNat 0))] h = some (.tup [], h') ∧ Fr L h h' ∧ QRes L h' bs n (pMust bs 0 p) (fun _ => True) := by
 obtain ⟨h1, v, hc, F1, R1, hv1⟩ := byte_Q (m := m) hb hl H
 unfold pMust
 cases hp : pByte bs p with
 | error e =>
  rw [hp] at R1
  have R1 : QdE L h1 bs e := R1
  have hf := amiss_QE (m := m) R1 (p : Int) (Int.ofNat 2)
  have hv := hv1 ⟨e, hp⟩
  subst hv
  exact ⟨h1, callF_of rfl rfl (by kernel_rfl) (p74_0 (k0 := H.ld1) (k1 := hc) (k2 := rfl) (k3 := hf)), F1, R1⟩
 | ok r =>
  rw [hp] at R1
  obtain ⟨hv, R1⟩ := R1
  simp only
  by_cases h0 : r.1 = 0
  ·rw [if_pos h0]
   exact ⟨h1, callF_of rfl rfl (by kernel_rfl) (p74_1 (k0 := H.ld1) (k1 := hc) (k2 := congrArg not (eqZ_t (b := Int.ofNat 0) (by rw [hv, h0]; rfl)))), F1, trivial, R1⟩
  ·rw [if_neg h0]
   obtain ⟨h2, hf, R2, F2⟩ := amiss_Q (m := m) R1 p 2 (by decide) (z := (p : Int)) rfl
   exact ⟨h2, callF_of rfl rfl (by kernel_rfl) (p74_0 (k0 := H.ld1) (k1 := hc) (k2 := congrArg not (eqZ_f (b := Int.ofNat 0) (by rw [hv, ofN]; omega))) (k3 := hf)), F1.trans F2, ⟨_, _, R2⟩⟩
def pVal (bs : List Nat) (B : Nat) (sg : Bool) (p : Nat) : PR Nat :=
 match digN bs (if B = 64 then 10 else 5) p with
 | none => .error (p, 2)
 | some r => match readF (bitsF r.1) B sg with
  | none => .error (p, 2)
  | some v => .ok (v, r.2)
theorem val_Q (hb : ∀ x, x ∈ bs → x < 256) (hl : bs.length < 2 ^ 61) {p : Nat} (hp : p ≤ bs.length) (H : Qd L h bs (p : Int) n none) {B : Nat} (hB : B = 32 ∨ B = 64) (sg : Bool) :
  ∃ h' v, callF (cxZ m) (blk (cxZ m)) 75 [.v (.ptr L 0), .v (.int .i64 (B : Int)), .v (.bool sg)] h = some (.v (.int .u64 v), h') ∧ Fr L h h' ∧ QRes L h' bs n (pVal bs B sg p) (fun x => v = (x : Int)) := by
 have hu := read_Z (m := m) (h := h) hb (by omega) (sg := sg) hB hp
 unfold readV at hu
 unfold pVal
 have bad : callF (cxZ m) (blk (cxZ m)) 62 [.v (.imm (encBy bs)), .v (.int .i64 (p : Int)), .v (.int .i64 (B : Int)), .v (.bool sg)] h = some (noNum, h) →
   ∃ h' v, callF (cxZ m) (blk (cxZ m)) 75 [.v (.ptr L 0), .v (.int .i64 (B : Int)), .v (.bool sg)] h = some (.v (.int .u64 v), h') ∧ Fr L h h' ∧ QdE L h' bs (p, 2) := fun hu => by
  obtain ⟨h1, hf, R1, F1⟩ := amiss_Q (m := m) H p 2 (by decide) (z := (p : Int)) rfl
  exact ⟨h1, _, callF_of rfl rfl (by kernel_rfl) (p75_1 (k0 := H.ld3) (k1 := neq0) (k2 := H.ld0) (k3 := H.ld1) (k4 := hu) (k5 := rfl) (k6 := H.ld1) (k7 := hf)), F1, ⟨_, _, R1⟩⟩
 cases hd : digN bs (if B = 64 then 10 else 5) p with
 | none => rw [hd] at hu; exact bad hu
 | some r =>
  rw [hd] at hu
  simp only at hu ⊢
  cases hr : readF (bitsF r.1) B sg with
  | none => rw [hr] at hu; exact bad hu
  | some v =>
   rw [hr] at hu
   obtain ⟨h1, hs, R1, F1⟩ := H.set1 (r.2 : Int)
   exact ⟨h1, _, callF_of rfl rfl (by kernel_rfl) (p75_2 (k0 := H.ld3) (k1 := neq0) (k2 := H.ld0) (k3 := H.ld1) (k4 := hu) (k5 := rfl) (k6 := hs)), F1, rfl, R1⟩
theorem val_QE {e : PErr} (H : QdE L h bs e) (B : Int) (sg : Bool) : callF (cxZ m) (blk (cxZ m)) 75 [.v (.ptr L 0), .v (.int .i64 B), .v (.bool sg)] h = some (.v (.int .u64 (Int.ofNat 0)), h) := by
 obtain ⟨p, n, H⟩ := H
 exact callF_of rfl rfl (by kernel_rfl) (p75_0 (k0 := H.ld3) (k1 := H.nez))
theorem readU_d {d : List Nat} {B : Nat} (hB : B = 32 ∨ B = 64) (hd : ∀ x, x ∈ d → x < 128) : readF (bitsF d) B false = rdU (valD d) B := by
 rw [bitsF_eq hd, readU hB (by have := valD_lt hd; rw [pow128] at this; exact this)]
theorem pVal_num (p : Nat) : pVal bs 32 false p = match pNum bs p with | .error e => .error e | .ok r => .ok (r.1.toNat, r.2) := by
 unfold pVal pNum
 rw [if_neg (by decide)]
 cases hd : digN bs 5 p with
 | none => rfl
 | some r =>
  obtain ⟨_, _, _, _, d5⟩ := digN_ok 5 p (d := r.1) (q := r.2) hd
  simp only
  rw [readU_d (.inl rfl) d5]
  unfold rdU
  by_cases hv : valD r.1 < 2 ^ 32
  ·rw [if_pos hv, if_pos hv]; simp only [Int.toNat_natCast]
  ·rw [if_neg hv, if_neg hv]
theorem pVal_con (w : Bool) (p : Nat) : (match pVal bs (if w then 64 else 32) true p with | .error e => .error e | .ok r => .ok ((if w then (r.1 : Int) else ((r.1 % 4294967296 : Nat) : Int)), r.2)) = pCon bs w p := by
 unfold pVal pCon
 have e : (if (if w = true then 64 else 32) = 64 then 10 else 5) = if w = true then 10 else 5 := by cases w <;> rfl
 rw [e]
 cases hd : digN bs (if w = true then 10 else 5) p with
 | none => rfl
 | some r =>
  obtain ⟨d1, d2, _, _, d5⟩ := digN_ok _ p (d := r.1) (q := r.2) hd
  simp only
  rw [bitsF_eq d5, readS (by cases w <;> simp at d2 ⊢ <;> exact d2) d1 (by have := valD_lt d5; rw [pow128] at this; exact this)]
  cases rdS (valD r.1) r.1.length (if w = true then 64 else 32) <;> rfl
theorem num_Q (hb : ∀ x, x ∈ bs → x < 256) (hl : bs.length < 2 ^ 61) {p : Nat} (hp : p ≤ bs.length) (H : Qd L h bs (p : Int) n none) :
  ∃ h' v, callF (cxZ m) (blk (cxZ m)) 73 [.v (.ptr L 0)] h = some (.v (.int .i64 v), h') ∧ Fr L h h' ∧ QRes L h' bs n (pNum bs p) (fun x => v = x) ∧ ((∃ e, pNum bs p = .error e) → True) := by
 obtain ⟨h1, v, hc, F1, R1⟩ := val_Q (m := m) hb hl hp H (B := 32) (.inl rfl) false
 rw [pVal_num] at R1
 refine ⟨h1, _, callF_of rfl rfl (by kernel_rfl) (p73_0 (k0 := hc)), F1, ?_, fun _ => trivial⟩
 cases hn : pNum bs p with
 | error e => rw [hn] at R1; exact R1
 | ok r =>
  rw [hn] at R1
  obtain ⟨x, q⟩ := r
  obtain ⟨_, _, x0, x1⟩ := pNum_q hn
  obtain ⟨hv, R1⟩ := R1
  have hv : v = ((x.toNat : Nat) : Int) := hv
  exact ⟨by rw [hv, Int.toNat_of_nonneg x0]; exact wrapI (by unfold InZ; omega), R1⟩
theorem num_QE {e : PErr} (H : QdE L h bs e) : callF (cxZ m) (blk (cxZ m)) 73 [.v (.ptr L 0)] h = some (.v (.int .i64 0), h) := by
 have := val_QE (m := m) H (Int.ofNat 32) false
 exact callF_of rfl rfl (by kernel_rfl) (p73_0 (k0 := this))
theorem res_Q (hb : ∀ x, x ∈ bs → x < 256) (hl : bs.length < 2 ^ 61) {p : Nat} (H : Qd L h bs (p : Int) n none) :
  ∃ h' v, callF (cxZ m) (blk (cxZ m)) 72 [.v (.ptr L 0)] h = some (.v (.int .i64 v), h') ∧ Fr L h h' ∧ QRes L h' bs n (pRes bs p) (fun x => v = x) := by
 obtain ⟨h1, v, hc, F1, R1, hv1⟩ := byte_Q (m := m) hb hl H
 unfold pRes
 cases hp : pByte bs p with
 | error e =>
  rw [hp] at R1
  have R1 : QdE L h1 bs e := R1
  have f2 := amiss_QE (m := m) R1 (p : Int) (Int.ofNat 2)
  have hv := hv1 ⟨e, hp⟩
  subst hv
  exact ⟨h1, _, callF_of rfl rfl (by kernel_rfl) (p72_5 (k0 := H.ld1) (k1 := hc) (k2 := rfl) (k3 := rfl) (k4 := rfl) (k5 := rfl) (k6 := rfl) (k7 := f2)), F1, R1⟩
 | ok r =>
  rw [hp] at R1
  obtain ⟨hv, R1⟩ := R1
  simp only
  have hne : ∀ k : Nat, r.1 ≠ k → eqZ v (Int.ofNat k) = false := fun k hk => eqZ_f (by rw [hv, ofN]; omega)
  have heq : ∀ k : Nat, r.1 = k → eqZ v (Int.ofNat k) = true := fun k hk => eqZ_t (by rw [hv, ofN]; omega)
  by_cases c64 : r.1 = 64
  ·rw [if_pos c64]
   exact ⟨h1, _, callF_of rfl rfl (by kernel_rfl) (p72_0 (k0 := H.ld1) (k1 := hc) (k2 := heq _ c64)), F1, rfl, R1⟩
  rw [if_neg c64]
  by_cases c127 : r.1 = 127
  ·rw [if_pos c127]
   exact ⟨h1, _, callF_of rfl rfl (by kernel_rfl) (p72_1 (k0 := H.ld1) (k1 := hc) (k2 := hne _ c64) (k3 := heq _ c127)), F1, show _ = _ from by rw [hv, c127]; kernel_rfl, R1⟩
  rw [if_neg c127]
  by_cases c126 : r.1 = 126
  ·rw [if_pos c126]
   exact ⟨h1, _, callF_of rfl rfl (by kernel_rfl) (p72_2 (k0 := H.ld1) (k1 := hc) (k2 := hne _ c64) (k3 := hne _ c127) (k4 := heq _ c126)), F1, show _ = _ from by rw [hv, c126]; kernel_rfl, R1⟩
  rw [if_neg c126]
  by_cases c125 : r.1 = 125
  ·obtain ⟨h2, f3, R2, F2⟩ := amiss_Q (m := m) R1 p 3 (by decide) (z := (p : Int)) rfl
   have R2 : QdE L h2 bs (p, 3) := ⟨_, _, R2⟩
   rw [if_pos (.inl c125)]
   exact ⟨h2, _, callF_of rfl rfl (by kernel_rfl) (p72_3 (k0 := H.ld1) (k1 := hc) (k2 := hne _ c64) (k3 := hne _ c127) (k4 := hne _ c126) (k5 := heq _ c125) (k6 := f3) (k7 := amiss_QE (m := m) R2 _ _)), F1.trans F2, R2⟩
  by_cases c124 : r.1 = 124
  ·obtain ⟨h2, f3, R2, F2⟩ := amiss_Q (m := m) R1 p 3 (by decide) (z := (p : Int)) rfl
   have R2 : QdE L h2 bs (p, 3) := ⟨_, _, R2⟩
   rw [if_pos (.inr c124)]
   exact ⟨h2, _, callF_of rfl rfl (by kernel_rfl) (p72_4 (k0 := H.ld1) (k1 := hc) (k2 := hne _ c64) (k3 := hne _ c127) (k4 := hne _ c126) (k5 := hne _ c125) (k6 := heq _ c124) (k7 := f3) (k8 := amiss_QE (m := m) R2 _ _)), F1.trans F2, R2⟩
  ·obtain ⟨h2, f2, R2, F2⟩ := amiss_Q (m := m) R1 p 2 (by decide) (z := (p : Int)) rfl
   rw [if_neg (by omega)]
   exact ⟨h2, _, callF_of rfl rfl (by kernel_rfl) (p72_5 (k0 := H.ld1) (k1 := hc) (k2 := hne _ c64) (k3 := hne _ c127) (k4 := hne _ c126) (k5 := hne _ c125) (k6 := hne _ c124) (k7 := f2)), F1.trans F2, ⟨_, _, R2⟩⟩
def qlA (L : Nat) (o n z : Int) (out : List Int) : List LV := [.v (.ptr L 0), .lp 0 0, .lp 1 0, .v (.int .i64 n), .v (.int .i64 z), .v (.int .i64 (.ofNat 0)), .v (.int .i64 (.ofNat 0)), .v (.int .i64 (.ofNat 0)), .v (.int .u64 (.ofNat 0)), .v (.int .i64 (.ofNat 0)), .ow 1 [], .ow 9 [], .ow 9 [], .v (.bool false), .v (.int .i64 o), .v (.int .i64 (.ofNat 0)), .v (.int .i64 (.ofNat 0)), .v (.int .u64 (.ofNat 0)), .v (.int .i64 (.ofNat 0)), .ow 1 (encN out), .ow 9 [], .ow 9 [], .v (.bool false)]
theorem nums_QE {e : PErr} (H : QdE L h bs e) (o : Int) (out : List Int) (k z : Int) : blk (cxZ m) 45 (at_ Tryz.prog 45 29) (qlA L o k z out) h = some (.v (.agg (encI (.mk o 0 0 0 0 out [] [] false))), h) := by
 obtain ⟨p, n, H⟩ := H
 by_cases hz : z ≤ k
 ·exact p45_29_1 (k0 := leZ_t hz) (k1 := H.ld3) (k2 := H.ez)
 ·exact p45_29_2 (k0 := leZ_f (by omega))
theorem nums_Q (hb : ∀ x, x ∈ bs → x < 256) (hl : bs.length < 2 ^ 61) {k : Nat} (hk : k < 64) {o : Int} : ∀ (j : Nat) {p : Nat} {z : Nat} {h : Heap} {out : List Int}, z + j = k + 1 → out.length = z → p ≤ bs.length → Qd L h bs (p : Int) n none →
  ∃ h' vs, blk (cxZ m) 45 (at_ Tryz.prog 45 29) (qlA L o (k : Int) (z : Int) out) h = some (.v (.agg (encI (.mk o 0 0 0 0 vs [] [] false))), h') ∧ Fr L h h' ∧ QRes L h' bs n (pNums bs j p) (fun l => vs = out ++ l)
 | 0, p, z, h, out, hz, ho, hp, H => by
  refine ⟨h, out, p45_29_2 (k0 := leZ_f (by omega)), Fr.refl _ _, ?_⟩
  rw [pNums]
  exact ⟨(List.append_nil out).symm, H⟩
 | j + 1, p, z, h, out, hz, ho, hp, H => by
  obtain ⟨h1, v, hc, F1, R1, _⟩ := num_Q (m := m) hb hl hp H
  have k5 : apL (.ow 1 (encN out)) 1 8 [[.int .i64 v]] = some (.ow 1 (encN (out ++ [v]))) := ap_int (by omega)
  have wz : IntKind.wrap .i64 ((z : Int) + Int.ofNat 1) = ((z + 1 : Nat) : Int) := by rw [ofN, wrapI (by unfold InZ; omega)]; omega
  have k0 : leZ (z : Int) (k : Int) = true := leZ_t (by omega)
  rw [pNums]
  cases hn : pNum bs p with
  | error e =>
   rw [hn] at R1
   have R1 : QdE L h1 bs e := R1
   exact ⟨h1, out ++ [v], p45_29_0 (k0 := k0) (k1 := H.ld3) (k2 := eq0) (k3 := hc) (k4 := k5) (k5 := nums_QE R1 _ _ _ _), F1, R1⟩
  | ok r =>
   obtain ⟨x, q⟩ := r
   rw [hn] at R1
   obtain ⟨hv, R1⟩ := R1
   have hv : v = x := hv
   subst hv
   obtain ⟨_, hq2, _⟩ := pNum_q hn
   obtain ⟨h2, vs, hc2, F2, R2⟩ := nums_Q hb hl hk j (p := q) (z := z + 1) (out := out ++ [v]) (by omega) (by rw [List.length_append, List.length_singleton]; omega) hq2 R1
   refine ⟨h2, vs, p45_29_0 (k0 := k0) (k1 := H.ld3) (k2 := eq0) (k3 := hc) (k4 := k5) (k5 := by rw [wz]; exact hc2), F1.trans F2, ?_⟩
   simp only
   cases hm : pNums bs j q with
   | error e => rw [hm] at R2; exact R2
   | ok s =>
    rw [hm] at R2
    exact ⟨R2.1.trans (by rw [List.append_assoc, List.singleton_append]), R2.2⟩
end
end Go.Proofs.YthcjapmfchidhaaGreatDoor
namespace Go.Proofs.YthcjapmfchidhaaGreatDoor
set_option maxRecDepth 100000
open Go Go.Proofs.Am
def QResL (L : Nat) (h : Heap) (bs : List Nat) (out : List Ins) (r : PL) (vs : List Ins) (last : Int) : Prop :=
 match r with
 | .ok x => vs = out ++ x.1 ∧ last = (x.2.1 : Int) ∧ Qd L h bs (x.2.2.1 : Int) (x.2.2.2 : Int) none
 | .error e => QdE L h bs e
def QResI (L : Nat) (h : Heap) (bs : List Nat) (r : PI) (v : Ins) : Prop :=
 match r with
 | .ok x => v = x.1 ∧ Qd L h bs (x.2.1 : Int) (x.2.2 : Int) none
 | .error e => QdE L h bs e
def ListQ (m : Int) (L : Nat) (bs : List Nat) (f : Nat) : Prop := ∀ ⦃d p n : Nat⦄ ⦃h : Heap⦄ ⦃out : List Ins⦄, p ≤ bs.length → bs.length < p + f → n ≤ 512 → out.length ≤ n → d ≤ 33 → Qd L h bs (p : Int) (n : Int) none →
 ∃ h' vs last, blk (cxZ m) 25 (at_ Tryz.prog 25 2) [.v (.ptr L 0), .v (.int .i64 (d : Int)), .ow 9 (encIs out)] h = some (.tup [.imm (encIs vs), .int .i64 last], h') ∧ Fr L h h' ∧ QResL L h' bs out (pL bs f d p n) vs last
section
variable {m : Int} {L : Nat} {h : Heap} {bs : List Nat}
theorem list_QE {e : PErr} (H : QdE L h bs e) (out : List (List AV)) (d : Int) : blk (cxZ m) 25 (at_ Tryz.prog 25 2) [.v (.ptr L 0), .v (.int .i64 d), .ow 9 out] h = some (.tup [.imm [], .int .i64 (Int.ofNat 0)], h) := by
 obtain ⟨p, n, H⟩ := H
 exact p25_2_35 (k0 := H.ld3) (k1 := H.ez)
theorem listC_QE {e : PErr} (H : QdE L h bs e) (d : Int) : callF (cxZ m) (blk (cxZ m)) 25 [.v (.ptr L 0), .v (.int .i64 d)] h = some (.tup [.imm [], .int .i64 (Int.ofNat 0)], h) :=
 callF_of rfl rfl (by kernel_rfl) (p25_0 (k0 := list_QE H [] d))
theorem listC_Q {f : Nat} (W : ListQ m L bs f) {d p n : Nat} (hp : p ≤ bs.length) (hf : bs.length < p + f) (hn : n ≤ 512) (hd : d ≤ 33) (H : Qd L h bs (p : Int) (n : Int) none) :
  ∃ h' vs last, callF (cxZ m) (blk (cxZ m)) 25 [.v (.ptr L 0), .v (.int .i64 (d : Int))] h = some (.tup [.imm (encIs vs), .int .i64 last], h') ∧ Fr L h h' ∧ QResL L h' bs [] (pL bs f d p n) vs last := by
 obtain ⟨h', vs, last, hc, F, R⟩ := W (out := []) hp hf hn (Nat.zero_le _) hd H
 exact ⟨h', vs, last, callF_of rfl rfl (by kernel_rfl) (p25_0 (k0 := hc)), F, R⟩
theorem ins_Q (hb : ∀ x, x ∈ bs → x < 256) (hl : bs.length < 2 ^ 61) {f : Nat} (W : ListQ m L bs f) {o : Int} {r : OpR} {d p n : Nat} (hop : opI o = some r) (hp : p ≤ bs.length) (hf : bs.length < p + f) (hn : n ≤ 512) (hd : r.kind = 2 → d < 32) (H : Qd L h bs (p : Int) (n : Int) none) (hd33 : d ≤ 33) :
  ∃ h' v, callF (cxZ m) (blk (cxZ m)) 45 [.v (.ptr L 0), .v (.int .i64 o), .v (.int .i64 (d : Int))] h = some (.v (.agg (encI v)), h') ∧ Fr L h h' ∧ QResI L h' bs (pIns bs (pL bs f) d r o p n) v := by
 have hk : callF (cxZ m) (blk (cxZ m)) 35 [.v (.int .i64 o)] h = some (.v (.int .i64 r.kind), h) := by
  rw [kind_Q, kind_op, hop]
 have wd : IntKind.wrap .i64 ((d : Int) + Int.ofNat 1) = ((d + 1 : Nat) : Int) := by rw [ofN, wrapI (by unfold InZ; omega)]; omega
 unfold pIns
 by_cases h2 : r.kind = 2
 ·rw [if_pos h2]
  have hd := hd h2
  have k1 : eqZ r.kind (Int.ofNat 2) = true := eqZ_t h2
  obtain ⟨h1, t, hc1, F1, R1⟩ := res_Q (m := m) hb hl H
  cases hr : pRes bs p with
  | error e =>
   rw [hr] at R1
   have R1 : QdE L h1 bs e := R1
   have hc2 := listC_QE (m := m) R1 (IntKind.wrap .i64 ((d : Int) + Int.ofNat 1))
   exact ⟨h1, .mk o 0 0 0 t [] [] [] false, callF_of rfl rfl (by kernel_rfl) (p45_5 (k0 := hk) (k1 := k1) (k2 := hc1) (k3 := hc2) (k4 := rfl)), F1, R1⟩
  | ok x =>
   rw [hr] at R1
   obtain ⟨ht, R1⟩ := R1
   obtain ⟨a1, a2, _, _⟩ := pRes_ok (t := x.1) (q := x.2) hr
   obtain ⟨h2', vs, last, hc2, F2, R2⟩ := listC_Q W (d := d + 1) a2 (by omega) hn (by omega) R1
   rw [← wd] at hc2
   simp only
   cases hL : pL bs f (d + 1) x.2 n with
   | error e =>
    rw [hL] at R2
    have R2 : QdE L h2' bs e := R2
    by_cases h5 : last = 5
    ·have hf2 := amiss_QE (m := m) R2
     have hc3 := listC_QE (m := m) R2 (IntKind.wrap .i64 ((d : Int) + Int.ofNat 1))
     obtain ⟨p', n', R3⟩ := R2
     by_cases h4 : o = 4
     ·exact ⟨h2', .mk o 0 0 0 t [] vs [] true, callF_of rfl rfl (by kernel_rfl) (p45_1 (k0 := hk) (k1 := k1) (k2 := hc1) (k3 := hc2) (k4 := eqZ_t (b := Int.ofNat 5) h5) (k5 := eqZ_t (b := Int.ofNat 4) h4) (k6 := hc3) (k7 := rfl)), F1.trans F2, ⟨p', n', R3⟩⟩
     ·exact ⟨h2', .mk o 0 0 0 t [] vs [] false, callF_of rfl rfl (by kernel_rfl) (p45_2 (k0 := hk) (k1 := k1) (k2 := hc1) (k3 := hc2) (k4 := eqZ_t (b := Int.ofNat 5) h5) (k5 := eqZ_f (b := Int.ofNat 4) h4) (k6 := R3.ld1) (k7 := hf2 _ _)), F1.trans F2, ⟨p', n', R3⟩⟩
    ·exact ⟨h2', .mk o 0 0 0 t [] vs [] false, callF_of rfl rfl (by kernel_rfl) (p45_5 (k0 := hk) (k1 := k1) (k2 := hc1) (k3 := hc2) (k4 := eqZ_f (b := Int.ofNat 5) h5)), F1.trans F2, R2⟩
   | ok y =>
    obtain ⟨bd, l, p2, n2⟩ := y
    have B := list_q a2 hL
    rw [hL] at R2
    obtain ⟨e1, e2, R2⟩ := R2
    have e1 : vs = bd := e1
    have e2 : last = (l : Int) := e2
    subst e1
    subst e2
    have ht' : t = x.1 := ht
    subst ht'
    have R2 : Qd L h2' bs (p2 : Int) (n2 : Int) none := R2
    simp only
    by_cases h5 : l = 5
    ·rw [if_pos h5]
     have k4 : eqZ (l : Int) (Int.ofNat 5) = true := eqZ_t (by rw [h5]; rfl)
     have sz := B.sz
     by_cases h4 : o = 4
     ·rw [if_pos h4]
      obtain ⟨h3, vs2, last2, hc3, F3, R3⟩ := listC_Q W (d := d + 1) B.qb (by omega) (B.n5 hn) (by omega) R2
      rw [← wd] at hc3
      have k5 : eqZ o (Int.ofNat 4) = true := eqZ_t (b := Int.ofNat 4) h4
      cases hL2 : pL bs f (d + 1) p2 n2 with
      | error e =>
       rw [hL2] at R3
       have R3 : QdE L h3 bs e := R3
       by_cases h55 : last2 = 5
       ·have hf2 := amiss_QE (m := m) R3
        obtain ⟨p', n', R4⟩ := R3
        exact ⟨h3, .mk o 0 0 0 x.1 [] vs vs2 true, callF_of rfl rfl (by kernel_rfl) (p45_0 (k0 := hk) (k1 := k1) (k2 := hc1) (k3 := hc2) (k4 := k4) (k5 := k5) (k6 := hc3) (k7 := eqZ_t (b := Int.ofNat 5) h55) (k8 := R4.ld1) (k9 := hf2 _ _)), (F1.trans F2).trans F3, ⟨p', n', R4⟩⟩
       ·exact ⟨h3, .mk o 0 0 0 x.1 [] vs vs2 true, callF_of rfl rfl (by kernel_rfl) (p45_1 (k0 := hk) (k1 := k1) (k2 := hc1) (k3 := hc2) (k4 := k4) (k5 := k5) (k6 := hc3) (k7 := eqZ_f (b := Int.ofNat 5) h55)), (F1.trans F2).trans F3, R3⟩
      | ok z =>
       obtain ⟨el, l2, p3, n3⟩ := z
       have E := list_q B.qb hL2
       have sz2 := E.sz
       rw [hL2] at R3
       obtain ⟨e1, e2, R3⟩ := R3
       have e1 : vs2 = el := e1
       have e2 : last2 = (l2 : Int) := e2
       subst e1
       subst e2
       have R3 : Qd L h3 bs (p3 : Int) (n3 : Int) none := R3
       simp only
       by_cases h55 : l2 = 5
       ·rw [if_pos h55]
        obtain ⟨h4', hf2, R4, F4⟩ := amiss_Q (m := m) R3 (p3 - 1) 2 (by decide) (z := IntKind.wrap .i64 ((p3 : Int) - Int.ofNat 1)) (by rw [ofN, wrapI (by have := E.qb; unfold InZ; omega)]; omega)
        exact ⟨h4', .mk o 0 0 0 x.1 [] vs vs2 true, callF_of rfl rfl (by kernel_rfl) (p45_0 (k0 := hk) (k1 := k1) (k2 := hc1) (k3 := hc2) (k4 := k4) (k5 := k5) (k6 := hc3) (k7 := eqZ_t (b := Int.ofNat 5) (by rw [h55]; rfl)) (k8 := R3.ld1) (k9 := hf2)), ((F1.trans F2).trans F3).trans F4, ⟨_, _, R4⟩⟩
       ·rw [if_neg h55]
        exact ⟨h3, .mk o 0 0 0 x.1 [] vs vs2 true, callF_of rfl rfl (by kernel_rfl) (p45_1 (k0 := hk) (k1 := k1) (k2 := hc1) (k3 := hc2) (k4 := k4) (k5 := k5) (k6 := hc3) (k7 := eqZ_f (b := Int.ofNat 5) (by rw [ofN]; omega))), (F1.trans F2).trans F3, rfl, R3⟩
     ·rw [if_neg h4]
      obtain ⟨h4', hf2, R4, F4⟩ := amiss_Q (m := m) R2 (p2 - 1) 2 (by decide) (z := IntKind.wrap .i64 ((p2 : Int) - Int.ofNat 1)) (by rw [ofN, wrapI (by have := B.qb; unfold InZ; omega)]; omega)
      exact ⟨h4', .mk o 0 0 0 x.1 [] vs [] false, callF_of rfl rfl (by kernel_rfl) (p45_2 (k0 := hk) (k1 := k1) (k2 := hc1) (k3 := hc2) (k4 := k4) (k5 := eqZ_f (b := Int.ofNat 4) h4) (k6 := R2.ld1) (k7 := hf2)), (F1.trans F2).trans F4, ⟨_, _, R4⟩⟩
    ·rw [if_neg h5]
     exact ⟨h2', .mk o 0 0 0 x.1 [] vs [] false, callF_of rfl rfl (by kernel_rfl) (p45_5 (k0 := hk) (k1 := k1) (k2 := hc1) (k3 := hc2) (k4 := eqZ_f (b := Int.ofNat 5) (by rw [ofN]; omega))), F1.trans F2, rfl, R2⟩
 have n2 := eqZ_f (a := r.kind) (b := Int.ofNat 2) h2
 rw [if_neg h2]
 unfold pPlain
 by_cases h78 : r.kind = 7 ∨ r.kind = 8
 ·rw [if_pos h78]
  obtain ⟨h1, a, hc1, F1, R1, _⟩ := num_Q (m := m) hb hl hp H
  unfold pNum2
  cases hn1 : pNum bs p with
  | error e =>
   rw [hn1] at R1
   have R1 : QdE L h1 bs e := R1
   have hc2 := num_QE (m := m) R1
   by_cases h7 : r.kind = 7
   ·exact ⟨h1, .mk o a 0 0 0 [] [] [] false, callF_of rfl rfl (by kernel_rfl) (p45_6 (k0 := hk) (k1 := n2) (k2 := eqZ_t (b := Int.ofNat 7) h7) (k3 := hc1) (k4 := hc2)), F1, R1⟩
   ·exact ⟨h1, .mk o a 0 0 0 [] [] [] false, callF_of rfl rfl (by kernel_rfl) (p45_7 (k0 := hk) (k1 := n2) (k2 := eqZ_f (b := Int.ofNat 7) h7) (k3 := eqZ_t (b := Int.ofNat 8) (show r.kind = 8 from by omega)) (k4 := hc1) (k5 := hc2)), F1, R1⟩
  | ok x =>
   rw [hn1] at R1
   obtain ⟨e1, R1⟩ := R1
   obtain ⟨_, _, q1, _⟩ := pNum_ok (x := x.1) (q := x.2) hn1
   obtain ⟨h2', b, hc2, F2, R2, _⟩ := num_Q (m := m) hb hl q1 R1
   dsimp only
   have fin : QResI L h2' bs (match (match pNum bs x.2 with | .error e => .error e | .ok s => .ok ((x.1, s.1), s.2) : PR (Int × Int)) with | .error e => .error e | .ok s => .ok (.mk o s.1.1 s.1.2 0 0 [] [] [] false, s.2, n)) (.mk o a b 0 0 [] [] [] false) := by
    cases hn2 : pNum bs x.2 with
    | error e => rw [hn2] at R2; exact R2
    | ok y =>
     rw [hn2] at R2
     have e1 : a = x.1 := e1
     have e2 : b = y.1 := R2.1
     subst e1; subst e2
     exact ⟨rfl, R2.2⟩
   by_cases h7 : r.kind = 7
   ·exact ⟨h2', .mk o a b 0 0 [] [] [] false, callF_of rfl rfl (by kernel_rfl) (p45_6 (k0 := hk) (k1 := n2) (k2 := eqZ_t (b := Int.ofNat 7) h7) (k3 := hc1) (k4 := hc2)), F1.trans F2, by
     revert fin
     cases pNum bs x.2 <;> exact fun R => R⟩
   ·exact ⟨h2', .mk o a b 0 0 [] [] [] false, callF_of rfl rfl (by kernel_rfl) (p45_7 (k0 := hk) (k1 := n2) (k2 := eqZ_f (b := Int.ofNat 7) h7) (k3 := eqZ_t (b := Int.ofNat 8) (show r.kind = 8 from by omega)) (k4 := hc1) (k5 := hc2)), F1.trans F2, by
     revert fin
     cases pNum bs x.2 <;> exact fun R => R⟩
 rw [if_neg h78]
 have n7 := eqZ_f (a := r.kind) (b := Int.ofNat 7) (fun hh => h78 (.inl hh))
 have n8 := eqZ_f (a := r.kind) (b := Int.ofNat 8) (fun hh => h78 (.inr hh))
 by_cases h9 : r.kind = 9
 ·rw [if_pos h9]
  obtain ⟨h1, hc1, F1, R1⟩ := must_Q (m := m) hb hl H
  refine ⟨h1, .mk o 0 0 0 0 [] [] [] false, callF_of rfl rfl (by kernel_rfl) (p45_8 (k0 := hk) (k1 := n2) (k2 := n7) (k3 := n8) (k4 := eqZ_t (b := Int.ofNat 9) h9) (k5 := hc1)), F1, by
   revert R1
   cases pMust bs 0 p with
   | error e => exact fun R => R
   | ok s => exact fun R => ⟨rfl, R.2⟩⟩
 rw [if_neg h9]
 have n9 := eqZ_f (a := r.kind) (b := Int.ofNat 9) h9
 by_cases h65 : o = 65
 ·rw [if_pos h65]
  obtain ⟨h1, v, hc1, F1, R1⟩ := val_Q (m := m) hb hl hp H (B := 32) (.inl rfl) true
  refine ⟨h1, .mk o 0 0 (Int.tmod v (.ofNat 4294967296)) 0 [] [] [] false, callF_of rfl rfl (by kernel_rfl) (p45_9 (k0 := hk) (k1 := n2) (k2 := n7) (k3 := n8) (k4 := n9) (k5 := eqZ_t (b := Int.ofNat 65) h65) (k6 := hc1)), F1, ?_⟩
  rw [← pVal_con false p]
  revert R1
  rw [if_neg (by decide)]
  cases pVal bs 32 true p with
  | error e => exact fun R => R
  | ok s =>
   intro R
   obtain ⟨e1, R⟩ := R
   have e1 : v = (s.1 : Int) := e1
   subst e1
   exact ⟨by rw [show Int.tmod (s.1 : Int) (Int.ofNat 4294967296) = ((s.1 % 4294967296 : Nat) : Int) from by rw [ofN, Int.tmod_eq_emod_of_nonneg (by omega)]; omega]; rfl, R⟩
 rw [if_neg h65]
 have n65 := eqZ_f (a := o) (b := Int.ofNat 65) h65
 by_cases h66 : o = 66
 ·rw [if_pos h66]
  obtain ⟨h1, v, hc1, F1, R1⟩ := val_Q (m := m) hb hl hp H (B := 64) (.inr rfl) true
  refine ⟨h1, .mk o 0 0 v 0 [] [] [] false, callF_of rfl rfl (by kernel_rfl) (p45_10 (k0 := hk) (k1 := n2) (k2 := n7) (k3 := n8) (k4 := n9) (k5 := n65) (k6 := eqZ_t (b := Int.ofNat 66) h66) (k7 := hc1)), F1, ?_⟩
  rw [← pVal_con true p]
  revert R1
  rw [if_pos rfl]
  cases pVal bs 64 true p with
  | error e => exact fun R => R
  | ok s =>
   intro R
   obtain ⟨e1, R⟩ := R
   have e1 : v = (s.1 : Int) := e1
   subst e1
   exact ⟨rfl, R⟩
 rw [if_neg h66]
 have n66 := eqZ_f (a := o) (b := Int.ofNat 66) h66
 by_cases h14 : o = 14
 ·rw [if_pos h14]
  obtain ⟨h1, v, hc1, F1, R1, _⟩ := num_Q (m := m) hb hl hp H
  have k7 := eqZ_t (b := Int.ofNat 14) h14
  unfold pLabs
  cases hn1 : pNum bs p with
  | error e =>
   rw [hn1] at R1
   have R1 : QdE L h1 bs e := R1
   have hf2 := amiss_QE (m := m) R1 (p : Int) (Int.ofNat 7)
   by_cases hv : 64 ≤ v
   ·exact ⟨h1, .mk o 0 0 0 0 [] [] [] false, callF_of rfl rfl (by kernel_rfl) (p45_11 (k0 := hk) (k1 := n2) (k2 := n7) (k3 := n8) (k4 := n9) (k5 := n65) (k6 := n66) (k7 := k7) (k8 := H.ld1) (k9 := hc1) (k10 := ltZ_t (by rw [ofN]; omega)) (k11 := hf2) (k12 := nums_QE R1 o [] v 0)), F1, R1⟩
   ·exact ⟨h1, .mk o 0 0 0 0 [] [] [] false, callF_of rfl rfl (by kernel_rfl) (p45_12 (k0 := hk) (k1 := n2) (k2 := n7) (k3 := n8) (k4 := n9) (k5 := n65) (k6 := n66) (k7 := k7) (k8 := H.ld1) (k9 := hc1) (k10 := ltZ_f (by rw [ofN]; omega)) (k11 := nums_QE R1 o [] v 0)), F1, R1⟩
  | ok y =>
   obtain ⟨x, q⟩ := y
   rw [hn1] at R1
   obtain ⟨hv, R1⟩ := R1
   have hv : v = x := hv
   subst hv
   obtain ⟨_, hq2, hx0, _⟩ := pNum_q hn1
   simp only
   by_cases h64 : 64 ≤ v
   ·obtain ⟨h2', hf2, R2, F2⟩ := amiss_Q (m := m) R1 p 7 (by decide) (z := (p : Int)) rfl
    have R2 : QdE L h2' bs (p, 7) := ⟨_, _, R2⟩
    rw [if_pos h64]
    exact ⟨h2', .mk o 0 0 0 0 [] [] [] false, callF_of rfl rfl (by kernel_rfl) (p45_11 (k0 := hk) (k1 := n2) (k2 := n7) (k3 := n8) (k4 := n9) (k5 := n65) (k6 := n66) (k7 := k7) (k8 := H.ld1) (k9 := hc1) (k10 := ltZ_t (by rw [ofN]; omega)) (k11 := hf2) (k12 := nums_QE R2 o [] v 0)), F1.trans F2, R2⟩
   ·rw [if_neg h64]
    have e : v = ((v.toNat : Nat) : Int) := by omega
    obtain ⟨h2', vs, hc2, F2, R2⟩ := nums_Q (m := m) (k := v.toNat) (o := o) hb hl (by omega) (v.toNat + 1) (p := q) (z := 0) (out := []) (by omega) rfl hq2 R1
    rw [← e] at hc2
    refine ⟨h2', .mk o 0 0 0 0 vs [] [] false, callF_of rfl rfl (by kernel_rfl) (p45_12 (k0 := hk) (k1 := n2) (k2 := n7) (k3 := n8) (k4 := n9) (k5 := n65) (k6 := n66) (k7 := k7) (k8 := H.ld1) (k9 := hc1) (k10 := ltZ_f (by rw [ofN]; omega)) (k11 := hc2)), F1.trans F2, ?_⟩
    cases hm : pNums bs (v.toNat + 1) q with
    | error e => rw [hm] at R2; exact R2
    | ok s =>
     rw [hm] at R2
     exact ⟨by rw [R2.1]; rfl, R2.2⟩
 rw [if_neg h14]
 have n14 := eqZ_f (a := o) (b := Int.ofNat 14) h14
 by_cases h17 : o = 17
 ·rw [if_pos h17]
  obtain ⟨h1, a, hc1, F1, R1, _⟩ := num_Q (m := m) hb hl hp H
  cases hn1 : pNum bs p with
  | error e =>
   rw [hn1] at R1
   have R1 : QdE L h1 bs e := R1
   exact ⟨h1, .mk o a 0 0 0 [] [] [] false, callF_of rfl rfl (by kernel_rfl) (p45_13 (k0 := hk) (k1 := n2) (k2 := n7) (k3 := n8) (k4 := n9) (k5 := n65) (k6 := n66) (k7 := n14) (k8 := eqZ_t (b := Int.ofNat 17) h17) (k9 := hc1) (k10 := must_QE R1)), F1, R1⟩
  | ok x =>
   rw [hn1] at R1
   obtain ⟨e1, R1⟩ := R1
   have e1 : a = x.1 := e1
   subst e1
   obtain ⟨h2', hc2, F2, R2⟩ := must_Q (m := m) hb hl R1
   dsimp only
   refine ⟨h2', .mk o x.1 0 0 0 [] [] [] false, callF_of rfl rfl (by kernel_rfl) (p45_13 (k0 := hk) (k1 := n2) (k2 := n7) (k3 := n8) (k4 := n9) (k5 := n65) (k6 := n66) (k7 := n14) (k8 := eqZ_t (b := Int.ofNat 17) h17) (k9 := hc1) (k10 := hc2)), F1.trans F2, by
    revert R2
    cases pMust bs 0 x.2 with
    | error e => exact fun R => R
    | ok s => exact fun R => ⟨rfl, R.2⟩⟩
 rw [if_neg h17]
 have n17 := eqZ_f (a := o) (b := Int.ofNat 17) h17
 by_cases hc : r.kind = 4 ∨ r.kind = 6 ∨ o = 12 ∨ o = 13
 ·rw [if_pos hc]
  obtain ⟨h1, a, hc1, F1, R1, _⟩ := num_Q (m := m) hb hl hp H
  have fin : QResI L h1 bs (match (match pNum bs p with | .error e => .error e | .ok s => .ok (.mk o s.1 0 0 0 [] [] [] false, s.2) : PR Ins) with | .error e => .error e | .ok s => .ok (s.1, s.2, n)) (.mk o a 0 0 0 [] [] [] false) := by
   revert R1
   cases pNum bs p with
   | error e => exact fun R => R
   | ok s => exact fun R => ⟨by rw [show a = s.1 from R.1], R.2⟩
  refine ⟨h1, .mk o a 0 0 0 [] [] [] false, ?_, F1, fin⟩
  by_cases c4 : r.kind = 4
  ·exact callF_of rfl rfl (by kernel_rfl) (p45_14 (k0 := hk) (k1 := n2) (k2 := n7) (k3 := n8) (k4 := n9) (k5 := n65) (k6 := n66) (k7 := n14) (k8 := n17) (k9 := eqZ_t (b := Int.ofNat 4) c4) (k10 := hc1))
  have n4 := eqZ_f (a := r.kind) (b := Int.ofNat 4) c4
  by_cases c6 : r.kind = 6
  ·exact callF_of rfl rfl (by kernel_rfl) (p45_15 (k0 := hk) (k1 := n2) (k2 := n7) (k3 := n8) (k4 := n9) (k5 := n65) (k6 := n66) (k7 := n14) (k8 := n17) (k9 := n4) (k10 := eqZ_t (b := Int.ofNat 6) c6) (k11 := hc1))
  have n6 := eqZ_f (a := r.kind) (b := Int.ofNat 6) c6
  by_cases c12 : o = 12
  ·exact callF_of rfl rfl (by kernel_rfl) (p45_16 (k0 := hk) (k1 := n2) (k2 := n7) (k3 := n8) (k4 := n9) (k5 := n65) (k6 := n66) (k7 := n14) (k8 := n17) (k9 := n4) (k10 := n6) (k11 := eqZ_t (b := Int.ofNat 12) c12) (k12 := hc1))
  have n12 := eqZ_f (a := o) (b := Int.ofNat 12) c12
  exact callF_of rfl rfl (by kernel_rfl) (p45_17 (k0 := hk) (k1 := n2) (k2 := n7) (k3 := n8) (k4 := n9) (k5 := n65) (k6 := n66) (k7 := n14) (k8 := n17) (k9 := n4) (k10 := n6) (k11 := n12) (k12 := eqZ_t (b := Int.ofNat 13) (show o = 13 from by omega)) (k13 := hc1))
 ·rw [if_neg hc]
  exact ⟨h, .mk o 0 0 0 0 [] [] [] false, callF_of rfl rfl (by kernel_rfl) (p45_18 (k0 := hk) (k1 := n2) (k2 := n7) (k3 := n8) (k4 := n9) (k5 := n65) (k6 := n66) (k7 := n14) (k8 := n17) (k9 := eqZ_f (b := Int.ofNat 4) (fun hh => hc (.inl hh))) (k10 := eqZ_f (b := Int.ofNat 6) (fun hh => hc (.inr (.inl hh)))) (k11 := eqZ_f (b := Int.ofNat 12) (fun hh => hc (.inr (.inr (.inl hh))))) (k12 := eqZ_f (b := Int.ofNat 13) (fun hh => hc (.inr (.inr (.inr hh)))))), Fr.refl _ _, rfl, H⟩
end
end Go.Proofs.YthcjapmfchidhaaGreatDoor
namespace Go.Proofs.YthcjapmfchidhaaGreatDoor
set_option maxRecDepth 100000
open Go Go.Proofs.Am
section
variable {m : Int} {L : Nat} {h : Heap} {bs : List Nat}
theorem qlist_step (hb : ∀ x, x ∈ bs → x < 256) (hl : bs.length < 2 ^ 61) {f : Nat} (W : ListQ m L bs f) : ListQ m L bs (f + 1) := by
 intro d p n h out hp hf hn ho hd H
 obtain ⟨h0, v, hc, F0, R0, hv1⟩ := byte_Q (m := m) hb hl H
 unfold pL pByte at *
 rw [pList]
 cases hx : bs[p]? with
 | none =>
  rw [hx] at R0 hv1
  have R0 : QdE L h0 bs (bs.length, 2) := R0
  have hv := hv1 ⟨_, rfl⟩
  subst hv
  obtain ⟨p', n', R1⟩ := R0
  exact ⟨h0, out, _, p25_2_2 (k0 := H.ld3) (k1 := eq0) (k2 := H.ld1) (k3 := hc) (k4 := rfl) (k5 := rfl) (k6 := R1.ld3) (k7 := R1.nez), F0, ⟨p', n', R1⟩⟩
 | some x =>
 rw [hx] at R0
 obtain ⟨hv, R0⟩ := R0
 have hv : v = (x : Int) := hv
 subst hv
 have R0 : Qd L h0 bs ((p + 1 : Nat) : Int) (n : Int) none := R0
 have hlt := (List.getElem?_eq_some_iff.1 hx).1
 simp only
 by_cases h11 : x = 11
 ·rw [if_pos (.inl h11)]
  exact ⟨h0, out, (x : Int), p25_2_0 (k0 := H.ld3) (k1 := eq0) (k2 := H.ld1) (k3 := hc) (k4 := eqZ_t (b := Int.ofNat 11) (by rw [h11]; rfl)), F0, (List.append_nil out).symm, rfl, R0⟩
 have n11 : eqZ (x : Int) (Int.ofNat 11) = false := eqZ_f (by rw [ofN]; omega)
 by_cases h5 : x = 5
 ·rw [if_pos (.inr h5)]
  exact ⟨h0, out, (x : Int), p25_2_1 (k0 := H.ld3) (k1 := eq0) (k2 := H.ld1) (k3 := hc) (k4 := n11) (k5 := eqZ_t (b := Int.ofNat 5) (by rw [h5]; rfl)), F0, (List.append_nil out).symm, rfl, R0⟩
 have n5 : eqZ (x : Int) (Int.ofNat 5) = false := eqZ_f (by rw [ofN]; omega)
 rw [if_neg (by omega)]
 have wn : IntKind.wrap .i64 ((n : Int) + Int.ofNat 1) = ((n + 1 : Nat) : Int) := by rw [ofN, wrapI (by unfold InZ; omega)]; omega
 have cnt : ∀ {h1 : Heap} {e : PErr}, Qd L h1 bs ((p + 1 : Nat) : Int) (n : Int) (some e) → ∃ h3 ed, ldP h1 (.ptr L 2) 1 false = some (.int .i64 (n : Int)) ∧ stP h1 (.ptr L 2) [.v (.int .i64 (IntKind.wrap .i64 ((n : Int) + Int.ofNat 1)))] = some h3 ∧ ldP h3 (.ptr L 3) 1 false = some (.int .i64 ed) ∧ eqZ ed (Int.ofNat 0) = false ∧ QdE L h3 bs e ∧ Fr L h1 h3 := fun {h1 e} R => by
  obtain ⟨h3, hs, R3, F3⟩ := R.set2 (IntKind.wrap .i64 ((n : Int) + Int.ofNat 1))
  exact ⟨h3, _, R.ld2, hs, R3.ld3, R3.ez, ⟨_, _, R3⟩, F3⟩
 cases hop : opI (x : Int) with
 | none =>
  obtain ⟨_, _, _, _, _, _, _, c, _, hfl⟩ := op_none hop
  have hk : callF (cxZ m) (blk (cxZ m)) 35 [.v (.int .i64 (x : Int))] h0 = some (.v (.int .i64 0), h0) := by rw [kind_Q, kind_op, hop]
  simp only
  by_cases hfl2 : floB (x : Int) = true
  ·rw [if_pos hfl2]
   obtain ⟨h1, hf1, R1, F1⟩ := amiss_Q (m := m) R0 p 3 (by decide) (z := (p : Int)) rfl
   have E1 : QdE L h1 bs (p, 3) := ⟨_, _, R1⟩
   obtain ⟨h3, ed, c1, c2, c3, c4, c5, F3⟩ := cnt R1
   by_cases hbig : 512 ≤ n
   ·exact ⟨h3, [], _, p25_2_4 (k0 := H.ld3) (k1 := eq0) (k2 := H.ld1) (k3 := hc) (k4 := n11) (k5 := n5) (k6 := R0.ld3) (k7 := neq0) (k8 := hk) (k9 := hfl2) (k10 := hf1) (k11 := rfl) (k12 := amiss_QE E1 _ _) (k13 := R1.ld2) (k14 := leZ_t (a := Int.ofNat 512) (by rw [ofN]; omega)) (k15 := amiss_QE E1 _ _) (k16 := c1) (k17 := c2) (k18 := c3) (k19 := c4) (k20 := list_QE c5 _ _), (F0.trans F1).trans F3, c5⟩
   ·exact ⟨h3, [], _, p25_2_10 (k0 := H.ld3) (k1 := eq0) (k2 := H.ld1) (k3 := hc) (k4 := n11) (k5 := n5) (k6 := R0.ld3) (k7 := neq0) (k8 := hk) (k9 := hfl2) (k10 := hf1) (k11 := rfl) (k12 := amiss_QE E1 _ _) (k13 := R1.ld2) (k14 := leZ_f (a := Int.ofNat 512) (by rw [ofN]; omega)) (k15 := rfl) (k16 := c1) (k17 := c2) (k18 := c3) (k19 := c4) (k20 := list_QE c5 _ _), (F0.trans F1).trans F3, c5⟩
  ·rw [if_neg hfl2]
   have hfl2 : floB (x : Int) = false := by simpa using hfl2
   obtain ⟨h1, hf1, R1, F1⟩ := amiss_Q (m := m) R0 p 2 (by decide) (z := (p : Int)) rfl
   have E1 : QdE L h1 bs (p, 2) := ⟨_, _, R1⟩
   obtain ⟨h3, ed, c1, c2, c3, c4, c5, F3⟩ := cnt R1
   by_cases hbig : 512 ≤ n
   ·exact ⟨h3, [], _, p25_2_20 (k0 := H.ld3) (k1 := eq0) (k2 := H.ld1) (k3 := hc) (k4 := n11) (k5 := n5) (k6 := R0.ld3) (k7 := neq0) (k8 := hk) (k9 := hfl2) (k10 := rfl) (k11 := hf1) (k12 := R1.ld2) (k13 := leZ_t (a := Int.ofNat 512) (by rw [ofN]; omega)) (k14 := amiss_QE E1 _ _) (k15 := c1) (k16 := c2) (k17 := c3) (k18 := c4) (k19 := list_QE c5 _ _), (F0.trans F1).trans F3, c5⟩
   ·exact ⟨h3, [], _, p25_2_26 (k0 := H.ld3) (k1 := eq0) (k2 := H.ld1) (k3 := hc) (k4 := n11) (k5 := n5) (k6 := R0.ld3) (k7 := neq0) (k8 := hk) (k9 := hfl2) (k10 := rfl) (k11 := hf1) (k12 := R1.ld2) (k13 := leZ_f (a := Int.ofNat 512) (by rw [ofN]; omega)) (k14 := rfl) (k15 := c1) (k16 := c2) (k17 := c3) (k18 := c4) (k19 := list_QE c5 _ _), (F0.trans F1).trans F3, c5⟩
 | some r =>
  have hk : callF (cxZ m) (blk (cxZ m)) 35 [.v (.int .i64 (x : Int))] h0 = some (.v (.int .i64 r.kind), h0) := by rw [kind_Q, kind_op, hop]
  have hfl2 := op_flo hop
  have k0n : eqZ r.kind (Int.ofNat 0) = false := eqZ_f (b := Int.ofNat 0) (Int.ne_of_gt (op_pos hop))
  simp only
  by_cases hbig : 512 ≤ n
  ·rw [if_pos (.inl hbig)]
   obtain ⟨h1, hf1, R1, F1⟩ := amiss_Q (m := m) R0 p 7 (by decide) (z := (p : Int)) rfl
   obtain ⟨h3, ed, c1, c2, c3, c4, c5, F3⟩ := cnt R1
   exact ⟨h3, [], _, p25_2_28 (k0 := H.ld3) (k1 := eq0) (k2 := H.ld1) (k3 := hc) (k4 := n11) (k5 := n5) (k6 := R0.ld3) (k7 := neq0) (k8 := hk) (k9 := hfl2) (k10 := k0n) (k11 := R0.ld2) (k12 := leZ_t (a := Int.ofNat 512) (by rw [ofN]; omega)) (k13 := hf1) (k14 := c1) (k15 := c2) (k16 := c3) (k17 := c4) (k18 := list_QE c5 _ _), (F0.trans F1).trans F3, c5⟩
  have n512 : leZ (Int.ofNat 512) (n : Int) = false := leZ_f (by rw [ofN]; omega)
  by_cases hdp : r.kind = 2 ∧ 32 ≤ d
  ·rw [if_pos (.inr hdp)]
   obtain ⟨h1, hf1, R1, F1⟩ := amiss_Q (m := m) R0 p 7 (by decide) (z := (p : Int)) rfl
   obtain ⟨h3, ed, c1, c2, c3, c4, c5, F3⟩ := cnt R1
   exact ⟨h3, [], _, p25_2_30 (k0 := H.ld3) (k1 := eq0) (k2 := H.ld1) (k3 := hc) (k4 := n11) (k5 := n5) (k6 := R0.ld3) (k7 := neq0) (k8 := hk) (k9 := hfl2) (k10 := k0n) (k11 := R0.ld2) (k12 := n512) (k13 := eqZ_t (b := Int.ofNat 2) hdp.1) (k14 := leZ_t (a := Int.ofNat 32) (by rw [ofN]; omega)) (k15 := hf1) (k16 := c1) (k17 := c2) (k18 := c3) (k19 := c4) (k20 := list_QE c5 _ _), (F0.trans F1).trans F3, c5⟩
  rw [if_neg (by omega)]
  obtain ⟨h2, hs, R2, F2⟩ := R0.set2 (IntKind.wrap .i64 ((n : Int) + Int.ofNat 1))
  rw [wn] at R2
  obtain ⟨h4, i, hfi, F4, R4⟩ := ins_Q (m := m) hb hl W hop hlt (by omega) (by omega) (fun hk => by omega) R2 hd
  unfold pL at R4
  have hap := ap_ins (out := out) (by omega) i
  have key : ∃ h' vs last, blk (cxZ m) 25 (at_ Tryz.prog 25 2) [.v (.ptr L 0), .v (.int .i64 (d : Int)), .ow 9 (encIs (out ++ [i]))] h4 = some (.tup [.imm (encIs vs), .int .i64 last], h') ∧ Fr L h4 h' ∧
    QResL L h' bs out (match pIns bs (pList opI floB bs f) d r (x : Int) (p + 1) (n + 1) with | .error e => .error e | .ok (i, p2, n2) => match pList opI floB bs f d p2 n2 with | .error e => .error e | .ok (is, last, p3, n3) => .ok (i :: is, last, p3, n3)) vs last := by
   cases hi : pIns bs (pList opI floB bs f) d r (x : Int) (p + 1) (n + 1) with
   | error e =>
    rw [hi] at R4
    have R4 : QdE L h4 bs e := R4
    exact ⟨h4, [], _, list_QE R4 _ _, Fr.refl _ _, R4⟩
   | ok y =>
    obtain ⟨i', p2, n2⟩ := y
    rw [hi] at R4
    obtain ⟨e1, R4⟩ := R4
    have e1 : i = i' := e1
    subst e1
    have R4 : Qd L h4 bs (p2 : Int) (n2 : Int) none := R4
    have I := ins_ok opLaw hop hlt (fun hk => by omega) (fun {d p n xs l q n'} hp hr => list_q (f := f) hp hr) hi
    have ne := I.ne
    have n1 := I.n1
    have hp2 : p < p2 := ins_adv hop hlt (fun hk => by omega) hi
    obtain ⟨h5, vs, last, hc5, F5, R5⟩ := W (d := d) (p := p2) (n := n2) (out := out ++ [i]) I.qb (by omega) (I.n5 (by omega)) (by rw [List.length_append, List.length_singleton]; omega) hd R4
    refine ⟨h5, vs, last, hc5, F5, ?_⟩
    unfold pL at R5
    simp only
    cases hL : pList opI floB bs f d p2 n2 with
    | error e => rw [hL] at R5; exact R5
    | ok z =>
     obtain ⟨is, l, p3, n3⟩ := z
     rw [hL] at R5
     obtain ⟨e2, e3, R5⟩ := R5
     have e2 : vs = (out ++ [i]) ++ is := e2
     exact ⟨by rw [e2, List.append_assoc]; rfl, e3, R5⟩
  obtain ⟨h5, vs, last, hc5, F5, R5⟩ := key
  have FF := ((F0.trans F2).trans F4).trans F5
  obtain ⟨io, ia, ib, iv, it, il, ibd, iel, iq⟩ := i
  by_cases h2k : r.kind = 2
  ·exact ⟨h5, vs, last, p25_2_31 (k0 := H.ld3) (k1 := eq0) (k2 := H.ld1) (k3 := hc) (k4 := n11) (k5 := n5) (k6 := R0.ld3) (k7 := neq0) (k8 := hk) (k9 := hfl2) (k10 := k0n) (k11 := R0.ld2) (k12 := n512) (k13 := eqZ_t (b := Int.ofNat 2) h2k) (k14 := leZ_f (a := Int.ofNat 32) (by rw [ofN]; omega)) (k15 := R0.ld2) (k16 := hs) (k17 := R2.ld3) (k18 := eq0) (k19 := hfi) (k20 := hap) (k21 := hc5), FF, R5⟩
  ·exact ⟨h5, vs, last, p25_2_33 (k0 := H.ld3) (k1 := eq0) (k2 := H.ld1) (k3 := hc) (k4 := n11) (k5 := n5) (k6 := R0.ld3) (k7 := neq0) (k8 := hk) (k9 := hfl2) (k10 := k0n) (k11 := R0.ld2) (k12 := n512) (k13 := eqZ_f (b := Int.ofNat 2) h2k) (k14 := R0.ld2) (k15 := hs) (k16 := R2.ld3) (k17 := eq0) (k18 := hfi) (k19 := hap) (k20 := hc5), FF, R5⟩
theorem qlist_W (hb : ∀ x, x ∈ bs → x < 256) (hl : bs.length < 2 ^ 61) : ∀ f : Nat, ListQ m L bs f
 | 0 => fun d p n h out hp hf => by omega
 | f + 1 => qlist_step hb hl (qlist_W hb hl f)
def ExprR (L : Nat) (h : Heap) (bs : List Nat) (r : PR (List Ins)) (vs : List Ins) : Prop :=
 match r with
 | .ok x => vs = x.1 ∧ ∃ n : Int, Qd L h bs (x.2 : Int) n none
 | .error e => QdE L h bs e
theorem expr13 (hb : ∀ x, x ∈ bs → x < 256) (hl : bs.length < 2 ^ 61) {p : Nat} (hp : p ≤ bs.length) {n : Int} (H : Qd L h bs (p : Int) n none) :
  ∃ h' vs, callF (cxZ m) (blk (cxZ m)) 13 [.v (.ptr L 0)] h = some (.v (.imm (encIs vs)), h') ∧ Fr L h h' ∧ ExprR L h' bs (pExpr opI floB bs p) vs := by
 obtain ⟨h1, hs, R1, F1⟩ := H.set2 (.ofNat 0)
 obtain ⟨h2, vs, last, hc, F2, R2⟩ := listC_Q (qlist_W (m := m) (L := L) hb hl (bs.length + 1)) (d := 0) (n := 0) hp (by omega) (by decide) (by decide) R1
 unfold pL at R2
 unfold pExpr
 cases hL : pList opI floB bs (bs.length + 1) 0 p 0 with
 | error e =>
  rw [hL] at R2
  have R2 : QdE L h2 bs e := R2
  have hf := amiss_QE (m := m) R2
  by_cases h5 : last = 5
  ·obtain ⟨p', n', R3⟩ := R2
   exact ⟨h2, vs, callF_of rfl rfl (by kernel_rfl) (p13_0 (k0 := hs) (k1 := hc) (k2 := eqZ_t (b := Int.ofNat 5) h5) (k3 := R3.ld1) (k4 := hf _ _)), F1.trans F2, ⟨p', n', R3⟩⟩
  ·exact ⟨h2, vs, callF_of rfl rfl (by kernel_rfl) (p13_1 (k0 := hs) (k1 := hc) (k2 := eqZ_f (b := Int.ofNat 5) h5)), F1.trans F2, R2⟩
 | ok y =>
  obtain ⟨xs, l, q, n'⟩ := y
  have B := list_q (f := bs.length + 1) hp hL
  rw [hL] at R2
  obtain ⟨e1, e2, R2⟩ := R2
  have e1 : vs = xs := e1
  have e2 : last = (l : Int) := e2
  subst e1; subst e2
  have R2 : Qd L h2 bs (q : Int) (n' : Int) none := R2
  simp only
  by_cases h5 : l = 5
  ·rw [if_pos h5]
   have sz := B.sz
   obtain ⟨h3, hf, R3, F3⟩ := amiss_Q (m := m) R2 (q - 1) 2 (by decide) (z := IntKind.wrap .i64 ((q : Int) - Int.ofNat 1)) (by rw [ofN, wrapI (by have := B.qb; unfold InZ; omega)]; omega)
   exact ⟨h3, vs, callF_of rfl rfl (by kernel_rfl) (p13_0 (k0 := hs) (k1 := hc) (k2 := eqZ_t (b := Int.ofNat 5) (by rw [h5]; rfl)) (k3 := R2.ld1) (k4 := hf)), (F1.trans F2).trans F3, ⟨_, _, R3⟩⟩
  ·rw [if_neg h5]
   exact ⟨h2, vs, callF_of rfl rfl (by kernel_rfl) (p13_1 (k0 := hs) (k1 := hc) (k2 := eqZ_f (b := Int.ofNat 5) (by rw [ofN]; omega))), F1.trans F2, rfl, n', R2⟩
end
end Go.Proofs.YthcjapmfchidhaaGreatDoor
