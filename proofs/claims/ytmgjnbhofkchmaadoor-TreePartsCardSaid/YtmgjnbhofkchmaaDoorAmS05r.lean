/-
  The law of parts.
-/
import Derived.Test.YtmgjnbhofkchmaaDoorAmS05q
import Derived.Test.YtmgjnbhofkchmaaDoorAmS05o

namespace Go.Proofs.YtmgjnbhofkchmaaDoor
open Go Go.Proofs.Am
theorem up6 (m : Int) (h : Heap) : ∃ h', callF (cxZ m) (blk (cxZ m)) 6 [] h = some (.v (.bool true), h') := by
  have hr : (blkF (cxZ m) 40 6 (body_ (Cx.P (cxZ m)) 6) [] h).map Prod.fst = some (.v (.bool true)) := by kernel_rfl
  obtain ⟨h', e⟩ := blk_of_run hr
  exact ⟨h', callZ rfl (by kernel_rfl) (by kernel_rfl) e⟩
theorem eqZ_self (a : Int) : eqZ a a = true := by rw [eqZ_eq]; exact beq_self_eq_true a
theorem fitE_enc (l : List Ins) : fitE 9 (encIs l) = true := by
  cases l with
  | nil => rfl
  | cons x l => show Nat.beq (encI x).length 9 = true; rw [encI_len]; rfl
theorem und22 : Tryd.prog.underlying 22 = some (.slice 59) := by kernel_rfl
theorem sl_eq {m : Int} {xs : List (List AV)} {lo hi : Option Int} : slA (Cx.P (cxZ m)) 22 (AV.imm xs) lo hi = (bif decide (0 ≤ lo.getD 0) && decide (lo.getD 0 ≤ hi.getD xs.length) && decide (hi.getD xs.length ≤ xs.length) && fitE 9 xs then
         some (.imm ((xs.take (hi.getD xs.length).toNat).drop (lo.getD 0).toNat)) else none) := by
  show slA Tryd.prog 22 _ lo hi = _
  have hi' : (Tryd.prog.info? 59).map (fun i => i.size) = some 9 := by kernel_rfl
  cases hj : Tryd.prog.info? 59 with
  | none => rw [hj] at hi'; cases hi'
  | some j =>
    rw [hj] at hi'
    simp only [Option.map_some, Option.some.injEq] at hi'
    unfold slA
    rw [und22]
    simp only [hj, Option.bind_some, hi']
theorem sl_lo {m : Int} (l : List Ins) (k : Nat) (hk : k ≤ l.length) : slA (Cx.P (cxZ m)) 22 (AV.imm (encIs l)) none (some (Int.ofNat k)) = some (AV.imm (encIs (l.take k))) := by
  have e1 : decide ((0 : Int) ≤ 0) = true := rfl
  have e2 : decide ((0 : Int) ≤ Int.ofNat k) = true := decide_eq_true (Int.natCast_nonneg k)
  have e3 : decide (Int.ofNat k ≤ (encIs l).length) = true := decide_eq_true (by rw [encIs_len]; exact Int.ofNat_le.2 hk)
  rw [sl_eq]
  simp only [Option.getD_none, Option.getD_some, e1, e2, e3, fitE_enc, Bool.and_self, cond_true]
  rw [show (Int.ofNat k).toNat = k from rfl, show (0 : Int).toNat = 0 from rfl, List.drop_zero, encIs_map, encIs_map, List.map_take]
theorem sl_hi {m : Int} (l : List Ins) (k : Nat) (hk : k ≤ l.length) : slA (Cx.P (cxZ m)) 22 (AV.imm (encIs l)) (some (Int.ofNat k)) none = some (AV.imm (encIs (l.drop k))) := by
  have e2 : decide ((0 : Int) ≤ Int.ofNat k) = true := decide_eq_true (Int.natCast_nonneg k)
  have e3 : decide (Int.ofNat k ≤ (encIs l).length) = true := decide_eq_true (by rw [encIs_len]; exact Int.ofNat_le.2 hk)
  have e4 : decide (((encIs l).length : Int) ≤ (encIs l).length) = true := decide_eq_true (Int.le_refl _)
  rw [sl_eq]
  simp only [Option.getD_none, Option.getD_some, e2, e3, e4, fitE_enc, Bool.and_self, cond_true]
  rw [show (Int.ofNat k).toNat = k from rfl, Int.toNat_natCast, List.take_length, encIs_map, encIs_map, List.map_drop]
theorem rem_eq {m x y : Int} (hy : y ≠ 0) : binF (Cx.P (cxZ m)) .rem 3 false (.int .i64 x) (.int .i64 y) = some (.int .i64 (x.tmod y)) := by
  have e : binF (Cx.P (cxZ m)) .rem 3 false (.int .i64 x) (.int .i64 y) = bif decide (y = 0) then none else some (.int .i64 (x.tmod y)) := by kernel_rfl
  rw [e, decide_eq_false hy]
  rfl
/-- Where a list is cut: in its bounds. -/
theorem at_of (q : Int) (n : Nat) (hn : n ≤ maxLen) (h0 : 0 ≤ q) (h1 : q < 9223372036854775808) : IntKind.wrap .i64 (Int.ofNat (Nat.succ n)) ≠ 0 ∧ ∃ k : Nat, k ≤ n ∧ q.tmod (IntKind.wrap .i64 (Int.ofNat (Nat.succ n))) = Int.ofNat k := by
  have := maxLen_eq
  by_cases hm : n = maxLen
  · have e : IntKind.wrap .i64 (Int.ofNat (Nat.succ n)) = -9223372036854775808 := by rw [hm, this]; rfl
    rw [e]
    refine ⟨by omega, q.toNat, by omega, ?_⟩
    rw [Int.tmod_neg, Int.tmod_eq_of_lt h0 h1]
    exact (Int.toNat_of_nonneg h0).symm
  · have e : IntKind.wrap .i64 (Int.ofNat (Nat.succ n)) = ((n + 1 : Nat) : Int) := wrapN (by omega)
    rw [e]
    refine ⟨by omega, (q.tmod ((n + 1 : Nat) : Int)).toNat, ?_, ?_⟩
    · have := Int.tmod_lt_of_pos q (b := ((n + 1 : Nat) : Int)) (by omega)
      omega
    · exact (Int.toNat_of_nonneg (Int.tmod_nonneg _ h0)).symm

theorem t_c0 (m : Int) (l : List Ins) (hl : l.length ≤ maxLen) (hf : ∀ x, x ∈ l → Fit x) (h1 : Heap) : callF (cxZ m) (blk (cxZ m)) 8 [.v (.imm (encIs l))] h1 = some (.tup [.int .i64 (WC (cL l)), .int .i64 (dL (bB m) l)], h1) := count8 m l hl hf h1
theorem t_ew (l : List Ins) (k : Nat) : WC (cL l) = IntKind.wrap .i64 (WC (cL (l.take k)) + WC (cL (l.drop k))) := by
    have ec : cL l = cL (l.take k) + cL (l.drop k) := by rw [← cL_append, List.take_append_drop]
    rw [ec]
    unfold WC
    simp only [IntKind.wrap_i64, show ∀ n : Nat, Int.ofNat n = (n : Int) from fun _ => rfl]
    omega
theorem t_ed (m : Int) (l : List Ins) (k : Nat) : dL (bB m) l = max (dL (bB m) (l.take k)) (dL (bB m) (l.drop k)) := by rw [← dL_append, List.take_append_drop]
theorem t_em (m : Int) (l : List Ins) (k : Nat) : l.all (mayB m) = ((l.take k).all (mayB m) && (l.drop k).all (mayB m)) := by rw [← List.all_append, List.take_append_drop]
theorem split3 (m : Int) (l : List Ins) (hl : l.length ≤ maxLen) (hf : ∀ x, x ∈ l → Fit x) (k : Nat) (h1 : Heap) :
        callF (cxZ m) (blk (cxZ m)) 8 [.v (.imm (encIs l))] h1 = some (.tup [.int .i64 (IntKind.wrap .i64 (WC (cL (l.take k)) + WC (cL (l.drop k)))), .int .i64 (max (dL (bB m) (l.take k)) (dL (bB m) (l.drop k)))], h1) := by
  have c0 := t_c0 m l hl hf h1
  rw [t_ew l k, t_ed m l k] at c0
  exact c0
theorem split4 (m : Int) (l : List Ins) (hl : l.length ≤ maxLen) (hf : ∀ x, x ∈ l → Fit x) (k : Nat) (h1 : Heap) :
        callF (cxZ m) (blk (cxZ m)) 9 [.v (.imm (encIs l))] h1 = some (.v (.bool ((l.take k).all (mayB m) && (l.drop k).all (mayB m))), h1) := by
  have m0 := may9 m l hl hf h1
  rw [t_em m l k] at m0
  exact m0
theorem leaf1 (m : Int) (xs xa xb : List (List AV)) (pt x : Int) (h h1 : Heap) (n d c1 c2 d1 d2 : Int) (b2 : Bool) (hu : callF (cxZ m) (blk (cxZ m)) 6 [] h = some (.v (.bool true), h1)) (hc : callF (cxZ m) (blk (cxZ m)) 7 [.v (.imm xs)] h1 = some (.tup [.int .i64 n, .int .i64 d], h1)) (hn : ltZ (Int.ofNat 2000) n = false) (hp0 : ltZ pt (Int.ofNat 0) = true)
    (hr : binF (Cx.P (cxZ m)) .rem 3 false (.int .i64 (IntKind.wrap IntKind.i64 (Int.ofNat 0 - IntKind.wrap IntKind.i64 (pt + Int.ofNat 1)))) (.int .i64 (IntKind.wrap .i64 (Int.ofNat (Nat.succ xs.length)))) = some (.int .i64 x))
    (k1 : callF (cxZ m) (blk (cxZ m)) 8 [.v (.imm xs)] h1 = some (.tup [.int .i64 (IntKind.wrap .i64 (c1 + c2)), .int .i64 d2], h1))
    (k2 : callF (cxZ m) (blk (cxZ m)) 8 [.v (.imm xa)] h1 = some (.tup [.int .i64 c1, .int .i64 d1], h1)) (k3 : callF (cxZ m) (blk (cxZ m)) 8 [.v (.imm xb)] h1 = some (.tup [.int .i64 c2, .int .i64 d2], h1))
    (k4 : callF (cxZ m) (blk (cxZ m)) 9 [.v (.imm xs)] h1 = some (.v (.bool (true && b2)), h1)) (k5 : callF (cxZ m) (blk (cxZ m)) 9 [.v (.imm xa)] h1 = some (.v (.bool true), h1)) (k6 : callF (cxZ m) (blk (cxZ m)) 9 [.v (.imm xb)] h1 = some (.v (.bool b2), h1))
    (hlo : slA (Cx.P (cxZ m)) 22 (AV.imm xs) none (some x) = some (AV.imm xa)) (hhi : slA (Cx.P (cxZ m)) 22 (AV.imm xs) (some x) none = some (AV.imm xb)) (hdd : ltZ d1 d2 = true) : blk (cxZ m) 3 (body_ Tryd.prog 3) [.v (.imm xs), .v (.int .i64 pt)] h = some (.v (.bool true), h1) := by
  refine (s3_1 (k0 := hu) (k1 := hc) (k2 := hn) (k3 := hp0) (k4 := hr) (k5 := k1) (k6 := hlo) (k7 := k2) (k8 := hhi) (k9 := k3) (k10 := hdd) (k11 := rfl) (k12 := eqZ_self _) (k13 := eqZ_self _) (k14 := k4) (k15 := hlo) (k16 := k5) (k17 := rfl) (k18 := hhi) (k19 := k6) ..).trans ?_
  cases b2 <;> rfl
theorem leaf2 (m : Int) (xs xa xb : List (List AV)) (pt x : Int) (h h1 : Heap) (n d c1 c2 d1 d2 : Int) (b2 : Bool) (hu : callF (cxZ m) (blk (cxZ m)) 6 [] h = some (.v (.bool true), h1)) (hc : callF (cxZ m) (blk (cxZ m)) 7 [.v (.imm xs)] h1 = some (.tup [.int .i64 n, .int .i64 d], h1)) (hn : ltZ (Int.ofNat 2000) n = false) (hp0 : ltZ pt (Int.ofNat 0) = true)
    (hr : binF (Cx.P (cxZ m)) .rem 3 false (.int .i64 (IntKind.wrap IntKind.i64 (Int.ofNat 0 - IntKind.wrap IntKind.i64 (pt + Int.ofNat 1)))) (.int .i64 (IntKind.wrap .i64 (Int.ofNat (Nat.succ xs.length)))) = some (.int .i64 x))
    (k1 : callF (cxZ m) (blk (cxZ m)) 8 [.v (.imm xs)] h1 = some (.tup [.int .i64 (IntKind.wrap .i64 (c1 + c2)), .int .i64 d2], h1))
    (k2 : callF (cxZ m) (blk (cxZ m)) 8 [.v (.imm xa)] h1 = some (.tup [.int .i64 c1, .int .i64 d1], h1)) (k3 : callF (cxZ m) (blk (cxZ m)) 8 [.v (.imm xb)] h1 = some (.tup [.int .i64 c2, .int .i64 d2], h1))
    (k4 : callF (cxZ m) (blk (cxZ m)) 9 [.v (.imm xs)] h1 = some (.v (.bool (false && b2)), h1)) (k5 : callF (cxZ m) (blk (cxZ m)) 9 [.v (.imm xa)] h1 = some (.v (.bool false), h1)) 
    (hlo : slA (Cx.P (cxZ m)) 22 (AV.imm xs) none (some x) = some (AV.imm xa)) (hhi : slA (Cx.P (cxZ m)) 22 (AV.imm xs) (some x) none = some (AV.imm xb)) (hdd : ltZ d1 d2 = true) : blk (cxZ m) 3 (body_ Tryd.prog 3) [.v (.imm xs), .v (.int .i64 pt)] h = some (.v (.bool true), h1) := by
  refine (s3_2 (k0 := hu) (k1 := hc) (k2 := hn) (k3 := hp0) (k4 := hr) (k5 := k1) (k6 := hlo) (k7 := k2) (k8 := hhi) (k9 := k3) (k10 := hdd) (k11 := rfl) (k12 := eqZ_self _) (k13 := eqZ_self _) (k14 := k4) (k15 := hlo) (k16 := k5) (k17 := rfl) ..).trans ?_
  cases b2 <;> rfl
theorem leaf6 (m : Int) (xs xa xb : List (List AV)) (pt x : Int) (h h1 : Heap) (n d c1 c2 d1 d2 : Int) (b2 : Bool) (hu : callF (cxZ m) (blk (cxZ m)) 6 [] h = some (.v (.bool true), h1)) (hc : callF (cxZ m) (blk (cxZ m)) 7 [.v (.imm xs)] h1 = some (.tup [.int .i64 n, .int .i64 d], h1)) (hn : ltZ (Int.ofNat 2000) n = false) (hp0 : ltZ pt (Int.ofNat 0) = true)
    (hr : binF (Cx.P (cxZ m)) .rem 3 false (.int .i64 (IntKind.wrap IntKind.i64 (Int.ofNat 0 - IntKind.wrap IntKind.i64 (pt + Int.ofNat 1)))) (.int .i64 (IntKind.wrap .i64 (Int.ofNat (Nat.succ xs.length)))) = some (.int .i64 x))
    (k1 : callF (cxZ m) (blk (cxZ m)) 8 [.v (.imm xs)] h1 = some (.tup [.int .i64 (IntKind.wrap .i64 (c1 + c2)), .int .i64 d1], h1))
    (k2 : callF (cxZ m) (blk (cxZ m)) 8 [.v (.imm xa)] h1 = some (.tup [.int .i64 c1, .int .i64 d1], h1)) (k3 : callF (cxZ m) (blk (cxZ m)) 8 [.v (.imm xb)] h1 = some (.tup [.int .i64 c2, .int .i64 d2], h1))
    (k4 : callF (cxZ m) (blk (cxZ m)) 9 [.v (.imm xs)] h1 = some (.v (.bool (true && b2)), h1)) (k5 : callF (cxZ m) (blk (cxZ m)) 9 [.v (.imm xa)] h1 = some (.v (.bool true), h1)) (k6 : callF (cxZ m) (blk (cxZ m)) 9 [.v (.imm xb)] h1 = some (.v (.bool b2), h1))
    (hlo : slA (Cx.P (cxZ m)) 22 (AV.imm xs) none (some x) = some (AV.imm xa)) (hhi : slA (Cx.P (cxZ m)) 22 (AV.imm xs) (some x) none = some (AV.imm xb)) (hdd : ltZ d1 d2 = false) : blk (cxZ m) 3 (body_ Tryd.prog 3) [.v (.imm xs), .v (.int .i64 pt)] h = some (.v (.bool true), h1) := by
  refine (s3_6 (k0 := hu) (k1 := hc) (k2 := hn) (k3 := hp0) (k4 := hr) (k5 := k1) (k6 := hlo) (k7 := k2) (k8 := hhi) (k9 := k3) (k10 := hdd) (k11 := rfl) (k12 := eqZ_self _) (k13 := eqZ_self _) (k14 := k4) (k15 := hlo) (k16 := k5) (k17 := rfl) (k18 := hhi) (k19 := k6) ..).trans ?_
  cases b2 <;> rfl
theorem leaf7 (m : Int) (xs xa xb : List (List AV)) (pt x : Int) (h h1 : Heap) (n d c1 c2 d1 d2 : Int) (b2 : Bool) (hu : callF (cxZ m) (blk (cxZ m)) 6 [] h = some (.v (.bool true), h1)) (hc : callF (cxZ m) (blk (cxZ m)) 7 [.v (.imm xs)] h1 = some (.tup [.int .i64 n, .int .i64 d], h1)) (hn : ltZ (Int.ofNat 2000) n = false) (hp0 : ltZ pt (Int.ofNat 0) = true)
    (hr : binF (Cx.P (cxZ m)) .rem 3 false (.int .i64 (IntKind.wrap IntKind.i64 (Int.ofNat 0 - IntKind.wrap IntKind.i64 (pt + Int.ofNat 1)))) (.int .i64 (IntKind.wrap .i64 (Int.ofNat (Nat.succ xs.length)))) = some (.int .i64 x))
    (k1 : callF (cxZ m) (blk (cxZ m)) 8 [.v (.imm xs)] h1 = some (.tup [.int .i64 (IntKind.wrap .i64 (c1 + c2)), .int .i64 d1], h1))
    (k2 : callF (cxZ m) (blk (cxZ m)) 8 [.v (.imm xa)] h1 = some (.tup [.int .i64 c1, .int .i64 d1], h1)) (k3 : callF (cxZ m) (blk (cxZ m)) 8 [.v (.imm xb)] h1 = some (.tup [.int .i64 c2, .int .i64 d2], h1))
    (k4 : callF (cxZ m) (blk (cxZ m)) 9 [.v (.imm xs)] h1 = some (.v (.bool (false && b2)), h1)) (k5 : callF (cxZ m) (blk (cxZ m)) 9 [.v (.imm xa)] h1 = some (.v (.bool false), h1)) 
    (hlo : slA (Cx.P (cxZ m)) 22 (AV.imm xs) none (some x) = some (AV.imm xa)) (hhi : slA (Cx.P (cxZ m)) 22 (AV.imm xs) (some x) none = some (AV.imm xb)) (hdd : ltZ d1 d2 = false) : blk (cxZ m) 3 (body_ Tryd.prog 3) [.v (.imm xs), .v (.int .i64 pt)] h = some (.v (.bool true), h1) := by
  refine (s3_7 (k0 := hu) (k1 := hc) (k2 := hn) (k3 := hp0) (k4 := hr) (k5 := k1) (k6 := hlo) (k7 := k2) (k8 := hhi) (k9 := k3) (k10 := hdd) (k11 := rfl) (k12 := eqZ_self _) (k13 := eqZ_self _) (k14 := k4) (k15 := hlo) (k16 := k5) (k17 := rfl) ..).trans ?_
  cases b2 <;> rfl
theorem leaf11 (m : Int) (xs xa xb : List (List AV)) (pt x : Int) (h h1 : Heap) (n d c1 c2 d1 d2 : Int) (b2 : Bool) (hu : callF (cxZ m) (blk (cxZ m)) 6 [] h = some (.v (.bool true), h1)) (hc : callF (cxZ m) (blk (cxZ m)) 7 [.v (.imm xs)] h1 = some (.tup [.int .i64 n, .int .i64 d], h1)) (hn : ltZ (Int.ofNat 2000) n = false) (hp0 : ltZ pt (Int.ofNat 0) = false)
    (hr : binF (Cx.P (cxZ m)) .rem 3 false (.int .i64 pt) (.int .i64 (IntKind.wrap .i64 (Int.ofNat (Nat.succ xs.length)))) = some (.int .i64 x))
    (k1 : callF (cxZ m) (blk (cxZ m)) 8 [.v (.imm xs)] h1 = some (.tup [.int .i64 (IntKind.wrap .i64 (c1 + c2)), .int .i64 d2], h1))
    (k2 : callF (cxZ m) (blk (cxZ m)) 8 [.v (.imm xa)] h1 = some (.tup [.int .i64 c1, .int .i64 d1], h1)) (k3 : callF (cxZ m) (blk (cxZ m)) 8 [.v (.imm xb)] h1 = some (.tup [.int .i64 c2, .int .i64 d2], h1))
    (k4 : callF (cxZ m) (blk (cxZ m)) 9 [.v (.imm xs)] h1 = some (.v (.bool (true && b2)), h1)) (k5 : callF (cxZ m) (blk (cxZ m)) 9 [.v (.imm xa)] h1 = some (.v (.bool true), h1)) (k6 : callF (cxZ m) (blk (cxZ m)) 9 [.v (.imm xb)] h1 = some (.v (.bool b2), h1))
    (hlo : slA (Cx.P (cxZ m)) 22 (AV.imm xs) none (some x) = some (AV.imm xa)) (hhi : slA (Cx.P (cxZ m)) 22 (AV.imm xs) (some x) none = some (AV.imm xb)) (hdd : ltZ d1 d2 = true) : blk (cxZ m) 3 (body_ Tryd.prog 3) [.v (.imm xs), .v (.int .i64 pt)] h = some (.v (.bool true), h1) := by
  refine (s3_11 (k0 := hu) (k1 := hc) (k2 := hn) (k3 := hp0) (k4 := hr) (k5 := k1) (k6 := hlo) (k7 := k2) (k8 := hhi) (k9 := k3) (k10 := hdd) (k11 := rfl) (k12 := eqZ_self _) (k13 := eqZ_self _) (k14 := k4) (k15 := hlo) (k16 := k5) (k17 := rfl) (k18 := hhi) (k19 := k6) ..).trans ?_
  cases b2 <;> rfl
theorem leaf12 (m : Int) (xs xa xb : List (List AV)) (pt x : Int) (h h1 : Heap) (n d c1 c2 d1 d2 : Int) (b2 : Bool) (hu : callF (cxZ m) (blk (cxZ m)) 6 [] h = some (.v (.bool true), h1)) (hc : callF (cxZ m) (blk (cxZ m)) 7 [.v (.imm xs)] h1 = some (.tup [.int .i64 n, .int .i64 d], h1)) (hn : ltZ (Int.ofNat 2000) n = false) (hp0 : ltZ pt (Int.ofNat 0) = false)
    (hr : binF (Cx.P (cxZ m)) .rem 3 false (.int .i64 pt) (.int .i64 (IntKind.wrap .i64 (Int.ofNat (Nat.succ xs.length)))) = some (.int .i64 x))
    (k1 : callF (cxZ m) (blk (cxZ m)) 8 [.v (.imm xs)] h1 = some (.tup [.int .i64 (IntKind.wrap .i64 (c1 + c2)), .int .i64 d2], h1))
    (k2 : callF (cxZ m) (blk (cxZ m)) 8 [.v (.imm xa)] h1 = some (.tup [.int .i64 c1, .int .i64 d1], h1)) (k3 : callF (cxZ m) (blk (cxZ m)) 8 [.v (.imm xb)] h1 = some (.tup [.int .i64 c2, .int .i64 d2], h1))
    (k4 : callF (cxZ m) (blk (cxZ m)) 9 [.v (.imm xs)] h1 = some (.v (.bool (false && b2)), h1)) (k5 : callF (cxZ m) (blk (cxZ m)) 9 [.v (.imm xa)] h1 = some (.v (.bool false), h1)) 
    (hlo : slA (Cx.P (cxZ m)) 22 (AV.imm xs) none (some x) = some (AV.imm xa)) (hhi : slA (Cx.P (cxZ m)) 22 (AV.imm xs) (some x) none = some (AV.imm xb)) (hdd : ltZ d1 d2 = true) : blk (cxZ m) 3 (body_ Tryd.prog 3) [.v (.imm xs), .v (.int .i64 pt)] h = some (.v (.bool true), h1) := by
  refine (s3_12 (k0 := hu) (k1 := hc) (k2 := hn) (k3 := hp0) (k4 := hr) (k5 := k1) (k6 := hlo) (k7 := k2) (k8 := hhi) (k9 := k3) (k10 := hdd) (k11 := rfl) (k12 := eqZ_self _) (k13 := eqZ_self _) (k14 := k4) (k15 := hlo) (k16 := k5) (k17 := rfl) ..).trans ?_
  cases b2 <;> rfl
theorem leaf16 (m : Int) (xs xa xb : List (List AV)) (pt x : Int) (h h1 : Heap) (n d c1 c2 d1 d2 : Int) (b2 : Bool) (hu : callF (cxZ m) (blk (cxZ m)) 6 [] h = some (.v (.bool true), h1)) (hc : callF (cxZ m) (blk (cxZ m)) 7 [.v (.imm xs)] h1 = some (.tup [.int .i64 n, .int .i64 d], h1)) (hn : ltZ (Int.ofNat 2000) n = false) (hp0 : ltZ pt (Int.ofNat 0) = false)
    (hr : binF (Cx.P (cxZ m)) .rem 3 false (.int .i64 pt) (.int .i64 (IntKind.wrap .i64 (Int.ofNat (Nat.succ xs.length)))) = some (.int .i64 x))
    (k1 : callF (cxZ m) (blk (cxZ m)) 8 [.v (.imm xs)] h1 = some (.tup [.int .i64 (IntKind.wrap .i64 (c1 + c2)), .int .i64 d1], h1))
    (k2 : callF (cxZ m) (blk (cxZ m)) 8 [.v (.imm xa)] h1 = some (.tup [.int .i64 c1, .int .i64 d1], h1)) (k3 : callF (cxZ m) (blk (cxZ m)) 8 [.v (.imm xb)] h1 = some (.tup [.int .i64 c2, .int .i64 d2], h1))
    (k4 : callF (cxZ m) (blk (cxZ m)) 9 [.v (.imm xs)] h1 = some (.v (.bool (true && b2)), h1)) (k5 : callF (cxZ m) (blk (cxZ m)) 9 [.v (.imm xa)] h1 = some (.v (.bool true), h1)) (k6 : callF (cxZ m) (blk (cxZ m)) 9 [.v (.imm xb)] h1 = some (.v (.bool b2), h1))
    (hlo : slA (Cx.P (cxZ m)) 22 (AV.imm xs) none (some x) = some (AV.imm xa)) (hhi : slA (Cx.P (cxZ m)) 22 (AV.imm xs) (some x) none = some (AV.imm xb)) (hdd : ltZ d1 d2 = false) : blk (cxZ m) 3 (body_ Tryd.prog 3) [.v (.imm xs), .v (.int .i64 pt)] h = some (.v (.bool true), h1) := by
  refine (s3_16 (k0 := hu) (k1 := hc) (k2 := hn) (k3 := hp0) (k4 := hr) (k5 := k1) (k6 := hlo) (k7 := k2) (k8 := hhi) (k9 := k3) (k10 := hdd) (k11 := rfl) (k12 := eqZ_self _) (k13 := eqZ_self _) (k14 := k4) (k15 := hlo) (k16 := k5) (k17 := rfl) (k18 := hhi) (k19 := k6) ..).trans ?_
  cases b2 <;> rfl
theorem leaf17 (m : Int) (xs xa xb : List (List AV)) (pt x : Int) (h h1 : Heap) (n d c1 c2 d1 d2 : Int) (b2 : Bool) (hu : callF (cxZ m) (blk (cxZ m)) 6 [] h = some (.v (.bool true), h1)) (hc : callF (cxZ m) (blk (cxZ m)) 7 [.v (.imm xs)] h1 = some (.tup [.int .i64 n, .int .i64 d], h1)) (hn : ltZ (Int.ofNat 2000) n = false) (hp0 : ltZ pt (Int.ofNat 0) = false)
    (hr : binF (Cx.P (cxZ m)) .rem 3 false (.int .i64 pt) (.int .i64 (IntKind.wrap .i64 (Int.ofNat (Nat.succ xs.length)))) = some (.int .i64 x))
    (k1 : callF (cxZ m) (blk (cxZ m)) 8 [.v (.imm xs)] h1 = some (.tup [.int .i64 (IntKind.wrap .i64 (c1 + c2)), .int .i64 d1], h1))
    (k2 : callF (cxZ m) (blk (cxZ m)) 8 [.v (.imm xa)] h1 = some (.tup [.int .i64 c1, .int .i64 d1], h1)) (k3 : callF (cxZ m) (blk (cxZ m)) 8 [.v (.imm xb)] h1 = some (.tup [.int .i64 c2, .int .i64 d2], h1))
    (k4 : callF (cxZ m) (blk (cxZ m)) 9 [.v (.imm xs)] h1 = some (.v (.bool (false && b2)), h1)) (k5 : callF (cxZ m) (blk (cxZ m)) 9 [.v (.imm xa)] h1 = some (.v (.bool false), h1)) 
    (hlo : slA (Cx.P (cxZ m)) 22 (AV.imm xs) none (some x) = some (AV.imm xa)) (hhi : slA (Cx.P (cxZ m)) 22 (AV.imm xs) (some x) none = some (AV.imm xb)) (hdd : ltZ d1 d2 = false) : blk (cxZ m) 3 (body_ Tryd.prog 3) [.v (.imm xs), .v (.int .i64 pt)] h = some (.v (.bool true), h1) := by
  refine (s3_17 (k0 := hu) (k1 := hc) (k2 := hn) (k3 := hp0) (k4 := hr) (k5 := k1) (k6 := hlo) (k7 := k2) (k8 := hhi) (k9 := k3) (k10 := hdd) (k11 := rfl) (k12 := eqZ_self _) (k13 := eqZ_self _) (k14 := k4) (k15 := hlo) (k16 := k5) (k17 := rfl) ..).trans ?_
  cases b2 <;> rfl
theorem side_neg (m : Int) (l : List Ins) (pt : Int) (k : Nat) (h h1 : Heap) (n d c1 c2 d1 d2 : Int) (b1 b2 : Bool) (hk : k ≤ l.length) (hu : callF (cxZ m) (blk (cxZ m)) 6 [] h = some (.v (.bool true), h1)) (hc : callF (cxZ m) (blk (cxZ m)) 7 [.v (.imm (encIs l))] h1 = some (.tup [.int .i64 n, .int .i64 d], h1)) (hn : ltZ (Int.ofNat 2000) n = false) (hp0 : ltZ pt (Int.ofNat 0) = true)
    (hr : binF (Cx.P (cxZ m)) .rem 3 false (.int .i64 (IntKind.wrap IntKind.i64 (Int.ofNat 0 - IntKind.wrap IntKind.i64 (pt + Int.ofNat 1)))) (.int .i64 (IntKind.wrap .i64 (Int.ofNat (Nat.succ (encIs l).length)))) = some (.int .i64 (Int.ofNat k)))
    (k1 : callF (cxZ m) (blk (cxZ m)) 8 [.v (.imm (encIs l))] h1 = some (.tup [.int .i64 (IntKind.wrap .i64 (c1 + c2)), .int .i64 (max d1 d2)], h1))
    (k2 : callF (cxZ m) (blk (cxZ m)) 8 [.v (.imm (encIs (l.take k)))] h1 = some (.tup [.int .i64 c1, .int .i64 d1], h1)) (k3 : callF (cxZ m) (blk (cxZ m)) 8 [.v (.imm (encIs (l.drop k)))] h1 = some (.tup [.int .i64 c2, .int .i64 d2], h1))
    (k4 : callF (cxZ m) (blk (cxZ m)) 9 [.v (.imm (encIs l))] h1 = some (.v (.bool (b1 && b2)), h1)) (k5 : callF (cxZ m) (blk (cxZ m)) 9 [.v (.imm (encIs (l.take k)))] h1 = some (.v (.bool b1), h1)) (k6 : callF (cxZ m) (blk (cxZ m)) 9 [.v (.imm (encIs (l.drop k)))] h1 = some (.v (.bool b2), h1)) :
    blk (cxZ m) 3 (body_ Tryd.prog 3) [.v (.imm (encIs l)), .v (.int .i64 pt)] h = some (.v (.bool true), h1) := by
  have hlo := sl_lo (m := m) l k hk
  have hhi := sl_hi (m := m) l k hk
  cases hdd : ltZ d1 d2 with
  | true =>
    have e : max d1 d2 = d2 := by have := of_decide_eq_true ((ltZ_eq _ _).symm.trans hdd); omega
    rw [e] at k1
    cases b1 with
    | true => exact leaf1 m _ _ _ pt _ h h1 n d c1 c2 d1 d2 b2 hu hc hn hp0 hr k1 k2 k3 k4 k5 k6 hlo hhi hdd
    | false => exact leaf2 m _ _ _ pt _ h h1 n d c1 c2 d1 d2 b2 hu hc hn hp0 hr k1 k2 k3 k4 k5 hlo hhi hdd
  | false =>
    have e : max d1 d2 = d1 := by have := of_decide_eq_false ((ltZ_eq _ _).symm.trans hdd); omega
    rw [e] at k1
    cases b1 with
    | true => exact leaf6 m _ _ _ pt _ h h1 n d c1 c2 d1 d2 b2 hu hc hn hp0 hr k1 k2 k3 k4 k5 k6 hlo hhi hdd
    | false => exact leaf7 m _ _ _ pt _ h h1 n d c1 c2 d1 d2 b2 hu hc hn hp0 hr k1 k2 k3 k4 k5 hlo hhi hdd
theorem side_pos (m : Int) (l : List Ins) (pt : Int) (k : Nat) (h h1 : Heap) (n d c1 c2 d1 d2 : Int) (b1 b2 : Bool) (hk : k ≤ l.length) (hu : callF (cxZ m) (blk (cxZ m)) 6 [] h = some (.v (.bool true), h1)) (hc : callF (cxZ m) (blk (cxZ m)) 7 [.v (.imm (encIs l))] h1 = some (.tup [.int .i64 n, .int .i64 d], h1)) (hn : ltZ (Int.ofNat 2000) n = false) (hp0 : ltZ pt (Int.ofNat 0) = false)
    (hr : binF (Cx.P (cxZ m)) .rem 3 false (.int .i64 pt) (.int .i64 (IntKind.wrap .i64 (Int.ofNat (Nat.succ (encIs l).length)))) = some (.int .i64 (Int.ofNat k)))
    (k1 : callF (cxZ m) (blk (cxZ m)) 8 [.v (.imm (encIs l))] h1 = some (.tup [.int .i64 (IntKind.wrap .i64 (c1 + c2)), .int .i64 (max d1 d2)], h1))
    (k2 : callF (cxZ m) (blk (cxZ m)) 8 [.v (.imm (encIs (l.take k)))] h1 = some (.tup [.int .i64 c1, .int .i64 d1], h1)) (k3 : callF (cxZ m) (blk (cxZ m)) 8 [.v (.imm (encIs (l.drop k)))] h1 = some (.tup [.int .i64 c2, .int .i64 d2], h1))
    (k4 : callF (cxZ m) (blk (cxZ m)) 9 [.v (.imm (encIs l))] h1 = some (.v (.bool (b1 && b2)), h1)) (k5 : callF (cxZ m) (blk (cxZ m)) 9 [.v (.imm (encIs (l.take k)))] h1 = some (.v (.bool b1), h1)) (k6 : callF (cxZ m) (blk (cxZ m)) 9 [.v (.imm (encIs (l.drop k)))] h1 = some (.v (.bool b2), h1)) :
    blk (cxZ m) 3 (body_ Tryd.prog 3) [.v (.imm (encIs l)), .v (.int .i64 pt)] h = some (.v (.bool true), h1) := by
  have hlo := sl_lo (m := m) l k hk
  have hhi := sl_hi (m := m) l k hk
  cases hdd : ltZ d1 d2 with
  | true =>
    have e : max d1 d2 = d2 := by have := of_decide_eq_true ((ltZ_eq _ _).symm.trans hdd); omega
    rw [e] at k1
    cases b1 with
    | true => exact leaf11 m _ _ _ pt _ h h1 n d c1 c2 d1 d2 b2 hu hc hn hp0 hr k1 k2 k3 k4 k5 k6 hlo hhi hdd
    | false => exact leaf12 m _ _ _ pt _ h h1 n d c1 c2 d1 d2 b2 hu hc hn hp0 hr k1 k2 k3 k4 k5 hlo hhi hdd
  | false =>
    have e : max d1 d2 = d1 := by have := of_decide_eq_false ((ltZ_eq _ _).symm.trans hdd); omega
    rw [e] at k1
    cases b1 with
    | true => exact leaf16 m _ _ _ pt _ h h1 n d c1 c2 d1 d2 b2 hu hc hn hp0 hr k1 k2 k3 k4 k5 k6 hlo hhi hdd
    | false => exact leaf17 m _ _ _ pt _ h h1 n d c1 c2 d1 d2 b2 hu hc hn hp0 hr k1 k2 k3 k4 k5 hlo hhi hdd
theorem neg3 (m : Int) (l : List Ins) (hl : l.length ≤ maxLen) (hf : ∀ x, x ∈ l → Fit x) (pt : Int) (hp : -9223372036854775808 ≤ pt) (h h1 : Heap) (n d : Int) (hu : callF (cxZ m) (blk (cxZ m)) 6 [] h = some (.v (.bool true), h1)) (hc : callF (cxZ m) (blk (cxZ m)) 7 [.v (.imm (encIs l))] h1 = some (.tup [.int .i64 n, .int .i64 d], h1)) (hn : ltZ (Int.ofNat 2000) n = false) (hp0 : ltZ pt (Int.ofNat 0) = true) :
    blk (cxZ m) 3 (body_ Tryd.prog 3) [.v (.imm (encIs l)), .v (.int .i64 pt)] h = some (.v (.bool true), h1) := by
  have hp1 : pt < 0 := of_decide_eq_true ((ltZ_eq _ _).symm.trans hp0)
  have hq : IntKind.wrap IntKind.i64 (Int.ofNat 0 - IntKind.wrap IntKind.i64 (pt + Int.ofNat 1)) = -(pt + 1) := by
    simp only [IntKind.wrap_i64, show ∀ n : Nat, Int.ofNat n = (n : Int) from fun _ => rfl]
    omega
  obtain ⟨hz, k, hk, hat⟩ := at_of (-(pt + 1)) l.length hl (by omega) (by omega)
  have hr := rem_eq (m := m) (x := -(pt + 1)) hz
  rw [hat, ← hq, ← encIs_len] at hr
  have hlt : (l.take k).length ≤ maxLen := by rw [List.length_take]; omega
  have hld : (l.drop k).length ≤ maxLen := by rw [List.length_drop]; omega
  have hft : ∀ x, x ∈ l.take k → Fit x := fun x hx => hf x (List.mem_of_mem_take hx)
  have hfd : ∀ x, x ∈ l.drop k → Fit x := fun x hx => hf x (List.mem_of_mem_drop hx)
  exact side_neg m l pt k h h1 n d _ _ _ _ _ _ hk hu hc hn hp0 hr (split3 m l hl hf k h1) (t_c0 m _ hlt hft h1) (t_c0 m _ hld hfd h1) (split4 m l hl hf k h1) (may9 m _ hlt hft h1) (may9 m _ hld hfd h1)
theorem pos3 (m : Int) (l : List Ins) (hl : l.length ≤ maxLen) (hf : ∀ x, x ∈ l → Fit x) (pt : Int) (hp : pt < 9223372036854775808) (h h1 : Heap) (n d : Int) (hu : callF (cxZ m) (blk (cxZ m)) 6 [] h = some (.v (.bool true), h1)) (hc : callF (cxZ m) (blk (cxZ m)) 7 [.v (.imm (encIs l))] h1 = some (.tup [.int .i64 n, .int .i64 d], h1)) (hn : ltZ (Int.ofNat 2000) n = false) (hp0 : ltZ pt (Int.ofNat 0) = false) :
    blk (cxZ m) 3 (body_ Tryd.prog 3) [.v (.imm (encIs l)), .v (.int .i64 pt)] h = some (.v (.bool true), h1) := by
  have hp1 : ¬ pt < 0 := of_decide_eq_false ((ltZ_eq _ _).symm.trans hp0)
  obtain ⟨hz, k, hk, hat⟩ := at_of pt l.length hl (by omega) (by omega)
  have hr := rem_eq (m := m) (x := pt) hz
  rw [hat, ← encIs_len] at hr
  have hlt : (l.take k).length ≤ maxLen := by rw [List.length_take]; omega
  have hld : (l.drop k).length ≤ maxLen := by rw [List.length_drop]; omega
  have hft : ∀ x, x ∈ l.take k → Fit x := fun x hx => hf x (List.mem_of_mem_take hx)
  have hfd : ∀ x, x ∈ l.drop k → Fit x := fun x hx => hf x (List.mem_of_mem_drop hx)
  exact side_pos m l pt k h h1 n d _ _ _ _ _ _ hk hu hc hn hp0 hr (split3 m l hl hf k h1) (t_c0 m _ hlt hft h1) (t_c0 m _ hld hfd h1) (split4 m l hl hf k h1) (may9 m _ hlt hft h1) (may9 m _ hld hfd h1)
theorem law3 (m : Int) (l : List Ins) (hl : l.length ≤ maxLen) (hf : ∀ x, x ∈ l → Fit x) (pt : Int) (hp : -9223372036854775808 ≤ pt ∧ pt < 9223372036854775808) (h : Heap) :
    ∃ h', blk (cxZ m) 3 (body_ Tryd.prog 3) [.v (.imm (encIs l)), .v (.int .i64 pt)] h = some (.v (.bool true), h') := by
  obtain ⟨h1, hu⟩ := up6 m h
  obtain ⟨n, d, hc⟩ := count7 m l hl hf
  refine ⟨h1, ?_⟩
  cases hn : ltZ (Int.ofNat 2000) n with
  | true => exact s3_0 (k0 := hu) (k1 := hc h1) (k2 := hn) ..
  | false =>
    cases hp0 : ltZ pt (Int.ofNat 0) with
    | true => exact neg3 m l hl hf pt hp.1 h h1 n d hu (hc h1) hn hp0
    | false => exact pos3 m l hl hf pt hp.2 h h1 n d hu (hc h1) hn hp0
end Go.Proofs.YtmgjnbhofkchmaaDoor
