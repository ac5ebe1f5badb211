/-
  What op.Find tells of a name that is none, and what the law's text comes to there.
-/
import Derived.Test.YtciolmakcmpjaaaDoorAmS04n
namespace Go.Proofs.YtciolmakcmpjaaaDoor
open Go Go.Proofs.Am

theorem run14 (m : Int) (s : ByteArray) (hs : small s = true) (h : Heap) : blk (cxY m) 14 (body_ Tryd.prog 14) [.v (.str s)] h = some (.v (.bool (fl s)), h) := by
  cases hb : Nat.ble 4 s.size with
  | true =>
    have k0 : leZ (Int.ofNat 4) (Int.ofNat s.size) = true := by rw [leZ_nat]; exact hb
    have k1 : slA Tryd.prog 9 (.str s) none (some (Int.ofNat 4)) = some (.str (s.extract 0 4)) := slA_str Tryd.underlying9 rfl rfl (by omega) (Nat.le_of_ble_eq_true hb)
    have e1 : pre s (sb [102, 51, 50, 46]) = ((s.extract 0 4).toList == (sb [102, 51, 50, 46]).toList) := by
      show (Nat.ble 4 s.size && _) = _
      rw [hb, Bool.true_and]; rfl
    have e2 : pre s (sb [102, 54, 52, 46]) = ((s.extract 0 4).toList == (sb [102, 54, 52, 46]).toList) := by
      show (Nat.ble 4 s.size && _) = _
      rw [hb, Bool.true_and]; rfl
    unfold fl
    rw [e1, e2]
    cases k2 : ((s.extract 0 4).toList == (sb [102, 51, 50, 46]).toList) with
    | true => exact s14_0 m s h _ k0 k1 k2
    | false =>
      cases k4 : ((s.extract 0 4).toList == (sb [102, 54, 52, 46]).toList) with
      | true => exact s14_1 m s h _ _ k0 k1 k2 k1 k4
      | false =>
        simp only [Bool.false_or]
        cases c0 : suf s (sb [95, 102, 51, 50]) with
        | true =>
          have r : fl6 s = true := by simp only [fl6, c0, Bool.true_or]
          rw [r]
          exact s14_2 m s h _ _ true Heap.nil k0 k1 k2 k1 k4 (callSuf hs 22 (.inr rfl) c0) rfl
        | false =>
          cases c1 : suf s (sb [95, 102, 54, 52]) with
          | true =>
            have r : fl6 s = true := by simp only [fl6, c0, c1, Bool.true_or, Bool.or_true]
            rw [r]
            exact s14_3 m s h _ _ false Heap.nil true Heap.nil k0 k1 k2 k1 k4 (callSuf hs 22 (.inr rfl) c0) rfl (callSuf hs 22 (.inr rfl) c1) rfl
          | false =>
            cases c2 : suf s (sb [95, 102, 51, 50, 95, 115]) with
            | true =>
              have r : fl6 s = true := by simp only [fl6, c0, c1, c2, Bool.true_or, Bool.or_true]
              rw [r]
              exact s14_4 m s h _ _ false Heap.nil false Heap.nil true Heap.nil k0 k1 k2 k1 k4 (callSuf hs 22 (.inr rfl) c0) rfl (callSuf hs 22 (.inr rfl) c1) rfl (callSuf hs 22 (.inr rfl) c2) rfl
            | false =>
              cases c3 : suf s (sb [95, 102, 51, 50, 95, 117]) with
              | true =>
                have r : fl6 s = true := by simp only [fl6, c0, c1, c2, c3, Bool.true_or, Bool.or_true]
                rw [r]
                exact s14_5 m s h _ _ false Heap.nil false Heap.nil false Heap.nil true Heap.nil k0 k1 k2 k1 k4 (callSuf hs 22 (.inr rfl) c0) rfl (callSuf hs 22 (.inr rfl) c1) rfl (callSuf hs 22 (.inr rfl) c2) rfl (callSuf hs 22 (.inr rfl) c3) rfl
              | false =>
                cases c4 : suf s (sb [95, 102, 54, 52, 95, 115]) with
                | true =>
                  have r : fl6 s = true := by simp only [fl6, c0, c1, c2, c3, c4, Bool.true_or, Bool.or_true]
                  rw [r]
                  exact s14_6 m s h _ _ false Heap.nil false Heap.nil false Heap.nil false Heap.nil true Heap.nil k0 k1 k2 k1 k4 (callSuf hs 22 (.inr rfl) c0) rfl (callSuf hs 22 (.inr rfl) c1) rfl (callSuf hs 22 (.inr rfl) c2) rfl (callSuf hs 22 (.inr rfl) c3) rfl (callSuf hs 22 (.inr rfl) c4) rfl
                | false =>
                  have r : fl6 s = suf s (sb [95, 102, 54, 52, 95, 117]) := by simp only [fl6, c0, c1, c2, c3, c4, Bool.false_or]
                  rw [r]
                  exact s14_7 m s h _ _ false Heap.nil false Heap.nil false Heap.nil false Heap.nil false Heap.nil (suf s (sb [95, 102, 54, 52, 95, 117])) Heap.nil k0 k1 k2 k1 k4 (callSuf hs 22 (.inr rfl) c0) rfl (callSuf hs 22 (.inr rfl) c1) rfl (callSuf hs 22 (.inr rfl) c2) rfl (callSuf hs 22 (.inr rfl) c3) rfl (callSuf hs 22 (.inr rfl) c4) rfl (callSuf hs 22 (.inr rfl) rfl)
  | false =>
    have k0 : leZ (Int.ofNat 4) (Int.ofNat s.size) = false := by rw [leZ_nat]; exact hb
    have e1 : pre s (sb [102, 51, 50, 46]) = false := by
      show (Nat.ble 4 s.size && _) = _
      rw [hb, Bool.false_and]
    have e2 : pre s (sb [102, 54, 52, 46]) = false := by
      show (Nat.ble 4 s.size && _) = _
      rw [hb, Bool.false_and]
    unfold fl
    rw [e1, e2]
    simp only [Bool.false_or]
    cases c0 : suf s (sb [95, 102, 51, 50]) with
    | true =>
      have r : fl6 s = true := by simp only [fl6, c0, Bool.true_or]
      rw [r]
      exact s14_8 m s h  true Heap.nil k0 (callSuf hs 22 (.inr rfl) c0) rfl
    | false =>
      cases c1 : suf s (sb [95, 102, 54, 52]) with
      | true =>
        have r : fl6 s = true := by simp only [fl6, c0, c1, Bool.true_or, Bool.or_true]
        rw [r]
        exact s14_9 m s h  false Heap.nil true Heap.nil k0 (callSuf hs 22 (.inr rfl) c0) rfl (callSuf hs 22 (.inr rfl) c1) rfl
      | false =>
        cases c2 : suf s (sb [95, 102, 51, 50, 95, 115]) with
        | true =>
          have r : fl6 s = true := by simp only [fl6, c0, c1, c2, Bool.true_or, Bool.or_true]
          rw [r]
          exact s14_10 m s h  false Heap.nil false Heap.nil true Heap.nil k0 (callSuf hs 22 (.inr rfl) c0) rfl (callSuf hs 22 (.inr rfl) c1) rfl (callSuf hs 22 (.inr rfl) c2) rfl
        | false =>
          cases c3 : suf s (sb [95, 102, 51, 50, 95, 117]) with
          | true =>
            have r : fl6 s = true := by simp only [fl6, c0, c1, c2, c3, Bool.true_or, Bool.or_true]
            rw [r]
            exact s14_11 m s h  false Heap.nil false Heap.nil false Heap.nil true Heap.nil k0 (callSuf hs 22 (.inr rfl) c0) rfl (callSuf hs 22 (.inr rfl) c1) rfl (callSuf hs 22 (.inr rfl) c2) rfl (callSuf hs 22 (.inr rfl) c3) rfl
          | false =>
            cases c4 : suf s (sb [95, 102, 54, 52, 95, 115]) with
            | true =>
              have r : fl6 s = true := by simp only [fl6, c0, c1, c2, c3, c4, Bool.true_or, Bool.or_true]
              rw [r]
              exact s14_12 m s h  false Heap.nil false Heap.nil false Heap.nil false Heap.nil true Heap.nil k0 (callSuf hs 22 (.inr rfl) c0) rfl (callSuf hs 22 (.inr rfl) c1) rfl (callSuf hs 22 (.inr rfl) c2) rfl (callSuf hs 22 (.inr rfl) c3) rfl (callSuf hs 22 (.inr rfl) c4) rfl
            | false =>
              have r : fl6 s = suf s (sb [95, 102, 54, 52, 95, 117]) := by simp only [fl6, c0, c1, c2, c3, c4, Bool.false_or]
              rw [r]
              exact s14_13 m s h  false Heap.nil false Heap.nil false Heap.nil false Heap.nil false Heap.nil (suf s (sb [95, 102, 54, 52, 95, 117])) Heap.nil k0 (callSuf hs 22 (.inr rfl) c0) rfl (callSuf hs 22 (.inr rfl) c1) rfl (callSuf hs 22 (.inr rfl) c2) rfl (callSuf hs 22 (.inr rfl) c3) rfl (callSuf hs 22 (.inr rfl) c4) rfl (callSuf hs 22 (.inr rfl) rfl)

def rowT : List (Nat × Nat × ByteArray) := [
  (0, 1, (sb [117, 110, 114, 101, 97, 99, 104, 97, 98, 108, 101, 32, 110, 111, 112])),
  (2, 2, (sb [98, 108, 111, 99, 107, 32, 108, 111, 111, 112, 32, 105, 102])),
  (12, 3, (sb [98, 114, 32, 98, 114, 95, 105, 102, 32, 98, 114, 95, 116, 97, 98, 108, 101, 32, 114, 101, 116, 117, 114, 110])),
  (16, 4, (sb [99, 97, 108, 108, 32, 99, 97, 108, 108, 95, 105, 110, 100, 105, 114, 101, 99, 116])),
  (26, 5, (sb [100, 114, 111, 112, 32, 115, 101, 108, 101, 99, 116])),
  (32, 6, (sb [108, 111, 99, 97, 108, 46, 103, 101, 116, 32, 108, 111, 99, 97, 108, 46, 115, 101, 116, 32, 108, 111, 99, 97, 108, 46, 116, 101, 101, 32, 103, 108, 111, 98, 97, 108, 46, 103, 101, 116, 32, 103, 108, 111, 98, 97, 108, 46, 115, 101, 116])),
  (40, 7, (sb [105, 51, 50, 46, 108, 111, 97, 100, 32, 105, 54, 52, 46, 108, 111, 97, 100])),
  (44, 7, (sb [105, 51, 50, 46, 108, 111, 97, 100, 56, 95, 115, 32, 105, 51, 50, 46, 108, 111, 97, 100, 56, 95, 117, 32, 105, 51, 50, 46, 108, 111, 97, 100, 49, 54, 95, 115, 32, 105, 51, 50, 46, 108, 111, 97, 100, 49, 54, 95, 117, 32, 105, 54, 52, 46, 108, 111, 97, 100, 56, 95, 115, 32, 105, 54, 52, 46, 108, 111, 97, 100, 56, 95, 117, 32, 105, 54, 52, 46, 108, 111, 97, 100, 49, 54, 95, 115, 32, 105, 54, 52, 46, 108, 111, 97, 100, 49, 54, 95, 117, 32, 105, 54, 52, 46, 108, 111, 97, 100, 51, 50, 95, 115, 32, 105, 54, 52, 46, 108, 111, 97, 100, 51, 50, 95, 117])),
  (54, 8, (sb [105, 51, 50, 46, 115, 116, 111, 114, 101, 32, 105, 54, 52, 46, 115, 116, 111, 114, 101])),
  (58, 8, (sb [105, 51, 50, 46, 115, 116, 111, 114, 101, 56, 32, 105, 51, 50, 46, 115, 116, 111, 114, 101, 49, 54, 32, 105, 54, 52, 46, 115, 116, 111, 114, 101, 56, 32, 105, 54, 52, 46, 115, 116, 111, 114, 101, 49, 54, 32, 105, 54, 52, 46, 115, 116, 111, 114, 101, 51, 50])),
  (63, 9, (sb [109, 101, 109, 111, 114, 121, 46, 115, 105, 122, 101, 32, 109, 101, 109, 111, 114, 121, 46, 103, 114, 111, 119])),
  (65, 10, (sb [105, 51, 50, 46, 99, 111, 110, 115, 116, 32, 105, 54, 52, 46, 99, 111, 110, 115, 116])),
  (69, 11, (sb [105, 51, 50, 46, 101, 113, 122, 32, 105, 51, 50, 46, 101, 113, 32, 105, 51, 50, 46, 110, 101, 32, 105, 51, 50, 46, 108, 116, 95, 115, 32, 105, 51, 50, 46, 108, 116, 95, 117, 32, 105, 51, 50, 46, 103, 116, 95, 115, 32, 105, 51, 50, 46, 103, 116, 95, 117, 32, 105, 51, 50, 46, 108, 101, 95, 115, 32, 105, 51, 50, 46, 108, 101, 95, 117, 32, 105, 51, 50, 46, 103, 101, 95, 115, 32, 105, 51, 50, 46, 103, 101, 95, 117])),
  (80, 11, (sb [105, 54, 52, 46, 101, 113, 122, 32, 105, 54, 52, 46, 101, 113, 32, 105, 54, 52, 46, 110, 101, 32, 105, 54, 52, 46, 108, 116, 95, 115, 32, 105, 54, 52, 46, 108, 116, 95, 117, 32, 105, 54, 52, 46, 103, 116, 95, 115, 32, 105, 54, 52, 46, 103, 116, 95, 117, 32, 105, 54, 52, 46, 108, 101, 95, 115, 32, 105, 54, 52, 46, 108, 101, 95, 117, 32, 105, 54, 52, 46, 103, 101, 95, 115, 32, 105, 54, 52, 46, 103, 101, 95, 117])),
  (103, 11, (sb [105, 51, 50, 46, 99, 108, 122, 32, 105, 51, 50, 46, 99, 116, 122, 32, 105, 51, 50, 46, 112, 111, 112, 99, 110, 116, 32, 105, 51, 50, 46, 97, 100, 100, 32, 105, 51, 50, 46, 115, 117, 98, 32, 105, 51, 50, 46, 109, 117, 108, 32, 105, 51, 50, 46, 100, 105, 118, 95, 115, 32, 105, 51, 50, 46, 100, 105, 118, 95, 117, 32, 105, 51, 50, 46, 114, 101, 109, 95, 115, 32, 105, 51, 50, 46, 114, 101, 109, 95, 117, 32, 105, 51, 50, 46, 97, 110, 100, 32, 105, 51, 50, 46, 111, 114, 32, 105, 51, 50, 46, 120, 111, 114, 32, 105, 51, 50, 46, 115, 104, 108, 32, 105, 51, 50, 46, 115, 104, 114, 95, 115, 32, 105, 51, 50, 46, 115, 104, 114, 95, 117, 32, 105, 51, 50, 46, 114, 111, 116, 108, 32, 105, 51, 50, 46, 114, 111, 116, 114])),
  (121, 11, (sb [105, 54, 52, 46, 99, 108, 122, 32, 105, 54, 52, 46, 99, 116, 122, 32, 105, 54, 52, 46, 112, 111, 112, 99, 110, 116, 32, 105, 54, 52, 46, 97, 100, 100, 32, 105, 54, 52, 46, 115, 117, 98, 32, 105, 54, 52, 46, 109, 117, 108, 32, 105, 54, 52, 46, 100, 105, 118, 95, 115, 32, 105, 54, 52, 46, 100, 105, 118, 95, 117, 32, 105, 54, 52, 46, 114, 101, 109, 95, 115, 32, 105, 54, 52, 46, 114, 101, 109, 95, 117, 32, 105, 54, 52, 46, 97, 110, 100, 32, 105, 54, 52, 46, 111, 114, 32, 105, 54, 52, 46, 120, 111, 114, 32, 105, 54, 52, 46, 115, 104, 108, 32, 105, 54, 52, 46, 115, 104, 114, 95, 115, 32, 105, 54, 52, 46, 115, 104, 114, 95, 117, 32, 105, 54, 52, 46, 114, 111, 116, 108, 32, 105, 54, 52, 46, 114, 111, 116, 114])),
  (167, 11, (sb [105, 51, 50, 46, 119, 114, 97, 112, 95, 105, 54, 52])),
  (172, 11, (sb [105, 54, 52, 46, 101, 120, 116, 101, 110, 100, 95, 105, 51, 50, 95, 115, 32, 105, 54, 52, 46, 101, 120, 116, 101, 110, 100, 95, 105, 51, 50, 95, 117]))]
def encR (p : Nat × Nat × ByteArray) : List AV := [.int .i64 (.ofNat p.1), .int .i64 (.ofNat p.2.1), .str p.2.2]
def rowName : List AV → Option ByteArray
  | [.int .i64 _, .str n, .int .i64 _, .str _, .int .i64 _] => some n
  | _ => none
def isN (x : List UInt8) (r : List AV) : Bool := match rowName r with | some n => n.data.toList == x | none => false
/-- Is it the name of an operation? -/
def inS (x : List UInt8) : Bool := allL.any (isN x)
theorem rowsAll : (allL.all fun r => (rowName r).isSome) = true := by kernel_rfl
theorem rowsIn : (rowT.all fun p => ascii p.2.2 && small p.2.2 && Nat.blt (Lib.fields p.2.2.data.toList).length 100 && (Lib.fields p.2.2.data.toList).all inS) = true := by kernel_rfl
theorem run17 (m : Int) : ∃ h', blk (cxY m) 17 (body_ Tryd.prog 17) [] Heap.nil = some (.v (.imm (rowT.map encR)), h') :=
  blk_of_run (n := 2) (by kernel_rfl)
theorem rowsNp : (AV.imm (rowT.map encR)).np = true := by kernel_rfl

def strs (l : List (List UInt8)) : List (List AV) := (l.map fun x => AV.str ⟨x.toArray⟩).map fun a => [a]
theorem strs_get {l : List (List UInt8)} {i : Nat} (h : i < l.length) : ixA (.imm (strs l)) (Int.ofNat i) 1 = some [.str ⟨l[i].toArray⟩] := by
  have h0 : (0 : Int) ≤ Int.ofNat i := Int.natCast_nonneg i
  simp only [ixA, decide_eq_true h0, cond_true, strs, List.map_map, List.getElem?_map]
  rw [show (Int.ofNat i).toNat = i from rfl, List.getElem?_eq_getElem h]
  rfl
theorem strs_np : ∀ l : List (List UInt8), npLL (strs l) = true
  | [] => rfl
  | x :: l => by
    have := strs_np l
    simp only [strs, List.map_cons, npLL, npL, AV.np, Bool.true_and] at this ⊢
    exact this
/-- A text that stands nowhere in a list. -/
theorem loop24 (m : Int) (s : ByteArray) (l : List (List UInt8)) (hl : l.length < 100) (hn : ∀ x ∈ l, (s.toList == x) = false) (h : Heap) : ∀ (k i : Nat), i + k = l.length →
    blk (cxY m) 24 (at_ Tryd.prog 24 2) [.v (.imm (strs l)), .v (.str s), .v (.int .i64 (Int.ofNat l.length)), .v (.int .i64 (Int.ofNat i))] h = some (.v (.int .i64 (Int.negSucc 0)), h)
  | 0, i, hi => by
    obtain rfl : i = l.length := by omega
    exact s24_2_2 m _ s _ _ h (ltZ_false (Nat.le_refl _))
  | k + 1, i, hi => by
    have hlt : i < l.length := by omega
    refine s24_2_1 m _ s _ i h _ _ (ltZ_true hlt) (strs_get hlt) (by rw [ByteArray.toList_mk l[i]]; exact hn _ (List.getElem_mem hlt)) ?_
    rw [wrapN (by omega)]
    exact loop24 m s l hl hn h k (i + 1) (by omega)
theorem run24 (m : Int) (s : ByteArray) (l : List (List UInt8)) (hl : l.length < 100) (hn : ∀ x ∈ l, (s.toList == x) = false) (h : Heap) :
    blk (cxY m) 24 (body_ Tryd.prog 24) [.v (.imm (strs l)), .v (.str s)] h = some (.v (.int .i64 (Int.negSucc 0)), h) := by
  refine s24_0 m _ s h _ ?_
  have : (strs l).length = l.length := by simp [strs]
  rw [this]
  exact loop24 m s l hl hn h l.length 0 (by omega)
theorem callY {m : Int} {f : Nat} {xs : List LV} {h : Heap} {y : LV × Heap} (he : extY f = none) (hb : (body_ Tryd.prog f).isEmpty = false) (hc : (cutAt (cxY 0) f (body_ Tryd.prog f)).isNone = true) (hy : blk (cxY m) f (body_ Tryd.prog f) xs h = some y) : callF (cxY m) (blk (cxY m)) f xs h = some y :=
  callF_of (cx := cxY m) he hb hc hy

def zeroV : AV := .agg [.int .i64 (.ofNat 0), .str ⟨#[]⟩, .int .i64 (.ofNat 0), .imm [], .int .i64 (.ofNat 0), .int .i64 (.ofNat 0), .bool false]
/-- The loop over the rows, where the name stands in none. -/
theorem loop13 (m : Int) (s : ByteArray) (hin : inS s.toList = false) (h : Heap) : ∀ (k i : Nat), i + k = 18 →
    blk (cxY m) 13 (at_ Tryd.prog 13 4) [.v (.str s), .lp 0 0, .v .nilI, .v (.imm (rowT.map encR)), .v (.int .i64 (Int.ofNat 18)), .v (.int .i64 (Int.ofNat i)), .v (.int .i64 (Int.ofNat 0)), .v (.str ⟨#[]⟩), .v (.int .i64 (Int.ofNat 0)), .ow 1 [], .v (.int .i64 (Int.ofNat 0)), .v (.int .i64 (Int.ofNat 0)), .v (.bool false)] h =
      some (.tup [zeroV, .ifc 31 (.int .i64 (Int.ofNat 5))], h)
  | 0, i, hi => by
    obtain rfl : i = 18 := by omega
    exact s13_4_2 m s _ _ 18 h (ltZ_false (Nat.le_refl _))
  | k + 1, i, hi => by
    have hlt : i < rowT.length := by show i < 18; omega
    have hr := List.all_eq_true.1 rowsIn rowT[i] (List.getElem_mem hlt)
    simp only [Bool.and_eq_true] at hr
    obtain ⟨⟨⟨h1, h2⟩, h3⟩, h4⟩ := hr
    have hl : (Lib.fields rowT[i].2.2.data.toList).length < 100 := Nat.le_of_ble_eq_true h3
    have k1 : ixA (.imm (rowT.map encR)) (Int.ofNat i) 3 = some (encR rowT[i]) := by
      have h0 : (0 : Int) ≤ Int.ofNat i := Int.natCast_nonneg i
      simp only [ixA, decide_eq_true h0, cond_true, List.getElem?_map]
      rw [show (Int.ofNat i).toNat = i from rfl, List.getElem?_eq_getElem hlt]
      rfl
    have k2 : callF (cxY m) (blk (cxY m)) 18 [.v (.str rowT[i].2.2)] Heap.nil = some (.v (.imm (strs (Lib.fields rowT[i].2.2.data.toList))), Heap.nil) :=
      callF_ext (e := fieldsE) rfl rfl (by simp only [fieldsE, h1, h2, Bool.and_self, cond_true, strs])
    have hn : ∀ x ∈ Lib.fields rowT[i].2.2.data.toList, (s.toList == x) = false := by
      intro x hx
      cases he : (s.toList == x) with
      | false => rfl
      | true =>
        have hx' := List.all_eq_true.1 h4 x hx
        rw [beq_iff_eq] at he
        rw [← he, hin] at hx'
        cases hx'
    have k5 := callY (m := m) (f := 24) rfl (by kernel_rfl) (by kernel_rfl) (run24 m s _ hl hn Heap.nil)
    have np1 := strs_np (Lib.fields rowT[i].2.2.data.toList)
    refine s13_4_1 m s _ _ i h (.ofNat rowT[i].1) (.ofNat rowT[i].2.1) rowT[i].2.2 _ Heap.nil _ Heap.nil _ (ltZ_true (by show i < 18; omega)) k1 k2 np1 ?_ k5 rfl ?_
    · simp only [npLs, LV.np, AV.np, np1, Bool.and_self]
    · rw [wrapN (by omega)]
      exact loop13 m s hin h k (i + 1) (by omega)
theorem run13 (m : Int) (s : ByteArray) (hs : small s = true) (hin : inS s.toList = false) (h : Heap) : blk (cxY m) 13 (body_ Tryd.prog 13) [.v (.str s)] h = some (.tup [zeroV, .ifc 31 (.int .i64 (Int.ofNat (bif fl s then 3 else 5)))], h) := by
  have k0 := callY (m := m) (f := 23) rfl (by kernel_rfl) (by kernel_rfl) (run23 m s hs Heap.nil)
  cases hf : fl s with
  | true => exact s13_0 m s h _ _ k0 hf
  | false =>
    obtain ⟨h', h17⟩ := run17 m
    exact s13_1 m s h _ _ _ h' _ k0 hf (callY (m := m) (f := 17) rfl (by kernel_rfl) (by kernel_rfl) h17) rowsNp (loop13 m s hin h 18 0 rfl)

theorem same0 (m : Int) : ∃ h', blk (cxY m) 10 (body_ Tryd.prog 10) [.v zeroV, .v zeroV] Heap.nil = some (.v (.bool true), h') := blk_of_run (n := 2) (by kernel_rfl)
theorem allLen : allL.length = 102 := by kernel_rfl
/-- The law's loop over the document's table, where the name is none of it. -/
theorem loop4 (m : Int) (s : ByteArray) (hin : inS s.toList = false) (h : Heap) : ∀ (k i : Nat), i + k = 102 →
    blk (cxY m) 4 (at_ Tryd.prog 4 10) [.v (.str s), .v (.bool true), .lp 0 0, .v (.ifc 31 (.int .i64 (Int.ofNat 5))), .v (.imm allL), .v (.int .i64 (Int.ofNat i)), .v (.int .i64 (Int.ofNat 0)), .v (.str ⟨#[]⟩), .v (.int .i64 (Int.ofNat 0)), .v (.imm []), .v (.int .i64 (Int.ofNat 0)), .v (.int .i64 (Int.ofNat 0)), .v (.bool false)] h = some (.v (.bool true), h)
  | 0, i, hi => by
    obtain rfl : i = 102 := by omega
    obtain ⟨h', hs⟩ := same0 m
    exact s4_10_3 m s _ _ 102 _ _ _ _ _ _ _ h true true h' (by rw [allLen]; exact ltZ_false (Nat.le_refl _)) (by kernel_rfl) rfl rfl (callY (m := m) (f := 10) rfl (by kernel_rfl) (by kernel_rfl) hs)
  | k + 1, i, hi => by
    have hlt : i < allL.length := by rw [allLen]; omega
    have hr := List.all_eq_true.1 rowsAll allL[i] (List.getElem_mem hlt)
    have hnot : isN s.toList allL[i] = false := by
      cases he : isN s.toList allL[i] with
      | false => rfl
      | true =>
        have : inS s.toList = true := List.any_eq_true.2 ⟨_, List.getElem_mem hlt, he⟩
        rw [hin] at this; cases this
    have h0 : (0 : Int) ≤ Int.ofNat i := Int.natCast_nonneg i
    have hix : ∀ n : Nat, allL[i].length = n → ixA (.imm allL) (Int.ofNat i) n = some allL[i] := by
      intro n hn
      simp only [ixA, decide_eq_true h0, cond_true]
      rw [show (Int.ofNat i).toNat = i from rfl, List.getElem?_eq_getElem hlt]
      simp only [Option.bind_some, hn]
      rw [Nat.beq_refl, cond_true]
    generalize allL[i] = rw at hr hnot hix
    unfold rowName at hr
    split at hr
    · rename_i b n kd t y
      have hnm : (n.toList == s.toList) = false := by
        simp only [isN, rowName] at hnot
        rw [ByteArray.toList_eq n]; exact hnot
      refine s4_10_2 m s _ _ i _ _ _ _ _ _ _ h b n kd t y _ (by rw [allLen]; exact ltZ_true (by omega)) (hix 5 rfl) hnm ?_
      rw [wrapN (by omega)]
      exact loop4 m s hin h k (i + 1) (by omega)
    · cases hr
theorem run4_none (m : Int) (s : ByteArray) (hin : inS s.toList = false) (h : Heap) : blk (cxY m) 4 (body_ Tryd.prog 4) [.v (.str s)] h = some (.v (.bool true), h) := by
  cases h100 : ltZ (Int.ofNat 100) (Int.ofNat s.size) with
  | true => exact s4_0 m s h h100
  | false =>
    have hlt : s.size ≤ 100 := by
      rcases Nat.lt_or_ge 100 s.size with h | h
      · rw [ltZ_true h] at h100; cases h100
      · exact h
    have hs : small s = true := Nat.ble_eq_true_of_le (by omega)
    have k1 := callY (m := m) (f := 13) rfl (by kernel_rfl) (by kernel_rfl) (run13 m s hs hin Heap.nil)
    have k3 := callY (m := m) (f := 14) rfl (by kernel_rfl) (by kernel_rfl) (run14 m s hs Heap.nil)
    cases hf : fl s with
    | true =>
      rw [hf] at k1 k3
      obtain ⟨h', hs0⟩ := same0 m
      exact s4_1 m s h _ _ _ _ _ _ _ _ _ true _ true true h' h100 k1 rfl k3 rfl (by kernel_rfl) rfl rfl (callY (m := m) (f := 10) rfl (by kernel_rfl) (by kernel_rfl) hs0)
    | false =>
      rw [hf] at k1 k3
      exact s4_3 m s h _ _ _ _ _ _ _ _ _ false _ _ h100 k1 rfl k3 rfl (loop4 m s hin h 102 0 rfl)
end Go.Proofs.YtciolmakcmpjaaaDoor
