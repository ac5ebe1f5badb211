/-
  ExprStays, as the machine answers it: the whole.
-/
import Derived.Test.YthcjapmfchidhaaGreatDoorAmS6LwC
import Derived.Test.YthcjapmfchidhaaGreatDoorAmS6HwZ
namespace Go.Proofs.YthcjapmfchidhaaGreatDoor
set_option maxRecDepth 100000
open Go Go.Proofs.Am
namespace H
theorem get12_nil {m : Int} (h : Heap) : ∃ h' id, callF (cxZ m) (blk (cxZ m)) 12 [.v .nilE, .v (.int .i64 (Int.ofNat 0))] h = some (.tup [.imm [], .int .i64 (Int.ofNat 0), .ifc 63 (.ptr id 0)], h') ∧ (∀ q, q < h.bx.length → h'.bx[q]? = h.bx[q]?) := by
 have hb : (Heap.mk (h.bx ++ [[LV.v .nilE, .v (.int .i64 (Int.ofNat 0)), .v (.int .i64 (Int.ofNat 0)), .v .nilI]]) h.mp).bx[h.bx.length]? = some [LV.v .nilE, .v (.int .i64 (Int.ofNat 0)), .v (.int .i64 (Int.ofNat 0)), .v .nilI] := by
  show (h.bx ++ _)[h.bx.length]? = _
  rw [List.getElem?_append_right (Nat.le_refl _), Nat.sub_self]; rfl
 let g : Heap := ⟨h.bx ++ [[LV.v .nilE, .v (.int .i64 (Int.ofNat 0)), .v (.int .i64 (Int.ofNat 0)), .v .nilI]], h.mp⟩
 have l0 : ldP g (.ptr h.bx.length 0) 1 false = some .nilE := ldP_at hb rfl
 have l1 : ldP g (.ptr h.bx.length 1) 1 false = some (.int .i64 (Int.ofNat 0)) := ldP_at hb rfl
 have l3 : ldP g (.ptr h.bx.length 3) 1 false = some .nilI := ldP_at hb rfl
 have hlt : h.bx.length < g.bx.length := by show _ < (h.bx ++ _).length; rw [List.length_append]; exact Nat.lt_succ_self _
 have hb2 : (Heap.mk (g.bx ++ [[LV.v (.int .i64 (Int.ofNat 0)), .v (.ifc 32 (.int .i64 (Int.ofNat 2)))]]) g.mp).bx[h.bx.length]? = some [LV.v .nilE, .v (.int .i64 (Int.ofNat 0)), .v (.int .i64 (Int.ofNat 0)), .v .nilI] := by
  show (g.bx ++ _)[h.bx.length]? = _
  rw [List.getElem?_append_left hlt]; exact hb
 have hst := stP_at (x := .v (.ifc 63 (.ptr g.bx.length 0))) hb2 (k := 3) (by decide : 3 < 4)
 have qn : binF Tryz.prog .eql 28 true .nilI .nilI = some (.bool true) := by kernel_rfl
 have nn : binF Tryz.prog .neq 28 true .nilI .nilI = some (.bool false) := by kernel_rfl
 have ns : binF Tryz.prog .neq 28 true (.ifc 63 (.ptr g.bx.length 0)) .nilI = some (.bool true) := by kernel_rfl
 have k24 := callF_of (cx := cxZ m) rfl rfl (by kernel_rfl) (p24_0 (m := m) (z := Int.ofNat 0) (c := Int.ofNat 2) (k0 := l3) (k1 := qn) (k2 := rfl) (k3 := hst))
 have k40 := callF_of (cx := cxZ m) rfl rfl (by kernel_rfl) (p40_1 (m := m) (k0 := l3) (k1 := nn) (k2 := rfl) (k3 := l1) (k4 := l0) (k5 := rfl) (k6 := rfl) (k7 := l0) (k8 := rfl) (k9 := k24))
 have e3 : (Heap.put (Heap.mk (g.bx ++ [[LV.v (.int .i64 (Int.ofNat 0)), .v (.ifc 32 (.int .i64 (Int.ofNat 2)))]]) g.mp) h.bx.length ([LV.v .nilE, .v (.int .i64 (Int.ofNat 0)), .v (.int .i64 (Int.ofNat 0)), .v .nilI].set 3 (.v (.ifc 63 (.ptr g.bx.length 0))))).bx[h.bx.length]? = some [LV.v .nilE, .v (.int .i64 (Int.ofNat 0)), .v (.int .i64 (Int.ofNat 0)), .v (.ifc 63 (.ptr g.bx.length 0))] := by rw [put_same hb2]; rfl
 have l3' := ldP_at (k := 3) e3 rfl
 have k23 := callF_of (cx := cxZ m) rfl rfl (by kernel_rfl) (p23_0 (m := m) (d := Int.ofNat 0) (k0 := p23_2_0 (k0 := l3) (k1 := qn) (k2 := rfl) (k3 := l1) (k4 := k40) (k5 := l3') (k6 := ns) (k7 := rfl)))
 refine ⟨_, g.bx.length, callF_of rfl rfl (by kernel_rfl) (p12e_4 (k0 := rfl) (k1 := rfl) (k2 := k23) (k3 := rfl) (k4 := l3') (k5 := ns) (k6 := rfl) (k7 := l3')), fun q hq => ?_⟩
 rw [put_ne (Ne.symm (Nat.ne_of_lt hq))]
 show (g.bx ++ _)[q]? = _
 rw [List.getElem?_append_left (Nat.lt_trans hq hlt)]
 show (h.bx ++ _)[q]? = _
 rw [List.getElem?_append_left hq]
end H
end Go.Proofs.YthcjapmfchidhaaGreatDoor
namespace Go.Proofs.YthcjapmfchidhaaGreatDoor.L
set_option maxRecDepth 100000
open Go Go.Proofs.Am
section
variable {m : Int}
theorem run_eq {cx : Cx} {f : FuncId} {xs : List LV} {h : Heap} {y : LV × Heap} {fn : Func} (hf : cx.P.funcs[f]? = some fn) (hs : fn.body.isSome = true) (he : cx.ext f = none) (hh : cx.exh f = none) (hr : cx.exr f = none) (hy : callF cx (blk cx) f xs h = some y) : runE cx f xs h = some y := by
 obtain ⟨c, hc⟩ := Option.isSome_iff_exists.1 hs
 have := callF_inv (cx := cx) hf hc he hh hr hy
 unfold runE
 rw [body_eq hf hc]
 exact this
theorem cnt_L {xs : List Ins} (hl : cL xs < 2 ^ 61) (h : Heap) : callF (cxL m) (blk (cxL m)) 8 [.v (.imm (encIs xs))] h = some (.tup [.int .i64 (nL xs : Int), .int .i64 (dL xs : Int)], h) :=
 callF_exh (e := runE (cxZ m) 8) rfl rfl rfl (run_eq Tryz.func8 (by kernel_rfl) rfl rfl rfl (cnt8 hl h))
theorem copy_L {xs : List Ins} (hc : cL xs < 2 ^ 40) (h : Heap) : callF (cxL m) (blk (cxL m)) 17 [.v (.imm (encIs xs))] h = some (.v (.imm (encIs xs)), h) :=
 callF_exh (e := runE (cxZ m) 17) rfl rfl rfl (run_eq Tryz.func17 (by kernel_rfl) rfl rfl rfl ((all_of (allL_Z (m := m) xs hc) (by have := cL_len xs; omega)).2.1 h))
theorem self_L {xs : List Ins} (hc : cL xs < 2 ^ 40) (h : Heap) : callF (cxL m) (blk (cxL m)) 15 [.v (.imm (encIs xs)), .v (.imm (encIs xs))] h = some (.v (.bool true), h) :=
 callF_exh (e := runE (cxZ m) 15) rfl rfl rfl (run_eq Tryz.func15 (by kernel_rfl) rfl rfl rfl (self15 hc h))
theorem over9 {X : LL} {B : LL} {hd : Bool} {own : LL} {e : AV} {was : ByteArray} {id n : Nat} (hn : n < 2 ^ 61) : ∀ (k i : Nat) {h : Heap}, i + k = n → (∃ bx, h.bx[id]? = some bx ∧ bx.length = n) →
  ∃ h', h'.bx ≠ [] ∧ ∀ r, blk (cxL m) 6 (at_ Tryz.prog 6 9) [.v (.imm X), .v (.imm B), .v (.bool hd), .v (.imm own), .v (.arr 1 id 0 n), .v e, .v (.str was), .v (.int .i64 (n : Int))] h' = some r →
   blk (cxL m) 6 (at_ Tryz.prog 6 9) [.v (.imm X), .v (.imm B), .v (.bool hd), .v (.imm own), .v (.arr 1 id 0 n), .v e, .v (.str was), .v (.int .i64 (i : Int))] h = some r
 | 0, i, h, hi, ⟨bx, hb, hl⟩ => by
  obtain rfl : i = n := by omega
  exact ⟨h, fun e0 => by rw [e0] at hb; simp at hb, fun r hr => hr⟩
 | k + 1, i, h, hi, ⟨bx, hb, hl⟩ => by
  have hp := ixP_arr (n := 1) (id := id) (len := n) (i := (i : Int)) (k := i) rfl (by omega)
  have hst := stP_at (x := .v (.int .u8 (Int.ofNat 9))) hb (k := i * 1) (by omega)
  obtain ⟨h', h1, h2⟩ := over9 hn k (i + 1) (h := h.put id (bx.set (i * 1) (.v (.int .u8 (Int.ofNat 9))))) (by omega) ⟨_, put_same hb, by rw [List.length_set]; exact hl⟩
  refine ⟨h', h1, fun r hr => p6_9_0 (k0 := rfl) (k1 := ltZ_t (by omega)) (k2 := hp) (k3 := hst) (k4 := ?_)⟩
  have := h2 r hr
  rw [show ((i + 1 : Nat) : Int) = IntKind.wrap .i64 ((i : Int) + Int.ofNat 1) from by rw [ofN, wrapI (by unfold InZ; omega)]; omega] at this
  exact this
theorem over17 {X B own x kept : LL} {hd : Bool} {e q f g : AV} {was : ByteArray} {id n : Nat} (hn : n < 2 ^ 61) : ∀ (k i : Nat) {h : Heap}, i + k = n → (∃ bx, h.bx[id]? = some bx ∧ bx.length = n) →
  ∃ h', ∀ r, blk (cxL m) 6 (at_ Tryz.prog 6 17) [.v (.imm X), .v (.imm B), .v (.bool hd), .v (.imm own), .v e, .v (.str was), .v q, .v f, .v (.arr 1 id 0 n), .v (.imm x), .v g, .v (.imm kept), .v (.int .i64 (n : Int))] h' = some r →
   blk (cxL m) 6 (at_ Tryz.prog 6 17) [.v (.imm X), .v (.imm B), .v (.bool hd), .v (.imm own), .v e, .v (.str was), .v q, .v f, .v (.arr 1 id 0 n), .v (.imm x), .v g, .v (.imm kept), .v (.int .i64 (i : Int))] h = some r
 | 0, i, h, hi, _ => by
  obtain rfl : i = n := by omega
  exact ⟨h, fun r hr => hr⟩
 | k + 1, i, h, hi, ⟨bx, hb, hl⟩ => by
  have hp := ixP_arr (n := 1) (id := id) (len := n) (i := (i : Int)) (k := i) rfl (by omega)
  have hst := stP_at (x := .v (.int .u8 (Int.ofNat 1))) hb (k := i * 1) (by omega)
  obtain ⟨h', h2⟩ := over17 hn k (i + 1) (h := h.put id (bx.set (i * 1) (.v (.int .u8 (Int.ofNat 1))))) (by omega) ⟨_, put_same hb, by rw [List.length_set]; exact hl⟩
  refine ⟨h', fun r hr => p6_17_0 (k0 := rfl) (k1 := ltZ_t (by omega)) (k2 := hp) (k3 := hst) (k4 := ?_)⟩
  have := h2 r hr
  rw [show ((i + 1 : Nat) : Int) = IntKind.wrap .i64 ((i : Int) + Int.ofNat 1) from by rw [ofN, wrapI (by unfold InZ; omega)]; omega] at this
  exact this
def eP (xs : List Ins) : AV := if mayL opI xs = true then .nilI else .ifc 32 (.int .i64 (Int.ofNat 1))
def bP (xs : List Ins) : List Nat := if mayL opI xs = true then lstB opI xs ++ [11] else []
theorem qP (xs : List Ins) : ∃ b, binF Tryz.prog .eql 28 true (eP xs) .nilI = some (.bool b) := by
 unfold eP
 split
 ·exact ⟨true, by kernel_rfl⟩
 ·exact ⟨false, by kernel_rfl⟩
theorem bP_lt {xs : List Ins} : ∀ x, x ∈ bP xs → x < 256 := fun x hx => by
 unfold bP at hx
 split at hx
 ·rename_i hm
  rcases List.mem_append.1 hx with hx | hx
  ·exact lstB_lt opLaw xs hm x hx
  ·rcases List.mem_singleton.1 hx with rfl; omega
 ·cases hx
def xG (bs : List Nat) : List Ins := match pExpr opI floB bs 0 with | .ok r => r.1 | .error _ => []
theorem xG_c (bs : List Nat) : cL (xG bs) < 2 ^ 40 := by
 unfold xG
 cases h : pExpr opI floB bs 0 with
 | error e => show cL [] < _; rw [cL]; decide
 | ok r =>
  obtain ⟨s1, s2, s3, s4, s5, s6, s7⟩ := expr_ok (xs := r.1) (q := r.2) (Nat.zero_le _) h
  have := small_c s6 s3
  show cL r.1 < _
  omega
def TG (bs : List Nat) (x : LV) : Prop := ∃ n g, x = .tup [.imm (encIs (xG bs)), .int .i64 n, g] ∧ binF Tryz.prog .eql 28 true g .nilI = some (.bool (match pExpr opI floB bs 0 with | .ok _ => true | .error _ => false))
theorem TG_of {h h' : Heap} {bs : List Nat} {x : LV} (H : GetR h h' bs 0 x) : TG bs x := by
 obtain ⟨_, _, H⟩ := H
 unfold TG xG
 cases he : pExpr opI floB bs 0 with
 | ok r => rw [he] at H; exact ⟨_, _, H, by kernel_rfl⟩
 | error e =>
  rw [he] at H
  obtain ⟨id, _, H, _⟩ := H
  exact ⟨_, _, H, by kernel_rfl⟩
theorem get_imm {bs : List Nat} (hb : ∀ x, x ∈ bs → x < 256) (hl : bs.length < 2 ^ 61) (h : Heap) : ∃ h' x, callF (cxL m) (blk (cxL m)) 12 [.v (.imm (encBy bs)), .v (.int .i64 (Int.ofNat 0))] h = some (x, h') ∧ TG bs x := by
 obtain ⟨h', x, hc, R⟩ := get12 (m := m) hb hl (Nat.zero_le _) h
 exact ⟨h', x, callF_exh (e := getE m) rfl rfl rfl (run_eq Tryz.func12 (by kernel_rfl) rfl rfl rfl hc), TG_of R⟩
theorem get_arr {bs : List Nat} (hb : ∀ x, x ∈ bs → x < 256) (hl : bs.length < 2 ^ 61) {h : Heap} {I : Nat} (Hs : h.bx[I]? = some (cellsB bs)) : ∃ h' x, callF (cxL m) (blk (cxL m)) 12 [.v (.arr 1 I 0 bs.length), .v (.int .i64 (Int.ofNat 0))] h = some (x, h') ∧ TG bs x ∧ h'.bx[I]? = some (cellsB bs) := by
 obtain ⟨h', x, hc, R⟩ := H.get12 (m := m) hb hl (Nat.zero_le _) h Hs
 refine ⟨h', x, callF_exh (e := getE m) rfl rfl rfl (run_eq (cx := H.cxZ m) Tryz.func12 (by kernel_rfl) rfl rfl rfl hc), TG_of R, ?_⟩
 rw [R.1 I (List.getElem?_eq_some_iff.1 Hs).1]
 exact Hs
theorem get_nil (h : Heap) : ∃ h' x, callF (cxL m) (blk (cxL m)) 12 [.v .nilE, .v (.int .i64 (Int.ofNat 0))] h = some (x, h') ∧ TG [] x := by
 obtain ⟨h', id, hc, _⟩ := H.get12_nil (m := m) h
 exact ⟨h', _, callF_exh (e := getE m) rfl rfl rfl (run_eq (cx := H.cxZ m) Tryz.func12 (by kernel_rfl) rfl rfl rfl hc), _, _, rfl, by kernel_rfl⟩
end
end Go.Proofs.YthcjapmfchidhaaGreatDoor.L
namespace Go.Proofs.YthcjapmfchidhaaGreatDoor.L
set_option maxRecDepth 100000
open Go Go.Proofs.Am
section
variable {m : Int}
theorem last17 {xs : List Ins} {bs : List Nat} (hb : ∀ x, x ∈ bs → x < 256) (hl : bs.length < 2 ^ 61) (hc : cL xs < 2 ^ 40) {mi g : AV} {n : Nat} (hmi : lnS mi = some (n : Int))
  (hg : binF Tryz.prog .eql 28 true g .nilI = some (.bool (match pExpr opI floB bs 0 with | .ok _ => true | .error _ => false))) (h : Heap) :
  ∃ h', blk (cxL m) 6 (at_ Tryz.prog 6 17) [.v (.imm (encIs xs)), .v (.imm (encBy bs)), .v (.bool true), .v (.imm (encIs xs)), .v (eP xs), .v (.str (txt (bP xs))), .v (.imm (encBy (bP xs))), .v (eP xs), .v mi, .v (.imm (encIs (xG bs))), .v g, .v (.imm (encIs (xG bs))), .v (.int .i64 (n : Int))] h = some (.v (.bool true), h') := by
 obtain ⟨h1, x, k2, n2, g2, rfl, q2⟩ := get_imm (m := m) hb hl h
 obtain ⟨b, qb⟩ := qP xs
 exact ⟨h1, p6_17_1 (k0 := hmi) (k1 := ltZ_f (Int.le_refl _)) (k2 := k2) (k3 := rfl) (k4 := self_L hc h1) (k5 := rfl) (k6 := qb) (k7 := qb) (k8 := beq_self_eq_true _) (k9 := cv_by (m := m) bP_lt) (k10 := beq_self_eq_true _) (k11 := hg) (k12 := q2) (k13 := beq_self_eq_true _) (k14 := self_L (xG_c bs) h1) (k15 := rfl) (k16 := self_L (xG_c bs) h1)⟩
theorem ap_nilE {bs : List Nat} (hp : bs ≠ []) (hl : bs.length < 2 ^ 40) (h : Heap) : apG h .nilE 1 1 (encBy bs) = some (.arr 1 h.bx.length 0 bs.length, ⟨h.bx ++ [cellsB bs], h.mp⟩) := by
 cases bs with
 | nil => exact absurd rfl hp
 | cons b bs =>
  show apH h .nilE 1 1 (encBy (b :: bs)) = _
  unfold apH
  simp only
  rw [encBy_fit, encBy_len, roomB (by omega), flat_by]
  rfl
theorem stage9 {xs : List Ins} {bs : List Nat} (hb : ∀ x, x ∈ bs → x < 256) (hl : bs.length ≤ 3000) (hc : cL xs < 2 ^ 40) {p : AV} {n : Nat} (hp : lnS p = some (n : Int)) {h : Heap}
  (k2 : callF (cxL m) (blk (cxL m)) 9 [.v (.imm (encIs xs))] h = some (.tup [.imm (encBy (bP xs)), eP xs], h)) :
  ∃ h', blk (cxL m) 6 (at_ Tryz.prog 6 9) [.v (.imm (encIs xs)), .v (.imm (encBy bs)), .v (.bool true), .v (.imm (encIs xs)), .v p, .v (eP xs), .v (.str (txt (bP xs))), .v (.int .i64 (n : Int))] h = some (.v (.bool true), h') := by
 by_cases h0 : bs = []
 ·subst h0
  obtain ⟨h1, x, k3, n3, g3, rfl, q3⟩ := get_nil (m := m) h
  have k4 := copy_L (m := m) (xG_c []) h1
  obtain ⟨h', e⟩ := last17 (m := m) hb (by decide) hc (mi := .nilE) (n := 0) rfl q3 h1
  exact ⟨h', p6_9z_1 (k0 := hp) (k1 := ltZ_f (Int.le_refl _)) (k2 := k2) (k3 := k3) (k4 := k4) (k5 := e)⟩
 ·have k3 := ap_nilE h0 (by omega) h
  have hs : (Heap.mk (h.bx ++ [cellsB bs]) h.mp).bx[h.bx.length]? = some (cellsB bs) := by
   show (h.bx ++ _)[h.bx.length]? = _
   rw [List.getElem?_append_right (Nat.le_refl _), Nat.sub_self]; rfl
  obtain ⟨h1, x, k4, ⟨n3, g3, rfl, q3⟩, hs1⟩ := get_arr (m := m) hb (by omega) hs
  have k5 := copy_L (m := m) (xG_c bs) h1
  obtain ⟨h2, go⟩ := over17 (m := m) (X := encIs xs) (B := encBy bs) (own := encIs xs) (x := encIs (xG bs)) (kept := encIs (xG bs)) (hd := true) (e := eP xs) (q := .imm (encBy (bP xs))) (f := eP xs) (g := g3) (was := txt (bP xs)) (id := h.bx.length) (n := bs.length) (by omega) bs.length 0 (by omega) ⟨_, hs1, cellsB_len bs⟩
  obtain ⟨h', e⟩ := last17 (m := m) hb (by omega) hc (mi := .arr 1 h.bx.length 0 bs.length) (n := bs.length) rfl q3 h2
  exact ⟨h', p6_9_1 (k0 := hp) (k1 := ltZ_f (Int.le_refl _)) (k2 := k2) (k3 := k3) (k4 := k4) (k5 := k5) (k6 := go _ e)⟩
theorem putV_eq (xs : List Ins) : putV xs = .tup [.imm (encBy (bP xs)), eP xs] := by
 unfold putV bP eP
 cases mayL opI xs <;> rfl
theorem put_again {xs : List Ins} (hv : v64L xs = true) (hc : 32 * cL xs + 1 ≤ 68719476736) {h : Heap} (hh : h.bx ≠ []) : callF (cxL m) (blk (cxL m)) 9 [.v (.imm (encIs xs))] h = some (.tup [.imm (encBy (bP xs)), eP xs], h) := by
 refine callF_exh (e := putE m) rfl rfl rfl ?_
 have := run_eq (cx := cxZ m) Tryz.func9 (by kernel_rfl) rfl rfl rfl (put9 (m := m) hv hc h)
 rw [putV_eq] at this
 unfold putE
 cases e : h.bx with
 | nil => exact absurd e hh
 | cons a l => exact this
theorem put_first {xs : List Ins} {y : LV × Heap} (h : blk (H.cxZ m) 9 (body_ Tryz.prog 9) [.v (.imm (encIs xs))] Heap.nil = some y) : callF (cxL m) (blk (cxL m)) 9 [.v (.imm (encIs xs))] Heap.nil = some y :=
 callF_exh (e := putE m) rfl rfl rfl h
theorem cv_arr {bs : List Nat} (hb : ∀ x, x ∈ bs → x < 256) {h : Heap} {id : Nat} (H : SlN h id bs) : cvH (Cx.P (cxL m)) h 26 9 (.arr 1 id 0 bs.length) = some (.v (.str (txt bs))) := by
 obtain ⟨h1, h2⟩ := H
 have hcp : cpyL (((cellsB bs).drop 0).take bs.length) = some (bs.map fun (x : Nat) => AV.int .u8 (x : Int)) := by
  rw [List.drop_zero, List.take_of_length_le (by rw [cellsB_len]; exact Nat.le_refl _)]
  unfold cellsB
  clear h1 h2 hb
  induction bs with
  | nil => rfl
  | cons b bs ih =>
   rw [List.map_cons, List.map_cons]
   unfold cpyL
   rw [ih]
   rfl
 have e : cvH (Cx.P (cxL m)) h 26 9 (.arr 1 id 0 bs.length) = (srcC h (.arr 1 id 0 bs.length)).bind fun cs => bif Nat.blt 0 cs.length then (bytesOf (cs.map fun c => [c])).bind fun r => some (.v (.str ⟨r.toArray⟩)) else none := by kernel_rfl
 rw [e]
 have hs : srcC h (.arr 1 id 0 bs.length) = some (bs.map fun (x : Nat) => AV.int .u8 (x : Int)) := by
  unfold srcC
  simp only [Nat.beq_refl, cond_true, h1, Option.bind_some, hcp, List.length_map]
 rw [hs, Option.bind_some, List.length_map, show Nat.blt 0 bs.length = true from by rw [Nat.blt_eq]; exact h2, cond_true, List.map_map]
 have := bytes_by hb
 unfold encBy at this
 show (bytesOf (bs.map fun (x : Nat) => [AV.int .u8 (x : Int)])).bind _ = _
 rw [this]
 rfl
theorem blk6 {xs : List Ins} {bs : List Nat} (hv : v64L xs = true) (hc : cL xs ≤ 1048576) (hb : ∀ x, x ∈ bs → x < 256) :
  ∃ h', blk (cxL m) 6 (body_ Tryz.prog 6) [.v (.imm (encIs xs)), .v (.imm (encBy bs))] Heap.nil = some (.v (.bool true), h') := by
 have hn := cnt_L (m := m) (xs := xs) (by omega) Heap.nil
 by_cases q1 : 2000 < nL xs
 ·exact ⟨_, p6_0 (k0 := hn) (k1 := ltZ_t (by rw [ofN]; omega))⟩
 have k1 : ltZ (Int.ofNat 2000) (nL xs : Int) = false := ltZ_f (by rw [ofN]; omega)
 by_cases q2 : 3000 < bs.length
 ·exact ⟨_, p6_1 (k0 := hn) (k1 := k1) (k2 := ltZ_t (by rw [ofN, ofN, encBy_len]; omega))⟩
 have k2 : ltZ (Int.ofNat 3000) (Int.ofNat (encBy bs).length) = false := ltZ_f (by rw [ofN, ofN, encBy_len]; omega)
 have k3 := copy_L (m := m) (xs := xs) (by omega) Heap.nil
 have hlen := lstB_len opI xs
 rcases H.put9 (m := m) hv (by omega) Heap.nil with ⟨hm, hp⟩ | ⟨hm, id, h1, hp, H1⟩
 ·have k4 := put_first (m := m) hp
  have eb : bP xs = [] := by unfold bP; rw [hm]; rfl
  have ee : eP xs = .ifc 32 (.int .i64 (Int.ofNat 1)) := by unfold eP; rw [hm]; rfl
  have k5 : cvH (Cx.P (cxL m)) Heap.nil 26 9 (.imm []) = some (.v (.str (txt []))) := cv_by (m := m) (bs := []) (fun x hx => by cases hx)
  obtain ⟨h', e⟩ := stage9 (m := m) (xs := xs) (bs := bs) hb (by omega) (by omega) (p := .imm []) (n := 0) rfl (h := Heap.nil) (by rw [eb, ee]; exact k4)
  rw [eb, ee] at e
  exact ⟨h', p6_2 (k0 := hn) (k1 := k1) (k2 := k2) (k3 := k3) (k4 := k4) (k5 := k5) (k6 := e)⟩
 ·have k4 := put_first (m := m) hp
  have eb : bP xs = lstB opI xs ++ [11] := by unfold bP; rw [hm]; rfl
  have ee : eP xs = .nilI := by unfold eP; rw [hm]; rfl
  rw [← eb] at H1 k4
  have k5 := cv_arr (m := m) bP_lt H1
  obtain ⟨h2, hne, go⟩ := over9 (m := m) (X := encIs xs) (B := encBy bs) (hd := true) (own := encIs xs) (e := eP xs) (was := txt (bP xs)) (id := id) (n := (bP xs).length) (by rw [eb, List.length_append, List.length_singleton]; omega) (bP xs).length 0 (by omega) ⟨_, H1.1, cellsB_len _⟩
  obtain ⟨h', e⟩ := stage9 (m := m) (xs := xs) (bs := bs) hb (by omega) (by omega) (p := .arr 1 id 0 (bP xs).length) (n := (bP xs).length) rfl (put_again (m := m) hv (by omega) hne)
  have := go _ e
  rw [ee] at this
  exact ⟨h', p6_2 (k0 := hn) (k1 := k1) (k2 := k2) (k3 := k3) (k4 := k4) (k5 := k5) (k6 := this)⟩
end
end Go.Proofs.YthcjapmfchidhaaGreatDoor.L
