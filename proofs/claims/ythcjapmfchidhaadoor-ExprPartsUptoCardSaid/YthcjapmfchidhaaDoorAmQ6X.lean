/-
  Law ExprParts: the row and the card, by what the machine says of its text.
-/
import Derived.Test.YthcjapmfchidhaaDoorAmUp
import Derived.Test.YthcjapmfchidhaaDoorAmQ6i
import Derived.Test.YthcjapmfchidhaaDoorTie
import Derived.Test.YthcjapmfchidhaaDoorCards
import Derived.WalkKit
import Derived.ProofKit
import Derived.OpenShut
import Derived.LaidMore
import Derived.LaidHandle
import Derived.Stop.Joined
import Derived.SevenTiedAt
import Derived.Test.YthcjapmfchidhaaDoorAmQ6wP
namespace Go.Proofs.YthcjapmfchidhaaDoor
set_option maxRecDepth 100000
open Go.ChangeShapes Go.WideShapes Go.ChangeAt Go.RowKit Go.Proofs.Am
theorem own : ownKnob Tryd.prog.godebug = none := by kernel_rfl
theorem gA : Tryd.prog.globalNamed "strings.asciiSpace" = some 1 := by kernel_rfl
theorem tyA : (Tryd.prog.globals[1]?).map (·.type) = some 114 := by kernel_rfl
theorem asciiD : avD Tryd.prog 3 114 (Rows.laid_strings_asciiSpace (H := Unit)) = some asciiL := by kernel_rfl
theorem gE : Tryd.prog.globalNamed "errors.errorType" = some 0 := by kernel_rfl
theorem rtE : (Tryd.prog.cutTypes.find? (·.1 == "internal/reflectlite.rtype")).map (·.2) = some 96 := by kernel_rfl
theorem oneRow : ((List.range 188).filter fun t => Tryd.prog.rowNamed t [101, 114, 114, 111, 114]) = [28] := by kernel_rfl
theorem tsize : Tryd.prog.types.size = 188 := by kernel_rfl
theorem hand28 : typeHandle Tryd.prog 28 = .pointer (some ⟨5, 28, none⟩) := by kernel_rfl
def laidV : List (String × DataW Unit) := [("errors.errorType", Rows.laid_errors_errorType), ("unicode.White_Space", Rows.laid_unicode_White_Space), ("strings.asciiSpace", Rows.laid_strings_asciiSpace)]
theorem glob_ok {W : World} (h : laidMetH Tryd.prog laidV W) (hs : W.ShapedOpen Tryd.prog) : ∃ m : Int, GOk (cxZ m) W (gFull W) := by
 obtain ⟨m, hm⟩ := cell_of_shapedOpen_int (g := 3) (t := 3) (zero := #[.int .i64 0]) (k := .i64) hs (of_decide_eq_true (by kernel_rfl)) (by kernel_rfl) rfl (by kernel_rfl) (by kernel_rfl) Tryd.underlying3
 have h' : laidMet Tryd.prog [("unicode.White_Space", Rows.laid_unicode_White_Space), ("strings.asciiSpace", Rows.laid_strings_asciiSpace)] W ∧ handlesMet Tryd.prog [("errors.errorType", Rows.laid_errors_errorType)] W := h
 obtain ⟨hl, hh⟩ := h'
 obtain ⟨name, u, ty, e1, e2, e3, e4, e5⟩ := hh _ (List.mem_singleton.2 rfl)
 have en : name = [101, 114, 114, 111, 114] := (Option.some.inj e1).symm
 subst en
 obtain rfl := Option.some.inj (rtE.symm.trans e2)
 have hmm : ty ∈ (List.range 188).filter fun t => Tryd.prog.rowNamed t [101, 114, 114, 111, 114] := List.mem_filter.2 ⟨List.mem_range.2 (by rw [← tsize]; exact e3), e4⟩
 rw [oneRow] at hmm
 obtain rfl := List.mem_singleton.1 hmm
 rw [hand28] at e5
 have hc : W.cell? ⟨0, 0, none⟩ = some (.iface 96 (.agg #[.pointer (some ⟨5, 28, none⟩)])) := by simpa using World.var?_cell gE e5 0
 refine ⟨m, ?_, ?_⟩
 ·obtain ⟨ps, ⟨g0, t0, cs0, f0, p0, q0, hg0, ht0, hv0, hd0, ⟨g1, t1, cs1, f1, p1, q1, hg1, ht1, hv1, hd1, _, _⟩, _⟩, _, _⟩ := hl
  obtain rfl := Option.some.inj (gA.symm.trans hg1)
  obtain rfl := Option.some.inj (tyA.symm.trans ht1)
  obtain ⟨ys, _, a1, r1⟩ := var_rep (n := 3) (gFull_full W) hg1 hv1 (by kernel_rfl) hd1
  rw [show avD Tryd.prog 3 114 _ = some asciiL from asciiD] at a1
  cases a1
  intro i cs hi
  match i, hi with
  | 0, hi => cases hi
  | 1, hi => cases hi; exact r1
  | 2, hi => cases hi
  | 3, hi =>
   cases hi
   exact .snap _ _ _ (fun _ => .int .i64 m) (fun j c hj => by
    cases j with
    | zero => simp at hj; subst hj; exact ⟨gFull_full W _ _ _ hm, hm, rfl⟩
    | succ j => simp at hj) (fun j c hj => by
    cases j with
    | zero => simp at hj; subst hj; exact .int _ _
    | succ j => simp at hj)
  | n + 4, hi => cases hi
 ·intro i v hi
  match i, hi with
  | 0, hi => cases hi; exact ⟨gFull_full W _ _ _ hc, hc⟩
  | n + 1, hi => cases hi
mutual
def bkA : AV → Nat
 | .imm xs => bkLL xs + 1
 | .snap cs => bkL cs + 1
 | .agg cs => bkL cs + 1
 | _ => 1
def bkL : List AV → Nat
 | [] => 0
 | x :: xs => bkA x + bkL xs
def bkLL : List (List AV) → Nat
 | [] => 0
 | x :: xs => bkL x + bkLL xs
end
theorem bkL_app : ∀ xs ys : List AV, bkL (xs ++ ys) = bkL xs + bkL ys
 | [], ys => by simp [bkL]
 | x :: xs, ys => by rw [List.cons_append, bkL, bkL, bkL_app xs ys]; omega
theorem bkL_flat : ∀ xs : List (List AV), bkL xs.flatten = bkLL xs
 | [] => rfl
 | x :: xs => by rw [List.flatten_cons, bkL_app, bkLL, bkL_flat xs]
theorem bk_map {H A : Type} {f : A → Option (List AV)} {g : A → DataW H} (hf : ∀ a ys, f a = some ys → bkL ys ≤ Rows.uptoBulk (g a)) : ∀ (l : List A) (yss : List (List AV)), l.mapM f = some yss → bkLL yss ≤ Rows.uptoBulkAll (l.map g)
 | [], yss, h => by simp at h; subst h; exact Nat.le_refl _
 | a :: l, yss, h => by
  rw [List.mapM_cons] at h
  simp only [Option.bind_eq_bind, Option.bind_eq_some_iff] at h
  obtain ⟨y, hy, zs, hz, h⟩ := h
  simp only [Option.pure_def, Option.some.injEq] at h
  subst h
  have h1 := hf a y hy
  have h2 := bk_map hf l zs hz
  rw [bkLL, List.map_cons, Rows.uptoBulkAll]
  omega
theorem bk_zip {H A : Type} : ∀ (fs : List A) (ds : List (DataW H)), Rows.uptoBulkAll ((fs.zip ds).map (·.2)) ≤ Rows.uptoBulkAll ds
 | [], ds => by simp [Rows.uptoBulkAll]
 | _ :: _, [] => by simp [Rows.uptoBulkAll]
 | f :: fs, d :: ds => by
  have := bk_zip fs ds
  rw [List.zip_cons_cons, List.map_cons, Rows.uptoBulkAll, Rows.uptoBulkAll]
  exact Nat.add_le_add_left this _
theorem bk_le {H : Type} {P : Program} : ∀ (n : Nat) (t : TypeId) (d : DataW H) (ys : List AV), avD P n t d = some ys → bkL ys ≤ Rows.uptoBulk d
 | 0, _, _, _, h => by simp [avD] at h
 | n + 1, t, d, ys, h => by
  unfold avD at h
  split at h
  ·cases h; simp [bkL, bkA, Rows.uptoBulk]
  ·cases h; simp [bkL, bkA, Rows.uptoBulk]
  ·cases h; simp [bkL, bkA, Rows.uptoBulk]
  ·cases h; simp [bkL, bkA, Rows.uptoBulk]
  ·obtain ⟨cs, hc, h⟩ := Option.bind_eq_some_iff.1 h
   cases h
   have := bk_le n _ _ _ hc
   simp only [bkL, bkA, Rows.uptoBulk]; omega
  ·cases h; simp [bkL, bkA, bkLL, Rows.uptoBulk]
  ·obtain ⟨yss, hy, h⟩ := Option.bind_eq_some_iff.1 h
   cases h
   have := bk_map (g := fun d => d) (fun a zs ha => bk_le n _ a zs ha) _ _ hy
   rw [List.map_id'] at this
   simp only [bkL, bkA, Rows.uptoBulk]; omega
  ·obtain ⟨yss, hy, h⟩ := Option.bind_eq_some_iff.1 h
   cases h
   have h1 := bk_map (g := fun p : Field × DataW H => p.2) (fun a zs ha => bk_le n _ a.2 zs ha) _ _ hy
   have h2 := bk_zip (H := H) ‹Array Field›.toList ‹List (DataW H)›
   rw [bkL_flat]
   simp only [Rows.uptoBulk]
   omega
  ·obtain ⟨yss, hy, h⟩ := Option.bind_eq_some_iff.1 h
   cases h
   have := bk_map (g := fun d => d) (fun a zs ha => bk_le n _ a zs ha) _ _ hy
   rw [List.map_id'] at this
   rw [bkL_flat]
   simp only [Rows.uptoBulk]; omega
  ·cases h
theorem bk_len {f : Int → List AV} (hf : ∀ z, bkL (f z) = 1) : ∀ l : List Int, bkLL (l.map f) = l.length
 | [] => rfl
 | x :: l => by rw [List.map_cons, bkLL, hf, bk_len hf l, List.length_cons]; omega
theorem bk_encN (l : List Int) : bkLL (encN l) = l.length := bk_len (fun _ => rfl) l
mutual
theorem bk_I : ∀ x : Ins, cI x ≤ bkL (encI x)
 | .mk o a b v t l bd el q => by
  have h1 := bk_Is bd
  have h2 := bk_Is el
  rw [cI, encI]
  simp only [bkL, bkA, bk_encN]
  omega
theorem bk_Is : ∀ xs : List Ins, cL xs ≤ bkLL (encIs xs)
 | [] => Nat.le_refl _
 | x :: xs => by
  have h1 := bk_I x
  have h2 := bk_Is xs
  rw [cL, encIs, bkLL]
  omega
end
theorem insT : InsT Tryd.prog 35 3 32 33 22 4 where
 hN := Tryd.underlying3
 hV := Tryd.underlying32
 hQ := Tryd.underlying4
 hL := Tryd.underlying33
 hB := Tryd.underlying22
 fs := ⟨_, Tryd.underlying35, by kernel_rfl⟩
 hc := by kernel_rfl
theorem bN : Tryd.prog.bytesOf 3 = 8 := by kernel_rfl
theorem bI : Tryd.prog.bytesOf 35 = 120 := by kernel_rfl
theorem v64_fitL {xs : List Ins} (h : ∀ x, x ∈ xs → v64I x = true) : v64L xs = true := by
 induction xs with
 | nil => rfl
 | cons x xs ih =>
  rw [v64L, h x (List.mem_cons_self ..), ih fun y hy => h y (List.mem_cons_of_mem _ hy)]
  rfl
theorem v64_fit {x : Ins} (h : FitZ x) : v64I x = true := by
 induction h with
 | mk op a b v t l bd el q ho ha hb hv ht hl hbd hel h1 h2 i1 i2 =>
  rw [v64I, v64_fitL i1, v64_fitL i2, decide_eq_true hv.1, decide_eq_true hv.2]
  rfl
theorem code_in {H : Type} {n : Nat} {ys : List AV} {d : DataW H} (hs : ShZ Tryd.prog n 22 ys) (ha : avD Tryd.prog n 22 d = some ys) : ∃ l : List Ins, ys = [.imm (encIs l)] ∧ v64L l = true ∧ cL l ≤ Rows.uptoBulk d := by
 obtain ⟨l, rfl, hl⟩ := z_code insT bN bI hs
 have b1 := bk_le _ _ _ _ ha
 have b2 := bk_Is l
 have e2 : bkL [.imm (encIs l)] = bkLL (encIs l) + 1 := by simp only [bkL, bkA]
 exact ⟨l, rfl, v64_fitL fun x hx => v64_fit (hl.2 x hx), by omega⟩
theorem run_of {W : World} {f : FuncId} {fn : Func} {m : Int} {xs : List LV} (hG : GOk (cxZ m) W (gFull W)) (hf : Tryd.prog.funcs[f]? = some fn) (hs : fn.body.isSome = true) (hb : (cutAt (cxZ m) f (body_ Tryd.prog f)).isNone = true)
  (hr : ∃ h', blk (cxZ m) f (body_ Tryd.prog f) xs Heap.nil = some (.v (.bool true), h')) :
  ∃ (cx : Cx) (c : Code) (h' : Heap), cx.P = Tryd.prog ∧ CxOk cx ∧ GOk cx W (gFull W) ∧ fn.body = some c ∧ cutAt cx f [.code c] = none ∧ blk cx f [.code c] xs Heap.nil = some (.v (.bool true), h') := by
 obtain ⟨c, hc, _⟩ := body_of hf hs
 obtain ⟨h', hr⟩ := hr
 rw [body_eq hf hc] at hr hb
 rw [Option.isNone_iff_eq_none] at hb
 exact ⟨cxZ m, c, h', rfl, cxZ_ok m, hG, hc, hb, hr⟩
end Go.Proofs.YthcjapmfchidhaaDoor
namespace Go.Proofs.YthcjapmfchidhaaDoor
set_option maxRecDepth 100000
open Go.ChangeShapes Go.WideShapes Go.ChangeAt Go.RowKit Go.Proofs.Am
theorem mayL_app {OP : Int → Option OpR} : ∀ xs ys : List Ins, mayL OP (xs ++ ys) = (mayL OP xs && mayL OP ys) := fun xs ys => by
 rw [mayL_mem, mayL_mem, mayL_mem, List.all_append]
theorem v64L_app : ∀ xs ys : List Ins, v64L (xs ++ ys) = (v64L xs && v64L ys)
 | [], ys => by rw [v64L]; rfl
 | x :: xs, ys => by rw [List.cons_append, v64L, v64L, v64L_app xs ys, Bool.and_assoc]
theorem cL_app : ∀ xs ys : List Ins, cL (xs ++ ys) = cL xs + cL ys
 | [], ys => by rw [cL]; simp
 | x :: xs, ys => by rw [List.cons_append, cL, cL, cL_app xs ys]; omega
section
variable {m : Int}
theorem add_of (A B : List Nat) (c : Bool) (h : A.length + B.length ≤ 1000000000000) : binF (Cx.P (cxZ m)) .add 9 c (.str (txt A)) (.str (txt B)) = some (.str (txt (A ++ B))) := by
 unfold binF
 show stS .add (txt A) (txt B) = _
 unfold stS
 simp only
 rw [decide_eq_true (by rw [txt_size, txt_size]; omega), cond_true, txt_app]
theorem cut_last (B : List Nat) {z : Int} (hz : z = (B.length : Int)) : slA (Cx.P (cxZ m)) 26 (.imm (encBy (B ++ [11]))) none (some z) = some (.imm (encBy B)) := by
 have e : ∀ xs : List (List AV), slA (Cx.P (cxZ m)) 26 (.imm xs) none (some z) = bif decide ((0 : Int) ≤ 0) && decide (0 ≤ z) && decide (z ≤ (xs.length : Int)) && fitE 1 xs then some (.imm ((xs.take z.toNat).drop (0 : Int).toNat)) else none := fun xs => by kernel_rfl
 rw [e, encBy_fit, encBy_len, decide_eq_true (by omega), decide_eq_true (by omega), decide_eq_true (by rw [List.length_append, List.length_singleton]; omega), hz, Int.toNat_natCast, encBy_app, List.take_left' (encBy_len B)]
 rfl
theorem fit_is (xs : List Ins) : fitE 9 (encIs xs) = true := by
 cases xs with
 | nil => rfl
 | cons x xs =>
  obtain ⟨o, a, b, v, t, l, bd, el, q⟩ := x
  rfl
theorem ap_is {xs ys : List Ins} (h : xs.length + ys.length ≤ 100000000) : apL (.ow 9 (encIs xs)) 9 120 (encIs ys) = some (.ow 9 (encIs (xs ++ ys))) := by
 rw [ap_owned (fit_is ys) (by rw [encIs_len, encIs_len]; omega) (by decide), encIs_map, encIs_map, encIs_map, List.map_append]
theorem nCode (c : Int) : nE m (.ifc 39 (.int .i64 c)) true := by
 show binF (Cx.P (cxZ m)) .neq 28 true (.ifc 39 (.int .i64 c)) .nilI = some (.bool true)
 kernel_rfl
theorem blk3 {xs ys : List Ins} (hv : v64L xs = true) (hw : v64L ys = true) (hc : cL xs + cL ys ≤ 1048576) (h : Heap) : ∃ h', blk (cxZ m) 3 (body_ Tryd.prog 3) [.v (.imm (encIs xs)), .v (.imm (encIs ys))] h = some (.v (.bool true), h') := by
 obtain ⟨h1, hu⟩ := up7 (m := m) h
 have hn := cnt8 (m := m) (xs := xs) (by omega) h1
 have hm := cnt8 (m := m) (xs := ys) (by omega) h1
 refine ⟨h1, ?_⟩
 by_cases q1 : 1000 < nL xs
 ·exact p3_0 (k0 := hu) (k1 := hn) (k2 := hm) (k3 := ltZ_t (by rw [ofN]; omega))
 have k3 : ltZ (Int.ofNat 1000) (nL xs : Int) = false := ltZ_f (by rw [ofN]; omega)
 by_cases q2 : 1000 < nL ys
 ·exact p3_1 (k0 := hu) (k1 := hn) (k2 := hm) (k3 := k3) (k4 := ltZ_t (by rw [ofN]; omega))
 have k4 : ltZ (Int.ofNat 1000) (nL ys : Int) = false := ltZ_f (by rw [ofN]; omega)
 have lx := cL_len xs
 have ly := cL_len ys
 have k7 := ap_is (xs := []) (ys := xs) (by simp only [List.length_nil]; omega)
 have k8 := ap_is (xs := [] ++ xs) (ys := ys) (by simp only [List.nil_append]; omega)
 have kx := put9 (m := m) hv (by omega) h1
 have ky := put9 (m := m) hw (by omega) h1
 have kz := put9 (m := m) (xs := [] ++ xs ++ ys) (by rw [List.nil_append, v64L_app, hv, hw]; rfl) (by rw [List.nil_append, cL_app]; omega) h1
 unfold putV at kx ky kz
 rw [List.nil_append, mayL_app] at kz
 cases hx : mayL opI xs with
 | false =>
  rw [hx] at kx kz
  rw [if_neg (by decide)] at kx
  rw [Bool.false_and, if_neg (by decide)] at kz
  cases hy : mayL opI ys with
  | false =>
   rw [hy, if_neg (by decide)] at ky
   exact p3_2 (k0 := hu) (k1 := hn) (k2 := hm) (k3 := k3) (k4 := k4) (k5 := kx) (k6 := ky) (k7 := k7) (k8 := k8) (k9 := kz) (k10 := nCode _) (k11 := rfl) (k12 := rfl) (k13 := nCode _)
  | true =>
   rw [hy, if_pos rfl] at ky
   exact p3_2 (k0 := hu) (k1 := hn) (k2 := hm) (k3 := k3) (k4 := k4) (k5 := kx) (k6 := ky) (k7 := k7) (k8 := k8) (k9 := kz) (k10 := nCode _) (k11 := rfl) (k12 := rfl) (k13 := nCode _)
 | true =>
  rw [hx, if_pos rfl] at kx
  rw [hx, Bool.true_and] at kz
  cases hy : mayL opI ys with
  | false =>
   rw [hy, if_neg (by decide)] at ky kz
   exact p3_4 (k0 := hu) (k1 := hn) (k2 := hm) (k3 := k3) (k4 := k4) (k5 := kx) (k6 := ky) (k7 := k7) (k8 := k8) (k9 := kz) (k10 := nNil) (k11 := rfl) (k12 := nCode _) (k13 := rfl) (k14 := rfl) (k15 := nCode _)
  | true =>
   rw [hy, if_pos rfl] at ky kz
   rw [lstB_app] at kz
   have bx := lstB_lt opLaw xs hx
   have bY := lstB_lt opLaw ys hy
   have hlx := lstB_len opI xs
   have hly := lstB_len opI ys
   have b1 : ∀ z, z ∈ lstB opI ys ++ [11] → z < 256 := fun z hz => by
    rcases List.mem_append.1 hz with hz | hz
    ·exact bY z hz
    ·rcases List.mem_singleton.1 hz with rfl; omega
   have b2 : ∀ z, z ∈ lstB opI xs ++ lstB opI ys ++ [11] → z < 256 := fun z hz => by
    rw [List.append_assoc] at hz
    rcases List.mem_append.1 hz with hz | hz
    ·exact bx z hz
    ·exact b1 z hz
   have hL : (encBy (lstB opI xs ++ [11])).length = (lstB opI xs).length + 1 := by rw [encBy_len, List.length_append, List.length_singleton]
   have := p3_6 (m := m) (k0 := hu) (k1 := hn) (k2 := hm) (k3 := k3) (k4 := k4) (k5 := kx) (k6 := ky) (k7 := k7) (k8 := k8) (k9 := kz) (k10 := nNil) (k11 := rfl) (k12 := nNil) (k13 := rfl) (k14 := rfl) (k15 := qNil) (k16 := rfl)
    (k17 := ltZ_t (by rw [hL, ofN, ofN]; omega)) (k18 := cut_last (lstB opI xs) (by rw [hL, ofN, ofN, wrapI (by unfold InZ; omega)]; omega)) (k19 := cv_by bx) (k20 := cv_by b1) (k21 := add_of _ _ _ (by rw [List.length_append, List.length_singleton]; omega)) (k22 := cv_by b2)
   rw [← List.append_assoc, beq_self_eq_true] at this
   exact this
end
theorem exprParts_main (W : World) (hL : laidMetH Tryd.prog Rows.exprPartsUptoRow.laid W) (hsh : W.ShapedOpen Tryd.prog) {H : Type} (ds : List (DataW H)) (xs : List AV) (hx : ShZC Tryd.prog Tryd.f3.params.toList xs ds) (hk : Rows.uptoSmall H ds = true) :
  ∃ (cx : Cx) (c : Code) (h' : Heap), cx.P = Tryd.prog ∧ CxOk cx ∧ GOk cx W (gFull W) ∧ Tryd.f3.body = some c ∧ cutAt cx 3 [.code c] = none ∧ blk cx 3 [.code c] (xs.map .v) Heap.nil = some (.v (.bool true), h') := by
 obtain ⟨m, hG⟩ := glob_ok hL hsh
 rw [Tryd.params3] at hx
 obtain ⟨n1, y1, xs1, d1, ds1, rfl, rfl, h1, a1, hx⟩ := zc_cons hx
 obtain ⟨n2, y2, xs2, d2, ds2, rfl, rfl, h2, a2, hx⟩ := zc_cons hx
 obtain rfl := zc_nil hx
 obtain ⟨l, rfl, hv, hc⟩ := code_in h1 a1
 obtain ⟨k, rfl, hw, hd⟩ := code_in h2 a2
 have hk := of_decide_eq_true hk
 rw [Rows.uptoBulkAll, Rows.uptoBulkAll] at hk
 refine run_of hG Tryd.func3 (by kernel_rfl) (by kernel_rfl) ?_
 rw [argV_slice Tryd.underlying22, argV_slice Tryd.underlying22]
 exact blk3 hv hw (by omega) Heap.nil
end Go.Proofs.YthcjapmfchidhaaDoor
namespace Go.Proofs.YthcjapmfchidhaaDoor
open Go.ChangeShapes Go.WideShapes Go.ChangeAt Go.RowKit Go.Proofs.Am
set_option maxRecDepth 100000 in
theorem exprParts_lifted (os : Os) (started : os.Started) (H : Type) (enc : TypeId × Value → H) :
  ReturnsInHanded {} Tryd.checked os 3 .any (fun w args => ((upSpec Rows.exprPartsSpec Rows.uptoSmall).pre enc Tryd.prog Tryd.f3 [] false w args ∧ laidMetH Tryd.prog Rows.exprPartsUptoRow.laid w) ∧ sizedMet enc Tryd.prog Tryd.f3 (upSpec Rows.exprPartsSpec Rows.uptoSmall) false w args)
   (Rows.exprPartsSpec.post enc Tryd.prog Tryd.f3 false true false false) :=
 law_liftedU (S := [3,4,22,32,33,35]) (C := Tryd.checked) (tb := 4) started own (by kernel_rfl) Tryd.func3 (by kernel_rfl) Tryd.underlying4 (by kernel_rfl) rfl
  (fun ds hd => by
   match ds, hd with
   | [d0, d1], _ => exact ⟨rfl, rfl, rfl⟩) (by kernel_rfl) (by kernel_rfl) (by kernel_rfl)
  (ChangeSpec.witness_shaped (enc := enc) (C := Tryd.checked) (os := os) (X := fun w args => laidMetH Tryd.prog Rows.exprPartsUptoRow.laid w ∧ CondMet enc Tryd.prog Tryd.f3 Rows.exprPartsSpec Rows.uptoSmall w args) false (World.doorLaid Tryd.prog 400 os) #[.slice none 0 0, .slice none 0 0] 8 rfl (World.shaped_of_RefB (by kernel_rfl) (by kernel_rfl)) (by kernel_rfl) (by kernel_rfl) (by kernel_rfl)
   ⟨laidMetH_of_parts3 (fuel := 8) (laidMet_of_run' 8 (by kernel_rfl) (by kernel_rfl)) (by kernel_rfl) (by kernel_rfl), CondMet.of_run 8 (by kernel_rfl)⟩)
  (fun W hL hsh ds xs hx hk => exprParts_main W hL hsh ds xs hx hk)
theorem exprParts_over : Rows.ExprPartsUptoSaid :=
 OpenClaim.holds_of_cond 3 Tryd.f3 rfl rfl rfl rfl rfl rfl rfl ⟨rfl, rfl, rfl, rfl, rfl⟩ rfl rfl rfl rfl rfl (by kernel_rfl) Tryd.func3 (by kernel_rfl)
  (of_decide_eq_true (by kernel_rfl)) (by unfold Func.isWrapper; first | (rw [if_pos (by decide +kernel)]; kernel_rfl) | (rw [if_neg (by decide +kernel)]; exact ⟨rfl, rfl⟩))
  (fun os started H enc _ _ => exprParts_lifted os started H enc)
theorem exprParts_noStand : (List.all [22,22] fun t => !Tryd.prog.wantsStandIn t) = true := by kernel_rfl
theorem exprParts_holds : Rows.ExprPartsUptoCardSaid :=
 Claim7.holds_tied_plain_at .later [] [.handle, .listed, .data] true (true, "39ec295ac7b081f64bf67307c2f5210e37879bb03d0adc9b6e8b419f957222ed") true
  exprParts_over (fun _ h => by cases h) (by kernel_rfl) (fun _ h => by cases h) exprPartsUpto_row_tie rfl ⟨rfl, rfl⟩ (by kernel_rfl) rfl
  (fun f fn hf hfn => by
   obtain rfl : f = 3 := Option.some.inj ((show Tryd.prog.funcNamed "grommet/grommetlaw06.ExprParts" = some 3 by kernel_rfl).symm.trans hf) |>.symm
   obtain rfl : fn = Tryd.f3 := (Option.some.inj (Tryd.func3.symm.trans hfn)).symm
   exact ⟨by kernel_rfl, fun j t ht => by
    rw [Tryd.params3] at ht
    have hm : t ∈ [22,22] := List.mem_of_getElem? (i := j) (by simpa using ht)
    have := List.all_eq_true.1 exprParts_noStand t hm
    cases hw : Tryd.prog.wantsStandIn t with
    | false => exact hw
    | true => rw [hw] at this; cases this⟩)
  (by kernel_rfl)
#print axioms exprParts_holds
end Go.Proofs.YthcjapmfchidhaaDoor
