/-
  Law ExprGets: the row and the card, by what the machine says of its text.
-/
import Derived.Test.YthcjapmfchidhaaGreatDoorAmUp
import Derived.Test.YthcjapmfchidhaaGreatDoorAmS6i
import Derived.Test.YthcjapmfchidhaaGreatDoorTie
import Derived.Test.YthcjapmfchidhaaGreatDoorCards
import Derived.WalkKit
import Derived.ProofKit
import Derived.OpenShut
import Derived.LaidMore
import Derived.LaidHandle
import Derived.Stop.Joined
import Derived.SevenTiedAt
namespace Go.Proofs.YthcjapmfchidhaaGreatDoor
set_option maxRecDepth 100000
open Go.ChangeShapes Go.WideShapes Go.ChangeAt Go.RowKit Go.Proofs.Am
theorem own : ownKnob Tryz.prog.godebug = none := by kernel_rfl
theorem gA : Tryz.prog.globalNamed "strings.asciiSpace" = some 1 := by kernel_rfl
theorem tyA : (Tryz.prog.globals[1]?).map (·.type) = some 141 := by kernel_rfl
theorem asciiD : avD Tryz.prog 3 141 (Rows.laid_strings_asciiSpace (H := Unit)) = some asciiL := by kernel_rfl
theorem gE : Tryz.prog.globalNamed "errors.errorType" = some 0 := by kernel_rfl
theorem rtE : (Tryz.prog.cutTypes.find? (·.1 == "internal/reflectlite.rtype")).map (·.2) = some 121 := by kernel_rfl
theorem oneRow : ((List.range 214).filter fun t => Tryz.prog.rowNamed t [101, 114, 114, 111, 114]) = [28] := by kernel_rfl
theorem tsize : Tryz.prog.types.size = 214 := by kernel_rfl
theorem hand28 : typeHandle Tryz.prog 28 = .pointer (some ⟨5, 28, none⟩) := by kernel_rfl
def laidV : List (String × DataW Unit) := [("errors.errorType", Rows.laid_errors_errorType), ("unicode.White_Space", Rows.laid_unicode_White_Space), ("strings.asciiSpace", Rows.laid_strings_asciiSpace)]
theorem glob_ok {W : World} (h : laidMetH Tryz.prog laidV W) (hs : W.ShapedOpen Tryz.prog) : ∃ m : Int, GOk (cxZ m) W (gFull W) := by
 obtain ⟨m, hm⟩ := cell_of_shapedOpen_int (g := 3) (t := 3) (zero := #[.int .i64 0]) (k := .i64) hs (of_decide_eq_true (by kernel_rfl)) (by kernel_rfl) rfl (by kernel_rfl) (by kernel_rfl) Tryz.underlying3
 have h' : laidMet Tryz.prog [("unicode.White_Space", Rows.laid_unicode_White_Space), ("strings.asciiSpace", Rows.laid_strings_asciiSpace)] W ∧ handlesMet Tryz.prog [("errors.errorType", Rows.laid_errors_errorType)] W := h
 obtain ⟨hl, hh⟩ := h'
 obtain ⟨name, u, ty, e1, e2, e3, e4, e5⟩ := hh _ (List.mem_singleton.2 rfl)
 have en : name = [101, 114, 114, 111, 114] := (Option.some.inj e1).symm
 subst en
 obtain rfl := Option.some.inj (rtE.symm.trans e2)
 have hmm : ty ∈ (List.range 214).filter fun t => Tryz.prog.rowNamed t [101, 114, 114, 111, 114] := List.mem_filter.2 ⟨List.mem_range.2 (by rw [← tsize]; exact e3), e4⟩
 rw [oneRow] at hmm
 obtain rfl := List.mem_singleton.1 hmm
 rw [hand28] at e5
 have hc : W.cell? ⟨0, 0, none⟩ = some (.iface 121 (.agg #[.pointer (some ⟨5, 28, none⟩)])) := by simpa using World.var?_cell gE e5 0
 refine ⟨m, ?_, ?_⟩
 ·obtain ⟨ps, ⟨g0, t0, cs0, f0, p0, q0, hg0, ht0, hv0, hd0, ⟨g1, t1, cs1, f1, p1, q1, hg1, ht1, hv1, hd1, _, _⟩, _⟩, _, _⟩ := hl
  obtain rfl := Option.some.inj (gA.symm.trans hg1)
  obtain rfl := Option.some.inj (tyA.symm.trans ht1)
  obtain ⟨ys, _, a1, r1⟩ := var_rep (n := 3) (gFull_full W) hg1 hv1 (by kernel_rfl) hd1
  rw [show avD Tryz.prog 3 141 _ = some asciiL from asciiD] at a1
  cases a1
  intro i cs hi
  match i, hi with
  | 0, hi => cases hi
  | 1, hi => cases hi; exact r1
  | 2, hi => cases hi
  | 3, hi =>
   cases hi
   exact .snap _ _ _ (fun _ => .int .i64 m) (fun j c hj => by
    cases j with
    | zero => simp at hj; subst hj; exact ⟨gFull_full W _ _ _ hm, hm, rfl⟩
    | succ j => simp at hj) (fun j c hj => by
    cases j with
    | zero => simp at hj; subst hj; exact .int _ _
    | succ j => simp at hj)
  | n + 4, hi => cases hi
 ·intro i v hi
  match i, hi with
  | 0, hi => cases hi; exact ⟨gFull_full W _ _ _ hc, hc⟩
  | n + 1, hi => cases hi
mutual
def bkA : AV → Nat
 | .imm xs => bkLL xs + 1
 | .snap cs => bkL cs + 1
 | .agg cs => bkL cs + 1
 | _ => 1
def bkL : List AV → Nat
 | [] => 0
 | x :: xs => bkA x + bkL xs
def bkLL : List (List AV) → Nat
 | [] => 0
 | x :: xs => bkL x + bkLL xs
end
theorem bk_len {f : Int → List AV} (hf : ∀ z, bkL (f z) = 1) : ∀ l : List Int, bkLL (l.map f) = l.length
 | [] => rfl
 | x :: l => by rw [List.map_cons, bkLL, hf, bk_len hf l, List.length_cons]; omega
theorem bk_encN (l : List Int) : bkLL (encN l) = l.length := bk_len (fun _ => rfl) l
mutual
theorem bk_I : ∀ x : Ins, cI x ≤ bkL (encI x)
 | .mk o a b v t l bd el q => by
  have h1 := bk_Is bd
  have h2 := bk_Is el
  rw [cI, encI]
  simp only [bkL, bkA, bk_encN]
  omega
theorem bk_Is : ∀ xs : List Ins, cL xs ≤ bkLL (encIs xs)
 | [] => Nat.le_refl _
 | x :: xs => by
  have h1 := bk_I x
  have h2 := bk_Is xs
  rw [cL, encIs, bkLL]
  omega
end
theorem bB1 : Tryz.prog.bytesOf 5 = 1 := by kernel_rfl
theorem bytes_in {n : Nat} {ys : List AV} (hs : ShZ Tryz.prog n 26 ys) : ∃ bs : List Nat, ys = [.imm (encBy bs)] ∧ ∀ x, x ∈ bs → x < 256 := by
 obtain ⟨l, rfl, _, hb⟩ := z_bytes Tryz.underlying26 Tryz.underlying5 bB1 hs
 refine ⟨l.map Int.toNat, ?_, fun x hx => ?_⟩
 ·congr 2
  unfold Am.encB encBy
  rw [List.map_map]
  refine List.map_congr_left fun x hx => ?_
  have := hb x hx
  show [AV.int .u8 x] = [AV.int .u8 ((x.toNat : Nat) : Int)]
  rw [Int.toNat_of_nonneg this.1]
 ·obtain ⟨y, hy, rfl⟩ := List.mem_map.1 hx
  have := hb y hy
  unfold InB at this
  omega
theorem run_of {W : World} {f : FuncId} {fn : Func} {m : Int} {xs : List LV} (hG : GOk (cxZ m) W (gFull W)) (hf : Tryz.prog.funcs[f]? = some fn) (hs : fn.body.isSome = true) (hb : (cutAt (cxZ m) f (body_ Tryz.prog f)).isNone = true)
  (hr : ∃ h', blk (cxZ m) f (body_ Tryz.prog f) xs Heap.nil = some (.v (.bool true), h')) :
  ∃ (cx : Cx) (c : Code) (h' : Heap), cx.P = Tryz.prog ∧ CxOk cx ∧ GOk cx W (gFull W) ∧ fn.body = some c ∧ cutAt cx f [.code c] = none ∧ blk cx f [.code c] xs Heap.nil = some (.v (.bool true), h') := by
 obtain ⟨c, hc, _⟩ := body_of hf hs
 obtain ⟨h', hr⟩ := hr
 rw [body_eq hf hc] at hr hb
 rw [Option.isNone_iff_eq_none] at hb
 exact ⟨cxZ m, c, h', rfl, cxZ_ok m, hG, hc, hb, hr⟩
theorem exprGets_main (W : World) (hL : laidMetH Tryz.prog Rows.exprGetsRow.laid W) (hsh : W.ShapedOpen Tryz.prog) {H : Type} (ds : List (DataW H)) (xs : List AV) (hx : ShZC Tryz.prog Tryz.f4.params.toList xs ds) :
  ∃ (cx : Cx) (c : Code) (h' : Heap), cx.P = Tryz.prog ∧ CxOk cx ∧ GOk cx W (gFull W) ∧ Tryz.f4.body = some c ∧ cutAt cx 4 [.code c] = none ∧ blk cx 4 [.code c] (xs.map .v) Heap.nil = some (.v (.bool true), h') := by
 obtain ⟨m, hG⟩ := glob_ok hL hsh
 rw [Tryz.params4] at hx
 obtain ⟨n1, y1, xs1, d1, ds1, rfl, rfl, h1, a1, hx⟩ := zc_cons hx
 obtain ⟨n2, y2, xs2, d2, ds2, rfl, rfl, h2, a2, hx⟩ := zc_cons hx
 obtain rfl := zc_nil hx
 obtain ⟨bs, rfl, hb⟩ := bytes_in h1
 obtain ⟨p, rfl, _⟩ := z_i64 Tryz.underlying3 h2
 refine run_of hG Tryz.func4 (by kernel_rfl) (by kernel_rfl) ?_
 rw [argV_slice Tryz.underlying26, argV_int Tryz.underlying3]
 exact blk4 hb p Heap.nil
end Go.Proofs.YthcjapmfchidhaaGreatDoor
namespace Go.Proofs.YthcjapmfchidhaaGreatDoor
open Go.ChangeShapes Go.WideShapes Go.ChangeAt Go.RowKit Go.Proofs.Am
set_option maxRecDepth 100000 in
theorem exprGets_lifted (os : Os) (started : os.Started) (H : Type) (enc : TypeId × Value → H) :
  ReturnsInHanded {} Tryz.checked os 4 .any (fun w args => (Rows.exprGetsSpec.pre enc Tryz.prog Tryz.f4 [] false w args ∧ laidMetH Tryz.prog Rows.exprGetsRow.laid w) ∧ sizedMet enc Tryz.prog Tryz.f4 (OpenSpec.ofChange Rows.exprGetsSpec) false w args)
   (Rows.exprGetsSpec.post enc Tryz.prog Tryz.f4 false true false false) :=
 law_liftedZ (S := [3,5,26]) (C := Tryz.checked) (tb := 4) started own (by kernel_rfl) Tryz.func4 (by kernel_rfl) Tryz.underlying4 (by kernel_rfl) rfl
  (fun ds hd => by
   match ds, hd with
   | [d0, d1], _ => exact ⟨rfl, rfl, rfl⟩) (by kernel_rfl) (by kernel_rfl) (by kernel_rfl)
  (ChangeSpec.witness_shaped (enc := enc) (C := Tryz.checked) (os := os) (X := fun w _ => laidMetH Tryz.prog Rows.exprGetsRow.laid w) false (World.doorLaid Tryz.prog 400 os) #[.slice none 0 0, .int .i64 0] 8 rfl (World.shaped_of_RefB (by kernel_rfl) (by kernel_rfl)) (by kernel_rfl) (by kernel_rfl) (by kernel_rfl)
   (laidMetH_of_parts3 (fuel := 8) (laidMet_of_run' 8 (by kernel_rfl) (by kernel_rfl)) (by kernel_rfl) (by kernel_rfl)))
  (fun W hL hsh ds xs hx => exprGets_main W hL hsh ds xs hx)
theorem exprGets_over : Rows.ExprGetsSaid :=
 OpenClaim.holds_of_wide 4 Tryz.f4 rfl rfl rfl rfl rfl rfl rfl ⟨rfl, rfl, rfl, rfl, rfl⟩ rfl rfl rfl rfl rfl (by kernel_rfl) Tryz.func4 (by kernel_rfl)
  (of_decide_eq_true (by kernel_rfl)) (by unfold Func.isWrapper; first | (rw [if_pos (by decide +kernel)]; kernel_rfl) | (rw [if_neg (by decide +kernel)]; exact ⟨rfl, rfl⟩))
  (fun os started H enc _ => exprGets_lifted os started H enc)
theorem exprGets_noStand : (List.all [26,3] fun t => !Tryz.prog.wantsStandIn t) = true := by kernel_rfl
theorem exprGets_holds : Rows.ExprGetsCardSaid :=
 Claim7.holds_tied_plain_at .later [] [.handle, .listed, .data] true (true, "d590cfb41cbcd6fef54b28cacf8f6ba8676add9702341c9cfc5b8a70e8ffbeb6") true
  exprGets_over (fun _ h => by cases h) (by kernel_rfl) (fun _ h => by cases h) exprGets_row_tie rfl ⟨rfl, rfl⟩ (by kernel_rfl) rfl
  (fun f fn hf hfn => by
   obtain rfl : f = 4 := Option.some.inj ((show Tryz.prog.funcNamed "grommet/grommetlaw06.ExprGets" = some 4 by kernel_rfl).symm.trans hf) |>.symm
   obtain rfl : fn = Tryz.f4 := (Option.some.inj (Tryz.func4.symm.trans hfn)).symm
   exact ⟨by kernel_rfl, fun j t ht => by
    rw [Tryz.params4] at ht
    have hm : t ∈ [26,3] := List.mem_of_getElem? (i := j) (by simpa using ht)
    have := List.all_eq_true.1 exprGets_noStand t hm
    cases hw : Tryz.prog.wantsStandIn t with
    | false => exact hw
    | true => rw [hw] at this; cases this⟩)
  (by kernel_rfl)
#print axioms exprGets_holds
end Go.Proofs.YthcjapmfchidhaaGreatDoor
