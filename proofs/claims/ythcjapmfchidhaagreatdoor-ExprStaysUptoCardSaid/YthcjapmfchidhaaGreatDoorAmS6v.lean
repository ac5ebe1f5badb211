/-
  What comes in: code and bytes of small bulk; the package-level variables.
-/
import Derived.Test.YthcjapmfchidhaaGreatDoorAmUp
import Derived.Test.YthcjapmfchidhaaGreatDoorAmS6i
import Derived.Test.YthcjapmfchidhaaGreatDoorTie
import Derived.Test.YthcjapmfchidhaaGreatDoorCards
import Derived.WalkKit
import Derived.ProofKit
import Derived.OpenShut
import Derived.LaidMore
import Derived.LaidHandle
import Derived.Stop.Joined
import Derived.SevenTiedAt
namespace Go.Proofs.YthcjapmfchidhaaGreatDoor
set_option maxRecDepth 100000
open Go.ChangeShapes Go.WideShapes Go.ChangeAt Go.RowKit Go.Proofs.Am
theorem own : ownKnob Tryz.prog.godebug = none := by kernel_rfl
theorem gA : Tryz.prog.globalNamed "strings.asciiSpace" = some 1 := by kernel_rfl
theorem tyA : (Tryz.prog.globals[1]?).map (·.type) = some 141 := by kernel_rfl
theorem asciiD : avD Tryz.prog 3 141 (Rows.laid_strings_asciiSpace (H := Unit)) = some asciiL := by kernel_rfl
theorem gE : Tryz.prog.globalNamed "errors.errorType" = some 0 := by kernel_rfl
theorem rtE : (Tryz.prog.cutTypes.find? (·.1 == "internal/reflectlite.rtype")).map (·.2) = some 121 := by kernel_rfl
theorem oneRow : ((List.range 214).filter fun t => Tryz.prog.rowNamed t [101, 114, 114, 111, 114]) = [28] := by kernel_rfl
theorem tsize : Tryz.prog.types.size = 214 := by kernel_rfl
theorem hand28 : typeHandle Tryz.prog 28 = .pointer (some ⟨5, 28, none⟩) := by kernel_rfl
def laidV : List (String × DataW Unit) := [("errors.errorType", Rows.laid_errors_errorType), ("unicode.White_Space", Rows.laid_unicode_White_Space), ("strings.asciiSpace", Rows.laid_strings_asciiSpace)]
theorem glob_ok {W : World} (h : laidMetH Tryz.prog laidV W) (hs : W.ShapedOpen Tryz.prog) : ∃ m : Int, GOk (cxZ m) W (gFull W) := by
 obtain ⟨m, hm⟩ := cell_of_shapedOpen_int (g := 3) (t := 3) (zero := #[.int .i64 0]) (k := .i64) hs (of_decide_eq_true (by kernel_rfl)) (by kernel_rfl) rfl (by kernel_rfl) (by kernel_rfl) Tryz.underlying3
 have h' : laidMet Tryz.prog [("unicode.White_Space", Rows.laid_unicode_White_Space), ("strings.asciiSpace", Rows.laid_strings_asciiSpace)] W ∧ handlesMet Tryz.prog [("errors.errorType", Rows.laid_errors_errorType)] W := h
 obtain ⟨hl, hh⟩ := h'
 obtain ⟨name, u, ty, e1, e2, e3, e4, e5⟩ := hh _ (List.mem_singleton.2 rfl)
 have en : name = [101, 114, 114, 111, 114] := (Option.some.inj e1).symm
 subst en
 obtain rfl := Option.some.inj (rtE.symm.trans e2)
 have hmm : ty ∈ (List.range 214).filter fun t => Tryz.prog.rowNamed t [101, 114, 114, 111, 114] := List.mem_filter.2 ⟨List.mem_range.2 (by rw [← tsize]; exact e3), e4⟩
 rw [oneRow] at hmm
 obtain rfl := List.mem_singleton.1 hmm
 rw [hand28] at e5
 have hc : W.cell? ⟨0, 0, none⟩ = some (.iface 121 (.agg #[.pointer (some ⟨5, 28, none⟩)])) := by simpa using World.var?_cell gE e5 0
 refine ⟨m, ?_, ?_⟩
 ·obtain ⟨ps, ⟨g0, t0, cs0, f0, p0, q0, hg0, ht0, hv0, hd0, ⟨g1, t1, cs1, f1, p1, q1, hg1, ht1, hv1, hd1, _, _⟩, _⟩, _, _⟩ := hl
  obtain rfl := Option.some.inj (gA.symm.trans hg1)
  obtain rfl := Option.some.inj (tyA.symm.trans ht1)
  obtain ⟨ys, _, a1, r1⟩ := var_rep (n := 3) (gFull_full W) hg1 hv1 (by kernel_rfl) hd1
  rw [show avD Tryz.prog 3 141 _ = some asciiL from asciiD] at a1
  cases a1
  intro i cs hi
  match i, hi with
  | 0, hi => cases hi
  | 1, hi => cases hi; exact r1
  | 2, hi => cases hi
  | 3, hi =>
   cases hi
   exact .snap _ _ _ (fun _ => .int .i64 m) (fun j c hj => by
    cases j with
    | zero => simp at hj; subst hj; exact ⟨gFull_full W _ _ _ hm, hm, rfl⟩
    | succ j => simp at hj) (fun j c hj => by
    cases j with
    | zero => simp at hj; subst hj; exact .int _ _
    | succ j => simp at hj)
  | n + 4, hi => cases hi
 ·intro i v hi
  match i, hi with
  | 0, hi => cases hi; exact ⟨gFull_full W _ _ _ hc, hc⟩
  | n + 1, hi => cases hi
mutual
def bkA : AV → Nat
 | .imm xs => bkLL xs + 1
 | .snap cs => bkL cs + 1
 | .agg cs => bkL cs + 1
 | _ => 1
def bkL : List AV → Nat
 | [] => 0
 | x :: xs => bkA x + bkL xs
def bkLL : List (List AV) → Nat
 | [] => 0
 | x :: xs => bkL x + bkLL xs
end
theorem bkL_app : ∀ xs ys : List AV, bkL (xs ++ ys) = bkL xs + bkL ys
 | [], ys => by simp [bkL]
 | x :: xs, ys => by rw [List.cons_append, bkL, bkL, bkL_app xs ys]; omega
theorem bkL_flat : ∀ xs : List (List AV), bkL xs.flatten = bkLL xs
 | [] => rfl
 | x :: xs => by rw [List.flatten_cons, bkL_app, bkLL, bkL_flat xs]
theorem bk_map {H A : Type} {f : A → Option (List AV)} {g : A → DataW H} (hf : ∀ a ys, f a = some ys → bkL ys ≤ Rows.uptoBulk (g a)) : ∀ (l : List A) (yss : List (List AV)), l.mapM f = some yss → bkLL yss ≤ Rows.uptoBulkAll (l.map g)
 | [], yss, h => by simp at h; subst h; exact Nat.le_refl _
 | a :: l, yss, h => by
  rw [List.mapM_cons] at h
  simp only [Option.bind_eq_bind, Option.bind_eq_some_iff] at h
  obtain ⟨y, hy, zs, hz, h⟩ := h
  simp only [Option.pure_def, Option.some.injEq] at h
  subst h
  have h1 := hf a y hy
  have h2 := bk_map hf l zs hz
  rw [bkLL, List.map_cons, Rows.uptoBulkAll]
  omega
theorem bk_zip {H A : Type} : ∀ (fs : List A) (ds : List (DataW H)), Rows.uptoBulkAll ((fs.zip ds).map (·.2)) ≤ Rows.uptoBulkAll ds
 | [], ds => by simp [Rows.uptoBulkAll]
 | _ :: _, [] => by simp [Rows.uptoBulkAll]
 | f :: fs, d :: ds => by
  have := bk_zip fs ds
  rw [List.zip_cons_cons, List.map_cons, Rows.uptoBulkAll, Rows.uptoBulkAll]
  exact Nat.add_le_add_left this _
theorem bk_le {H : Type} {P : Program} : ∀ (n : Nat) (t : TypeId) (d : DataW H) (ys : List AV), avD P n t d = some ys → bkL ys ≤ Rows.uptoBulk d
 | 0, _, _, _, h => by simp [avD] at h
 | n + 1, t, d, ys, h => by
  unfold avD at h
  split at h
  ·cases h; simp [bkL, bkA, Rows.uptoBulk]
  ·cases h; simp [bkL, bkA, Rows.uptoBulk]
  ·cases h; simp [bkL, bkA, Rows.uptoBulk]
  ·cases h; simp [bkL, bkA, Rows.uptoBulk]
  ·obtain ⟨cs, hc, h⟩ := Option.bind_eq_some_iff.1 h
   cases h
   have := bk_le n _ _ _ hc
   simp only [bkL, bkA, Rows.uptoBulk]; omega
  ·cases h; simp [bkL, bkA, bkLL, Rows.uptoBulk]
  ·obtain ⟨yss, hy, h⟩ := Option.bind_eq_some_iff.1 h
   cases h
   have := bk_map (g := fun d => d) (fun a zs ha => bk_le n _ a zs ha) _ _ hy
   rw [List.map_id'] at this
   simp only [bkL, bkA, Rows.uptoBulk]; omega
  ·obtain ⟨yss, hy, h⟩ := Option.bind_eq_some_iff.1 h
   cases h
   have h1 := bk_map (g := fun p : Field × DataW H => p.2) (fun a zs ha => bk_le n _ a.2 zs ha) _ _ hy
   have h2 := bk_zip (H := H) ‹Array Field›.toList ‹List (DataW H)›
   rw [bkL_flat]
   simp only [Rows.uptoBulk]
   omega
  ·obtain ⟨yss, hy, h⟩ := Option.bind_eq_some_iff.1 h
   cases h
   have := bk_map (g := fun d => d) (fun a zs ha => bk_le n _ a zs ha) _ _ hy
   rw [List.map_id'] at this
   rw [bkL_flat]
   simp only [Rows.uptoBulk]; omega
  ·cases h
theorem bk_len {f : Int → List AV} (hf : ∀ z, bkL (f z) = 1) : ∀ l : List Int, bkLL (l.map f) = l.length
 | [] => rfl
 | x :: l => by rw [List.map_cons, bkLL, hf, bk_len hf l, List.length_cons]; omega
theorem bk_encN (l : List Int) : bkLL (encN l) = l.length := bk_len (fun _ => rfl) l
mutual
theorem bk_I : ∀ x : Ins, cI x ≤ bkL (encI x)
 | .mk o a b v t l bd el q => by
  have h1 := bk_Is bd
  have h2 := bk_Is el
  rw [cI, encI]
  simp only [bkL, bkA, bk_encN]
  omega
theorem bk_Is : ∀ xs : List Ins, cL xs ≤ bkLL (encIs xs)
 | [] => Nat.le_refl _
 | x :: xs => by
  have h1 := bk_I x
  have h2 := bk_Is xs
  rw [cL, encIs, bkLL]
  omega
end
theorem insT : InsT Tryz.prog 49 3 46 47 22 4 where
 hN := Tryz.underlying3
 hV := Tryz.underlying46
 hQ := Tryz.underlying4
 hL := Tryz.underlying47
 hB := Tryz.underlying22
 fs := ⟨_, Tryz.underlying49, by kernel_rfl⟩
 hc := by kernel_rfl
theorem bN : Tryz.prog.bytesOf 3 = 8 := by kernel_rfl
theorem bI : Tryz.prog.bytesOf 49 = 120 := by kernel_rfl
theorem bB1 : Tryz.prog.bytesOf 5 = 1 := by kernel_rfl
theorem v64_fitL {xs : List Ins} (h : ∀ x, x ∈ xs → v64I x = true) : v64L xs = true := by
 induction xs with
 | nil => rfl
 | cons x xs ih =>
  rw [v64L, h x (List.mem_cons_self ..), ih fun y hy => h y (List.mem_cons_of_mem _ hy)]
  rfl
theorem v64_fit {x : Ins} (h : FitZ x) : v64I x = true := by
 induction h with
 | mk op a b v t l bd el q ho ha hb hv ht hl hbd hel h1 h2 i1 i2 =>
  rw [v64I, v64_fitL i1, v64_fitL i2, decide_eq_true hv.1, decide_eq_true hv.2]
  rfl
theorem code_in {H : Type} {n : Nat} {ys : List AV} {d : DataW H} (hs : ShZ Tryz.prog n 22 ys) (ha : avD Tryz.prog n 22 d = some ys) : ∃ l : List Ins, ys = [.imm (encIs l)] ∧ v64L l = true ∧ cL l ≤ Rows.uptoBulk d := by
 obtain ⟨l, rfl, hl⟩ := z_code insT bN bI hs
 have b1 := bk_le _ _ _ _ ha
 have b2 := bk_Is l
 have e2 : bkL [.imm (encIs l)] = bkLL (encIs l) + 1 := by simp only [bkL, bkA]
 exact ⟨l, rfl, v64_fitL fun x hx => v64_fit (hl.2 x hx), by omega⟩
theorem bytes_in {n : Nat} {ys : List AV} (hs : ShZ Tryz.prog n 26 ys) : ∃ bs : List Nat, ys = [.imm (encBy bs)] ∧ ∀ x, x ∈ bs → x < 256 := by
 obtain ⟨l, rfl, _, hb⟩ := z_bytes Tryz.underlying26 Tryz.underlying5 bB1 hs
 refine ⟨l.map Int.toNat, ?_, fun x hx => ?_⟩
 ·congr 2
  unfold Am.encB encBy
  rw [List.map_map]
  refine List.map_congr_left fun x hx => ?_
  have := hb x hx
  show [AV.int .u8 x] = [AV.int .u8 ((x.toNat : Nat) : Int)]
  rw [Int.toNat_of_nonneg this.1]
 ·obtain ⟨y, hy, rfl⟩ := List.mem_map.1 hx
  have := hb y hy
  unfold InB at this
  omega
end Go.Proofs.YthcjapmfchidhaaGreatDoor
