/-
  What comes in: scopes and code of small bulk; the package-level variables.
-/
import Derived.Test.YtjelldpjopdimaaDoorAmMod
import Derived.Test.YtjelldpjopdimaaDoorAmS13u
import Derived.Test.YtjelldpjopdimaaDoorTie
import Derived.Test.YtjelldpjopdimaaDoorCards
import Derived.WalkKit
import Derived.ProofKit
import Derived.OpenShut
import Derived.LaidMore
import Derived.Stop.Joined
import Derived.SevenTiedAt

namespace Go.Proofs.YtjelldpjopdimaaDoor
open Go.ChangeShapes Go.WideShapes Go.ChangeAt Go.RowKit Go.Proofs.Am

theorem own : ownKnob Tryd.prog.godebug = none := by kernel_rfl
theorem gA : Tryd.prog.globalNamed "strings.asciiSpace" = some 0 := by kernel_rfl
theorem tA : (Tryd.prog.globals[0]?).map (·.type) = some 95 := by kernel_rfl
theorem asciiD : avD Tryd.prog 3 95 (Rows.laid_strings_asciiSpace (H := Unit)) = some asciiL := by kernel_rfl
theorem glob_ok {W : World} {l : List (String × DataW Unit)} (hl : l = Rows.bodyMoreRow.laid) (h : laidMetH Tryd.prog l W) (hs : W.ShapedOpen Tryd.prog) : ∃ m : Int, GOk (cxZ m) W (gFull W) := by
  subst hl
  obtain ⟨m, hm⟩ := cell_of_shapedOpen_int (g := 2) (t := 3) (zero := #[.int .i64 0]) (k := .i64) hs (of_decide_eq_true (by kernel_rfl)) (by kernel_rfl) rfl (by kernel_rfl) (by kernel_rfl) Tryd.underlying3
  refine ⟨m, ?_⟩
  rw [MakeChecks.laidMetH_plain _ _ _ (by kernel_rfl)] at h
  obtain ⟨ps, ⟨g0, t0, cs0, f0, p0, q0, hg0, ht0, hv0, hd0, ⟨g1, t1, cs1, f1, p1, q1, hg1, ht1, hv1, hd1, _, _⟩, _⟩, _, _⟩ := h
  obtain rfl := Option.some.inj (gA.symm.trans hg1)
  obtain rfl := Option.some.inj (tA.symm.trans ht1)
  obtain ⟨ys, _, e1, r1⟩ := var_rep (n := 3) (gFull_full W) hg1 hv1 (by kernel_rfl) hd1
  rw [show avD Tryd.prog 3 95 _ = some asciiL from asciiD] at e1
  cases e1
  intro i cs hi
  match i, hi with
  | 0, hi => cases hi; exact r1
  | 1, hi => cases hi
  | 2, hi =>
    cases hi
    exact .snap _ _ _ (fun _ => .int .i64 m) (fun j c hj => by
      cases j with
      | zero => simp at hj; subst hj; exact ⟨gFull_full W _ _ _ hm, hm, rfl⟩
      | succ j => simp at hj) (fun j c hj => by
      cases j with
      | zero => simp at hj; subst hj; exact .int _ _
      | succ j => simp at hj)
  | n + 3, hi => cases hi

/-! ### Bulk -/
mutual
def bkA : AV → Nat
  | .imm xs => bkLL xs + 1
  | .snap cs => bkL cs + 1
  | .agg cs => bkL cs + 1
  | _ => 1
def bkL : List AV → Nat
  | [] => 0
  | x :: xs => bkA x + bkL xs
def bkLL : List (List AV) → Nat
  | [] => 0
  | x :: xs => bkL x + bkLL xs
end
theorem bkL_app : ∀ xs ys : List AV, bkL (xs ++ ys) = bkL xs + bkL ys
  | [], ys => by simp [bkL]
  | x :: xs, ys => by rw [List.cons_append, bkL, bkL, bkL_app xs ys]; omega
theorem bkL_flat : ∀ xs : List (List AV), bkL xs.flatten = bkLL xs
  | [] => rfl
  | x :: xs => by rw [List.flatten_cons, bkL_app, bkLL, bkL_flat xs]
theorem bk_map {H A : Type} {f : A → Option (List AV)} {g : A → DataW H} (hf : ∀ a ys, f a = some ys → bkL ys ≤ Rows.uptoBulk (g a)) : ∀ (l : List A) (yss : List (List AV)), l.mapM f = some yss → bkLL yss ≤ Rows.uptoBulkAll (l.map g)
  | [], yss, h => by simp at h; subst h; exact Nat.le_refl _
  | a :: l, yss, h => by
    rw [List.mapM_cons] at h
    simp only [Option.bind_eq_bind, Option.bind_eq_some_iff] at h
    obtain ⟨y, hy, zs, hz, h⟩ := h
    simp only [Option.pure_def, Option.some.injEq] at h
    subst h
    have h1 := hf a y hy
    have h2 := bk_map hf l zs hz
    rw [bkLL, List.map_cons, Rows.uptoBulkAll]
    omega
theorem bk_zip {H A : Type} : ∀ (fs : List A) (ds : List (DataW H)), Rows.uptoBulkAll ((fs.zip ds).map (·.2)) ≤ Rows.uptoBulkAll ds
  | [], ds => by simp [Rows.uptoBulkAll]
  | _ :: _, [] => by simp [Rows.uptoBulkAll]
  | f :: fs, d :: ds => by
    have := bk_zip fs ds
    rw [List.zip_cons_cons, List.map_cons, Rows.uptoBulkAll, Rows.uptoBulkAll]
    exact Nat.add_le_add_left this _
theorem bk_le {H : Type} {P : Program} : ∀ (n : Nat) (t : TypeId) (d : DataW H) (ys : List AV), avD P n t d = some ys → bkL ys ≤ Rows.uptoBulk d
  | 0, _, _, _, h => by simp [avD] at h
  | n + 1, t, d, ys, h => by
    unfold avD at h
    split at h
    · cases h; simp [bkL, bkA, Rows.uptoBulk]
    · cases h; simp [bkL, bkA, Rows.uptoBulk]
    · cases h; simp [bkL, bkA, Rows.uptoBulk]
    · cases h; simp [bkL, bkA, Rows.uptoBulk]
    · obtain ⟨cs, hc, h⟩ := Option.bind_eq_some_iff.1 h
      cases h
      have := bk_le n _ _ _ hc
      simp only [bkL, bkA, Rows.uptoBulk]; omega
    · cases h; simp [bkL, bkA, bkLL, Rows.uptoBulk]
    · obtain ⟨yss, hy, h⟩ := Option.bind_eq_some_iff.1 h
      cases h
      have := bk_map (g := fun d => d) (fun a zs ha => bk_le n _ a zs ha) _ _ hy
      rw [List.map_id'] at this
      simp only [bkL, bkA, Rows.uptoBulk]; omega
    · obtain ⟨yss, hy, h⟩ := Option.bind_eq_some_iff.1 h
      cases h
      have h1 := bk_map (g := fun p : Field × DataW H => p.2) (fun a zs ha => bk_le n _ a.2 zs ha) _ _ hy
      have h2 := bk_zip (H := H) ‹Array Field›.toList ‹List (DataW H)›
      rw [bkL_flat]
      simp only [Rows.uptoBulk]
      omega
    · obtain ⟨yss, hy, h⟩ := Option.bind_eq_some_iff.1 h
      cases h
      have := bk_map (g := fun d => d) (fun a zs ha => bk_le n _ a zs ha) _ _ hy
      rw [List.map_id'] at this
      rw [bkL_flat]
      simp only [Rows.uptoBulk]; omega
    · cases h
theorem bk_len {f : Int → List AV} (hf : ∀ z, bkL (f z) = 1) : ∀ l : List Int, bkLL (l.map f) = l.length
  | [] => rfl
  | x :: l => by rw [List.map_cons, bkLL, hf, bk_len hf l, List.length_cons]; omega
theorem bk_encN (l : List Int) : bkLL (encN l) = l.length := bk_len (fun _ => rfl) l
theorem bk_ge {A : Type} {f : A → List AV} (hf : ∀ a, 1 ≤ bkL (f a)) : ∀ l : List A, l.length ≤ bkLL (l.map f) ∧ ∀ x, x ∈ l → bkL (f x) ≤ bkLL (l.map f)
  | [] => ⟨Nat.le_refl _, fun x hx => by cases hx⟩
  | a :: l => by
    obtain ⟨h1, h2⟩ := bk_ge hf l
    have := hf a
    rw [List.map_cons, bkLL, List.length_cons]
    refine ⟨by omega, fun x hx => ?_⟩
    rcases List.mem_cons.1 hx with rfl | hx
    · omega
    · have := h2 x hx; omega
mutual
theorem bk_I : ∀ x : Ins, cI x ≤ bkL (encI x)
  | .mk o a b v t l bd el q => by
    have h1 := bk_Is bd
    have h2 := bk_Is el
    rw [cI, encI]
    simp only [bkL, bkA, bk_encN]
    omega
theorem bk_Is : ∀ xs : List Ins, cL xs ≤ bkLL (encIs xs)
  | [] => Nat.le_refl _
  | x :: xs => by
    have h1 := bk_I x
    have h2 := bk_Is xs
    rw [cL, encIs, bkLL]
    omega
end

/-! ### Scopes -/
theorem insT : InsT Tryd.prog 39 3 37 23 27 4 where
  hN := Tryd.underlying3
  hV := Tryd.underlying37
  hQ := Tryd.underlying4
  hL := Tryd.underlying23
  hB := Tryd.underlying27
  fs := ⟨_, Tryd.underlying39, by kernel_rfl⟩
  hc := by kernel_rfl
theorem bN : Tryd.prog.bytesOf 3 = 8 := by kernel_rfl
theorem bI : Tryd.prog.bytesOf 39 = 120 := by kernel_rfl
theorem ftyT : StT Tryd.prog 36 [(23, 0, 1), (23, 1, 1)] 2 := ⟨⟨_, Tryd.underlying36, by kernel_rfl⟩, by kernel_rfl⟩
theorem gloT : StT Tryd.prog 41 [(3, 0, 1), (4, 1, 1), (39, 2, 9)] 11 := ⟨⟨_, Tryd.underlying41, by kernel_rfl⟩, by kernel_rfl⟩
theorem scpT : StT Tryd.prog 26 [(22, 0, 1), (23, 1, 1), (24, 2, 1), (4, 3, 1), (4, 4, 1), (23, 5, 1), (3, 6, 1)] 7 := ⟨⟨_, Tryd.underlying26, by kernel_rfl⟩, by kernel_rfl⟩
theorem z_ft {n : Nat} {ys : List AV} (hs : ShZ Tryd.prog n 36 ys) : ∃ x : FTy, ys = x.enc ∧ True := by
  obtain ⟨m, _, hl, get⟩ := z_st ftyT hs
  obtain ⟨v0, e0, _⟩ := z_ints insT.hL insT.hN bN (get _ 0 1 (by simp))
  obtain ⟨v1, e1, _⟩ := z_ints insT.hL insT.hN bN (get _ 1 1 (by simp))
  refine ⟨⟨v0, v1⟩, ?_, trivial⟩
  rw [cut_fty ys hl, e0, e1]
  rfl
theorem z_gl {n : Nat} {ys : List AV} (hs : ShZ Tryd.prog n 41 ys) : ∃ x : Glo, ys = x.enc ∧ True := by
  obtain ⟨m, _, hl, get⟩ := z_st gloT hs
  obtain ⟨v0, e0, _⟩ := z_i64 insT.hN (get _ 0 1 (by simp))
  obtain ⟨v1, e1⟩ := z_bool insT.hQ (get _ 1 1 (by simp))
  obtain ⟨v2, e2, _⟩ := z_ins insT bN bI _ _ (get _ 2 9 (by simp))
  refine ⟨⟨v0, v1, v2⟩, ?_, trivial⟩
  rw [cut_glo ys hl, e0, e1, e2]
  simp [Glo.enc]
theorem list7 {A : Type} {ys : List A} (h : ys.length = 7) : ∃ a b c d e f g, ys = [a, b, c, d, e, f, g] := by
  match ys, h with
  | [a, b, c, d, e, f, g], _ => exact ⟨a, b, c, d, e, f, g, rfl⟩
theorem z_scp {n : Nat} {ys : List AV} (hs : ShZ Tryd.prog n 26 ys) : ∃ s : Scp, ys = s.enc := by
  obtain ⟨m, _, hl, get⟩ := z_st scpT hs
  obtain ⟨c0, c1, c2, c3, c4, c5, c6, rfl⟩ := list7 hl
  obtain ⟨v0, e0, _⟩ := z_list (f := FTy.enc) (F := fun _ => True) Tryd.underlying22 rfl (fun _ _ h => z_ft h) (get 22 0 1 (by simp))
  obtain ⟨v1, e1, _⟩ := z_ints insT.hL insT.hN bN (get 23 1 1 (by simp))
  obtain ⟨v2, e2, _⟩ := z_list (f := Glo.enc) (F := fun _ => True) Tryd.underlying24 rfl (fun _ _ h => z_gl h) (get 24 2 1 (by simp))
  obtain ⟨v3, e3⟩ := z_bool insT.hQ (get 4 3 1 (by simp))
  obtain ⟨v4, e4⟩ := z_bool insT.hQ (get 4 4 1 (by simp))
  obtain ⟨v5, e5, _⟩ := z_ints insT.hL insT.hN bN (get 23 5 1 (by simp))
  obtain ⟨v6, e6, _⟩ := z_i64 insT.hN (get 3 6 1 (by simp))
  simp only [List.drop_zero, List.drop_succ_cons, List.take_succ_cons, List.take_zero, List.cons.injEq, and_true] at e0 e1 e2 e3 e4 e5 e6
  subst e0; subst e1; subst e2; subst e3; subst e4; subst e5; subst e6
  exact ⟨⟨v0, v1, v2, v3, v4, v5, v6⟩, rfl⟩
theorem small_of {s : Scp} {xs : List Ins} (h : bkL s.enc + bkL [.imm (encIs xs)] ≤ 1048576) : Small s xs := by
  have e1 : bkL s.enc = (bkLL (s.ty.map FTy.enc) + 1) + ((s.fn.length + 1) + ((bkLL (s.gl.map Glo.enc) + 1) + (1 + (1 + ((s.lo.length + 1) + (1 + 0)))))) := by
    simp only [Scp.enc, bkL, bkA, bk_encN]
  have e2 : bkL [.imm (encIs xs)] = bkLL (encIs xs) + 1 := by simp only [bkL, bkA]
  have h1 := bk_Is xs
  obtain ⟨t1, t2⟩ := bk_ge (f := FTy.enc) (fun a => by simp only [FTy.enc, bkL, bkA]; omega) s.ty
  obtain ⟨g1, _⟩ := bk_ge (f := Glo.enc) (fun a => by simp only [Glo.enc, List.cons_append, List.nil_append, bkL, bkA]; omega) s.gl
  refine ⟨by omega, fun x hx => ?_, by omega, by omega, by omega, by omega⟩
  have h2 := t2 x hx
  have h3 : bkL x.enc = (x.p.length + 1) + ((x.r.length + 1) + 0) := by simp only [FTy.enc, bkL, bkA, bk_encN]
  omega
end Go.Proofs.YtjelldpjopdimaaDoor

/-
  Law BodyStays: of all readable arguments that are small.
-/
namespace Go.Proofs.YtjelldpjopdimaaDoor
open Go.ChangeShapes Go.WideShapes Go.ChangeAt Go.RowKit Go.Proofs.Am

theorem in_of {H : Type} {ds : List (DataW H)} {xs : List AV} (hx : ShZC Tryd.prog [26, 27] xs ds) (hk : Rows.uptoSmall H ds = true) : ∃ (s : Scp) (l : List Ins), xs = [.agg s.enc, .imm (encIs l)] ∧ Small s l := by
  obtain ⟨n1, y1, xs1, d1, ds1, rfl, rfl, h1, a1, hx⟩ := zc_cons hx
  obtain ⟨n2, y2, xs2, d2, ds2, rfl, rfl, h2, a2, hx⟩ := zc_cons hx
  obtain rfl := zc_nil hx
  obtain ⟨s, rfl⟩ := z_scp h1
  obtain ⟨l, rfl, _⟩ := z_code insT bN bI h2
  have b1 := bk_le _ _ _ _ a1
  have b2 := bk_le _ _ _ _ a2
  have hk := of_decide_eq_true hk
  rw [Rows.uptoBulkAll, Rows.uptoBulkAll] at hk
  refine ⟨s, l, ?_, small_of (by omega)⟩
  rw [argV_struct Tryd.underlying26, argV_slice Tryd.underlying27]
end Go.Proofs.YtjelldpjopdimaaDoor
