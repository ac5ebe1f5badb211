/-
  What comes in: modules of small bulk; the package-level variables; laws ValidLess and ValidMore of all readable arguments that are small.
-/
import Derived.Test.YtoblgjmllmomhaaGreatDoorAmMod
import Derived.Test.YtoblgjmllmomhaaGreatDoorAmSVq
import Derived.Test.YtoblgjmllmomhaaGreatDoorTie
import Derived.Test.YtoblgjmllmomhaaGreatDoorCards
import Derived.WalkKit
import Derived.ProofKit
import Derived.OpenShut
import Derived.LaidMore
import Derived.Stop.Joined
import Derived.SevenTiedAt
namespace Go.Proofs.YtoblgjmllmomhaaGreatDoor
set_option maxRecDepth 100000
open Go.ChangeShapes Go.WideShapes Go.ChangeAt Go.RowKit Go.Proofs.Am
theorem own : ownKnob Tryz.prog.godebug = none := by kernel_rfl
theorem gA : Tryz.prog.globalNamed "strings.asciiSpace" = some 0 := by kernel_rfl
theorem tyA : (Tryz.prog.globals[0]?).map (·.type) = some 191 := by kernel_rfl
theorem asciiD : avD Tryz.prog 3 191 (Rows.laid_strings_asciiSpace (H := Unit)) = some asciiL := by kernel_rfl
theorem glob_ok {W : World} {l : List (String × DataW Unit)} (hl : l = Rows.validLessUptoRow.laid) (h : laidMetH Tryz.prog l W) (hs : W.ShapedOpen Tryz.prog) : ∃ m : Int, GOk (cxZ m) W (gFull W) := by
 subst hl
 obtain ⟨m, hm⟩ := cell_of_shapedOpen_int (g := 2) (t := 3) (zero := #[.int .i64 0]) (k := .i64) hs (of_decide_eq_true (by kernel_rfl)) (by kernel_rfl) rfl (by kernel_rfl) (by kernel_rfl) Tryz.underlying3
 refine ⟨m, ?_⟩
 rw [MakeChecks.laidMetH_plain _ _ _ (by kernel_rfl)] at h
 obtain ⟨ps, ⟨g0, t0, cs0, f0, p0, q0, hg0, ht0, hv0, hd0, ⟨g1, t1, cs1, f1, p1, q1, hg1, ht1, hv1, hd1, _, _⟩, _⟩, _, _⟩ := h
 obtain rfl := Option.some.inj (gA.symm.trans hg1)
 obtain rfl := Option.some.inj (tyA.symm.trans ht1)
 obtain ⟨ys, _, e1, r1⟩ := var_rep (n := 3) (gFull_full W) hg1 hv1 (by kernel_rfl) hd1
 rw [show avD Tryz.prog 3 191 _ = some asciiL from asciiD] at e1
 cases e1
 intro i cs hi
 match i, hi with
 | 0, hi => cases hi; exact r1
 | 1, hi => cases hi
 | 2, hi =>
  cases hi
  exact .snap _ _ _ (fun _ => .int .i64 m) (fun j c hj => by
   cases j with
   | zero => simp at hj; subst hj; exact ⟨gFull_full W _ _ _ hm, hm, rfl⟩
   | succ j => simp at hj) (fun j c hj => by
   cases j with
   | zero => simp at hj; subst hj; exact .int _ _
   | succ j => simp at hj)
 | n + 3, hi => cases hi
mutual
def bkA : AV → Nat
 | .imm xs => bkLL xs + 1
 | .snap cs => bkL cs + 1
 | .agg cs => bkL cs + 1
 | _ => 1
def bkL : List AV → Nat
 | [] => 0
 | x :: xs => bkA x + bkL xs
def bkLL : List (List AV) → Nat
 | [] => 0
 | x :: xs => bkL x + bkLL xs
end
theorem bkL_app : ∀ xs ys : List AV, bkL (xs ++ ys) = bkL xs + bkL ys
 | [], ys => by simp [bkL]
 | x :: xs, ys => by rw [List.cons_append, bkL, bkL, bkL_app xs ys]; omega
theorem bkL_flat : ∀ xs : List (List AV), bkL xs.flatten = bkLL xs
 | [] => rfl
 | x :: xs => by rw [List.flatten_cons, bkL_app, bkLL, bkL_flat xs]
theorem bk_map {H A : Type} {f : A → Option (List AV)} {g : A → DataW H} (hf : ∀ a ys, f a = some ys → bkL ys ≤ Rows.uptoBulk (g a)) : ∀ (l : List A) (yss : List (List AV)), l.mapM f = some yss → bkLL yss ≤ Rows.uptoBulkAll (l.map g)
 | [], yss, h => by simp at h; subst h; exact Nat.le_refl _
 | a :: l, yss, h => by
  rw [List.mapM_cons] at h
  simp only [Option.bind_eq_bind, Option.bind_eq_some_iff] at h
  obtain ⟨y, hy, zs, hz, h⟩ := h
  simp only [Option.pure_def, Option.some.injEq] at h
  subst h
  have h1 := hf a y hy
  have h2 := bk_map hf l zs hz
  rw [bkLL, List.map_cons, Rows.uptoBulkAll]
  omega
theorem bk_zip {H A : Type} : ∀ (fs : List A) (ds : List (DataW H)), Rows.uptoBulkAll ((fs.zip ds).map (·.2)) ≤ Rows.uptoBulkAll ds
 | [], ds => by simp [Rows.uptoBulkAll]
 | _ :: _, [] => by simp [Rows.uptoBulkAll]
 | f :: fs, d :: ds => by
  have := bk_zip fs ds
  rw [List.zip_cons_cons, List.map_cons, Rows.uptoBulkAll, Rows.uptoBulkAll]
  exact Nat.add_le_add_left this _
theorem bk_le {H : Type} {P : Program} : ∀ (n : Nat) (t : TypeId) (d : DataW H) (ys : List AV), avD P n t d = some ys → bkL ys ≤ Rows.uptoBulk d
 | 0, _, _, _, h => by simp [avD] at h
 | n + 1, t, d, ys, h => by
  unfold avD at h
  split at h
  ·cases h; simp [bkL, bkA, Rows.uptoBulk]
  ·cases h; simp [bkL, bkA, Rows.uptoBulk]
  ·cases h; simp [bkL, bkA, Rows.uptoBulk]
  ·cases h; simp [bkL, bkA, Rows.uptoBulk]
  ·obtain ⟨cs, hc, h⟩ := Option.bind_eq_some_iff.1 h
   cases h
   have := bk_le n _ _ _ hc
   simp only [bkL, bkA, Rows.uptoBulk]; omega
  ·cases h; simp [bkL, bkA, bkLL, Rows.uptoBulk]
  ·obtain ⟨yss, hy, h⟩ := Option.bind_eq_some_iff.1 h
   cases h
   have := bk_map (g := fun d => d) (fun a zs ha => bk_le n _ a zs ha) _ _ hy
   rw [List.map_id'] at this
   simp only [bkL, bkA, Rows.uptoBulk]; omega
  ·obtain ⟨yss, hy, h⟩ := Option.bind_eq_some_iff.1 h
   cases h
   have h1 := bk_map (g := fun p : Field × DataW H => p.2) (fun a zs ha => bk_le n _ a.2 zs ha) _ _ hy
   have h2 := bk_zip (H := H) ‹Array Field›.toList ‹List (DataW H)›
   rw [bkL_flat]
   simp only [Rows.uptoBulk]
   omega
  ·obtain ⟨yss, hy, h⟩ := Option.bind_eq_some_iff.1 h
   cases h
   have := bk_map (g := fun d => d) (fun a zs ha => bk_le n _ a zs ha) _ _ hy
   rw [List.map_id'] at this
   rw [bkL_flat]
   simp only [Rows.uptoBulk]; omega
  ·cases h
theorem bk_len {f : Int → List AV} (hf : ∀ z, bkL (f z) = 1) : ∀ l : List Int, bkLL (l.map f) = l.length
 | [] => rfl
 | x :: l => by rw [List.map_cons, bkLL, hf, bk_len hf l, List.length_cons]; omega
theorem bk_encN (l : List Int) : bkLL (encN l) = l.length := bk_len (fun _ => rfl) l
theorem bk_ge {A : Type} {f : A → List AV} (hf : ∀ a, 1 ≤ bkL (f a)) : ∀ l : List A, l.length ≤ bkLL (l.map f) ∧ ∀ x, x ∈ l → bkL (f x) ≤ bkLL (l.map f)
 | [] => ⟨Nat.le_refl _, fun x hx => by cases hx⟩
 | a :: l => by
  obtain ⟨h1, h2⟩ := bk_ge hf l
  have := hf a
  rw [List.map_cons, bkLL, List.length_cons]
  refine ⟨by omega, fun x hx => ?_⟩
  rcases List.mem_cons.1 hx with rfl | hx
  ·omega
  ·have := h2 x hx; omega
mutual
theorem bk_I : ∀ x : Ins, cI x ≤ bkL (encI x)
 | .mk o a b v t l bd el q => by
  have h1 := bk_Is bd
  have h2 := bk_Is el
  rw [cI, encI]
  simp only [bkL, bkA, bk_encN]
  omega
theorem bk_Is : ∀ xs : List Ins, cL xs ≤ bkLL (encIs xs)
 | [] => Nat.le_refl _
 | x :: xs => by
  have h1 := bk_I x
  have h2 := bk_Is xs
  rw [cL, encIs, bkLL]
  omega
end
def mty : MTy := { n := 3, v := 58, l := 23, b := 27, i := 60, q := 4, s := 9, u := 5, y := 80, fty := 53, lim := 93, imp := 95, mfn := 74, glo := 77, exq := 100, ele := 79, dat := 82, cus := 88, mdl := 46, ftys := 22, lims := 40, imps := 38, mfns := 39, glos := 24, exqs := 41, eles := 42, dats := 43, cuss := 44 }
theorem modIns : InsT Tryz.prog 60 3 58 23 27 4 where
 hN := Tryz.underlying3
 hV := Tryz.underlying58
 hQ := Tryz.underlying4
 hL := Tryz.underlying23
 hB := Tryz.underlying27
 fs := ⟨_, Tryz.underlying60, by kernel_rfl⟩
 hc := by kernel_rfl
theorem modT : ModT Tryz.prog mty where
 ins := modIns
 hs := Tryz.underlying9
 hu := Tryz.underlying5
 hy := Tryz.underlying80
 bn := by kernel_rfl
 bi := by kernel_rfl
 bu := by kernel_rfl
 hfty := ⟨⟨_, Tryz.underlying53, by kernel_rfl⟩, by kernel_rfl⟩
 hftys := Tryz.underlying22
 bfty := by kernel_rfl
 hlim := ⟨⟨_, Tryz.underlying93, by kernel_rfl⟩, by kernel_rfl⟩
 hlims := Tryz.underlying40
 blim := by kernel_rfl
 himp := ⟨⟨_, Tryz.underlying95, by kernel_rfl⟩, by kernel_rfl⟩
 himps := Tryz.underlying38
 bimp := by kernel_rfl
 hmfn := ⟨⟨_, Tryz.underlying74, by kernel_rfl⟩, by kernel_rfl⟩
 hmfns := Tryz.underlying39
 bmfn := by kernel_rfl
 hglo := ⟨⟨_, Tryz.underlying77, by kernel_rfl⟩, by kernel_rfl⟩
 hglos := Tryz.underlying24
 bglo := by kernel_rfl
 hexq := ⟨⟨_, Tryz.underlying100, by kernel_rfl⟩, by kernel_rfl⟩
 hexqs := Tryz.underlying41
 bexq := by kernel_rfl
 hele := ⟨⟨_, Tryz.underlying79, by kernel_rfl⟩, by kernel_rfl⟩
 heles := Tryz.underlying42
 bele := by kernel_rfl
 hdat := ⟨⟨_, Tryz.underlying82, by kernel_rfl⟩, by kernel_rfl⟩
 hdats := Tryz.underlying43
 bdat := by kernel_rfl
 hcus := ⟨⟨_, Tryz.underlying88, by kernel_rfl⟩, by kernel_rfl⟩
 hcuss := Tryz.underlying44
 bcus := by kernel_rfl
 hmdl := ⟨⟨_, Tryz.underlying46, by kernel_rfl⟩, by kernel_rfl⟩
theorem bk_mdl {M : Mdl} (h : bkL M.enc ≤ 1048576) : Bk M := by
  have e : bkL M.enc = (bkLL (M.ty.map FTy.enc) + 1) + ((bkLL (M.im.map Imp.enc) + 1) + ((bkLL (M.fu.map MFn.enc) + 1) + ((bkLL (M.ta.map Lim.enc) + 1) + ((bkLL (M.me.map Lim.enc) + 1) + ((bkLL (M.gl.map Glo.enc) + 1) + ((bkLL (M.ex.map Exq.enc) + 1) + (1 + ((bkLL (M.el.map Ele.enc) + 1) + ((bkLL (M.da.map Dat.enc) + 1) + ((bkLL (M.cu.map Cus.enc) + 1) + 0)))))))))) := by
    simp only [Mdl.enc, bkL, bkA]
  rw [e] at h
  have f1 : ∀ x : FTy, bkL x.enc = (x.p.length + 1) + ((x.r.length + 1) + 0) := fun x => by simp only [FTy.enc, bkL, bkA, bk_encN]
  have f3 : ∀ x : MFn, bkL x.enc = 1 + ((x.l.length + 1) + ((bkLL (encIs x.b) + 1) + 0)) := fun x => by simp only [MFn.enc, bkL, bkA, bk_encN]
  have f4 : ∀ x : Lim, bkL x.enc = 1 + (1 + (1 + 0)) := fun x => by simp only [Lim.enc, bkL, bkA]
  have f2 : ∀ x : Imp, 1 ≤ bkL x.enc := fun x => by simp only [Imp.enc, List.cons_append, List.nil_append, bkL, bkA]; omega
  have f6 : ∀ x : Glo, bkL x.enc = 1 + (1 + bkL (encI x.i)) := fun x => by simp only [Glo.enc, List.cons_append, List.nil_append, bkL, bkA]
  have f7 : ∀ x : Exq, 1 ≤ bkL x.enc := fun x => by simp only [Exq.enc, bkL, bkA]; omega
  have f8 : ∀ x : Ele, bkL x.enc = bkL (encI x.o) + ((x.f.length + 1) + 0) := fun x => by simp only [Ele.enc, bkL_app, bkL, bkA, bk_encN]
  have f9 : ∀ x : Dat, bkL x.enc = bkL (encI x.o) + ((bkLL (Am.encB x.b) + 1) + 0) := fun x => by simp only [Dat.enc, bkL_app, bkL, bkA]
  have f10 : ∀ x : Cus, 1 ≤ bkL x.enc := fun x => by simp only [Cus.enc, bkL, bkA]; omega
  have g : ∀ x : Ins, cL [x] ≤ bkL (encI x) := fun x => by rw [cL, cL]; exact bk_I x
  obtain ⟨a1, b1⟩ := bk_ge (f := FTy.enc) (fun x => by rw [f1]; omega) M.ty
  obtain ⟨a2, _⟩ := bk_ge (f := Imp.enc) f2 M.im
  obtain ⟨a3, b3⟩ := bk_ge (f := MFn.enc) (fun x => by rw [f3]; omega) M.fu
  obtain ⟨a4, _⟩ := bk_ge (f := Lim.enc) (fun x => by rw [f4]; omega) M.ta
  obtain ⟨a5, _⟩ := bk_ge (f := Lim.enc) (fun x => by rw [f4]; omega) M.me
  obtain ⟨a6, b6⟩ := bk_ge (f := Glo.enc) (fun x => by rw [f6]; omega) M.gl
  obtain ⟨a7, _⟩ := bk_ge (f := Exq.enc) f7 M.ex
  obtain ⟨a8, b8⟩ := bk_ge (f := Ele.enc) (fun x => by rw [f8]; omega) M.el
  obtain ⟨a9, b9⟩ := bk_ge (f := Dat.enc) (fun x => by rw [f9]; omega) M.da
  obtain ⟨a10, _⟩ := bk_ge (f := Cus.enc) f10 M.cu
  exact { ty := by omega, tl := fun x hx => by have := b1 x hx; rw [f1] at this; omega
          im := by omega, fu := by omega, fl := fun x hx => by have := b3 x hx; have := bk_Is x.b; rw [f3] at *; omega
          ta := by omega, me := by omega, gl := by omega, gi := fun x hx => by have := b6 x hx; have := g x.i; rw [f6] at *; omega
          ex := by omega, el := by omega, eo := fun x hx => by have := b8 x hx; have := g x.o; rw [f8] at *; omega
          da := by omega, dl := fun x hx => by have := b9 x hx; have := g x.o; rw [f9] at *; omega
          cu := by omega }
theorem less_in {H : Type} {ds : List (DataW H)} {xs : List AV} (hx : ShZC Tryz.prog [46] xs ds) (hk : Rows.uptoSmall H ds = true) : ∃ M : Mdl, xs = [.agg M.enc] ∧ M.Fit ∧ Bk M := by
 obtain ⟨n1, y1, xs1, d1, ds1, rfl, rfl, h1, a1, hx⟩ := zc_cons hx
 obtain rfl := zc_nil hx
 obtain ⟨M, rfl, hF⟩ := z_mdl modT h1
 have b1 := bk_le _ _ _ _ a1
 have hk := of_decide_eq_true hk
 rw [Rows.uptoBulkAll] at hk
 refine ⟨M, ?_, hF, bk_mdl (by omega)⟩
 rw [argV_struct Tryz.underlying46]
theorem more_in {H : Type} {ds : List (DataW H)} {xs : List AV} (hx : ShZC Tryz.prog [46, 4] xs ds) (hk : Rows.uptoSmall H ds = true) : ∃ (M : Mdl) (kd : Bool), xs = [.agg M.enc, .bool kd] ∧ M.Fit ∧ Bk M := by
 obtain ⟨n1, y1, xs1, d1, ds1, rfl, rfl, h1, a1, hx⟩ := zc_cons hx
 obtain ⟨n2, y2, xs2, d2, ds2, rfl, rfl, h2, a2, hx⟩ := zc_cons hx
 obtain rfl := zc_nil hx
 obtain ⟨M, rfl, hF⟩ := z_mdl modT h1
 obtain ⟨kd, rfl⟩ := z_bool modIns.hQ h2
 have b1 := bk_le _ _ _ _ a1
 have hk := of_decide_eq_true hk
 rw [Rows.uptoBulkAll] at hk
 refine ⟨M, kd, ?_, hF, bk_mdl (by omega)⟩
 rw [argV_struct Tryz.underlying46, argV_bool Tryz.underlying4]
theorem validLess_main (W : World) (hL : laidMetH Tryz.prog Rows.validLessUptoRow.laid W) (hsh : W.ShapedOpen Tryz.prog) {H : Type} (ds : List (DataW H)) (xs : List AV) (hx : ShZC Tryz.prog Tryz.f4.params.toList xs ds) (hk : Rows.uptoSmall H ds = true) :
  ∃ (cx : Cx) (c : Code) (h' : Heap), cx.P = Tryz.prog ∧ CxOk cx ∧ GOk cx W (gFull W) ∧ Tryz.f4.body = some c ∧ cutAt cx 4 [.code c] = none ∧ blk cx 4 [.code c] (xs.map .v) Heap.nil = some (.v (.bool true), h') := by
 obtain ⟨m, hG⟩ := glob_ok rfl hL hsh
 obtain ⟨c, hc, hbody⟩ := body_of Tryz.func4 (by kernel_rfl)
 rw [Tryz.params4] at hx
 obtain ⟨M, rfl, hF, hB⟩ := less_in hx hk
 obtain ⟨h', hr⟩ := less_walk (m := m) hF hB Heap.nil
 have hb : (cutAt (cxZ m) 4 (body_ Tryz.prog 4)).isNone = true := by kernel_rfl
 rw [body_eq Tryz.func4 hc] at hr
 rw [body_eq Tryz.func4 hc, Option.isNone_iff_eq_none] at hb
 exact ⟨cxZ m, c, h', rfl, cxZ_ok m, hG, hc, hb, hr⟩
theorem validMore_main (W : World) (hL : laidMetH Tryz.prog Rows.validMoreUptoRow.laid W) (hsh : W.ShapedOpen Tryz.prog) {H : Type} (ds : List (DataW H)) (xs : List AV) (hx : ShZC Tryz.prog Tryz.f6.params.toList xs ds) (hk : Rows.uptoSmall H ds = true) :
  ∃ (cx : Cx) (c : Code) (h' : Heap), cx.P = Tryz.prog ∧ CxOk cx ∧ GOk cx W (gFull W) ∧ Tryz.f6.body = some c ∧ cutAt cx 6 [.code c] = none ∧ blk cx 6 [.code c] (xs.map .v) Heap.nil = some (.v (.bool true), h') := by
 obtain ⟨m, hG⟩ := glob_ok rfl hL hsh
 obtain ⟨c, hc, hbody⟩ := body_of Tryz.func6 (by kernel_rfl)
 rw [Tryz.params6] at hx
 obtain ⟨M, kd, rfl, hF, hB⟩ := more_in hx hk
 obtain ⟨h', hr⟩ := more_walk (m := m) hF hB kd Heap.nil
 have hb : (cutAt (cxZ m) 6 (body_ Tryz.prog 6)).isNone = true := by kernel_rfl
 rw [body_eq Tryz.func6 hc] at hr
 rw [body_eq Tryz.func6 hc, Option.isNone_iff_eq_none] at hb
 exact ⟨cxZ m, c, h', rfl, cxZ_ok m, hG, hc, hb, hr⟩
end Go.Proofs.YtoblgjmllmomhaaGreatDoor
