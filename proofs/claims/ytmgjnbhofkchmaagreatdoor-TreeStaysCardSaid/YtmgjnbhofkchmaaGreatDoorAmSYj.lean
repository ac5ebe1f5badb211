/-
  Law TreeStays: the row and the card, by what the machine says of its text.
-/
import Derived.Test.YtmgjnbhofkchmaaGreatDoorAmMod
import Derived.Test.YtmgjnbhofkchmaaGreatDoorAmRow
import Derived.Test.YtmgjnbhofkchmaaGreatDoorAmSYh
import Derived.Test.YtmgjnbhofkchmaaGreatDoorTie
import Derived.Test.YtmgjnbhofkchmaaGreatDoorCards
import Derived.WalkKit
import Derived.ProofKit
import Derived.OpenShut
import Derived.LaidMore
import Derived.Stop.Joined
import Derived.SevenTiedAt
/-
  The package-level variables, and the types of modules in this program; the law, of all readable arguments.
-/
namespace Go.Proofs.YtmgjnbhofkchmaaGreatDoor
open Go.ChangeShapes Go.WideShapes Go.ChangeAt Go.RowKit Go.Proofs.Am

theorem own : ownKnob Tryz.prog.godebug = none := by kernel_rfl
theorem gA : Tryz.prog.globalNamed "strings.asciiSpace" = some 0 := by kernel_rfl
theorem tA : (Tryz.prog.globals[0]?).map (·.type) = some 127 := by kernel_rfl
theorem asciiD : avD Tryz.prog 3 127 (Rows.laid_strings_asciiSpace (H := Unit)) = some asciiL := by kernel_rfl

theorem glob_ok {W : World} {l : List (String × DataW Unit)} (hl : l = Rows.treeStaysRow.laid) (h : laidMetH Tryz.prog l W) (hs : W.ShapedOpen Tryz.prog) : ∃ m : Int, GOk (cxZ m) W (gFull W) := by
  subst hl
  obtain ⟨m, hm⟩ := cell_of_shapedOpen_int (g := 2) (t := 3) (zero := #[.int .i64 0]) (k := .i64) hs (of_decide_eq_true (by kernel_rfl)) (by kernel_rfl) rfl (by kernel_rfl) (by kernel_rfl) Tryz.underlying3
  refine ⟨m, ?_⟩
  rw [MakeChecks.laidMetH_plain _ _ _ (by kernel_rfl)] at h
  obtain ⟨ps, ⟨g0, t0, cs0, f0, p0, q0, hg0, ht0, hv0, hd0, ⟨g1, t1, cs1, f1, p1, q1, hg1, ht1, hv1, hd1, _, _⟩, _⟩, _, _⟩ := h
  obtain rfl := Option.some.inj (gA.symm.trans hg1)
  obtain rfl := Option.some.inj (tA.symm.trans ht1)
  obtain ⟨ys, _, e1, r1⟩ := var_rep (n := 3) (gFull_full W) hg1 hv1 (by kernel_rfl) hd1
  rw [show avD Tryz.prog 3 127 _ = some asciiL from asciiD] at e1
  cases e1
  intro i cs hi
  match i, hi with
  | 0, hi => cases hi; exact r1
  | 1, hi => cases hi
  | 2, hi =>
    cases hi
    exact .snap _ _ _ (fun _ => .int .i64 m) (fun j c hj => by
      cases j with
      | zero => simp at hj; subst hj; exact ⟨gFull_full W _ _ _ hm, hm, rfl⟩
      | succ j => simp at hj) (fun j c hj => by
      cases j with
      | zero => simp at hj; subst hj; exact .int _ _
      | succ j => simp at hj)
  | n + 3, hi => cases hi

def mty : MTy := { n := 3, v := 45, l := 36, b := 46, i := 48, q := 4, s := 9, u := 5, y := 59, fty := 38, lim := 69, imp := 71, mfn := 53, glo := 56, exq := 79, ele := 58, dat := 61, cus := 64, mdl := 32, ftys := 22, lims := 25, imps := 23, mfns := 24, glos := 26, exqs := 27, eles := 28, dats := 29, cuss := 30 }
theorem modIns : InsT Tryz.prog 48 3 45 36 46 4 where
  hN := Tryz.underlying3
  hV := Tryz.underlying45
  hQ := Tryz.underlying4
  hL := Tryz.underlying36
  hB := Tryz.underlying46
  fs := ⟨_, Tryz.underlying48, by kernel_rfl⟩
  hc := by kernel_rfl
theorem modT : ModT Tryz.prog mty where
  ins := modIns
  hs := Tryz.underlying9
  hu := Tryz.underlying5
  hy := Tryz.underlying59
  bn := by kernel_rfl
  bi := by kernel_rfl
  bu := by kernel_rfl
  hfty := ⟨⟨_, Tryz.underlying38, by kernel_rfl⟩, by kernel_rfl⟩
  hftys := Tryz.underlying22
  bfty := by kernel_rfl
  hlim := ⟨⟨_, Tryz.underlying69, by kernel_rfl⟩, by kernel_rfl⟩
  hlims := Tryz.underlying25
  blim := by kernel_rfl
  himp := ⟨⟨_, Tryz.underlying71, by kernel_rfl⟩, by kernel_rfl⟩
  himps := Tryz.underlying23
  bimp := by kernel_rfl
  hmfn := ⟨⟨_, Tryz.underlying53, by kernel_rfl⟩, by kernel_rfl⟩
  hmfns := Tryz.underlying24
  bmfn := by kernel_rfl
  hglo := ⟨⟨_, Tryz.underlying56, by kernel_rfl⟩, by kernel_rfl⟩
  hglos := Tryz.underlying26
  bglo := by kernel_rfl
  hexq := ⟨⟨_, Tryz.underlying79, by kernel_rfl⟩, by kernel_rfl⟩
  hexqs := Tryz.underlying27
  bexq := by kernel_rfl
  hele := ⟨⟨_, Tryz.underlying58, by kernel_rfl⟩, by kernel_rfl⟩
  heles := Tryz.underlying28
  bele := by kernel_rfl
  hdat := ⟨⟨_, Tryz.underlying61, by kernel_rfl⟩, by kernel_rfl⟩
  hdats := Tryz.underlying29
  bdat := by kernel_rfl
  hcus := ⟨⟨_, Tryz.underlying64, by kernel_rfl⟩, by kernel_rfl⟩
  hcuss := Tryz.underlying30
  bcus := by kernel_rfl
  hmdl := ⟨⟨_, Tryz.underlying32, by kernel_rfl⟩, by kernel_rfl⟩

theorem treeStays_main (W : World) (hL : laidMetH Tryz.prog Rows.treeStaysRow.laid W) (hsh : W.ShapedOpen Tryz.prog) {H : Type} (ds : List (DataW H)) (xs : List AV) (hx : ShZC Tryz.prog Tryz.f3.params.toList xs ds) :
    ∃ (cx : Cx) (c : Code) (h' : Heap), cx.P = Tryz.prog ∧ CxOk cx ∧ GOk cx W (gFull W) ∧ Tryz.f3.body = some c ∧ cutAt cx 3 [.code c] = none ∧ blk cx 3 [.code c] (xs.map .v) Heap.nil = some (.v (.bool true), h') := by
  obtain ⟨m, hG⟩ := glob_ok rfl hL hsh
  obtain ⟨c, hc, _⟩ := body_of Tryz.func3 (by kernel_rfl)
  rw [Tryz.params3] at hx
  obtain ⟨n1, y1, xs1, d1, ds1, rfl, rfl, h1, _, hx⟩ := zc_cons hx
  obtain ⟨n2, y2, xs2, d2, ds2, rfl, rfl, h2, _, hx⟩ := zc_cons hx
  obtain rfl := zc_nil hx
  obtain ⟨M, rfl, hM⟩ := z_mdl modT h1
  obtain ⟨k, rfl, _⟩ := z_i64 Tryz.underlying3 h2
  rw [argV_struct Tryz.underlying32, argV_int Tryz.underlying3]
  obtain ⟨h', hr⟩ := law3 m hM k
  have hb : (cutAt (cxZ m) 3 (body_ Tryz.prog 3)).isNone = true := by kernel_rfl
  rw [body_eq Tryz.func3 hc] at hr
  rw [body_eq Tryz.func3 hc, Option.isNone_iff_eq_none] at hb
  exact ⟨cxZ m, c, h', rfl, cxZ_ok m, hG, hc, hb, hr⟩
end Go.Proofs.YtmgjnbhofkchmaaGreatDoor


namespace Go.Proofs.YtmgjnbhofkchmaaGreatDoor
open Go.ChangeShapes Go.WideShapes Go.ChangeAt Go.RowKit Go.Proofs.Am

set_option maxRecDepth 100000 in
theorem treeStays_lifted (os : Os) (started : os.Started) (H : Type) (enc : TypeId × Value → H) :
    ReturnsInHanded {} Tryz.checked os 3 .any (fun w args => (Rows.treeStaysSpec.pre enc Tryz.prog Tryz.f3 [] false w args ∧ laidMetH Tryz.prog Rows.treeStaysRow.laid w) ∧ sizedMet enc Tryz.prog Tryz.f3 (OpenSpec.ofChange Rows.treeStaysSpec) false w args)
      (Rows.treeStaysSpec.post enc Tryz.prog Tryz.f3 false true false false) :=
  law_liftedZ (S := [3, 4, 5, 9, 22, 23, 24, 25, 26, 27, 28, 29, 30, 32, 36, 38, 45, 46, 48, 53, 56, 58, 59, 61, 64, 69, 71, 79]) (C := Tryz.checked) (tb := 4) started own (by kernel_rfl) Tryz.func3 (by kernel_rfl) Tryz.underlying4 (by kernel_rfl) rfl
    (fun ds hd => by
      match ds, hd with
      | [d0, d1], _ => exact ⟨rfl, rfl, rfl⟩) (by kernel_rfl) (by kernel_rfl) (by kernel_rfl)
    (ChangeSpec.witness_shaped (enc := enc) (C := Tryz.checked) (os := os) (X := fun w _ => laidMetH Tryz.prog Rows.treeStaysRow.laid w) false (World.doorLaid Tryz.prog 400 os) #[.agg #[.slice none 0 0, .slice none 0 0, .slice none 0 0, .slice none 0 0, .slice none 0 0, .slice none 0 0, .slice none 0 0, .int .i64 0, .slice none 0 0, .slice none 0 0, .slice none 0 0], .int .i64 0] 8 rfl (World.shaped_of_RefB (by kernel_rfl) (by kernel_rfl)) (by kernel_rfl) (by kernel_rfl) (by kernel_rfl)
      (laidMetH_of_parts3 (fuel := 8) (laidMet_of_run' 8 (by kernel_rfl) (by kernel_rfl)) (by kernel_rfl) (by kernel_rfl)))
    (fun W hL hsh ds xs hx => treeStays_main W hL hsh ds xs hx)

theorem treeStays_over : Rows.TreeStaysSaid :=
  OpenClaim.holds_of_wide 3 Tryz.f3 rfl rfl rfl rfl rfl rfl rfl ⟨rfl, rfl, rfl, rfl, rfl⟩ rfl rfl rfl rfl rfl (by kernel_rfl) Tryz.func3 (by kernel_rfl)
    (of_decide_eq_true (by kernel_rfl)) (by unfold Func.isWrapper; first | (rw [if_pos (by decide +kernel)]; kernel_rfl) | (rw [if_neg (by decide +kernel)]; exact ⟨rfl, rfl⟩))
    (fun os started H enc _ => treeStays_lifted os started H enc)

theorem treeStays_noStand : (List.all [32, 3] fun t => !Tryz.prog.wantsStandIn t) = true := by kernel_rfl
/-- The card. -/
theorem treeStays_holds : Rows.TreeStaysCardSaid :=
  Claim7.holds_tied_plain_at .later [] [.listed, .data] true (true, "33ad4609169431b6a7f59716fe910f093142da4c30ffd8b685b95e7fd23f1b7f") false
    treeStays_over (fun _ h => by cases h) (by kernel_rfl) (fun _ h => by cases h) treeStays_row_tie rfl ⟨rfl, rfl⟩ (by kernel_rfl) rfl
    (fun f fn hf hfn => by
      obtain rfl : f = 3 := Option.some.inj ((show Tryz.prog.funcNamed "grommet/grommetlaw05.TreeStays" = some 3 by kernel_rfl).symm.trans hf) |>.symm
      obtain rfl : fn = Tryz.f3 := (Option.some.inj (Tryz.func3.symm.trans hfn)).symm
      exact ⟨by kernel_rfl, fun j t ht => by
        rw [Tryz.params3] at ht
        have hm : t ∈ [32, 3] := List.mem_of_getElem? (i := j) (by simpa using ht)
        have := List.all_eq_true.1 treeStays_noStand t hm
        cases hw : Tryz.prog.wantsStandIn t with
        | false => exact hw
        | true => rw [hw] at this; cases this⟩)
    (by kernel_rfl)
#print axioms treeStays_holds
end Go.Proofs.YtmgjnbhofkchmaaGreatDoor
