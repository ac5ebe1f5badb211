/-
  Law TreeSelf: the row and the card, by what the machine says of its text.
-/
import Derived.Test.YtmgjnbhofkchmaaDoorAmMod
import Derived.Test.YtmgjnbhofkchmaaDoorAmS05g
import Derived.Test.YtmgjnbhofkchmaaDoorAmS05X
/-
  The types of modules in this program; the law of a module and itself, of all readable arguments.
-/
namespace Go.Proofs.YtmgjnbhofkchmaaDoor
open Go.ChangeShapes Go.WideShapes Go.ChangeAt Go.RowKit Go.Proofs.Am

def mty : MTy := { n := 3, v := 57, l := 41, b := 22, i := 59, q := 4, s := 9, u := 5, y := 72, fty := 44, lim := 54, imp := 56, mfn := 68, glo := 61, exq := 86, ele := 71, dat := 74, cus := 79, mdl := 38, ftys := 28, lims := 31, imps := 29, mfns := 30, glos := 32, exqs := 33, eles := 34, dats := 35, cuss := 36 }
theorem modIns : InsT Tryd.prog 59 3 57 41 22 4 where
  hN := Tryd.underlying3
  hV := Tryd.underlying57
  hQ := Tryd.underlying4
  hL := Tryd.underlying41
  hB := Tryd.underlying22
  fs := ⟨_, Tryd.underlying59, by kernel_rfl⟩
  hc := by kernel_rfl
theorem modT : ModT Tryd.prog mty where
  ins := modIns
  hs := Tryd.underlying9
  hu := Tryd.underlying5
  hy := Tryd.underlying72
  bn := by kernel_rfl
  bi := by kernel_rfl
  bu := by kernel_rfl
  hfty := ⟨⟨_, Tryd.underlying44, by kernel_rfl⟩, by kernel_rfl⟩
  hftys := Tryd.underlying28
  bfty := by kernel_rfl
  hlim := ⟨⟨_, Tryd.underlying54, by kernel_rfl⟩, by kernel_rfl⟩
  hlims := Tryd.underlying31
  blim := by kernel_rfl
  himp := ⟨⟨_, Tryd.underlying56, by kernel_rfl⟩, by kernel_rfl⟩
  himps := Tryd.underlying29
  bimp := by kernel_rfl
  hmfn := ⟨⟨_, Tryd.underlying68, by kernel_rfl⟩, by kernel_rfl⟩
  hmfns := Tryd.underlying30
  bmfn := by kernel_rfl
  hglo := ⟨⟨_, Tryd.underlying61, by kernel_rfl⟩, by kernel_rfl⟩
  hglos := Tryd.underlying32
  bglo := by kernel_rfl
  hexq := ⟨⟨_, Tryd.underlying86, by kernel_rfl⟩, by kernel_rfl⟩
  hexqs := Tryd.underlying33
  bexq := by kernel_rfl
  hele := ⟨⟨_, Tryd.underlying71, by kernel_rfl⟩, by kernel_rfl⟩
  heles := Tryd.underlying34
  bele := by kernel_rfl
  hdat := ⟨⟨_, Tryd.underlying74, by kernel_rfl⟩, by kernel_rfl⟩
  hdats := Tryd.underlying35
  bdat := by kernel_rfl
  hcus := ⟨⟨_, Tryd.underlying79, by kernel_rfl⟩, by kernel_rfl⟩
  hcuss := Tryd.underlying36
  bcus := by kernel_rfl
  hmdl := ⟨⟨_, Tryd.underlying38, by kernel_rfl⟩, by kernel_rfl⟩

theorem treeSelf_main (W : World) (hL : laidMetH Tryd.prog Rows.treeSelfRow.laid W) (hsh : W.ShapedOpen Tryd.prog) {H : Type} (ds : List (DataW H)) (xs : List AV) (hx : ShZC Tryd.prog Tryd.f5.params.toList xs ds) :
    ∃ (cx : Cx) (c : Code) (h' : Heap), cx.P = Tryd.prog ∧ CxOk cx ∧ GOk cx W (gFull W) ∧ Tryd.f5.body = some c ∧ cutAt cx 5 [.code c] = none ∧ blk cx 5 [.code c] (xs.map .v) Heap.nil = some (.v (.bool true), h') := by
  obtain ⟨m, hG⟩ := glob_ok rfl hL hsh
  obtain ⟨c, hc, hbody⟩ := body_of Tryd.func5 (by kernel_rfl)
  rw [Tryd.params5] at hx
  obtain ⟨n1, y1, xs1, d1, ds1, rfl, rfl, h1, _, hx⟩ := zc_cons hx
  obtain ⟨n2, y2, xs2, d2, ds2, rfl, rfl, h2, _, hx⟩ := zc_cons hx
  obtain rfl := zc_nil hx
  obtain ⟨M, rfl, hM⟩ := z_mdl modT h1
  obtain ⟨N, rfl, hN⟩ := z_mdl modT h2
  rw [argV_struct Tryd.underlying38, argV_struct Tryd.underlying38]
  obtain ⟨h', hr⟩ := law5 m hM hN Heap.nil
  have hb : (cutAt (cxZ m) 5 (body_ Tryd.prog 5)).isNone = true := by kernel_rfl
  rw [body_eq Tryd.func5 hc] at hr
  rw [body_eq Tryd.func5 hc, Option.isNone_iff_eq_none] at hb
  exact ⟨cxZ m, c, h', rfl, cxZ_ok m, hG, hc, hb, hr⟩
end Go.Proofs.YtmgjnbhofkchmaaDoor


namespace Go.Proofs.YtmgjnbhofkchmaaDoor
open Go.ChangeShapes Go.WideShapes Go.ChangeAt Go.RowKit Go.Proofs.Am

set_option maxRecDepth 100000 in
theorem treeSelf_lifted (os : Os) (started : os.Started) (H : Type) (enc : TypeId × Value → H) :
    ReturnsInHanded {} Tryd.checked os 5 .any (fun w args => (Rows.treeSelfSpec.pre enc Tryd.prog Tryd.f5 [] false w args ∧ laidMetH Tryd.prog Rows.treeSelfRow.laid w) ∧ sizedMet enc Tryd.prog Tryd.f5 (OpenSpec.ofChange Rows.treeSelfSpec) false w args)
      (Rows.treeSelfSpec.post enc Tryd.prog Tryd.f5 false true false false) :=
  law_liftedZ (S := [3, 4, 5, 9, 57, 41, 22, 59, 72, 44, 54, 56, 68, 61, 86, 71, 74, 79, 38, 28, 29, 30, 31, 32, 33, 34, 35, 36]) (C := Tryd.checked) (tb := 4) started own (by kernel_rfl) Tryd.func5 (by kernel_rfl) Tryd.underlying4 (by kernel_rfl) rfl
    (fun ds hd => by
      match ds, hd with
      | [d0, d1], _ => exact ⟨rfl, rfl, rfl⟩) (by kernel_rfl) (by kernel_rfl) (by kernel_rfl)
    (ChangeSpec.witness_shaped (enc := enc) (C := Tryd.checked) (os := os) (X := fun w _ => laidMetH Tryd.prog Rows.treeSelfRow.laid w) false (World.doorLaid Tryd.prog 400 os) #[.agg #[.slice none 0 0, .slice none 0 0, .slice none 0 0, .slice none 0 0, .slice none 0 0, .slice none 0 0, .slice none 0 0, .int .i64 0, .slice none 0 0, .slice none 0 0, .slice none 0 0], .agg #[.slice none 0 0, .slice none 0 0, .slice none 0 0, .slice none 0 0, .slice none 0 0, .slice none 0 0, .slice none 0 0, .int .i64 0, .slice none 0 0, .slice none 0 0, .slice none 0 0]] 8 rfl (World.shaped_of_RefB (by kernel_rfl) (by kernel_rfl)) (by kernel_rfl) (by kernel_rfl) (by kernel_rfl)
      (laidMetH_of_parts3 (fuel := 8) (laidMet_of_run' 8 (by kernel_rfl) (by kernel_rfl)) (by kernel_rfl) (by kernel_rfl)))
    (fun W hL hsh ds xs hx => treeSelf_main W hL hsh ds xs hx)

theorem treeSelf_over : Rows.TreeSelfSaid :=
  OpenClaim.holds_of_wide 5 Tryd.f5 rfl rfl rfl rfl rfl rfl rfl ⟨rfl, rfl, rfl, rfl, rfl⟩ rfl rfl rfl rfl rfl (by kernel_rfl) Tryd.func5 (by kernel_rfl)
    (of_decide_eq_true (by kernel_rfl)) (by unfold Func.isWrapper; first | (rw [if_pos (by decide +kernel)]; kernel_rfl) | (rw [if_neg (by decide +kernel)]; exact ⟨rfl, rfl⟩))
    (fun os started H enc _ => treeSelf_lifted os started H enc)

theorem treeSelf_noStand : (List.all [38, 38] fun t => !Tryd.prog.wantsStandIn t) = true := by kernel_rfl
/-- The card. -/
theorem treeSelf_holds : Rows.TreeSelfCardSaid :=
  Claim7.holds_tied_plain_at .later [] [.listed, .data] true (true, "ea24d0fdec8e19484090a6123b90830cfb1736409e4c78901388be9e2c738338") true
    treeSelf_over (fun _ h => by cases h) (by kernel_rfl) (fun _ h => by cases h) treeSelf_row_tie rfl ⟨rfl, rfl⟩ (by kernel_rfl) rfl
    (fun f fn hf hfn => by
      obtain rfl : f = 5 := Option.some.inj ((show Tryd.prog.funcNamed "grommet/grommetlaw05.TreeSelf" = some 5 by kernel_rfl).symm.trans hf) |>.symm
      obtain rfl : fn = Tryd.f5 := (Option.some.inj (Tryd.func5.symm.trans hfn)).symm
      exact ⟨by kernel_rfl, fun j t ht => by
        rw [Tryd.params5] at ht
        have hm : t ∈ [38, 38] := List.mem_of_getElem? (i := j) (by simpa using ht)
        have := List.all_eq_true.1 treeSelf_noStand t hm
        cases hw : Tryd.prog.wantsStandIn t with
        | false => exact hw
        | true => rw [hw] at this; cases this⟩)
    (by kernel_rfl)
#print axioms treeSelf_holds
end Go.Proofs.YtmgjnbhofkchmaaDoor
