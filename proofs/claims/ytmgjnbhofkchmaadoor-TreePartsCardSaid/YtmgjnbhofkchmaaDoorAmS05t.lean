/-
  Law TreeParts: the row and the card, by what the machine says of its text.
-/
import Derived.Test.YtmgjnbhofkchmaaDoorAmIns
import Derived.Test.YtmgjnbhofkchmaaDoorAmS05g
import Derived.Test.YtmgjnbhofkchmaaDoorAmS05r
/-
  The types of instructions in this program; the law of parts, of all readable arguments.
-/
namespace Go.Proofs.YtmgjnbhofkchmaaDoor
open Go.ChangeShapes Go.WideShapes Go.ChangeAt Go.RowKit Go.Proofs.Am

theorem insT : InsT Tryd.prog 59 3 57 41 22 4 where
  hN := Tryd.underlying3
  hV := Tryd.underlying57
  hQ := Tryd.underlying4
  hL := Tryd.underlying41
  hB := Tryd.underlying22
  fs := ⟨_, Tryd.underlying59, by kernel_rfl⟩
  hc := by kernel_rfl

theorem treeParts_main (W : World) (hL : laidMetH Tryd.prog Rows.treePartsRow.laid W) (hsh : W.ShapedOpen Tryd.prog) {H : Type} (ds : List (DataW H)) (xs : List AV) (hx : ShC Tryd.prog Tryd.f3.params.toList xs ds) :
    ∃ (cx : Cx) (c : Code) (h' : Heap), cx.P = Tryd.prog ∧ CxOk cx ∧ GOk cx W (gFull W) ∧ Tryd.f3.body = some c ∧ cutAt cx 3 [.code c] = none ∧ blk cx 3 [.code c] (xs.map .v) Heap.nil = some (.v (.bool true), h') := by
  obtain ⟨m, hG⟩ := glob_ok rfl hL hsh
  obtain ⟨c, hc, hbody⟩ := body_of Tryd.func3 (by kernel_rfl)
  rw [Tryd.params3] at hx
  obtain ⟨n1, y1, xs1, d1, ds1, rfl, rfl, h1, _, hx⟩ := shc_cons hx
  obtain ⟨n2, y2, xs2, d2, ds2, rfl, rfl, h2, _, hx⟩ := shc_cons hx
  obtain rfl := shc_nil hx
  obtain ⟨l, rfl, hl, hf⟩ := sh_code insT h1
  obtain ⟨i, rfl, hi1, hi2⟩ := sh_i64 Tryd.underlying3 h2
  rw [argV_slice Tryd.underlying22, argV_int Tryd.underlying3]
  obtain ⟨h', hr⟩ := law3 m l hl hf i ⟨hi1, hi2⟩ Heap.nil
  have hb : (cutAt (cxZ m) 3 (body_ Tryd.prog 3)).isNone = true := by kernel_rfl
  rw [body_eq Tryd.func3 hc] at hr
  rw [body_eq Tryd.func3 hc, Option.isNone_iff_eq_none] at hb
  exact ⟨cxZ m, c, h', rfl, cxZ_ok m, hG, hc, hb, hr⟩
end Go.Proofs.YtmgjnbhofkchmaaDoor


namespace Go.Proofs.YtmgjnbhofkchmaaDoor
open Go.ChangeShapes Go.WideShapes Go.ChangeAt Go.RowKit Go.Proofs.Am

set_option maxRecDepth 100000 in
theorem treeParts_lifted (os : Os) (started : os.Started) (H : Type) (enc : TypeId × Value → H) :
    ReturnsInHanded {} Tryd.checked os 3 .any (fun w args => (Rows.treePartsSpec.pre enc Tryd.prog Tryd.f3 [] false w args ∧ laidMetH Tryd.prog Rows.treePartsRow.laid w) ∧ sizedMet enc Tryd.prog Tryd.f3 (OpenSpec.ofChange Rows.treePartsSpec) false w args)
      (Rows.treePartsSpec.post enc Tryd.prog Tryd.f3 false true false false) :=
  law_liftedC (S := [3, 4, 57, 41, 22, 59]) (C := Tryd.checked) (tb := 4) started own (by kernel_rfl) Tryd.func3 (by kernel_rfl) Tryd.underlying4 (by kernel_rfl) rfl
    (fun ds hd => by
      match ds, hd with
      | [d0, d1], _ => exact ⟨rfl, rfl, rfl⟩) (by kernel_rfl) (by kernel_rfl) (by kernel_rfl)
    (ChangeSpec.witness_shaped (enc := enc) (C := Tryd.checked) (os := os) (X := fun w _ => laidMetH Tryd.prog Rows.treePartsRow.laid w) false (World.doorLaid Tryd.prog 400 os) #[.slice none 0 0, .int .i64 0] 8 rfl (World.shaped_of_RefB (by kernel_rfl) (by kernel_rfl)) (by kernel_rfl) (by kernel_rfl) (by kernel_rfl)
      (laidMetH_of_parts3 (fuel := 8) (laidMet_of_run' 8 (by kernel_rfl) (by kernel_rfl)) (by kernel_rfl) (by kernel_rfl)))
    (fun W hL hsh ds xs hx _ => treeParts_main W hL hsh ds xs hx)

theorem treeParts_over : Rows.TreePartsSaid :=
  OpenClaim.holds_of_wide 3 Tryd.f3 rfl rfl rfl rfl rfl rfl rfl ⟨rfl, rfl, rfl, rfl, rfl⟩ rfl rfl rfl rfl rfl (by kernel_rfl) Tryd.func3 (by kernel_rfl)
    (of_decide_eq_true (by kernel_rfl)) (by unfold Func.isWrapper; first | (rw [if_pos (by decide +kernel)]; kernel_rfl) | (rw [if_neg (by decide +kernel)]; exact ⟨rfl, rfl⟩))
    (fun os started H enc _ => treeParts_lifted os started H enc)

theorem treeParts_noStand : (List.all [22, 3] fun t => !Tryd.prog.wantsStandIn t) = true := by kernel_rfl
/-- The card. -/
theorem treeParts_holds : Rows.TreePartsCardSaid :=
  Claim7.holds_tied_plain_at .later [] [.listed, .data] true (true, "ea24d0fdec8e19484090a6123b90830cfb1736409e4c78901388be9e2c738338") true
    treeParts_over (fun _ h => by cases h) (by kernel_rfl) (fun _ h => by cases h) treeParts_row_tie rfl ⟨rfl, rfl⟩ (by kernel_rfl) rfl
    (fun f fn hf hfn => by
      obtain rfl : f = 3 := Option.some.inj ((show Tryd.prog.funcNamed "grommet/grommetlaw05.TreeParts" = some 3 by kernel_rfl).symm.trans hf) |>.symm
      obtain rfl : fn = Tryd.f3 := (Option.some.inj (Tryd.func3.symm.trans hfn)).symm
      exact ⟨by kernel_rfl, fun j t ht => by
        rw [Tryd.params3] at ht
        have hm : t ∈ [22, 3] := List.mem_of_getElem? (i := j) (by simpa using ht)
        have := List.all_eq_true.1 treeParts_noStand t hm
        cases hw : Tryd.prog.wantsStandIn t with
        | false => exact hw
        | true => rw [hw] at this; cases this⟩)
    (by kernel_rfl)
#print axioms treeParts_holds
end Go.Proofs.YtmgjnbhofkchmaaDoor
