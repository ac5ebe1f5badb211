/-
  Law ValidScopes: the row and the card, by what the machine says of its text.
-/
import Derived.Test.YtdmgjhnmlilboaaGreatDoorAmMod
import Derived.Test.YtdmgjhnmlilboaaGreatDoorAmRow
import Derived.Test.YtdmgjhnmlilboaaGreatDoorAmS14L
import Derived.Test.YtdmgjhnmlilboaaGreatDoorTie
import Derived.Test.YtdmgjhnmlilboaaGreatDoorCards
import Derived.WalkKit
import Derived.ProofKit
import Derived.OpenShut
import Derived.LaidMore
import Derived.Stop.Joined
import Derived.SevenTiedAt
/-
  The types of modules in this program; the law of scopes, of all readable arguments.
-/
namespace Go.Proofs.YtdmgjhnmlilboaaGreatDoor
open Go.ChangeShapes Go.WideShapes Go.ChangeAt Go.RowKit Go.Proofs.Am

theorem own : ownKnob Tryz.prog.godebug = none := by kernel_rfl
def mty : MTy := { n := 3, v := 52, l := 35, b := 42, i := 54, q := 4, s := 9, u := 5, y := 59, fty := 64, lim := 68, imp := 70, mfn := 44, glo := 56, exq := 94, ele := 58, dat := 61, cus := 121, mdl := 32, ftys := 22, lims := 25, imps := 23, mfns := 24, glos := 26, exqs := 27, eles := 28, dats := 29, cuss := 30 }
theorem modIns : InsT Tryz.prog 54 3 52 35 42 4 where
  hN := Tryz.underlying3
  hV := Tryz.underlying52
  hQ := Tryz.underlying4
  hL := Tryz.underlying35
  hB := Tryz.underlying42
  fs := ⟨_, Tryz.underlying54, by kernel_rfl⟩
  hc := by kernel_rfl
theorem modT : ModT Tryz.prog mty where
  ins := modIns
  hs := Tryz.underlying9
  hu := Tryz.underlying5
  hy := Tryz.underlying59
  bn := by kernel_rfl
  bi := by kernel_rfl
  bu := by kernel_rfl
  hfty := ⟨⟨_, Tryz.underlying64, by kernel_rfl⟩, by kernel_rfl⟩
  hftys := Tryz.underlying22
  bfty := by kernel_rfl
  hlim := ⟨⟨_, Tryz.underlying68, by kernel_rfl⟩, by kernel_rfl⟩
  hlims := Tryz.underlying25
  blim := by kernel_rfl
  himp := ⟨⟨_, Tryz.underlying70, by kernel_rfl⟩, by kernel_rfl⟩
  himps := Tryz.underlying23
  bimp := by kernel_rfl
  hmfn := ⟨⟨_, Tryz.underlying44, by kernel_rfl⟩, by kernel_rfl⟩
  hmfns := Tryz.underlying24
  bmfn := by kernel_rfl
  hglo := ⟨⟨_, Tryz.underlying56, by kernel_rfl⟩, by kernel_rfl⟩
  hglos := Tryz.underlying26
  bglo := by kernel_rfl
  hexq := ⟨⟨_, Tryz.underlying94, by kernel_rfl⟩, by kernel_rfl⟩
  hexqs := Tryz.underlying27
  bexq := by kernel_rfl
  hele := ⟨⟨_, Tryz.underlying58, by kernel_rfl⟩, by kernel_rfl⟩
  heles := Tryz.underlying28
  bele := by kernel_rfl
  hdat := ⟨⟨_, Tryz.underlying61, by kernel_rfl⟩, by kernel_rfl⟩
  hdats := Tryz.underlying29
  bdat := by kernel_rfl
  hcus := ⟨⟨_, Tryz.underlying121, by kernel_rfl⟩, by kernel_rfl⟩
  hcuss := Tryz.underlying30
  bcus := by kernel_rfl
  hmdl := ⟨⟨_, Tryz.underlying32, by kernel_rfl⟩, by kernel_rfl⟩

theorem validScopes_main (W : World) {H : Type} (ds : List (DataW H)) (xs : List AV) (hx : ShZC Tryz.prog Tryz.f3.params.toList xs ds) :
    ∃ (cx : Cx) (c : Code) (h' : Heap), cx.P = Tryz.prog ∧ CxOk cx ∧ GOk cx W (gFull W) ∧ Tryz.f3.body = some c ∧ cutAt cx 3 [.code c] = none ∧ blk cx 3 [.code c] (xs.map .v) Heap.nil = some (.v (.bool true), h') := by
  obtain ⟨c, hc, _⟩ := body_of Tryz.func3 (by kernel_rfl)
  rw [Tryz.params3] at hx
  obtain ⟨n1, y1, xs1, d1, ds1, rfl, rfl, h1, _, hx⟩ := zc_cons hx
  obtain ⟨n2, y2, xs2, d2, ds2, rfl, rfl, h2, _, hx⟩ := zc_cons hx
  obtain rfl := zc_nil hx
  obtain ⟨M, rfl, hM⟩ := z_mdl modT h1
  obtain ⟨k, rfl, _⟩ := z_i64 Tryz.underlying3 h2
  rw [argV_struct Tryz.underlying32, argV_int Tryz.underlying3]
  obtain ⟨h', hr⟩ := law3 0 hM k
  have hb : (cutAt (cxZ 0) 3 (body_ Tryz.prog 3)).isNone = true := by kernel_rfl
  rw [body_eq Tryz.func3 hc] at hr
  rw [body_eq Tryz.func3 hc, Option.isNone_iff_eq_none] at hb
  exact ⟨cxZ 0, c, h', rfl, cxZ_ok 0, (fun i cs h => by cases h), hc, hb, hr⟩
end Go.Proofs.YtdmgjhnmlilboaaGreatDoor


namespace Go.Proofs.YtdmgjhnmlilboaaGreatDoor
open Go.ChangeShapes Go.WideShapes Go.ChangeAt Go.RowKit Go.Proofs.Am

set_option maxRecDepth 100000 in
theorem validScopes_lifted (os : Os) (started : os.Started) (H : Type) (enc : TypeId × Value → H) :
    ReturnsInHanded {} Tryz.checked os 3 .any (fun w args => (Rows.validScopesSpec.pre enc Tryz.prog Tryz.f3 [] false w args ∧ laidMetH Tryz.prog Rows.validScopesRow.laid w) ∧ sizedMet enc Tryz.prog Tryz.f3 (OpenSpec.ofChange Rows.validScopesSpec) false w args)
      (Rows.validScopesSpec.post enc Tryz.prog Tryz.f3 false true false false) :=
  law_liftedZ (S := [3,4,5,9,52,35,42,54,59,64,68,70,44,56,94,58,61,121,32,22,25,23,24,26,27,28,29,30]) (C := Tryz.checked) (tb := 4) started own (by kernel_rfl) Tryz.func3 (by kernel_rfl) Tryz.underlying4 (by kernel_rfl) rfl
    (fun ds hd => by
      match ds, hd with
      | [d0, d1], _ => exact ⟨rfl, rfl, rfl⟩) (by kernel_rfl) (by kernel_rfl) (by kernel_rfl)
    (ChangeSpec.witness_shaped (enc := enc) (C := Tryz.checked) (os := os) (X := fun w _ => laidMetH Tryz.prog Rows.validScopesRow.laid w) false (World.doorLaid Tryz.prog 400 os) #[.agg #[.slice none 0 0, .slice none 0 0, .slice none 0 0, .slice none 0 0, .slice none 0 0, .slice none 0 0, .slice none 0 0, .int .i64 0, .slice none 0 0, .slice none 0 0, .slice none 0 0], .int .i64 0] 8 rfl (World.shaped_of_RefB (by kernel_rfl) (by kernel_rfl)) (by kernel_rfl) (by kernel_rfl) (by kernel_rfl)
      (laidMetH_of_parts3 (fuel := 8) (laidMet_of_run' 8 (by kernel_rfl) (by kernel_rfl)) (by kernel_rfl) (by kernel_rfl)))
    (fun W _ _ ds xs hx => validScopes_main W ds xs hx)

theorem validScopes_over : Rows.ValidScopesSaid :=
  OpenClaim.holds_of_wide 3 Tryz.f3 rfl rfl rfl rfl rfl rfl rfl ⟨rfl, rfl, rfl, rfl, rfl⟩ rfl rfl rfl rfl rfl (by kernel_rfl) Tryz.func3 (by kernel_rfl)
    (of_decide_eq_true (by kernel_rfl)) (by unfold Func.isWrapper; first | (rw [if_pos (by decide +kernel)]; kernel_rfl) | (rw [if_neg (by decide +kernel)]; exact ⟨rfl, rfl⟩))
    (fun os started H enc _ => validScopes_lifted os started H enc)

theorem validScopes_noStand : (List.all [32, 3] fun t => !Tryz.prog.wantsStandIn t) = true := by kernel_rfl
/-- The card. -/
theorem validScopes_holds : Rows.ValidScopesCardSaid :=
  Claim7.holds_tied_plain_at .later [] [.listed, .data] true (true, "917d6770ebcaf9313ff1ab819532074b1a3e2e020bb722e8ef65bad3334c4d56") true
    validScopes_over (fun _ h => by cases h) (by kernel_rfl) (fun _ h => by cases h) validScopes_row_tie rfl ⟨rfl, rfl⟩ (by kernel_rfl) rfl
    (fun f fn hf hfn => by
      obtain rfl : f = 3 := Option.some.inj ((show Tryz.prog.funcNamed "grommet/grommetlaw14.ValidScopes" = some 3 by kernel_rfl).symm.trans hf) |>.symm
      obtain rfl : fn = Tryz.f3 := (Option.some.inj (Tryz.func3.symm.trans hfn)).symm
      exact ⟨by kernel_rfl, fun j t ht => by
        rw [Tryz.params3] at ht
        have hm : t ∈ [32, 3] := List.mem_of_getElem? (i := j) (by simpa using ht)
        have := List.all_eq_true.1 validScopes_noStand t hm
        cases hw : Tryz.prog.wantsStandIn t with
        | false => exact hw
        | true => rw [hw] at this; cases this⟩)
    (by kernel_rfl)
#print axioms validScopes_holds
end Go.Proofs.YtdmgjhnmlilboaaGreatDoor
