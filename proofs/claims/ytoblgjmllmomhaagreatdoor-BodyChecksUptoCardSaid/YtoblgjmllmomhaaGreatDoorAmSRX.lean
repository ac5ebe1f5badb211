/-
  Law BodyChecks: the row and the card, by what the machine says of its text.
-/
import Derived.Test.YtoblgjmllmomhaaGreatDoorAmMod
import Derived.Test.YtoblgjmllmomhaaGreatDoorAmSRv
namespace Go.Proofs.YtoblgjmllmomhaaGreatDoor
open Go.ChangeShapes Go.WideShapes Go.ChangeAt Go.RowKit Go.Proofs.Am
set_option maxRecDepth 100000 in
theorem bodyChecks_lifted (os : Os) (started : os.Started) (H : Type) (enc : TypeId × Value -> H) :
  ReturnsInHanded {} Tryz.checked os 3 .any (fun w args => ((upSpec Rows.bodyChecksSpec Rows.uptoSmall).pre enc Tryz.prog Tryz.f3 [] false w args /\ laidMetH Tryz.prog Rows.bodyChecksUptoRow.laid w) /\ sizedMet enc Tryz.prog Tryz.f3 (upSpec Rows.bodyChecksSpec Rows.uptoSmall) false w args)
   (Rows.bodyChecksSpec.post enc Tryz.prog Tryz.f3 false true false false) :=
 law_liftedU (S := [3,4,22,23,24,26,27,53,58,60,77]) (C := Tryz.checked) (tb := 4) started own (by kernel_rfl) Tryz.func3 (by kernel_rfl) Tryz.underlying4 (by kernel_rfl) rfl
  (fun ds hd => by
   match ds, hd with
   | [d0, d1], _ => exact ⟨rfl, rfl, rfl⟩) (by kernel_rfl) (by kernel_rfl) (by kernel_rfl)
  (ChangeSpec.witness_shaped (enc := enc) (C := Tryz.checked) (os := os) (X := fun w args => laidMetH Tryz.prog Rows.bodyChecksUptoRow.laid w /\ CondMet enc Tryz.prog Tryz.f3 Rows.bodyChecksSpec Rows.uptoSmall w args) false (World.doorLaid Tryz.prog 400 os) #[.agg #[.slice none 0 0, .slice none 0 0, .slice none 0 0, .bool false, .bool false, .slice none 0 0, .int .i64 0], .slice none 0 0] 8 rfl (World.shaped_of_RefB (by kernel_rfl) (by kernel_rfl)) (by kernel_rfl) (by kernel_rfl) (by kernel_rfl)
   ⟨laidMetH_of_parts3 (fuel := 8) (laidMet_of_run' 8 (by kernel_rfl) (by kernel_rfl)) (by kernel_rfl) (by kernel_rfl), CondMet.of_run 8 (by kernel_rfl)⟩)
  (fun W hL hsh ds xs hx hk => bodyChecks_main W hL hsh ds xs hx hk)
theorem bodyChecks_over : Rows.BodyChecksUptoSaid :=
 OpenClaim.holds_of_cond 3 Tryz.f3 rfl rfl rfl rfl rfl rfl rfl ⟨rfl, rfl, rfl, rfl, rfl⟩ rfl rfl rfl rfl rfl (by kernel_rfl) Tryz.func3 (by kernel_rfl)
  (of_decide_eq_true (by kernel_rfl)) (by unfold Func.isWrapper; first | (rw [if_pos (by decide +kernel)]; kernel_rfl) | (rw [if_neg (by decide +kernel)]; exact ⟨rfl, rfl⟩))
  (fun os started H enc _ _ => bodyChecks_lifted os started H enc)
theorem bodyChecks_noStand : (List.all [26,27] fun t => !Tryz.prog.wantsStandIn t) = true := by kernel_rfl
theorem bodyChecks_holds : Rows.BodyChecksUptoCardSaid :=
 Claim7.holds_tied_plain_at .later [] [.listed, .data] true (true, "46d1b7095e034d02a507c8fa26de451ca37348ffef385066bdcf188d79a605d4") true
  bodyChecks_over (fun _ h => by cases h) (by kernel_rfl) (fun _ h => by cases h) bodyChecksUpto_row_tie rfl ⟨rfl, rfl⟩ (by kernel_rfl) rfl
  (fun f fn hf hfn => by
   obtain rfl : f = 3 := Option.some.inj ((show Tryz.prog.funcNamed "grommet/grommetlaw13.BodyChecks" = some 3 by kernel_rfl).symm.trans hf) |>.symm
   obtain rfl : fn = Tryz.f3 := (Option.some.inj (Tryz.func3.symm.trans hfn)).symm
   exact ⟨by kernel_rfl, fun j t ht => by
    rw [Tryz.params3] at ht
    have hm : t ∈ [26,27] := List.mem_of_getElem? (i := j) (by simpa using ht)
    have := List.all_eq_true.1 bodyChecks_noStand t hm
    cases hw : Tryz.prog.wantsStandIn t with
    | false => exact hw
    | true => rw [hw] at this; cases this⟩)
  (by kernel_rfl)
#print axioms bodyChecks_holds
end Go.Proofs.YtoblgjmllmomhaaGreatDoor
