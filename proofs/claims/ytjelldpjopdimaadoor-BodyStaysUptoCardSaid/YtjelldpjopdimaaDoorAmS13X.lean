/-
  Law BodyStays: the row and the card, by what the machine says of its text.
-/
import Derived.Test.YtjelldpjopdimaaDoorAmMod
import Derived.Test.YtjelldpjopdimaaDoorAmS13v

namespace Go.Proofs.YtjelldpjopdimaaDoor
open Go.ChangeShapes Go.WideShapes Go.ChangeAt Go.RowKit Go.Proofs.Am

set_option maxRecDepth 100000 in
theorem bodyStays_lifted (os : Os) (started : os.Started) (H : Type) (enc : TypeId × Value → H) :
    ReturnsInHanded {} Tryd.checked os 5 .any (fun w args => ((upSpec Rows.bodyStaysSpec Rows.uptoSmall).pre enc Tryd.prog Tryd.f5 [] false w args ∧ laidMetH Tryd.prog Rows.bodyStaysUptoRow.laid w) ∧ sizedMet enc Tryd.prog Tryd.f5 (upSpec Rows.bodyStaysSpec Rows.uptoSmall) false w args)
      (Rows.bodyStaysSpec.post enc Tryd.prog Tryd.f5 false true false false) :=
  law_liftedU (S := [3,4,22,23,24,26,27,36,37,39,41]) (C := Tryd.checked) (tb := 4) started own (by kernel_rfl) Tryd.func5 (by kernel_rfl) Tryd.underlying4 (by kernel_rfl) rfl
    (fun ds hd => by
      match ds, hd with
      | [d0, d1], _ => exact ⟨rfl, rfl, rfl⟩) (by kernel_rfl) (by kernel_rfl) (by kernel_rfl)
    (ChangeSpec.witness_shaped (enc := enc) (C := Tryd.checked) (os := os) (X := fun w args => laidMetH Tryd.prog Rows.bodyStaysUptoRow.laid w ∧ CondMet enc Tryd.prog Tryd.f5 Rows.bodyStaysSpec Rows.uptoSmall w args) false (World.doorLaid Tryd.prog 400 os) #[.agg #[.slice none 0 0, .slice none 0 0, .slice none 0 0, .bool false, .bool false, .slice none 0 0, .int .i64 0], .slice none 0 0] 8 rfl (World.shaped_of_RefB (by kernel_rfl) (by kernel_rfl)) (by kernel_rfl) (by kernel_rfl) (by kernel_rfl)
      ⟨laidMetH_of_parts3 (fuel := 8) (laidMet_of_run' 8 (by kernel_rfl) (by kernel_rfl)) (by kernel_rfl) (by kernel_rfl), CondMet.of_run 8 (by kernel_rfl)⟩)
    (fun W hL hsh ds xs hx hk => bodyStays_main W hL hsh ds xs hx hk)

theorem bodyStays_over : Rows.BodyStaysUptoSaid :=
  OpenClaim.holds_of_cond 5 Tryd.f5 rfl rfl rfl rfl rfl rfl rfl ⟨rfl, rfl, rfl, rfl, rfl⟩ rfl rfl rfl rfl rfl (by kernel_rfl) Tryd.func5 (by kernel_rfl)
    (of_decide_eq_true (by kernel_rfl)) (by unfold Func.isWrapper; first | (rw [if_pos (by decide +kernel)]; kernel_rfl) | (rw [if_neg (by decide +kernel)]; exact ⟨rfl, rfl⟩))
    (fun os started H enc _ _ => bodyStays_lifted os started H enc)

theorem bodyStays_noStand : (List.all [26,27] fun t => !Tryd.prog.wantsStandIn t) = true := by kernel_rfl
/-- The card. -/
theorem bodyStays_holds : Rows.BodyStaysUptoCardSaid :=
  Claim7.holds_tied_plain_at .later [] [.listed, .data] true (true, "05d748245b80e632b092f4a2cc55ef4ef4b21580430c3baf09d6c9d1a6f82da8") true
    bodyStays_over (fun _ h => by cases h) (by kernel_rfl) (fun _ h => by cases h) bodyStaysUpto_row_tie rfl ⟨rfl, rfl⟩ (by kernel_rfl) rfl
    (fun f fn hf hfn => by
      obtain rfl : f = 5 := Option.some.inj ((show Tryd.prog.funcNamed "grommet/grommetlaw13.BodyStays" = some 5 by kernel_rfl).symm.trans hf) |>.symm
      obtain rfl : fn = Tryd.f5 := (Option.some.inj (Tryd.func5.symm.trans hfn)).symm
      exact ⟨by kernel_rfl, fun j t ht => by
        rw [Tryd.params5] at ht
        have hm : t ∈ [26,27] := List.mem_of_getElem? (i := j) (by simpa using ht)
        have := List.all_eq_true.1 bodyStays_noStand t hm
        cases hw : Tryd.prog.wantsStandIn t with
        | false => exact hw
        | true => rw [hw] at this; cases this⟩)
    (by kernel_rfl)
#print axioms bodyStays_holds
end Go.Proofs.YtjelldpjopdimaaDoor
