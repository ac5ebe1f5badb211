/-
  Law OpStays: the row and the card, by what the machine says of its text.
-/
import Derived.Test.YtciolmakcmpjaaaDoorAmIns
import Derived.Test.YtciolmakcmpjaaaDoorAmS04u

namespace Go.Proofs.YtciolmakcmpjaaaDoor
open Go.ChangeShapes Go.WideShapes Go.ChangeAt Go.RowKit Go.Proofs.Am

set_option maxRecDepth 100000 in
theorem opStays_lifted (os : Os) (started : os.Started) (H : Type) (enc : TypeId × Value → H) :
    ReturnsInHanded {} Tryd.checked os 6 .any (fun w args => (Rows.opStaysSpec.pre enc Tryd.prog Tryd.f6 [] false w args ∧ laidMetH Tryd.prog Rows.opStaysRow.laid w) ∧ sizedMet enc Tryd.prog Tryd.f6 (OpenSpec.ofChange Rows.opStaysSpec) false w args)
      (Rows.opStaysSpec.post enc Tryd.prog Tryd.f6 false true false false) :=
  law_liftedC (S := [3]) (C := Tryd.checked) (tb := 4) started own (by kernel_rfl) Tryd.func6 (by kernel_rfl) Tryd.underlying4 (by kernel_rfl) rfl
    (fun ds hd => by
      match ds, hd with
      | [d0], _ => exact ⟨rfl, rfl, rfl⟩) (by kernel_rfl) (by kernel_rfl) (by kernel_rfl)
    (ChangeSpec.witness_shaped (enc := enc) (C := Tryd.checked) (os := os) (X := fun w _ => laidMetH Tryd.prog Rows.opStaysRow.laid w) false (World.doorLaid Tryd.prog 400 os) #[.int .i64 0] 8 rfl (World.shaped_of_RefB (by kernel_rfl) (by kernel_rfl)) (by kernel_rfl) (by kernel_rfl) (by kernel_rfl)
      (laidMetH_of_parts3 (fuel := 8) (laidMet_of_run' 8 (by kernel_rfl) (by kernel_rfl)) (by kernel_rfl) (by kernel_rfl)))
    (fun W hL hsh ds xs hx _ => opStays_main W hL hsh ds xs hx)

theorem opStays_over : Rows.OpStaysSaid :=
  OpenClaim.holds_of_wide 6 Tryd.f6 rfl rfl rfl rfl rfl rfl rfl ⟨rfl, rfl, rfl, rfl, rfl⟩ rfl rfl rfl rfl rfl (by kernel_rfl) Tryd.func6 (by kernel_rfl)
    (of_decide_eq_true (by kernel_rfl)) (by unfold Func.isWrapper; first | (rw [if_pos (by decide +kernel)]; kernel_rfl) | (rw [if_neg (by decide +kernel)]; exact ⟨rfl, rfl⟩))
    (fun os started H enc _ => opStays_lifted os started H enc)

theorem opStays_noStand : (List.all [3] fun t => !Tryd.prog.wantsStandIn t) = true := by kernel_rfl
/-- The card. -/
theorem opStays_holds : Rows.OpStaysCardSaid :=
  Claim7.holds_tied_plain_at .later [] [.listed, .data] true (true, "e0b1e1ed63a880047f2763a0c82467597d0b04a2174cf694e2a80bccba333864") true
    opStays_over (fun _ h => by cases h) (by kernel_rfl) (fun _ h => by cases h) opStays_row_tie rfl ⟨rfl, rfl⟩ (by kernel_rfl) rfl
    (fun f fn hf hfn => by
      obtain rfl : f = 6 := Option.some.inj ((show Tryd.prog.funcNamed "grommet/grommetlaw04.OpStays" = some 6 by kernel_rfl).symm.trans hf) |>.symm
      obtain rfl : fn = Tryd.f6 := (Option.some.inj (Tryd.func6.symm.trans hfn)).symm
      exact ⟨by kernel_rfl, fun j t ht => by
        rw [Tryd.params6] at ht
        have hm : t ∈ [3] := List.mem_of_getElem? (i := j) (by simpa using ht)
        have := List.all_eq_true.1 opStays_noStand t hm
        cases hw : Tryd.prog.wantsStandIn t with
        | false => exact hw
        | true => rw [hw] at this; cases this⟩)
    (by kernel_rfl)
#print axioms opStays_holds
end Go.Proofs.YtciolmakcmpjaaaDoor
