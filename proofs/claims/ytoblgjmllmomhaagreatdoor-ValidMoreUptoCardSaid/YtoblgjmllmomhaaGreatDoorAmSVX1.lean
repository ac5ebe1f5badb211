/-
  Law ValidMore: the row and the card, by what the machine says of its text.
-/
import Derived.Test.YtoblgjmllmomhaaGreatDoorAmMod
import Derived.Test.YtoblgjmllmomhaaGreatDoorAmSVr
namespace Go.Proofs.YtoblgjmllmomhaaGreatDoor
open Go.ChangeShapes Go.WideShapes Go.ChangeAt Go.RowKit Go.Proofs.Am
set_option maxRecDepth 100000 in
theorem validLess_lifted (os : Os) (started : os.Started) (H : Type) (enc : TypeId × Value → H) :
  ReturnsInHanded {} Tryz.checked os 4 .any (fun w args => ((upSpec Rows.validLessSpec Rows.uptoSmall).pre enc Tryz.prog Tryz.f4 [] false w args ∧ laidMetH Tryz.prog Rows.validLessUptoRow.laid w) ∧ sizedMet enc Tryz.prog Tryz.f4 (upSpec Rows.validLessSpec Rows.uptoSmall) false w args)
   (Rows.validLessSpec.post enc Tryz.prog Tryz.f4 false true false false) :=
 law_liftedU (S := [3,4,5,9,58,23,27,80,60,53,93,95,74,77,100,79,82,88,46,22,40,38,39,24,41,42,43,44]) (C := Tryz.checked) (tb := 4) started own (by kernel_rfl) Tryz.func4 (by kernel_rfl) Tryz.underlying4 (by kernel_rfl) rfl
  (fun ds hd => by
   match ds, hd with
   | [d0], _ => exact ⟨rfl, rfl, rfl⟩) (by kernel_rfl) (by kernel_rfl) (by kernel_rfl)
  (ChangeSpec.witness_shaped (enc := enc) (C := Tryz.checked) (os := os) (X := fun w args => laidMetH Tryz.prog Rows.validLessUptoRow.laid w ∧ CondMet enc Tryz.prog Tryz.f4 Rows.validLessSpec Rows.uptoSmall w args) false (World.doorLaid Tryz.prog 400 os) #[.agg #[.slice none 0 0, .slice none 0 0, .slice none 0 0, .slice none 0 0, .slice none 0 0, .slice none 0 0, .slice none 0 0, .int .i64 0, .slice none 0 0, .slice none 0 0, .slice none 0 0]] 8 rfl (World.shaped_of_RefB (by kernel_rfl) (by kernel_rfl)) (by kernel_rfl) (by kernel_rfl) (by kernel_rfl)
   ⟨laidMetH_of_parts3 (fuel := 8) (laidMet_of_run' 8 (by kernel_rfl) (by kernel_rfl)) (by kernel_rfl) (by kernel_rfl), CondMet.of_run 8 (by kernel_rfl)⟩)
  (fun W hL hsh ds xs hx hk => validLess_main W hL hsh ds xs hx hk)
theorem validLess_over : Rows.ValidLessUptoSaid :=
 OpenClaim.holds_of_cond 4 Tryz.f4 rfl rfl rfl rfl rfl rfl rfl ⟨rfl, rfl, rfl, rfl, rfl⟩ rfl rfl rfl rfl rfl (by kernel_rfl) Tryz.func4 (by kernel_rfl)
  (of_decide_eq_true (by kernel_rfl)) (by unfold Func.isWrapper; first | (rw [if_pos (by decide +kernel)]; kernel_rfl) | (rw [if_neg (by decide +kernel)]; exact ⟨rfl, rfl⟩))
  (fun os started H enc _ _ => validLess_lifted os started H enc)
theorem validLess_noStand : (List.all [46] fun t => !Tryz.prog.wantsStandIn t) = true := by kernel_rfl
theorem validLess_holds : Rows.ValidLessUptoCardSaid :=
 Claim7.holds_tied_plain_at .later [] [.listed, .data] true (true, "46d1b7095e034d02a507c8fa26de451ca37348ffef385066bdcf188d79a605d4") true
  validLess_over (fun _ h => by cases h) (by kernel_rfl) (fun _ h => by cases h) validLessUpto_row_tie rfl ⟨rfl, rfl⟩ (by kernel_rfl) rfl
  (fun f fn hf hfn => by
   obtain rfl : f = 4 := Option.some.inj ((show Tryz.prog.funcNamed "grommet/grommetlaw14.ValidLess" = some 4 by kernel_rfl).symm.trans hf) |>.symm
   obtain rfl : fn = Tryz.f4 := (Option.some.inj (Tryz.func4.symm.trans hfn)).symm
   exact ⟨by kernel_rfl, fun j t ht => by
    rw [Tryz.params4] at ht
    have hm : t ∈ [46] := List.mem_of_getElem? (i := j) (by simpa using ht)
    have := List.all_eq_true.1 validLess_noStand t hm
    cases hw : Tryz.prog.wantsStandIn t with
    | false => exact hw
    | true => rw [hw] at this; cases this⟩)
  (by kernel_rfl)
#print axioms validLess_holds
end Go.Proofs.YtoblgjmllmomhaaGreatDoor
namespace Go.Proofs.YtoblgjmllmomhaaGreatDoor
open Go.ChangeShapes Go.WideShapes Go.ChangeAt Go.RowKit Go.Proofs.Am
set_option maxRecDepth 100000 in
theorem validMore_lifted (os : Os) (started : os.Started) (H : Type) (enc : TypeId × Value → H) :
  ReturnsInHanded {} Tryz.checked os 6 .any (fun w args => ((upSpec Rows.validMoreSpec Rows.uptoSmall).pre enc Tryz.prog Tryz.f6 [] false w args ∧ laidMetH Tryz.prog Rows.validMoreUptoRow.laid w) ∧ sizedMet enc Tryz.prog Tryz.f6 (upSpec Rows.validMoreSpec Rows.uptoSmall) false w args)
   (Rows.validMoreSpec.post enc Tryz.prog Tryz.f6 false true false false) :=
 law_liftedU (S := [3,4,5,9,58,23,27,80,60,53,93,95,74,77,100,79,82,88,46,22,40,38,39,24,41,42,43,44]) (C := Tryz.checked) (tb := 4) started own (by kernel_rfl) Tryz.func6 (by kernel_rfl) Tryz.underlying4 (by kernel_rfl) rfl
  (fun ds hd => by
   match ds, hd with
   | [d0, d1], _ => exact ⟨rfl, rfl, rfl⟩) (by kernel_rfl) (by kernel_rfl) (by kernel_rfl)
  (ChangeSpec.witness_shaped (enc := enc) (C := Tryz.checked) (os := os) (X := fun w args => laidMetH Tryz.prog Rows.validMoreUptoRow.laid w ∧ CondMet enc Tryz.prog Tryz.f6 Rows.validMoreSpec Rows.uptoSmall w args) false (World.doorLaid Tryz.prog 400 os) #[.agg #[.slice none 0 0, .slice none 0 0, .slice none 0 0, .slice none 0 0, .slice none 0 0, .slice none 0 0, .slice none 0 0, .int .i64 0, .slice none 0 0, .slice none 0 0, .slice none 0 0], .bool false] 8 rfl (World.shaped_of_RefB (by kernel_rfl) (by kernel_rfl)) (by kernel_rfl) (by kernel_rfl) (by kernel_rfl)
   ⟨laidMetH_of_parts3 (fuel := 8) (laidMet_of_run' 8 (by kernel_rfl) (by kernel_rfl)) (by kernel_rfl) (by kernel_rfl), CondMet.of_run 8 (by kernel_rfl)⟩)
  (fun W hL hsh ds xs hx hk => validMore_main W hL hsh ds xs hx hk)
theorem validMore_over : Rows.ValidMoreUptoSaid :=
 OpenClaim.holds_of_cond 6 Tryz.f6 rfl rfl rfl rfl rfl rfl rfl ⟨rfl, rfl, rfl, rfl, rfl⟩ rfl rfl rfl rfl rfl (by kernel_rfl) Tryz.func6 (by kernel_rfl)
  (of_decide_eq_true (by kernel_rfl)) (by unfold Func.isWrapper; first | (rw [if_pos (by decide +kernel)]; kernel_rfl) | (rw [if_neg (by decide +kernel)]; exact ⟨rfl, rfl⟩))
  (fun os started H enc _ _ => validMore_lifted os started H enc)
theorem validMore_noStand : (List.all [46,4] fun t => !Tryz.prog.wantsStandIn t) = true := by kernel_rfl
theorem validMore_holds : Rows.ValidMoreUptoCardSaid :=
 Claim7.holds_tied_plain_at .later [] [.listed, .data] true (true, "46d1b7095e034d02a507c8fa26de451ca37348ffef385066bdcf188d79a605d4") true
  validMore_over (fun _ h => by cases h) (by kernel_rfl) (fun _ h => by cases h) validMoreUpto_row_tie rfl ⟨rfl, rfl⟩ (by kernel_rfl) rfl
  (fun f fn hf hfn => by
   obtain rfl : f = 6 := Option.some.inj ((show Tryz.prog.funcNamed "grommet/grommetlaw14.ValidMore" = some 6 by kernel_rfl).symm.trans hf) |>.symm
   obtain rfl : fn = Tryz.f6 := (Option.some.inj (Tryz.func6.symm.trans hfn)).symm
   exact ⟨by kernel_rfl, fun j t ht => by
    rw [Tryz.params6] at ht
    have hm : t ∈ [46,4] := List.mem_of_getElem? (i := j) (by simpa using ht)
    have := List.all_eq_true.1 validMore_noStand t hm
    cases hw : Tryz.prog.wantsStandIn t with
    | false => exact hw
    | true => rw [hw] at this; cases this⟩)
  (by kernel_rfl)
#print axioms validMore_holds
end Go.Proofs.YtoblgjmllmomhaaGreatDoor
