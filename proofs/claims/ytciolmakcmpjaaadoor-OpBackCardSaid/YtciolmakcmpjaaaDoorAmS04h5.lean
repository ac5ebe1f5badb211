/-
  Law OpBack: the machine's answer at every byte, the row, the card.
-/
import Derived.Test.YtciolmakcmpjaaaDoorAmRow
import Derived.Test.YtciolmakcmpjaaaDoorAmS04e
import Derived.Test.YtciolmakcmpjaaaDoorAmS04e5c0
import Derived.Test.YtciolmakcmpjaaaDoorAmS04e5c1
import Derived.Test.YtciolmakcmpjaaaDoorAmS04e5c2
import Derived.Test.YtciolmakcmpjaaaDoorAmS04e5c3
import Derived.Test.YtciolmakcmpjaaaDoorAmS04g
namespace Go.Proofs.YtciolmakcmpjaaaDoor
open Go.ChangeShapes Go.WideShapes Go.ChangeAt Go.RowKit Go.Proofs.Am

theorem opBack_big (m : Int) (k : Nat) : runI 5 m (.ofNat (k + 192)) = yes := by kernel_rfl
theorem opBack_neg (m : Int) (k : Nat) : runI 5 m (.negSucc k) = yes := by kernel_rfl
theorem opBack_run (m z : Int) : runI 5 m z = yes := run_all opBack_big opBack_neg law5_0 law5_1 law5_2 law5_3 m z

theorem opBack_main (m b : Int) : ∃ c h', Tryd.f5.body = some c ∧ cutAt (cxU m) 5 [.code c] = none ∧ blk (cxU m) 5 [.code c] [.v (.int .i64 b)] Heap.nil = some (.v (.bool true), h') := by
  obtain ⟨c, hc, hbody⟩ := body_of Tryd.func5 (by kernel_rfl)
  have h := opBack_run m b
  unfold runI yes at h
  rw [hbody] at h
  obtain ⟨h', h⟩ := blk_of_run h
  exact ⟨c, h', hc, cut_none rfl _ _, h⟩

set_option maxRecDepth 100000 in
theorem opBack_lifted (os : Os) (started : os.Started) (H : Type) (enc : TypeId × Value → H) :
    ReturnsInHanded {} Tryd.checked os 5 .any (fun w args => (Rows.opBackSpec.pre enc Tryd.prog Tryd.f5 [] false w args ∧ laidMetH Tryd.prog Rows.opBackRow.laid w) ∧ sizedMet enc Tryd.prog Tryd.f5 (OpenSpec.ofChange Rows.opBackSpec) false w args)
      (Rows.opBackSpec.post enc Tryd.prog Tryd.f5 false true false false) := by
  refine handed_and_shaped (C := Tryd.checked) (X := fun w _ => laidMetH Tryd.prog Rows.opBackRow.laid w) (fun _ _ _ hh h => h.of_heap hh) own started (by kernel_rfl) Tryd.func5
    (ChangeSpec.witness_shaped (enc := enc) (C := Tryd.checked) (os := os) (X := fun w _ => laidMetH Tryd.prog Rows.opBackRow.laid w) false (World.doorLaid Tryd.prog 400 os) #[.int .i64 0] 8 rfl (World.shaped_of_RefB (by kernel_rfl) (by kernel_rfl)) (by kernel_rfl) (by kernel_rfl) (by kernel_rfl)
      (laidMetH_of_parts3 (fuel := 8) (laidMet_of_run' 8 (by kernel_rfl) (by kernel_rfl)) (by kernel_rfl) (by kernel_rfl))) ?_
  intro W base args ds gs before hval0 hW _ _ hL hsh _
  have hval : ∀ (j : Nat) t v, Tryd.f5.params[j]? = some t → args[j]? = some v → Value.okWide Tryd.prog W .any base t v := hval0
  have hW' := hW
  obtain ⟨p, q, hA0, hV, rfl, hfz, hnd⟩ := hW
  have hA : DataW.TrodAll enc Tryd.prog W 0 (fun _ => true) true Tryd.f5.params.toList args.toList ds p := hA0
  rw [Tryd.params5] at hA hval
  obtain ⟨v0, d0, rfl, rfl, h0⟩ := trodAll_one hA
  obtain ⟨rfl, rfl⟩ := trodVars_none hV
  obtain ⟨b, rfl, rfl, rfl, hb⟩ := open_int Tryd.underlying3 (hval 0 3 v0 rfl rfl) h0
  obtain ⟨m, hG⟩ := glob_ok rfl hL hsh
  obtain ⟨c, h', hc, hcut, hr⟩ := opBack_main m b
  refine (law_true (cxU_ok m) Tryd.func5 hc hcut hG (xs := [.int .i64 b]) rfl (fun j x hj => by
    cases j with
    | zero => simp at hj; subst hj; exact ⟨_, rfl, .int _ _⟩
    | succ j => simp at hj) hr).mono fun e W' ⟨he, bel⟩ => ?_
  subst he
  clear hA0 hval0
  simp only [List.append_nil] at hW'
  exact ⟨_, rfl, _, _, _, [], _, [], hW', trodAll_mk1 (shut_bool Tryd.underlying4 _), trodAll_mk1 (shut_int Tryd.underlying3 hb), rfl, bel.frame _, fun h => by cases h⟩

theorem opBack_over : Rows.OpBackSaid :=
  OpenClaim.holds_of_wide 5 Tryd.f5 rfl rfl rfl rfl rfl rfl rfl ⟨rfl, rfl, rfl, rfl, rfl⟩ rfl rfl rfl rfl rfl (by kernel_rfl) Tryd.func5 (by kernel_rfl)
    (of_decide_eq_true (by kernel_rfl)) (by unfold Func.isWrapper; first | (rw [if_pos (by decide +kernel)]; kernel_rfl) | (rw [if_neg (by decide +kernel)]; exact ⟨rfl, rfl⟩))
    (fun os started H enc _ => opBack_lifted os started H enc)

/-- The card. -/
theorem opBack_holds : Rows.OpBackCardSaid :=
  Claim7.holds_tied_plain_at .later [] [.listed, .data] true (true, "e0b1e1ed63a880047f2763a0c82467597d0b04a2174cf694e2a80bccba333864") true
    opBack_over (fun _ h => by cases h) (by kernel_rfl) (fun _ h => by cases h) opBack_row_tie rfl ⟨rfl, rfl⟩ (by kernel_rfl) rfl
    (fun f fn hf hfn => by
      obtain rfl : f = 5 := Option.some.inj ((show Tryd.prog.funcNamed "grommet/grommetlaw04.OpBack" = some 5 by kernel_rfl).symm.trans hf) |>.symm
      obtain rfl : fn = Tryd.f5 := (Option.some.inj (Tryd.func5.symm.trans hfn)).symm
      exact ⟨by kernel_rfl, fun j t ht => by
        rw [Tryd.params5] at ht
        have h3 : t = 3 := by
          rcases j with _ | j
          · simpa using ht.symm
          · simp at ht
        subst h3
        exact (show Tryd.prog.wantsStandIn 3 = false by kernel_rfl)⟩)
    (by kernel_rfl)
#print axioms opBack_holds
end Go.Proofs.YtciolmakcmpjaaaDoor
