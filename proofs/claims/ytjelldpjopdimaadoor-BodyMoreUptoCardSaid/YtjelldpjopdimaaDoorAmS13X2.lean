/-
  Law BodyBlocks: the row and the card, by what the machine says of its text.
-/
import Derived.Test.YtjelldpjopdimaaDoorAmS13v
import Derived.Test.YtjelldpjopdimaaDoorAmS13y
import Derived.Test.YtjelldpjopdimaaDoorAmMod
/-
  Laws BodyMore and BodyBlocks: of all readable arguments that are small.
-/
namespace Go.Proofs.YtjelldpjopdimaaDoor
open Go.ChangeShapes Go.WideShapes Go.ChangeAt Go.RowKit Go.Proofs.Am

theorem in3_of {H : Type} {ds : List (DataW H)} {xs : List AV} (hx : ShZC Tryd.prog [26, 27, 3] xs ds) (hk : Rows.uptoSmall H ds = true) : ∃ (s : Scp) (l : List Ins) (z : Int), xs = [.agg s.enc, .imm (encIs l), .int .i64 z] ∧ Small s l ∧ InZ z := by
  obtain ⟨n1, y1, xs1, d1, ds1, rfl, rfl, h1, a1, hx⟩ := zc_cons hx
  obtain ⟨n2, y2, xs2, d2, ds2, rfl, rfl, h2, a2, hx⟩ := zc_cons hx
  obtain ⟨n3, y3, xs3, d3, ds3, rfl, rfl, h3, a3, hx⟩ := zc_cons hx
  obtain rfl := zc_nil hx
  obtain ⟨s, rfl⟩ := z_scp h1
  obtain ⟨l, rfl, _⟩ := z_code insT bN bI h2
  obtain ⟨z, rfl, hz⟩ := z_i64 Tryd.underlying3 h3
  have b1 := bk_le _ _ _ _ a1
  have b2 := bk_le _ _ _ _ a2
  have hk := of_decide_eq_true hk
  rw [Rows.uptoBulkAll, Rows.uptoBulkAll] at hk
  refine ⟨s, l, z, ?_, small_of (by omega), hz⟩
  rw [argV_struct Tryd.underlying26, argV_slice Tryd.underlying27, argV_int Tryd.underlying3]
theorem bodyMore_main (W : World) (hL : laidMetH Tryd.prog Rows.bodyMoreUptoRow.laid W) (hsh : W.ShapedOpen Tryd.prog) {H : Type} (ds : List (DataW H)) (xs : List AV) (hx : ShZC Tryd.prog Tryd.f3.params.toList xs ds) (hk : Rows.uptoSmall H ds = true) :
    ∃ (cx : Cx) (c : Code) (h' : Heap), cx.P = Tryd.prog ∧ CxOk cx ∧ GOk cx W (gFull W) ∧ Tryd.f3.body = some c ∧ cutAt cx 3 [.code c] = none ∧ blk cx 3 [.code c] (xs.map .v) Heap.nil = some (.v (.bool true), h') := by
  obtain ⟨m, hG⟩ := glob_ok rfl hL hsh
  obtain ⟨c, hc, hbody⟩ := body_of Tryd.func3 (by kernel_rfl)
  rw [Tryd.params3] at hx
  obtain ⟨s, l, z, rfl, hS, hz⟩ := in3_of hx hk
  obtain ⟨h', hr⟩ := more_walk (m := m) hS hz Heap.nil
  have hb : (cutAt (cxZ m) 3 (body_ Tryd.prog 3)).isNone = true := by kernel_rfl
  rw [body_eq Tryd.func3 hc] at hr
  rw [body_eq Tryd.func3 hc, Option.isNone_iff_eq_none] at hb
  exact ⟨cxZ m, c, h', rfl, cxZ_ok m, hG, hc, hb, hr⟩
theorem bodyBlocks_main (W : World) (hL : laidMetH Tryd.prog Rows.bodyBlocksUptoRow.laid W) (hsh : W.ShapedOpen Tryd.prog) {H : Type} (ds : List (DataW H)) (xs : List AV) (hx : ShZC Tryd.prog Tryd.f4.params.toList xs ds) (hk : Rows.uptoSmall H ds = true) :
    ∃ (cx : Cx) (c : Code) (h' : Heap), cx.P = Tryd.prog ∧ CxOk cx ∧ GOk cx W (gFull W) ∧ Tryd.f4.body = some c ∧ cutAt cx 4 [.code c] = none ∧ blk cx 4 [.code c] (xs.map .v) Heap.nil = some (.v (.bool true), h') := by
  obtain ⟨m, hG⟩ := glob_ok rfl hL hsh
  obtain ⟨c, hc, hbody⟩ := body_of Tryd.func4 (by kernel_rfl)
  rw [Tryd.params4] at hx
  obtain ⟨s, l, rfl, hS⟩ := in_of hx hk
  obtain ⟨h', hr⟩ := blocks_walk (m := m) hS Heap.nil
  have hb : (cutAt (cxZ m) 4 (body_ Tryd.prog 4)).isNone = true := by kernel_rfl
  rw [body_eq Tryd.func4 hc] at hr
  rw [body_eq Tryd.func4 hc, Option.isNone_iff_eq_none] at hb
  exact ⟨cxZ m, c, h', rfl, cxZ_ok m, hG, hc, hb, hr⟩
end Go.Proofs.YtjelldpjopdimaaDoor

/-
  Law BodyMore: the row and the card, by what the machine says of its text.
-/
namespace Go.Proofs.YtjelldpjopdimaaDoor
open Go.ChangeShapes Go.WideShapes Go.ChangeAt Go.RowKit Go.Proofs.Am

set_option maxRecDepth 100000 in
theorem bodyMore_lifted (os : Os) (started : os.Started) (H : Type) (enc : TypeId × Value → H) :
    ReturnsInHanded {} Tryd.checked os 3 .any (fun w args => ((upSpec Rows.bodyMoreSpec Rows.uptoSmall).pre enc Tryd.prog Tryd.f3 [] false w args ∧ laidMetH Tryd.prog Rows.bodyMoreUptoRow.laid w) ∧ sizedMet enc Tryd.prog Tryd.f3 (upSpec Rows.bodyMoreSpec Rows.uptoSmall) false w args)
      (Rows.bodyMoreSpec.post enc Tryd.prog Tryd.f3 false true false false) :=
  law_liftedU (S := [3,4,22,23,24,26,27,36,37,39,41]) (C := Tryd.checked) (tb := 4) started own (by kernel_rfl) Tryd.func3 (by kernel_rfl) Tryd.underlying4 (by kernel_rfl) rfl
    (fun ds hd => by
      match ds, hd with
      | [d0, d1, d2], _ => exact ⟨rfl, rfl, rfl⟩) (by kernel_rfl) (by kernel_rfl) (by kernel_rfl)
    (ChangeSpec.witness_shaped (enc := enc) (C := Tryd.checked) (os := os) (X := fun w args => laidMetH Tryd.prog Rows.bodyMoreUptoRow.laid w ∧ CondMet enc Tryd.prog Tryd.f3 Rows.bodyMoreSpec Rows.uptoSmall w args) false (World.doorLaid Tryd.prog 400 os) #[.agg #[.slice none 0 0, .slice none 0 0, .slice none 0 0, .bool false, .bool false, .slice none 0 0, .int .i64 0], .slice none 0 0, .int .i64 0] 8 rfl (World.shaped_of_RefB (by kernel_rfl) (by kernel_rfl)) (by kernel_rfl) (by kernel_rfl) (by kernel_rfl)
      ⟨laidMetH_of_parts3 (fuel := 8) (laidMet_of_run' 8 (by kernel_rfl) (by kernel_rfl)) (by kernel_rfl) (by kernel_rfl), CondMet.of_run 8 (by kernel_rfl)⟩)
    (fun W hL hsh ds xs hx hk => bodyMore_main W hL hsh ds xs hx hk)

theorem bodyMore_over : Rows.BodyMoreUptoSaid :=
  OpenClaim.holds_of_cond 3 Tryd.f3 rfl rfl rfl rfl rfl rfl rfl ⟨rfl, rfl, rfl, rfl, rfl⟩ rfl rfl rfl rfl rfl (by kernel_rfl) Tryd.func3 (by kernel_rfl)
    (of_decide_eq_true (by kernel_rfl)) (by unfold Func.isWrapper; first | (rw [if_pos (by decide +kernel)]; kernel_rfl) | (rw [if_neg (by decide +kernel)]; exact ⟨rfl, rfl⟩))
    (fun os started H enc _ _ => bodyMore_lifted os started H enc)

theorem bodyMore_noStand : (List.all [26,27,3] fun t => !Tryd.prog.wantsStandIn t) = true := by kernel_rfl
/-- The card. -/
theorem bodyMore_holds : Rows.BodyMoreUptoCardSaid :=
  Claim7.holds_tied_plain_at .later [] [.listed, .data] true (true, "05d748245b80e632b092f4a2cc55ef4ef4b21580430c3baf09d6c9d1a6f82da8") true
    bodyMore_over (fun _ h => by cases h) (by kernel_rfl) (fun _ h => by cases h) bodyMoreUpto_row_tie rfl ⟨rfl, rfl⟩ (by kernel_rfl) rfl
    (fun f fn hf hfn => by
      obtain rfl : f = 3 := Option.some.inj ((show Tryd.prog.funcNamed "grommet/grommetlaw13.BodyMore" = some 3 by kernel_rfl).symm.trans hf) |>.symm
      obtain rfl : fn = Tryd.f3 := (Option.some.inj (Tryd.func3.symm.trans hfn)).symm
      exact ⟨by kernel_rfl, fun j t ht => by
        rw [Tryd.params3] at ht
        have hm : t ∈ [26,27,3] := List.mem_of_getElem? (i := j) (by simpa using ht)
        have := List.all_eq_true.1 bodyMore_noStand t hm
        cases hw : Tryd.prog.wantsStandIn t with
        | false => exact hw
        | true => rw [hw] at this; cases this⟩)
    (by kernel_rfl)
#print axioms bodyMore_holds
end Go.Proofs.YtjelldpjopdimaaDoor


namespace Go.Proofs.YtjelldpjopdimaaDoor
open Go.ChangeShapes Go.WideShapes Go.ChangeAt Go.RowKit Go.Proofs.Am

set_option maxRecDepth 100000 in
theorem bodyBlocks_lifted (os : Os) (started : os.Started) (H : Type) (enc : TypeId × Value → H) :
    ReturnsInHanded {} Tryd.checked os 4 .any (fun w args => ((upSpec Rows.bodyBlocksSpec Rows.uptoSmall).pre enc Tryd.prog Tryd.f4 [] false w args ∧ laidMetH Tryd.prog Rows.bodyBlocksUptoRow.laid w) ∧ sizedMet enc Tryd.prog Tryd.f4 (upSpec Rows.bodyBlocksSpec Rows.uptoSmall) false w args)
      (Rows.bodyBlocksSpec.post enc Tryd.prog Tryd.f4 false true false false) :=
  law_liftedU (S := [3,4,22,23,24,26,27,36,37,39,41]) (C := Tryd.checked) (tb := 4) started own (by kernel_rfl) Tryd.func4 (by kernel_rfl) Tryd.underlying4 (by kernel_rfl) rfl
    (fun ds hd => by
      match ds, hd with
      | [d0, d1], _ => exact ⟨rfl, rfl, rfl⟩) (by kernel_rfl) (by kernel_rfl) (by kernel_rfl)
    (ChangeSpec.witness_shaped (enc := enc) (C := Tryd.checked) (os := os) (X := fun w args => laidMetH Tryd.prog Rows.bodyBlocksUptoRow.laid w ∧ CondMet enc Tryd.prog Tryd.f4 Rows.bodyBlocksSpec Rows.uptoSmall w args) false (World.doorLaid Tryd.prog 400 os) #[.agg #[.slice none 0 0, .slice none 0 0, .slice none 0 0, .bool false, .bool false, .slice none 0 0, .int .i64 0], .slice none 0 0] 8 rfl (World.shaped_of_RefB (by kernel_rfl) (by kernel_rfl)) (by kernel_rfl) (by kernel_rfl) (by kernel_rfl)
      ⟨laidMetH_of_parts3 (fuel := 8) (laidMet_of_run' 8 (by kernel_rfl) (by kernel_rfl)) (by kernel_rfl) (by kernel_rfl), CondMet.of_run 8 (by kernel_rfl)⟩)
    (fun W hL hsh ds xs hx hk => bodyBlocks_main W hL hsh ds xs hx hk)

theorem bodyBlocks_over : Rows.BodyBlocksUptoSaid :=
  OpenClaim.holds_of_cond 4 Tryd.f4 rfl rfl rfl rfl rfl rfl rfl ⟨rfl, rfl, rfl, rfl, rfl⟩ rfl rfl rfl rfl rfl (by kernel_rfl) Tryd.func4 (by kernel_rfl)
    (of_decide_eq_true (by kernel_rfl)) (by unfold Func.isWrapper; first | (rw [if_pos (by decide +kernel)]; kernel_rfl) | (rw [if_neg (by decide +kernel)]; exact ⟨rfl, rfl⟩))
    (fun os started H enc _ _ => bodyBlocks_lifted os started H enc)

theorem bodyBlocks_noStand : (List.all [26,27] fun t => !Tryd.prog.wantsStandIn t) = true := by kernel_rfl
/-- The card. -/
theorem bodyBlocks_holds : Rows.BodyBlocksUptoCardSaid :=
  Claim7.holds_tied_plain_at .later [] [.listed, .data] true (true, "05d748245b80e632b092f4a2cc55ef4ef4b21580430c3baf09d6c9d1a6f82da8") true
    bodyBlocks_over (fun _ h => by cases h) (by kernel_rfl) (fun _ h => by cases h) bodyBlocksUpto_row_tie rfl ⟨rfl, rfl⟩ (by kernel_rfl) rfl
    (fun f fn hf hfn => by
      obtain rfl : f = 4 := Option.some.inj ((show Tryd.prog.funcNamed "grommet/grommetlaw13.BodyBlocks" = some 4 by kernel_rfl).symm.trans hf) |>.symm
      obtain rfl : fn = Tryd.f4 := (Option.some.inj (Tryd.func4.symm.trans hfn)).symm
      exact ⟨by kernel_rfl, fun j t ht => by
        rw [Tryd.params4] at ht
        have hm : t ∈ [26,27] := List.mem_of_getElem? (i := j) (by simpa using ht)
        have := List.all_eq_true.1 bodyBlocks_noStand t hm
        cases hw : Tryd.prog.wantsStandIn t with
        | false => exact hw
        | true => rw [hw] at this; cases this⟩)
    (by kernel_rfl)
#print axioms bodyBlocks_holds
end Go.Proofs.YtjelldpjopdimaaDoor
