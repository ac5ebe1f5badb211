/-
  Law ExprStays: the row and the card, by what the machine says of its text.
-/
import Derived.Test.YthcjapmfchidhaaGreatDoorAmS6v
import Derived.Test.YthcjapmfchidhaaGreatDoorAmS6L3
namespace Go.Proofs.YthcjapmfchidhaaGreatDoor
set_option maxRecDepth 100000
open Go.ChangeShapes Go.WideShapes Go.ChangeAt Go.RowKit Go.Proofs.Am
theorem exprStays_main (W : World) (hL : laidMetH Tryz.prog Rows.exprStaysUptoRow.laid W) (hsh : W.ShapedOpen Tryz.prog) {H : Type} (ds : List (DataW H)) (xs : List AV) (hx : ShZC Tryz.prog Tryz.f6.params.toList xs ds) (hk : Rows.uptoSmall H ds = true) :
  ∃ (cx : Cx) (c : Code) (h' : Heap), cx.P = Tryz.prog ∧ CxOk cx ∧ GOk cx W (gFull W) ∧ Tryz.f6.body = some c ∧ cutAt cx 6 [.code c] = none ∧ blk cx 6 [.code c] (xs.map .v) Heap.nil = some (.v (.bool true), h') := by
 obtain ⟨m, hG⟩ := glob_ok hL hsh
 rw [Tryz.params6] at hx
 obtain ⟨n1, y1, xs1, d1, ds1, rfl, rfl, h1, a1, hx⟩ := zc_cons hx
 obtain ⟨n2, y2, xs2, d2, ds2, rfl, rfl, h2, a2, hx⟩ := zc_cons hx
 obtain rfl := zc_nil hx
 obtain ⟨l, rfl, hv, hc⟩ := code_in h1 a1
 obtain ⟨bs, rfl, hb⟩ := bytes_in h2
 have hk := of_decide_eq_true hk
 rw [Rows.uptoBulkAll] at hk
 obtain ⟨c, hcb, _⟩ := body_of Tryz.func6 (by kernel_rfl)
 obtain ⟨h', hr⟩ := L.blk6 (m := m) (xs := l) (bs := bs) hv (by omega) hb
 have hcut : (cutAt (L.cxL m) 6 (body_ Tryz.prog 6)).isNone = true := by kernel_rfl
 rw [body_eq Tryz.func6 hcb] at hr hcut
 rw [Option.isNone_iff_eq_none] at hcut
 refine ⟨L.cxL m, c, h', rfl, L.cxL_ok m, ⟨fun i cs hi => hG.1 i cs hi, fun i v hi => hG.2 i v hi⟩, hcb, hcut, ?_⟩
 rw [argV_slice Tryz.underlying22, argV_slice Tryz.underlying26]
 exact hr
end Go.Proofs.YthcjapmfchidhaaGreatDoor
namespace Go.Proofs.YthcjapmfchidhaaGreatDoor
open Go.ChangeShapes Go.WideShapes Go.ChangeAt Go.RowKit Go.Proofs.Am
set_option maxRecDepth 100000 in
theorem exprStays_lifted (os : Os) (started : os.Started) (H : Type) (enc : TypeId × Value → H) :
  ReturnsInHanded {} Tryz.checked os 6 .any (fun w args => ((upSpec Rows.exprStaysSpec Rows.uptoSmall).pre enc Tryz.prog Tryz.f6 [] false w args ∧ laidMetH Tryz.prog Rows.exprStaysUptoRow.laid w) ∧ sizedMet enc Tryz.prog Tryz.f6 (upSpec Rows.exprStaysSpec Rows.uptoSmall) false w args)
   (Rows.exprStaysSpec.post enc Tryz.prog Tryz.f6 false true false false) :=
 law_liftedU (S := [3,4,5,22,26,46,47,49]) (C := Tryz.checked) (tb := 4) started own (by kernel_rfl) Tryz.func6 (by kernel_rfl) Tryz.underlying4 (by kernel_rfl) rfl
  (fun ds hd => by
   match ds, hd with
   | [d0, d1], _ => exact ⟨rfl, rfl, rfl⟩) (by kernel_rfl) (by kernel_rfl) (by kernel_rfl)
  (ChangeSpec.witness_shaped (enc := enc) (C := Tryz.checked) (os := os) (X := fun w args => laidMetH Tryz.prog Rows.exprStaysUptoRow.laid w ∧ CondMet enc Tryz.prog Tryz.f6 Rows.exprStaysSpec Rows.uptoSmall w args) false (World.doorLaid Tryz.prog 400 os) #[.slice none 0 0, .slice none 0 0] 8 rfl (World.shaped_of_RefB (by kernel_rfl) (by kernel_rfl)) (by kernel_rfl) (by kernel_rfl) (by kernel_rfl)
   ⟨laidMetH_of_parts3 (fuel := 8) (laidMet_of_run' 8 (by kernel_rfl) (by kernel_rfl)) (by kernel_rfl) (by kernel_rfl), CondMet.of_run 8 (by kernel_rfl)⟩)
  (fun W hL hsh ds xs hx hk => exprStays_main W hL hsh ds xs hx hk)
theorem exprStays_over : Rows.ExprStaysUptoSaid :=
 OpenClaim.holds_of_cond 6 Tryz.f6 rfl rfl rfl rfl rfl rfl rfl ⟨rfl, rfl, rfl, rfl, rfl⟩ rfl rfl rfl rfl rfl (by kernel_rfl) Tryz.func6 (by kernel_rfl)
  (of_decide_eq_true (by kernel_rfl)) (by unfold Func.isWrapper; first | (rw [if_pos (by decide +kernel)]; kernel_rfl) | (rw [if_neg (by decide +kernel)]; exact ⟨rfl, rfl⟩))
  (fun os started H enc _ _ => exprStays_lifted os started H enc)
theorem exprStays_noStand : (List.all [22,26] fun t => !Tryz.prog.wantsStandIn t) = true := by kernel_rfl
theorem exprStays_holds : Rows.ExprStaysUptoCardSaid :=
 Claim7.holds_tied_plain_at .later [] [.handle, .listed, .data] true (true, "d590cfb41cbcd6fef54b28cacf8f6ba8676add9702341c9cfc5b8a70e8ffbeb6") true
  exprStays_over (fun _ h => by cases h) (by kernel_rfl) (fun _ h => by cases h) exprStaysUpto_row_tie rfl ⟨rfl, rfl⟩ (by kernel_rfl) rfl
  (fun f fn hf hfn => by
   obtain rfl : f = 6 := Option.some.inj ((show Tryz.prog.funcNamed "grommet/grommetlaw06.ExprStays" = some 6 by kernel_rfl).symm.trans hf) |>.symm
   obtain rfl : fn = Tryz.f6 := (Option.some.inj (Tryz.func6.symm.trans hfn)).symm
   exact ⟨by kernel_rfl, fun j t ht => by
    rw [Tryz.params6] at ht
    have hm : t ∈ [22,26] := List.mem_of_getElem? (i := j) (by simpa using ht)
    have := List.all_eq_true.1 exprStays_noStand t hm
    cases hw : Tryz.prog.wantsStandIn t with
    | false => exact hw
    | true => rw [hw] at this; cases this⟩)
  (by kernel_rfl)
#print axioms exprStays_holds
end Go.Proofs.YthcjapmfchidhaaGreatDoor
