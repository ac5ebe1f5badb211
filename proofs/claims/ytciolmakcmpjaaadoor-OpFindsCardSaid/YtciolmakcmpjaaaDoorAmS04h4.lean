/-
  Law OpFinds: the machine's answer at every name, the row, the card.
-/
import Derived.Test.YtciolmakcmpjaaaDoorAmLawRow
import Derived.Test.YtciolmakcmpjaaaDoorAmS04g
import Derived.Test.YtciolmakcmpjaaaDoorAmS04q0
import Derived.Test.YtciolmakcmpjaaaDoorAmS04q2
namespace Go.Proofs.YtciolmakcmpjaaaDoor
open Go.ChangeShapes Go.WideShapes Go.ChangeAt Go.RowKit Go.Proofs.Am

theorem part {α : Type} {F : Nat → α} {y : α} {s l n : Nat} (h : (List.range' s l).map F = List.replicate l y) (h1 : s ≤ n) (h2 : n < s + l) : F n = y := by
  have e : ((List.range' s l).map F)[n - s]? = (List.replicate l y)[n - s]? := by rw [h]
  rw [List.getElem?_map, List.getElem?_range' (by omega), List.getElem?_replicate_of_lt (by omega)] at e
  simp only [Option.map_some, Option.some.injEq] at e
  rw [show s + 1 * (n - s) = n by omega] at e
  exact e
theorem runS_all (m : Int) (i : Nat) (h : i < 102) : runS m i = yes := by
  have hk : i / 6 < 17 := by omega
  have e : ∀ k, i / 6 = k → (List.range' (6 * k) 6).map (fun i => runS m i) = List.replicate 6 yes → runS m i = yes := fun k hk hl => part hl (by omega) (by omega)
  have c : i / 6 = 0 ∨ i / 6 = 1 ∨ i / 6 = 2 ∨ i / 6 = 3 ∨ i / 6 = 4 ∨ i / 6 = 5 ∨ i / 6 = 6 ∨ i / 6 = 7 ∨ i / 6 = 8 ∨ i / 6 = 9 ∨ i / 6 = 10 ∨ i / 6 = 11 ∨ i / 6 = 12 ∨ i / 6 = 13 ∨ i / 6 = 14 ∨ i / 6 = 15 ∨ i / 6 = 16 := by omega
  rcases c with c | c | c | c | c | c | c | c | c | c | c | c | c | c | c | c | c
  · exact e 0 c (law4_0 m)
  · exact e 1 c (law4_1 m)
  · exact e 2 c (law4_2 m)
  · exact e 3 c (law4_3 m)
  · exact e 4 c (law4_4 m)
  · exact e 5 c (law4_5 m)
  · exact e 6 c (law4_6 m)
  · exact e 7 c (law4_7 m)
  · exact e 8 c (law4_8 m)
  · exact e 9 c (law4_9 m)
  · exact e 10 c (law4_10 m)
  · exact e 11 c (law4_11 m)
  · exact e 12 c (law4_12 m)
  · exact e 13 c (law4_13 m)
  · exact e 14 c (law4_14 m)
  · exact e 15 c (law4_15 m)
  · exact e 16 c (law4_16 m)

/-- The name of an operation is one of those that were tried. -/
theorem named {s : ByteArray} (h : inS s.toList = true) : ∃ i, i < 102 ∧ s = nameAt i := by
  obtain ⟨r, hr, hn⟩ := List.any_eq_true.1 h
  obtain ⟨i, hi, rfl⟩ := List.mem_iff_getElem.1 hr
  refine ⟨i, by rw [allLen] at hi; exact hi, ?_⟩
  unfold isN at hn
  cases hrn : rowName allL[i] with
  | none => rw [hrn] at hn; cases hn
  | some n =>
    rw [hrn] at hn
    simp only [beq_iff_eq] at hn
    have hd : n.data = s.data := by
      rw [ByteArray.toList_eq] at hn
      exact Array.toList_inj.1 hn
    simp only [nameAt, List.getElem?_eq_getElem hi, Option.bind_some, hrn, Option.getD_some]
    cases s; cases n
    simp only at hd
    rw [hd]

theorem opFinds_main (W : World) (hL : laidMetH Tryd.prog Rows.opFindsRow.laid W) (hsh : W.ShapedOpen Tryd.prog) (xs : List AV) (hx : ShA Tryd.prog 2 Tryd.f4.params.toList xs) :
    ∃ (cx : Cx) (c : Code) (h' : Heap), cx.P = Tryd.prog ∧ CxOk cx ∧ GOk cx W (gFull W) ∧ Tryd.f4.body = some c ∧ cutAt cx 4 [.code c] = none ∧ blk cx 4 [.code c] (xs.map .v) Heap.nil = some (.v (.bool true), h') := by
  obtain ⟨m, hG⟩ := glob_ok rfl hL hsh
  obtain ⟨c, hc, hbody⟩ := body_of Tryd.func4 (by kernel_rfl)
  rw [Tryd.params4] at hx
  obtain ⟨s, rfl⟩ : ∃ s, xs = [.str s] := by
    match xs, hx with
    | [x], ⟨⟨ys, hy, hxe⟩, _⟩ =>
      simp only [Sh, Tryd.underlying9] at hy
      obtain ⟨s, rfl, _⟩ := hy
      refine ⟨s, ?_⟩
      rw [hxe]
      simp only [argV, Tryd.underlying9, List.headD_cons]
  cases hin : inS s.toList with
  | false =>
    have hr := run4_none m s hin Heap.nil
    rw [body_one Tryd.func4 hc] at hr
    have hb : (cutAt (cxY m) 4 (body_ Tryd.prog 4)).isNone = true := by kernel_rfl
    rw [body_one Tryd.func4 hc, Option.isNone_iff_eq_none] at hb
    exact ⟨cxY m, c, _, rfl, cxY_ok m, hG, hc, hb, hr⟩
  | true =>
    obtain ⟨i, hi, rfl⟩ := named hin
    have hr := runS_all m i hi
    unfold runS yes at hr
    rw [hbody] at hr
    obtain ⟨h', hr⟩ := blk_of_run hr
    exact ⟨cxU m, c, h', rfl, cxU_ok m, hG, hc, cut_none rfl _ _, hr⟩

set_option maxRecDepth 100000 in
theorem opFinds_lifted (os : Os) (started : os.Started) (H : Type) (enc : TypeId × Value → H) :
    ReturnsInHanded {} Tryd.checked os 4 .any (fun w args => (Rows.opFindsSpec.pre enc Tryd.prog Tryd.f4 [] false w args ∧ laidMetH Tryd.prog Rows.opFindsRow.laid w) ∧ sizedMet enc Tryd.prog Tryd.f4 (OpenSpec.ofChange Rows.opFindsSpec) false w args)
      (Rows.opFindsSpec.post enc Tryd.prog Tryd.f4 false true false false) :=
  law_lifted (C := Tryd.checked) (n := 2) (tb := 4) started own (by kernel_rfl) Tryd.func4 (by kernel_rfl) Tryd.underlying4 (by kernel_rfl) rfl
    (fun ds hd => by
      match ds, hd with
      | [d], _ => exact ⟨rfl, rfl, rfl⟩) (by kernel_rfl) (by kernel_rfl)
    (ChangeSpec.witness_shaped (enc := enc) (C := Tryd.checked) (os := os) (X := fun w _ => laidMetH Tryd.prog Rows.opFindsRow.laid w) false (World.doorLaid Tryd.prog 400 os) #[.string ⟨#[]⟩] 8 rfl (World.shaped_of_RefB (by kernel_rfl) (by kernel_rfl)) (by kernel_rfl) (by kernel_rfl) (by kernel_rfl)
      (laidMetH_of_parts3 (fuel := 8) (laidMet_of_run' 8 (by kernel_rfl) (by kernel_rfl)) (by kernel_rfl) (by kernel_rfl)))
    opFinds_main

theorem opFinds_over : Rows.OpFindsSaid :=
  OpenClaim.holds_of_wide 4 Tryd.f4 rfl rfl rfl rfl rfl rfl rfl ⟨rfl, rfl, rfl, rfl, rfl⟩ rfl rfl rfl rfl rfl (by kernel_rfl) Tryd.func4 (by kernel_rfl)
    (of_decide_eq_true (by kernel_rfl)) (by unfold Func.isWrapper; first | (rw [if_pos (by decide +kernel)]; kernel_rfl) | (rw [if_neg (by decide +kernel)]; exact ⟨rfl, rfl⟩))
    (fun os started H enc _ => opFinds_lifted os started H enc)

/-- The card. -/
theorem opFinds_holds : Rows.OpFindsCardSaid :=
  Claim7.holds_tied_plain_at .later [] [.listed, .data] true (true, "e0b1e1ed63a880047f2763a0c82467597d0b04a2174cf694e2a80bccba333864") true
    opFinds_over (fun _ h => by cases h) (by kernel_rfl) (fun _ h => by cases h) opFinds_row_tie rfl ⟨rfl, rfl⟩ (by kernel_rfl) rfl
    (fun f fn hf hfn => by
      obtain rfl : f = 4 := Option.some.inj ((show Tryd.prog.funcNamed "grommet/grommetlaw04.OpFinds" = some 4 by kernel_rfl).symm.trans hf) |>.symm
      obtain rfl : fn = Tryd.f4 := (Option.some.inj (Tryd.func4.symm.trans hfn)).symm
      exact ⟨by kernel_rfl, fun j t ht => by
        rw [Tryd.params4] at ht
        have h3 : t = 9 := by
          rcases j with _ | j
          · simpa using ht.symm
          · simp at ht
        subst h3
        exact (show Tryd.prog.wantsStandIn 9 = false by kernel_rfl)⟩)
    (by kernel_rfl)
#print axioms opFinds_holds
end Go.Proofs.YtciolmakcmpjaaaDoor
