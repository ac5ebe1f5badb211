/-
  Law ObjectCounts: the row and the card, by what the machine says of its text.
-/
import Derived.Test.YtacfojpdccahhaaGreatDoorAmUp
import Derived.Test.YtacfojpdccahhaaGreatDoorAmTd
import Derived.Test.YtacfojpdccahhaaGreatDoorTie
import Derived.Test.YtacfojpdccahhaaGreatDoorCards
import Derived.WalkKit
import Derived.ProofKit
import Derived.OpenShut
import Derived.LaidMore
import Derived.LaidHandle
import Derived.Stop.Joined
import Derived.SevenTiedAt
namespace Go.Proofs.YtacfojpdccahhaaGreatDoor
set_option maxRecDepth 100000
open Go.ChangeShapes Go.WideShapes Go.ChangeAt Go.RowKit Go.Proofs.Am
theorem own : ownKnob Tryz.prog.godebug = none := by kernel_rfl
theorem gE : Tryz.prog.globalNamed "errors.errorType" = some 0 := by kernel_rfl
theorem rtE : (Tryz.prog.cutTypes.find? (·.1 == "internal/reflectlite.rtype")).map (·.2) = some 160 := by kernel_rfl
theorem oneRow : ((List.range 345).filter fun t => Tryz.prog.rowNamed t [101, 114, 114, 111, 114]) = [30] := by kernel_rfl
theorem tsize : Tryz.prog.types.size = 345 := by kernel_rfl
theorem hand30 : typeHandle Tryz.prog 30 = .pointer (some ⟨5, 30, none⟩) := by kernel_rfl
def laidV : List (String × DataW Unit) := [("errors.errorType", Rows.laid_errors_errorType), ("unicode.White_Space", Rows.laid_unicode_White_Space), ("strings.asciiSpace", Rows.laid_strings_asciiSpace)]
theorem glob_ok {W : World} (h : laidMetH Tryz.prog laidV W) : GOk (cxZ 0) W (gFull W) := by
 have h' : laidMet Tryz.prog [("unicode.White_Space", Rows.laid_unicode_White_Space), ("strings.asciiSpace", Rows.laid_strings_asciiSpace)] W ∧ handlesMet Tryz.prog [("errors.errorType", Rows.laid_errors_errorType)] W := h
 obtain ⟨_, hh⟩ := h'
 obtain ⟨name, u, ty, e1, e2, e3, e4, e5⟩ := hh _ (List.mem_singleton.2 rfl)
 have en : name = [101, 114, 114, 111, 114] := (Option.some.inj e1).symm
 subst en
 obtain rfl := Option.some.inj (rtE.symm.trans e2)
 have hmm : ty ∈ (List.range 345).filter fun t => Tryz.prog.rowNamed t [101, 114, 114, 111, 114] := List.mem_filter.2 ⟨List.mem_range.2 (by rw [← tsize]; exact e3), e4⟩
 rw [oneRow] at hmm
 obtain rfl := List.mem_singleton.1 hmm
 rw [hand30] at e5
 have hc : W.cell? ⟨0, 0, none⟩ = some (.iface 160 (.agg #[.pointer (some ⟨5, 30, none⟩)])) := by simpa using World.var?_cell gE e5 0
 refine ⟨fun i cs hi => (by cases hi), ?_⟩
 intro i v hi
 match i, hi with
 | 0, hi => cases hi; exact ⟨gFull_full W _ _ _ hc, hc⟩
 | n + 1, hi => cases hi
mutual
def bkA : AV → Nat
 | .imm xs => bkLL xs + 1
 | .snap cs => bkL cs + 1
 | .agg cs => bkL cs + 1
 | _ => 1
def bkL : List AV → Nat
 | [] => 0
 | x :: xs => bkA x + bkL xs
def bkLL : List (List AV) → Nat
 | [] => 0
 | x :: xs => bkL x + bkLL xs
end
theorem bkL_app : ∀ xs ys : List AV, bkL (xs ++ ys) = bkL xs + bkL ys
 | [], ys => by simp [bkL]
 | x :: xs, ys => by rw [List.cons_append, bkL, bkL, bkL_app xs ys]; omega
theorem bkL_flat : ∀ xs : List (List AV), bkL xs.flatten = bkLL xs
 | [] => rfl
 | x :: xs => by rw [List.flatten_cons, bkL_app, bkLL, bkL_flat xs]
theorem bk_map {H A : Type} {f : A → Option (List AV)} {g : A → DataW H} (hf : ∀ a ys, f a = some ys → bkL ys ≤ Rows.uptoBulk (g a)) : ∀ (l : List A) (yss : List (List AV)), l.mapM f = some yss → bkLL yss ≤ Rows.uptoBulkAll (l.map g)
 | [], yss, h => by simp at h; subst h; exact Nat.le_refl _
 | a :: l, yss, h => by
  rw [List.mapM_cons] at h
  simp only [Option.bind_eq_bind, Option.bind_eq_some_iff] at h
  obtain ⟨y, hy, zs, hz, h⟩ := h
  simp only [Option.pure_def, Option.some.injEq] at h
  subst h
  have h1 := hf a y hy
  have h2 := bk_map hf l zs hz
  rw [bkLL, List.map_cons, Rows.uptoBulkAll]
  omega
theorem bk_zip {H A : Type} : ∀ (fs : List A) (ds : List (DataW H)), Rows.uptoBulkAll ((fs.zip ds).map (·.2)) ≤ Rows.uptoBulkAll ds
 | [], ds => by simp [Rows.uptoBulkAll]
 | _ :: _, [] => by simp [Rows.uptoBulkAll]
 | f :: fs, d :: ds => by
  have := bk_zip fs ds
  rw [List.zip_cons_cons, List.map_cons, Rows.uptoBulkAll, Rows.uptoBulkAll]
  exact Nat.add_le_add_left this _
theorem bk_le {H : Type} {P : Program} : ∀ (n : Nat) (t : TypeId) (d : DataW H) (ys : List AV), avD P n t d = some ys → bkL ys ≤ Rows.uptoBulk d
 | 0, _, _, _, h => by simp [avD] at h
 | n + 1, t, d, ys, h => by
  unfold avD at h
  split at h
  ·cases h; simp [bkL, bkA, Rows.uptoBulk]
  ·cases h; simp [bkL, bkA, Rows.uptoBulk]
  ·cases h; simp [bkL, bkA, Rows.uptoBulk]
  ·cases h; simp [bkL, bkA, Rows.uptoBulk]
  ·obtain ⟨cs, hc, h⟩ := Option.bind_eq_some_iff.1 h
   cases h
   have := bk_le n _ _ _ hc
   simp only [bkL, bkA, Rows.uptoBulk]; omega
  ·cases h; simp [bkL, bkA, bkLL, Rows.uptoBulk]
  ·obtain ⟨yss, hy, h⟩ := Option.bind_eq_some_iff.1 h
   cases h
   have := bk_map (g := fun d => d) (fun a zs ha => bk_le n _ a zs ha) _ _ hy
   rw [List.map_id'] at this
   simp only [bkL, bkA, Rows.uptoBulk]; omega
  ·obtain ⟨yss, hy, h⟩ := Option.bind_eq_some_iff.1 h
   cases h
   have h1 := bk_map (g := fun p : Field × DataW H => p.2) (fun a zs ha => bk_le n _ a.2 zs ha) _ _ hy
   have h2 := bk_zip (H := H) ‹Array Field›.toList ‹List (DataW H)›
   rw [bkL_flat]
   simp only [Rows.uptoBulk]
   omega
  ·obtain ⟨yss, hy, h⟩ := Option.bind_eq_some_iff.1 h
   cases h
   have := bk_map (g := fun d => d) (fun a zs ha => bk_le n _ a zs ha) _ _ hy
   rw [List.map_id'] at this
   rw [bkL_flat]
   simp only [Rows.uptoBulk]; omega
  ·cases h
theorem bk_len {f : Int → List AV} (hf : ∀ z, bkL (f z) = 1) : ∀ l : List Int, bkLL (l.map f) = l.length
 | [] => rfl
 | x :: l => by rw [List.map_cons, bkLL, hf, bk_len hf l, List.length_cons]; omega
theorem bk_encN (l : List Int) : bkLL (encN l) = l.length := bk_len (fun _ => rfl) l
mutual
theorem bk_I : ∀ x : Ins, cI x ≤ bkL (encI x)
 | .mk o a b v t l bd el q => by
  have h1 := bk_Is bd
  have h2 := bk_Is el
  rw [cI, encI]
  simp only [bkL, bkA, bk_encN]
  omega
theorem bk_Is : ∀ xs : List Ins, cL xs ≤ bkLL (encIs xs)
 | [] => Nat.le_refl _
 | x :: xs => by
  have h1 := bk_I x
  have h2 := bk_Is xs
  rw [cL, encIs, bkLL]
  omega
end
theorem insT : InsT Tryz.prog 54 3 51 52 22 4 where
 hN := Tryz.underlying3
 hV := Tryz.underlying51
 hQ := Tryz.underlying4
 hL := Tryz.underlying52
 hB := Tryz.underlying22
 fs := ⟨_, Tryz.underlying54, by kernel_rfl⟩
 hc := by kernel_rfl
theorem bN : Tryz.prog.bytesOf 3 = 8 := by kernel_rfl
theorem bI : Tryz.prog.bytesOf 54 = 120 := by kernel_rfl
theorem code_in {H : Type} {n : Nat} {ys : List AV} {d : DataW H} (hs : ShZ Tryz.prog n 22 ys) (ha : avD Tryz.prog n 22 d = some ys) : ∃ l : List Ins, ys = [.imm (encIs l)] ∧ cL l ≤ Rows.uptoBulk d := by
 obtain ⟨l, rfl, _⟩ := z_code insT bN bI hs
 have b1 := bk_le _ _ _ _ ha
 have b2 := bk_Is l
 have e2 : bkL [.imm (encIs l)] = bkLL (encIs l) + 1 := by simp only [bkL, bkA]
 exact ⟨l, rfl, by omega⟩
theorem run_of {W : World} {f : FuncId} {fn : Func} {m : Int} {xs : List LV} (hG : GOk (cxZ m) W (gFull W)) (hf : Tryz.prog.funcs[f]? = some fn) (hs : fn.body.isSome = true) (hb : (cutAt (cxZ m) f (body_ Tryz.prog f)).isNone = true)
  (hr : ∃ h', blk (cxZ m) f (body_ Tryz.prog f) xs Heap.nil = some (.v (.bool true), h')) :
  ∃ (cx : Cx) (c : Code) (h' : Heap), cx.P = Tryz.prog ∧ CxOk cx ∧ GOk cx W (gFull W) ∧ fn.body = some c ∧ cutAt cx f [.code c] = none ∧ blk cx f [.code c] xs Heap.nil = some (.v (.bool true), h') := by
 obtain ⟨c, hc, _⟩ := body_of hf hs
 obtain ⟨h', hr⟩ := hr
 rw [body_eq hf hc] at hr hb
 rw [Option.isNone_iff_eq_none] at hb
 exact ⟨cxZ m, c, h', rfl, cxZ_ok m, hG, hc, hb, hr⟩
theorem objectCounts_main (W : World) (hL : laidMetH Tryz.prog Rows.objectCountsUptoRow.laid W) {H : Type} (ds : List (DataW H)) (xs : List AV) (hx : ShZC Tryz.prog Tryz.f3.params.toList xs ds) (hk : Rows.uptoSmall H ds = true) :
  ∃ (cx : Cx) (c : Code) (h' : Heap), cx.P = Tryz.prog ∧ CxOk cx ∧ GOk cx W (gFull W) ∧ Tryz.f3.body = some c ∧ cutAt cx 3 [.code c] = none ∧ blk cx 3 [.code c] (xs.map .v) Heap.nil = some (.v (.bool true), h') := by
 rw [Tryz.params3] at hx
 obtain ⟨n1, y1, xs1, d1, ds1, rfl, rfl, h1, a1, hx⟩ := zc_cons hx
 obtain rfl := zc_nil hx
 obtain ⟨l, rfl, hc⟩ := code_in h1 a1
 have hk := of_decide_eq_true hk
 rw [Rows.uptoBulkAll] at hk
 refine run_of (glob_ok hL) Tryz.func3 (by kernel_rfl) (by kernel_rfl) ?_
 rw [argV_slice Tryz.underlying22]
 exact blk3 (by omega)
end Go.Proofs.YtacfojpdccahhaaGreatDoor
namespace Go.Proofs.YtacfojpdccahhaaGreatDoor
open Go.ChangeShapes Go.WideShapes Go.ChangeAt Go.RowKit Go.Proofs.Am
set_option maxRecDepth 100000 in
theorem objectCounts_lifted (os : Os) (started : os.Started) (H : Type) (enc : TypeId × Value → H) :
  ReturnsInHanded {} Tryz.checked os 3 .any (fun w args => ((upSpec Rows.objectCountsSpec Rows.uptoSmall).pre enc Tryz.prog Tryz.f3 [] false w args ∧ laidMetH Tryz.prog Rows.objectCountsUptoRow.laid w) ∧ sizedMet enc Tryz.prog Tryz.f3 (upSpec Rows.objectCountsSpec Rows.uptoSmall) false w args)
   (Rows.objectCountsSpec.post enc Tryz.prog Tryz.f3 false true false false) :=
 law_liftedU (S := [3,4,22,51,52,54]) (C := Tryz.checked) (tb := 4) started own (by kernel_rfl) Tryz.func3 (by kernel_rfl) Tryz.underlying4 (by kernel_rfl) rfl
  (fun ds hd => by
   match ds, hd with
   | [d0], _ => exact ⟨rfl, rfl, rfl⟩) (by kernel_rfl) (by kernel_rfl) (by kernel_rfl)
  (ChangeSpec.witness_shaped (enc := enc) (C := Tryz.checked) (os := os) (X := fun w args => laidMetH Tryz.prog Rows.objectCountsUptoRow.laid w ∧ CondMet enc Tryz.prog Tryz.f3 Rows.objectCountsSpec Rows.uptoSmall w args) false (World.doorLaid Tryz.prog 400 os) #[.slice none 0 0] 8 rfl (World.shaped_of_RefB (by kernel_rfl) (by kernel_rfl)) (by kernel_rfl) (by kernel_rfl) (by kernel_rfl)
   ⟨laidMetH_of_parts3 (fuel := 8) (laidMet_of_run' 8 (by kernel_rfl) (by kernel_rfl)) (by kernel_rfl) (by kernel_rfl), CondMet.of_run 8 (by kernel_rfl)⟩)
  (fun W hL _ ds xs hx hk => objectCounts_main W hL ds xs hx hk)
theorem objectCounts_over : Rows.ObjectCountsUptoSaid :=
 OpenClaim.holds_of_cond 3 Tryz.f3 rfl rfl rfl rfl rfl rfl rfl ⟨rfl, rfl, rfl, rfl, rfl⟩ rfl rfl rfl rfl rfl (by kernel_rfl) Tryz.func3 (by kernel_rfl)
  (of_decide_eq_true (by kernel_rfl)) (by unfold Func.isWrapper; first | (rw [if_pos (by decide +kernel)]; kernel_rfl) | (rw [if_neg (by decide +kernel)]; exact ⟨rfl, rfl⟩))
  (fun os started H enc _ _ => objectCounts_lifted os started H enc)
theorem objectCounts_noStand : (List.all [22] fun t => !Tryz.prog.wantsStandIn t) = true := by kernel_rfl
theorem objectCounts_holds : Rows.ObjectCountsUptoCardSaid :=
 Claim7.holds_tied_plain_at .later [] [.handle, .listed, .data] true (true, "13256d4f79ee59d719197b4013202e3fcd8bc20203a1da87294177e92744120b") true
  objectCounts_over (fun _ h => by cases h) (by kernel_rfl) (fun _ h => by cases h) objectCountsUpto_row_tie rfl ⟨rfl, rfl⟩ (by kernel_rfl) rfl
  (fun f fn hf hfn => by
   obtain rfl : f = 3 := Option.some.inj ((show Tryz.prog.funcNamed "grommet/grommetlaw19.ObjectCounts" = some 3 by kernel_rfl).symm.trans hf) |>.symm
   obtain rfl : fn = Tryz.f3 := (Option.some.inj (Tryz.func3.symm.trans hfn)).symm
   exact ⟨by kernel_rfl, fun j t ht => by
    rw [Tryz.params3] at ht
    have hm : t ∈ [22] := List.mem_of_getElem? (i := j) (by simpa using ht)
    have := List.all_eq_true.1 objectCounts_noStand t hm
    cases hw : Tryz.prog.wantsStandIn t with
    | false => exact hw
    | true => rw [hw] at this; cases this⟩)
  (by kernel_rfl)
#print axioms objectCounts_holds
end Go.Proofs.YtacfojpdccahhaaGreatDoor
