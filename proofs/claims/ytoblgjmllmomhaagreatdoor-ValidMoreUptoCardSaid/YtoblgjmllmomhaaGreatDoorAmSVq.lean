/-
  Laws ValidLess and ValidMore, gone through.
-/
import Derived.Test.YtoblgjmllmomhaaGreatDoorAmBodyF
import Derived.Test.YtoblgjmllmomhaaGreatDoorAmSVm3
import Derived.Test.YtoblgjmllmomhaaGreatDoorAmS15S
import Derived.KernelRfl
import Derived.Test.YtoblgjmllmomhaaGreatDoorAmSVF
namespace Go.Proofs.YtoblgjmllmomhaaGreatDoor
set_option maxRecDepth 100000
open Go Go.RowKit Go.Proofs.Am
theorem hOP : ∀ (o : Int) (r : OpR), opI o = some r → r.kind = 4 ∨ r.kind = 6 → o ≠ 14 := by
 intro o r h hk e
 have f := op_facts h
 rcases hk with hk | hk
 ·have := f.k4 hk; omega
 ·have := f.k6 hk; omega
theorem check_none {s : Scp} {xs : List Ins} (h : checkP s xs = none) : mayL opI xs = true ∧ mayS s = true ∧ (LS.runL opI s xs (rsl s.re) (ls0.push (rsl s.re) (rsl s.re))).err = none := by
 unfold checkP at h
 split at h
 ·rename_i hm
  rw [Bool.and_eq_true] at hm
  exact ⟨hm.1, hm.2, h⟩
 ·cases h
theorem check_is {s : Scp} {xs : List Ins} (h1 : mayL opI xs = true) (h2 : mayS s = true) (h3 : (LS.runL opI s xs (rsl s.re) (ls0.push (rsl s.re) (rsl s.re))).err = none) : checkP s xs = none := by
 unfold checkP
 rw [h1, h2]
 exact h3
theorem inv0 (re : Int) : Inv 1 (ls0.push (rsl re) (rsl re)) := by
 refine ⟨WF.push0 rfl _ _, fun b hb => ?_, by simp [LS.push, ls0]⟩
 simp only [LS.push, ls0, List.nil_append, List.mem_singleton] at hb
 rw [hb]; exact rsl_len re
theorem wider_ok {s s' : Scp} {xs : List Ins} {R : Nat} (hR : TyLen R s) (hw : Wider s s') (hm : mayS s = true → mayS s' = true) (hre : s'.re = s.re) (h : checkP s xs = none) : checkP s' xs = none := by
 obtain ⟨h1, h2, h3⟩ := check_none h
 refine check_is h1 (hm h2) ?_
 have := s_runL sim_id hw hR hOP xs h1 (rsl s.re) (rsl_len s.re) 1 _ (inv0 s.re) h3
 rw [hre]
 have e : tr (fun l => l) (ls0.push (rsl s.re) (rsl s.re)) = ls0.push (rsl s.re) (rsl s.re) := rfl
 rw [e] at this
 rw [this]
 exact h3
section
variable {m : Int}
theorem vk1_none {M : Mdl} (h : vk1 m M = none) : smlB m M = true ∧ firstE typeE M.ty = none := by
 unfold vk1 at h
 split at h
 ·rename_i q; exact ⟨q, h⟩
 ·cases h
theorem chk_parts {M : Mdl} (h : chkE m M = none) : smlB m M = true ∧ firstE typeE M.ty = none ∧ spE M = none ∧ firstE (gloE M) M.gl = none ∧ firstE (codE M) M.fu = none ∧ segE M = none ∧ staE M = none ∧ expsE M [] M.ex = none := by
 obtain ⟨h1, h⟩ := or_none h
 obtain ⟨h2, h⟩ := or_none h
 obtain ⟨h3, h⟩ := or_none h
 obtain ⟨h4, h⟩ := or_none h
 obtain ⟨h5, h⟩ := or_none h
 obtain ⟨h6, h7⟩ := or_none h
 obtain ⟨a, b⟩ := vk1_none h1
 exact ⟨a, b, h2, h3, h4, h5, h6, h7⟩
theorem chk_of {M : Mdl} (h1 : smlB m M = true) (h2 : firstE typeE M.ty = none) (h3 : spE M = none) (h4 : firstE (gloE M) M.gl = none) (h5 : firstE (codE M) M.fu = none) (h6 : segE M = none) (h7 : staE M = none) (h8 : expsE M [] M.ex = none) : chkE m M = none := by
 unfold chkE vk1
 rw [if_pos h1, h2, h3, h4, h5, h6, h7, h8]
 rfl
theorem and6 {a b c d e f : Bool} (h : (a && (b && (c && (d && (e && f))))) = true) : a = true ∧ b = true ∧ c = true ∧ d = true ∧ e = true ∧ f = true := by
 simp only [Bool.and_eq_true] at h
 exact ⟨h.1, h.2.1, h.2.2.1, h.2.2.2.1, h.2.2.2.2.1, h.2.2.2.2.2⟩
theorem exps_eq {M M' : Mdl} (hs : spN M' = spN M) : ∀ (l pre : List Exq), expsE M' pre l = expsE M pre l
 | [], _ => rfl
 | e :: r, pre => by
  unfold expsE
  rw [exps_eq hs r]
  unfold expE
  rw [hs]
theorem exps_to {M M' : Mdl} (hs : spN M' = spN M) (he : M'.ex = M.ex) (h : expsE M [] M.ex = none) : expsE M' [] M'.ex = none := by
 rw [he, exps_eq hs]; exact h
theorem less_ex {M : Mdl} (h : chkE m M = none) : chkE m { M with ex := [] } = none := by
 obtain ⟨h1, h2, h3, h4, h5, h6, h7, h8⟩ := chk_parts h
 refine chk_of ?_ h2 h3 h4 h5 h6 h7 rfl
 obtain ⟨a, b, c, d, e, f⟩ := and6 h1
 have a' : fewB { M with ex := [] } = true := by
  unfold fewB at a ⊢
  simp only [Bool.and_eq_true] at a ⊢
  obtain ⟨a1, ⟨⟨⟨⟨⟨⟨⟨⟨a2, a3⟩, a4⟩, a5⟩, a6⟩, a7⟩, a8⟩, a9⟩, a10⟩⟩ := a
  exact ⟨a1, ⟨⟨⟨⟨⟨⟨⟨⟨a2, a3⟩, a4⟩, a5⟩, a6⟩, rfl⟩, a8⟩, a9⟩, a10⟩⟩
 have e' : textB { M with ex := [] } = true := by
  unfold textB at e ⊢
  simp only [Bool.and_eq_true] at e ⊢
  exact ⟨e.1, rfl, e.2.2⟩
 unfold smlB
 rw [a', e']
 simp only [Bool.and_eq_true]
 exact ⟨trivial, b, c, d, trivial, f⟩
theorem less_cu {M : Mdl} (h : chkE m M = none) : chkE m { M with cu := [] } = none := by
 obtain ⟨h1, h2, h3, h4, h5, h6, h7, h8⟩ := chk_parts h
 refine chk_of ?_ h2 h3 h4 h5 h6 h7 (exps_to (M := M) rfl rfl h8)
 obtain ⟨a, b, c, d, e, f⟩ := and6 h1
 have a' : fewB { M with cu := [] } = true := by
  unfold fewB at a ⊢
  simp only [Bool.and_eq_true] at a ⊢
  obtain ⟨a1, ⟨⟨⟨⟨⟨⟨⟨⟨a2, a3⟩, a4⟩, a5⟩, a6⟩, a7⟩, a8⟩, a9⟩, a10⟩⟩ := a
  exact ⟨a1, ⟨⟨⟨⟨⟨⟨⟨⟨a2, a3⟩, a4⟩, a5⟩, a6⟩, a7⟩, a8⟩, a9⟩, rfl⟩⟩
 have e' : textB { M with cu := [] } = true := by
  unfold textB at e ⊢
  simp only [Bool.and_eq_true] at e ⊢
  exact ⟨e.1, e.2.1, rfl⟩
 unfold smlB
 rw [a', e']
 simp only [Bool.and_eq_true]
 exact ⟨trivial, b, c, d, trivial, f⟩
theorem less_st {M : Mdl} (h : chkE m M = none) : chkE m { M with st := -1 } = none := by
 obtain ⟨h1, h2, h3, h4, h5, h6, h7, h8⟩ := chk_parts h
 exact chk_of h1 h2 h3 h4 h5 h6 rfl (exps_to (M := M) rfl rfl h8)
theorem first_of {A : Type} {f : A → Option Int} : ∀ {l : List A}, (∀ x, x ∈ l → f x = none) → firstE f l = none
 | [], _ => rfl
 | x :: xs, h => by
  unfold firstE
  rw [h x (List.mem_cons_self ..)]
  exact first_of fun y hy => h y (List.mem_cons_of_mem _ hy)
def addT (M : Mdl) (t : FTy) : Mdl := { M with ty := M.ty ++ [t] }
theorem typ_add {M : Mdl} {t : FTy} {k : Int} (h : typB M k = true) : typB (addT M t) k = true := by
 unfold typB at h ⊢
 rw [Bool.and_eq_true] at h ⊢
 refine ⟨h.1, ?_⟩
 have h2 := ltZ_i h.2
 simp only [iff_true, ofN] at h2
 refine ltZ_t ?_
 show k < Int.ofNat (M.ty ++ [t]).length
 rw [List.length_append, ofN]
 simp; omega
theorem tyOf_add {M : Mdl} {t : FTy} {k : Int} {y : FTy} (h : tyOf M k = some y) : tyOf (addT M t) k = some y := by
 unfold tyOf at h ⊢
 cases e : ltZ k (Int.ofNat 0) with
 | true => rw [e] at h; cases h
 | false =>
  rw [e, cond_false] at h
  rw [cond_false]
  show (M.ty ++ [t])[k.toNat]? = some y
  rw [List.getElem?_append_left (List.getElem?_eq_some_iff.1 h).1]
  exact h
theorem sp_add (M : Mdl) (t : FTy) : spN (addT M t) = spN M := rfl
theorem imp_add {M : Mdl} {t : FTy} {x : Imp} (h : impE M x = none) : impE (addT M t) x = none := by
 unfold impE at h ⊢
 split at h
 ·cases h
 rename_i h0
 rw [if_neg h0]
 split at h
 ·cases h
 rename_i h3
 rw [if_neg h3]
 split at h
 ·rename_i e0
  rw [if_pos e0]
  split at h
  ·rename_i q; rw [if_pos (typ_add q)]
  ·cases h
 ·rename_i e0
  rw [if_neg e0]
  exact h
theorem fun_add {M : Mdl} {t : FTy} {x : MFn} (h : funE M x = none) : funE (addT M t) x = none := by
 unfold funE at h ⊢
 split at h
 ·rename_i q; rw [if_pos (typ_add q)]; exact h
 ·cases h
theorem spc_add {M : Mdl} {t : FTy} (h : spE M = none) : spE (addT M t) = none := by
 obtain ⟨h1, h2⟩ := or_none h
 have e1 : firstE (impE (addT M t)) M.im = none := first_of fun x hx => imp_add (first_none h1 x hx)
 unfold spE
 show orE (firstE (impE (addT M t)) M.im) (sp2E (addT M t)) = none
 rw [e1]
 unfold sp2E at h2
 show sp2E (addT M t) = none
 unfold sp2E
 rw [sp_add]
 split at h2
 ·cases h2
 rename_i q1
 refine (if_neg q1).trans ?_
 split at h2
 ·cases h2
 rename_i q2
 refine (if_neg q2).trans ?_
 split at h2
 ·cases h2
 rename_i q3
 refine (if_neg q3).trans ?_
 split at h2
 ·cases h2
 rename_i q4
 refine (if_neg q4).trans ?_
 exact first_of (l := M.fu) fun x hx => fun_add (first_none h2 x hx)
theorem raw_typed {M : Mdl} (h : spE M = none) : ∀ z, z ∈ rawL M → typB M z = true := by
 intro z hz
 unfold rawL at hz
 rcases List.mem_append.1 hz with hz | hz
 ·obtain ⟨x, hx, rfl⟩ := List.mem_map.1 hz
  unfold impK at hx
  obtain ⟨hx, hk⟩ := List.mem_filter.1 hx
  have h1 := first_none (or_none h).1 x hx
  unfold kindB at hk
  simp only [Bool.and_eq_true] at hk
  have hk := eqZ_i hk.1.1
  simp only [iff_true] at hk
  unfold impE at h1
  rw [if_neg (by omega), if_neg (by omega), if_pos hk] at h1
  split at h1
  ·rename_i q; exact q
  ·cases h1
 ·obtain ⟨x, hx, rfl⟩ := List.mem_map.1 hz
  exact typed_of h x hx
theorem fS_add {M : Mdl} {t : FTy} (h : spE M = none) : fS (addT M t) = fS M := by
 unfold fS
 show (rawL M).map (numT (addT M t)) = (rawL M).map (numT M)
 refine List.map_congr_left fun z hz => ?_
 obtain ⟨y, hy⟩ := typ_of (raw_typed h z hz)
 rw [numT_some hy, numT_some (tyOf_add hy)]
def okT (t : FTy) : Prop := typeE t = none
theorem ok_odd {t : FTy} (h : okT t) : (t.p.any odd || t.r.any odd) = false := by
 unfold okT typeE at h
 split at h
 ·cases h
 ·rename_i q
  cases q1 : t.p.any odd with
  | true => exact absurd (by rw [q1]; rfl) q
  | false =>
   cases q2 : t.r.any odd with
   | true => exact absurd (by rw [q1, q2]; rfl) q
   | false => rfl
theorem scp_wider {M : Mdl} {t : FTy} (h : spE M = none) (g : MFn) (y : FTy) : Wider (scpM M g y) (scpM (addT M t) g y) := by
 refine ⟨?_, ?_, ?_, ?_, ?_, ?_, rfl⟩
 ·intro n z hz
  show (M.ty ++ [t])[n]? = some z
  have hz : M.ty[n]? = some z := hz
  rw [List.getElem?_append_left (List.getElem?_eq_some_iff.1 hz).1]; exact hz
 ·intro n z hz
  show (fS (addT M t))[n]? = some z
  rw [fS_add h]; exact hz
 ·exact fun n z hz => hz
 ·exact fun n z hz => hz
 ·exact fun q => q
 ·exact fun q => q
theorem code_add {M : Mdl} {t : FTy} (hR : ∀ x, x ∈ M.ty → x.p.length ≤ 1048576 ∧ x.r.length ≤ 1048576) (h : spE M = none) (ht : okT t) {x : MFn} (hx : x ∈ M.fu) (hc : codE M x = none) : codE (addT M t) x = none := by
 obtain ⟨y, hy⟩ := typ_of (typed_of h x hx)
 unfold codE at hc ⊢
 rw [hy] at hc
 rw [tyOf_add hy]
 simp only at hc ⊢
 have hn : checkP (scpM M x y) x.b = none := by
  unfold codO at hc
  split at hc
  ·cases hc
  ·exact hc
 have := wider_ok (R := 1048576) (s := scpM M x y) (s' := scpM (addT M t) x y) (fun z hz => hR z hz) (scp_wider h x y) (fun hm => ?_) rfl hn
 ·rw [this]; rfl
 ·unfold mayS at hm ⊢
  show (!((M.ty ++ [t]).any fun x => x.p.any odd || x.r.any odd) && _ && _ && _ && _) = true
  rw [List.any_append]
  simp only [List.any_cons, List.any_nil, ok_odd ht, Bool.or_false]
  exact hm
theorem sta_add {M : Mdl} {t : FTy} (h : staE M = none) : staE (addT M t) = none := by
 unfold staE at h ⊢
 split at h
 ·rename_i q; exact if_pos q
 ·rename_i q
  refine (if_neg q).trans ?_
  show (match (fT M M.st).bind (tyOf (addT M t)) with | some y => _ | none => _) = none
  cases hf : fT M M.st with
  | none => rw [hf] at h; cases h
  | some z =>
   rw [hf, Option.bind_some] at h
   rw [Option.bind_some]
   cases hy : tyOf M z with
   | none => rw [hy] at h; cases h
   | some y =>
    rw [hy] at h
    rw [tyOf_add hy]
    exact h
theorem few_add {M : Mdl} {t : FTy} (h : fewB M = true) : fewB (addT M t) = le64 (M.ty.length + 1) := by
 unfold fewB at h ⊢
 rw [Bool.and_eq_true] at h
 show (le64 (M.ty ++ [t]).length && _) = _
 rw [List.length_append]
 have h2 := h.2
 show (le64 (M.ty.length + 1) && (le64 M.im.length && le64 M.fu.length && le64 M.ta.length && le64 M.me.length && le64 M.gl.length && le64 M.ex.length && le64 M.el.length && le64 M.da.length && le64 M.cu.length)) = _
 rw [h2, Bool.and_true]
theorem more_large {M : Mdl} {t : FTy} (h : chkE m M = none) (hl : M.ty.length = 64) : chkE m (addT M t) = some 7 := by
 obtain ⟨h1, _⟩ := chk_parts h
 obtain ⟨a, _⟩ := and6 h1
 have hs : smlB m (addT M t) = false := by
  unfold smlB
  rw [few_add a, hl]
  rfl
 unfold chkE vk1
 rw [hs]
 rfl
theorem more_ok {M : Mdl} {t : FTy} (hR : ∀ x, x ∈ M.ty → x.p.length ≤ 1048576 ∧ x.r.length ≤ 1048576) (h : chkE m M = none) (hl : M.ty.length ≠ 64) (ht : okT t) (hs : styB t = true) : chkE m (addT M t) = none := by
 obtain ⟨h1, h2, h3, h4, h5, h6, h7, h8⟩ := chk_parts h
 obtain ⟨a, b, c, d, e, f⟩ := and6 h1
 refine chk_of ?_ ?_ (spc_add h3) h4 (first_of (l := M.fu) fun x hx => code_add hR h3 ht hx (first_none h5 x hx)) h6 (sta_add h7) (exps_to (M := M) rfl rfl h8)
 ·have a' : fewB (addT M t) = true := by
   rw [few_add a]
   have : le64 M.ty.length = true := by unfold fewB at a; rw [Bool.and_eq_true] at a; exact a.1
   unfold le64 at this ⊢
   have := leZ_i this
   simp only [iff_true] at this
   exact leZ_t (by omega)
  have b' : (addT M t).ty.all styB = true := by
   show (M.ty ++ [t]).all styB = true
   rw [List.all_append, b]
   simp only [List.all_cons, List.all_nil, hs, Bool.and_self]
  unfold smlB
  rw [a', b']
  show (true && (true && (M.fu.all (sfuB m) && (M.gl.all (sglB m) && (textB M && segB m M))))) = true
  rw [c, d, e, f]
  rfl
 ·refine first_of (l := M.ty ++ [t]) fun x hx => ?_
  rcases List.mem_append.1 hx with hx | hx
  ·exact first_none h2 x hx
  ·rw [List.mem_singleton.1 hx]; exact ht
theorem more_few {M : Mdl} (h : chkE m M = none) : M.ty.length ≤ 64 := by
 obtain ⟨h1, _⟩ := chk_parts h
 obtain ⟨a, _⟩ := and6 h1
 have : le64 M.ty.length = true := by unfold fewB at a; rw [Bool.and_eq_true] at a; exact a.1
 unfold le64 at this
 have := leZ_i this
 simp only [iff_true] at this
 omega
end
end Go.Proofs.YtoblgjmllmomhaaGreatDoor
namespace Go.Proofs.YtoblgjmllmomhaaGreatDoor
set_option maxRecDepth 100000
open Go Go.Proofs.Am
variable {m st : Int} {ty im fu ta me gl ex el da cu : LL} {h h0 h1 h2 h3 h4 h5 : Heap} {b0 b1 b2 b3 b4 b5 : Bool} {v0 v1 v2 v3 : AV}
theorem v4_0 (k0 : cA m 13 [] h = some (vB b0, h1)) (k1 : cA m 14 [mV ty im fu ta me gl ex st el da cu] h1 = some (vB b1, h0)) (k2 : (!b1) = true) :
  bB m 4 [mV ty im fu ta me gl ex st el da cu] h = some ((vB b0, h0)) :=
 bY (qS [16] [] [] [(1, 0, vB b0, h1), (2, 1, vB b1, h0)]) (tA k0 (tA k1 (tZ k2 (tR ((vB b0, h0)))))) (by kernel_rfl)
theorem v4_1 (k0 : cA m 13 [] h = some (vB b0, h1)) (k1 : cA m 14 [mV ty im fu ta me gl ex st el da cu] h1 = some (vB b1, h2)) (k2 : (!b1) = false) (k3 : cA m 15 [mV ty im fu ta me gl ex st el da cu] h2 = some (LV.v v0, h0)) (k4 : nE m v0 b2) (k5 : b2 = true) :
  bB m 4 [mV ty im fu ta me gl ex st el da cu] h = some ((vB b0, h0)) :=
 bY (qS [21] [16] [(6, 1, (vB b2))] [(1, 0, vB b0, h1), (2, 1, vB b1, h2), (5, 1, LV.v v0, h0)]) (tA k0 (tA k1 (tZ k2 (tA k3 (tA k4 (tZ k5 (tR ((vB b0, h0))))))))) (by kernel_rfl)
theorem v4_2 (k0 : cA m 13 [] h = some (vB b0, h1)) (k1 : cA m 14 [mV ty im fu ta me gl ex st el da cu] h1 = some (vB b1, h2)) (k2 : (!b1) = false) (k3 : cA m 15 [mV ty im fu ta me gl ex st el da cu] h2 = some (LV.v v1, h3)) (k4 : nE m v1 b3) (k5 : b3 = false) (k6 : cA m 15 [mV ty im fu ta me gl [] st el da cu] h3 = some (LV.v v2, h4)) (k7 : cA m 15 [mV ty im fu ta me gl ex st el da []] h4 = some (LV.v v3, h5)) (k8 : cA m 15 [vG [aM ty, aM im, aM fu, aM ta, aM me, aM gl, aM ex, aI (Int.negSucc 0), aM el, aM da, aM cu]] h5 = some (LV.v v0, h0)) (k9 : b0 = true) (k10 : qE m v2 b4) (k11 : b4 = true) (k12 : qE m v3 b5) (k13 : b5 = true) (k14 : qE m v0 b2) :
  bB m 4 [mV ty im fu ta me gl ex st el da cu] h = some ((vB b2, h0)) :=
 bY (qS [36, 40, 44] [16, 21] [(6, 1, (vB b3)), (17, 3, (vB b4)), (17, 7, (vB b5)), (17, 11, (vB b2))] [(1, 0, vB b0, h1), (2, 1, vB b1, h2), (5, 1, LV.v v1, h3), (14, 1, LV.v v2, h4), (15, 1, LV.v v3, h5), (16, 1, LV.v v0, h0)]) (tA k0 (tA k1 (tZ k2 (tA k3 (tA k4 (tZ k5 (tA k6 (tA k7 (tA k8 (tZ k9 (tA tT (tA k10 (tA tT (tZ k11 (tA tT (tA k12 (tA tT (tZ k13 (tA tT (tA k14 (tA tT (tR ((vB b2, h0)))))))))))))))))))))))) (by kernel_rfl)
end Go.Proofs.YtoblgjmllmomhaaGreatDoor
namespace Go.Proofs.YtoblgjmllmomhaaGreatDoor
set_option maxRecDepth 100000
open Go Go.Proofs.Am
variable {m st : Int} {ty im fu ta me gl ex el da cu l0 l1 : LL} {kd b0 b1 b2 b3 : Bool} {h h0 h1 h2 h3 : Heap} {v0 v1 : AV}
theorem v6_0 (k0 : cA m 13 [] h = some (vB b0, h1)) (k1 : cA m 14 [mV ty im fu ta me gl ex st el da cu] h1 = some (vB b1, h0)) (k2 : (!b1) = true) :
  bB m 6 [mV ty im fu ta me gl ex st el da cu, vB kd] h = some ((vB b0, h0)) :=
 bY (qS [15] [] [] [(1, 0, vB b0, h1), (2, 1, vB b1, h0)]) (tA k0 (tA k1 (tZ k2 (tR ((vB b0, h0)))))) (by kernel_rfl)
theorem v6_1 (k0 : cA m 13 [] h = some (vB b0, h1)) (k1 : cA m 14 [mV ty im fu ta me gl ex st el da cu] h1 = some (vB b1, h2)) (k2 : (!b1) = false) (k3 : cA m 15 [mV ty im fu ta me gl ex st el da cu] h2 = some (LV.v v0, h0)) (k4 : nE m v0 b2) (k5 : b2 = true) :
  bB m 6 [mV ty im fu ta me gl ex st el da cu, vB kd] h = some ((vB b0, h0)) :=
 bY (qS [20] [15] [(6, 1, (vB b2))] [(1, 0, vB b0, h1), (2, 1, vB b1, h2), (5, 1, LV.v v0, h0)]) (tA k0 (tA k1 (tZ k2 (tA k3 (tA k4 (tZ k5 (tR ((vB b0, h0))))))))) (by kernel_rfl)
theorem v6_2 (k0 : cA m 13 [] h = some (vB b0, h1)) (k1 : cA m 14 [mV ty im fu ta me gl ex st el da cu] h1 = some (vB b1, h2)) (k2 : (!b1) = false) (k3 : cA m 15 [mV ty im fu ta me gl ex st el da cu] h2 = some (LV.v v1, h3)) (k4 : nE m v1 b3) (k5 : b3 = false) (k6 : kd = true) (k7 : apL (LV.ow 2 []) 2 48 ty = some (LV.ow 2 l0)) (k8 : apL (LV.ow 2 l0) 2 48 [[aM [[aI (.ofNat 1)], [aI (.ofNat 2)]], aM [[aI (.ofNat 2)]]]] = some (LV.ow 2 l1)) (k9 : cA m 15 [mV l1 im fu ta me gl ex st el da cu] h3 = some (LV.v v0, h0)) (k10 : eqZ (.ofNat ty.length) (.ofNat 64) = true) (k11 : b0 = true) (k12 : binF (Cx.P (cxZ m)) BinOp.eql 33 false v0 (AV.ifc 56 (aI (.ofNat 7))) = some (aB b2)) :
  bB m 6 [mV ty im fu ta me gl ex st el da cu, vB kd] h = some ((vB b2, h0)) :=
 bY (qS [24, 41, 43] [15, 20] [(6, 1, (vB b3)), (12, 3, (LV.ow 2 l0)), (12, 6, (LV.ow 2 l1)), (15, 4, (vB b2))] [(1, 0, vB b0, h1), (2, 1, vB b1, h2), (5, 1, LV.v v1, h3), (13, 1, LV.v v0, h0)]) (tA k0 (tA k1 (tZ k2 (tA k3 (tA k4 (tZ k5 (tZ k6 (u02 (tA t1 (tA k7 (u02 (tA t1 (tA k8 (tA k9 (tZ k10 (tZ k11 (uT2 (tA k12 (tA tT (tR ((vB b2, h0)))))))))))))))))))))) (by kernel_rfl)
theorem v6_4 (k0 : cA m 13 [] h = some (vB b0, h1)) (k1 : cA m 14 [mV ty im fu ta me gl ex st el da cu] h1 = some (vB b1, h2)) (k2 : (!b1) = false) (k3 : cA m 15 [mV ty im fu ta me gl ex st el da cu] h2 = some (LV.v v1, h3)) (k4 : nE m v1 b3) (k5 : b3 = false) (k6 : kd = true) (k7 : apL (LV.ow 2 []) 2 48 ty = some (LV.ow 2 l0)) (k8 : apL (LV.ow 2 l0) 2 48 [[aM [[aI (.ofNat 1)], [aI (.ofNat 2)]], aM [[aI (.ofNat 2)]]]] = some (LV.ow 2 l1)) (k9 : cA m 15 [mV l1 im fu ta me gl ex st el da cu] h3 = some (LV.v v0, h0)) (k10 : eqZ (.ofNat ty.length) (.ofNat 64) = false) (k11 : b0 = true) (k12 : qE m v0 b2) :
  bB m 6 [mV ty im fu ta me gl ex st el da cu, vB kd] h = some ((vB b2, h0)) :=
 bY (qS [24, 49] [15, 20, 41] [(6, 1, (vB b3)), (12, 3, (LV.ow 2 l0)), (12, 6, (LV.ow 2 l1)), (16, 3, (vB b2))] [(1, 0, vB b0, h1), (2, 1, vB b1, h2), (5, 1, LV.v v1, h3), (13, 1, LV.v v0, h0)]) (tA k0 (tA k1 (tZ k2 (tA k3 (tA k4 (tZ k5 (tZ k6 (u02 (tA t1 (tA k7 (u02 (tA t1 (tA k8 (tA k9 (tZ k10 (tZ k11 (tA tT (tA k12 (tA tT (tR ((vB b2, h0)))))))))))))))))))))) (by kernel_rfl)
theorem v6_6 (k0 : cA m 13 [] h = some (vB b0, h1)) (k1 : cA m 14 [mV ty im fu ta me gl ex st el da cu] h1 = some (vB b1, h2)) (k2 : (!b1) = false) (k3 : cA m 15 [mV ty im fu ta me gl ex st el da cu] h2 = some (LV.v v1, h3)) (k4 : nE m v1 b3) (k5 : b3 = false) (k6 : kd = false) (k7 : apL (LV.ow 2 []) 2 48 ty = some (LV.ow 2 l0)) (k8 : apL (LV.ow 2 l0) 2 48 [[aM [[aI (.ofNat 1)], [aI (.ofNat 2)]], aM []]] = some (LV.ow 2 l1)) (k9 : cA m 15 [mV l1 im fu ta me gl ex st el da cu] h3 = some (LV.v v0, h0)) (k10 : eqZ (.ofNat ty.length) (.ofNat 64) = true) (k11 : b0 = true) (k12 : binF (Cx.P (cxZ m)) BinOp.eql 33 false v0 (AV.ifc 56 (aI (.ofNat 7))) = some (aB b2)) :
  bB m 6 [mV ty im fu ta me gl ex st el da cu, vB kd] h = some ((vB b2, h0)) :=
 bY (qS [41, 43] [15, 20, 24] [(6, 1, (vB b3)), (12, 3, (LV.ow 2 l0)), (12, 6, (LV.ow 2 l1)), (15, 4, (vB b2))] [(1, 0, vB b0, h1), (2, 1, vB b1, h2), (5, 1, LV.v v1, h3), (13, 1, LV.v v0, h0)]) (tA k0 (tA k1 (tZ k2 (tA k3 (tA k4 (tZ k5 (tZ k6 (u02 (tA t1 (tA k7 (u02 (tA t1 (tA k8 (tA k9 (tZ k10 (tZ k11 (uT2 (tA k12 (tA tT (tR ((vB b2, h0)))))))))))))))))))))) (by kernel_rfl)
theorem v6_8 (k0 : cA m 13 [] h = some (vB b0, h1)) (k1 : cA m 14 [mV ty im fu ta me gl ex st el da cu] h1 = some (vB b1, h2)) (k2 : (!b1) = false) (k3 : cA m 15 [mV ty im fu ta me gl ex st el da cu] h2 = some (LV.v v1, h3)) (k4 : nE m v1 b3) (k5 : b3 = false) (k6 : kd = false) (k7 : apL (LV.ow 2 []) 2 48 ty = some (LV.ow 2 l0)) (k8 : apL (LV.ow 2 l0) 2 48 [[aM [[aI (.ofNat 1)], [aI (.ofNat 2)]], aM []]] = some (LV.ow 2 l1)) (k9 : cA m 15 [mV l1 im fu ta me gl ex st el da cu] h3 = some (LV.v v0, h0)) (k10 : eqZ (.ofNat ty.length) (.ofNat 64) = false) (k11 : b0 = true) (k12 : qE m v0 b2) :
  bB m 6 [mV ty im fu ta me gl ex st el da cu, vB kd] h = some ((vB b2, h0)) :=
 bY (qS [49] [15, 20, 24, 41] [(6, 1, (vB b3)), (12, 3, (LV.ow 2 l0)), (12, 6, (LV.ow 2 l1)), (16, 3, (vB b2))] [(1, 0, vB b0, h1), (2, 1, vB b1, h2), (5, 1, LV.v v1, h3), (13, 1, LV.v v0, h0)]) (tA k0 (tA k1 (tZ k2 (tA k3 (tA k4 (tZ k5 (tZ k6 (u02 (tA t1 (tA k7 (u02 (tA t1 (tA k8 (tA k9 (tZ k10 (tZ k11 (tA tT (tA k12 (tA tT (tR ((vB b2, h0)))))))))))))))))))))) (by kernel_rfl)
end Go.Proofs.YtoblgjmllmomhaaGreatDoor
namespace Go.Proofs.YtoblgjmllmomhaaGreatDoor
set_option maxRecDepth 100000
open Go Go.Proofs.Am
variable {m : Int} {h h0 h1 : Heap} {v0 v1 : AV} {b0 b1 : Bool}
theorem v13_0 (k0 : cA m 15 [vG [aM [], aM [], aM [], aM [], aM [], aM [], aM [], aI (Int.negSucc 0), aM [], aM [], aM []]] h = some (LV.v v1, h1)) (k1 : cA m 15 [vG [aM [], aM [], aM [], aM [], aM [], aM [], aM [], aI (.ofNat 0), aM [], aM [], aM []]] h1 = some (LV.v v0, h0)) (k2 : qE m v1 b1) (k3 : b1 = true) (k4 : binF (Cx.P (cxZ m)) BinOp.eql 33 false v0 (AV.ifc 56 (aI (.ofNat 5))) = some (aB b0)) :
  bB m 13 [] h = some ((vB b0, h0)) :=
 bY (qS [9] [] [(3, 1, (vB b1)), (3, 5, (vB b0))] [(1, 1, LV.v v1, h1), (2, 1, LV.v v0, h0)]) (tA k0 (tA k1 (tA k2 (tZ k3 (uT2 (tA k4 (tA tT (tR ((vB b0, h0)))))))))) (by kernel_rfl)
end Go.Proofs.YtoblgjmllmomhaaGreatDoor
namespace Go.Proofs.YtoblgjmllmomhaaGreatDoor
set_option maxRecDepth 100000
open Go Go.RowKit Go.Proofs.Am
section
variable {m : Int}
def M0 (s : Int) : Mdl := ⟨[], [], [], [], [], [], [], s, [], [], []⟩
theorem bk0 (s : Int) : Bk (M0 s) := by
 constructor <;> first | (intro x hx; cases hx) | exact Nat.zero_le _
theorem fit0 {A : Type} (n : Nat) (F : A → Prop) : FitL n F ([] : List A) := ⟨by simp, fun x hx => by cases hx⟩
theorem sm0 {s : Int} (hs : InZ s) : Small (M0 s) := ⟨⟨fit0 _ _, fit0 _ _, fit0 _ _, fit0 _ _, fit0 _ _, fit0 _ _, fit0 _ _, hs, fit0 _ _, fit0 _ _, fit0 _ _⟩, Nat.zero_le _, Nat.zero_le _, Nat.zero_le _, Nat.zero_le _⟩
theorem loc0 (s : Int) : LocN (M0 s) := fun x hx => by cases hx
theorem sml0 (s : Int) : smlB m (M0 s) = true := rfl
theorem chk_m1 : chkE m (M0 (-1)) = none := chk_of (sml0 _) rfl rfl rfl rfl rfl rfl rfl
theorem chk_0 : chkE m (M0 0) = some 5 := by
 unfold chkE vk1
 rw [sml0]
 rfl
theorem eqE (a : Option Int) (c : Int) : binF (Cx.P (cxZ m)) BinOp.eql 33 false (errA a) (.ifc 56 (.int .i64 c)) = some (.bool (a == some c)) := by
 cases a with
 | none => kernel_rfl
 | some b =>
  have e : binF (Cx.P (cxZ m)) BinOp.eql 33 false (errA (some b)) (.ifc 56 (.int .i64 c)) = some (.bool (b == c)) := by kernel_rfl
  rw [e]
  rfl
theorem up_Z (h : Heap) : callF (cxZ m) (blk (cxZ m)) 13 [] h = some (.v (.bool true), h) := by
 have c1 := valid_Z (m := m) (bk0 (-1)) (sm0 (by unfold InZ; omega)) (loc0 _) h
 have c2 := valid_Z (m := m) (bk0 0) (sm0 (by unfold InZ; omega)) (loc0 _) h
 rw [chk_m1] at c1
 rw [chk_0] at c2
 have k4 := eqE (m := m) (some 5) 5
 exact callF_of rfl rfl (by kernel_rfl) (v13_0 (k0 := c1) (k1 := c2) (k2 := err_eql none) (k3 := rfl) (k4 := k4))
theorem less_walk {M : Mdl} (hF : M.Fit) (hB : Bk M) (h : Heap) : ∃ h', blk (cxZ m) 4 (body_ Tryz.prog 4) [eM M] h = some (.v (.bool true), h') := by
 have c1 := up_Z (m := m) h
 obtain ⟨q, hq, hfew⟩ := t10 m hF
 have c2 := hfew h
 cases q with
 | false => exact ⟨_, v4_0 (k0 := c1) (k1 := c2) (k2 := rfl)⟩
 | true =>
  obtain ⟨hS, hL⟩ := hq rfl
  have c3 := valid_Z (m := m) hB hS hL h
  have hn := err_neq (chkE m M)
  cases e : chkE m M with
  | some c =>
   rw [e] at c3 hn
   exact ⟨_, v4_1 (k0 := c1) (k1 := c2) (k2 := rfl) (k3 := c3) (k4 := hn) (k5 := rfl)⟩
  | none =>
   rw [e] at c3 hn
   have hf := hS.fit
   have sa : Small { M with ex := [] } := ⟨⟨hf.1, hf.2.1, hf.2.2.1, hf.2.2.2.1, hf.2.2.2.2.1, hf.2.2.2.2.2.1, fit0 _ _, hf.2.2.2.2.2.2.2⟩, hS.ty, hS.im, hS.fu, hS.gl⟩
   have sb : Small { M with cu := [] } := ⟨⟨hf.1, hf.2.1, hf.2.2.1, hf.2.2.2.1, hf.2.2.2.2.1, hf.2.2.2.2.2.1, hf.2.2.2.2.2.2.1, hf.2.2.2.2.2.2.2.1, hf.2.2.2.2.2.2.2.2.1, hf.2.2.2.2.2.2.2.2.2.1, fit0 _ _⟩, hS.ty, hS.im, hS.fu, hS.gl⟩
   have sc : Small { M with st := -1 } := ⟨⟨hf.1, hf.2.1, hf.2.2.1, hf.2.2.2.1, hf.2.2.2.2.1, hf.2.2.2.2.2.1, hf.2.2.2.2.2.2.1, (show InZ (-1) by unfold InZ; omega), hf.2.2.2.2.2.2.2.2⟩, hS.ty, hS.im, hS.fu, hS.gl⟩
   have ba : Bk { M with ex := [] } := { ty := hB.ty, tl := hB.tl, im := hB.im, fu := hB.fu, fl := hB.fl, ta := hB.ta, me := hB.me, gl := hB.gl, gi := hB.gi, ex := Nat.zero_le _, el := hB.el, eo := hB.eo, da := hB.da, dl := hB.dl, cu := hB.cu }
   have bb : Bk { M with cu := [] } := { ty := hB.ty, tl := hB.tl, im := hB.im, fu := hB.fu, fl := hB.fl, ta := hB.ta, me := hB.me, gl := hB.gl, gi := hB.gi, ex := hB.ex, el := hB.el, eo := hB.eo, da := hB.da, dl := hB.dl, cu := Nat.zero_le _ }
   have bc : Bk { M with st := -1 } := { ty := hB.ty, tl := hB.tl, im := hB.im, fu := hB.fu, fl := hB.fl, ta := hB.ta, me := hB.me, gl := hB.gl, gi := hB.gi, ex := hB.ex, el := hB.el, eo := hB.eo, da := hB.da, dl := hB.dl, cu := hB.cu }
   have ca := valid_Z (m := m) ba sa hL h
   have cb := valid_Z (m := m) bb sb hL h
   have cc := valid_Z (m := m) bc sc hL h
   rw [less_ex e] at ca
   rw [less_cu e] at cb
   rw [less_st e] at cc
   exact ⟨_, v4_2 (k0 := c1) (k1 := c2) (k2 := rfl) (k3 := c3) (k4 := hn) (k5 := rfl) (k6 := ca) (k7 := cb) (k8 := cc) (k9 := rfl) (k10 := err_eql none) (k11 := rfl) (k12 := err_eql none) (k13 := rfl) (k14 := err_eql none)⟩
def tK (kd : Bool) : FTy := ⟨[1, 2], if kd = true then [2] else []⟩
theorem tK_ok (kd : Bool) : okT (tK kd) ∧ styB (tK kd) = true := by cases kd <;> exact ⟨rfl, rfl⟩
theorem ap_ty (l : List FTy) (hl : l.length ≤ 1048576) : apL (.ow 2 []) 2 48 (l.map FTy.enc) = some (.ow 2 (l.map FTy.enc)) := by
 have hf : fitE 2 (l.map FTy.enc) = true := by cases l <;> rfl
 rw [ap_owned hf (by rw [List.length_nil, List.length_map]; omega) (by decide), List.nil_append]
theorem ap_t (l : List FTy) (hl : l.length ≤ 1048576) (t : FTy) : apL (.ow 2 (l.map FTy.enc)) 2 48 [t.enc] = some (.ow 2 ((l ++ [t]).map FTy.enc)) := by
 rw [ap_owned (fit_one t.enc_len) (by simp; omega) (by decide), List.map_append]
 rfl
theorem more_walk {M : Mdl} (hF : M.Fit) (hB : Bk M) (kd : Bool) (h : Heap) : ∃ h', blk (cxZ m) 6 (body_ Tryz.prog 6) [eM M, .v (.bool kd)] h = some (.v (.bool true), h') := by
 have c1 := up_Z (m := m) h
 obtain ⟨q, hq, hfew⟩ := t10 m hF
 have c2 := hfew h
 cases q with
 | false => exact ⟨_, v6_0 (k0 := c1) (k1 := c2) (k2 := rfl)⟩
 | true =>
  obtain ⟨hS, hL⟩ := hq rfl
  have c3 := valid_Z (m := m) hB hS hL h
  have hn := err_neq (chkE m M)
  cases e : chkE m M with
  | some c =>
   rw [e] at c3 hn
   exact ⟨_, v6_1 (k0 := c1) (k1 := c2) (k2 := rfl) (k3 := c3) (k4 := hn) (k5 := rfl)⟩
  | none =>
   rw [e] at c3 hn
   have hf := hS.fit
   have h64 := more_few e
   have l2 : ∀ x, x ∈ (tK kd).p → InZ x := fun x hx => by
    simp only [tK, List.mem_cons, List.not_mem_nil, or_false] at hx
    unfold InZ
    rcases hx with rfl | rfl <;> omega
   have l3 : FitL 8 InZ (tK kd).r := by
    cases kd with
    | false => exact fit0 _ _
    | true =>
     refine ⟨by rw [reach_eq]; decide, fun x hx => ?_⟩
     have hx : x ∈ [(2 : Int)] := hx
     rw [List.mem_singleton] at hx
     unfold InZ; omega
   have ft : FitL 48 FTy.Fit (M.ty ++ [tK kd]) := by
    refine ⟨by rw [reach_eq, List.length_append, List.length_singleton]; omega, fun x hx => ?_⟩
    rcases List.mem_append.1 hx with hx | hx
    ·exact hf.1.2 x hx
    ·rw [List.mem_singleton.1 hx]
     exact ⟨⟨by rw [reach_eq]; show 2 * 8 ≤ 140737488351232; decide, l2⟩, l3⟩
   have sa : Small (addT M (tK kd)) := ⟨⟨ft, hf.2⟩, by show (M.ty ++ [tK kd]).length ≤ 200; rw [List.length_append, List.length_singleton]; omega, hS.im, hS.fu, hS.gl⟩
   have tl' : ∀ x, x ∈ (addT M (tK kd)).ty → x.p.length ≤ 1048576 ∧ x.r.length ≤ 1048576 := fun x hx => by
    rcases List.mem_append.1 hx with hx | hx
    ·exact hB.tl x hx
    ·rw [List.mem_singleton.1 hx]
     cases kd <;> decide
   have ty' : (addT M (tK kd)).ty.length ≤ 1048576 := by show (M.ty ++ [tK kd]).length ≤ _; rw [List.length_append, List.length_singleton]; omega
   have ba : Bk (addT M (tK kd)) := { ty := ty', tl := tl', im := hB.im, fu := hB.fu, fl := hB.fl, ta := hB.ta, me := hB.me, gl := hB.gl, gi := hB.gi, ex := hB.ex, el := hB.el, eo := hB.eo, da := hB.da, dl := hB.dl, cu := hB.cu }
   have ca := valid_Z (m := m) ba sa hL h
   have a1 := ap_ty M.ty (by omega)
   have a2 := ap_t M.ty (by omega) (tK kd)
   obtain ⟨t1, t2⟩ := tK_ok kd
   by_cases hl : M.ty.length = 64
   ·rw [more_large e hl] at ca
    have k10 : eqZ (Int.ofNat (M.ty.map FTy.enc).length) (Int.ofNat 64) = true := by rw [List.length_map, hl]; rfl
    have k12 := eqE (m := m) (some 7) 7
    cases kd with
    | true => exact ⟨_, v6_2 (k0 := c1) (k1 := c2) (k2 := rfl) (k3 := c3) (k4 := hn) (k5 := rfl) (k6 := rfl) (k7 := a1) (k8 := a2) (k9 := ca) (k10 := k10) (k11 := rfl) (k12 := k12)⟩
    | false => exact ⟨_, v6_6 (k0 := c1) (k1 := c2) (k2 := rfl) (k3 := c3) (k4 := hn) (k5 := rfl) (k6 := rfl) (k7 := a1) (k8 := a2) (k9 := ca) (k10 := k10) (k11 := rfl) (k12 := k12)⟩
   ·rw [more_ok hB.tl e hl t1 t2] at ca
    have k10 : eqZ (Int.ofNat (M.ty.map FTy.enc).length) (Int.ofNat 64) = false := eqZ_f (by rw [List.length_map, ofN, ofN]; omega)
    cases kd with
    | true => exact ⟨_, v6_4 (k0 := c1) (k1 := c2) (k2 := rfl) (k3 := c3) (k4 := hn) (k5 := rfl) (k6 := rfl) (k7 := a1) (k8 := a2) (k9 := ca) (k10 := k10) (k11 := rfl) (k12 := err_eql none)⟩
    | false => exact ⟨_, v6_8 (k0 := c1) (k1 := c2) (k2 := rfl) (k3 := c3) (k4 := hn) (k5 := rfl) (k6 := rfl) (k7 := a1) (k8 := a2) (k9 := ca) (k10 := k10) (k11 := rfl) (k12 := err_eql none)⟩
end
end Go.Proofs.YtoblgjmllmomhaaGreatDoor
