/-
  What both tell of functions and globals.
-/
import Derived.Test.YtdmgjhnmlilboaaGreatDoorAmS14y
import Derived.Test.YtdmgjhnmlilboaaGreatDoorAmRowX

namespace Go.Proofs.YtdmgjhnmlilboaaGreatDoor
open Go Go.RowKit Go.Proofs.Am

theorem ix_int {l : List Int} {i : Nat} {z : Int} (h : l[i]? = some z) : ixA (.imm (encN l)) (Int.ofNat i) 1 = some [.int .i64 z] := ix_map (f := fun x => [AV.int .i64 x]) h rfl
theorem ix_intZ {l : List Int} {i z : Int} (h0 : 0 ≤ i) (h : l[i.toNat]? = some z) : ixA (.imm (encN l)) i 1 = some [.int .i64 z] := ix_mapZ (f := fun x => [AV.int .i64 x]) h0 h rfl

theorem loop15 (m : Int) (l : List Int) (hl : l.length < 9223372036854775807) (h : Heap) : ∀ (d i : Nat), i + d = l.length →
    blk (cxZ m) 16 (at_ Tryz.prog 16 4) [.v (.imm (encN l)), .v (.imm (encN l)), .v (.int .i64 (Int.ofNat i))] h = some (.v (.bool true), h)
  | 0, i, hd => s15_4_2 (k0 := ltZ_f (by rw [encN_len, ofN, ofN]; omega)) ..
  | d + 1, i, hd => by
    have hlt : i < l.length := by omega
    have k1 := ix_int (List.getElem?_eq_getElem hlt)
    refine s15_4_1 (k0 := ltZ_t (by rw [encN_len, ofN, ofN]; omega)) (k1 := k1) (k2 := k1) (k3 := by rw [eqZ_t rfl]; rfl) (k4 := ?_) ..
    rw [wrapS (by omega)]
    exact loop15 m l hl h d (i + 1) (by omega)
/-- The types' numbers of all functions. -/
def rawL (M : Mdl) : List Int := (impK M 0).map Imp.t ++ M.fu.map MFn.t
/-- A function's type. -/
def tyOf (M : Mdl) (t : Int) : Option FTy := bif ltZ t (Int.ofNat 0) then none else M.ty[t.toNat]?
def fT (M : Mdl) (i : Int) : Option Int := bif ltZ i (Int.ofNat 0) then none else (rawL M)[i.toNat]?
/-- A type's number, where there is one. -/
def numT (M : Mdl) (t : Int) : Int := match tyOf M t with | some _ => t | none => -1
theorem numT_none {M : Mdl} {t : Int} (h : tyOf M t = none) : numT M t = -1 := by unfold numT; rw [h]
theorem numT_some {M : Mdl} {t : Int} {y : FTy} (h : tyOf M t = some y) : numT M t = t := by unfold numT; rw [h]
def numOf (M : Mdl) (i : Int) : Int := match fT M i with | some t => numT M t | none => -1
theorem ge_none {A : Type} {l : List A} {i : Int} {n : Nat} (hn : l.length = n) (h : leZ (Int.ofNat n) i = true) : l[i.toNat]? = none := by
  have := (leZ_i h).2 rfl
  rw [ofN] at this
  rw [List.getElem?_eq_none]
  omega
theorem lt_some {A : Type} {l : List A} {i : Int} {n : Nat} (hn : l.length = n) (h0 : ltZ i (Int.ofNat 0) = false) (h : leZ (Int.ofNat n) i = false) : ∃ x, l[i.toNat]? = some x ∧ 0 ≤ i := by
  have h1 := leZ_i h
  have h2 := ltZ_i h0
  simp only [ofN, Bool.false_eq_true, iff_false] at h1 h2
  exact ⟨_, List.getElem?_eq_getElem (by omega), by omega⟩
theorem ty_ans {M : Mdl} (hM : Small M) {t : Int} {y : FTy} (h : tyOf M t = some y) : ltZ t (Int.ofNat 0) = false ∧ leZ (Int.ofNat (M.ty.map FTy.enc).length) t = false ∧ ixA (.imm (M.ty.map FTy.enc)) t 2 = some y.enc ∧ y.Fit := by
  unfold tyOf at h
  cases h0 : ltZ t (Int.ofNat 0) with
  | true => rw [h0] at h; cases h
  | false =>
    rw [h0, cond_false] at h
    have h2 := ltZ_i h0
    simp only [ofN, Bool.false_eq_true, iff_false] at h2
    refine ⟨rfl, ?_, ix_mapZ (by omega) h y.enc_len, hM.fit.1.2 _ (List.mem_of_getElem? h)⟩
    have := (List.getElem?_eq_some_iff.1 h).1
    exact leZ_f (by rw [List.length_map, ofN]; omega)
theorem ty_none {M : Mdl} {t : Int} (h : tyOf M t = none) : ltZ t (Int.ofNat 0) = true ∨ (ltZ t (Int.ofNat 0) = false ∧ leZ (Int.ofNat (M.ty.map FTy.enc).length) t = true) := by
  unfold tyOf at h
  cases h0 : ltZ t (Int.ofNat 0) with
  | true => exact .inl rfl
  | false =>
    refine .inr ⟨rfl, ?_⟩
    rw [h0, cond_false, List.getElem?_eq_none_iff] at h
    have h2 := ltZ_i h0
    simp only [ofN, Bool.false_eq_true, iff_false] at h2
    exact leZ_t (by rw [List.length_map, ofN]; omega)

end Go.Proofs.YtdmgjhnmlilboaaGreatDoor
