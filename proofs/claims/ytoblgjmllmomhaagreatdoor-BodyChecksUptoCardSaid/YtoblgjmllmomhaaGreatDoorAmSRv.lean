/-
  What comes in: scopes and code of small bulk; the package-level variables.
-/
import Derived.Test.YtoblgjmllmomhaaGreatDoorAmSRp
import Derived.Test.YtoblgjmllmomhaaGreatDoorAmSRwL
import Derived.Test.YtoblgjmllmomhaaGreatDoorAmMod
import Derived.Test.YtoblgjmllmomhaaGreatDoorTie
import Derived.Test.YtoblgjmllmomhaaGreatDoorCards
import Derived.WalkKit
import Derived.ProofKit
import Derived.OpenShut
import Derived.LaidMore
import Derived.Stop.Joined
import Derived.SevenTiedAt
namespace Go.Proofs.YtoblgjmllmomhaaGreatDoor
set_option maxRecDepth 100000
open Go Go.Proofs.Am
section
variable {m : Int}
def scp0 : Scp := ⟨[], [], [], false, false, [], 1⟩
def ins0 (o v : Int) : Ins := .mk o 0 0 v 0 [] [] [] false
theorem up1 : checkP scp0 [ins0 65 1, ins0 65 2, ins0 106 0] = none := by kernel_rfl
theorem up2 : checkP scp0 [ins0 0 0, ins0 106 0] = none := by kernel_rfl
theorem up3 : checkP scp0 [ins0 66 1] = some 4 := by kernel_rfl
theorem eq4 : binF Tryz.prog .eql 33 false (errA (some 4)) (.ifc 56 (.int .i64 (Int.ofNat 4))) = some (.bool true) := by kernel_rfl
theorem ty0 : TyLen 0 scp0 := fun x hx => by cases hx
theorem sl0 : ScpLen (2 ^ 62) scp0 where
 ty := by decide
 tl := fun x (hx : x ∈ ([] : List FTy)) => absurd hx (by simp)
 fn := by decide
 gl := by decide
 lo := by decide
theorem up_Z (h : Heap) : ∃ h', cA m 7 [] h = some (.v (.bool true), h') := by
 obtain ⟨h1, c1⟩ := check_Z (m := m) ty0 sl0 (xs := [ins0 65 1, ins0 65 2, ins0 106 0]) (by decide) h
 obtain ⟨h2, c2⟩ := check_Z (m := m) ty0 sl0 (xs := [ins0 0 0, ins0 106 0]) (by decide) h1
 obtain ⟨h3, c3⟩ := check_Z (m := m) ty0 sl0 (xs := [ins0 66 1]) (by decide) h2
 rw [up1] at c1
 rw [up2] at c2
 rw [up3] at c3
 exact ⟨h3, cO (w6_0 (k0 := c1) (k1 := c2) (k2 := c3) (k3 := err_eql none) (k4 := rfl) (k5 := err_eql none) (k6 := rfl) (k7 := eq4))⟩
def CountR (m : Int) (xs : List Ins) : Prop := ∀ h : Heap, ∃ n d, cA m 8 [vM (encIs xs)] h = some (.tup [.int .i64 n, .int .i64 d], h)
def CntI (m : Int) : Ins -> Prop
 | .mk _ _ _ _ _ _ bd el _ => CountR m bd /\ CountR m el
theorem count_loop {xs : List Ins} (hx : ∀ x, x ∈ xs -> CntI m x) (hl : xs.length < 2 ^ 62) {h : Heap} : ∀ (k i : Nat), i + k = xs.length -> ∀ c d : Int, ∃ n e, bA m 8 4 [vM (encIs xs), vI c, vI d, vI (Int.ofNat i)] h = some (.tup [.int .i64 n, .int .i64 e], h)
 | 0, i, hi, c, d => ⟨c, d, w7_4_6 (k0 := ltZ_f (by rw [ofN, ofN, encIs_len]; omega))⟩
 | k + 1, i, hi, c, d => by
  have h1 : xs[i]? = some xs[i] := List.getElem?_eq_getElem (by omega)
  have e1 : ixA (.imm (encIs xs)) (Int.ofNat i) 9 = some (encI xs[i]) := by rw [encIs_map]; exact ix_map (f := encI) h1 (encI_len _)
  have hc := hx xs[i] (List.getElem_mem _)
  have k0 : ltZ (Int.ofNat i) (Int.ofNat (encIs xs).length) = true := ltZ_t (by rw [ofN, ofN, encIs_len]; omega)
  have ih := count_loop hx hl (h := h) k (i + 1) (by omega)
  generalize xs[i] = x at e1 hc
  obtain ⟨o, a, b, v, t, l, bd, el, q⟩ := x
  obtain ⟨n1, d1, c1⟩ := hc.1 h
  obtain ⟨n2, d2, c2⟩ := hc.2 h
  have hw := wrapS (n := i) (by omega)
  cases q1 : leZ (Int.ofNat 2) o with
  | false =>
   obtain ⟨n, e, hr⟩ := ih (IntKind.wrap .i64 (IntKind.wrap .i64 (IntKind.wrap .i64 (c + Int.ofNat 1) + n1) + n2)) d
   exact ⟨n, e, w7_4_5 (k0 := k0) (k1 := e1) (k2 := c1) (k3 := e1) (k4 := c2) (k5 := e1) (k6 := q1) (k7 := by rw [hw]; exact hr)⟩
  | true =>
   cases q2 : leZ o (Int.ofNat 4) with
   | false =>
    obtain ⟨n, e, hr⟩ := ih (IntKind.wrap .i64 (IntKind.wrap .i64 (IntKind.wrap .i64 (c + Int.ofNat 1) + n1) + n2)) d
    exact ⟨n, e, w7_4_4 (k0 := k0) (k1 := e1) (k2 := c1) (k3 := e1) (k4 := c2) (k5 := e1) (k6 := q1) (k7 := e1) (k8 := q2) (k9 := by rw [hw]; exact hr)⟩
   | true =>
    cases q3 : ltZ d (IntKind.wrap .i64 (d1 + Int.ofNat 1)) with
    | true =>
     cases q4 : ltZ (IntKind.wrap .i64 (d1 + Int.ofNat 1)) (IntKind.wrap .i64 (d2 + Int.ofNat 1)) with
     | true =>
      obtain ⟨n, e, hr⟩ := ih (IntKind.wrap .i64 (IntKind.wrap .i64 (IntKind.wrap .i64 (c + Int.ofNat 1) + n1) + n2)) (IntKind.wrap .i64 (d2 + Int.ofNat 1))
      exact ⟨n, e, w7_4_0 (k0 := k0) (k1 := e1) (k2 := c1) (k3 := e1) (k4 := c2) (k5 := e1) (k6 := q1) (k7 := e1) (k8 := q2) (k9 := q3) (k10 := q4) (k11 := by rw [hw]; exact hr)⟩
     | false =>
      obtain ⟨n, e, hr⟩ := ih (IntKind.wrap .i64 (IntKind.wrap .i64 (IntKind.wrap .i64 (c + Int.ofNat 1) + n1) + n2)) (IntKind.wrap .i64 (d1 + Int.ofNat 1))
      exact ⟨n, e, w7_4_1 (k0 := k0) (k1 := e1) (k2 := c1) (k3 := e1) (k4 := c2) (k5 := e1) (k6 := q1) (k7 := e1) (k8 := q2) (k9 := q3) (k10 := q4) (k11 := by rw [hw]; exact hr)⟩
    | false =>
     cases q4 : ltZ d (IntKind.wrap .i64 (d2 + Int.ofNat 1)) with
     | true =>
      obtain ⟨n, e, hr⟩ := ih (IntKind.wrap .i64 (IntKind.wrap .i64 (IntKind.wrap .i64 (c + Int.ofNat 1) + n1) + n2)) (IntKind.wrap .i64 (d2 + Int.ofNat 1))
      exact ⟨n, e, w7_4_2 (k0 := k0) (k1 := e1) (k2 := c1) (k3 := e1) (k4 := c2) (k5 := e1) (k6 := q1) (k7 := e1) (k8 := q2) (k9 := q3) (k10 := q4) (k11 := by rw [hw]; exact hr)⟩
     | false =>
      obtain ⟨n, e, hr⟩ := ih (IntKind.wrap .i64 (IntKind.wrap .i64 (IntKind.wrap .i64 (c + Int.ofNat 1) + n1) + n2)) d
      exact ⟨n, e, w7_4_3 (k0 := k0) (k1 := e1) (k2 := c1) (k3 := e1) (k4 := c2) (k5 := e1) (k6 := q1) (k7 := e1) (k8 := q2) (k9 := q3) (k10 := q4) (k11 := by rw [hw]; exact hr)⟩
theorem count_of {xs : List Ins} (hx : ∀ x, x ∈ xs -> CntI m x) (hl : xs.length < 2 ^ 62) : CountR m xs := fun h => by
 obtain ⟨n, d, hr⟩ := count_loop hx hl (h := h) xs.length 0 (by omega) (Int.ofNat 0) (Int.ofNat 0)
 exact ⟨n, d, cO (w7_0 (k0 := hr))⟩
mutual
theorem cntI_Z : ∀ x : Ins, cI x < 2 ^ 40 -> CntI m x
 | .mk o a b v t l bd el q, h => by
  rw [cI] at h
  have h1 := cL_len bd
  have h2 := cL_len el
  exact ⟨count_of (cntL_Z bd (by omega)) (by omega), count_of (cntL_Z el (by omega)) (by omega)⟩
theorem cntL_Z : ∀ xs : List Ins, cL xs < 2 ^ 40 -> ∀ x, x ∈ xs -> CntI m x
 | [], _, x, hx => by cases hx
 | y :: ys, h, x, hx => by
  rw [cL] at h
  rcases List.mem_cons.1 hx with e | hx
  ·rw [e]; exact cntI_Z y (by omega)
  ·exact cntL_Z ys (by omega) x hx
end
theorem count_Z {xs : List Ins} (h : cL xs < 2 ^ 40) : CountR m xs := count_of (cntL_Z xs h) (by have := cL_len xs; omega)
theorem few_loop {s : Scp} (hl : s.ty.length < 2 ^ 62) {h : Heap} : ∀ (k i : Nat), i + k = s.ty.length -> ∃ q, bA m 9 4 [.lp 0 0, vI (Int.ofNat i), vM (s.ty.map FTy.enc), vM (encN s.fn), vM (s.gl.map Glo.enc), .v (.bool s.tb), .v (.bool s.mm), vM (encN s.lo), .v (.int .i64 s.re)] h = some (.v (.bool q), h)
 | 0, i, hi => ⟨true, w8_4_3 (k0 := ltZ_f (by rw [ofN, ofN, List.length_map]; omega))⟩
 | k + 1, i, hi => by
  have h1 : s.ty[i]? = some s.ty[i] := List.getElem?_eq_getElem (by omega)
  have e1 : ixA (.imm (s.ty.map FTy.enc)) (Int.ofNat i) 2 = some (FTy.enc s.ty[i]) := ix_map (f := FTy.enc) h1 rfl
  have k0 : ltZ (Int.ofNat i) (Int.ofNat (s.ty.map FTy.enc).length) = true := ltZ_t (by rw [ofN, ofN, List.length_map]; omega)
  obtain ⟨q, hr⟩ := few_loop hl (h := h) k (i + 1) (by omega)
  generalize s.ty[i] = x at e1
  obtain ⟨p, r⟩ := x
  cases q1 : ltZ (Int.ofNat 200) (Int.ofNat (encN p).length) with
  | true => exact ⟨false, w8_4_0 (k0 := k0) (k1 := e1) (k2 := q1)⟩
  | false =>
   cases q2 : ltZ (Int.ofNat 200) (Int.ofNat (encN r).length) with
   | true => exact ⟨false, w8_4_1 (k0 := k0) (k1 := e1) (k2 := q1) (k3 := e1) (k4 := q2)⟩
   | false => exact ⟨q, w8_4_2 (k0 := k0) (k1 := e1) (k2 := q1) (k3 := e1) (k4 := q2) (k5 := by rw [wrapS (by omega)]; exact hr)⟩
theorem few_Z {s : Scp} (hl : s.ty.length < 2 ^ 62) (h : Heap) : ∃ q, cA m 9 [.v (.agg s.enc)] h = some (.v (.bool q), h) := by
 cases q1 : ltZ (Int.ofNat 200) (Int.ofNat (s.ty.map FTy.enc).length) with
 | true => exact ⟨false, cO (w8_0 (k0 := q1))⟩
 | false =>
  cases q2 : ltZ (Int.ofNat 300) (Int.ofNat (encN s.fn).length) with
  | true => exact ⟨false, cO (w8_1 (k0 := q1) (k1 := q2))⟩
  | false =>
   cases q3 : ltZ (Int.ofNat 300) (Int.ofNat (s.gl.map Glo.enc).length) with
   | true => exact ⟨false, cO (w8_2 (k0 := q1) (k1 := q2) (k2 := q3))⟩
   | false =>
    cases q4 : ltZ (Int.ofNat 300) (Int.ofNat (encN s.lo).length) with
    | true => exact ⟨false, cO (w8_3 (k0 := q1) (k1 := q2) (k2 := q3) (k3 := q4))⟩
    | false =>
     obtain ⟨q, hr⟩ := few_loop (m := m) hl (h := h) s.ty.length 0 (by omega)
     exact ⟨q, cO (w8_4 (k0 := q1) (k1 := q2) (k2 := q3) (k3 := q4) (k4 := hr))⟩
structure Small (s : Scp) (xs : List Ins) : Prop where
 ty : s.ty.length <= 1048576
 tl : ∀ x, x ∈ s.ty -> x.p.length <= 1048576 /\ x.r.length <= 1048576
 fn : s.fn.length <= 1048576
 gl : s.gl.length <= 1048576
 lo : s.lo.length <= 1048576
 co : cL xs <= 1048576
theorem Small.scp {s : Scp} {xs : List Ins} (h : Small s xs) : ScpLen (2 ^ 62) s := ⟨by have := h.ty; omega, fun x hx => by have := h.tl x hx; omega, by have := h.fn; omega, by have := h.gl; omega, by have := h.lo; omega⟩
theorem check_S {s : Scp} {xs : List Ins} (h : Small s xs) (hp : Heap) : ∃ h', cA m 10 [.v (.agg s.enc), vM (encIs xs)] hp = some (.v (errA (checkP s xs)), h') := by
 refine check_Z (R := 1048576) h.tl h.scp ?_ hp
 have := Nat.mul_le_mul_left (1048576 + 6) h.co
 omega
theorem check13_S {s : Scp} {xs : List Ins} (h : Small s xs) (hp : Heap) : ∃ h' c, cA m 12 [.v (.agg s.enc), vM (encIs xs)] hp = some (.v (.int .i64 c), h') /\ ((c = 0 /\ checkP s xs = none) ∨ ((c = 1 ∨ c = 4 ∨ c = 5) /\ checkP s xs = some c)) := by
 refine check13_Z (R := 1048576) h.tl h.scp ?_ hp
 have := Nat.mul_le_mul_left (1048576 + 6) h.co
 omega
theorem checks_walk {s : Scp} {xs : List Ins} (hS : Small s xs) (h : Heap) : ∃ h', blk (cxZ m) 3 (body_ Tryz.prog 3) [.v (.agg s.enc), vM (encIs xs)] h = some (.v (.bool true), h') := by
 have hco := hS.co
 obtain ⟨h1, c1⟩ := up_Z (m := m) h
 obtain ⟨n, d, c2⟩ := count_Z (m := m) (xs := xs) (by omega) h1
 obtain ⟨q, c3⟩ := few_Z (m := m) (s := s) (by have := hS.ty; omega) h1
 cases q1 : ltZ (Int.ofNat 2000) n with
 | true => exact ⟨_, r3_0 (k0 := c1) (k1 := c2) (k2 := c3) (k3 := q1)⟩
 | false =>
  cases q with
  | false => exact ⟨_, r3_1 (k0 := c1) (k1 := c2) (k2 := c3) (k3 := q1) (k4 := rfl)⟩
  | true =>
   obtain ⟨h2, c4⟩ := check_S (m := m) hS h1
   obtain ⟨h3, c, c6, hc⟩ := check13_S (m := m) hS h2
   rcases hc with ⟨rfl, he⟩ | ⟨hc, he⟩
   ·rw [he] at c4
    exact ⟨_, r3_2 (k0 := c1) (k1 := c2) (k2 := c3) (k3 := q1) (k4 := rfl) (k5 := c4) (k6 := rfl) (k7 := num_0) (k8 := c6)⟩
   ·obtain ⟨k, rfl⟩ : ∃ k : Nat, c = k := ⟨c.toNat, by omega⟩
    rw [he] at c4
    have e : eqZ (k : Int) (k : Int) = true := eqZ_t rfl
    have := r3_2 (k0 := c1) (k1 := c2) (k2 := c3) (k3 := q1) (k4 := rfl) (k5 := c4) (k6 := rfl) (k7 := num_c (m := m) (h := h2) (c := k) (by omega)) (k8 := c6)
    rw [e] at this
    exact ⟨_, this⟩
end
end Go.Proofs.YtoblgjmllmomhaaGreatDoor
namespace Go.Proofs.YtoblgjmllmomhaaGreatDoor
set_option maxRecDepth 100000
open Go.ChangeShapes Go.WideShapes Go.ChangeAt Go.RowKit Go.Proofs.Am
theorem own : ownKnob Tryz.prog.godebug = none := by kernel_rfl
theorem gA : Tryz.prog.globalNamed "strings.asciiSpace" = some 0 := by kernel_rfl
theorem tyA : (Tryz.prog.globals[0]?).map (·.type) = some 191 := by kernel_rfl
theorem asciiD : avD Tryz.prog 3 191 (Rows.laid_strings_asciiSpace (H := Unit)) = some asciiL := by kernel_rfl
theorem glob_ok {W : World} {l : List (String × DataW Unit)} (hl : l = Rows.bodyChecksUptoRow.laid) (h : laidMetH Tryz.prog l W) (hs : W.ShapedOpen Tryz.prog) : ∃ m : Int, GOk (cxZ m) W (gFull W) := by
 subst hl
 obtain ⟨m, hm⟩ := cell_of_shapedOpen_int (g := 2) (t := 3) (zero := #[.int .i64 0]) (k := .i64) hs (of_decide_eq_true (by kernel_rfl)) (by kernel_rfl) rfl (by kernel_rfl) (by kernel_rfl) Tryz.underlying3
 refine ⟨m, ?_⟩
 rw [MakeChecks.laidMetH_plain _ _ _ (by kernel_rfl)] at h
 obtain ⟨ps, ⟨g0, t0, cs0, f0, p0, q0, hg0, ht0, hv0, hd0, ⟨g1, t1, cs1, f1, p1, q1, hg1, ht1, hv1, hd1, _, _⟩, _⟩, _, _⟩ := h
 obtain rfl := Option.some.inj (gA.symm.trans hg1)
 obtain rfl := Option.some.inj (tyA.symm.trans ht1)
 obtain ⟨ys, _, e1, r1⟩ := var_rep (n := 3) (gFull_full W) hg1 hv1 (by kernel_rfl) hd1
 rw [show avD Tryz.prog 3 191 _ = some asciiL from asciiD] at e1
 cases e1
 intro i cs hi
 match i, hi with
 | 0, hi => cases hi; exact r1
 | 1, hi => cases hi
 | 2, hi =>
  cases hi
  exact .snap _ _ _ (fun _ => .int .i64 m) (fun j c hj => by
   cases j with
   | zero => simp at hj; subst hj; exact ⟨gFull_full W _ _ _ hm, hm, rfl⟩
   | succ j => simp at hj) (fun j c hj => by
   cases j with
   | zero => simp at hj; subst hj; exact .int _ _
   | succ j => simp at hj)
 | n + 3, hi => cases hi
mutual
def bkA : AV -> Nat
 | .imm xs => bkLL xs + 1
 | .snap cs => bkL cs + 1
 | .agg cs => bkL cs + 1
 | _ => 1
def bkL : List AV -> Nat
 | [] => 0
 | x :: xs => bkA x + bkL xs
def bkLL : List (List AV) -> Nat
 | [] => 0
 | x :: xs => bkL x + bkLL xs
end
theorem bkL_app : ∀ xs ys : List AV, bkL (xs ++ ys) = bkL xs + bkL ys
 | [], ys => by simp [bkL]
 | x :: xs, ys => by rw [List.cons_append, bkL, bkL, bkL_app xs ys]; omega
theorem bkL_flat : ∀ xs : List (List AV), bkL xs.flatten = bkLL xs
 | [] => rfl
 | x :: xs => by rw [List.flatten_cons, bkL_app, bkLL, bkL_flat xs]
theorem bk_map {H A : Type} {f : A -> Option (List AV)} {g : A -> DataW H} (hf : ∀ a ys, f a = some ys -> bkL ys <= Rows.uptoBulk (g a)) : ∀ (l : List A) (yss : List (List AV)), l.mapM f = some yss -> bkLL yss <= Rows.uptoBulkAll (l.map g)
 | [], yss, h => by simp at h; subst h; exact Nat.le_refl _
 | a :: l, yss, h => by
  rw [List.mapM_cons] at h
  simp only [Option.bind_eq_bind, Option.bind_eq_some_iff] at h
  obtain ⟨y, hy, zs, hz, h⟩ := h
  simp only [Option.pure_def, Option.some.injEq] at h
  subst h
  have h1 := hf a y hy
  have h2 := bk_map hf l zs hz
  rw [bkLL, List.map_cons, Rows.uptoBulkAll]
  omega
theorem bk_zip {H A : Type} : ∀ (fs : List A) (ds : List (DataW H)), Rows.uptoBulkAll ((fs.zip ds).map (·.2)) <= Rows.uptoBulkAll ds
 | [], ds => by simp [Rows.uptoBulkAll]
 | _ :: _, [] => by simp [Rows.uptoBulkAll]
 | f :: fs, d :: ds => by
  have := bk_zip fs ds
  rw [List.zip_cons_cons, List.map_cons, Rows.uptoBulkAll, Rows.uptoBulkAll]
  exact Nat.add_le_add_left this _
theorem bk_le {H : Type} {P : Program} : ∀ (n : Nat) (t : TypeId) (d : DataW H) (ys : List AV), avD P n t d = some ys -> bkL ys <= Rows.uptoBulk d
 | 0, _, _, _, h => by simp [avD] at h
 | n + 1, t, d, ys, h => by
  unfold avD at h
  split at h
  ·cases h; simp [bkL, bkA, Rows.uptoBulk]
  ·cases h; simp [bkL, bkA, Rows.uptoBulk]
  ·cases h; simp [bkL, bkA, Rows.uptoBulk]
  ·cases h; simp [bkL, bkA, Rows.uptoBulk]
  ·obtain ⟨cs, hc, h⟩ := Option.bind_eq_some_iff.1 h
   cases h
   have := bk_le n _ _ _ hc
   simp only [bkL, bkA, Rows.uptoBulk]; omega
  ·cases h; simp [bkL, bkA, bkLL, Rows.uptoBulk]
  ·obtain ⟨yss, hy, h⟩ := Option.bind_eq_some_iff.1 h
   cases h
   have := bk_map (g := fun d => d) (fun a zs ha => bk_le n _ a zs ha) _ _ hy
   rw [List.map_id'] at this
   simp only [bkL, bkA, Rows.uptoBulk]; omega
  ·obtain ⟨yss, hy, h⟩ := Option.bind_eq_some_iff.1 h
   cases h
   have h1 := bk_map (g := fun p : Field × DataW H => p.2) (fun a zs ha => bk_le n _ a.2 zs ha) _ _ hy
   have h2 := bk_zip (H := H) ‹Array Field›.toList ‹List (DataW H)›
   rw [bkL_flat]
   simp only [Rows.uptoBulk]
   omega
  ·obtain ⟨yss, hy, h⟩ := Option.bind_eq_some_iff.1 h
   cases h
   have := bk_map (g := fun d => d) (fun a zs ha => bk_le n _ a zs ha) _ _ hy
   rw [List.map_id'] at this
   rw [bkL_flat]
   simp only [Rows.uptoBulk]; omega
  ·cases h
theorem bk_len {f : Int -> List AV} (hf : ∀ z, bkL (f z) = 1) : ∀ l : List Int, bkLL (l.map f) = l.length
 | [] => rfl
 | x :: l => by rw [List.map_cons, bkLL, hf, bk_len hf l, List.length_cons]; omega
theorem bk_encN (l : List Int) : bkLL (encN l) = l.length := bk_len (fun _ => rfl) l
theorem bk_ge {A : Type} {f : A -> List AV} (hf : ∀ a, 1 <= bkL (f a)) : ∀ l : List A, l.length <= bkLL (l.map f) /\ ∀ x, x ∈ l -> bkL (f x) <= bkLL (l.map f)
 | [] => ⟨Nat.le_refl _, fun x hx => by cases hx⟩
 | a :: l => by
  obtain ⟨h1, h2⟩ := bk_ge hf l
  have := hf a
  rw [List.map_cons, bkLL, List.length_cons]
  refine ⟨by omega, fun x hx => ?_⟩
  rcases List.mem_cons.1 hx with rfl | hx
  ·omega
  ·have := h2 x hx; omega
mutual
theorem bk_I : ∀ x : Ins, cI x <= bkL (encI x)
 | .mk o a b v t l bd el q => by
  have h1 := bk_Is bd
  have h2 := bk_Is el
  rw [cI, encI]
  simp only [bkL, bkA, bk_encN]
  omega
theorem bk_Is : ∀ xs : List Ins, cL xs <= bkLL (encIs xs)
 | [] => Nat.le_refl _
 | x :: xs => by
  have h1 := bk_I x
  have h2 := bk_Is xs
  rw [cL, encIs, bkLL]
  omega
end
theorem insT : InsT Tryz.prog 60 3 58 23 27 4 where
 hN := Tryz.underlying3
 hV := Tryz.underlying58
 hQ := Tryz.underlying4
 hL := Tryz.underlying23
 hB := Tryz.underlying27
 fs := ⟨_, Tryz.underlying60, by kernel_rfl⟩
 hc := by kernel_rfl
theorem bN : Tryz.prog.bytesOf 3 = 8 := by kernel_rfl
theorem bI : Tryz.prog.bytesOf 60 = 120 := by kernel_rfl
theorem ftyT : StT Tryz.prog 53 [(23, 0, 1), (23, 1, 1)] 2 := ⟨⟨_, Tryz.underlying53, by kernel_rfl⟩, by kernel_rfl⟩
theorem gloT : StT Tryz.prog 77 [(3, 0, 1), (4, 1, 1), (60, 2, 9)] 11 := ⟨⟨_, Tryz.underlying77, by kernel_rfl⟩, by kernel_rfl⟩
theorem scpT : StT Tryz.prog 26 [(22, 0, 1), (23, 1, 1), (24, 2, 1), (4, 3, 1), (4, 4, 1), (23, 5, 1), (3, 6, 1)] 7 := ⟨⟨_, Tryz.underlying26, by kernel_rfl⟩, by kernel_rfl⟩
theorem z_ft {n : Nat} {ys : List AV} (hs : ShZ Tryz.prog n 53 ys) : ∃ x : FTy, ys = x.enc /\ True := by
 obtain ⟨m, _, hl, get⟩ := z_st ftyT hs
 obtain ⟨v0, e0, _⟩ := z_ints insT.hL insT.hN bN (get _ 0 1 (by simp))
 obtain ⟨v1, e1, _⟩ := z_ints insT.hL insT.hN bN (get _ 1 1 (by simp))
 refine ⟨⟨v0, v1⟩, ?_, trivial⟩
 rw [cut_fty ys hl, e0, e1]
 rfl
theorem z_gl {n : Nat} {ys : List AV} (hs : ShZ Tryz.prog n 77 ys) : ∃ x : Glo, ys = x.enc /\ True := by
 obtain ⟨m, _, hl, get⟩ := z_st gloT hs
 obtain ⟨v0, e0, _⟩ := z_i64 insT.hN (get _ 0 1 (by simp))
 obtain ⟨v1, e1⟩ := z_bool insT.hQ (get _ 1 1 (by simp))
 obtain ⟨v2, e2, _⟩ := z_ins insT bN bI _ _ (get _ 2 9 (by simp))
 refine ⟨⟨v0, v1, v2⟩, ?_, trivial⟩
 rw [cut_glo ys hl, e0, e1, e2]
 simp [Glo.enc]
theorem list7 {A : Type} {ys : List A} (h : ys.length = 7) : ∃ a b c d e f g, ys = [a, b, c, d, e, f, g] := by
 match ys, h with
 | [a, b, c, d, e, f, g], _ => exact ⟨a, b, c, d, e, f, g, rfl⟩
theorem z_scp {n : Nat} {ys : List AV} (hs : ShZ Tryz.prog n 26 ys) : ∃ s : Scp, ys = s.enc := by
 obtain ⟨m, _, hl, get⟩ := z_st scpT hs
 obtain ⟨c0, c1, c2, c3, c4, c5, c6, rfl⟩ := list7 hl
 obtain ⟨v0, e0, _⟩ := z_list (f := FTy.enc) (F := fun _ => True) Tryz.underlying22 rfl (fun _ _ h => z_ft h) (get 22 0 1 (by simp))
 obtain ⟨v1, e1, _⟩ := z_ints insT.hL insT.hN bN (get 23 1 1 (by simp))
 obtain ⟨v2, e2, _⟩ := z_list (f := Glo.enc) (F := fun _ => True) Tryz.underlying24 rfl (fun _ _ h => z_gl h) (get 24 2 1 (by simp))
 obtain ⟨v3, e3⟩ := z_bool insT.hQ (get 4 3 1 (by simp))
 obtain ⟨v4, e4⟩ := z_bool insT.hQ (get 4 4 1 (by simp))
 obtain ⟨v5, e5, _⟩ := z_ints insT.hL insT.hN bN (get 23 5 1 (by simp))
 obtain ⟨v6, e6, _⟩ := z_i64 insT.hN (get 3 6 1 (by simp))
 simp only [List.drop_zero, List.drop_succ_cons, List.take_succ_cons, List.take_zero, List.cons.injEq, and_true] at e0 e1 e2 e3 e4 e5 e6
 subst e0; subst e1; subst e2; subst e3; subst e4; subst e5; subst e6
 exact ⟨⟨v0, v1, v2, v3, v4, v5, v6⟩, rfl⟩
theorem small_of {s : Scp} {xs : List Ins} (h : bkL s.enc + bkL [.imm (encIs xs)] <= 1048576) : Small s xs := by
 have e1 : bkL s.enc = (bkLL (s.ty.map FTy.enc) + 1) + ((s.fn.length + 1) + ((bkLL (s.gl.map Glo.enc) + 1) + (1 + (1 + ((s.lo.length + 1) + (1 + 0)))))) := by
  simp only [Scp.enc, bkL, bkA, bk_encN]
 have e2 : bkL [.imm (encIs xs)] = bkLL (encIs xs) + 1 := by simp only [bkL, bkA]
 have h1 := bk_Is xs
 obtain ⟨t1, t2⟩ := bk_ge (f := FTy.enc) (fun a => by simp only [FTy.enc, bkL, bkA]; omega) s.ty
 obtain ⟨g1, _⟩ := bk_ge (f := Glo.enc) (fun a => by simp only [Glo.enc, List.cons_append, List.nil_append, bkL, bkA]; omega) s.gl
 refine ⟨by omega, fun x hx => ?_, by omega, by omega, by omega, by omega⟩
 have h2 := t2 x hx
 have h3 : bkL x.enc = (x.p.length + 1) + ((x.r.length + 1) + 0) := by simp only [FTy.enc, bkL, bkA, bk_encN]
 omega
theorem in_of {H : Type} {ds : List (DataW H)} {xs : List AV} (hx : ShZC Tryz.prog [26, 27] xs ds) (hk : Rows.uptoSmall H ds = true) : ∃ (s : Scp) (l : List Ins), xs = [.agg s.enc, .imm (encIs l)] /\ Small s l := by
 obtain ⟨n1, y1, xs1, d1, ds1, rfl, rfl, h1, a1, hx⟩ := zc_cons hx
 obtain ⟨n2, y2, xs2, d2, ds2, rfl, rfl, h2, a2, hx⟩ := zc_cons hx
 obtain rfl := zc_nil hx
 obtain ⟨s, rfl⟩ := z_scp h1
 obtain ⟨l, rfl, _⟩ := z_code insT bN bI h2
 have b1 := bk_le _ _ _ _ a1
 have b2 := bk_le _ _ _ _ a2
 have hk := of_decide_eq_true hk
 rw [Rows.uptoBulkAll, Rows.uptoBulkAll] at hk
 refine ⟨s, l, ?_, small_of (by omega)⟩
 rw [argV_struct Tryz.underlying26, argV_slice Tryz.underlying27]
theorem bodyChecks_main (W : World) (hL : laidMetH Tryz.prog Rows.bodyChecksUptoRow.laid W) (hsh : W.ShapedOpen Tryz.prog) {H : Type} (ds : List (DataW H)) (xs : List AV) (hx : ShZC Tryz.prog Tryz.f3.params.toList xs ds) (hk : Rows.uptoSmall H ds = true) :
  ∃ (cx : Cx) (c : Code) (h' : Heap), cx.P = Tryz.prog /\ CxOk cx /\ GOk cx W (gFull W) /\ Tryz.f3.body = some c /\ cutAt cx 3 [.code c] = none /\ blk cx 3 [.code c] (xs.map .v) Heap.nil = some (.v (.bool true), h') := by
 obtain ⟨m, hG⟩ := glob_ok rfl hL hsh
 obtain ⟨c, hc, hbody⟩ := body_of Tryz.func3 (by kernel_rfl)
 rw [Tryz.params3] at hx
 obtain ⟨s, l, rfl, hS⟩ := in_of hx hk
 obtain ⟨h', hr⟩ := checks_walk (m := m) hS Heap.nil
 have hb : (cutAt (cxZ m) 3 (body_ Tryz.prog 3)).isNone = true := by kernel_rfl
 rw [body_eq Tryz.func3 hc] at hr
 rw [body_eq Tryz.func3 hc, Option.isNone_iff_eq_none] at hb
 exact ⟨cxZ m, c, h', rfl, cxZ_ok m, hG, hc, hb, hr⟩
end Go.Proofs.YtoblgjmllmomhaaGreatDoor
