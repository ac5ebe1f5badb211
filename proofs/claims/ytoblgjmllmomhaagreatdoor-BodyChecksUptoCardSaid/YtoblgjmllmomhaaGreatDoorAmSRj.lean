/-
  The document's table, gone through: an operation's kind; what takes, and gives, what the table has.
-/
import Derived.Test.YtoblgjmllmomhaaGreatDoorAmSRi
import Derived.Test.YtoblgjmllmomhaaGreatDoorAmSRwG
import Derived.Test.YtoblgjmllmomhaaGreatDoorAmS15m
namespace Go.Proofs.YtoblgjmllmomhaaGreatDoor
set_option maxRecDepth 100000
open Go Go.Proofs.Am
def findQ (z : Int) : List RowQ -> Option RowQ
 | [] => none
 | r :: rs => bif eqZ (.ofNat r.b) z then some r else findQ z rs
def kindQ (z : Int) : Int := match findQ z rowsT with | some r => .ofNat r.k | none => 0
def intsN : List Nat -> List Int -> Bool
 | [], [] => true
 | n :: ns, z :: zs => eqZ (.ofNat n) z && intsN ns zs
 | _, _ => false
theorem intsN_eq : ∀ {ns : List Nat} {zs : List Int}, intsN ns zs = true -> ns.map Int.ofNat = zs
 | [], [], _ => rfl
 | n :: ns, z :: zs, h => by
  simp only [intsN, Bool.and_eq_true] at h
  rw [List.map_cons, (eqZ_i h.1).2 rfl, intsN_eq h.2]
 | [], _ :: _, h => by cases h
 | _ :: _, [], h => by cases h
def kChk (n k : Nat) : Bool := ((Nat.ble 12 n && Nat.ble n 15) == Nat.beq k 3) && ((Nat.ble 16 n && Nat.ble n 17) == Nat.beq k 4) && ((Nat.ble 26 n && Nat.ble n 27) == Nat.beq k 5) && ((Nat.ble 32 n && Nat.ble n 36) == Nat.beq k 6) && ((Nat.ble 2 n && Nat.ble n 4) == Nat.beq k 2) && ((Nat.ble 0 n && Nat.ble n 1) == Nat.beq k 1)
theorem rngB {a b n c k : Nat} (h : ((Nat.ble a n && Nat.ble n b) == Nat.beq k c) = true) : (a <= n /\ n <= b) ↔ k = c := by
 rw [beq_iff_eq] at h
 constructor
 ·rintro ⟨h1, h2⟩
  rw [Nat.ble_eq_true_of_le h1, Nat.ble_eq_true_of_le h2] at h
  exact Nat.eq_of_beq_eq_true h.symm
 ·rintro rfl
  rw [Nat.beq_refl, Bool.and_eq_true] at h
  exact ⟨Nat.le_of_ble_eq_true h.1, Nat.le_of_ble_eq_true h.2⟩
def chkQ (n : Nat) (x : LV) : Bool :=
 match opP x, findQ (.ofNat n) rowsT with
 | some r, some q => eqZ (.ofNat q.k) r.kind && intsN q.tk r.takes && eqZ (.ofNat q.gv) r.gives && eqZ (.ofNat q.y) r.bytes && Nat.ble q.y 8 && q.tk.all (fun t => Nat.ble 1 t && Nat.ble t 2) && Nat.ble q.gv 2 && (!Nat.beq q.k 10 || (Nat.beq q.gv 1 == Nat.beq n 65)) && kChk n q.k
 | none, none => true
 | _, _ => false
def chkQL : Nat -> List LV -> Bool
 | _, [] => true
 | n, x :: xs => chkQ n x && chkQL (n + 1) xs
theorem chkQ_all : chkQL 0 lookL = true := by kernel_rfl
theorem chkQL_get : ∀ (l : List LV) (n k : Nat) (x : LV), chkQL n l = true -> l[k]? = some x -> chkQ (n + k) x = true
 | [], n, k, x, _, h => by simp at h
 | y :: l, n, 0, x, h, hx => by
  simp only [chkQL, Bool.and_eq_true] at h
  simp only [List.getElem?_cons_zero, Option.some.injEq] at hx
  subst hx
  exact h.1
 | y :: l, n, k + 1, x, h, hx => by
  simp only [chkQL, Bool.and_eq_true] at h
  have := chkQL_get l (n + 1) k x h.2 (by simpa using hx)
  rwa [show n + (k + 1) = n + 1 + k by omega]
theorem findQ_mem {z : Int} : ∀ {rs : List RowQ} {q : RowQ}, findQ z rs = some q -> q ∈ rs /\ (Int.ofNat q.b) = z
 | [], q, h => by cases h
 | r :: rs, q, h => by
  rw [findQ] at h
  cases hb : eqZ (.ofNat r.b) z with
  | true => rw [hb, cond_true] at h; cases h; exact ⟨by simp, (eqZ_i hb).2 rfl⟩
  | false =>
   rw [hb, cond_false] at h
   obtain ⟨h1, h2⟩ := findQ_mem h
   exact ⟨List.mem_cons_of_mem _ h1, h2⟩
theorem rows_lt : (rowsT.all fun r => Nat.blt r.b 192) = true := by kernel_rfl
theorem rows_k0 : (rowsT.all fun r => Nat.blt 0 r.k) = true := by kernel_rfl
theorem lookLen : lookL.length = 192 := by kernel_rfl
structure QF (z : Int) (r : OpR) (q : RowQ) : Prop where
 fd : findQ z rowsT = some q
 k : (q.k : Int) = r.kind
 tk : q.tk.map Int.ofNat = r.takes
 gv : (q.gv : Int) = r.gives
 y : (q.y : Int) = r.bytes
 y8 : q.y <= 8
 t2 : ∀ t, t ∈ q.tk -> 1 <= t /\ t <= 2
 g2 : q.gv <= 2
 c10 : r.kind = 10 -> (r.gives = 1 ↔ z = 65)
 kk : ∃ n : Nat, z = n /\ kChk n q.k = true
theorem op_row (z : Int) : (opI z = none /\ findQ z rowsT = none) ∨ ∃ r q, opI z = some r /\ QF z r q := by
 have big : ∀ z : Int, (z < 0 ∨ 192 <= z) -> findQ z rowsT = none := by
  intro z hz
  cases hf : findQ z rowsT with
  | none => rfl
  | some q =>
   obtain ⟨h1, h2⟩ := findQ_mem hf
   have := Nat.le_of_ble_eq_true (List.all_eq_true.1 rows_lt q h1)
   have h3 : Int.ofNat q.b = (q.b : Int) := rfl
   omega
 rcases (show z < 0 ∨ 0 <= z by omega) with h | h
 ·left
  refine ⟨?_, big z (.inl h)⟩
  unfold opI lookV
  cases z with
  | ofNat n => exact absurd h (by have : Int.ofNat n = (n : Int) := rfl; omega)
  | negSucc k => exact none_no
 ·obtain ⟨n, rfl⟩ := Int.eq_ofNat_of_zero_le h
  unfold opI lookV
  show (opP ((lookL[n]?).getD noneL) = none /\ _) ∨ ∃ r q, opP ((lookL[n]?).getD noneL) = some r /\ _
  cases hx : lookL[n]? with
  | none =>
   have : 192 <= n := by rw [← lookLen]; exact List.getElem?_eq_none_iff.1 hx
   exact .inl ⟨none_no, big _ (.inr (by omega))⟩
  | some x =>
   have h1 := chkQL_get lookL 0 n x chkQ_all hx
   rw [Nat.zero_add] at h1
   unfold chkQ at h1
   have h2 : Int.ofNat n = (n : Int) := rfl
   rw [h2] at h1
   cases hp : opP x with
   | none =>
    rw [hp] at h1
    cases hf : findQ (n : Int) rowsT with
    | none => exact .inl ⟨hp, rfl⟩
    | some q => rw [hf] at h1; cases h1
   | some r =>
    rw [hp] at h1
    cases hf : findQ (n : Int) rowsT with
    | none => rw [hf] at h1; cases h1
    | some q =>
     rw [hf] at h1
     simp only [Bool.and_eq_true] at h1
     obtain ⟨⟨⟨⟨⟨⟨⟨⟨e1, e2⟩, e3⟩, e4⟩, e5⟩, e6⟩, e7⟩, e9⟩, e8⟩ := h1
     refine .inr ⟨r, q, hp, hf, (eqZ_i e1).2 rfl, intsN_eq e2, (eqZ_i e3).2 rfl, (eqZ_i e4).2 rfl, Nat.le_of_ble_eq_true e5, fun t ht => ?_, Nat.le_of_ble_eq_true e7, fun hk => ?_, n, rfl, e8⟩
     ·have := List.all_eq_true.1 e6 t ht
      rw [Bool.and_eq_true] at this
      exact ⟨Nat.le_of_ble_eq_true this.1, Nat.le_of_ble_eq_true this.2⟩
     ·have k1 : (q.k : Int) = r.kind := (eqZ_i e1).2 rfl
      have g1 : (q.gv : Int) = r.gives := (eqZ_i e3).2 rfl
      have hk10 : q.k = 10 := by omega
      rw [hk10, Nat.beq_refl, Bool.not_true, Bool.false_or, beq_iff_eq] at e9
      constructor
      ·intro hg
       have : q.gv = 1 := by omega
       rw [this, Nat.beq_refl] at e9
       have := Nat.eq_of_beq_eq_true e9.symm
       omega
      ·intro hz
       have : n = 65 := by omega
       rw [this, Nat.beq_refl] at e9
       have := Nat.eq_of_beq_eq_true e9
       omega
theorem QF.ks {z : Int} {r : OpR} {q : RowQ} (h : QF z r q) : ((12 <= z /\ z <= 15) ↔ r.kind = 3) /\ ((16 <= z /\ z <= 17) ↔ r.kind = 4) /\ ((26 <= z /\ z <= 27) ↔ r.kind = 5) /\ ((32 <= z /\ z <= 36) ↔ r.kind = 6) /\ ((2 <= z /\ z <= 4) ↔ r.kind = 2) /\ ((0 <= z /\ z <= 1) ↔ r.kind = 1) /\ 0 <= z := by
 obtain ⟨n, hz, hc⟩ := h.kk
 have hk := h.k
 unfold kChk at hc
 simp only [Bool.and_eq_true] at hc
 obtain ⟨⟨⟨⟨⟨h3, h4⟩, h5⟩, h6⟩, h2⟩, h1⟩ := hc
 have h3 := rngB h3
 have h4 := rngB h4
 have h5 := rngB h5
 have h6 := rngB h6
 have h2 := rngB h2
 have h1 := rngB h1
 refine ⟨?_, ?_, ?_, ?_, ?_, ?_, by omega⟩ <;> omega
theorem kind_some {z : Int} {r : OpR} {q : RowQ} (h : QF z r q) : kindQ z = r.kind := by unfold kindQ; rw [h.fd]; exact h.k
section
variable {m : Int} {s : Scp} {L : Nat} {h : Heap} {ρ : RS} {N R : Nat} {o a b v t : Int} {ll bd el : List (List AV)} {q : Bool}
theorem row_get {pre suf : List RowQ} {x : RowQ} (hp : pre ++ x :: suf = rowsT) : ixA (.imm allL) (pre.length : Int) 5 = some x.enc := by
 have hg : rowsT[pre.length]? = some x := by rw [← hp, List.getElem?_append_right (Nat.le_refl _), Nat.sub_self]; rfl
 exact ix_map (f := RowQ.enc) hg rfl
theorem rows_len : allL.length = 102 := by kernel_rfl
theorem rowsT_len : rowsT.length = 102 := by kernel_rfl
theorem pre_lt {pre suf : List RowQ} {x : RowQ} (hp : pre ++ x :: suf = rowsT) : pre.length < 102 := by
 rw [← rowsT_len, ← hp]; simp
theorem kind_loop {o : Int} : ∀ (suf pre : List RowQ), pre ++ suf = rowsT -> bA m 97 3 [vI o, vM allL, vI (pre.length : Int)] h = some (.v (.int .i64 (match findQ o suf with | some r => .ofNat r.k | none => 0)), h)
 | [], pre, hp => by
  rw [List.append_nil] at hp
  subst hp
  exact r97_3_2 (k0 := ltZ_f (by rw [ofN, rows_len, rowsT_len]; omega))
 | x :: suf, pre, hp => by
  have hlt := pre_lt hp
  have k0 := ltZ_t (a := (pre.length : Int)) (b := Int.ofNat allL.length) (by rw [ofN, rows_len]; omega)
  have k1 := row_get hp
  rw [findQ]
  cases hb : eqZ (.ofNat x.b) o with
  | true => exact r97_3_0 (k0 := k0) (k1 := k1) (k2 := hb) (k3 := k1)
  | false =>
   have ih := kind_loop (o := o) suf (pre ++ [x]) (by rw [List.append_assoc]; exact hp)
   refine r97_3_1 (k0 := k0) (k1 := k1) (k2 := hb) (k3 := ?_)
   rw [wrap1 (by omega)]
   rw [List.length_append] at ih
   exact ih
theorem kind_Q (o : Int) : cA m 97 [vI o] h = some (.v (.int .i64 (kindQ o)), h) :=
 cO (r97_0 (k0 := kind_loop (o := o) rowsT [] rfl))
def distB : List RowQ -> Bool
 | [] => true
 | r :: rs => (rs.all fun x => !Nat.beq r.b x.b) && distB rs
theorem rows_dist : distB rowsT = true := by kernel_rfl
theorem dist_split : ∀ {pre : List RowQ} {x : RowQ} {suf : List RowQ}, distB (pre ++ x :: suf) = true -> ∀ y, y ∈ suf -> x.b ≠ y.b
 | [], x, suf, h, y, hy => by
  simp only [List.nil_append, distB, Bool.and_eq_true] at h
  have := List.all_eq_true.1 h.1 y hy
  intro e
  rw [e, Nat.beq_refl] at this
  cases this
 | p :: pre, x, suf, h, y, hy => by
  simp only [List.cons_append, distB, Bool.and_eq_true] at h
  exact dist_split h.2 y hy
def A4 (L : Nat) (i o a b v t : Int) (ll bd el : List (List AV)) (q : Bool) (cs : List LV) : List LV :=
 [vP L 0, .lp 0 0, vM allL, .lp 1 0, vI i, vI o, vI a, vI b, .v (.int .u64 v), vI t, vM ll, vM bd, vM el, vB q] ++ cs
def A13 (L : Nat) (z i o a b v t : Int) (ll bd el : List (List AV)) (q : Bool) (cs : List LV) : List LV :=
 [vP L 0, .lp 0 0, .lp 1 0, vI z, vI i, vI o, vI a, vI b, .v (.int .u64 v), vI t, vM ll, vM bd, vM el, vB q] ++ cs
def ocs (x : RowQ) : List LV := x.op.map .v
def ocz : List LV := [vI (Int.ofNat 0), .v (.str ⟨#[]⟩), vI (Int.ofNat 0), .ow 1 [], vI (Int.ofNat 0), vI (Int.ofNat 0), vB false]
theorem ext125 (m : Int) : (cxZ m).ext 125 = some (madeE m) := rfl
theorem made_call {x : RowQ} (hx : x ∈ rowsT) : cA m 125 [.v (.agg x.enc)] h = some (.v (.agg x.op), h) := callF_ext (e := madeE m) (ext125 m) rfl (made_row m hx)
theorem after_loop {x : RowQ} {r : LV × Heap} (hr : bA m 106 4 (A4 L 102 o a b v t ll bd el q (ocs x)) h = some r) : ∀ (suf pre : List RowQ), pre ++ suf = rowsT -> (∀ y, y ∈ suf -> (Int.ofNat y.b) ≠ o) ->
  bA m 106 4 (A4 L (pre.length : Int) o a b v t ll bd el q (ocs x)) h = some r
 | [], pre, hp, _ => by
  rw [List.append_nil] at hp
  subst hp
  rw [rowsT_len]
  exact hr
 | y :: suf, pre, hp, hy => by
  have hlt := pre_lt hp
  have ih := after_loop hr suf (pre ++ [y]) (by rw [List.append_assoc]; exact hp) (fun w hw => hy w (List.mem_cons_of_mem _ hw))
  refine r106_4_1 (k0 := ltZ_t (by rw [ofN, rows_len]; omega)) (k1 := row_get hp) (k2 := eqZ_f (hy y (by simp))) (k3 := ?_)
  rw [wrap1 (by omega)]
  rw [List.length_append] at ih
  exact ih
theorem before_loop {x : RowQ} {r : LV × Heap} (hr : bA m 106 4 (A4 L 102 o a b v t ll bd el q (ocs x)) h = some r) : ∀ (suf pre : List RowQ), pre ++ suf = rowsT -> findQ o suf = some x ->
  bA m 106 4 (A4 L (pre.length : Int) o a b v t ll bd el q ocz) h = some r
 | [], pre, hp, hf => by cases hf
 | y :: suf, pre, hp, hf => by
  have hlt := pre_lt hp
  have hp' : (pre ++ [y]) ++ suf = rowsT := by rw [List.append_assoc]; exact hp
  have k0 := ltZ_t (a := (pre.length : Int)) (b := Int.ofNat allL.length) (by rw [ofN, rows_len]; omega)
  rw [findQ] at hf
  cases hb : eqZ (.ofNat y.b) o with
  | true =>
   rw [hb, cond_true, Option.some.injEq] at hf
   subst hf
   have hbo : Int.ofNat y.b = o := (eqZ_i hb).2 rfl
   have hd := rows_dist
   rw [← hp] at hd
   have ih := after_loop hr suf (pre ++ [y]) hp' (fun w hw e => dist_split hd w hw (by rw [← hbo] at e; exact (Int.ofNat.inj e).symm))
   have hmem : y ∈ rowsT := by rw [← hp]; simp
   refine r106_4o_0 (k0 := k0) (k1 := row_get hp) (k2 := hb) (k3 := row_get hp) (k4 := made_call hmem) (k5 := ?_)
   rw [wrap1 (by omega)]
   rw [List.length_append] at ih
   exact ih
  | false =>
   rw [hb, cond_false] at hf
   have ih := before_loop hr suf (pre ++ [y]) hp' hf
   refine r106_4o_1 (k0 := k0) (k1 := row_get hp) (k2 := hb) (k3 := ?_)
   rw [wrap1 (by omega)]
   rw [List.length_append] at ih
   exact ih
end
end Go.Proofs.YtoblgjmllmomhaaGreatDoor
