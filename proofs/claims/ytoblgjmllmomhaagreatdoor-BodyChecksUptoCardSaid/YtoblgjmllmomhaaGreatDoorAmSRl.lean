/-
  The document's state in the heap: variables, jumps, select; an instruction that is no block.
-/
import Derived.Test.YtoblgjmllmomhaaGreatDoorAmSRj
import Derived.Test.YtoblgjmllmomhaaGreatDoorAmSRwB
import Derived.Test.YtoblgjmllmomhaaGreatDoorAmRefC
import Derived.Test.YtoblgjmllmomhaaGreatDoorAmSRwG
namespace Go.Proofs.YtoblgjmllmomhaaGreatDoor
set_option maxRecDepth 100000
open Go Go.Proofs.Am
section
variable {m : Int} {s : Scp} {L : Nat} {h : Heap} {ρ : RS} {N R : Nat} {o a b v t : Int} {ll bd el : List (List AV)} {q : Bool}
theorem ld4 (H : Q s L h ρ) : ldP h (.ptr L 4) 1 false = some (.bool s.mm) := H.ldS rfl
theorem tk_enc {x : RowQ} {r : OpR} (hq : QF o r x) : x.tk.map (fun y => [AV.int .i64 (Int.ofNat y)]) = encN r.takes := by
 rw [← hq.tk]
 simp [encN]
theorem wg_Q {r : OpR} {x : RowQ} (hq : QF o r x) (H : Q s L h ρ) (I : RM N ρ) (hN : N + 1 < 2 ^ 41) (hl : r.takes.length <= 3) : ∃ h1 h2, cA m 124 [vP L 0, .v (.imm (x.tk.map (fun y => [AV.int .i64 (Int.ofNat y)])))] h = some (.tup [], h1) /\
  cA m 61 [vP L 0, vI (Int.ofNat x.gv)] h1 = some (.tup [], h2) /\ Q s L h2 ((ρ.wants r.takes).push r.gives) := by
 obtain ⟨h1, c1, H1⟩ := wants_Q (m := m) H I (by omega) (ts := r.takes) (by omega)
 have I1 := (I.wants r.takes).1
 obtain ⟨h2, c2, H2⟩ := push_Q (m := m) H1 (by have := I1.rz; omega) r.gives
 refine ⟨h1, h2, by rw [tk_enc hq]; exact c1, ?_, H2⟩
 rw [show Int.ofNat x.gv = r.gives from hq.gv]
 exact c2
theorem pow_le {a b : Nat} (h : a <= b) : (2 : Int) ^ a <= (2 : Int) ^ b := by
 obtain ⟨k, rfl⟩ := Nat.exists_eq_add_of_le h
 induction k with
 | zero => exact Int.le_refl _
 | succ k ih =>
  have h1 : (2 : Int) ^ (a + (k + 1)) = (2 : Int) ^ (a + k) * 2 := by rw [← Nat.add_assoc, Int.pow_succ]
  have h2 := ih (Nat.le_add_right _ _)
  have h3 : (0 : Int) < (2 : Int) ^ (a + k) := Int.pow_pos (by decide)
  omega
theorem pow_loop {r : OpR} {x : RowQ} (hq : QF o r x) (H : Q s L h ρ) (I : RM N ρ) (hN : N + 1 < 2 ^ 41) (hl : r.takes.length <= 3) (h0 : 0 <= a) (ha : a <= 4294967295) : ∀ (k j : Nat), j + k = 4 -> (j : Int) <= a ->
  ∃ h', bA m 106 13 (A13 L ((2 : Int) ^ j) (j : Int) o a b v t ll bd el q (ocs x)) h = some (.tup [], h') /\ Q s L h' (((if r.bytes < (2 : Int) ^ a.toNat then ρ.amiss 4 else ρ).wants r.takes).push r.gives) := by
 have hy : (x.y : Int) <= 8 := by have := hq.y8; omega
 have hyb := hq.y
 intro k
 induction k with
 | zero =>
  intro j hj hja
  have hj4 : j = 4 := by omega
  subst hj4
  have hz : (2 : Int) ^ 4 = 16 := by decide
  have hb : r.bytes < (2 : Int) ^ a.toNat := by
   have := pow_le (show 4 <= a.toNat by omega)
   rw [hz] at this
   omega
  rw [if_pos hb]
  obtain ⟨h1, c1, H1⟩ := amiss_Q (m := m) H 4
  obtain ⟨h2, h3, c2, c3, H3⟩ := wg_Q (m := m) hq H1 (I.amiss 4) hN hl
  have kz := ltZ_t (a := Int.ofNat x.y) (b := (2 : Int) ^ 4) (by rw [hz]; show (x.y : Int) < 16; omega)
  by_cases hlt : ((4 : Nat) : Int) < a
  ·exact ⟨h3, r106_13_1 (k0 := ltZ_t hlt) (k1 := leZ_f (by rw [hz]; show (x.y : Int) < 16; omega)) (k2 := kz) (k3 := c1) (k4 := c2) (k5 := c3), H3⟩
  ·exact ⟨h3, r106_13_3 (k0 := ltZ_f (by omega)) (k1 := kz) (k2 := c1) (k3 := c2) (k4 := c3), H3⟩
 | succ k ih =>
  intro j hj hja
  by_cases hz : (2 : Int) ^ j <= (x.y : Int)
  ·by_cases hlt : (j : Int) < a
   ·obtain ⟨h', c', H'⟩ := ih (j + 1) (by omega) (by omega)
    refine ⟨h', r106_13_0 (k0 := ltZ_t hlt) (k1 := leZ_t hz) (k2 := ?_), H'⟩
    have e1 : IntKind.wrap .i64 ((2 : Int) ^ j * Int.ofNat 2) = (2 : Int) ^ (j + 1) := by
     rw [Int.pow_succ, ofN, wrapI]
     ·rfl
     ·unfold InZ
      have h3 : (0 : Int) < (2 : Int) ^ j := Int.pow_pos (by decide)
      omega
    rw [e1, wrap1 (by omega)]
    exact c'
   ·have hja' : a.toNat = j := by omega
    rw [if_neg (by rw [hja']; omega)]
    obtain ⟨h2, h3, c2, c3, H3⟩ := wg_Q (m := m) hq H I hN hl
    exact ⟨h3, r106_13_4 (k0 := ltZ_f (by omega)) (k1 := ltZ_f hz) (k2 := c2) (k3 := c3), H3⟩
  ·have hb : r.bytes < (2 : Int) ^ a.toNat := by
    have := pow_le (show j <= a.toNat by omega)
    omega
   rw [if_pos hb]
   obtain ⟨h1, c1, H1⟩ := amiss_Q (m := m) H 4
   obtain ⟨h2, h3, c2, c3, H3⟩ := wg_Q (m := m) hq H1 (I.amiss 4) hN hl
   have kz := ltZ_t (a := Int.ofNat x.y) (b := (2 : Int) ^ j) (by show (x.y : Int) < _; omega)
   by_cases hlt : (j : Int) < a
   ·exact ⟨h3, r106_13_1 (k0 := ltZ_t hlt) (k1 := leZ_f (by show (x.y : Int) < _; omega)) (k2 := kz) (k3 := c1) (k4 := c2) (k5 := c3), H3⟩
   ·exact ⟨h3, r106_13_3 (k0 := ltZ_f (by omega)) (k1 := kz) (k2 := c1) (k3 := c2) (k4 := c3), H3⟩
theorem plain_Q {r : OpR} {x : RowQ} (hq : QF o r x) (H : Q s L h ρ) (I : RM N ρ) (hN : N + 1 < 2 ^ 41) (hl : r.takes.length <= 3) (h0 : 0 <= a) (ha : a <= 4294967295) :
  ∃ h', cA m 106 [vP L 0, .v (.agg [.int .i64 o, .int .i64 a, .int .i64 b, .int .u64 v, .int .i64 t, .imm ll, .imm bd, .imm el, .bool q])] h = some (.tup [], h') /\ Q s L h' (ρ.plain s r a) := by
 have hk := hq.k
 have kx := ltZ_f (a := (102 : Int)) (b := Int.ofNat allL.length) (by rw [ofN, rows_len]; decide)
 have key : ∀ {h' : Heap}, bA m 106 4 (A4 L 102 o a b v t ll bd el q (ocs x)) h = some (.tup [], h') -> cA m 106 [vP L 0, .v (.agg [.int .i64 o, .int .i64 a, .int .i64 b, .int .u64 v, .int .i64 t, .imm ll, .imm bd, .imm el, .bool q])] h = some (.tup [], h') := fun hr =>
  cO (r106_0 (k0 := before_loop hr rowsT [] rfl hq.fd))
 have pl := pow_loop (m := m) (b := b) (v := v) (t := t) (ll := ll) (bd := bd) (el := el) (q := q) hq H I hN hl h0 ha 4 0 rfl h0
 have e7 : ∀ n : Nat, eqZ (Int.ofNat x.k) (Int.ofNat n) = decide (r.kind = n) := fun n => by
  cases hd : decide (r.kind = (n : Int)) with
  | true => exact eqZ_t (by show (x.k : Int) = (n : Int); rw [hk]; exact of_decide_eq_true hd)
  | false => exact eqZ_f (by show (x.k : Int) ≠ (n : Int); rw [hk]; exact of_decide_eq_false hd)
 unfold RS.plain
 by_cases hm : 7 <= r.kind /\ r.kind <= 9 /\ s.mm = false
 ·rw [if_pos hm]
  obtain ⟨h1, c1, H1⟩ := amiss_Q (m := m) H 5
  exact ⟨h1, key (r106_4_2 (k0 := kx) (k1 := leZ_t (by show (7 : Int) <= (x.k : Int); omega)) (k2 := leZ_t (by show (x.k : Int) <= 9; omega)) (k3 := ld4 H) (k4 := by rw [hm.2.2]; rfl) (k5 := c1)), H1⟩
 ·rw [if_neg hm]
  by_cases h7 : r.kind = 7
  ·have hb : s.mm = true := by
    cases hb : s.mm with
    | true => rfl
    | false => exact absurd ⟨by omega, by omega, hb⟩ hm
   obtain ⟨h', c', H'⟩ := pl
   refine ⟨h', key (r106_4_3 (k0 := kx) (k1 := leZ_t (by show (7 : Int) <= (x.k : Int); omega)) (k2 := leZ_t (by show (x.k : Int) <= 9; omega)) (k3 := ld4 H) (k4 := by rw [hb]; rfl) (k5 := by rw [e7, decide_eq_true]; exact h7) (k6 := c')), ?_⟩
   simpa [h7] using H'
  ·by_cases h8 : r.kind = 8
   ·have hb : s.mm = true := by
     cases hb : s.mm with
     | true => rfl
     | false => exact absurd ⟨by omega, by omega, hb⟩ hm
    obtain ⟨h', c', H'⟩ := pl
    refine ⟨h', key (r106_4_4 (k0 := kx) (k1 := leZ_t (by show (7 : Int) <= (x.k : Int); omega)) (k2 := leZ_t (by show (x.k : Int) <= 9; omega)) (k3 := ld4 H) (k4 := by rw [hb]; rfl) (k5 := by rw [e7, decide_eq_false]; exact h7) (k6 := by rw [e7, decide_eq_true]; exact h8) (k7 := c')), ?_⟩
    simpa [h8] using H'
   ·have hcond : ¬((r.kind = 7 ∨ r.kind = 8) /\ r.bytes < (2 : Int) ^ a.toNat) := fun hc => hc.1.elim h7 h8
    rw [if_neg hcond]
    obtain ⟨h1, h2, c1, c2, H2⟩ := wg_Q (m := m) hq H I hN hl
    have k7 : eqZ (Int.ofNat x.k) (Int.ofNat 7) = false := by rw [e7, decide_eq_false]; exact h7
    have k8 : eqZ (Int.ofNat x.k) (Int.ofNat 8) = false := by rw [e7, decide_eq_false]; exact h8
    by_cases hlo : 7 <= r.kind
    ·by_cases hhi : r.kind <= 9
     ·have hb : s.mm = true := by
       cases hb : s.mm with
       | true => rfl
       | false => exact absurd ⟨hlo, hhi, hb⟩ hm
      exact ⟨h2, key (r106_4_5 (k0 := kx) (k1 := leZ_t (by show (7 : Int) <= (x.k : Int); omega)) (k2 := leZ_t (by show (x.k : Int) <= 9; omega)) (k3 := ld4 H) (k4 := by rw [hb]; rfl) (k5 := k7) (k6 := k8) (k7 := c1) (k8 := c2)), H2⟩
     ·exact ⟨h2, key (r106_4_8 (k0 := kx) (k1 := leZ_t (by show (7 : Int) <= (x.k : Int); omega)) (k2 := leZ_f (by show (9 : Int) < (x.k : Int); omega)) (k3 := k7) (k4 := k8) (k5 := c1) (k6 := c2)), H2⟩
    ·exact ⟨h2, key (r106_4_11 (k0 := kx) (k1 := leZ_f (by show (x.k : Int) < 7; omega)) (k2 := k7) (k3 := k8) (k4 := c1) (k5 := c2)), H2⟩
theorem cpyL_v : ∀ l : List AV, cpyL (l.map .v) = some l
 | [] => rfl
 | x :: l => by simp only [List.map_cons, cpyL, LV.cpy1, Option.bind_some, cpyL_v l]
theorem chunk_flat {n : Nat} : ∀ {xs : List (List AV)}, (∀ x, x ∈ xs -> x.length = n) -> chunk n xs.length xs.flatten = xs
 | [], _ => rfl
 | x :: xs, h => by
  have h1 := h x (by simp)
  rw [List.length_cons, List.flatten_cons, chunk, List.take_append_of_le_length (by omega), List.take_of_length_le (by omega), List.drop_append_of_le_length (by omega), List.drop_of_length_le (by omega), List.nil_append, chunk_flat fun y hy => h y (List.mem_cons_of_mem _ hy)]
theorem el69 : (some 69 : Option TypeId).bind (elemTy Tryz.prog) = some 118 := by kernel_rfl
theorem fit_all {n : Nat} : ∀ {xs : List (List AV)}, (∀ x, x ∈ xs -> x.length = n) -> fitE n xs = true
 | [], _ => rfl
 | x :: _, h => by
  show Nat.beq x.length n = true
  rw [h x (by simp)]
  exact Nat.beq_refl n
theorem room24 {n : Nat} (h : n < 2 ^ 41) (h0 : 0 < n) : roomW n 24 = true := by
 unfold roomW
 rw [Bool.and_eq_true, Bool.or_eq_true]
 exact ⟨.inl (Nat.ble_eq_true_of_le (by omega)), rfl⟩
theorem copy_sl {xs : List (List AV)} {id : Nat} {pa : AV} (hs : Sl h 3 xs (some id) pa) (hall : ∀ x, x ∈ xs -> x.length = 3) (hlen : xs.length < 2 ^ 41) :
  apX (Cx.P (cxZ m)) h (some 69) 3 24 .nilE pa = if xs = [] then some (.nilE, h) else some (.arr 3 h.bx.length 0 xs.length, { h with bx := h.bx ++ [flatV xs] }) := by
 obtain ⟨rfl, J, hJ, hl⟩ := hs
 have hfl := flatV_ln hall
 have hsrc : elX Tryz.prog h true (some 69) 3 (.arr 3 id 0 xs.length) = some xs := by
  have htk : ((flatV xs ++ J).drop 0).take (xs.length * 3) = flatV xs := by rw [List.drop_zero, ← hfl, List.take_left]
  have hc : cpyL (flatV xs) = some xs.flatten := cpyL_v _
  have hl2 : Nat.beq xs.flatten.length (xs.length * 3) = true := by
   rw [← hfl]
   unfold flatV
   rw [List.length_map]
   exact Nat.beq_refl _
  unfold elX
  rw [el69]
  simp only [cond_true, Option.bind_some, srcE, show Nat.beq 3 1 = false from rfl, cond_false, srcM, Nat.beq_refl, show Nat.blt 0 3 = true from rfl, Bool.and_self, hJ, htk, hc, hl2]
  rw [chunk_flat hall]
 show (elX Tryz.prog h true (some 69) 3 (.arr 3 id 0 xs.length)).bind _ = _
 rw [hsrc, Option.bind_some]
 cases hx : xs with
 | nil => rfl
 | cons y ys =>
  rw [if_neg (by simp)]
  rw [← hx]
  have h1 : (fitE 3 xs && roomW xs.length 24 && Nat.blt 0 xs.length) = true := by
   rw [fit_all hall, room24 hlen (by rw [hx]; simp)]
   rw [hx]; rfl
  have h2 : apG h .nilE 3 24 xs = apH h .nilE 3 24 xs := by rw [hx]; rfl
  rw [h2]
  simp only [apH, h1, cond_true]
theorem copy_0 {pa : AV} (hp : pa = .nilE ∨ pa = .imm []) : apX (Cx.P (cxZ m)) h (some 69) 3 24 .nilE pa = some (.nilE, h) := by
 show (elX Tryz.prog h true (some 69) 3 pa).bind _ = _
 have : elX Tryz.prog h true (some 69) 3 pa = some [] := by
  unfold elX
  rw [el69]
  rcases hp with rfl | rfl <;> rfl
 rw [this]
 rfl
theorem opn_ex (H : Q s L h ρ) (hb : ρ.bad = 0) (hN : ρ.blk.length + 1 < 2 ^ 41) {xs : List (List AV)} {la re : Int} {ρ' : RS}
  (k : ∀ h1, Q s L h1 (ρ.opn la) -> ∃ h', bA m 25 4 [vP L 0, vM xs, vI re, vI (ρ.row.length : Int), vI (Int.ofNat 0)] h1 = some (.tup [], h') /\ Q s L h' ρ') :
  ∃ h', cA m 25 [vP L 0, vM xs, vI la, vI re] h = some (.tup [], h') /\ Q s L h' ρ' := by
 obtain ⟨pb, H⟩ := H
 have e : Int.ofNat (encN ρ.row).length = (ρ.row.length : Int) := by rw [encN_len]; rfl
 have hLt : L < h.bx.length := (List.getElem?_eq_some_iff.1 H.lk).1
 have hset : ∀ a : AV, (stC s ρ.row pb ρ.bad).set 8 (.v a) = stC s ρ.row a ρ.bad := fun _ => rfl
 rcases H.bl with ⟨hnil, hp⟩ | ⟨id, hne, hpb, hL, hsl⟩
 ·let h0 : Heap := { h with bx := h.bx ++ [[vI la, .v (.int .i64 (Int.ofNat (encN ρ.row).length)), vB false]] }
  have lk0 : h0.bx[L]? = some (stC s ρ.row pb ρ.bad) := by
   show (h.bx ++ _)[L]? = _
   rw [List.getElem?_append_left hLt]; exact H.lk
  have hst := stP_at (x := .v (.arr 3 h.bx.length 0 1)) lk0 (k := 8) (by rw [stC_len]; omega)
  rw [hset] at hst
  have hs0 : Sl h0 3 ((ρ.opn la).blk.map encR) (some h.bx.length) (.arr 3 h.bx.length 0 1) := by
   refine ⟨?_, [], ?_, ?_⟩
   ·simp [RS.opn, hnil]
   ·show (h.bx ++ _)[h.bx.length]? = _
    rw [List.getElem?_append_right (Nat.le_refl _), Nat.sub_self, e]
    simp [RS.opn, hnil, flatV, encR]
   ·simp [RS.opn, hnil, flatV, encR]
  obtain ⟨h', c', H'⟩ := k _ ⟨.arr 3 h.bx.length 0 1, put_same lk0, .inr ⟨h.bx.length, by simp [RS.opn], by simp [RS.opn, hnil], by omega, hs0.put (by intro ee; cases ee; omega)⟩⟩
  exact ⟨h', cO (r25_1 (k0 := H.ld9) (k1 := ntF hb) (k2 := H.ld7) (k3 := H.ld8) (k4 := copy_0 hp) (k5 := hst) (k6 := by rw [e]; exact c')), H'⟩
 ·have hxl : (ρ.blk.map encR).length = ρ.blk.length := List.length_map _
  have hxn : ρ.blk.map encR ≠ [] := by simpa using hne
  have k4 := copy_sl (m := m) hsl (encR_el _) (by rw [hxl]; omega)
  rw [if_neg hxn] at k4
  let h0 : Heap := { h with bx := h.bx ++ [flatV (ρ.blk.map encR)] }
  have hs0 : Sl h0 3 (ρ.blk.map encR) (some h.bx.length) (.arr 3 h.bx.length 0 (ρ.blk.map encR).length) := by
   refine ⟨rfl, [], ?_, ?_⟩
   ·show (h.bx ++ _)[h.bx.length]? = _
    rw [List.getElem?_append_right (Nat.le_refl _), Nat.sub_self]
    simp
   ·rw [List.append_nil, flatV_ln (encR_el _)]
    have := List.length_pos_iff.2 hxn
    omega
  obtain ⟨id1, h1, ha, hs1, hf, hid, hl1⟩ := apH_one (y := encR ⟨la, ρ.row.length, false⟩) (bytes := 24) hs0 (encR_el _) rfl (by decide) (room24 (by rw [hxl]; omega) (by omega))
  have h0l : h0.bx.length = h.bx.length + 1 := by simp [h0]
  have lk1 : h1.bx[L]? = some (stC s ρ.row pb ρ.bad) := by
   rw [hf L (by intro ee; cases ee; omega) (by omega)]
   show (h.bx ++ _)[L]? = _
   rw [List.getElem?_append_left hLt]; exact H.lk
  have hst := stP_at (x := .v (.arr 3 id1 0 ((ρ.blk.map encR).length + 1))) lk1 (k := 8) (by rw [stC_len]; omega)
  rw [hset] at hst
  have hidL : id1 ≠ L := by
   rcases hid with ee | ee
   ·cases ee; omega
   ·omega
  have hm : (ρ.opn la).blk.map encR = ρ.blk.map encR ++ [encR ⟨la, ρ.row.length, false⟩] := by simp [RS.opn]
  obtain ⟨h', c', H'⟩ := k _ ⟨.arr 3 id1 0 ((ρ.blk.map encR).length + 1), put_same lk1, .inr ⟨id1, by simp [RS.opn], by simp [RS.opn], hidL, by rw [hm]; exact hs1.put (by intro ee; cases ee; exact hidL rfl)⟩⟩
  exact ⟨h', cO (r25_2 (k0 := H.ld9) (k1 := ntF hb) (k2 := H.ld7) (k3 := H.ld8) (k4 := k4) (k5 := by rw [e]; exact ha) (k6 := hst) (k7 := by rw [e]; exact c')), H'⟩
theorem und69 : Tryz.prog.underlying 69 = some (.slice 118) := by kernel_rfl
theorem sz118 : (Tryz.prog.info? 118).map (·.size) = some 3 := by kernel_rfl
theorem drop_Q {pb : AV} (H : QR s L h pb ρ) (I : RM N ρ) (hN : N < 2 ^ 41) : ∃ p2 a h0 h1, slA (Cx.P (cxZ m)) 69 pb none (some (IntKind.wrap .i64 ((ρ.blk.length : Int) - Int.ofNat 1))) = some p2 /\ apX (Cx.P (cxZ m)) h (some 69) 3 24 .nilE p2 = some (a, h0) /\
  stP h0 (.ptr L 8) [.v a] = some h1 /\ Q s L h1 { ρ with blk := ρ.blk.dropLast } /\ (a = .nilE ∨ ∃ n0 n1, a = .arr 3 n0 0 n1) := by
 have hbz := I.bz
 have hpos := I.pos
 have hw := wrapN (n := ρ.blk.length) (by omega) hpos
 have hLt : L < h.bx.length := (List.getElem?_eq_some_iff.1 H.lk).1
 obtain ⟨id, hpb, hL, hsl⟩ := H.bl.sl I.ne
 have hset : ∀ a : AV, (stC s ρ.row pb ρ.bad).set 8 (.v a) = stC s ρ.row a ρ.bad := fun _ => rfl
 obtain ⟨i, hi, hn⟩ := Option.map_eq_some_iff.1 sz118
 have k1 : slA (Cx.P (cxZ m)) 69 pb none (some (IntKind.wrap .i64 ((ρ.blk.length : Int) - Int.ofNat 1))) = some (.arr 3 id 0 (ρ.blk.length - 1)) := by
  rw [hpb]
  exact slA_arr und69 hi hn (Nat.sub_le _ _) hw
 have hs1 := hsl.takeN (k := ρ.blk.length - 1) (by rw [List.length_map]; omega)
 have htk : (ρ.blk.map encR).take (ρ.blk.length - 1) = ρ.blk.dropLast.map encR := by rw [List.dropLast_eq_take, List.map_take]
 rw [htk] at hs1
 have hdl : (ρ.blk.dropLast.map encR).length = ρ.blk.length - 1 := by simp
 have k2 := copy_sl (m := m) hs1 (encR_el _) (by rw [hdl]; omega)
 by_cases hd : ρ.blk.dropLast = []
 ·rw [if_pos (by rw [hd]; rfl)] at k2
  have hst := stP_at (x := .v .nilE) H.lk (k := 8) (by rw [stC_len]; omega)
  rw [hset] at hst
  exact ⟨_, _, _, _, k1, k2, hst, ⟨_, put_same H.lk, .inl ⟨hd, .inl rfl⟩⟩, .inl rfl⟩
 ·rw [if_neg (fun ee => hd (List.map_eq_nil_iff.1 ee))] at k2
  let h0 : Heap := { h with bx := h.bx ++ [flatV (ρ.blk.dropLast.map encR)] }
  have lk0 : h0.bx[L]? = some (stC s ρ.row pb ρ.bad) := by
   show (h.bx ++ _)[L]? = _
   rw [List.getElem?_append_left hLt]; exact H.lk
  have hst := stP_at (x := .v (.arr 3 h.bx.length 0 (ρ.blk.dropLast.map encR).length)) lk0 (k := 8) (by rw [stC_len]; omega)
  rw [hset] at hst
  have hs0 : Sl h0 3 (ρ.blk.dropLast.map encR) (some h.bx.length) (.arr 3 h.bx.length 0 (ρ.blk.dropLast.map encR).length) := by
   refine ⟨rfl, [], ?_, ?_⟩
   ·show (h.bx ++ _)[h.bx.length]? = _
    rw [List.getElem?_append_right (Nat.le_refl _), Nat.sub_self]
    simp
   ·rw [List.append_nil, flatV_ln (encR_el _)]
    have : 0 < (ρ.blk.dropLast.map encR).length := by rw [List.length_map]; exact List.length_pos_iff.2 hd
    omega
  refine ⟨_, _, _, _, k1, k2, hst, ⟨_, put_same lk0, .inr ⟨h.bx.length, hd, by rw [List.length_map], by omega, hs0.put (by intro ee; cases ee; omega)⟩⟩, .inr ⟨_, _, rfl⟩⟩
theorem fin_Q (H : Q s L h ρ) (hb : ρ.bad = 0) (I : RM N ρ) (hN : N + 1 < 2 ^ 41) {xs : List (List AV)} {re i : Int} {fr : Nat} (hi : (xs.length : Int) <= i) :
  ∃ h', bA m 25 4 [vP L 0, vM xs, vI re, vI (fr : Int), vI i] h = some (.tup [], h') /\ Q s L h' (ρ.fin re fr) := by
 have k0 := ltZ_f (a := i) (b := Int.ofNat xs.length) hi
 obtain ⟨pb, H⟩ := H
 have l9 := H.ld9
 obtain ⟨h1, c1, pb1, H1⟩ := want_Q (m := m) ⟨pb, H⟩ I (by omega) re
 have I1 := (I.want re).1
 have e : Int.ofNat (encN (ρ.want re).row).length = ((ρ.want re).row.length : Int) := by rw [encN_len]; rfl
 have IE := (I.end1 re fr).1
 unfold RS.fin
 by_cases hr : (ρ.want re).row.length ≠ fr
 ·have he : ρ.end1 re fr = (ρ.want re).amiss 4 := by unfold RS.end1; rw [if_pos hr]
  rw [he] at IE ⊢
  obtain ⟨h2, c2, pb2, H2⟩ := amiss_Q (m := m) ⟨pb1, H1⟩ 4
  have k5 := ntT (a := Int.ofNat (encN (ρ.want re).row).length) (b := (fr : Int)) (by rw [e]; omega)
  by_cases hz : ((ρ.want re).amiss 4).bad ≠ 0
  ·rw [if_pos hz]
   exact ⟨h2, r25_4_9 (k0 := k0) (k1 := l9) (k2 := ntF hb) (k3 := c1) (k4 := H1.ld7) (k5 := k5) (k6 := c2) (k7 := H2.ld9) (k8 := ntT hz), pb2, H2⟩
  ·rw [if_neg hz]
   have hz' := Decidable.not_not.1 hz
   obtain ⟨p2, a, h0, h3, d1, d2, d3, H3, ha⟩ := drop_Q (m := m) H2 IE (by omega)
   obtain ⟨h4, c4, H4⟩ := push_Q (m := m) H3 (by have := IE.rz; show ((ρ.want re).amiss 4).row.length < _; omega) re
   rcases ha with rfl | ⟨n0, n1, rfl⟩
   ·exact ⟨h4, r25_4_10 (k0 := k0) (k1 := l9) (k2 := ntF hb) (k3 := c1) (k4 := H1.ld7) (k5 := k5) (k6 := c2) (k7 := H2.ld9) (k8 := ntF hz') (k9 := H2.ld8) (k10 := H2.ld8) (k11 := H2.bl.ln) (k12 := d1) (k13 := d2) (k14 := d3) (k15 := c4), H4⟩
   ·exact ⟨h4, r25_4_11 (k0 := k0) (k1 := l9) (k2 := ntF hb) (k3 := c1) (k4 := H1.ld7) (k5 := k5) (k6 := c2) (k7 := H2.ld9) (k8 := ntF hz') (k9 := H2.ld8) (k10 := H2.ld8) (k11 := H2.bl.ln) (k12 := d1) (k13 := d2) (k14 := d3) (k15 := c4), H4⟩
 ·have he : ρ.end1 re fr = ρ.want re := by unfold RS.end1; rw [if_neg hr]
  rw [he] at IE ⊢
  have k5 := ntF (a := Int.ofNat (encN (ρ.want re).row).length) (b := (fr : Int)) (by rw [e]; omega)
  by_cases hz : (ρ.want re).bad ≠ 0
  ·rw [if_pos hz]
   exact ⟨h1, r25_4_12 (k0 := k0) (k1 := l9) (k2 := ntF hb) (k3 := c1) (k4 := H1.ld7) (k5 := k5) (k6 := H1.ld9) (k7 := ntT hz), pb1, H1⟩
  ·rw [if_neg hz]
   have hz' := Decidable.not_not.1 hz
   obtain ⟨p2, a, h0, h3, d1, d2, d3, H3, ha⟩ := drop_Q (m := m) H1 IE (by omega)
   obtain ⟨h4, c4, H4⟩ := push_Q (m := m) H3 (by have := IE.rz; show (ρ.want re).row.length < _; omega) re
   rcases ha with rfl | ⟨n0, n1, rfl⟩
   ·exact ⟨h4, r25_4_13 (k0 := k0) (k1 := l9) (k2 := ntF hb) (k3 := c1) (k4 := H1.ld7) (k5 := k5) (k6 := H1.ld9) (k7 := ntF hz') (k8 := H1.ld8) (k9 := H1.ld8) (k10 := H1.bl.ln) (k11 := d1) (k12 := d2) (k13 := d3) (k14 := c4), H4⟩
   ·exact ⟨h4, r25_4_14 (k0 := k0) (k1 := l9) (k2 := ntF hb) (k3 := c1) (k4 := H1.ld7) (k5 := k5) (k6 := H1.ld9) (k7 := ntF hz') (k8 := H1.ld8) (k9 := H1.ld8) (k10 := H1.bl.ln) (k11 := d1) (k12 := d2) (k13 := d3) (k14 := c4), H4⟩
end
end Go.Proofs.YtoblgjmllmomhaaGreatDoor
namespace Go.Proofs.YtoblgjmllmomhaaGreatDoor
set_option maxRecDepth 100000
open Go Go.Proofs.Am
section
variable {m : Int} {s : Scp} {L : Nat} {h : Heap} {ρ : RS} {N R : Nat} {o a b v t : Int} {l : List Int} {ll bd el : List (List AV)} {q : Bool}
theorem ld1 (H : Q s L h ρ) : ldP h (.ptr L 1) 1 false = some (.imm (encN s.fn)) := H.ldS rfl
theorem ld6 (H : Q s L h ρ) : ldP h (.ptr L 6) 1 false = some (.int .i64 s.re) := H.ldS rfl
theorem sel_Q (H : Q s L h ρ) (I : RM N ρ) (hN : N + 1 < 2 ^ 41) : ∃ (h2 h3 : Heap), cA m 104 [vP L 0] h = some (.v (.int .i64 ρ.pop.2), h2) /\ cA m 104 [vP L 0] h2 = some (.v (.int .i64 ρ.pop.1.pop.2), h3) /\ Q s L h3 ρ.pop.1.pop.1 /\ RM N ρ.pop.1.pop.1 := by
 obtain ⟨h2, c2, H2⟩ := pop_Q (m := m) H I (by omega)
 have I2 := I.pop.1
 obtain ⟨h3, c3, H3⟩ := pop_Q (m := m) H2 I2 (by omega)
 exact ⟨h2, h3, c2, c3, H3, I2.pop.1⟩
theorem may_rng {r : OpR} (h : mayP r o a b v l = true) : 0 <= a /\ a <= 4294967295 := by
 unfold mayP numZ at h
 split at h
 ·simp only [Bool.and_eq_true, decide_eq_true_eq] at h; omega
 ·split at h
  ·simp only [Bool.and_eq_true, decide_eq_true_eq] at h; omega
  ·split at h
   ·simp only [Bool.and_eq_true, decide_eq_true_eq] at h; omega
   ·split at h
    ·simp only [Bool.and_eq_true, decide_eq_true_eq] at h; omega
    ·simp only [Bool.and_eq_true, decide_eq_true_eq] at h; omega
theorem may_tab {r : OpR} (h : mayP r 14 a b v l = true) (hk : r.kind = 3) : l ≠ [] /\ ∀ n, n ∈ l -> 0 <= n /\ n <= 4294967295 := by
 unfold mayP at h
 rw [if_neg (by omega), if_neg (by omega), if_pos rfl] at h
 simp only [Bool.and_eq_true, Bool.not_eq_true', List.all_eq_true] at h
 refine ⟨fun e => ?_, fun n hn => ?_⟩
 ·rw [e] at h
  exact absurd h.1.1 (by simp)
 ·have := h.1.2 n hn
  unfold numZ at this
  rw [Bool.and_eq_true, decide_eq_true_eq, decide_eq_true_eq] at this
  exact this
theorem nz {n : Nat} {o : Int} (h : o ≠ n) : eqZ o (Int.ofNat n) = false := eqZ_f h
theorem ld5 (H : Q s L h ρ) : ldP h (.ptr L 5) 1 false = some (.imm (encN s.lo)) := H.ldS rfl
theorem ld2 (H : Q s L h ρ) : ldP h (.ptr L 2) 1 false = some (.imm (s.gl.map Glo.enc)) := H.ldS rfl
theorem varT_36 (t : Int) (mu : Bool) (ρ : RS) : ρ.varT 36 t mu = (if mu = false then ρ.amiss 4 else ρ).want t := by cases mu <;> rfl
theorem var_Q (H : Q s L h ρ) (I : RM N ρ) (hN : N + 1 < 2 ^ 41) (ho : 32 <= o /\ o <= 36) (h0 : 0 <= a) :
  ∃ h', cA m 105 [vP L 0, .v (.agg [.int .i64 o, .int .i64 a, .int .i64 b, .int .u64 v, .int .i64 t, .imm ll, .imm bd, .imm el, .bool q])] h = some (.tup [], h') /\ Q s L h' (ρ.var s o a) := by
 have hll : Int.ofNat (encN s.lo).length = (s.lo.length : Int) := by rw [encN_len]; rfl
 have hgl : Int.ofNat (s.gl.map Glo.enc).length = (s.gl.length : Int) := by rw [List.length_map]; rfl
 have hrz := I.rz
 obtain ⟨h1, c1, H1⟩ := amiss_Q (m := m) H 5
 unfold RS.var
 by_cases hlo : o < 35
 ·rw [if_pos hlo]
  by_cases hn : (s.lo.length : Int) <= a
  ·rw [if_pos hn]
   have k1 := leZ_t (a := Int.ofNat (encN s.lo).length) (b := a) (by rw [hll]; exact hn)
   rcases (show o = 32 ∨ o = 33 ∨ o = 34 by omega) with rfl | rfl | rfl
   ·exact ⟨h1, cO (r105_o32_0 (k0 := ld5 H) (k1 := k1) (k2 := c1)), H1⟩
   ·exact ⟨h1, cO (r105_o33_0 (k0 := ld5 H) (k1 := k1) (k2 := c1)), H1⟩
   ·exact ⟨h1, cO (r105_o34_0 (k0 := ld5 H) (k1 := k1) (k2 := c1)), H1⟩
  ·rw [if_neg hn]
   have k1 := leZ_f (a := Int.ofNat (encN s.lo).length) (b := a) (by rw [hll]; omega)
   have hg : s.lo[a.toNat]? = some s.lo[a.toNat] := List.getElem?_eq_getElem (by omega)
   rw [hg]
   have hi : ixA (.imm (encN s.lo)) a 1 = some [.int .i64 s.lo[a.toNat]] := ix_mapZ (f := fun x => [AV.int .i64 x]) h0 hg rfl
   generalize s.lo[a.toNat] = w at hi ⊢
   obtain ⟨h2, c2, H2⟩ := push_Q (m := m) H (by omega) w
   obtain ⟨h3, c3, H3⟩ := want_Q (m := m) H I (by omega) w
   obtain ⟨h4, c4, H4⟩ := push_Q (m := m) H3 (by have := (I.want w).1.rz; omega) w
   rcases (show o = 32 ∨ o = 33 ∨ o = 34 by omega) with rfl | rfl | rfl
   ·exact ⟨h2, cO (r105_o32_1 (k0 := ld5 H) (k1 := k1) (k2 := ld5 H) (k3 := hi) (k4 := c2)), H2⟩
   ·exact ⟨h3, cO (r105_o33_1 (k0 := ld5 H) (k1 := k1) (k2 := ld5 H) (k3 := hi) (k4 := c3)), H3⟩
   ·exact ⟨h4, cO (r105_o34_1 (k0 := ld5 H) (k1 := k1) (k2 := ld5 H) (k3 := hi) (k4 := c3) (k5 := c4)), H4⟩
 ·rw [if_neg hlo]
  by_cases hn : (s.gl.length : Int) <= a
  ·rw [if_pos hn]
   have k1 := leZ_t (a := Int.ofNat (s.gl.map Glo.enc).length) (b := a) (by rw [hgl]; exact hn)
   rcases (show o = 35 ∨ o = 36 by omega) with rfl | rfl
   ·exact ⟨h1, cO (r105_o35_0 (k0 := ld2 H) (k1 := k1) (k2 := c1)), H1⟩
   ·exact ⟨h1, cO (r105_o36_0 (k0 := ld2 H) (k1 := k1) (k2 := c1)), H1⟩
  ·rw [if_neg hn]
   have k1 := leZ_f (a := Int.ofNat (s.gl.map Glo.enc).length) (b := a) (by rw [hgl]; omega)
   have hg : s.gl[a.toNat]? = some s.gl[a.toNat] := List.getElem?_eq_getElem (by omega)
   rw [hg]
   generalize s.gl[a.toNat] = g at hg ⊢
   obtain ⟨gt, gm, go, ga, gb, gv, gtt, gll, gbd, gel, gq, hge⟩ : ∃ (gt : Int) (gm : Bool) (go ga gb gv gtt : Int) (gll gbd gel : List (List AV)) (gq : Bool), Glo.enc g = [.int .i64 gt, .bool gm, .int .i64 go, .int .i64 ga, .int .i64 gb, .int .u64 gv, .int .i64 gtt, .imm gll, .imm gbd, .imm gel, .bool gq] /\ gt = g.t /\ gm = g.mu := by
    obtain ⟨t0, m0, i0⟩ := g
    obtain ⟨oo, aa, bb, vv, tt, lll, bbd, eel, qq⟩ := i0
    exact ⟨_, _, _, _, _, _, _, _, _, _, _, rfl, rfl, rfl⟩
   obtain ⟨hge, hgt, hgm⟩ := hge
   have hi : ixA (.imm (s.gl.map Glo.enc)) a 11 = some (Glo.enc g) := ix_mapZ (f := Glo.enc) h0 hg (by rw [hge]; rfl)
   rw [hge] at hi
   subst hgt hgm
   obtain ⟨h2, c2, H2⟩ := push_Q (m := m) H (by omega) g.t
   rcases (show o = 35 ∨ o = 36 by omega) with rfl | rfl
   ·exact ⟨h2, cO (r105_o35_1 (k0 := ld2 H) (k1 := k1) (k2 := ld2 H) (k3 := hi) (k4 := ld2 H) (k5 := hi) (k6 := c2)), H2⟩
   ·show ∃ h', _ /\ Q s L h' (ρ.varT 36 g.t g.mu)
    rw [varT_36]
    cases hmu : g.mu with
    | false =>
     rw [hmu] at hi
     rw [if_pos rfl]
     obtain ⟨h3, c3, H3⟩ := amiss_Q (m := m) H 4
     obtain ⟨h4, c4, H4⟩ := want_Q (m := m) H3 (I.amiss 4) (by omega) g.t
     exact ⟨h4, cO (r105_o36_1 (k0 := ld2 H) (k1 := k1) (k2 := ld2 H) (k3 := hi) (k4 := ld2 H) (k5 := hi) (k6 := rfl) (k7 := c3) (k8 := c4)), H4⟩
    | true =>
     rw [hmu] at hi
     rw [if_neg (by decide)]
     obtain ⟨h4, c4, H4⟩ := want_Q (m := m) H I (by omega) g.t
     exact ⟨h4, cO (r105_o36_2 (k0 := ld2 H) (k1 := k1) (k2 := ld2 H) (k3 := hi) (k4 := ld2 H) (k5 := hi) (k6 := rfl) (k7 := c4)), H4⟩
theorem one_Q {r : OpR} {x : RowQ} (hR : TyLen R s) (hq : QF o r x) (hk : r.kind ≠ 2) (hF : OpFacts o r) (hm : mayP r o a b v l = true) (H : Q s L h ρ) (I : RM N ρ) (hN : N + R + 1 < 2 ^ 41) (hl : l.length < 2 ^ 41) :
  ∃ h', cA m 58 [vP L 0, .v (.agg [.int .i64 o, .int .i64 a, .int .i64 b, .int .u64 v, .int .i64 t, .imm (encN l), .imm bd, .imm el, .bool q])] h = some (.tup [], h') /\ Q s L h' (ρ.one s r o a l) := by
 have k0 : cA m 97 [vI o] h = some (.v (.int .i64 r.kind), h) := by rw [← kind_some hq]; exact kind_Q o
 have k1 : eqZ r.kind (Int.ofNat 2) = false := eqZ_f hk
 have ho : ∀ n : Nat, o = n -> eqZ o (Int.ofNat n) = true := fun n e => eqZ_t e
 unfold RS.one
 by_cases e0 : o = 0
 ·rw [if_pos e0]
  obtain ⟨h1, c1, H1⟩ := stop_Q (m := m) H I (by omega)
  exact ⟨h1, cO (r58_1 (k0 := k0) (k1 := k1) (k2 := ho 0 e0) (k3 := c1)), H1⟩
 ·rw [if_neg e0]
  have n0 : eqZ o (Int.ofNat 0) = false := nz e0
  by_cases e12 : o = 12 ∨ o = 13
  ·rw [if_pos e12]
   have ha62 : a < 2 ^ 62 := by have := (may_rng hm).2; omega
   unfold RS.jump
   rcases label_Q (m := m) H I (by omega) ha62 with ⟨hn, h1, c1, H1⟩ | ⟨w, hw, c1⟩
   ·rw [hn]
    by_cases e : o = 12
    ·exact ⟨h1, cO (r58_2 (k0 := k0) (k1 := k1) (k2 := n0) (k3 := ho 12 e) (k4 := c1) (k5 := rfl)), H1⟩
    ·have e' : o = 13 := by omega
     exact ⟨h1, cO (r58_5 (k0 := k0) (k1 := k1) (k2 := n0) (k3 := nz e) (k4 := ho 13 e') (k5 := c1) (k6 := rfl)), H1⟩
   ·rw [hw]
    by_cases e : o = 12
    ·have e13 : ¬ o = 13 := by omega
     rw [decide_eq_false e13]
     obtain ⟨h2, c2, H2⟩ := want_Q (m := m) H I (by omega) w
     obtain ⟨h3, c3, H3⟩ := stop_Q (m := m) H2 (I.want w).1 (by omega)
     exact ⟨h3, cO (r58_4 (k0 := k0) (k1 := k1) (k2 := n0) (k3 := ho 12 e) (k4 := c1) (k5 := rfl) (k6 := nz e13) (k7 := c2) (k8 := c3)), H3⟩
    ·have e' : o = 13 := by omega
     rw [decide_eq_true e']
     obtain ⟨h2, c2, H2⟩ := want_Q (m := m) H I (by omega) 1
     have I2 := (I.want 1).1
     obtain ⟨h3, c3, H3⟩ := want_Q (m := m) H2 I2 (by omega) w
     have I3 := (I2.want w).1
     obtain ⟨h4, c4, H4⟩ := push_Q (m := m) H3 (by have := I3.rz; omega) w
     exact ⟨h4, cO (r58_6 (k0 := k0) (k1 := k1) (k2 := n0) (k3 := nz e) (k4 := ho 13 e') (k5 := c1) (k6 := rfl) (k7 := c2) (k8 := c3) (k9 := c4)), H4⟩
  ·rw [if_neg e12]
   have n12 : eqZ o (Int.ofNat 12) = false := nz (fun e => e12 (.inl e))
   have n13 : eqZ o (Int.ofNat 13) = false := nz (fun e => e12 (.inr e))
   by_cases e14 : o = 14
   ·rw [if_pos e14]
    subst e14
    have ht := may_tab hm (hq.ks.1.1 (by omega))
    obtain ⟨h1, c1, H1⟩ := table_Q (m := m) (o := 14) (a := a) (b := b) (v := v) (t := t) (bd := bd) (el := el) (q := q) H I (by omega) ht.1 hl (fun z hz => by have := (ht.2 z hz).2; omega)
    exact ⟨h1, cO (r58_8 (k0 := k0) (k1 := k1) (k2 := n0) (k3 := n12) (k4 := n13) (k5 := rfl) (k6 := c1)), H1⟩
   ·rw [if_neg e14]
    have n14 : eqZ o (Int.ofNat 14) = false := nz e14
    by_cases e15 : o = 15
    ·rw [if_pos e15]
     obtain ⟨h2, c2, H2⟩ := want_Q (m := m) H I (by omega) s.re
     obtain ⟨h3, c3, H3⟩ := stop_Q (m := m) H2 (I.want s.re).1 (by omega)
     exact ⟨h3, cO (r58_9 (k0 := k0) (k1 := k1) (k2 := n0) (k3 := n12) (k4 := n13) (k5 := n14) (k6 := ho 15 e15) (k7 := ld6 H) (k8 := c2) (k9 := c3)), H3⟩
    ·rw [if_neg e15]
     have n15 : eqZ o (Int.ofNat 15) = false := nz e15
     by_cases e16 : o = 16
     ·rw [if_pos e16]
      have hln : Int.ofNat (encN s.fn).length = (s.fn.length : Int) := by rw [encN_len]; rfl
      unfold RS.fun
      by_cases hf : (s.fn.length : Int) <= a
      ·rw [if_pos hf]
       obtain ⟨h1, c1, H1⟩ := amiss_Q (m := m) H 5
       exact ⟨h1, cO (r58_10 (k0 := k0) (k1 := k1) (k2 := n0) (k3 := n12) (k4 := n13) (k5 := n14) (k6 := n15) (k7 := ho 16 e16) (k8 := ld1 H) (k9 := leZ_t (by rw [hln]; exact hf)) (k10 := c1)), H1⟩
      ·rw [if_neg hf]
       have ha0 := (may_rng hm).1
       have hg : s.fn[a.toNat]? = some s.fn[a.toNat] := List.getElem?_eq_getElem (by omega)
       rw [hg]
       have hi : ixA (.imm (encN s.fn)) a 1 = some [.int .i64 s.fn[a.toNat]] := ix_mapZ (f := fun x => [AV.int .i64 x]) ha0 hg rfl
       generalize s.fn[a.toNat] = w at hi ⊢
       obtain ⟨h1, c1, H1⟩ := call_Q (m := m) hR H I (by omega) w false
       exact ⟨h1, cO (r58_11 (k0 := k0) (k1 := k1) (k2 := n0) (k3 := n12) (k4 := n13) (k5 := n14) (k6 := n15) (k7 := ho 16 e16) (k8 := ld1 H) (k9 := leZ_f (by rw [hln]; omega)) (k10 := ld1 H) (k11 := hi) (k12 := c1)), H1⟩
     ·rw [if_neg e16]
      have n16 : eqZ o (Int.ofNat 16) = false := nz e16
      by_cases e17 : o = 17
      ·rw [if_pos e17]
       obtain ⟨h1, c1, H1⟩ := call_Q (m := m) hR H I (by omega) a true
       exact ⟨h1, cO (r58_12 (k0 := k0) (k1 := k1) (k2 := n0) (k3 := n12) (k4 := n13) (k5 := n14) (k6 := n15) (k7 := n16) (k8 := ho 17 e17) (k9 := c1)), H1⟩
      ·rw [if_neg e17]
       have n17 : eqZ o (Int.ofNat 17) = false := nz e17
       by_cases e26 : o = 26
       ·rw [if_pos e26]
        obtain ⟨h1, c1, H1⟩ := pop_Q (m := m) H I (by omega)
        exact ⟨h1, cO (r58_13 (k0 := k0) (k1 := k1) (k2 := n0) (k3 := n12) (k4 := n13) (k5 := n14) (k6 := n15) (k7 := n16) (k8 := n17) (k9 := ho 26 e26) (k10 := c1)), H1⟩
       ·rw [if_neg e26]
        have n26 : eqZ o (Int.ofNat 26) = false := nz e26
        by_cases e27 : o = 27
        ·rw [if_pos e27]
         unfold RS.sel
         obtain ⟨h1, c1, H1⟩ := want_Q (m := m) H I (by omega) 1
         have I1 := (I.want 1).1
         generalize ρ.want 1 = ρ1 at *
         obtain ⟨h2, h3, c2, c3, H3, I3⟩ := sel_Q (m := m) H1 I1 (by omega)
         unfold RS.sel0 RS.sel1
         have k10 := ho 27 e27
         by_cases ha : 0 <= ρ1.pop.2
         ·have ta := leZ_t (a := Int.ofNat 0) ha
          by_cases hb : 0 <= ρ1.pop.1.pop.2
          ·have tb := leZ_t (a := Int.ofNat 0) hb
           rw [if_pos hb]
           by_cases hab : ρ1.pop.2 = ρ1.pop.1.pop.2
           ·rw [if_neg (fun hc => hc.2.2 hab)]
            obtain ⟨h4, c4, H4⟩ := push_Q (m := m) H3 (by have := I3.rz; omega) ρ1.pop.1.pop.2
            exact ⟨h4, cO (r58_16 (k0 := k0) (k1 := k1) (k2 := n0) (k3 := n12) (k4 := n13) (k5 := n14) (k6 := n15) (k7 := n16) (k8 := n17) (k9 := n26) (k10 := k10) (k11 := c1) (k12 := c2) (k13 := c3) (k14 := ta) (k15 := tb) (k16 := ntF hab) (k17 := c4)), H4⟩
           ·rw [if_pos ⟨ha, hb, hab⟩]
            obtain ⟨h4, c4, H4⟩ := amiss_Q (m := m) H3 4
            obtain ⟨h5, c5, H5⟩ := push_Q (m := m) H4 (by rw [amiss_row]; have := I3.rz; omega) ρ1.pop.1.pop.2
            exact ⟨h5, cO (r58_14 (k0 := k0) (k1 := k1) (k2 := n0) (k3 := n12) (k4 := n13) (k5 := n14) (k6 := n15) (k7 := n16) (k8 := n17) (k9 := n26) (k10 := k10) (k11 := c1) (k12 := c2) (k13 := c3) (k14 := ta) (k15 := tb) (k16 := ntT hab) (k17 := c4) (k18 := c5)), H5⟩
          ·have fb := leZ_f (a := Int.ofNat 0) (b := ρ1.pop.1.pop.2) (by rw [ofN]; omega)
           rw [if_neg hb, if_neg (fun (hc : 0 <= ρ1.pop.2 /\ 0 <= ρ1.pop.1.pop.2 /\ ρ1.pop.2 ≠ ρ1.pop.1.pop.2) => hb hc.2.1)]
           obtain ⟨h4, c4, H4⟩ := push_Q (m := m) H3 (by have := I3.rz; omega) ρ1.pop.2
           exact ⟨h4, cO (r58_19 (k0 := k0) (k1 := k1) (k2 := n0) (k3 := n12) (k4 := n13) (k5 := n14) (k6 := n15) (k7 := n16) (k8 := n17) (k9 := n26) (k10 := k10) (k11 := c1) (k12 := c2) (k13 := c3) (k14 := ta) (k15 := fb) (k16 := c4)), H4⟩
         ·have fa := leZ_f (a := Int.ofNat 0) (b := ρ1.pop.2) (by rw [ofN]; omega)
          have hna : ¬(0 <= ρ1.pop.2 /\ 0 <= ρ1.pop.1.pop.2 /\ ρ1.pop.2 ≠ ρ1.pop.1.pop.2) := fun hc => ha hc.1
          by_cases hb : 0 <= ρ1.pop.1.pop.2
          ·have tb := leZ_t (a := Int.ofNat 0) hb
           rw [if_pos hb, if_neg hna]
           obtain ⟨h4, c4, H4⟩ := push_Q (m := m) H3 (by have := I3.rz; omega) ρ1.pop.1.pop.2
           exact ⟨h4, cO (r58_20 (k0 := k0) (k1 := k1) (k2 := n0) (k3 := n12) (k4 := n13) (k5 := n14) (k6 := n15) (k7 := n16) (k8 := n17) (k9 := n26) (k10 := k10) (k11 := c1) (k12 := c2) (k13 := c3) (k14 := fa) (k15 := tb) (k16 := c4)), H4⟩
          ·have fb := leZ_f (a := Int.ofNat 0) (b := ρ1.pop.1.pop.2) (by rw [ofN]; omega)
           rw [if_neg hb, if_neg hna]
           obtain ⟨h4, c4, H4⟩ := push_Q (m := m) H3 (by have := I3.rz; omega) ρ1.pop.2
           exact ⟨h4, cO (r58_21 (k0 := k0) (k1 := k1) (k2 := n0) (k3 := n12) (k4 := n13) (k5 := n14) (k6 := n15) (k7 := n16) (k8 := n17) (k9 := n26) (k10 := k10) (k11 := c1) (k12 := c2) (k13 := c3) (k14 := fa) (k15 := fb) (k16 := c4)), H4⟩
        ·rw [if_neg e27]
         have n27 : eqZ o (Int.ofNat 27) = false := nz e27
         by_cases h6 : r.kind = 6
         ·rw [if_pos h6]
          obtain ⟨h1, c1, H1⟩ := var_Q (m := m) (o := o) (b := b) (v := v) (t := t) (ll := encN l) (bd := bd) (el := el) (q := q) H I (by omega) (hq.ks.2.2.2.1.2 h6) (may_rng hm).1
          exact ⟨h1, cO (r58_22 (k0 := k0) (k1 := k1) (k2 := n0) (k3 := n12) (k4 := n13) (k5 := n14) (k6 := n15) (k7 := n16) (k8 := n17) (k9 := n26) (k10 := n27) (k11 := eqZ_t h6) (k12 := c1)), H1⟩
         ·rw [if_neg h6]
          obtain ⟨h1, c1, H1⟩ := plain_Q (m := m) (b := b) (v := v) (t := t) (ll := encN l) (bd := bd) (el := el) (q := q) hq H I (by omega) hF.takes (may_rng hm).1 (may_rng hm).2
          exact ⟨h1, cO (r58_23 (k0 := k0) (k1 := k1) (k2 := n0) (k3 := n12) (k4 := n13) (k5 := n14) (k6 := n15) (k7 := n16) (k8 := n17) (k9 := n26) (k10 := n27) (k11 := eqZ_f h6) (k12 := c1)), H1⟩
end
end Go.Proofs.YtoblgjmllmomhaaGreatDoor
