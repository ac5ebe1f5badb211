/-
  Maps.
-/
import Derived.Test.YtacfojpdccahhaaGreatDoorAmCall
namespace Go.Proofs.Am
open Go
variable {R : Type} {cx : Cx} {nt : Nat} {o : Oper} {st : St} {a : Act} {w : World} {g : Gh} {lm : Nat → Nat} {K : LV → St → Option R} {r : R}
theorem kv1_rep {p : AV} {u v : Value} (r : Rep w g p v) (h : p.kv1 = some u) : v = u := by
 cases p <;> simp only [AV.kv1, Option.some.injEq, reduceCtorEq] at h <;> subst h <;> cases r <;> rfl
theorem kvL_get : ∀ (cs : List AV) (us : List Value), kvL cs = some us → us.length = cs.length ∧ ∀ (j : Nat) (c : AV), cs[j]? = some c → ∃ u, us[j]? = some u ∧ c.kv1 = some u
 | [], us, h => by
  simp only [kvL, Option.some.injEq] at h
  subst h
  exact ⟨rfl, fun j c hj => by simp at hj⟩
 | x :: xs, us, h => by
  simp only [kvL, Option.bind_eq_some_iff, Option.some.injEq] at h
  obtain ⟨v, hv, vs, hvs, rfl⟩ := h
  obtain ⟨h1, h2⟩ := kvL_get xs vs hvs
  refine ⟨by simp [h1], fun j c hj => ?_⟩
  cases j with
  | zero => simp only [List.getElem?_cons_zero, Option.some.injEq] at hj; subst hj; exact ⟨v, rfl, hv⟩
  | succ j => simpa using h2 j c (by simpa using hj)
theorem kv_rep {p : AV} {u v : Value} (r : Rep w g p v) (h : p.kv = some u) : v = u := by
 cases p with
 | agg cs =>
  simp only [AV.kv, Option.bind_eq_some_iff, Option.some.injEq] at h
  obtain ⟨us, hus, rfl⟩ := h
  obtain ⟨hl, hg⟩ := kvL_get cs us hus
  cases r with
  | agg _ vs hl2 f hc hr =>
   congr 1
   apply Array.ext_getElem?
   intro j
   cases hj : cs[j]? with
   | none =>
    have := List.getElem?_eq_none_iff.1 hj
    rw [Array.getElem?_eq_none (by omega), Array.getElem?_eq_none (by simp; omega)]
   | some c =>
    obtain ⟨u, hu, hk⟩ := hg j c hj
    rw [(hc j c hj).1, kv1_rep (hr j c hj) hk]
    simp [hu]
 | _ => exact kv1_rep r (by exact h)
theorem eqB_spec : ∀ (x y : List UInt8), eqB x y = true ↔ x = y
 | [], [] => by simp [eqB]
 | [], _ :: _ => by simp [eqB]
 | _ :: _, [] => by simp [eqB]
 | x :: xs, y :: ys => by
  simp only [eqB, Bool.and_eq_true, eqB_spec xs ys, List.cons.injEq]
  constructor
  ·rintro ⟨h1, h2⟩; exact ⟨UInt8.toNat_inj.1 (Nat.eq_of_beq_eq_true h1), h2⟩
  ·rintro ⟨rfl, h2⟩; exact ⟨Nat.beq_refl _, h2⟩
theorem data_ext {s t : ByteArray} : s.data = t.data ↔ s = t := by
 constructor
 ·intro h
  cases s; cases t
  simp only [ByteArray.mk.injEq]
  exact h
 ·rintro rfl; rfl
theorem keq1_spec {p q : AV} {u v : Value} (hp : p.kv1 = some u) (hq : q.kv1 = some v) : keq1 p q = true ↔ u = v := by
 cases p <;> simp only [AV.kv1, Option.some.injEq, reduceCtorEq] at hp <;> subst hp <;> cases q <;> simp only [AV.kv1, Option.some.injEq, reduceCtorEq] at hq <;> subst hq <;> simp [keq1, eqZ_eq, eqB_spec, data_ext]
theorem keqL_spec : ∀ (xs ys : List AV) (us vs : List Value), kvL xs = some us → kvL ys = some vs → (keqL xs ys = true ↔ us = vs)
 | [], [], us, vs, h, k => by
  simp only [kvL, Option.some.injEq] at h k; subst h; subst k; simp [keqL]
 | [], y :: ys, us, vs, h, k => by
  simp only [kvL, Option.bind_eq_some_iff, Option.some.injEq] at h k
  obtain ⟨_, _, _, _, rfl⟩ := k; subst h; simp [keqL]
 | x :: xs, [], us, vs, h, k => by
  simp only [kvL, Option.bind_eq_some_iff, Option.some.injEq] at h k
  obtain ⟨_, _, _, _, rfl⟩ := h; subst k; simp [keqL]
 | x :: xs, y :: ys, us, vs, h, k => by
  simp only [kvL, Option.bind_eq_some_iff, Option.some.injEq] at h k
  obtain ⟨u, hu, us', hus, rfl⟩ := h
  obtain ⟨v, hv, vs', hvs, rfl⟩ := k
  simp only [keqL, Bool.and_eq_true, keq1_spec hu hv, keqL_spec xs ys us' vs' hus hvs, List.cons.injEq]
theorem kv_one {p : AV} (h : ∀ cs, p ≠ .agg cs) : p.kv = p.kv1 := by
 cases p <;> first | rfl | exact absurd rfl (h _)
theorem kv1_no {p : AV} {u : Value} (h : p.kv1 = some u) (cs : Array Value) : u ≠ .agg cs := by
 cases p <;> simp only [AV.kv1, Option.some.injEq, reduceCtorEq] at h <;> subst h <;> simp
theorem keq_one {p q : AV} (h : (∀ cs, p ≠ .agg cs) ∨ ∀ cs, q ≠ .agg cs) : keq p q = keq1 p q := by
 unfold keq
 split
 ·rename_i xs ys
  rcases h with h | h
  ·exact absurd rfl (h xs)
  ·exact absurd rfl (h ys)
 ·rfl
theorem keq1_agg {p q : AV} {cs : List AV} (h : p = .agg cs ∨ q = .agg cs) : keq1 p q = false := by
 rcases h with rfl | rfl
 ·rfl
 ·cases p <;> rfl
theorem agg_or (p : AV) : (∃ cs, p = .agg cs) ∨ ∀ cs, p ≠ .agg cs := by
 cases p <;> first | exact .inl ⟨_, rfl⟩ | exact .inr (fun _ h => by cases h)
theorem keq_spec {p q : AV} {u v : Value} (hp : p.kv = some u) (hq : q.kv = some v) : keq p q = true ↔ u = v := by
 rcases agg_or p with ⟨xs, rfl⟩ | np
 ·simp only [AV.kv, Option.bind_eq_some_iff, Option.some.injEq] at hp
  obtain ⟨us, hus, rfl⟩ := hp
  rcases agg_or q with ⟨ys, rfl⟩ | nq
  ·simp only [AV.kv, Option.bind_eq_some_iff, Option.some.injEq] at hq
   obtain ⟨vs, hvs, rfl⟩ := hq
   simp only [keq, keqL_spec xs ys us vs hus hvs, Value.agg.injEq]
   exact ⟨fun h => by rw [h], fun h => by simpa using congrArg Array.toList h⟩
  ·rw [keq_one (.inr nq), keq1_agg (.inl rfl)]
   rw [kv_one nq] at hq
   exact ⟨fun h => (by cases h), fun h => absurd h.symm (kv1_no hq _)⟩
 ·rw [kv_one np] at hp
  rcases agg_or q with ⟨ys, rfl⟩ | nq
  ·simp only [AV.kv, Option.bind_eq_some_iff, Option.some.injEq] at hq
   obtain ⟨vs, hvs, rfl⟩ := hq
   rw [keq_one (.inl np), keq1_agg (.inr rfl)]
   exact ⟨fun h => (by cases h), fun h => absurd h (kv1_no hp _)⟩
  ·rw [kv_one nq] at hq
   rw [keq_one (.inl np)]
   exact keq1_spec hp hq
structure KL (P : Program) (kt : TypeId) (ok : Value → Prop) : Prop where
 check : ∀ (w : World) (em : Bool) (v : Value), ok v → (Instr.checkKey em 10000 kt v).run P w = .ok () w
 find : ∀ (w : World) (x : Value), ok x → ∀ es : List MapEntry, (∀ e ∈ es, ok e.key) →
  ((Instr.findKey kt x es).run P w = .ok none w ∧ ∀ e ∈ es, e.key ≠ x) ∨ ∃ j e, (Instr.findKey kt x es).run P w = .ok (some (j, e.val)) w ∧ es[j]? = some e ∧ e.key = x
 stays : ∀ (w : World) (v : Value), ok v → (Instr.keyThatStays v v).run P w = .ok v w
theorem KL.plain {P : Program} {kt : TypeId} {d : TypeDesc} (hd : P.underlying kt = some d) : KL P kt (MapKept.IsKey d) where
 check w em v h := MapKept.run_checkKey hd h em 9999
 find w x hx es he := by
  rcases MapKept.findNow_spec hx es 0 he with ⟨h1, h2⟩ | ⟨j, e0, h1, h2, h3⟩
  ·exact .inl ⟨MapKept.run_findKey hd h1, h2⟩
  ·exact .inr ⟨j, e0, by simpa using MapKept.run_findKey hd h1, h2, h3⟩
 stays w v h := MapKept.run_keyThatStays h
theorem KL.wide {P : Program} {kt : TypeId} (h : WideMaps.KeyLaw P kt) : KL P kt (fun v => ∃ l, keyOf P kt v = some l) where
 check w em _ := fun ⟨_, hl⟩ => h.check w em hl
 find w _ := fun ⟨_, hl⟩ es he => h.find w hl es he
 stays w _ := fun ⟨_, hl⟩ => h.stays w hl
theorem keyB_law (hC : CxOk cx) (kt : TypeId) : ∃ ok : Value → Prop, KL cx.P kt ok ∧ ∀ k : AV, keyB cx kt k = true → ∃ v, k.kv = some v ∧ ok v := by
 have other : (∀ k : AV, keyB cx kt k = keyW cx kt k) → ∃ ok : Value → Prop, KL cx.P kt ok ∧ ∀ k : AV, keyB cx kt k = true → ∃ v, k.kv = some v ∧ ok v := by
  intro e
  cases hw : cx.wide kt with
  | false => exact ⟨fun _ => False, ⟨fun _ _ _ h => h.elim, fun _ _ h => h.elim, fun _ _ h => h.elim⟩, fun k hk => by rw [e, keyW, hw] at hk; cases hk⟩
  | true =>
   refine ⟨_, KL.wide (hC.wd kt hw), fun k hk => ?_⟩
   rw [e, keyW, hw, Bool.true_and] at hk
   cases hv : k.kv with
   | none => rw [hv] at hk; cases hk
   | some v =>
    rw [hv] at hk
    exact ⟨v, rfl, Option.isSome_iff_exists.1 hk⟩
 cases hu : cx.P.underlying kt with
 | none => exact other fun k => by simp only [keyB, hu]
 | some d =>
  cases d
  case string =>
   refine ⟨_, KL.plain hu, fun k hk => ?_⟩
   cases k <;> simp only [keyB, hu, Bool.false_eq_true] at hk
   exact ⟨_, rfl, trivial⟩
  case bool =>
   refine ⟨_, KL.plain hu, fun k hk => ?_⟩
   cases k <;> simp only [keyB, hu, Bool.false_eq_true] at hk
   exact ⟨_, rfl, trivial⟩
  case int q =>
   refine ⟨_, KL.plain hu, fun k hk => ?_⟩
   cases k <;> simp only [keyB, hu, Bool.false_eq_true] at hk
   refine ⟨_, rfl, ?_⟩
   have hk := of_decide_eq_true hk
   exact hk
  all_goals exact other fun k => by simp only [keyB, hu]
theorem mpAt_none : ∀ {l : List (AV × AV)} {k : AV} {u : Value}, k.kv = some u → (∀ e, e ∈ l → e.1.kv.isSome = true) → mpAt l k = none → ∀ e, e ∈ l → e.1.kv ≠ some u
 | [], _, _, _, _, _, _, he => nomatch he
 | x :: l, k, u, hk, ha, h, e, he => by
  obtain ⟨v, hv⟩ := Option.isSome_iff_exists.1 (ha x (.head _))
  cases hq : keq k x.1 with
  | true => rw [mpAt, hq] at h; cases h
  | false =>
   rw [mpAt, hq, cond_false] at h
   cases he with
   | head =>
    rw [hv]
    intro e0
    simp only [Option.some.injEq] at e0
    rw [(keq_spec hk hv).2 e0.symm] at hq; cases hq
   | tail _ he => exact mpAt_none hk (fun e he => ha e (.tail _ he)) h e he
theorem mpAt_some : ∀ {l : List (AV × AV)} {k x : AV} {u : Value}, k.kv = some u → (∀ e, e ∈ l → e.1.kv.isSome = true) → mpAt l k = some x → ∃ (j : Nat) (q : AV), l[j]? = some (q, x) ∧ q.kv = some u
 | [], _, _, _, _, _, h => by cases h
 | y :: l, k, x, u, hk, ha, h => by
  obtain ⟨v, hv⟩ := Option.isSome_iff_exists.1 (ha y (.head _))
  cases hq : keq k y.1 with
  | true =>
   rw [mpAt, hq, cond_true] at h
   simp only [Option.some.injEq] at h
   subst h
   exact ⟨0, y.1, rfl, by rw [hv, (keq_spec hk hv).1 hq]⟩
  | false =>
   rw [mpAt, hq, cond_false] at h
   obtain ⟨j, q, h1, h2⟩ := mpAt_some hk (fun e he => ha e (.tail _ he)) h
   exact ⟨j + 1, q, by simpa using h1, h2⟩
theorem mpSet_push : ∀ {l : List (AV × AV)} {k x : AV} {u : Value}, k.kv = some u → (∀ e, e ∈ l → ∃ v, e.1.kv = some v ∧ v ≠ u) → mpSet l k x = l ++ [(k, x)]
 | [], _, _, _, _, _ => rfl
 | y :: l, k, x, u, hk, ha => by
  obtain ⟨v, hv, hne⟩ := ha y (.head _)
  cases hq : keq k y.1 with
  | true => exact absurd ((keq_spec hk hv).1 hq).symm hne
  | false => rw [mpSet, hq, cond_false, mpSet_push hk (fun e he => ha e (.tail _ he))]; rfl
theorem mpSet_at : ∀ {l : List (AV × AV)} {k x : AV} {u : Value} {j : Nat}, k.kv = some u → (∀ e, e ∈ l → e.1.kv.isSome = true) → (∀ i, ∀ e : AV × AV, l[i]? = some e → e.1.kv = some u → i = j) → (∃ e : AV × AV, l[j]? = some e ∧ e.1.kv = some u) → mpSet l k x = l.set j (k, x)
 | [], _, _, _, _, _, _, _, ⟨_, h, _⟩ => by simp at h
 | y :: l, k, x, u, j, hk, ha, hu, ⟨e, h1, h2⟩ => by
  obtain ⟨v, hv⟩ := Option.isSome_iff_exists.1 (ha y (.head _))
  cases hq : keq k y.1 with
  | true =>
   have := hu 0 y rfl (by rw [hv, (keq_spec hk hv).1 hq])
   subst this
   rw [mpSet, hq, cond_true]; rfl
  | false =>
   cases j with
   | zero =>
    simp only [List.getElem?_cons_zero, Option.some.injEq] at h1
    subst h1
    rw [hv] at h2
    simp only [Option.some.injEq] at h2
    rw [(keq_spec hk hv).2 h2.symm] at hq; cases hq
   | succ j =>
    rw [mpSet, hq, cond_false, mpSet_at (j := j) hk (fun e he => ha e (.tail _ he)) (fun i e hi he => by have := hu (i + 1) e (by simpa using hi) he; omega) ⟨e, by simpa using h1, h2⟩]
    rfl
theorem mpFind_mem : ∀ {mp : List (Nat × List (AV × AV))} {id : Nat} {l : List (AV × AV)}, mpFind mp id = some l → (id, l) ∈ mp
 | [], _, _, h => by cases h
 | e :: mp, id, l, h => by
  cases hq : Nat.beq e.1 id with
  | true =>
   rw [mpFind, hq, cond_true] at h
   simp only [Option.some.injEq] at h
   subst h
   rw [← Nat.eq_of_beq_eq_true hq]
   exact .head _
  | false => rw [mpFind, hq, cond_false] at h; exact .tail _ (mpFind_mem h)
theorem mpRep_mem : ∀ {mp : List (Nat × List (AV × AV))} {id : Nat} {l : List (AV × AV)} {e : Nat × List (AV × AV)}, e ∈ mpRep mp id l → e = (id, l) ∨ (e ∈ mp ∧ e.1 ≠ id)
 | [], _, _, _, h => nomatch h
 | x :: mp, id, l, e, h => by
  simp only [mpRep, List.mem_cons] at h
  rcases h with h | h
  ·cases hq : Nat.beq x.1 id with
   | true => rw [hq, cond_true] at h; exact .inl h
   | false =>
    rw [hq, cond_false] at h
    subst h
    exact .inr ⟨.head _, fun e0 => by rw [e0, Nat.beq_refl] at hq; cases hq⟩
  ·rcases mpRep_mem h with h | ⟨h1, h2⟩
   ·exact .inl h
   ·exact .inr ⟨.tail _ h1, h2⟩
def mset (w : World) (b : Nat) (o : Obj) : World := { w with heap := w.heap.setIfInBounds b o }
section
variable {b : Nat} {es es' : Array MapEntry} {cl cl' : Nat}
theorem mset_self (hb : w.heap[b]? = some (.map es cl)) : (mset w b (.map es' cl')).heap[b]? = some (.map es' cl') := (MapKept.heap_set hb).1
theorem mset_other (hb : w.heap[b]? = some (.map es cl)) {k : Nat} (h : k ≠ b) : (mset w b (.map es' cl')).heap[k]? = w.heap[k]? := (MapKept.heap_set hb).2 k h
theorem mset_Le (hb : w.heap[b]? = some (.map es cl)) : Le w g (mset w b (.map es' cl')) g := by
 refine ⟨fun _ => Nat.le_refl _, fun k j _ => ?_, Nat.le_refl _, fun _ _ => rfl, fun k n hn => ?_⟩
 ·by_cases h : k = b
  ·subst h; simp only [Cl, World.cell?, mset_self hb, hb]
  ·exact Cl_eq_of_heap (mset_other hb h)
 ·by_cases h : k = b
  ·subst h; simp only [bsz, mset_self hb]; simpa only [bsz, hb] using hn
  ·rw [bsz_eq_of_heap (mset_other hb h)]; exact hn
theorem mset_Kp (hb : w.heap[b]? = some (.map es cl)) {hd : Hd} (hne : hd ≠ g.own b) : Kp w g (mset w b (.map es' cl')) g hd :=
 ⟨mset_Le hb, fun k _ ho => ⟨mset_other hb (fun e => hne (by rw [← e]; exact ho.symm)), ho, rfl⟩⟩
theorem mset_size : (mset w b (.map es' cl')).heap.size = w.heap.size := by simp [mset]
theorem mset_Tr (hb : w.heap[b]? = some (.map es cl)) (ho : g.own b ≠ .oth) : Tr w g (mset w b (.map es' cl')) g :=
 ⟨mset_Le hb, by rw [mset_size]; exact Nat.le_refl _, fun k _ hk => ⟨mset_other hb (fun e => ho (by rw [← e]; exact hk)), hk, rfl⟩, rfl, rfl, rfl⟩
theorem mset_Wf (wf : Wf w g) (hb : w.heap[b]? = some (.map es cl)) : Wf (mset w b (.map es' cl')) g := by
 refine ⟨fun k hk => wf.own k (by rw [mset_size] at hk; exact hk), fun k hk => wf.sl k (by rw [mset_size] at hk; exact hk), fun k hk => ?_⟩
 obtain ⟨n, h1, h2⟩ := wf.fit k hk
 exact ⟨n, (mset_Le (g := g) hb).sz k n h1, h2⟩
end
theorem good_arrB {P : Program} {t : TypeId} {parts : Array (Nat × Operand)} (ho : o.op = .build t parts) (hs : SR nt st a w g lm) (h : arrB P t parts.toList st K = some r) : Good P nt o a w g K r := by
 unfold arrB at h
 simp only [Option.bind_eq_some_iff] at h
 obtain ⟨e, he, z, hz, zc, hzc, h⟩ := h
 have hu := arrTy_spec he
 obtain ⟨i, d, hi, hsz, _, _⟩ := tyz_spec hz
 obtain ⟨i', zv, hi', hzv, hzl, hzr⟩ := zeroC_spec hzc
 obtain ⟨ps, h, hl, g1, s1, t1, r1⟩ := rvp_ok _ _ _ hs h
 cases hc : (Nat.beq zc.length (e.1 * z.1) && Nat.blt 0 z.1) with
 | false => rw [hc] at h; cases h
 | true =>
 rw [hc, cond_true] at h
 simp only [Bool.and_eq_true] at hc
 have c1 := Nat.eq_of_beq_eq_true hc.1
 have c2 : 0 < z.1 := Nat.le_of_ble_eq_true hc.2
 simp only [Option.bind_eq_some_iff] at h
 obtain ⟨xs, hxs, h⟩ := h
 have hE : Elems w g1 z.1 (chunk z.1 e.1 zc) zv.cells := by
  refine ⟨fun k x hk => ?_, fun k x j y hk hj => ?_⟩
  ·obtain ⟨hk1, rfl⟩ := chunk_get z.1 e.1 zc k x hk
   have : (k + 1) * z.1 ≤ e.1 * z.1 := Nat.mul_le_mul_right _ hk1
   rw [Nat.add_mul, Nat.one_mul] at this
   simp only [List.length_take, List.length_drop]; omega
  ·obtain ⟨hk1, rfl⟩ := chunk_get z.1 e.1 zc k x hk
   rw [List.getElem?_take] at hj
   split at hj
   ·rw [List.getElem?_drop] at hj
    obtain ⟨u, hu', h1, hr⟩ := hzr _ y hj
    exact ⟨u, hu', hr w g1, h1⟩
   ·cases hj
 obtain ⟨c', hf, hz', hl', he'⟩ := blsA_ok (w := w) (g := g1) c2 ps (parts.toList.map fun (i, x) => (i, a.eval x)) (chunk z.1 e.1 zc) xs zv.cells (by simpa using hl) (by rw [chunk_len, ← c1, hzl]) hE (fun j x v hj hv => by
  rw [List.getElem?_map] at hv
  cases hp : parts.toList[j]? with
  | none => rw [hp] at hv; cases hv
  | some q =>
   rw [hp] at hv
   simp only [Option.map_some, Option.some.injEq] at hv
   subst hv
   exact r1 j x q hj hp) hxs
 refine Good.pre t1 (Good.pure s1 h (v := .agg c') ?_ ?_)
 ·simp only [execOp, ho]
  refine run_pureV ?_
  have hf2 : Instr.fill (fun i_1 => some (i_1 * i.size, i.size)) zv.cells (parts.toList.map fun x => (x.1, a.eval x.2)) = some c' := by
   rw [hsz]; exact hf
  simp [Instr.build, zeroValue, typeInfo, hi', hzv, run_underlying hu, run_sizeOf hi, hf2]
 ·have hfl : xs.flatten.length = c'.size := by rw [flat_len xs he'.1, hl', chunk_len, hz', ← hzl, c1]
  have key : ∀ (j : Nat) (c : AV), xs.flatten[j]? = some c → ∃ u, c'[j]? = some u ∧ Rep w g1 c u ∧ c.one = true := fun j c hj => by
   obtain ⟨k, x, i, h1, h2, h3⟩ := flat_get xs j c he'.1 hj
   obtain ⟨u, hu', hr, h1'⟩ := he'.2 k x i c h1 h2
   exact ⟨u, by rw [h3]; exact hu', hr, h1'⟩
  refine .agg _ c' hfl.symm (fun k => c'.getD k undef) (fun j c hj => ?_) (fun j c hj => ?_)
  ·obtain ⟨u, hu', _, h1⟩ := key j c hj
   exact ⟨by rw [hu']; simp [Array.getD_eq_getD_getElem?, hu'], h1⟩
  ·obtain ⟨u, hu', hr, _⟩ := key j c hj
   simpa [Array.getD_eq_getD_getElem?, hu'] using hr
theorem mapTy_spec {P : Program} {t : TypeId} {ke : TypeId × TypeId} (h : mapTy P t = some ke) : P.underlying t = some (.map ke.1 ke.2) := by
 unfold mapTy at h
 simp only [Option.bind_eq_some_iff] at h
 obtain ⟨d, hd, h⟩ := h
 split at h
 ·simp only [Option.some.injEq] at h; subst h; exact hd
 ·cases h
theorem avCs_get : ∀ {l : List Value} {cs : List AV}, avCs l = some cs → cs.length = l.length ∧ ∀ (j : Nat) (c : AV), cs[j]? = some c → ∃ v, l[j]? = some v ∧ avC v = some c
 | [], cs, h => by
  simp only [avCs, Option.some.injEq] at h
  subst h
  exact ⟨rfl, fun j c hj => by simp at hj⟩
 | x :: xs, cs, h => by
  simp only [avCs, Option.bind_eq_some_iff, Option.some.injEq] at h
  obtain ⟨v, hv, vs, hvs, rfl⟩ := h
  obtain ⟨h1, h2⟩ := avCs_get hvs
  refine ⟨by simp [h1], fun j c hj => ?_⟩
  cases j with
  | zero => simp only [List.getElem?_cons_zero, Option.some.injEq] at hj; subst hj; exact ⟨x, rfl, hv⟩
  | succ j => simpa using h2 j c (by simpa using hj)
theorem zeroA_spec {P : Program} {t : TypeId} {z : AV} (h : zeroA P t = some z) : ∃ v, (∀ w, (zeroValue t).run P w = .ok v w) ∧ ∀ w g, Rep w g z v := by
 unfold zeroA at h
 simp only [Option.bind_eq_some_iff] at h
 obtain ⟨i, hi, v, hv, h⟩ := h
 refine ⟨v, fun w => by simp [zeroValue, typeInfo, hi, hv], fun w g => ?_⟩
 split at h
 ·rename_i vs
  simp only [Option.bind_eq_some_iff, Option.some.injEq] at h
  obtain ⟨cs, hcs, rfl⟩ := h
  obtain ⟨h1, h2⟩ := avCs_get hcs
  refine .agg cs vs (by simpa using h1.symm) (fun k => vs.getD k undef) (fun j c hj => ?_) (fun j c hj => ?_)
  ·obtain ⟨u, hu, hc⟩ := h2 j c hj
   have hu : vs[j]? = some u := by simpa using hu
   exact ⟨by rw [hu]; simp [Array.getD_eq_getD_getElem?, hu], avC_one hc⟩
  ·obtain ⟨u, hu, hc⟩ := h2 j c hj
   have hu : vs[j]? = some u := by simpa using hu
   have : vs.getD j undef = u := by simp [Array.getD_eq_getD_getElem?, hu]
   rw [this]; exact avC_rep hc
 ·exact avC_rep h
theorem good_makeMap {t : TypeId} {q : Option Operand} (ho : o.op = .makeMap t q) (hs : SR nt st a w g lm)
  (h : (bif q.isNone then K (.v (.mp st.h.bx.length)) { st with h := newM st.h } else none) = some r) : Good cx.P nt o a w g K r := by
 cases q with
 | some _ => cases h
 | none =>
 simp only [Option.isNone_none, cond_true] at h
 have hrun : (execOp a.eval o).run cx.P w = .ok (.value (.map (some w.heap.size))) (w.alloc (.map #[] 0)) := by
  simp only [execOp, ho]
  exact run_pureV rfl
 have wf := hs.wf
 have hnb := hs.hp.1
 have L : Le w g (w.alloc (.map #[] 0)) (gHeap w g) := heap_Le wf _
 have KK := fun hd => heap_Kp wf (.map #[] 0) hd
 have hw : Wf (w.alloc (.map #[] 0)) (gHeap w g) := by
  refine ⟨fun b hb => ?_, fun b hb => wf.sl b (by simp at hb; omega), fun b hb => ?_⟩
  ·simp at hb
   simp only [gHeap]; rw [upd_ne _ _ (by omega)]; exact wf.own b (by omega)
  ·by_cases e1 : b = w.heap.size
   ·subst e1
    exact ⟨0, by unfold bsz; rw [alloc_new w], by show g.sl _ ≤ _; rw [wf.sl _ (Nat.le_refl _)]; omega⟩
   ·have ho : g.own b ≠ .oth := by simpa [gHeap, upd_ne _ _ e1] using hb
    obtain ⟨n, h1, h2⟩ := wf.fit b ho
    exact ⟨n, by rw [bsz_eq_of_heap (alloc_heap w _ (bsz_lt h1))]; exact h1, h2⟩
 have hbm : (gHeap w g).bm st.h.bx.length = w.heap.size := by simp only [gHeap]; rw [← hnb, upd_same]
 refine ⟨_, _, h, OpOk.value hrun (g' := gHeap w g) (lm' := lm) ⟨hw, hs.nt, hs.df, fun j => (hs.tm j).mono (fun c => KK _), hs.bx.keep (fun _ => KK _) (fun _ _ => KK _), ?_⟩ (heap_Tr wf _) ?_⟩
 ·refine ⟨by simp [gHeap, newM, hnb], fun e he => ?_, fun id bx hid hne => ?_⟩
  ·simp only [newM, List.mem_cons] at he
   rcases he with rfl | he
   ·refine ⟨by simp [gHeap, hnb], ?_, ?_, #[], 0, ?_, rfl, fun j e hj => by simp at hj, fun i j a b hi => by simp at hi⟩
    ·rw [hbm]; simp only [gHeap, upd_same, hnb]
    ·rw [hbm]; exact wf.sl _ (Nat.le_refl _)
    ·rw [hbm]; exact alloc_new w _
   ·exact hs.hp.2.1.keep (fun i _ => KK _) e he
  ·simp only [newM] at hid
   by_cases hlt : id < st.h.bx.length
   ·rw [List.getElem?_append_left hlt] at hid
    obtain ⟨h2, h3, c', e', h4, h5, h6⟩ := hs.hp.2.2 id bx hid hne
    have hbm : (gHeap w g).bm id = g.bm id := by simp only [gHeap]; rw [upd_ne _ _ (by omega)]
    obtain ⟨a1, a2, a3⟩ := (KK (.hbox id)).blk _ (heap_lt h4) h2
    rw [hbm]
    exact ⟨a2, a3.trans h3, c', e', a1.trans h4, h5, fun j x hj => by
     obtain ⟨u, hu, hr⟩ := h6 j x hj
     exact ⟨u, hu, hr.mono (KK _)⟩⟩
   ·rw [List.getElem?_append_right (by omega)] at hid
    have hid0 : id = st.h.bx.length := by
     have := (List.getElem?_eq_some_iff.1 hid).1
     simp at this; omega
    subst hid0
    simp only [Nat.sub_self, List.getElem?_cons_zero, Option.some.injEq] at hid
    exact absurd hid.symm hne
 ·have := Rep.mp (w := w.alloc (.map #[] 0)) (g := gHeap w g) st.h.bx.length (by simp [gHeap, hnb])
  rw [hbm] at this
  exact this
theorem keysB_get {kt : TypeId} {l : List (AV × AV)} (h : keysB cx kt l = true) {e : AV × AV} (he : e ∈ l) : keyB cx kt e.1 = true := List.all_eq_true.1 h e he
theorem find_ok (hC : CxOk cx) {kt : TypeId} {k : AV} {kv : Value} {l : List (AV × AV)} {es : Array MapEntry} (hk : keyB cx kt k = true) (hl : keysB cx kt l = true) (hr : Rep w g k kv) (hE : EntOk w g l es) :
  ∃ ok : Value → Prop, KL cx.P kt ok ∧ ok kv ∧ k.kv = some kv ∧ (∀ e, e ∈ l → e.1.kv.isSome = true) ∧
   ((mpAt l k = none ∧ (Instr.findKey kt kv es.toList).run cx.P w = .ok none w ∧ ∀ e ∈ es.toList, e.key ≠ kv) ∨
    ∃ (j : Nat) (q x : AV) (m : MapEntry), mpAt l k = some x ∧ l[j]? = some (q, x) ∧ q.kv = some kv ∧ es[j]? = some m ∧ m.key = kv ∧ Rep w g x m.val ∧ (Instr.findKey kt kv es.toList).run cx.P w = .ok (some (j, m.val)) w) := by
 obtain ⟨ok, law, hok⟩ := keyB_law hC kt
 obtain ⟨v, hv, hvo⟩ := hok k hk
 have := kv_rep hr hv
 subst this
 have hall : ∀ e, e ∈ l → e.1.kv.isSome = true := fun e he => by
  obtain ⟨u, hu, _⟩ := hok e.1 (keysB_get hl he)
  rw [hu]; rfl
 have hback : ∀ (j : Nat) (m : MapEntry), es[j]? = some m → ∃ e, l[j]? = some e ∧ e.1.kv = some m.key := fun j m hj => by
  have hlt : j < l.length := by rw [← hE.len]; exact (Array.getElem?_eq_some_iff.1 hj).1
  obtain ⟨m', h1, h2, _⟩ := hE.ent j l[j] (List.getElem?_eq_getElem hlt)
  rw [hj] at h1
  simp only [Option.some.injEq] at h1
  subst h1
  exact ⟨_, List.getElem?_eq_getElem hlt, h2⟩
 have hoke : ∀ e ∈ es.toList, ok e.key := fun e he => by
  obtain ⟨j, hj⟩ := List.mem_iff_getElem?.1 he
  obtain ⟨x, hx, hxk⟩ := hback j e (by simpa using hj)
  obtain ⟨u, hu, huo⟩ := hok x.1 (keysB_get hl (List.mem_of_getElem? hx))
  rw [hxk] at hu
  simp only [Option.some.injEq] at hu
  rw [hu]; exact huo
 refine ⟨ok, law, hvo, hv, hall, ?_⟩
 rcases law.find w kv hvo es.toList hoke with ⟨h1, h2⟩ | ⟨j, m, h1, h2, h3⟩
 ·refine .inl ⟨?_, h1, h2⟩
  cases hm : mpAt l k with
  | none => rfl
  | some x =>
   obtain ⟨j, q, hj, hq⟩ := mpAt_some hv hall hm
   obtain ⟨m, hm1, hm2, _⟩ := hE.ent j (q, x) hj
   dsimp only at hm2
   rw [hq] at hm2
   simp only [Option.some.injEq] at hm2
   exact absurd hm2.symm (h2 m (by rw [← Array.getElem?_toList] at hm1; exact List.mem_of_getElem? hm1))
 ·rw [Array.getElem?_toList] at h2
  cases hm : mpAt l k with
  | none =>
   obtain ⟨e, he, hek⟩ := hback j m h2
   exact absurd (by rw [hek, h3]) (mpAt_none hv hall hm e (List.mem_of_getElem? he))
  | some x =>
   obtain ⟨i, q, hi, hq⟩ := mpAt_some hv hall hm
   obtain ⟨m', hm1, hm2, hm3⟩ := hE.ent i (q, x) hi
   dsimp only at hm2
   rw [hq] at hm2
   simp only [Option.some.injEq] at hm2
   have := hE.nd i j m' m hm1 h2 (by rw [← hm2, h3])
   subst this
   rw [h2] at hm1
   simp only [Option.some.injEq] at hm1
   subst hm1
   exact .inr ⟨i, q, x, m, rfl, hi, hq, h2, h3, hm3, h1⟩
theorem mpOf_ok (hs : SR nt st a w g lm) {m : AV} {v : Value} {l : List (AV × AV)} (hr : Rep w g m v) (h : mpOf st.h m = some l) :
  (v = .map none ∧ l = []) ∨ ∃ b es cl, v = .map (some b) ∧ w.heap[b]? = some (.map es cl) ∧ EntOk w g l es := by
 cases m <;> simp only [mpOf, reduceCtorEq, Option.some.injEq] at h
 ·subst h; cases hr; exact .inl ⟨rfl, rfl⟩
 ·cases hr
  obtain ⟨_, _, _, es, cl, h4, h5⟩ := hs.hp.2.1 _ (mpFind_mem h)
  exact .inr ⟨_, es, cl, rfl, h4, h5⟩
theorem lkR_rep {ok : Bool} {x z : AV} {q : Option AV} {v : Value} (hx : q.getD z = x) (hr : Rep w g x v) : RepV w g lm st.nl .res (lkR ok q z) (if ok then .tuple #[v, .bool q.isSome] else v) := by
 subst hx
 cases ok with
 | false => exact hr
 | true =>
  refine ⟨_, rfl, rfl, fun j a hj => ?_⟩
  match j with
  | 0 => simp only [List.getElem?_cons_zero, Option.some.injEq] at hj; subst hj; exact ⟨v, rfl, hr⟩
  | 1 => simp only [List.getElem?_cons_succ, List.getElem?_cons_zero, Option.some.injEq] at hj; subst hj; exact ⟨_, rfl, .bool _⟩
  | j + 2 => simp at hj
theorem good_lookup (hC : CxOk cx) {t : TypeId} {x ix : Operand} {ok : Bool} (ho : o.op = .lookup t x ix ok) (hs : SR nt st a w g lm) (h : mapLk cx t x ix ok st K = some r) : Good cx.P nt o a w g K r := by
 unfold mapLk at h
 simp only [Option.bind_eq_some_iff] at h
 obtain ⟨ke, hke, z, hz, m, hm, k, hk, l, hl, h⟩ := h
 cases hb : (keyB cx ke.1 k && keysB cx ke.1 l) with
 | false => rw [hb] at h; cases h
 | true =>
 rw [hb, cond_true] at h
 simp only [Bool.and_eq_true] at hb
 have hu := mapTy_spec hke
 obtain ⟨zv, hzr, hzrep⟩ := zeroA_spec hz
 obtain ⟨g1, s1, t1, r1⟩ := rv_ok hs hm
 obtain ⟨g2, s2, t2, r2⟩ := rv_ok s1 hk
 have r1 := r1.mono t2.le
 refine Good.pre (t1.trans t2) ?_
 rcases mpOf_ok s2 r1 hl with ⟨hv, rfl⟩ | ⟨b, es, cl, hv, hbk, hE⟩
 ·have hE : EntOk w g2 [] #[] := ⟨rfl, fun j e hj => by simp at hj, fun i j a b hi => by simp at hi⟩
  obtain ⟨ok', law, hvo, hkv, _, ⟨ha, hf, _⟩ | ⟨j, q, x0, m0, _, hj, _⟩⟩ := find_ok hC hb.1 hb.2 r2 hE
  ·rw [ha] at h
   refine Good.pure s2 h (v := if ok then .tuple #[zv, .bool false] else zv) ?_ (lkR_rep (q := none) rfl (hzrep w g2))
   have : (Instr.lookup t (a.eval x) (a.eval ix) ok).run cx.P w = .ok (if ok then .tuple #[zv, .bool false] else zv) w := by
    have hf' : (Instr.findKey ke.1 (a.eval ix) []).run cx.P w = .ok none w := hf
    simp [Instr.lookup, run_underlying hu, hv, law.check w true _ hvo, hf', hzr]
   simp only [execOp, ho]
   exact run_pureV this
  ·simp at hj
 ·obtain ⟨ok', law, hvo, hkv, _, ⟨ha, hf, _⟩ | ⟨j, q, x0, m0, ha, hj, hq, hes, hmk, hrep, hf⟩⟩ := find_ok hC hb.1 hb.2 r2 hE
  ·rw [ha] at h
   refine Good.pure s2 h (v := if ok then .tuple #[zv, .bool false] else zv) ?_ (lkR_rep (q := none) rfl (hzrep w g2))
   have : (Instr.lookup t (a.eval x) (a.eval ix) ok).run cx.P w = .ok (if ok then .tuple #[zv, .bool false] else zv) w := by
    simp [Instr.lookup, run_underlying hu, hv, MapKept.run_getObj_map hbk, law.check w _ _ hvo, hf, hzr]
   simp only [execOp, ho]
   exact run_pureV this
  ·rw [ha] at h
   refine Good.pure s2 h (v := if ok then .tuple #[m0.val, .bool true] else m0.val) ?_ (lkR_rep (q := some x0) rfl hrep)
   have : (Instr.lookup t (a.eval x) (a.eval ix) ok).run cx.P w = .ok (if ok then .tuple #[m0.val, .bool true] else m0.val) w := by
    simp [Instr.lookup, run_underlying hu, hv, MapKept.run_getObj_map hbk, law.check w _ _ hvo, hf]
   simp only [execOp, ho]
   exact run_pureV this
theorem good_mapUp (hC : CxOk cx) {t : TypeId} {m k x : Operand} (ho : o.op = .mapUpdate t m k x ∨ o.op = .insert t m k x) (hs : SR nt st a w g lm) (h : mapUp cx t m k x st K = some r) : Good cx.P nt o a w g K r := by
 unfold mapUp at h
 simp only [Option.bind_eq_some_iff] at h
 obtain ⟨ke, hke, p, hp, q, hq, y, hy, h⟩ := h
 have hu := mapTy_spec hke
 obtain ⟨g1, s1, t1, r1⟩ := rv_ok hs hp
 obtain ⟨g2, s2, t2, r2⟩ := rv_ok s1 hq
 obtain ⟨g3, s3, t3, r3⟩ := rv_ok s2 hy
 replace r1 := (r1.mono t2.le).mono t3.le
 replace r2 := r2.mono t3.le
 refine Good.pre ((t1.trans t2).trans t3) ?_
 cases p <;> simp only [reduceCtorEq] at h
 rename_i id
 simp only [Option.bind_eq_some_iff] at h
 obtain ⟨l, hl, h⟩ := h
 cases hb : (keyB cx ke.1 q && keysB cx ke.1 l) with
 | false => rw [hb] at h; cases h
 | true =>
 rw [hb, cond_true] at h
 simp only [Bool.and_eq_true] at hb
 obtain ⟨h1, h2, h3, es, cl, h4, hE⟩ := s3.hp.2.1 _ (mpFind_mem hl)
 dsimp only at h1 h2 h3 h4 hE
 have hv : a.eval m = .map (some (g3.bm id)) := by generalize a.eval m = v at r1; cases r1; rfl
 have run : ∀ (es' : Array MapEntry) (cl' : Nat), (Instr.mapUpdate t (a.eval m) (a.eval k) (a.eval x)).run cx.P w = .ok () (mset w (g3.bm id) (.map es' cl')) →
   (execOp a.eval o).run cx.P w = .ok .skip (mset w (g3.bm id) (.map es' cl')) := fun es' cl' e => by
  rcases ho with ho | ho <;> (simp only [execOp, ho]; exact run_pureU e)
 have fin : ∀ (es' : Array MapEntry) (cl' : Nat), (Instr.mapUpdate t (a.eval m) (a.eval k) (a.eval x)).run cx.P w = .ok () (mset w (g3.bm id) (.map es' cl')) → EntOk w g3 (mpSet l q y) es' → Good cx.P nt o a w g3 K r := fun es' cl' e hE' => by
  have Q : ∀ hd, hd ≠ .hbox id → Kp w g3 (mset w (g3.bm id) (.map es' cl')) g3 hd := fun hd hne => mset_Kp h4 (by rw [h2]; exact hne)
  refine ⟨_, _, h, OpOk.skip (run es' cl' e) (g' := g3) (lm' := lm) ⟨mset_Wf s3.wf h4, s3.nt, s3.df, fun j => (s3.tm j).mono (fun c => Q _ (by simp)), s3.bx.keep (fun _ => Q _ (by simp)) (fun _ _ => Q _ (by simp)), s3.hp.1, fun e he => ?_, fun i bx hi hne => ?_⟩ (mset_Tr h4 (by rw [h2]; simp))⟩
  ·rcases mpRep_mem he with rfl | ⟨he, hne⟩
   ·exact ⟨h1, h2, h3, es', cl', mset_self h4, hE'.mono (mset_Le h4)⟩
   ·obtain ⟨b1, b2, b3, bs, bc, b4, b5⟩ := s3.hp.2.1 e he
    obtain ⟨c1, c2, c3⟩ := (Q (.hbox e.1) (by simpa using hne)).blk _ (heap_lt b4) b2
    exact ⟨b1, c2, c3.trans b3, bs, bc, c1.trans b4, b5.mono (mset_Le h4)⟩
  ·obtain ⟨b2, b3, c, e', b4, b5, b6⟩ := s3.hp.2.2 i bx hi hne
   have hid : i ≠ id := by
    rintro rfl
    rw [h4] at b4; cases b4
   obtain ⟨c1, c2, c3⟩ := (Q (.hbox i) (by simpa using hid)).blk _ (heap_lt b4) b2
   exact ⟨c2, c3.trans b3, c, e', c1.trans b4, b5, fun j x hj => by
    obtain ⟨u, hu, hr⟩ := b6 j x hj
    exact ⟨u, hu, hr.mono (Q _ (by simp))⟩⟩
 obtain ⟨ok', law, hvo, hkv, hall, ⟨ha, hf, hno⟩ | ⟨j, q0, x0, m0, ha, hj, hq0, hes, hmk, hrep, hf⟩⟩ := find_ok hC hb.1 hb.2 r2 hE
 ·refine fin (es.push { key := a.eval k, val := a.eval x, born := cl }) (cl + 1) ?_ ?_
  ·simp [Instr.mapUpdate, run_underlying hu, hv, MapKept.run_getObj_map h4, law.check w false _ hvo, hf, MapKept.run_setObj_map _ h4, mset]
  ·rw [mpSet_push hkv (fun e he => by
    obtain ⟨i, hi⟩ := List.mem_iff_getElem?.1 he
    obtain ⟨m, m1, m2, _⟩ := hE.ent i e hi
    exact ⟨m.key, m2, hno m (by rw [← Array.getElem?_toList] at m1; exact List.mem_of_getElem? m1)⟩)]
   refine ⟨by simp [hE.len], fun i e hi => ?_, fun i i' u v hi hi' hk => ?_⟩
   ·rw [List.getElem?_append] at hi
    split at hi
    ·rename_i hlt
     obtain ⟨m, m1, m2, m3⟩ := hE.ent i e hi
     exact ⟨m, by rw [Array.getElem?_push, if_neg (by rw [hE.len]; omega)]; exact m1, m2, m3⟩
    ·rename_i hge
     have hi0 : i = l.length := by
      have := (List.getElem?_eq_some_iff.1 hi).1
      simp at this; omega
     subst hi0
     simp only [Nat.sub_self, List.getElem?_cons_zero, Option.some.injEq] at hi
     subst hi
     exact ⟨{ key := a.eval k, val := a.eval x, born := cl }, by rw [Array.getElem?_push, if_pos hE.len.symm], hkv, r3⟩
   ·rw [Array.getElem?_push] at hi hi'
    split at hi <;> split at hi'
    ·omega
    ·simp only [Option.some.injEq] at hi
     subst hi
     exact absurd hk.symm (hno v (by rw [← Array.getElem?_toList] at hi'; exact List.mem_of_getElem? hi'))
    ·simp only [Option.some.injEq] at hi'
     subst hi'
     exact absurd hk (hno u (by rw [← Array.getElem?_toList] at hi; exact List.mem_of_getElem? hi))
    ·exact hE.nd i i' u v hi hi' hk
 ·have hmk' : (((es[j]?).map (·.key)).getD (a.eval k)) = a.eval k := by rw [hes]; exact hmk
  refine fin (es.modify j fun e => { e with key := a.eval k, val := a.eval x }) cl ?_ ?_
  ·simp [Instr.mapUpdate, run_underlying hu, hv, MapKept.run_getObj_map h4, law.check w false _ hvo, hf, hes, hmk, law.stays w _ hvo, MapKept.run_setObj_map _ h4, mset]
  ·have huniq : ∀ i, ∀ e : AV × AV, l[i]? = some e → e.1.kv = some (a.eval k) → i = j := fun i e hi he => by
    obtain ⟨m, m1, m2, _⟩ := hE.ent i e hi
    rw [he] at m2
    simp only [Option.some.injEq] at m2
    exact hE.nd i j m m0 m1 hes (by rw [← m2, hmk])
   rw [mpSet_at hkv hall huniq ⟨_, hj, hq0⟩]
   have key : ∀ (i : Nat) (u : MapEntry), (es.modify j fun e => { e with key := a.eval k, val := a.eval x })[i]? = some u → ∃ u0, es[i]? = some u0 ∧ u.key = u0.key := fun i u hi => by
    rw [Array.getElem?_modify] at hi
    split at hi
    ·rename_i e0
     subst e0
     rw [hes] at hi
     simp only [Option.map_some, Option.some.injEq] at hi
     subst hi
     exact ⟨m0, hes, hmk.symm⟩
    ·exact ⟨u, hi, rfl⟩
   refine ⟨by simp [hE.len], fun i e hi => ?_, fun i i' u v hi hi' hk => ?_⟩
   ·rw [Array.getElem?_modify]
    rw [List.getElem?_set] at hi
    split at hi
    ·rename_i e0
     subst e0
     split at hi
     ·simp only [Option.some.injEq] at hi
      subst hi
      rw [if_pos rfl, hes]
      exact ⟨_, rfl, hkv, r3⟩
     ·cases hi
    ·rename_i e0
     rw [if_neg e0]
     exact hE.ent i e hi
   ·obtain ⟨u0, h5, h6⟩ := key i u hi
    obtain ⟨v0, h7, h8⟩ := key i' v hi'
    exact hE.nd i i' u0 v0 h5 h7 (by rw [← h6, ← h8]; exact hk)
end Go.Proofs.Am
