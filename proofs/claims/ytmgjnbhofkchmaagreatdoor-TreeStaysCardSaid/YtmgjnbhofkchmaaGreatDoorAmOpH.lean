/-
  Made slices, conversions, local and heap boxes.
-/
import Derived.Test.YtmgjnbhofkchmaaGreatDoorAmOpG
import Derived.Laws.BytesString
import Derived.Laws.Strings

namespace Go.Proofs.Am
open Go

variable {R : Type} {P : Program} {nt : Nat} {o : Oper} {st : St} {a : Act} {w : World} {g : Gh} {lm : Nat → Nat} {K : LV → St → Option R} {r : R}

theorem room_spec {len bytes : Nat} (h : room len bytes = true) : len * bytes ≤ 140737488355328 ∧ 0 < bytes := by
  unfold room at h
  simp only [Bool.and_eq_true] at h
  exact ⟨Nat.le_of_ble_eq_true h.1, Nat.le_of_ble_eq_true h.2⟩
theorem room_len {len bytes : Nat} (h : room len bytes = true) : len ≤ 140737488355328 := by
  obtain ⟨h1, h2⟩ := room_spec h
  exact Nat.le_trans (Nat.le_mul_of_pos_right len h2) h1

theorem good_makeSlice {t : TypeId} {l c : Operand} (ho : o.op = .makeSlice t l c) (hs : SR nt st a w g lm)
    (h : ((elemTy P t).bind fun e => (P.info? e).bind fun ti => (tyz P e).bind fun z => (zeroC P e).bind fun zc =>
      (st.rv l).bind fun p => (st.rv c).bind fun q => p.toI.bind fun n => q.toI.bind fun m =>
      bif Nat.beq zc.length z.1 && Nat.blt 0 z.1 && decide (n = m) && decide (0 ≤ n) && room n.toNat ti.bytes then K (.ow z.1 (List.replicate n.toNat zc)) st else none) = some r) : Good P nt o a w g K r := by
  simp only [Option.bind_eq_some_iff] at h
  obtain ⟨e, he, i, hi, z, hz, zc, hzc, p, hp, q, hq, n, hn, m, hm, h⟩ := h
  have hu := elemTy_spec he
  obtain ⟨i0, d, hi0, hsz, _, _⟩ := tyz_spec hz
  rw [hi] at hi0
  simp only [Option.some.injEq] at hi0
  subst hi0
  obtain ⟨i', zv, hi', hzv, hzl, _⟩ := zeroC_spec hzc
  rw [hi] at hi'
  simp only [Option.some.injEq] at hi'
  subst hi'
  obtain ⟨g1, s1, t1, r1⟩ := rv_ok hs hp
  obtain ⟨g2, s2, t2, r2⟩ := rv_ok s1 hq
  obtain ⟨k1, e1⟩ := toI_rep r1 hn
  obtain ⟨k2, e2⟩ := toI_rep r2 hm
  by_cases hc : (Nat.beq zc.length z.1 && Nat.blt 0 z.1 && decide (n = m) && decide (0 ≤ n) && room n.toNat i.bytes) = true
  · rw [hc, cond_true] at h
    simp only [Bool.and_eq_true, decide_eq_true_eq] at hc
    obtain ⟨⟨⟨⟨c1, c2⟩, rfl⟩, c4⟩, c5⟩ := hc
    have c1 := Nat.eq_of_beq_eq_true c1
    have c2 : 0 < z.1 := Nat.le_of_ble_eq_true c2
    obtain ⟨c6, c7⟩ := room_spec c5
    have c8 := room_len c5
    have hE := zeros_elems (w := w) (g := g2) hzc hi hzv c1 n.toNat
    obtain ⟨s3, t3, r3⟩ := s2.new_ow (madeCells zv.cells (n.toNat * z.1)) e (0, 0) (.inl rfl) z.1 n.toNat c2 (size_madeCells _ _) (List.replicate n.toNat zc) (by simp) hE.1 hE.2
    refine Good.pre (t1.trans t2) ⟨_, st, h, OpOk.value (v := .slice (some ⟨w.heap.size, 0, none⟩) n.toNat n.toNat) (w' := w.alloc (.cells (madeCells zv.cells (n.toNat * z.1)) e)) ?_ s3 t3 (by simpa using r3)⟩
    simp only [execOp, ho, e1, e2]
    refine run_pureV ?_
    have hb : (i.bytes : Int) * n ≤ 281474976710656 := by
      have e : n = (n.toNat : Int) := by omega
      have : ((n.toNat * i.bytes : Nat) : Int) ≤ 140737488355328 := by omega
      rw [Nat.mul_comm, Int.natCast_mul] at this
      rw [← e] at this; omega
    have := run_make (P := P) w t e i zv hu hi hzv k1 k2 n n c4 (Int.le_refl _) hb (by omega)
    rw [hsz] at this
    exact this
  · rw [Bool.eq_false_iff.2 hc] at h; cases h

/-! ### Conversions -/
theorem freeze_last (w : World) (c : Array Value) (e : TypeId) : (w.alloc (.cells c e)).freeze { block := w.heap.size, off := c.size } 1 = w.alloc (.cells c e (c.size, c.size + 1)) := by
  unfold World.freeze
  rw [if_neg (by omega)]
  show ({ w with heap := (w.heap.push (.cells c e)).modify w.heap.size _ } : World) = { w with heap := w.heap.push _ }
  congr 1
  apply Array.ext_getElem?
  intro k
  rw [Array.getElem?_modify, Array.getElem?_push, Array.getElem?_push]
  by_cases hk : w.heap.size = k
  · subst hk; simp
  · rw [if_neg hk, if_neg (by omega), if_neg (by omega)]

theorem byteL_elems (s : ByteArray) (rest : Array Value) : Elems w g 1 (byteL s) (s.data.map (fun b => Value.int .u8 b.toNat) ++ rest) := by
  have hget : ∀ (k : Nat) (x : List AV), (byteL s)[k]? = some x → ∃ b, s.data[k]? = some b ∧ x = [.int .u8 b.toNat] := by
    intro k x hk
    unfold byteL at hk
    rw [List.getElem?_map, Array.getElem?_toList] at hk
    cases hb : s.data[k]? with
    | none => rw [hb] at hk; cases hk
    | some b => rw [hb] at hk; simp only [Option.map_some, Option.some.injEq] at hk; exact ⟨b, rfl, hk.symm⟩
  refine ⟨fun k x hk => ?_, fun k x j y hk hj => ?_⟩
  · obtain ⟨b, _, rfl⟩ := hget k x hk; rfl
  · obtain ⟨b, hb, rfl⟩ := hget k x hk
    cases j with
    | succ j => simp at hj
    | zero =>
      simp only [List.getElem?_cons_zero, Option.some.injEq] at hj
      subst hj
      have hlt : k < s.data.size := (Array.getElem?_eq_some_iff.1 hb).1
      refine ⟨.int .u8 b.toNat, ?_, .int _ _, rfl⟩
      rw [Nat.mul_one, Nat.add_zero, Array.getElem?_append_left (by simpa using hlt)]
      simp [hb]

theorem byteL_len (s : ByteArray) : (byteL s).length = s.size := by simp [byteL]

theorem bytesOf_spec : ∀ (xs : List (List AV)) (l : List UInt8), bytesOf xs = some l → ∃ ns : List Int, xs = ns.map (fun n => [AV.int .u8 n]) ∧ ∀ (s : ByteArray), ns.foldl (fun r n => r.push (UInt8.ofNat n.toNat)) s = ⟨s.data ++ l.toArray⟩
  | [], l, h => by
    simp only [bytesOf, Option.some.injEq] at h
    subst h
    exact ⟨[], rfl, fun s => by simp⟩
  | x :: xs, l, h => by
    unfold bytesOf at h
    split at h
    · rename_i heq; cases heq
    · rename_i n xs' heq
      simp only [List.cons.injEq] at heq
      obtain ⟨rfl, rfl⟩ := heq
      by_cases hc : (decide (0 ≤ n) && decide (n < 256)) = true
      · rw [hc, cond_true] at h
        simp only [Option.bind_eq_some_iff, Option.some.injEq] at h
        obtain ⟨r, hr, rfl⟩ := h
        obtain ⟨ns, rfl, hf⟩ := bytesOf_spec _ r hr
        refine ⟨n :: ns, rfl, fun s => ?_⟩
        rw [List.foldl_cons, hf]
        congr 1
        apply Array.ext'
        simp [ByteArray.push]
      · rw [Bool.eq_false_iff.2 hc] at h; cases h
    · cases h

theorem good_convert {s d : TypeId} {x : Operand} (ho : o.op = .convert s d x) (hs : SR nt st a w g lm)
    (h : ((st.rv x).bind fun p => (cvA P s d p).bind fun c => K c st) = some r) : Good P nt o a w g K r := by
  simp only [Option.bind_eq_some_iff] at h
  obtain ⟨p, hp, c, hc, h⟩ := h
  obtain ⟨g1, s1, t1, r1⟩ := rv_ok hs hp
  refine Good.pre t1 ?_
  have he : (execOp a.eval o) = (do pure (Next.value (← Go.convert s d (a.eval x))) : Sem Next) := by simp only [execOp, ho]
  unfold cvA at hc
  simp only [Option.bind_eq_some_iff] at hc
  obtain ⟨ds, hds, dd, hdd, hc⟩ := hc
  generalize hv : a.eval x = v at r1
  rw [hv] at he
  cases p with
  | int k' n =>
    cases r1
    cases dd with
    | int k =>
      have hc' : some (LV.v (.int k (k.wrap n))) = some c := by cases ds <;> exact hc
      simp only [Option.some.injEq] at hc'
      subst hc'
      refine Good.pure s1 h (v := .int k (k.wrap n)) ?_ (.int _ _)
      rw [he]
      refine run_pureV ?_
      simp [Go.convert, run_underlying hds, run_underlying hdd, Conv.intToInt]
    | _ => cases ds <;> cases hc
  | str b =>
    cases r1
    cases dd with
    | string =>
      cases ds with
      | string =>
        simp only [Option.some.injEq] at hc
        subst hc
        refine Good.pure s1 h (v := .string b) ?_ (.str _)
        rw [he]
        refine run_pureV ?_
        simp [Go.convert, run_underlying hds, run_underlying hdd]
      | _ => cases hc
    | slice e =>
      have hc' : (match P.underlying e with
        | some (.int .u8) => some (LV.ow 1 (byteL b))
        | _ => none) = some c := by cases ds <;> exact hc
      clear hc
      have hue : P.underlying e = some (.int .u8) ∧ LV.ow 1 (byteL b) = c := by
        split at hc'
        · rename_i hue; simp only [Option.some.injEq] at hc'; exact ⟨hue, hc'⟩
        · cases hc'
      obtain ⟨hue, rfl⟩ := hue
      let cap := (Question.appendCap b.size 0 e).cut (w.tape w.drawn (Question.appendCap b.size 0 e))
      have hcap : b.size ≤ cap := by simp only [cap, Question.cut]; omega
      let cs : Array Value := b.data.map (fun x => Value.int .u8 x.toNat) ++ Array.replicate (cap - b.size) (.int .u8 0)
      have hcs : cs.size = cap * 1 := by
        have : b.data.size = b.size := rfl
        simp only [cs, Array.size_append, Array.size_map, Array.size_replicate, this]; omega
      have hE := byteL_elems (w := w.drew) (g := g1) b (Array.replicate (cap - b.size) (.int .u8 0))
      obtain ⟨s2, t2, r2⟩ := s1.drew.new_ow cs e (cs.size, cs.size + 1) (.inr (Nat.le_refl _)) 1 cap (by omega) hcs (byteL b) (by rw [byteL_len]; exact hcap) hE.1 hE.2
      rw [byteL_len] at r2
      refine ⟨_, st, h, OpOk.value (v := .slice (some ⟨w.heap.size, 0, none⟩) b.size cap) (w' := w.drew.alloc (.cells cs e (cs.size, cs.size + 1))) ?_ s2 ((drew_Tr w g1).trans t2) r2⟩
      rw [he]
      refine run_pureV ?_
      have hfr := freeze_last w.drew cs e
      rw [World.size_drew] at hfr
      have hsh : (w.drew.alloc (.cells cs e)).shape? w.heap.size = some (e, cs.size) := by
        have := alloc_new w.drew (.cells cs e)
        rw [World.size_drew] at this
        simp only [World.shape?, this]
      simp only [Go.convert, Sem.run_bind, run_underlying hds, run_underlying hdd, Result.andThen_ok]
      have hconv : (Conv.stringToBytes e b).run P w = .ok (.slice (some ⟨w.heap.size, 0, none⟩) b.size cap) (w.drew.alloc (.cells cs e (cs.size, cs.size + 1))) := by
        simp [Conv.stringToBytes, markStringish, newRow, Question.forced]
        simp only [cs, cap] at hsh hfr
        rw [hsh]
        show ((Sem.run P (freeze _ 1) _).andThen _) = _
        simp only [freeze, Sem.run, Result.andThen_ok]
        rw [hfr]
      cases ds <;> simp [run_underlying hue, hconv]
    | _ => cases ds <;> cases hc
  | imm xs =>
    cases ds with
    | slice e =>
      cases dd with
      | string =>
        have hue : P.underlying e = some (.int .u8) ∧ ((bytesOf xs).bind fun r => some (LV.v (.str ⟨r.toArray⟩))) = some c := by
          simp only at hc
          split at hc
          · rename_i hue; exact ⟨hue, hc⟩
          · cases hc
        obtain ⟨hue, hc⟩ := hue
        simp only [Option.bind_eq_some_iff, Option.some.injEq] at hc
        obtain ⟨l, hl, rfl⟩ := hc
        obtain ⟨ns, hxs, hf⟩ := bytesOf_spec _ l hl
        have hfold := hf ByteArray.empty
        have hemp : ByteArray.empty.data = #[] := rfl
        refine Good.pure s1 h (v := .string ⟨l.toArray⟩) ?_ (.str _)
        rw [he]
        refine run_pureV ?_
        have hvs : ∃ ad len cap, v = .slice ad len cap := by cases r1 <;> exact ⟨_, _, _, rfl⟩
        obtain ⟨ad, len, cap, rfl⟩ := hvs
        rw [run_convert_bytes_string w s d e ad len cap hds hue hdd]
        have hcells : (ad = none ∧ ns = []) ∨ ∃ ad', ad = some ad' ∧ (loadCells ad' len).run P w = .ok (ns.map (Value.int .u8)).toArray w := by
          cases r1 with
          | imm0 =>
            have : ns = [] := by simpa using hxs.symm
            subst this
            cases ad with
            | none => exact .inl ⟨rfl, rfl⟩
            | some ad' => exact .inr ⟨ad', rfl, rfl⟩
          | imm _ n b off _ f hl' hn hcl hr =>
            refine .inr ⟨_, rfl, ?_⟩
            have hlen : (ns.map (Value.int .u8)).length = xs.length := by rw [hxs]; simp
            rw [← hlen]
            refine run_loadCells_list w _ _ (fun j u hj => ?_)
            rw [List.getElem?_map] at hj
            cases hnj : ns[j]? with
            | none => rw [hnj] at hj; cases hj
            | some m =>
              rw [hnj] at hj
              simp only [Option.map_some, Option.some.injEq] at hj
              subst hj
              have hx : xs[j]? = some [AV.int .u8 m] := by rw [hxs, List.getElem?_map, hnj]; rfl
              have hn1 : n = 1 := by rw [← hn j _ hx]; rfl
              subst hn1
              obtain ⟨_, h2, _⟩ := hcl j _ 0 (.int .u8 m) hx rfl
              have h3 := hr j _ 0 (.int .u8 m) hx rfl
              generalize f j 0 = u at h2 h3
              cases h3
              rw [Addr.add_mid]
              simpa using h2
        rcases hcells with ⟨rfl, rfl⟩ | ⟨ad', rfl, hld⟩
        · simp only [List.foldl_nil] at hfold
          have : (⟨l.toArray⟩ : ByteArray) = ByteArray.empty := by
            rw [hfold, hemp]; simp
          simp [Conv.bytesToString, this]
        · rw [run_bytesToString w ad' len cap ns hld, hfold, hemp]
          simp

      | _ => cases hc
    | _ => cases dd <;> cases hc
  | _ => cases ds <;> cases dd <;> cases hc

end Go.Proofs.Am
