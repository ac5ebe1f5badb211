/-
  States, and how they change.
-/
import Derived.Test.YtoblgjmllmomhaaGreatDoorAmCore
import Derived.Below
import Derived.Wp
import Derived.Deep.AppendSrc
import Derived.Deep.MidRow
import Derived.Laws.CopyRow
namespace Go.Proofs.Am
open Go
inductive Hd where
 | oth
 | res (c : Nat)
 | arg (k : Nat)
 | tmp (j c : Nat)
 | box (i : Nat)
 | cell (i c : Nat)
 | hbox (id : Nat)
 | hcell (id c : Nat)
 deriving DecidableEq
structure Gh where
 sl : Nat -> Nat
 own : Nat -> Hd
 nb : Nat
 bm : Nat -> Nat
def AV.one : AV -> Bool
 | .agg _ => false
 | _ => true
def bsz (w : World) (b : Nat) : Option Nat :=
 match w.heap[b]? with
 | some (.cells c _ _) => some c.size
 | _ => none
abbrev Cl (w : World) (b j : Nat) : Option Value := w.cell? ⟨b, j, none⟩
inductive Rep (w : World) (g : Gh) : AV -> Value -> Prop where
 | int (k n) : Rep w g (.int k n) (.int k n)
 | bool (b) : Rep w g (.bool b) (.bool b)
 | str (s) : Rep w g (.str s) (.string s)
 | nilI : Rep w g .nilI .nilIface
 | nilP : Rep w g .nilP (.pointer none)
 | nilF : Rep w g .nilF .nilFunc
 | nilM : Rep w g .nilM (.map none)
 | nilS : Rep w g .nilS (.slice none 0 0)
 | nilE (a : Option Addr) : Rep w g .nilE (.slice a 0 0)
 | ifc (t : TypeId) (a : AV) (v : Value) (h : Rep w g a v) : Rep w g (.ifc t a) (.iface t v)
 | ptr (id off : Nat) (h : id < g.nb) : Rep w g (.ptr id off) (.pointer (some ⟨g.bm id, off, none⟩))
 | snap (cs : List AV) (b o : Nat) (f : Nat -> Value) (hc : ∀ j c, cs[j]? = some c -> o + j < g.sl b /\ Cl w b (o + j) = some (f j) /\ c.one = true)
   (hr : ∀ j c, cs[j]? = some c -> Rep w g c (f j)) : Rep w g (.snap cs) (.pointer (some ⟨b, o, none⟩))
 | imm0 (a : Option Addr) (cap : Nat) : Rep w g (.imm []) (.slice a 0 cap)
 | imm (xs : List (List AV)) (n b o cap : Nat) (f : Nat -> Nat -> Value) (hl : xs.length <= cap) (hn : ∀ (k : Nat) (x : List AV), xs[k]? = some x -> x.length = n)
   (hc : ∀ (k : Nat) (x : List AV) (j : Nat) (c : AV), xs[k]? = some x -> x[j]? = some c -> o + k * n + j < g.sl b /\ Cl w b (o + k * n + j) = some (f k j) /\ c.one = true)
   (hr : ∀ (k : Nat) (x : List AV) (j : Nat) (c : AV), xs[k]? = some x -> x[j]? = some c -> Rep w g c (f k j)) : Rep w g (.imm xs) (.slice (some ⟨b, o, none⟩) xs.length cap)
 | arr (n id off len cap : Nat) (h : id < g.nb) (hl : len <= cap) (hs : bsz w (g.bm id) = some (off + cap * n)) : Rep w g (.arr n id off len) (.slice (some ⟨g.bm id, off, none⟩) len cap)
 | agg (cs : List AV) (vs : Array Value) (hl : vs.size = cs.length) (f : Nat -> Value) (hc : ∀ j c, cs[j]? = some c -> vs[j]? = some (f j) /\ c.one = true)
   (hr : ∀ j c, cs[j]? = some c -> Rep w g c (f j)) : Rep w g (.agg cs) (.agg vs)
 | fn (f : FuncId) (fs caps : List AV) (vs us : Array Value) (h1 : vs.size = fs.length) (h2 : us.size = caps.length) (p q : Nat -> Value)
   (hc1 : ∀ j c, fs[j]? = some c -> vs[j]? = some (p j)) (hr1 : ∀ j c, fs[j]? = some c -> Rep w g c (p j))
   (hc2 : ∀ j c, caps[j]? = some c -> us[j]? = some (q j)) (hr2 : ∀ j c, caps[j]? = some c -> Rep w g c (q j)) :
   Rep w g (.fn f fs caps) (.func (.func f) vs us)
structure Le (w : World) (g : Gh) (w' : World) (g' : Gh) : Prop where
 sl : ∀ b, g.sl b <= g'.sl b
 cell : ∀ b j, j < g.sl b -> Cl w' b j = Cl w b j
 nb : g.nb <= g'.nb
 bm : ∀ id, id < g.nb -> g'.bm id = g.bm id
 sz : ∀ b n, bsz w b = some n -> bsz w' b = some n
theorem Le.refl (w : World) (g : Gh) : Le w g w g := ⟨fun _ => Nat.le_refl _, fun _ _ _ => rfl, Nat.le_refl _, fun _ _ => rfl, fun _ _ h => h⟩
theorem Le.trans {w1 w2 w3 : World} {g1 g2 g3 : Gh} (h : Le w1 g1 w2 g2) (k : Le w2 g2 w3 g3) : Le w1 g1 w3 g3 :=
 ⟨fun b => Nat.le_trans (h.sl b) (k.sl b), fun b j hj => (k.cell b j (Nat.lt_of_lt_of_le hj (h.sl b))).trans (h.cell b j hj), Nat.le_trans h.nb k.nb,
  fun id hi => (k.bm id (Nat.lt_of_lt_of_le hi h.nb)).trans (h.bm id hi), fun b n hb => k.sz b n (h.sz b n hb)⟩
theorem Rep.mono {w w' : World} {g g' : Gh} (h : Le w g w' g') {a : AV} {v : Value} (r : Rep w g a v) : Rep w' g' a v := by
 induction r with
 | int => exact .int ..
 | bool => exact .bool ..
 | str => exact .str ..
 | nilI => exact .nilI
 | nilP => exact .nilP
 | nilF => exact .nilF
 | nilM => exact .nilM
 | nilS => exact .nilS
 | nilE => exact .nilE ..
 | ifc t a v _ ih => exact .ifc _ _ _ ih
 | ptr id off hi =>
  have := Rep.ptr (w := w') (g := g') id off (Nat.lt_of_lt_of_le hi h.nb)
  rwa [h.bm id hi] at this
 | snap cs b o f hc _ ih =>
  refine .snap cs b o f (fun j c hj => ?_) ih
  obtain ⟨h1, h2, h3⟩ := hc j c hj
  exact ⟨Nat.lt_of_lt_of_le h1 (h.sl b), (h.cell b _ h1).trans h2, h3⟩
 | imm0 => exact .imm0 ..
 | imm xs n b o cap f hl hn hc _ ih =>
  refine .imm xs n b o cap f hl hn (fun k x j c hk hj => ?_) ih
  obtain ⟨h1, h2, h3⟩ := hc k x j c hk hj
  exact ⟨Nat.lt_of_lt_of_le h1 (h.sl b), (h.cell b _ h1).trans h2, h3⟩
 | arr n id off len cap hi hl hs =>
  have := Rep.arr (w := w') (g := g') n id off len cap (Nat.lt_of_lt_of_le hi h.nb) hl (by rw [h.bm id hi]; exact h.sz _ _ hs)
  rwa [h.bm id hi] at this
 | agg cs vs hl f hc _ ih => exact .agg cs vs hl f hc ih
 | fn f fs caps vs us h1 h2 p q c1 _ c2 _ i1 i2 => exact .fn f fs caps vs us h1 h2 p q c1 i1 c2 i2
theorem Rep.oneCell {w : World} {g : Gh} {a : AV} {v : Value} (r : Rep w g a v) (h : a.one = true) : v.cells = #[v] /\ v.oneCell = true := by
 cases r <;> simp_all [AV.one, Value.cells, Value.oneCell]
inductive Own (w : World) (g : Gh) (hd : Hd) (n : Nat) : List (List AV) -> Value -> Prop where
 | emp (a : Option Addr) : Own w g hd n [] (.slice a 0 0)
 | blk (xs : List (List AV)) (b cap : Nat) (c : Array Value) (e : TypeId) (fz : Nat × Nat) (f : Nat -> Nat -> Value) (hl : xs.length <= cap) (hn : 0 < n) (hx : ∀ (k : Nat) (x : List AV), xs[k]? = some x -> x.length = n)
   (hb : w.heap[b]? = some (.cells c e fz)) (hf : fz.2 = 0 ∨ c.size <= fz.1) (hz : c.size = cap * n) (ho : g.own b = hd) (hs : g.sl b <= xs.length * n)
   (hc : ∀ (k : Nat) (x : List AV) (j : Nat) (a : AV), xs[k]? = some x -> x[j]? = some a -> c[k * n + j]? = some (f k j) /\ a.one = true)
   (hr : ∀ (k : Nat) (x : List AV) (j : Nat) (a : AV), xs[k]? = some x -> x[j]? = some a -> Rep w g a (f k j)) : Own w g hd n xs (.slice (some ⟨b, 0, none⟩) xs.length cap)
def RepC (w : World) (g : Gh) (hd : Hd) (x : LV) (v : Value) : Prop :=
 match x with
 | .un => True
 | .v a => Rep w g a v /\ a.one = true
 | .ow n xs => hd ≠ .oth /\ Own w g hd n xs v
 | _ => False
def RepV (w : World) (g : Gh) (lm : Nat -> Nat) (nl : Nat) (hd : Nat -> Hd) (x : LV) (v : Value) : Prop :=
 match x with
 | .un => True
 | .ud => v = undef
 | .v a => Rep w g a v
 | .ow n xs => hd 0 ≠ .oth /\ Own w g (hd 0) n xs v
 | .lp i off => i < nl /\ v = .pointer (some ⟨lm i, off, none⟩)
 | .tup xs => ∃ vs : Array Value, v = .tuple vs /\ vs.size = xs.length /\ ∀ (j : Nat) (a : AV), xs[j]? = some a -> ∃ u, vs[j]? = some u /\ Rep w g a u
 | .ag cs => ∃ vs : Array Value, v = .agg vs /\ vs.size = cs.length /\ ∀ (j : Nat) (x : LV), cs[j]? = some x -> ∃ u, vs[j]? = some u /\ RepC w g (hd j) x u
structure Kp (w : World) (g : Gh) (w' : World) (g' : Gh) (hd : Hd) : Prop where
 le : Le w g w' g'
 blk : ∀ b, b < w.heap.size -> g.own b = hd -> w'.heap[b]? = w.heap[b]? /\ g'.own b = hd /\ g'.sl b = g.sl b
theorem Own.mono {w w' : World} {g g' : Gh} {hd : Hd} (h : Kp w g w' g' hd) {n : Nat} {xs : List (List AV)} {v : Value} (r : Own w g hd n xs v) : Own w' g' hd n xs v := by
 cases r with
 | emp a => exact .emp a
 | blk _ b cap c e fz f hl hn hx hb hf hz ho hs hc hr =>
  obtain ⟨h1, h2, h3⟩ := h.blk b (Array.getElem?_eq_some_iff.1 hb).1 ho
  exact .blk xs b cap c e fz f hl hn hx (h1.trans hb) hf hz h2 (by omega) hc (fun k x j a hk hj => (hr k x j a hk hj).mono h.le)
theorem RepC.mono {w w' : World} {g g' : Gh} {hd : Hd} (h : Kp w g w' g' hd) {x : LV} {v : Value} (r : RepC w g hd x v) : RepC w' g' hd x v := by
 cases x <;> simp only [RepC] at r ⊢
 ·exact ⟨r.1.mono h.le, r.2⟩
 ·exact ⟨r.1, r.2.mono h⟩
theorem RepV.mono {w w' : World} {g g' : Gh} {lm : Nat -> Nat} {nl : Nat} {hd : Nat -> Hd} (h : ∀ c, Kp w g w' g' (hd c)) {x : LV} {v : Value} (r : RepV w g lm nl hd x v) : RepV w' g' lm nl hd x v := by
 cases x <;> simp only [RepV] at r ⊢ <;> try exact r
 ·exact r.mono (h 0).le
 ·exact ⟨r.1, r.2.mono (h 0)⟩
 ·obtain ⟨vs, e, hs, hr⟩ := r
  refine ⟨vs, e, hs, fun j a hj => ?_⟩
  obtain ⟨u, hu, hr⟩ := hr j a hj
  exact ⟨u, hu, hr.mono (h 0).le⟩
 ·obtain ⟨vs, e, hs, hr⟩ := r
  refine ⟨vs, e, hs, fun j a hj => ?_⟩
  obtain ⟨u, hu, hr⟩ := hr j a hj
  exact ⟨u, hu, hr.mono (h j)⟩
structure Wf (w : World) (g : Gh) : Prop where
 own : ∀ b, w.heap.size <= b -> g.own b = .oth
 sl : ∀ b, w.heap.size <= b -> g.sl b = 0
 fit : ∀ b, (g.own b ≠ .oth) -> ∃ n, bsz w b = some n /\ g.sl b <= n
def HeapOk (w : World) (g : Gh) (h : Heap) : Prop :=
 g.nb = h.bx.length /\ ∀ (id : Nat) (bx : List LV), h.bx[id]? = some bx -> bx ≠ [] ->
  g.own (g.bm id) = .hbox id /\ g.sl (g.bm id) = 0 /\ ∃ (c : Array Value) (e : TypeId), w.heap[g.bm id]? = some (.cells c e (0, 0)) /\ bx.length <= c.size /\
   ∀ (j : Nat) (x : LV), bx[j]? = some x -> ∃ u, c[j]? = some u /\ RepC w g (.hcell id j) x u
def BoxOk (w : World) (g : Gh) (lm : Nat -> Nat) (st : St) : Prop :=
 ∀ i, 0 < st.z i -> i < st.nl /\ g.own (lm i) = .box i /\ g.sl (lm i) = 0 /\ ∃ (c : Array Value) (e : TypeId), w.heap[lm i]? = some (.cells c e (0, 0)) /\ c.size = st.z i /\
   ∀ j, j < st.z i -> ∃ u, c[j]? = some u /\ RepC w g (.cell i j) (st.m i j) u
structure SR (nt : Nat) (st : St) (a : Act) (w : World) (g : Gh) (lm : Nat -> Nat) : Prop where
 wf : Wf w g
 nt : nt <= a.tmps.size
 df : a.defers = []
 tm : ∀ j, RepV w g lm st.nl (.tmp j) (st.t j) (a.tmps.getD j undef)
 bx : BoxOk w g lm st
 hp : HeapOk w g st.h
end Go.Proofs.Am
namespace Go.Proofs.Am
open Go
structure Tr (w : World) (g : Gh) (w' : World) (g' : Gh) : Prop where
 le : Le w g w' g'
 size : w.heap.size <= w'.heap.size
 oth : ∀ b, b < w.heap.size -> g.own b = .oth -> w'.heap[b]? = w.heap[b]? /\ g'.own b = .oth /\ g'.sl b = g.sl b
 os : w'.os = w.os
 tape : w'.tape = w.tape
 output : w'.output = w.output
theorem Tr.refl (w : World) (g : Gh) : Tr w g w g := ⟨Le.refl _ _, Nat.le_refl _, fun _ _ h => ⟨rfl, h, rfl⟩, rfl, rfl, rfl⟩
theorem Tr.trans {w1 w2 w3 : World} {g1 g2 g3 : Gh} (h : Tr w1 g1 w2 g2) (k : Tr w2 g2 w3 g3) : Tr w1 g1 w3 g3 :=
 ⟨h.le.trans k.le, Nat.le_trans h.size k.size, fun b hb ho => by
  obtain ⟨a1, a2, a3⟩ := h.oth b hb ho
  obtain ⟨c1, c2, c3⟩ := k.oth b (Nat.lt_of_lt_of_le hb h.size) a2
  exact ⟨c1.trans a1, c2, c3.trans a3⟩, k.os.trans h.os, k.tape.trans h.tape, k.output.trans h.output⟩
theorem Kp.refl (w : World) (g : Gh) (hd : Hd) : Kp w g w g hd := ⟨Le.refl _ _, fun _ _ h => ⟨rfl, h, rfl⟩⟩
theorem Kp.trans {w1 w2 w3 : World} {g1 g2 g3 : Gh} {hd : Hd} (h : Kp w1 g1 w2 g2 hd) (k : Kp w2 g2 w3 g3 hd) (hs : w1.heap.size <= w2.heap.size) : Kp w1 g1 w3 g3 hd :=
 ⟨h.le.trans k.le, fun b hb ho => by
  obtain ⟨a1, a2, a3⟩ := h.blk b hb ho
  obtain ⟨c1, c2, c3⟩ := k.blk b (Nat.lt_of_lt_of_le hb hs) a2
  exact ⟨c1.trans a1, c2, c3.trans a3⟩⟩
structure Qt (w : World) (g : Gh) (w' : World) (g' : Gh) : Prop extends Tr w g w' g' where
 kr : ∀ c, Kp w g w' g' (.res c)
 ka : ∀ k, Kp w g w' g' (.arg k)
theorem Qt.refl (w : World) (g : Gh) : Qt w g w g := ⟨Tr.refl w g, fun _ => Kp.refl w g _, fun _ => Kp.refl w g _⟩
theorem Qt.trans {w1 w2 w3 : World} {g1 g2 g3 : Gh} (h : Qt w1 g1 w2 g2) (k : Qt w2 g2 w3 g3) : Qt w1 g1 w3 g3 :=
 ⟨h.toTr.trans k.toTr, fun c => (h.kr c).trans (k.kr c) h.size, fun c => (h.ka c).trans (k.ka c) h.size⟩
theorem Cl_eq_of_heap {w w' : World} {b j : Nat} (h : w'.heap[b]? = w.heap[b]?) : Cl w' b j = Cl w b j := by simp only [Cl, World.cell?, h]
theorem bsz_eq_of_heap {w w' : World} {b : Nat} (h : w'.heap[b]? = w.heap[b]?) : bsz w' b = bsz w b := by simp only [bsz, h]
theorem heap_lt {w : World} {b : Nat} {o : Obj} (h : w.heap[b]? = some o) : b < w.heap.size := (Array.getElem?_eq_some_iff.1 h).1
theorem bsz_lt {w : World} {b n : Nat} (h : bsz w b = some n) : b < w.heap.size := by
 unfold bsz at h
 split at h
 ·rename_i hb; exact heap_lt hb
 ·cases h
theorem bsz_of {w : World} {b : Nat} {c : Array Value} {e : TypeId} {f : Nat × Nat} (h : w.heap[b]? = some (.cells c e f)) : bsz w b = some c.size := by simp [bsz, h]
theorem Cl_lt {w : World} {b j : Nat} {v : Value} (h : Cl w b j = some v) : b < w.heap.size := World.block_lt_of_cell? w ⟨b, j, none⟩ h
theorem Cl_of {w : World} {b j : Nat} {c : Array Value} {e : TypeId} {f : Nat × Nat} (h : w.heap[b]? = some (.cells c e f)) : Cl w b j = c[j]? := by simp [Cl, World.cell?, h]
theorem alloc_heap (w : World) (o : Obj) {b : Nat} (h : b < w.heap.size) : (w.alloc o).heap[b]? = w.heap[b]? := by
 show (w.heap.push o)[b]? = _
 rw [Array.getElem?_push, if_neg (by omega)]
theorem alloc_new (w : World) (o : Obj) : (w.alloc o).heap[w.heap.size]? = some o := by show (w.heap.push o)[w.heap.size]? = _; simp
theorem Le_of {w w' : World} {g g' : Gh} (wf : Wf w g) (hh : ∀ b, b < w.heap.size -> w'.heap[b]? = w.heap[b]?) (hs : g'.sl = g.sl) (hn : g.nb <= g'.nb) (hm : ∀ id, id < g.nb -> g'.bm id = g.bm id) : Le w g w' g' :=
 ⟨fun b => by rw [hs]; exact Nat.le_refl _, fun b j hj => by
  have hb : b < w.heap.size := by
   rcases Nat.lt_or_ge b w.heap.size with h | h
   ·exact h
   ·rw [wf.sl b h] at hj; omega
  exact Cl_eq_of_heap (hh b hb), hn, hm, fun b n hb => by rw [bsz_eq_of_heap (hh b (bsz_lt hb))]; exact hb⟩
def gNew (w : World) (g : Gh) (hd : Hd) : Gh := { g with own := upd g.own w.heap.size hd }
theorem upd_same {α : Type} (t : Nat -> α) (d : Nat) (x : α) : upd t d x d = x := by simp [upd]
theorem upd_ne {α : Type} (t : Nat -> α) {d j : Nat} (x : α) (h : j ≠ d) : upd t d x j = t j := by
 have e : Nat.beq j d = false := by
  cases hb : Nat.beq j d with
  | false => rfl
  | true => exact absurd (Nat.eq_of_beq_eq_true hb) h
 simp [upd, e]
theorem new_Le {w : World} {g : Gh} (wf : Wf w g) (o : Obj) (hd : Hd) : Le w g (w.alloc o) (gNew w g hd) :=
 Le_of wf (fun _ h => alloc_heap w o h) rfl (Nat.le_refl _) (fun _ _ => rfl)
theorem new_Kp {w : World} {g : Gh} (wf : Wf w g) (o : Obj) (hd hd' : Hd) : Kp w g (w.alloc o) (gNew w g hd) hd' :=
 ⟨new_Le wf o hd, fun b hb h => ⟨alloc_heap w o hb, by simp only [gNew]; rw [upd_ne _ _ (by omega)]; exact h, rfl⟩⟩
theorem new_Tr {w : World} {g : Gh} (wf : Wf w g) (o : Obj) (hd : Hd) : Tr w g (w.alloc o) (gNew w g hd) :=
 ⟨new_Le wf o hd, by simp, fun b hb h => ⟨alloc_heap w o hb, by simp only [gNew]; rw [upd_ne _ _ (by omega)]; exact h, rfl⟩, rfl, rfl, rfl⟩
theorem new_Wf {w : World} {g : Gh} (wf : Wf w g) (c : Array Value) (e : TypeId) (hd : Hd) (fz : Nat × Nat := (0, 0)) : Wf (w.alloc (.cells c e fz)) (gNew w g hd) := by
 refine ⟨fun b hb => ?_, fun b hb => wf.sl b (by simp at hb; omega), fun b hb => ?_⟩
 ·simp at hb
  simp only [gNew]; rw [upd_ne _ _ (by omega)]; exact wf.own b (by omega)
 ·by_cases e1 : b = w.heap.size
  ·subst e1
   exact ⟨c.size, by rw [bsz_of (alloc_new w _)], by show g.sl _ <= _; rw [wf.sl _ (Nat.le_refl _)]; omega⟩
  ·have ho : g.own b ≠ .oth := by simpa [gNew, upd_ne _ _ e1] using hb
   have hlt : b < w.heap.size := by
    rcases Nat.lt_or_ge b w.heap.size with h | h
    ·exact h
    ·exact absurd (wf.own b h) ho
   obtain ⟨n, h1, h2⟩ := wf.fit b ho
   exact ⟨n, by rw [bsz_eq_of_heap (alloc_heap w _ hlt)]; exact h1, h2⟩
theorem drew_Le (w : World) (g : Gh) : Le w g w.drew g := ⟨fun _ => Nat.le_refl _, fun _ _ _ => rfl, Nat.le_refl _, fun _ _ => rfl, fun _ _ h => h⟩
theorem drew_Kp (w : World) (g : Gh) (hd : Hd) : Kp w g w.drew g hd := ⟨drew_Le w g, fun _ _ h => ⟨rfl, h, rfl⟩⟩
theorem drew_Tr (w : World) (g : Gh) : Tr w g w.drew g := ⟨drew_Le w g, Nat.le_refl _, fun _ _ h => ⟨rfl, h, rfl⟩, rfl, rfl, rfl⟩
theorem drew_Wf {w : World} {g : Gh} (wf : Wf w g) : Wf w.drew g := ⟨wf.own, wf.sl, wf.fit⟩
def gMove (g : Gh) (b : Nat) (hd : Hd) : Gh := { g with own := upd g.own b hd }
section
variable {w : World} {g : Gh} {b : Nat} {c c' : Array Value} {e : TypeId} {f : Nat × Nat}
theorem row_heap (hb : w.heap[b]? = some (.cells c e f)) : (w.setRow b c').heap[b]? = some (.cells c' e f) := setRow_heap w b c c' e f hb
theorem row_size (w : World) (b : Nat) (c' : Array Value) : (w.setRow b c').heap.size = w.heap.size := by simp [World.setRow]
theorem row_Le (hb : w.heap[b]? = some (.cells c e f)) (hz : c'.size = c.size) (hk : ∀ j, j < g.sl b -> c'[j]? = c[j]?) (hd : Hd) : Le w g (w.setRow b c') (gMove g b hd) := by
 refine ⟨fun _ => Nat.le_refl _, fun k j hj => ?_, Nat.le_refl _, fun _ _ => rfl, fun k n hn => ?_⟩
 ·by_cases h : k = b
  ·subst h; rw [Cl_of (row_heap hb), Cl_of hb]; exact hk j hj
  ·exact Cl_eq_of_heap (setRow_other w b k c' h)
 ·by_cases h : k = b
  ·subst h; rw [bsz_of (row_heap hb)]; rw [bsz_of hb] at hn; rw [hz]; exact hn
  ·rw [bsz_eq_of_heap (setRow_other w b k c' h)]; exact hn
theorem row_Kp (hb : w.heap[b]? = some (.cells c e f)) (hz : c'.size = c.size) (hk : ∀ j, j < g.sl b -> c'[j]? = c[j]?) (hd : Hd) {hd' : Hd} (hne : hd' ≠ g.own b) : Kp w g (w.setRow b c') (gMove g b hd) hd' :=
 ⟨row_Le hb hz hk hd, fun k _ ho => by
  have h : k ≠ b := fun h => hne (by rw [← h]; exact ho.symm)
  exact ⟨setRow_other w b k c' h, by simp only [gMove]; rw [upd_ne _ _ h]; exact ho, rfl⟩⟩
theorem row_Tr (hb : w.heap[b]? = some (.cells c e f)) (hz : c'.size = c.size) (hk : ∀ j, j < g.sl b -> c'[j]? = c[j]?) (hd : Hd) (ho : g.own b ≠ .oth) : Tr w g (w.setRow b c') (gMove g b hd) :=
 ⟨row_Le hb hz hk hd, by rw [row_size]; exact Nat.le_refl _, fun k _ hk' => by
  have h : k ≠ b := fun h => ho (by rw [← h]; exact hk')
  exact ⟨setRow_other w b k c' h, by simp only [gMove]; rw [upd_ne _ _ h]; exact hk', rfl⟩, rfl, rfl, rfl⟩
theorem row_Wf (wf : Wf w g) (hb : w.heap[b]? = some (.cells c e f)) (hz : c'.size = c.size) (hd : Hd) (ho : g.own b ≠ .oth) : Wf (w.setRow b c') (gMove g b hd) := by
 have hlt := heap_lt hb
 refine ⟨fun k hk => ?_, fun k hk => wf.sl k (by rw [row_size] at hk; exact hk), fun k hk => ?_⟩
 ·rw [row_size] at hk
  simp only [gMove]; rw [upd_ne _ _ (by omega)]; exact wf.own k hk
 ·by_cases h : k = b
  ·subst h
   obtain ⟨n, h1, h2⟩ := wf.fit k ho
   rw [bsz_of hb] at h1
   exact ⟨c'.size, bsz_of (row_heap hb), by show g.sl k <= _; injection h1 with h1; omega⟩
  ·have hk' : g.own k ≠ .oth := by simpa [gMove, upd_ne _ _ h] using hk
   obtain ⟨n, h1, h2⟩ := wf.fit k hk'
   exact ⟨n, by rw [bsz_eq_of_heap (setRow_other w b k c' h)]; exact h1, h2⟩
end
def gSeal (g : Gh) (b k : Nat) : Gh := { g with sl := upd g.sl b (max (g.sl b) k) }
theorem sea_Le (w : World) (g : Gh) (b k : Nat) : Le w g w (gSeal g b k) :=
 ⟨fun j => by
  by_cases h : j = b
  ·subst h; simp only [gSeal, upd_same]; omega
  ·simp only [gSeal]; rw [upd_ne _ _ h]; exact Nat.le_refl _, fun _ _ _ => rfl, Nat.le_refl _, fun _ _ => rfl, fun _ _ h => h⟩
theorem sea_Kp (w : World) (g : Gh) (b k : Nat) {hd : Hd} (hne : hd ≠ g.own b) : Kp w g w (gSeal g b k) hd :=
 ⟨sea_Le w g b k, fun j _ ho => by
  have h : j ≠ b := fun h => hne (by rw [← h]; exact ho.symm)
  exact ⟨rfl, ho, by simp only [gSeal]; rw [upd_ne _ _ h]⟩⟩
theorem sea_Tr (w : World) (g : Gh) (b k : Nat) (ho : g.own b ≠ .oth) : Tr w g w (gSeal g b k) :=
 ⟨sea_Le w g b k, Nat.le_refl _, fun j _ hj => by
  have h : j ≠ b := fun h => ho (by rw [← h]; exact hj)
  exact ⟨rfl, hj, by simp only [gSeal]; rw [upd_ne _ _ h]⟩, rfl, rfl, rfl⟩
theorem sea_Wf {w : World} {g : Gh} (wf : Wf w g) (b k : Nat) (ho : g.own b ≠ .oth) (n : Nat) (hn : bsz w b = some n) (hk : k <= n) : Wf w (gSeal g b k) := by
 refine ⟨wf.own, fun j hj => ?_, fun j hj => ?_⟩
 ·have := bsz_lt hn
  simp only [gSeal]; rw [upd_ne _ _ (by omega)]; exact wf.sl j hj
 ·obtain ⟨m, h1, h2⟩ := wf.fit j hj
  refine ⟨m, h1, ?_⟩
  by_cases h : j = b
  ·subst h; rw [hn] at h1; injection h1 with h1; subst h1; simp only [gSeal, upd_same]; omega
  ·simp only [gSeal]; rw [upd_ne _ _ h]; exact h2
end Go.Proofs.Am
namespace Go.Proofs.Am
open Go
def gRel (g : Gh) (ρ : Hd -> Hd) : Gh := { g with own := fun b => ρ (g.own b) }
theorem rel_Le (w : World) (g : Gh) (ρ : Hd -> Hd) : Le w g w (gRel g ρ) := ⟨fun _ => Nat.le_refl _, fun _ _ _ => rfl, Nat.le_refl _, fun _ _ => rfl, fun _ _ h => h⟩
theorem rel_Kp (w : World) (g : Gh) {ρ : Hd -> Hd} {hd : Hd} (h : ρ hd = hd) : Kp w g w (gRel g ρ) hd := ⟨rel_Le w g ρ, fun b _ ho => ⟨rfl, by simp only [gRel]; rw [ho, h], rfl⟩⟩
theorem rel_Tr (w : World) (g : Gh) {ρ : Hd -> Hd} (h : ρ .oth = .oth) : Tr w g w (gRel g ρ) := ⟨rel_Le w g ρ, Nat.le_refl _, fun b _ ho => ⟨rfl, by simp only [gRel]; rw [ho, h], rfl⟩, rfl, rfl, rfl⟩
theorem rel_Wf {w : World} {g : Gh} (wf : Wf w g) {ρ : Hd -> Hd} (h : ρ .oth = .oth) : Wf w (gRel g ρ) :=
 ⟨fun b hb => by simp only [gRel]; rw [wf.own b hb, h], wf.sl, fun b hb => wf.fit b (fun e => hb (by simp only [gRel]; rw [e, h]))⟩
theorem Own.rel {w : World} {g : Gh} {hd : Hd} {n : Nat} {xs : List (List AV)} {v : Value} (r : Own w g hd n xs v) (ρ : Hd -> Hd) : Own w (gRel g ρ) (ρ hd) n xs v := by
 cases r with
 | emp a => exact .emp a
 | blk _ b cap c e fz f hl hn hx hb hf hz ho hs hc hr =>
  exact .blk xs b cap c e fz f hl hn hx hb hf hz (by simp only [gRel]; rw [ho]) hs hc (fun k x j a hk hj => (hr k x j a hk hj).mono (rel_Le w g ρ))
theorem RepC.rel {w : World} {g : Gh} {hd : Hd} {x : LV} {v : Value} (r : RepC w g hd x v) {ρ : Hd -> Hd} (h : hd ≠ .oth -> ρ hd ≠ .oth) : RepC w (gRel g ρ) (ρ hd) x v := by
 cases x <;> simp only [RepC] at r ⊢
 ·exact ⟨r.1.mono (rel_Le w g ρ), r.2⟩
 ·exact ⟨h r.1, r.2.rel ρ⟩
theorem RepV.rel {w : World} {g : Gh} {lm : Nat -> Nat} {nl : Nat} {hd : Nat -> Hd} {x : LV} {v : Value} (r : RepV w g lm nl hd x v) {ρ : Hd -> Hd} (h : ∀ c, hd c ≠ .oth -> ρ (hd c) ≠ .oth) :
  RepV w (gRel g ρ) lm nl (fun c => ρ (hd c)) x v := by
 cases x <;> simp only [RepV] at r ⊢ <;> try exact r
 ·exact r.mono (rel_Le w g ρ)
 ·exact ⟨h 0 r.1, r.2.rel ρ⟩
 ·obtain ⟨vs, e, hs, hr⟩ := r
  refine ⟨vs, e, hs, fun j a hj => ?_⟩
  obtain ⟨u, hu, hr⟩ := hr j a hj
  exact ⟨u, hu, hr.mono (rel_Le w g ρ)⟩
 ·obtain ⟨vs, e, hs, hr⟩ := r
  refine ⟨vs, e, hs, fun j a hj => ?_⟩
  obtain ⟨u, hu, hr⟩ := hr j a hj
  exact ⟨u, hu, hr.rel (h j)⟩
def LV.free : LV -> Prop
 | .ow _ _ => False
 | .ag _ => False
 | _ => True
theorem RepV.free {w : World} {g : Gh} {lm : Nat -> Nat} {nl : Nat} {hd hd' : Nat -> Hd} {x : LV} {v : Value} (hx : x.free) (r : RepV w g lm nl hd x v) : RepV w g lm nl hd' x v := by
 cases x <;> simp only [LV.free] at hx <;> first | exact r | exact hx.elim
theorem BoxOk.keep {w w' : World} {g g' : Gh} {lm : Nat -> Nat} {st : St} (h : BoxOk w g lm st) (k1 : ∀ i, Kp w g w' g' (.box i)) (k2 : ∀ i c, Kp w g w' g' (.cell i c)) : BoxOk w' g' lm st := by
 intro i hi
 obtain ⟨h1, h2, h3, c, e, h4, h5, h6⟩ := h i hi
 obtain ⟨a1, a2, a3⟩ := (k1 i).blk _ (heap_lt h4) h2
 exact ⟨h1, a2, a3.trans h3, c, e, a1.trans h4, h5, fun j hj => by
  obtain ⟨u, hu, hr⟩ := h6 j hj
  exact ⟨u, hu, hr.mono (k2 i j)⟩⟩
theorem HeapOk.keep {w w' : World} {g g' : Gh} {h : Heap} (hh : HeapOk w g h) (hn : g'.nb = g.nb) (k1 : ∀ i, Kp w g w' g' (.hbox i)) (k2 : ∀ i c, Kp w g w' g' (.hcell i c)) : HeapOk w' g' h := by
 refine ⟨hn.trans hh.1, fun id bx hid hne => ?_⟩
 obtain ⟨h2, h3, c, e, h4, h5, h6⟩ := hh.2 id bx hid hne
 have hlt : id < g.nb := by rw [hh.1]; exact (List.getElem?_eq_some_iff.1 hid).1
 have hbm : g'.bm id = g.bm id := (k1 id).le.bm id hlt
 obtain ⟨a1, a2, a3⟩ := (k1 id).blk _ (heap_lt h4) h2
 rw [hbm]
 exact ⟨a2, a3.trans h3, c, e, a1.trans h4, h5, fun j x hj => by
  obtain ⟨u, hu, hr⟩ := h6 j x hj
  exact ⟨u, hu, hr.mono (k2 id j)⟩⟩
theorem SR.tmpA {nt : Nat} {st : St} {a : Act} {w w' : World} {g g' : Gh} {lm : Nat -> Nat} (h : SR nt st a w g lm) (wf : Wf w' g') (hn : g'.nb = g.nb) (j : Nat)
  (hk : ∀ hd, hd ≠ .oth -> (∀ c, hd ≠ .tmp j c) -> Kp w g w' g' hd) (x : LV) (hx : RepV w' g' lm st.nl (.tmp j) x (a.tmps.getD j undef)) : SR nt { st with t := upd st.t j x } a w' g' lm := by
 refine ⟨wf, h.nt, h.df, fun i => ?_, h.bx.keep (fun i => hk _ (by simp) (by simp)) (fun i c => hk _ (by simp) (by simp)), h.hp.keep hn (fun i => hk _ (by simp) (by simp)) (fun i c => hk _ (by simp) (by simp))⟩
 by_cases e : i = j
 ·subst e; simp only [upd_same]; exact hx
 ·simp only [upd_ne _ _ e]
  exact (h.tm i).mono (fun c => hk _ (by simp) (fun c' => by simp [e]))
theorem SR.keep {nt : Nat} {st : St} {a : Act} {w w' : World} {g g' : Gh} {lm : Nat -> Nat} (h : SR nt st a w g lm) (wf : Wf w' g') (hn : g'.nb = g.nb)
  (hk : ∀ hd, hd ≠ .oth -> (∀ c, hd ≠ .res c) -> (∀ c, hd ≠ .arg c) -> Kp w g w' g' hd) : SR nt st a w' g' lm :=
 ⟨wf, h.nt, h.df, fun i => (h.tm i).mono (fun c => hk _ (by simp) (by simp) (by simp)), h.bx.keep (fun i => hk _ (by simp) (by simp) (by simp)) (fun i c => hk _ (by simp) (by simp) (by simp)),
  h.hp.keep hn (fun i => hk _ (by simp) (by simp) (by simp)) (fun i c => hk _ (by simp) (by simp) (by simp))⟩
theorem SR.drop {nt : Nat} {st : St} {a : Act} {w : World} {g : Gh} {lm : Nat -> Nat} (h : SR nt st a w g lm) (j : Nat) : SR nt { st with t := upd st.t j .un } a w g lm :=
 h.tmpA h.wf rfl j (fun hd _ _ => Kp.refl w g hd) .un trivial
theorem getD_setIfInBounds_same {a : Array Value} {d : Nat} (h : d < a.size) (v u : Value) : (a.setIfInBounds d v).getD d u = v := by
 simp [Array.getD, h]
theorem getD_setIfInBounds_ne {a : Array Value} {d i : Nat} (h : i ≠ d) (v u : Value) : (a.setIfInBounds d v).getD i u = a.getD i u := by
 simp only [Array.getD_eq_getD_getElem?, Array.getElem?_setIfInBounds_ne (Ne.symm h)]
def toTmp (d : Nat) : Hd -> Hd
 | .res c => .tmp d c
 | h => h
theorem SR.put {nt : Nat} {st : St} {a : Act} {w : World} {g : Gh} {lm : Nat -> Nat} (h : SR nt st a w g lm) {d : Nat} (hd : d < nt) {x : LV} {v : Value} (hx : RepV w g lm st.nl .res x v) :
  SR nt (st.put (some d) x) (a.put (some d) v) w (gRel g (toTmp d)) lm := by
 have hs : d < a.tmps.size := Nat.lt_of_lt_of_le hd h.nt
 have k : ∀ hd, (∀ c, hd ≠ .res c) -> Kp w g w (gRel g (toTmp d)) hd := fun hd hne => rel_Kp w g (by cases hd <;> simp_all [toTmp])
 refine ⟨rel_Wf h.wf rfl, by simpa [Act.put] using h.nt, h.df, fun i => ?_, h.bx.keep (fun i => k _ (by simp)) (fun i c => k _ (by simp)), h.hp.keep rfl (fun i => k _ (by simp)) (fun i c => k _ (by simp))⟩
 by_cases e : i = d
 ·subst e
  simp only [St.put, Act.put, upd_same, getD_setIfInBounds_same hs]
  exact hx.rel (ρ := toTmp i) (fun c _ => by simp [toTmp])
 ·simp only [St.put, Act.put, upd_ne _ _ e, getD_setIfInBounds_ne e]
  exact (h.tm i).mono (fun c => k _ (by simp))
def fromTmp (j : Nat) : Hd -> Hd
 | .tmp i c => if i = j then .res c else .tmp i c
 | h => h
theorem SR.take {nt : Nat} {st : St} {a : Act} {w : World} {g : Gh} {lm : Nat -> Nat} (h : SR nt st a w g lm) (j : Nat) :
  SR nt { st with t := upd st.t j .un } a w (gRel g (fromTmp j)) lm /\ RepV w (gRel g (fromTmp j)) lm st.nl .res (st.t j) (a.tmps.getD j undef) := by
 constructor
 ·refine h.tmpA (rel_Wf h.wf rfl) rfl j (fun hd _ hne => rel_Kp w g ?_) .un trivial
  cases hd <;> simp_all [fromTmp]
 ·have := (h.tm j).rel (ρ := fromTmp j) (fun c _ => by simp [fromTmp])
  simpa [fromTmp] using this
end Go.Proofs.Am
