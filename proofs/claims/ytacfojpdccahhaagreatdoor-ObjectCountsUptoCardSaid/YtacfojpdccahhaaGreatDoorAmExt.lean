/-
  Contracts of library functions, as the abstract machine's own calls.
-/
import Derived.Test.YtacfojpdccahhaaGreatDoorAmFix
import Derived.OpenShut
import Derived.Below
namespace Go.Proofs.Am
open Go
variable {P : Program} {w : World} {g : Gh}
def Full (w : World) (g : Gh) : Prop := ∀ (b o : Nat) (u : Value), Cl w b o = some u → o < g.sl b
def tile (P : Program) : Nat → List Field → Option Nat
 | o, [] => some o
 | o, f :: fs => if f.offset = o then tile P (o + P.cellsOf f.type) fs else none
def plainT (P : Program) : Nat → TypeId → Bool
 | 0, _ => false
 | n + 1, t =>
  match P.underlying t with
  | some .bool => true
  | some (.int _) => true
  | some .string => true
  | some (.pointer e) => plainT P n e && Nat.blt 0 (P.cellsOf e)
  | some (.slice e) => plainT P n e && Nat.blt 0 (P.cellsOf e)
  | some (.struct fs) => tile P 0 fs.toList == some (P.cellsOf t) && fs.toList.all fun f => plainT P n f.type
  | some (.array m e) => Nat.beq (P.cellsOf t) (m * P.cellsOf e) && plainT P n e
  | _ => false
def Sh (P : Program) : Nat → TypeId → List AV → Prop
 | 0, _, _ => False
 | n + 1, t, xs =>
  match P.underlying t with
  | some .bool => ∃ b, xs = [.bool b]
  | some (.int k) => ∃ i, xs = [.int k i] ∧ (Lit.int k i).wf = true
  | some .string => ∃ s, xs = [.str s] ∧ s.size ≤ maxLen
  | some (.pointer e) => xs = [.nilP] ∨ ∃ cs, xs = [.snap cs] ∧ Sh P n e cs
  | some (.slice e) => ∃ ys, xs = [.imm ys] ∧ ys.length ≤ maxLen ∧ ∀ y, y ∈ ys → Sh P n e y
  | some (.struct fs) => xs.length = P.cellsOf t ∧ ∀ f, f ∈ fs.toList → Sh P n f.type ((xs.drop f.offset).take (P.cellsOf f.type))
  | some (.array m e) => xs.length = P.cellsOf t ∧ ∀ i, i < m → Sh P n e ((xs.drop (i * P.cellsOf e)).take (P.cellsOf e))
  | _ => False
def RepL (w : World) (g : Gh) (xs : List AV) (cs : List Value) : Prop :=
 xs.length = cs.length ∧ ∀ (j : Nat) (c : AV), xs[j]? = some c → ∃ u, cs[j]? = some u ∧ Rep w g c u ∧ c.one = true
theorem RepL.one {x : AV} {v : Value} (h : Rep w g x v) (ho : x.one = true) : RepL w g [x] [v] :=
 ⟨rfl, fun j c hj => by
  cases j with
  | zero => simp at hj; subst hj; exact ⟨v, rfl, h, ho⟩
  | succ j => simp at hj⟩
theorem RepL.append {xs ys : List AV} {cs ds : List Value} (h : RepL w g xs cs) (k : RepL w g ys ds) : RepL w g (xs ++ ys) (cs ++ ds) :=
 ⟨by simp [h.1, k.1], fun j c hj => by
  by_cases hl : j < xs.length
  ·rw [List.getElem?_append_left hl] at hj
   obtain ⟨u, hu, hr⟩ := h.2 j c hj
   exact ⟨u, by rw [List.getElem?_append_left (by rw [← h.1]; exact hl)]; exact hu, hr⟩
  ·rw [List.getElem?_append_right (by omega)] at hj
   obtain ⟨u, hu, hr⟩ := k.2 _ c hj
   exact ⟨u, by rw [List.getElem?_append_right (by rw [← h.1]; omega), ← h.1]; exact hu, hr⟩⟩
theorem mapM_get {α β : Type} {f : α → Option β} : ∀ {l : List α} {r : List β}, l.mapM f = some r → r.length = l.length ∧ ∀ (j : Nat) (x : α), l[j]? = some x → ∃ y, f x = some y ∧ r[j]? = some y
 | [], r, h => by simp at h; subst h; simp
 | a :: l, r, h => by
  simp only [List.mapM_cons, Option.bind_eq_bind, Option.bind_eq_some_iff, Option.pure_def, Option.some.injEq] at h
  obtain ⟨b, hb, bs, hbs, rfl⟩ := h
  obtain ⟨h1, h2⟩ := mapM_get hbs
  refine ⟨by simp [h1], fun j x hj => ?_⟩
  cases j with
  | zero => simp at hj; subst hj; exact ⟨b, hb, rfl⟩
  | succ j => simp at hj; simpa using h2 j x hj
theorem cells_spec {base n : Nat} {a : Addr} {vs : List Value} (h : w.cells? base a n = some vs) : base ≤ a.block ∧ vs.length = n ∧ ∀ j, j < n → ∃ u, vs[j]? = some u ∧ w.cell? (a.add j) = some u := by
 unfold World.cells? at h
 split at h
 ·rename_i hb
  obtain ⟨h1, h2⟩ := mapM_get h
  refine ⟨hb, by simpa using h1, fun j hj => ?_⟩
  obtain ⟨y, hy, hr⟩ := h2 j j (by simp [hj])
  exact ⟨y, hr, hy⟩
 ·cases h
theorem cell_spot {a : Addr} {u : Value} (h : w.cell? a = some u) : a.spot = none := by
 unfold World.cell? at h
 split at h
 ·split at h
  ·cases h
  ·rename_i hs; simpa using hs
 ·cases h
theorem listOf {α : Type} {Q : Nat → α → Prop} : ∀ (n : Nat), (∀ i, i < n → ∃ x, Q i x) → ∃ ys : List α, ys.length = n ∧ ∀ (i : Nat) (x : α), ys[i]? = some x → Q i x
 | 0, _ => ⟨[], rfl, fun i x h => by simp at h⟩
 | n + 1, h => by
  obtain ⟨ys, h1, h2⟩ := listOf n (fun i hi => h i (by omega))
  obtain ⟨y, hy⟩ := h n (by omega)
  refine ⟨ys ++ [y], by simp [h1], fun i x hx => ?_⟩
  by_cases hi : i < ys.length
  ·rw [List.getElem?_append_left hi] at hx; exact h2 i x hx
  ·rw [List.getElem?_append_right (by omega)] at hx
   cases hk : i - ys.length with
   | zero => rw [hk] at hx; simp at hx; subst hx; rw [show i = n by omega]; exact hy
   | succ k => rw [hk] at hx; simp at hx
theorem mapM_of_get {α β : Type} {f : α → Option β} : ∀ {l : List α} {ys : List β}, ys.length = l.length → (∀ (i : Nat) (x : α) (y : β), l[i]? = some x → ys[i]? = some y → f x = some y) → l.mapM f = some ys
 | [], ys, hl, _ => by have : ys = [] := List.length_eq_zero_iff.1 (by simpa using hl); subst this; simp
 | a :: l, [], hl, _ => by simp at hl
 | a :: l, y :: ys, hl, h => by
  have h0 := h 0 a y rfl rfl
  have h1 := mapM_of_get (f := f) (l := l) (ys := ys) (by simpa using hl) (fun i x z hx hz => h (i + 1) x z (by simpa using hx) (by simpa using hz))
  simp [List.mapM_cons, h0, h1]
def avD {H : Type} (P : Program) : Nat → TypeId → DataW H → Option (List AV)
 | 0, _, _ => none
 | n + 1, t, d =>
  match P.underlying t, d with
  | some .bool, .lit (.bool b) => some [.bool b]
  | some (.int _), .lit (.int k i) => some [.int k i]
  | some .string, .lit (.string s) => some [.str ⟨s.toArray⟩]
  | some (.pointer _), .nil => some [.nilP]
  | some (.pointer e), .ptr d => (avD P n e d).bind fun cs => some [.snap cs]
  | some (.slice _), .nil => some [.imm []]
  | some (.slice e), .slice es _ => (es.mapM fun d => avD P n e d).bind fun ys => some [.imm ys]
  | some (.struct fs), .agg ds => ((List.zip fs.toList ds).mapM fun p => avD P n p.1.type p.2).bind fun ys => some ys.flatten
  | some (.array _ e), .agg ds => (ds.mapM fun d => avD P n e d).bind fun ys => some ys.flatten
  | _, _ => none
theorem snap_of {xs : List AV} {vs : List Value} {a : Addr} (hF : Full w g) (hx : RepL w g xs vs) (hc : ∀ j, j < vs.length → ∃ u, vs[j]? = some u ∧ w.cell? (a.add j) = some u) (h0 : 0 < vs.length) :
  a.spot = none ∧ Rep w g (.snap xs) (.pointer (some ⟨a.block, a.off, none⟩)) := by
 have hs : a.spot = none := by
  obtain ⟨u, _, hu⟩ := hc 0 h0
  rw [Addr.add, if_pos rfl] at hu
  exact cell_spot hu
 refine ⟨hs, .snap xs a.block a.off (fun j => vs.getD j undef) (fun j c hj => ?_) (fun j c hj => ?_)⟩
 ·obtain ⟨u, hu, _, ho⟩ := hx.2 j c hj
  have hlt : j < vs.length := (List.getElem?_eq_some_iff.1 hu).1
  obtain ⟨u', hu', hcell⟩ := hc j hlt
  rw [hu] at hu'
  cases hu'
  have hcl : Cl w a.block (a.off + j) = some u := by
   obtain ⟨b, off, sp⟩ := a
   simp only at hs; subst hs
   cases j with
   | zero => simpa [Addr.add, Cl] using hcell
   | succ j => simpa [Addr.add, Cl] using hcell
  refine ⟨hF _ _ _ hcl, ?_, ho⟩
  rw [hcl, List.getD_eq_getElem?_getD, hu]; rfl
 ·obtain ⟨u, hu, hr, _⟩ := hx.2 j c hj
  rw [List.getD_eq_getElem?_getD, hu]; exact hr
theorem addr_add {a : Addr} (hs : a.spot = none) (k : Nat) : a.add k = ⟨a.block, a.off + k, none⟩ := by
 obtain ⟨b, off, sp⟩ := a
 simp only at hs; subst hs
 cases k <;> simp [Addr.add]
end Go.Proofs.Am
namespace Go.Proofs.Am
open Go Go.RowKit
variable {cx : Cx}
def gFull (w : World) : Gh := { sl := fun b => (bsz w b).getD 0, own := fun _ => .oth, nb := 0, bm := fun _ => 0 }
theorem gFull_wf (w : World) : Wf w (gFull w) := by
 refine ⟨fun _ _ => rfl, fun b hb => ?_, fun b h => absurd rfl h⟩
 simp only [gFull, bsz]
 rw [Array.getElem?_eq_none hb]
 rfl
theorem gFull_full (w : World) : Full w (gFull w) := by
 intro b o u h
 simp only [Cl, World.cell?] at h
 cases hb : w.heap[b]? with
 | none => rw [hb] at h; cases h
 | some ob =>
  rw [hb] at h
  cases ob <;> simp only [reduceCtorEq] at h
  rename_i c e fz
  simp only [Option.isSome_none, Bool.false_eq_true, if_false] at h
  simp only [gFull, bsz, hb, Option.getD_some]
  exact (Array.getElem?_eq_some_iff.1 h).1
theorem law_calls (hC : CxOk cx) {f : FuncId} {fn : Func} {c : Code} (hf : cx.P.funcs[f]? = some fn) (hb : fn.body = some c) (hcut : cutAt cx f [.code c] = none) {w : World} (hG : GOk cx w (gFull w))
  {xs : List AV} {vs : Array Value} (hl : vs.size = xs.length) (hx : ∀ (j : Nat) (x : AV), xs[j]? = some x → ∃ u, vs[j]? = some u ∧ Rep w (gFull w) x u) {x : AV} {h' : Heap}
  (hr : blk cx f [.code c] (xs.map .v) Heap.nil = some (.v x, h')) :
  Calls cx.P f vs w fun e w' => ∃ v g', e = .returned v ∧ Rep w' g' x v ∧ Below w.heap.size w w' := by
 have s0 : SR fn.ntmps (inSt (xs.map .v) Heap.nil) { tmps := vs ++ Array.replicate (fn.ntmps - vs.size) undef, defers := [] } w (gFull w) (fun _ => 0) :=
  SR.enter (gFull_wf w) ⟨rfl, MapOk.nil _ _, fun id bx hid => by simp [Heap.nil] at hid⟩ (by simpa using hl) (fun j y hj => by
   rw [List.getElem?_map] at hj
   cases hxj : xs[j]? with
   | none => rw [hxj] at hj; cases hj
   | some z =>
    rw [hxj] at hj
    simp only [Option.map_some, Option.some.injEq] at hj
    subst hj
    exact hx j z hxj)
 refine (calls_of_orc (blk_ok hC) hf hb hcut hr s0 hG).mono ?_
 rintro e w' ⟨v, rfl, g', _, t, _, hv⟩
 exact ⟨v, g', rfl, hv, t.os, t.tape, t.output, t.size, fun k hk => (t.oth k hk rfl).1⟩
theorem law_true (hC : CxOk cx) {f : FuncId} {fn : Func} {c : Code} (hf : cx.P.funcs[f]? = some fn) (hb : fn.body = some c) (hcut : cutAt cx f [.code c] = none) {w : World} (hG : GOk cx w (gFull w))
  {xs : List AV} {vs : Array Value} (hl : vs.size = xs.length) (hx : ∀ (j : Nat) (x : AV), xs[j]? = some x → ∃ u, vs[j]? = some u ∧ Rep w (gFull w) x u) {h' : Heap}
  (hr : blk cx f [.code c] (xs.map .v) Heap.nil = some (.v (.bool true), h')) :
  Calls cx.P f vs w fun e w' => e = .returned (.bool true) ∧ Below w.heap.size w w' :=
 (law_calls hC hf hb hcut hG hl hx hr).mono (by
  rintro e w' ⟨v, g', rfl, hv, hbel⟩
  cases hv
  exact ⟨rfl, hbel⟩)
end Go.Proofs.Am
namespace Go.Proofs.Am
open Go
variable {cx : Cx}
def gShut (w : World) (g : Gh) (n : Nat) : Gh := { g with sl := upd g.sl w.heap.size n }
end Go.Proofs.Am
