/-
  Modules as Lean values: what a readable value of their type is.
-/
import Derived.Test.YtoblgjmllmomhaaGreatDoorAmArg
import Derived.Below
import Derived.HandedShaped
import Derived.Shelf.Vars
import Derived.Carry
import Derived.WideShapes
import Derived.ChangeShapes
import Derived.ChangeOld
import Derived.WalkKit
import Derived.ProofKit
import Derived.OpenShut
import Derived.LaidMore
import Derived.Stop.Joined
import Derived.JoinedCond
import Derived.LaidLaws
import Derived.Test.YtoblgjmllmomhaaGreatDoorAmSym
import Derived.Laws.BitsLemmas
namespace Go.Proofs.Am
open Go Go.RowKit
variable {cx : Cx}
def gFull (w : World) : Gh := { sl := fun b => (bsz w b).getD 0, own := fun _ => .oth, nb := 0, bm := fun _ => 0 }
theorem gFull_wf (w : World) : Wf w (gFull w) := by
 refine ⟨fun _ _ => rfl, fun b hb => ?_, fun b h => absurd rfl h⟩
 simp only [gFull, bsz]
 rw [Array.getElem?_eq_none hb]
 rfl
theorem gFull_full (w : World) : Full w (gFull w) := by
 intro b o u h
 simp only [Cl, World.cell?] at h
 cases hb : w.heap[b]? with
 | none => rw [hb] at h; cases h
 | some ob =>
  rw [hb] at h
  cases ob <;> simp only [reduceCtorEq] at h
  rename_i c e fz
  simp only [Option.isSome_none, Bool.false_eq_true, if_false] at h
  simp only [gFull, bsz, hb, Option.getD_some]
  exact (Array.getElem?_eq_some_iff.1 h).1
theorem law_calls (hC : CxOk cx) {f : FuncId} {fn : Func} {c : Code} (hf : cx.P.funcs[f]? = some fn) (hb : fn.body = some c) (hcut : cutAt cx f [.code c] = none) {w : World} (hG : GOk cx w (gFull w))
  {xs : List AV} {vs : Array Value} (hl : vs.size = xs.length) (hx : ∀ (j : Nat) (x : AV), xs[j]? = some x -> ∃ u, vs[j]? = some u /\ Rep w (gFull w) x u) {x : AV} {h' : Heap}
  (hr : blk cx f [.code c] (xs.map .v) Heap.nil = some (.v x, h')) :
  Calls cx.P f vs w fun e w' => ∃ v g', e = .returned v /\ Rep w' g' x v /\ Below w.heap.size w w' := by
 have s0 : SR fn.ntmps (inSt (xs.map .v) Heap.nil) { tmps := vs ++ Array.replicate (fn.ntmps - vs.size) undef, defers := [] } w (gFull w) (fun _ => 0) :=
  SR.enter (gFull_wf w) ⟨rfl, fun id bx hid => by simp [Heap.nil] at hid⟩ (by simpa using hl) (fun j y hj => by
   rw [List.getElem?_map] at hj
   cases hxj : xs[j]? with
   | none => rw [hxj] at hj; cases hj
   | some z =>
    rw [hxj] at hj
    simp only [Option.map_some, Option.some.injEq] at hj
    subst hj
    exact hx j z hxj)
 refine (calls_of_orc (blk_ok hC) hf hb hcut hr s0 hG).mono ?_
 rintro e w' ⟨v, rfl, g', _, t, _, hv⟩
 exact ⟨v, g', rfl, hv, t.os, t.tape, t.output, t.size, fun k hk => (t.oth k hk rfl).1⟩
theorem law_true (hC : CxOk cx) {f : FuncId} {fn : Func} {c : Code} (hf : cx.P.funcs[f]? = some fn) (hb : fn.body = some c) (hcut : cutAt cx f [.code c] = none) {w : World} (hG : GOk cx w (gFull w))
  {xs : List AV} {vs : Array Value} (hl : vs.size = xs.length) (hx : ∀ (j : Nat) (x : AV), xs[j]? = some x -> ∃ u, vs[j]? = some u /\ Rep w (gFull w) x u) {h' : Heap}
  (hr : blk cx f [.code c] (xs.map .v) Heap.nil = some (.v (.bool true), h')) :
  Calls cx.P f vs w fun e w' => e = .returned (.bool true) /\ Below w.heap.size w w' :=
 (law_calls hC hf hb hcut hG hl hx hr).mono (by
  rintro e w' ⟨v, g', rfl, hv, hbel⟩
  cases hv
  exact ⟨rfl, hbel⟩)
theorem var_rep {P : Program} {w : World} {g : Gh} (hF : Full w g) {H : Type} {enc : TypeId × Value -> H} {sp : Nat -> Bool} {held : Bool} {n fuel : Nat} {t : TypeId} {name : String} {gi : Nat} {cs : Array Value} {x : DataW H × List MemPlace}
  (hg : P.globalNamed name = some gi) (hv : w.var? P name = some cs) (hp : plainT P n t = true) (hd : DataW.trod enc P w 0 sp held fuel t cs.toList = some x) :
  ∃ xs, Sh P n t xs /\ avD P n t x.1 = some xs /\ Rep w g (.snap xs) (.pointer (some ⟨gi, 0, none⟩)) := by
 obtain ⟨xs, h1, h2, h3⟩ := trod_sh hF n t fuel _ _ hp hd
 refine ⟨xs, h1, h3, .snap xs gi 0 (fun j => cs.getD j undef) (fun j c hj => ?_) (fun j c hj => ?_)⟩
 ·obtain ⟨u, hu, _, ho⟩ := h2.2 j c hj
  have hcell := World.var?_cell hg hv j
  have hu' : cs[j]? = some u := by simpa using hu
  rw [hu'] at hcell
  refine ⟨hF _ _ u (by rw [Nat.zero_add]; exact hcell), ?_, ho⟩
  rw [Nat.zero_add]
  simp only [Array.getD_eq_getD_getElem?, hu', Option.getD_some]
  exact hcell
 ·obtain ⟨u, hu, hr, _⟩ := h2.2 j c hj
  have hu' : cs[j]? = some u := by simpa using hu
  simp only [Array.getD_eq_getD_getElem?, hu', Option.getD_some]
  exact hr
end Go.Proofs.Am
namespace Go.Proofs.Am
open Go Go.RowKit
variable {H : Type} {enc : TypeId × Value -> H}
theorem handed_and_shaped {a : Assume} {C : Checked} {os : Os} {f : FuncId} {fn : Func} {s : ChangeSpec} {conds : List PathCond} {apart fresh handsOn again : Bool} {X : World -> Array Value -> Prop}
  (hX : ∀ (w w' : World) (args : Array Value), w.heap = w'.heap -> X w args -> X w' args)
  (own : ownKnob C.prog.godebug = none) (started : os.Started) (noInit : C.prog.inits.idxOf? f = none) (hfn : C.prog.funcs[f]? = some fn)
  (witness : ∃ (w : World) (tape : Tape) (i : Input), w.os = os /\ (w.forCall tape i).Shaped C.prog /\ i.vars = [] /\ Input.okWide C.prog (w.forCall tape i) .any w.heap.size f i /\
   ((s.pre enc C.prog fn conds apart (w.forCall tape i).memory i.args /\ X (w.forCall tape i).memory i.args) /\ sizedMet enc C.prog fn (OpenSpec.ofChange s) apart (w.forCall tape i).memory i.args) /\ a.holds C.prog (lone (Frame.enter C.prog f i.args .normal) [] (w.forCall tape i)))
  (contract : ∀ (W : World) (base : Nat) (args : Array Value) (ds gs : List (DataW H)) (before : List MemPlace),
   (∀ (j : Nat) t v, fn.params[j]? = some t -> args[j]? = some v -> Value.okWide C.prog W .any base t v) ->
   DataW.Whole enc C.prog fn.params.toList s.vars apart W args.toList ds gs before ->
   conds.all (PathCond.test C.prog ⟨fn.params.toList, ds, s.plain.varTypes C.prog, gs⟩) = true ->
   (DataW.weightsEach C.prog (fn.params.toList ++ s.plain.varTypes C.prog) (ds ++ gs)).all (· <= reachBytes) = true -> X W args -> W.ShapedOpen C.prog ->
   a.holds C.prog (lone (Frame.enter C.prog f args .normal) [] W) ->
   Calls C.prog f args W fun e W' => ∃ v, e = .returned v /\ s.post enc C.prog fn apart fresh handsOn again W args v W') :
  ReturnsInHanded a C os f .any (fun w args => (s.pre enc C.prog fn conds apart w args /\ X w args) /\ sizedMet enc C.prog fn (OpenSpec.ofChange s) apart w args) (s.post enc C.prog fn apart fresh handsOn again) := by
 refine returnsInHanded_of_calls own started noInit witness ?_
 intro w tape i _ hsh _ hok hpre hholds
 obtain ⟨_, _, _, fn', hfn', _, _, _, _, hval⟩ := hok
 have e : fn' = fn := Option.some.inj (hfn'.symm.trans hfn)
 subst e
 obtain ⟨⟨⟨ds, gs, before, hw, hc⟩, hx⟩, hz⟩ := hpre
 have hw' := DataW.Whole.of_heap (w' := w.forCall tape i) (by rfl) hw
 refine (contract (w.forCall tape i) w.heap.size i.args ds gs before hval hw' hc (hz.weights hw) (hX _ _ _ (by rfl) hx) hsh hholds).mono fun e W' ⟨v, he, hp⟩ => ?_
 subst he
 exact ChangeSpec.post_blind hp
end Go.Proofs.Am
namespace Go.Proofs.Am
open Go Go.RowKit Go.ChangeShapes Go.WideShapes
def argV (P : Program) (t : TypeId) (ys : List AV) : AV :=
 match P.underlying t with
 | some (.struct _) => .agg ys
 | some (.array _ _) => .agg ys
 | _ => ys.headD .nilI
def ShA (P : Program) (n : Nat) : List TypeId -> List AV -> Prop
 | [], [] => True
 | t :: ts, x :: xs => (∃ ys, Sh P n t ys /\ x = argV P t ys) /\ ShA P n ts xs
 | _, _ => False
variable {H : Type} {enc : TypeId × Value -> H} {P : Program} {W : World} {g : Gh}
def noArr (P : Program) (t : TypeId) : Bool :=
 match P.underlying t with
 | some (.array _ _) => false
 | _ => true
theorem args_stay {W' : World} (hl : laidOutB P = true) (hb : Below W.heap.size W W') : ∀ (ts : List TypeId) (vs : List Value) (ds : List (DataW H)) (p : List MemPlace), (∀ t ∈ ts, P.readableRec t = true /\ t < P.types.size) ->
  (∀ x ∈ p, x.block < W.heap.size) -> DataW.TrodAll enc P W 0 (fun _ => true) true ts vs ds p -> DataW.TrodAll enc P W' 0 (fun b => decide (b < W.heap.size)) true ts vs ds p
 | [], [], [], _, _, _, h => h
 | t :: ts, v :: vs, d :: ds, _, hr, hlt, ⟨p, q, h, hs, e⟩ => by
  subst e
  obtain ⟨h1, h2⟩ := hr t (by simp)
  exact ⟨p, q, Below.trod hl h1 h2 h hb (fun x hx => hlt x (by simp [hx])), args_stay hl hb ts vs ds q (fun t ht => hr t (by simp [ht])) (fun x hx => hlt x (by simp [hx])) hs, rfl⟩
 | [], _ :: _, _, _, _, _, h => False.elim h
 | [], [], _ :: _, _, _, _, h => False.elim h
 | _ :: _, [], _, _, _, _, h => False.elim h
 | _ :: _, _ :: _, [], _, _, _, h => False.elim h
theorem trod_len : ∀ {ts : List TypeId} {vs : List Value} {ds : List (DataW H)} {p : List MemPlace} {sp : Nat -> Bool} {held : Bool}, DataW.TrodAll enc P W 0 sp held ts vs ds p -> ds.length = ts.length
 | [], [], [], _, _, _, _ => rfl
 | t :: ts, v :: vs, d :: ds, _, _, _, ⟨p, q, h, hs, e⟩ => by simp [trod_len hs]
 | [], _ :: _, _, _, _, _, h => False.elim h
 | [], [], _ :: _, _, _, _, h => False.elim h
 | _ :: _, [], _, _, _, _, h => False.elim h
 | _ :: _, _ :: _, [], _, _, _, h => False.elim h
end Go.Proofs.Am
namespace Go.Proofs.Am
open Go Go.RowKit Go.ChangeShapes Go.WideShapes
section
variable {P : Program} {w : World} {g : Gh}
def stepT (P : Program) (S : List TypeId) (t : TypeId) : Bool :=
 match P.underlying t with
 | some .bool => true
 | some (.int _) => true
 | some .string => true
 | some (.pointer e) => hasN S e && Nat.blt 0 (P.cellsOf e)
 | some (.slice e) => hasN S e && Nat.blt 0 (P.cellsOf e)
 | some (.struct fs) => tile P 0 fs.toList == some (P.cellsOf t) && fs.toList.all fun f => hasN S f.type
 | some (.array m e) => Nat.beq (P.cellsOf t) (m * P.cellsOf e) && hasN S e
 | _ => false
def closedT (P : Program) (S : List TypeId) : Bool := S.all (stepT P S)
end
def ShC {H : Type} (P : Program) : List TypeId -> List AV -> List (DataW H) -> Prop
 | [], [], [] => True
 | t :: ts, x :: xs, d :: ds => (∃ n ys, Sh P n t ys /\ x = argV P t ys /\ avD P n t d = some ys) /\ ShC P ts xs ds
 | _, _, _ => False
variable {H : Type} {enc : TypeId × Value -> H} {P : Program} {W : World} {g : Gh}
end Go.Proofs.Am
namespace Go.Proofs.Am
open Go Go.RowKit Go.ChangeShapes Go.WideShapes
section
variable {P : Program} {w : World} {g : Gh}
def ShZ (P : Program) : Nat -> TypeId -> List AV -> Prop
 | 0, _, _ => False
 | n + 1, t, xs =>
  match P.underlying t with
  | some .bool => ∃ b, xs = [.bool b]
  | some (.int k) => ∃ i, xs = [.int k i] /\ (Lit.int k i).wf = true
  | some .string => ∃ s, xs = [.str s] /\ s.size <= reachBytes
  | some (.pointer e) => xs = [.nilP] ∨ ∃ cs, xs = [.snap cs] /\ ShZ P n e cs
  | some (.slice e) => ∃ ys, xs = [.imm ys] /\ ys.length <= maxLen /\ ys.length * P.bytesOf e <= reachBytes /\ ∀ y, y ∈ ys -> ShZ P n e y
  | some (.struct fs) => xs.length = P.cellsOf t /\ ∀ f, f ∈ fs.toList -> ShZ P n f.type ((xs.drop f.offset).take (P.cellsOf f.type))
  | some (.array m e) => xs.length = P.cellsOf t /\ ∀ i, i < m -> ShZ P n e ((xs.drop (i * P.cellsOf e)).take (P.cellsOf e))
  | _ => False
theorem wAll_get {H : Type} {e : TypeId} : ∀ {l : List (DataW H)} {j : Nat} {d : DataW H}, (DataW.weightsAll P e l).all (· <= reachBytes) = true -> l[j]? = some d -> (d.weights P e).all (· <= reachBytes) = true
 | [], j, d, _, h => by simp at h
 | x :: l, j, d, hw, h => by
  simp only [DataW.weightsAll, List.all_append, Bool.and_eq_true] at hw
  cases j with
  | zero => simp at h; subst h; exact hw.1
  | succ j => exact wAll_get hw.2 (by simpa using h)
theorem wEach_get {H : Type} : ∀ {ts : List TypeId} {l : List (DataW H)} {j : Nat} {t : TypeId} {d : DataW H}, (DataW.weightsEach P ts l).all (· <= reachBytes) = true -> ts[j]? = some t -> l[j]? = some d -> (d.weights P t).all (· <= reachBytes) = true
 | _, [], j, t, d, _, _, h => by simp at h
 | [], _ :: _, j, t, d, _, h, _ => by simp at h
 | u :: ts, x :: l, j, t, d, hw, ht, h => by
  simp only [DataW.weightsEach, List.all_append, Bool.and_eq_true] at hw
  cases j with
  | zero => simp at h ht; subst h; subst ht; exact hw.1
  | succ j => exact wEach_get hw.2 (by simpa using ht) (by simpa using h)
theorem wApp {H : Type} : ∀ {ts us : List TypeId} {l : List (DataW H)}, l.length = ts.length -> (DataW.weightsEach P (ts ++ us) (l ++ [])).all (· <= reachBytes) = true -> (DataW.weightsEach P ts l).all (· <= reachBytes) = true
 | [], _, [], _, _ => by simp [DataW.weightsEach]
 | [], _, _ :: _, h, _ => by simp at h
 | _ :: _, _, [], h, _ => by simp at h
 | t :: ts, us, x :: l, h, hw => by
  simp only [List.cons_append, DataW.weightsEach, List.all_append, Bool.and_eq_true] at hw ⊢
  exact ⟨hw.1, wApp (by simpa using h) hw.2⟩
theorem tiledZ {n : Nat} : ∀ (fs : List Field) (ys : List (List AV)) (o m : Nat) (cs : List Value), tile P o fs = some m -> m = o + cs.length -> ys.length = fs.length ->
  (∀ (i : Nat) (f : Field) (xs : List AV), fs[i]? = some f -> ys[i]? = some xs -> ShZ P n f.type xs /\ RepL w g xs ((cs.drop (f.offset - o)).take (P.cellsOf f.type))) ->
  RepL w g ys.flatten cs /\ ∀ f, f ∈ fs -> o <= f.offset /\ ShZ P n f.type ((ys.flatten.drop (f.offset - o)).take (P.cellsOf f.type))
 | [], ys, o, m, cs, ht, hm, hl, _ => by
  simp only [tile, Option.some.injEq] at ht
  have : cs = [] := List.length_eq_zero_iff.1 (by omega)
  subst this
  have : ys = [] := List.length_eq_zero_iff.1 (by simpa using hl)
  subst this
  exact ⟨⟨rfl, fun j c hj => by simp at hj⟩, fun f hf => by cases hf⟩
 | f :: fs, [], o, m, cs, _, _, hl, _ => by simp at hl
 | f :: fs, xs :: ys, o, m, cs, ht, hm, hl, hf => by
  simp only [tile] at ht
  split at ht
  ·rename_i ho
   obtain ⟨hs, hx⟩ := hf 0 f xs rfl rfl
   rw [ho, Nat.sub_self, List.drop_zero] at hx
   have mono : ∀ (fs : List Field) (o m : Nat), tile P o fs = some m -> o <= m := by
    intro fs
    induction fs with
    | nil => intro o m h; simp [tile] at h; omega
    | cons f fs ih =>
     intro o m h
     simp only [tile] at h
     split at h
     ·exact Nat.le_trans (Nat.le_add_right _ _) (ih _ _ h)
     ·cases h
   have ge : ∀ (fs : List Field) (o m : Nat), tile P o fs = some m -> ∀ f, f ∈ fs -> o <= f.offset := by
    intro fs
    induction fs with
    | nil => intro o m _ f hf; cases hf
    | cons f' fs ih =>
     intro o m h f hf
     simp only [tile] at h
     split at h
     ·rename_i he
      rcases List.mem_cons.1 hf with rfl | hf
      ·omega
      ·exact Nat.le_trans (Nat.le_add_right _ _) (ih _ _ h f hf)
     ·cases h
   have hk := mono _ _ _ ht
   have hlen : (cs.take (P.cellsOf f.type)).length = P.cellsOf f.type := by simp; omega
   obtain ⟨hy, hz⟩ := tiledZ (n := n) fs ys (o + P.cellsOf f.type) m (cs.drop (P.cellsOf f.type)) ht (by simp; omega) (by simpa using hl) (fun i f' zs hf' hz' => by
    obtain ⟨h1, h2⟩ := hf (i + 1) f' zs (by simpa using hf') (by simpa using hz')
    have := ge _ _ _ ht f' (List.mem_of_getElem? hf')
    refine ⟨h1, ?_⟩
    rw [List.drop_drop]
    rwa [show P.cellsOf f.type + (f'.offset - (o + P.cellsOf f.type)) = f'.offset - o by omega])
   have hxl : xs.length = P.cellsOf f.type := by rw [hx.1, hlen]
   rw [List.flatten_cons]
   refine ⟨?_, fun f' hf' => ?_⟩
   ·have := hx.append hy
    rwa [List.take_append_drop] at this
   ·rcases List.mem_cons.1 hf' with rfl | hf'
    ·refine ⟨by omega, ?_⟩
     rw [ho, Nat.sub_self, List.drop_zero, List.take_append_of_le_length (by omega), List.take_of_length_le (by omega)]
     exact hs
    ·obtain ⟨h1, h2⟩ := hz f' hf'
     refine ⟨by omega, ?_⟩
     rw [show f'.offset - o = xs.length + (f'.offset - (o + P.cellsOf f.type)) by omega, List.drop_append, List.drop_of_length_le (by omega), List.nil_append,
      show xs.length + (f'.offset - (o + P.cellsOf f.type)) - xs.length = f'.offset - (o + P.cellsOf f.type) by omega]
     exact h2
  ·cases ht
theorem arr_tiledZ {n : Nat} {e : TypeId} : ∀ (ys : List (List AV)) (cs : List Value), cs.length = ys.length * P.cellsOf e -> (∀ (i : Nat) (xs : List AV), ys[i]? = some xs -> ShZ P n e xs /\ RepL w g xs ((cs.drop (i * P.cellsOf e)).take (P.cellsOf e))) ->
  RepL w g ys.flatten cs /\ ∀ i, i < ys.length -> ShZ P n e ((ys.flatten.drop (i * P.cellsOf e)).take (P.cellsOf e))
 | [], cs, hl, _ => by
  have : cs = [] := List.length_eq_zero_iff.1 (by simpa using hl)
  subst this
  exact ⟨⟨rfl, fun j c hj => by simp at hj⟩, fun i hi => by simp at hi⟩
 | xs :: ys, cs, hl, hf => by
  have hm : (ys.length + 1) * P.cellsOf e = P.cellsOf e + ys.length * P.cellsOf e := by rw [Nat.add_mul, Nat.one_mul, Nat.add_comm]
  rw [List.length_cons] at hl
  obtain ⟨hs, hx⟩ := hf 0 xs rfl
  rw [Nat.zero_mul, List.drop_zero] at hx
  obtain ⟨hy, hz⟩ := arr_tiledZ (n := n) (e := e) ys (cs.drop (P.cellsOf e)) (by simp; omega) (fun i zs hi => by
   obtain ⟨h1, h2⟩ := hf (i + 1) zs (by simpa using hi)
   refine ⟨h1, ?_⟩
   rw [List.drop_drop]
   rwa [show P.cellsOf e + i * P.cellsOf e = (i + 1) * P.cellsOf e by rw [Nat.add_mul, Nat.one_mul, Nat.add_comm]])
  have hxl : xs.length = P.cellsOf e := by rw [hx.1]; simp; omega
  rw [List.flatten_cons]
  refine ⟨?_, fun i hi => ?_⟩
  ·have := hx.append hy
   rwa [List.take_append_drop] at this
  ·cases i with
   | zero =>
    rw [Nat.zero_mul, List.drop_zero, List.take_append_of_le_length (by omega), List.take_of_length_le (by omega)]
    exact hs
   | succ i =>
    rw [show (i + 1) * P.cellsOf e = xs.length + i * P.cellsOf e by rw [Nat.add_mul, Nat.one_mul, Nat.add_comm, hxl], List.drop_append, List.drop_of_length_le (by omega), List.nil_append,
     show xs.length + i * P.cellsOf e - xs.length = i * P.cellsOf e by omega]
    exact hz i (by simpa using hi)
theorem trod_shZ {S : List TypeId} (hS : closedT P S = true) {H : Type} {enc : TypeId × Value -> H} {base : Nat} {sp : Nat -> Bool} {held : Bool} (hF : Full w g) : ∀ (n : Nat) (t : TypeId) (fuel : Nat) (cs : List Value) (x : DataW H × List MemPlace),
  fuel <= n -> t ∈ S -> (x.1.weights P t).all (· <= reachBytes) = true -> DataW.trod enc P w base sp held fuel t cs = some x -> ∃ xs, ShZ P n t xs /\ RepL w g xs cs /\ avD P n t x.1 = some xs
 | 0, _, fuel, _, _, hfu, _, _, h => by
  obtain rfl : fuel = 0 := by omega
  simp [DataW.trod] at h
 | n + 1, t, fuel, cs, x, hfu, hts, hwt, h => by
  have hp := List.all_eq_true.1 hS t hts
  unfold stepT at hp
  cases hu : P.underlying t with
  | none => rw [hu] at hp; cases hp
  | some d =>
   rw [hu] at hp
   cases d <;> simp only [Bool.false_eq_true] at hp
   case bool =>
    obtain ⟨b, rfl, rfl⟩ := DataW.trod_bool hu h
    exact ⟨_, by simp only [ShZ, hu]; exact ⟨_, rfl⟩, RepL.one (.bool _) rfl, by simp only [avD, hu]⟩
   case int k =>
    obtain ⟨i, rfl, rfl, hw⟩ := DataW.trod_int hu h
    exact ⟨_, by simp only [ShZ, hu]; exact ⟨_, rfl, hw⟩, RepL.one (.int _ _) rfl, by simp only [avD, hu]⟩
   case string =>
    obtain ⟨s, rfl, rfl, hw⟩ := DataW.trod_string hu h
    exact ⟨[.str s], by simp only [ShZ, hu]; exact ⟨_, rfl, by simpa [DataW.weights] using hwt⟩, RepL.one (.str _) rfl, by simp only [avD, hu, Array.toArray_toList]⟩
   case pointer e =>
    simp only [Bool.and_eq_true] at hp
    rcases DataW.trod_pointer hu h with ⟨rfl, rfl⟩ | ⟨a, cs', y, m, hm, rfl, rfl, hc, hd⟩
    ·exact ⟨[.nilP], by simp only [ShZ, hu]; exact .inl trivial, RepL.one .nilP rfl, by simp only [avD, hu]⟩
    ·obtain ⟨xs, h1, h2, h3⟩ := trod_shZ hS hF n e m cs' y (by omega) (hasN_iff.1 hp.1) (by simpa only [DataW.weights, hu] using hwt) hd
     obtain ⟨_, hl, hcell⟩ := cells_spec hc
     have h0 : 0 < P.cellsOf e := Nat.le_of_ble_eq_true hp.2
     obtain ⟨hs, hr⟩ := snap_of hF h2 (fun j hj => hcell j (by omega)) (by omega)
     have ha : a = ⟨a.block, a.off, none⟩ := by obtain ⟨b, off, sp⟩ := a; simp only at hs; subst hs; rfl
     refine ⟨[.snap xs], by simp only [ShZ, hu]; exact .inr ⟨xs, rfl, h1⟩, RepL.one ?_ rfl, by simp only [avD, hu, h3, Option.bind_some]⟩
     rw [ha]; exact hr
   case slice e =>
    simp only [Bool.and_eq_true] at hp
    have h0 : 0 < P.cellsOf e := Nat.le_of_ble_eq_true hp.2
    rcases DataW.trod_slice hu h with ⟨rfl, rfl⟩ | ⟨a, len, cap, elems, rest, m, hm, rfl, rfl, _, hlc, hcap, hlen, hel, _⟩
    ·exact ⟨[.imm []], by simp only [ShZ, hu]; exact ⟨[], rfl, by simp, by simp, fun y hy => by cases hy⟩, RepL.one (.imm0 _ _) rfl, by simp only [avD, hu]⟩
    ·have hwt : ((elems.map (·.1)).length + (rest.map (·.1)).length) * P.bytesOf e <= reachBytes /\ ((DataW.weightsAll P e (elems.map (·.1))).all (· <= reachBytes)) = true := by
      simp only [DataW.weights, hu, List.all_cons, List.all_append, Bool.and_eq_true, decide_eq_true_eq] at hwt
      exact ⟨hwt.1, hwt.2.1⟩
     have key : ∀ i, i < len -> ∃ xs : List AV, (∃ d, elems[i]? = some d /\ avD P n e d.1 = some xs) /\ ShZ P n e xs /\ xs.length = P.cellsOf e /\ a.spot = none /\
       Rep w g (.snap xs) (.pointer (some ⟨a.block, a.off + i * P.cellsOf e, none⟩)) := by
      intro i hi
      have := hel i hi
      rw [List.getElem?_eq_getElem (by omega), Option.bind_eq_some_iff] at this
      obtain ⟨vs, hvs, hd⟩ := this
      obtain ⟨xs, h1, h2, h3⟩ := trod_shZ hS hF n e m vs _ (by omega) (hasN_iff.1 hp.1) (wAll_get hwt.2 (j := i) (by rw [List.getElem?_map, List.getElem?_eq_getElem (by omega)]; rfl)) hd
      obtain ⟨_, hl, hcell⟩ := cells_spec hvs
      obtain ⟨hs, hr⟩ := snap_of hF h2 (fun j hj => hcell j (by omega)) (by omega)
      have hs' : a.spot = none := by
       cases hz : i * P.cellsOf e with
       | zero => rw [hz] at hs; exact hs
       | succ k =>
        have h00 := hel 0 (by omega)
        rw [List.getElem?_eq_getElem (by omega), Option.bind_eq_some_iff] at h00
        obtain ⟨vs0, hvs0, _⟩ := h00
        obtain ⟨_, _, hcell0⟩ := cells_spec hvs0
        obtain ⟨u, _, hcl⟩ := hcell0 0 h0
        rw [Nat.zero_mul] at hcl
        exact cell_spot hcl
      rw [addr_add hs'] at hr
      exact ⟨xs, ⟨_, List.getElem?_eq_getElem (by omega), h3⟩, h1, by rw [h2.1, hl], hs', hr⟩
     obtain ⟨ys, hyl, hget⟩ := listOf len key
     refine ⟨[.imm ys], ?_, RepL.one ?_ rfl, ?_⟩
     ·simp only [ShZ, hu]
      refine ⟨ys, rfl, by omega, ?_, fun y hy => ?_⟩
      ·refine Nat.le_trans (Nat.mul_le_mul_right _ ?_) hwt.1
       simp only [List.length_map]
       omega
      obtain ⟨k, hk⟩ := List.mem_iff_getElem?.1 hy
      exact (hget k y hk).2.1
     ·cases hz : len with
      | zero =>
       have : ys = [] := List.length_eq_zero_iff.1 (by omega)
       subst this
       exact .imm0 _ _
      | succ l0 =>
       have hs : a.spot = none := by
        have : ys[0]? = some ys[0] := List.getElem?_eq_getElem (by omega)
        exact (hget 0 _ this).2.2.2.1
       have ha : a = ⟨a.block, a.off, none⟩ := by obtain ⟨b, off, sp⟩ := a; simp only at hs; subst hs; rfl
       rw [ha, ← hz, ← hyl]
       refine .imm ys (P.cellsOf e) a.block a.off cap (fun k j => (Cl w a.block (a.off + k * P.cellsOf e + j)).getD undef) (by omega) (fun k x hx => (hget k x hx).2.2.1) (fun k x j c hx hj => ?_) (fun k x j c hx hj => ?_)
       ·have := (hget k x hx).2.2.2.2
        cases this with
        | snap _ _ _ f hc _ =>
         obtain ⟨h1, h2, h3⟩ := hc j c hj
         exact ⟨h1, by rw [h2]; rfl, h3⟩
       ·have := (hget k x hx).2.2.2.2
        cases this with
        | snap _ _ _ f hc hr =>
         obtain ⟨_, h2, _⟩ := hc j c hj
         rw [h2]; exact hr j c hj
     ·simp only [avD, hu]
      rw [mapM_of_get (ys := ys) (by simp; omega) (fun i d y hd hy => by
       rw [List.getElem?_map] at hd
       obtain ⟨d', hd', h3⟩ := (hget i y hy).1
       rw [hd'] at hd
       simp only [Option.map_some, Option.some.injEq] at hd
       subst hd; exact h3)]
      rfl
   case struct fs =>
    simp only [Bool.and_eq_true, beq_iff_eq, List.all_eq_true] at hp
    obtain ⟨zs, m, hm, rfl, hl, hlen, hf⟩ := DataW.trod_struct hu h
    simp only [DataW.weights, hu] at hwt
    have key : ∀ i, i < fs.size -> ∃ xs : List AV, ∀ f, fs[i]? = some f -> ShZ P n f.type xs /\ RepL w g xs ((cs.drop f.offset).take (P.cellsOf f.type)) /\ ∃ d, zs[i]? = some d /\ avD P n f.type d.1 = some xs := by
     intro i hi
     have hfi : fs[i]? = some fs[i] := by simp [hi]
     have := hf i _ hfi
     rw [List.getElem?_eq_getElem (by omega)] at this
     obtain ⟨xs, h1, h2, h3⟩ := trod_shZ hS hF n _ m _ _ (by omega) (hasN_iff.1 (hp.2 _ (by simp))) (wEach_get hwt (j := i) (by rw [List.getElem?_map]; simp [hi]) (by rw [List.getElem?_map, List.getElem?_eq_getElem (by omega)]; rfl)) this
     refine ⟨xs, fun f hf' => ?_⟩
     rw [hfi] at hf'
     cases hf'
     exact ⟨h1, h2, _, List.getElem?_eq_getElem (by omega), h3⟩
    obtain ⟨ys, hyl, hget⟩ := listOf _ key
    obtain ⟨h1, h2⟩ := tiledZ (P := P) (w := w) (g := g) (n := n) fs.toList ys 0 (P.cellsOf t) cs hp.1 (by omega) (by simpa using hyl) (fun i f xs hfi hxi => by
     obtain ⟨k1, k2, _⟩ := hget i xs hxi f (by simpa using hfi)
     rw [Nat.sub_zero]
     exact ⟨k1, k2⟩)
    refine ⟨ys.flatten, by simp only [ShZ, hu]; exact ⟨by rw [h1.1, hl], fun f hfm => by have := (h2 f hfm).2; rwa [Nat.sub_zero] at this⟩, h1, ?_⟩
    simp only [avD, hu]
    rw [mapM_of_get (ys := ys) (by simp; omega) (fun i pr y hpr hy => by
     rw [List.getElem?_zip_eq_some, List.getElem?_map] at hpr
     obtain ⟨_, _, d, hd, h3⟩ := hget i y hy pr.1 (by simpa using hpr.1)
     rw [hd] at hpr
     simp only [Option.map_some, Option.some.injEq] at hpr
     rw [← hpr.2]; exact h3)]
    rfl
   case array k e =>
    simp only [Bool.and_eq_true] at hp
    obtain ⟨zs, m, hm, rfl, hl, hlen, hf⟩ := DataW.trod_array hu h
    simp only [DataW.weights, hu] at hwt
    have hc := Nat.eq_of_beq_eq_true hp.1
    have key : ∀ i, i < k -> ∃ xs : List AV, ShZ P n e xs /\ RepL w g xs ((cs.drop (i * P.cellsOf e)).take (P.cellsOf e)) /\ ∃ d, zs[i]? = some d /\ avD P n e d.1 = some xs := by
     intro i hi
     have := hf i hi
     rw [List.getElem?_eq_getElem (by omega)] at this
     obtain ⟨xs, h1, h2, h3⟩ := trod_shZ hS hF n _ m _ _ (by omega) (hasN_iff.1 hp.2) (wAll_get hwt (j := i) (by rw [List.getElem?_map, List.getElem?_eq_getElem (by omega)]; rfl)) this
     exact ⟨xs, h1, h2, _, List.getElem?_eq_getElem (by omega), h3⟩
    obtain ⟨ys, hyl, hget⟩ := listOf _ key
    obtain ⟨h1, h2⟩ := arr_tiledZ (P := P) (w := w) (g := g) (n := n) (e := e) ys cs (by rw [hyl]; omega) (fun i xs hxi => ⟨(hget i xs hxi).1, (hget i xs hxi).2.1⟩)
    refine ⟨ys.flatten, by simp only [ShZ, hu]; exact ⟨by rw [h1.1, hl], fun i hi => h2 i (by omega)⟩, h1, ?_⟩
    simp only [avD, hu]
    rw [mapM_of_get (ys := ys) (by simp; omega) (fun i d y hd hy => by
     rw [List.getElem?_map] at hd
     obtain ⟨_, _, d', hd', h3⟩ := hget i y hy
     rw [hd'] at hd
     simp only [Option.map_some, Option.some.injEq] at hd
     subst hd; exact h3)]
    rfl
end
def ShZC {H : Type} (P : Program) : List TypeId -> List AV -> List (DataW H) -> Prop
 | [], [], [] => True
 | t :: ts, x :: xs, d :: ds => (∃ n ys, ShZ P n t ys /\ x = argV P t ys /\ avD P n t d = some ys) /\ ShZC P ts xs ds
 | _, _, _ => False
variable {H : Type} {enc : TypeId × Value -> H} {P : Program} {W : World} {g : Gh}
theorem arg_repZ {S : List TypeId} (hS : closedT P S = true) {base : Nat} {t : TypeId} {v : Value} {d : DataW H} {p : List MemPlace} {sp : Nat -> Bool} {held : Bool} (hF : Full W g) (hp : t ∈ S) (ha : noArr P t = true) (hwt : (d.weights P t).all (· <= reachBytes) = true) (hok : Value.okWide P W .any base t v)
  (h : DataW.Trod enc P W 0 sp held t v d p) : ∃ n ys, ShZ P n t ys /\ Rep W g (argV P t ys) v /\ avD P n t d = some ys := by
 obtain ⟨fuel, hf⟩ := h
 obtain ⟨ys, h1, h2, h3⟩ := trod_shZ hS hF fuel t fuel _ _ (Nat.le_refl _) hp hwt hf
 refine ⟨fuel, ys, h1, ?_, h3⟩
 have hp := List.all_eq_true.1 hS t hp
 unfold stepT at hp
 unfold noArr at ha
 unfold argV
 have one : ∀ (x : AV), ys = [x] -> v.cells.toList = [v] -> Rep W g (ys.headD .nilI) v := by
  intro x hx hv
  subst hx
  rw [hv] at h2
  obtain ⟨u, hu, hr, _⟩ := h2.2 0 x rfl
  simp at hu
  subst hu
  exact hr
 have head : ∀ (x : AV), v.cells.toList = [v] -> ys.length = 1 -> Rep W g (ys.headD .nilI) v := by
  intro x hv hl
  match ys, hl with
  | [y], _ => exact one y rfl hv
 cases hu : P.underlying t with
 | none => rw [hu] at hp; cases hp
 | some dd =>
  rw [hu] at hp ha
  cases dd <;> simp only [Bool.false_eq_true] at hp ha
  case struct fs =>
   obtain ⟨cs, rfl, _⟩ := okWide_struct hu hok
   simp only
   have hlen : cs.size = ys.length := by have := h2.1; simp [Value.cells] at this; exact this.symm
   exact .agg ys cs hlen (fun j => cs.getD j undef) (fun j c hj => by
    obtain ⟨u, hu', _, ho⟩ := h2.2 j c hj
    have : cs[j]? = some u := by simpa [Value.cells] using hu'
    exact ⟨by rw [this]; simp [Array.getD_eq_getD_getElem?, this], ho⟩) (fun j c hj => by
    obtain ⟨u, hu', hr, _⟩ := h2.2 j c hj
    have : cs[j]? = some u := by simpa [Value.cells] using hu'
    simp only [Array.getD_eq_getD_getElem?, this, Option.getD_some]
    exact hr)
  all_goals simp only
  all_goals (
   have hv : v.cells.toList = [v] := by
    first
    | (obtain ⟨_, rfl⟩ := okWide_bool hu hok; rfl)
    | (obtain ⟨_, rfl⟩ := okWide_int hu hok; rfl)
    | (obtain ⟨_, rfl⟩ := okWide_string hu hok; rfl)
    | (obtain ⟨_, rfl⟩ := okWide_pointer hu hok; rfl)
    | (obtain ⟨_, _, _, rfl⟩ := okWide_slice hu hok; rfl)
   exact head .nilI hv (by rw [h2.1, hv]; rfl))
theorem args_repZ {S : List TypeId} (hS : closedT P S = true) {base : Nat} {sp : Nat -> Bool} {held : Bool} (hF : Full W g) : ∀ (ts : List TypeId) (vs : List Value) (ds : List (DataW H)) (p : List MemPlace),
  (∀ t ∈ ts, t ∈ S /\ noArr P t = true) -> (DataW.weightsEach P ts ds).all (· <= reachBytes) = true -> (∀ (j : Nat) t v, ts[j]? = some t -> vs[j]? = some v -> Value.okWide P W .any base t v) -> DataW.TrodAll enc P W 0 sp held ts vs ds p ->
  ∃ xs : List AV, ShZC P ts xs ds /\ xs.length = vs.length /\ ∀ (j : Nat) (x : AV), xs[j]? = some x -> ∃ u, vs[j]? = some u /\ Rep W g x u
 | [], [], [], _, _, _, _, _ => ⟨[], trivial, rfl, fun j x h => by simp at h⟩
 | t :: ts, v :: vs, d :: ds, _, hp, hwt, hok, ⟨p, q, h, hs, _⟩ => by
  simp only [DataW.weightsEach, List.all_append, Bool.and_eq_true] at hwt
  obtain ⟨h1, h2⟩ := hp t (by simp)
  obtain ⟨n, ys, hy, hr, hd⟩ := arg_repZ hS hF h1 h2 hwt.1 (hok 0 t v rfl rfl) h
  obtain ⟨xs, h3, h4, h5⟩ := args_repZ hS hF ts vs ds q (fun t ht => hp t (by simp [ht])) hwt.2 (fun j t v hj hv => hok (j + 1) t v (by simpa using hj) (by simpa using hv)) hs
  refine ⟨argV P t ys :: xs, ⟨⟨n, ys, hy, rfl, hd⟩, h3⟩, by simp [h4], fun j x hj => ?_⟩
  cases j with
  | zero => simp at hj; subst hj; exact ⟨v, rfl, hr⟩
  | succ j => simp only [List.getElem?_cons_succ] at hj ⊢; exact h5 j x hj
 | [], _ :: _, _, _, _, _, _, h => False.elim h
 | [], [], _ :: _, _, _, _, _, h => False.elim h
 | _ :: _, [], _, _, _, _, _, h => False.elim h
 | _ :: _, _ :: _, [], _, _, _, _, h => False.elim h
end Go.Proofs.Am
namespace Go.Proofs.Am
open Go Go.RowKit Go.ChangeShapes Go.WideShapes
variable {H : Type} {enc : TypeId × Value -> H}
def upSpec (s : ChangeSpec) (k : (H : Type) -> List (DataW H) -> Bool) : OpenSpec := { OpenSpec.ofChange s with cond := some k }
def CondMet (enc : TypeId × Value -> H) (P : Program) (f : Func) (s : ChangeSpec) (k : (H : Type) -> List (DataW H) -> Bool) (w : World) (args : Array Value) : Prop :=
 ∃ ds gs before, DataW.Whole enc P f.params.toList s.vars false w args.toList ds gs before /\ k H (ds ++ gs) = true
theorem CondMet.of_heap {P : Program} {f : Func} {s : ChangeSpec} {k : (H : Type) -> List (DataW H) -> Bool} {w w' : World} {args : Array Value} (hh : w.heap = w'.heap) (h : CondMet enc P f s k w args) : CondMet enc P f s k w' args := by
 obtain ⟨ds, gs, before, h1, h2⟩ := h
 exact ⟨ds, gs, before, DataW.Whole.of_heap hh h1, h2⟩
theorem CondMet.of_run {P : Program} {f : Func} {s : ChangeSpec} {k : (H : Type) -> List (DataW H) -> Bool} {w : World} {args : Array Value} (fuel : Nat)
  (h : (match DataW.whole enc P w f.params.toList s.vars false args.toList fuel with | some x => k H (x.1 ++ x.2.1) | none => false) = true) : CondMet enc P f s k w args := by
 split at h
 ·rename_i x hx
  exact ⟨_, _, _, DataW.Whole_of_whole hx, h⟩
 ·cases h
theorem up_pre {P : Program} {f : Func} {s : ChangeSpec} {k : (H : Type) -> List (DataW H) -> Bool} {w : World} {args : Array Value} :
  (upSpec s k).pre enc P f [] false w args ↔ s.pre enc P f [] false w args /\ CondMet enc P f s k w args := by
 rw [OpenSpec.pre_some (s := upSpec s k) (k := k) rfl]
 constructor
 ·rintro ⟨ds, gs, before, h1, h2, h3⟩
  exact ⟨⟨ds, gs, before, h1, h2⟩, ⟨ds, gs, before, h1, h3⟩⟩
 ·rintro ⟨⟨ds, gs, before, h1, h2⟩, ⟨ds', gs', before', h1', h3⟩⟩
  obtain ⟨rfl, rfl, _⟩ := h1.unique h1'
  exact ⟨ds, gs, before, h1, h2, h3⟩
theorem law_liftedU {S : List TypeId} {C : Checked} {os : Os} {f : FuncId} {fn : Func} {s : ChangeSpec} {k : (H : Type) -> List (DataW H) -> Bool} {tb : TypeId} {laid : List (String × DataW Unit)} (started : os.Started) (own : ownKnob C.prog.godebug = none) (noInit : C.prog.inits.idxOf? f = none) (hfn : C.prog.funcs[f]? = some fn)
  (hres : fn.resultTypes.toList = [tb]) (htb : C.prog.underlying tb = some .bool) (hsz : fn.resultTypes.size = 1) (hvars : s.vars = [])
  (hs : ∀ (ds : List (DataW H)), ds.length = fn.params.toList.length -> (s.fn H ds).results = [.lit (.bool true)] /\ (s.fn H ds).args = ds /\ (s.fn H ds).vars = [])
  (hl : laidOutB C.prog = true) (hS : closedT C.prog S = true) (hr : (fn.params.toList.all fun t => C.prog.readableRec t && decide (t < C.prog.types.size) && hasN S t && noArr C.prog t) = true)
  (witness : ∃ (w : World) (tape : Tape) (i : Input), w.os = os /\ (w.forCall tape i).Shaped C.prog /\ i.vars = [] /\ Input.okWide C.prog (w.forCall tape i) .any w.heap.size f i /\
   ((s.pre enc C.prog fn [] false (w.forCall tape i).memory i.args /\ (laidMetH C.prog laid (w.forCall tape i).memory /\ CondMet enc C.prog fn s k (w.forCall tape i).memory i.args)) /\ sizedMet enc C.prog fn (OpenSpec.ofChange s) false (w.forCall tape i).memory i.args) /\ Assume.holds {} C.prog (lone (Frame.enter C.prog f i.args .normal) [] (w.forCall tape i)))
  (law : ∀ W : World, laidMetH C.prog laid W -> W.ShapedOpen C.prog -> ∀ (ds : List (DataW H)) (xs : List AV), ShZC C.prog fn.params.toList xs ds -> k H ds = true ->
   ∃ (cx : Cx) (c : Code) (h' : Heap), cx.P = C.prog /\ CxOk cx /\ GOk cx W (gFull W) /\ fn.body = some c /\ cutAt cx f [.code c] = none /\ blk cx f [.code c] (xs.map .v) Heap.nil = some (.v (.bool true), h')) :
  ReturnsInHanded {} C os f .any (fun w args => ((upSpec s k).pre enc C.prog fn [] false w args /\ laidMetH C.prog laid w) /\ sizedMet enc C.prog fn (upSpec s k) false w args)
   (s.post enc C.prog fn false true false false) := by
 have epre : (fun (w : World) (args : Array Value) => ((upSpec s k).pre enc C.prog fn [] false w args /\ laidMetH C.prog laid w) /\ sizedMet enc C.prog fn (upSpec s k) false w args) =
   fun w args => (s.pre enc C.prog fn [] false w args /\ (laidMetH C.prog laid w /\ CondMet enc C.prog fn s k w args)) /\ sizedMet enc C.prog fn (OpenSpec.ofChange s) false w args := by
  funext w args
  apply propext
  rw [up_pre]
  constructor
  ·rintro ⟨⟨⟨a, b⟩, c⟩, d⟩
   exact ⟨⟨a, c, b⟩, d⟩
  ·rintro ⟨⟨a, c, b⟩, d⟩
   exact ⟨⟨⟨a, b⟩, c⟩, d⟩
 rw [epre]
 refine handed_and_shaped (C := C) (X := fun w args => laidMetH C.prog laid w /\ CondMet enc C.prog fn s k w args) (fun _ _ _ hh h => ⟨h.1.of_heap hh, h.2.of_heap hh⟩) own started noInit hfn witness ?_
 intro W base args ds gs before hval hW _ hwt hX hsh _
 obtain ⟨hL, ds', gs', before', hW2, hk⟩ := hX
 obtain ⟨rfl, rfl, _⟩ := hW.unique hW2
 have hlt := hW.lt
 have hW' := hW
 obtain ⟨p, q, hA, hV, rfl, hfz, hnd⟩ := hW
 rw [hvars] at hV
 obtain ⟨rfl, rfl⟩ := trodVars_none hV
 have hall : ∀ t ∈ fn.params.toList, (C.prog.readableRec t = true /\ t < C.prog.types.size) /\ t ∈ S /\ noArr C.prog t = true := by
  intro t ht
  have := List.all_eq_true.1 hr t ht
  simp only [Bool.and_eq_true, decide_eq_true_eq] at this
  exact ⟨this.1.1, hasN_iff.1 this.1.2, this.2⟩
 obtain ⟨xs, h1, h2, h3⟩ := args_repZ hS (gFull_full W) fn.params.toList args.toList ds p (fun t ht => (hall t ht).2) (wApp (trod_len hA) hwt) (fun j t v hj hv => hval j t v (by simpa using hj) (by simpa using hv)) hA
 obtain ⟨cx, c, h', hP, hC, hG, hc, hcut, hblk⟩ := law W hL hsh ds xs h1 (by simpa using hk)
 have hcalls := law_true hC (by rw [hP]; exact hfn) hc hcut hG (xs := xs) (vs := args) (by simpa using h2.symm) (fun j x hj => by
  obtain ⟨u, hu, hrp⟩ := h3 j x hj
  exact ⟨u, by simpa using hu, hrp⟩) hblk
 rw [hP] at hcalls
 refine hcalls.mono fun e W' ⟨he, bel⟩ => ?_
 subst he
 obtain ⟨s1, s2, s3⟩ := hs ds (trod_len hA)
 refine ⟨_, rfl, ds, [], p ++ [], [], p, [], hW', ?_, ?_, ?_, bel.frame _, fun h => by cases h⟩
 ·rw [List.append_nil, s1, hres, hsz]
  exact trodAll_mk1 (shut_bool htb _)
 ·rw [List.append_nil, s2]
  exact args_stay hl bel _ _ _ _ (fun t ht => (hall t ht).1) (fun x hx => hlt x (by simpa using hx)) hA
 ·rw [List.append_nil, s3, hvars]
  rfl
end Go.Proofs.Am
namespace Go.Proofs.Am
open Go
inductive Ins where
 | mk (op a b v t : Int) (l : List Int) (body els : List Ins) (has : Bool)
def encN (l : List Int) : List (List AV) := l.map fun x => [.int .i64 x]
mutual
def encI : Ins -> List AV
 | .mk op a b v t l body els has => [.int .i64 op, .int .i64 a, .int .i64 b, .int .u64 v, .int .i64 t, .imm (encN l), .imm (encIs body), .imm (encIs els), .bool has]
def encIs : List Ins -> List (List AV)
 | [] => []
 | x :: xs => encI x :: encIs xs
end
theorem encIs_map : ∀ l : List Ins, encIs l = l.map encI
 | [] => rfl
 | x :: l => by simp [encIs, encIs_map l]
theorem encIs_len (l : List Ins) : (encIs l).length = l.length := by rw [encIs_map, List.length_map]
theorem encI_len (x : Ins) : (encI x).length = 9 := by cases x; rfl
structure InsT (P : Program) (tI tN tV tL tB tQ : TypeId) : Prop where
 hN : P.underlying tN = some (.int .i64)
 hV : P.underlying tV = some (.int .u64)
 hQ : P.underlying tQ = some .bool
 hL : P.underlying tL = some (.slice tN)
 hB : P.underlying tB = some (.slice tI)
 fs : ∃ fs, P.underlying tI = some (.struct fs) /\ fs.toList.map (fun f => (f.type, f.offset, P.cellsOf f.type)) = [(tN, 0, 1), (tN, 1, 1), (tN, 2, 1), (tV, 3, 1), (tN, 4, 1), (tL, 5, 1), (tB, 6, 1), (tB, 7, 1), (tQ, 8, 1)]
 hc : P.cellsOf tI = 9
theorem list_of {A B : Type} {f : A -> B} {Q : A -> Prop} : ∀ (zs : List B), (∀ z, z ∈ zs -> ∃ x, z = f x /\ Q x) -> ∃ l : List A, zs = l.map f /\ ∀ x, x ∈ l -> Q x
 | [], _ => ⟨[], rfl, fun x h => by cases h⟩
 | z :: zs, h => by
  obtain ⟨x, rfl, hx⟩ := h z (by simp)
  obtain ⟨l, rfl, hl⟩ := list_of zs (fun z hz => h z (by simp [hz]))
  exact ⟨x :: l, rfl, fun y hy => by
   rcases List.mem_cons.1 hy with rfl | hy
   ·exact hx
   ·exact hl y hy⟩
theorem list9 {A : Type} {ys : List A} (h : ys.length = 9) : ∃ c0 c1 c2 c3 c4 c5 c6 c7 c8, ys = [c0, c1, c2, c3, c4, c5, c6, c7, c8] := by
 match ys, h with
 | [c0, c1, c2, c3, c4, c5, c6, c7, c8], _ => exact ⟨c0, c1, c2, c3, c4, c5, c6, c7, c8, rfl⟩
inductive Fit : Ins -> Prop
 | mk (op a b v t : Int) (l : List Int) (body els : List Ins) (has : Bool) (hl : l.length <= maxLen) (hb : body.length <= maxLen) (he : els.length <= maxLen) (h1 : ∀ x, x ∈ body -> Fit x) (h2 : ∀ x, x ∈ els -> Fit x) : Fit (.mk op a b v t l body els has)
end Go.Proofs.Am
namespace Go.Proofs.Am
open Go Go.RowKit Go.ChangeShapes Go.WideShapes
theorem argV_slice {P : Program} {t e : TypeId} (h : P.underlying t = some (.slice e)) (x : AV) : argV P t [x] = x := by simp [argV, h]
theorem argV_struct {P : Program} {t : TypeId} {fs : Array Field} (h : P.underlying t = some (.struct fs)) (ys : List AV) : argV P t ys = .agg ys := by simp [argV, h]
theorem body_eq {P : Program} {f : FuncId} {fn : Func} {c : Code} (h : P.funcs[f]? = some fn) (hc : fn.body = some c) : body_ P f = [.code c] := by simp only [body_, h, hc]
structure StT (P : Program) (t : TypeId) (L : List (TypeId × Nat × Nat)) (c : Nat) : Prop where
 fs : ∃ fs, P.underlying t = some (.struct fs) /\ fs.toList.map (fun f => (f.type, f.offset, P.cellsOf f.type)) = L
 hc : P.cellsOf t = c
end Go.Proofs.Am
namespace Go.Proofs.Am
open Go Go.RowKit Go.ChangeShapes Go.WideShapes
def encB (l : List Int) : List (List AV) := l.map fun x => [.int .u8 x]
theorem encN_len (l : List Int) : (encN l).length = l.length := by simp [encN]
def InZ (i : Int) : Prop := -9223372036854775808 <= i /\ i < 9223372036854775808
def InU (i : Int) : Prop := 0 <= i /\ i < 18446744073709551616
def InB (i : Int) : Prop := 0 <= i /\ i < 256
def FitL {A : Type} (n : Nat) (F : A -> Prop) (l : List A) : Prop := l.length * n <= reachBytes /\ ∀ x, x ∈ l -> F x
theorem reach_le : reachBytes <= maxLen := Nat.le_of_ble_eq_true (by kernel_rfl)
theorem FitL.len {A : Type} {n : Nat} {F : A -> Prop} {l : List A} (h : FitL n F l) (hn : 0 < n) : l.length <= maxLen :=
 Nat.le_trans (Nat.le_trans (Nat.le_mul_of_pos_right _ hn) h.1) reach_le
inductive FitZ : Ins -> Prop
 | mk (op a b v t : Int) (l : List Int) (body els : List Ins) (has : Bool) (ho : InZ op) (ha : InZ a) (hb : InZ b) (hv : InU v) (ht : InZ t) (hl : FitL 8 InZ l)
   (hbd : body.length * 120 <= reachBytes) (hel : els.length * 120 <= reachBytes) (h1 : ∀ x, x ∈ body -> FitZ x) (h2 : ∀ x, x ∈ els -> FitZ x) : FitZ (.mk op a b v t l body els has)
theorem FitZ.fit {x : Ins} (h : FitZ x) : Fit x := by
 induction h with
 | mk op a b v t l bd el q ho ha hb hv ht hl hbd hel h1 h2 i1 i2 =>
  exact .mk _ _ _ _ _ _ _ _ _ (hl.len (by decide)) (FitL.len (n := 120) (F := FitZ) ⟨hbd, h1⟩ (by decide)) (FitL.len (n := 120) (F := FitZ) ⟨hel, h2⟩ (by decide)) i1 i2
theorem z_k {P : Program} {t : TypeId} {k : IntKind} (h : P.underlying t = some (.int k)) {n : Nat} {ys : List AV} (hs : ShZ P n t ys) : ∃ i, ys = [.int k i] /\ (Lit.int k i).wf = true := by
 cases n with
 | zero => exact False.elim hs
 | succ n => simp only [ShZ, h] at hs; exact hs
theorem z_i64 {P : Program} {t : TypeId} (h : P.underlying t = some (.int .i64)) {n : Nat} {ys : List AV} (hs : ShZ P n t ys) : ∃ i, ys = [.int .i64 i] /\ InZ i := by
 obtain ⟨i, rfl, hw⟩ := z_k h hs
 refine ⟨i, rfl, ?_⟩
 simp only [Lit.wf, Bool.and_eq_true, decide_eq_true_eq, show IntKind.i64.min = -9223372036854775808 from rfl, show IntKind.i64.max = 9223372036854775807 from rfl] at hw
 unfold InZ
 omega
theorem z_u64 {P : Program} {t : TypeId} (h : P.underlying t = some (.int .u64)) {n : Nat} {ys : List AV} (hs : ShZ P n t ys) : ∃ i, ys = [.int .u64 i] /\ InU i := by
 obtain ⟨i, rfl, hw⟩ := z_k h hs
 refine ⟨i, rfl, ?_⟩
 simp only [Lit.wf, Bool.and_eq_true, decide_eq_true_eq, show IntKind.u64.min = 0 from rfl, show IntKind.u64.max = 18446744073709551615 from rfl] at hw
 unfold InU
 omega
theorem z_bool {P : Program} {t : TypeId} (h : P.underlying t = some .bool) {n : Nat} {ys : List AV} (hs : ShZ P n t ys) : ∃ b, ys = [.bool b] := by
 cases n with
 | zero => exact False.elim hs
 | succ n => simp only [ShZ, h] at hs; exact hs
theorem z_slice {P : Program} {t e : TypeId} (h : P.underlying t = some (.slice e)) {n : Nat} {ys : List AV} (hs : ShZ P n t ys) : ∃ m zs, n = m + 1 /\ ys = [.imm zs] /\ zs.length * P.bytesOf e <= reachBytes /\ ∀ z, z ∈ zs -> ShZ P m e z := by
 cases n with
 | zero => exact False.elim hs
 | succ n =>
  simp only [ShZ, h] at hs
  obtain ⟨zs, rfl, _, h1, h2⟩ := hs
  exact ⟨n, zs, rfl, rfl, h1, h2⟩
theorem z_st {P : Program} {t : TypeId} {L : List (TypeId × Nat × Nat)} {c : Nat} (T : StT P t L c) {n : Nat} {ys : List AV} (hs : ShZ P n t ys) :
  ∃ m, n = m + 1 /\ ys.length = c /\ ∀ (u : TypeId) (o k : Nat), (u, o, k) ∈ L -> ShZ P m u ((ys.drop o).take k) := by
 cases n with
 | zero => exact False.elim hs
 | succ n =>
  obtain ⟨fs, hu, hfs⟩ := T.fs
  simp only [ShZ, hu] at hs
  obtain ⟨hlen, hf⟩ := hs
  refine ⟨n, rfl, by rw [hlen, T.hc], fun u o k hm => ?_⟩
  rw [← hfs] at hm
  obtain ⟨f, hfm, he⟩ := List.mem_map.1 hm
  simp only [Prod.mk.injEq] at he
  obtain ⟨rfl, rfl, rfl⟩ := he
  exact hf f hfm
theorem z_list {P : Program} {A : Type} {f : A -> List AV} {F : A -> Prop} {t e : TypeId} {b : Nat} (h : P.underlying t = some (.slice e)) (hb : P.bytesOf e = b) (hf : ∀ m z, ShZ P m e z -> ∃ x, z = f x /\ F x) {n : Nat} {ys : List AV} (hs : ShZ P n t ys) : ∃ l : List A, ys = [.imm (l.map f)] /\ FitL b F l := by
 obtain ⟨m, zs, _, rfl, h1, h2⟩ := z_slice h hs
 obtain ⟨l, rfl, hl⟩ := list_of (f := f) (Q := F) zs (fun z hz => hf m z (h2 z hz))
 rw [hb] at h1
 exact ⟨l, rfl, by simpa using h1, hl⟩
theorem z_ints {P : Program} {t e : TypeId} (h : P.underlying t = some (.slice e)) (he : P.underlying e = some (.int .i64)) (hb : P.bytesOf e = 8) {n : Nat} {ys : List AV} (hs : ShZ P n t ys) : ∃ l : List Int, ys = [.imm (encN l)] /\ FitL 8 InZ l :=
 z_list h hb (fun _ _ hz => z_i64 he hz) hs
theorem z_ins {P : Program} {tI tN tV tL tB tQ : TypeId} (T : InsT P tI tN tV tL tB tQ) (bn : P.bytesOf tN = 8) (bi : P.bytesOf tI = 120) : ∀ (n : Nat) (ys : List AV), ShZ P n tI ys -> ∃ x, ys = encI x /\ FitZ x := by
 intro n
 induction n using Nat.strongRecOn with
 | _ n ih =>
  intro ys hs
  obtain ⟨m, rfl, hlen, get⟩ := z_st ⟨T.fs, T.hc⟩ hs
  obtain ⟨c0, c1, c2, c3, c4, c5, c6, c7, c8, rfl⟩ := list9 hlen
  obtain ⟨i0, h0, g0⟩ := z_i64 T.hN (get tN 0 1 (by simp))
  obtain ⟨i1, h1, g1⟩ := z_i64 T.hN (get tN 1 1 (by simp))
  obtain ⟨i2, h2, g2⟩ := z_i64 T.hN (get tN 2 1 (by simp))
  obtain ⟨i3, h3, g3⟩ := z_u64 T.hV (get tV 3 1 (by simp))
  obtain ⟨i4, h4, g4⟩ := z_i64 T.hN (get tN 4 1 (by simp))
  obtain ⟨l, h5, hl⟩ := z_ints T.hL T.hN bn (get tL 5 1 (by simp))
  obtain ⟨q, h8⟩ := z_bool T.hQ (get tQ 8 1 (by simp))
  have code : ∀ (c : AV), ShZ P m tB [c] -> ∃ l : List Ins, c = .imm (encIs l) /\ FitL 120 FitZ l := by
   intro c hc
   obtain ⟨k, zs, hm, hz, k1, k2⟩ := z_slice T.hB hc
   simp only [List.cons.injEq, and_true] at hz
   obtain ⟨l, rfl, hl⟩ := list_of (f := encI) (Q := FitZ) zs (fun z hz => ih k (by omega) z (k2 z hz))
   rw [bi] at k1
   exact ⟨l, by rw [hz, encIs_map], by simpa using k1, hl⟩
  obtain ⟨b, h6, hb⟩ := code c6 (get tB 6 1 (by simp))
  obtain ⟨e, h7, he⟩ := code c7 (get tB 7 1 (by simp))
  simp only [List.drop_zero, List.drop_succ_cons, List.take_succ_cons, List.take_zero, List.cons.injEq, and_true] at h0 h1 h2 h3 h4 h5 h8
  subst h0; subst h1; subst h2; subst h3; subst h4; subst h5; subst h6; subst h7; subst h8
  exact ⟨.mk i0 i1 i2 i3 i4 l b e q, rfl, .mk _ _ _ _ _ _ _ _ _ g0 g1 g2 g3 g4 hl hb.1 he.1 hb.2 he.2⟩
theorem z_code {P : Program} {tI tN tV tL tB tQ : TypeId} (T : InsT P tI tN tV tL tB tQ) (bn : P.bytesOf tN = 8) (bi : P.bytesOf tI = 120) {n : Nat} {ys : List AV} (hs : ShZ P n tB ys) : ∃ l : List Ins, ys = [.imm (encIs l)] /\ FitL 120 FitZ l := by
 obtain ⟨l, rfl, hl⟩ := z_list T.hB bi (fun m z hz => z_ins T bn bi m z hz) hs
 exact ⟨l, by rw [encIs_map], hl⟩
theorem zc_cons {H : Type} {P : Program} {t : TypeId} {ts : List TypeId} {xs : List AV} {ds : List (DataW H)} (h : ShZC P (t :: ts) xs ds) :
  ∃ n ys xs' d ds', xs = argV P t ys :: xs' /\ ds = d :: ds' /\ ShZ P n t ys /\ avD P n t d = some ys /\ ShZC P ts xs' ds' := by
 match xs, ds, h with
 | x :: xs, d :: ds, ⟨⟨n, ys, h1, h2, h3⟩, h4⟩ => exact ⟨n, ys, xs, d, ds, by rw [h2], rfl, h1, h3, h4⟩
theorem zc_nil {H : Type} {P : Program} {xs : List AV} {ds : List (DataW H)} (h : ShZC P [] xs ds) : xs = [] := by
 match xs, ds, h with
 | [], [], _ => rfl
structure FTy where
 p : List Int
 r : List Int
def FTy.enc (x : FTy) : List AV := [.imm (encN x.p), .imm (encN x.r)]
def FTy.Fit (x : FTy) : Prop := FitL 8 InZ x.p /\ FitL 8 InZ x.r
theorem FTy.enc_len (x : FTy) : x.enc.length = 2 := by rfl
structure Lim where
 lo : Int
 hi : Int
 has : Bool
def Lim.enc (x : Lim) : List AV := [.int .i64 x.lo, .int .i64 x.hi, .bool x.has]
def Lim.Fit (x : Lim) : Prop := InZ x.lo /\ InZ x.hi
theorem Lim.enc_len (x : Lim) : x.enc.length = 3 := by rfl
structure Imp where
 m : ByteArray
 n : ByteArray
 k : Int
 t : Int
 mu : Bool
 l : Lim
def Imp.enc (x : Imp) : List AV := [.str x.m, .str x.n, .int .i64 x.k, .int .i64 x.t, .bool x.mu] ++ Lim.enc x.l
def Imp.Fit (x : Imp) : Prop := x.m.size <= reachBytes /\ x.n.size <= reachBytes /\ InZ x.k /\ InZ x.t /\ Lim.Fit x.l
theorem Imp.enc_len (x : Imp) : x.enc.length = 8 := by simp [Imp.enc, Lim.enc_len]
structure MFn where
 t : Int
 l : List Int
 b : List Ins
def MFn.enc (x : MFn) : List AV := [.int .i64 x.t, .imm (encN x.l), .imm (encIs x.b)]
def MFn.Fit (x : MFn) : Prop := InZ x.t /\ FitL 8 InZ x.l /\ FitL 120 FitZ x.b
theorem MFn.enc_len (x : MFn) : x.enc.length = 3 := by rfl
structure Glo where
 t : Int
 mu : Bool
 i : Ins
def Glo.enc (x : Glo) : List AV := [.int .i64 x.t, .bool x.mu] ++ encI x.i
def Glo.Fit (x : Glo) : Prop := InZ x.t /\ FitZ x.i
theorem Glo.enc_len (x : Glo) : x.enc.length = 11 := by simp [Glo.enc, encI_len]
structure Exq where
 n : ByteArray
 k : Int
 i : Int
def Exq.enc (x : Exq) : List AV := [.str x.n, .int .i64 x.k, .int .i64 x.i]
def Exq.Fit (x : Exq) : Prop := x.n.size <= reachBytes /\ InZ x.k /\ InZ x.i
theorem Exq.enc_len (x : Exq) : x.enc.length = 3 := by rfl
structure Ele where
 o : Ins
 f : List Int
def Ele.enc (x : Ele) : List AV := encI x.o ++ [.imm (encN x.f)]
def Ele.Fit (x : Ele) : Prop := FitZ x.o /\ FitL 8 InZ x.f
theorem Ele.enc_len (x : Ele) : x.enc.length = 10 := by simp [Ele.enc, encI_len]
structure Dat where
 o : Ins
 b : List Int
def Dat.enc (x : Dat) : List AV := encI x.o ++ [.imm (encB x.b)]
def Dat.Fit (x : Dat) : Prop := FitZ x.o /\ FitL 1 InB x.b
theorem Dat.enc_len (x : Dat) : x.enc.length = 10 := by simp [Dat.enc, encI_len]
structure Cus where
 n : ByteArray
 b : List Int
def Cus.enc (x : Cus) : List AV := [.str x.n, .imm (encB x.b)]
def Cus.Fit (x : Cus) : Prop := x.n.size <= reachBytes /\ FitL 1 InB x.b
theorem Cus.enc_len (x : Cus) : x.enc.length = 2 := by rfl
structure Mdl where
 ty : List FTy
 im : List Imp
 fu : List MFn
 ta : List Lim
 me : List Lim
 gl : List Glo
 ex : List Exq
 st : Int
 el : List Ele
 da : List Dat
 cu : List Cus
def Mdl.enc (x : Mdl) : List AV := [.imm (x.ty.map FTy.enc), .imm (x.im.map Imp.enc), .imm (x.fu.map MFn.enc), .imm (x.ta.map Lim.enc), .imm (x.me.map Lim.enc), .imm (x.gl.map Glo.enc), .imm (x.ex.map Exq.enc), .int .i64 x.st, .imm (x.el.map Ele.enc), .imm (x.da.map Dat.enc), .imm (x.cu.map Cus.enc)]
def Mdl.Fit (x : Mdl) : Prop := FitL 48 FTy.Fit x.ty /\ FitL 80 Imp.Fit x.im /\ FitL 56 MFn.Fit x.fu /\ FitL 24 Lim.Fit x.ta /\ FitL 24 Lim.Fit x.me /\ FitL 136 Glo.Fit x.gl /\ FitL 32 Exq.Fit x.ex /\ InZ x.st /\ FitL 144 Ele.Fit x.el /\ FitL 144 Dat.Fit x.da /\ FitL 40 Cus.Fit x.cu
theorem Mdl.enc_len (x : Mdl) : x.enc.length = 11 := by rfl
structure MTy where
 (n v l b i q s u y fty lim imp mfn glo exq ele dat cus mdl ftys lims imps mfns glos exqs eles dats cuss : TypeId)
structure ModT (P : Program) (T : MTy) : Prop where
 ins : InsT P T.i T.n T.v T.l T.b T.q
 hs : P.underlying T.s = some .string
 hu : P.underlying T.u = some (.int .u8)
 hy : P.underlying T.y = some (.slice T.u)
 bn : P.bytesOf T.n = 8
 bi : P.bytesOf T.i = 120
 bu : P.bytesOf T.u = 1
 hfty : StT P T.fty [(T.l, 0, 1), (T.l, 1, 1)] 2
 hftys : P.underlying T.ftys = some (.slice T.fty)
 bfty : P.bytesOf T.fty = 48
 hlim : StT P T.lim [(T.n, 0, 1), (T.n, 1, 1), (T.q, 2, 1)] 3
 hlims : P.underlying T.lims = some (.slice T.lim)
 blim : P.bytesOf T.lim = 24
 himp : StT P T.imp [(T.s, 0, 1), (T.s, 1, 1), (T.n, 2, 1), (T.n, 3, 1), (T.q, 4, 1), (T.lim, 5, 3)] 8
 himps : P.underlying T.imps = some (.slice T.imp)
 bimp : P.bytesOf T.imp = 80
 hmfn : StT P T.mfn [(T.n, 0, 1), (T.l, 1, 1), (T.b, 2, 1)] 3
 hmfns : P.underlying T.mfns = some (.slice T.mfn)
 bmfn : P.bytesOf T.mfn = 56
 hglo : StT P T.glo [(T.n, 0, 1), (T.q, 1, 1), (T.i, 2, 9)] 11
 hglos : P.underlying T.glos = some (.slice T.glo)
 bglo : P.bytesOf T.glo = 136
 hexq : StT P T.exq [(T.s, 0, 1), (T.n, 1, 1), (T.n, 2, 1)] 3
 hexqs : P.underlying T.exqs = some (.slice T.exq)
 bexq : P.bytesOf T.exq = 32
 hele : StT P T.ele [(T.i, 0, 9), (T.l, 9, 1)] 10
 heles : P.underlying T.eles = some (.slice T.ele)
 bele : P.bytesOf T.ele = 144
 hdat : StT P T.dat [(T.i, 0, 9), (T.y, 9, 1)] 10
 hdats : P.underlying T.dats = some (.slice T.dat)
 bdat : P.bytesOf T.dat = 144
 hcus : StT P T.cus [(T.s, 0, 1), (T.y, 1, 1)] 2
 hcuss : P.underlying T.cuss = some (.slice T.cus)
 bcus : P.bytesOf T.cus = 40
 hmdl : StT P T.mdl [(T.ftys, 0, 1), (T.imps, 1, 1), (T.mfns, 2, 1), (T.lims, 3, 1), (T.lims, 4, 1), (T.glos, 5, 1), (T.exqs, 6, 1), (T.n, 7, 1), (T.eles, 8, 1), (T.dats, 9, 1), (T.cuss, 10, 1)] 11
section
variable {P : Program} {T : MTy}
theorem cut_fty {A : Type} (ys : List A) (h : ys.length = 2) : ys = (ys.drop 0).take 1 ++ ((ys.drop 1).take 1) := by
 have t (o k : Nat) (zs : List A) (h2 : ys.drop (o + k) = zs) : ys.drop o = (ys.drop o).take k ++ zs := by
  rw [← h2, ← List.drop_drop, List.take_append_drop]
 have e : ys.drop 1 = (ys.drop 1).take 1 := (List.take_of_length_le (by simp; omega)).symm
 have e := t 0 1 _ e
 exact e
theorem cut_glo {A : Type} (ys : List A) (h : ys.length = 11) : ys = (ys.drop 0).take 1 ++ ((ys.drop 1).take 1 ++ ((ys.drop 2).take 9)) := by
 have t (o k : Nat) (zs : List A) (h2 : ys.drop (o + k) = zs) : ys.drop o = (ys.drop o).take k ++ zs := by
  rw [← h2, ← List.drop_drop, List.take_append_drop]
 have e : ys.drop 2 = (ys.drop 2).take 9 := (List.take_of_length_le (by simp; omega)).symm
 have e := t 1 1 _ e
 have e := t 0 1 _ e
 exact e
end
end Go.Proofs.Am
namespace Go.Proofs.Am
open Go Go.RowKit
theorem ltZ_t {a b : Int} (h : a < b) : ltZ a b = true := by rw [ltZ_eq]; exact decide_eq_true h
theorem ltZ_f {a b : Int} (h : b <= a) : ltZ a b = false := by rw [ltZ_eq]; exact decide_eq_false (by omega)
theorem leZ_t {a b : Int} (h : a <= b) : leZ a b = true := by rw [leZ_eq]; exact decide_eq_true h
theorem leZ_f {a b : Int} (h : b < a) : leZ a b = false := by rw [leZ_eq]; exact decide_eq_false (by omega)
theorem eqZ_t {a b : Int} (h : a = b) : eqZ a b = true := by rw [eqZ_eq, h]; exact beq_self_eq_true b
theorem eqZ_f {a b : Int} (h : a ≠ b) : eqZ a b = false := by rw [eqZ_eq]; exact beq_false_of_ne h
theorem leZ_i {a b : Int} {q : Bool} (h : leZ a b = q) : (a <= b ↔ q = true) := by rw [← h, leZ_eq, decide_eq_true_eq]
theorem eqZ_i {a b : Int} {q : Bool} (h : eqZ a b = q) : (a = b ↔ q = true) := by rw [← h, eqZ_eq, beq_iff_eq]
theorem ofN (n : Nat) : (Int.ofNat n) = (n : Int) := rfl
theorem wrapI {i : Int} (h : InZ i) : IntKind.wrap .i64 i = i := by
 rw [IntKind.wrap_i64]
 unfold InZ at h
 omega
theorem wrapS {n : Nat} (h : n + 1 < 9223372036854775808) : IntKind.wrap .i64 (Int.ofNat (Nat.succ n)) = Int.ofNat (n + 1) :=
 wrapI (by unfold InZ; rw [ofN]; omega)
theorem ix_map {A : Type} {f : A -> List AV} {l : List A} {i n : Nat} {x : A} (h : l[i]? = some x) (hn : (f x).length = n) : ixA (.imm (l.map f)) (Int.ofNat i) n = some (f x) := by
 have h0 : (0 : Int) <= Int.ofNat i := Int.natCast_nonneg i
 simp only [ixA, decide_eq_true h0, cond_true, List.getElem?_map]
 rw [show (Int.ofNat i).toNat = i from rfl, h]
 simp only [Option.map_some, Option.bind_some, hn, Nat.beq_refl, cond_true]
theorem ix_mapZ {A : Type} {f : A -> List AV} {l : List A} {i : Int} {n : Nat} {x : A} (h0 : 0 <= i) (h : l[i.toNat]? = some x) (hn : (f x).length = n) : ixA (.imm (l.map f)) i n = some (f x) := by
 have := ix_map (f := f) h hn
 rwa [ofN, Int.toNat_of_nonneg h0] at this
theorem ap_owned {n b : Nat} {out ys : List (List AV)} (hf : fitE n ys = true) (hr : (out.length + ys.length) * b <= 140737488355328) (hb : 0 < b) : apL (.ow n out) n b ys = some (.ow n (out ++ ys)) := by
 have h1 : roomW (out.length + ys.length) b = true := by
  unfold roomW
  rw [Bool.and_eq_true, Bool.or_eq_true]
  exact ⟨.inl (Nat.ble_eq_true_of_le hr), Nat.ble_eq_true_of_le hb⟩
 simp only [apL, Nat.beq_refl, hf, h1, Bool.and_self, cond_true]
theorem fit_one {n : Nat} {y : List AV} (h : y.length = n) : fitE n [y] = true := by
 show Nat.beq y.length n = true
 rw [h]
 exact Nat.beq_refl n
theorem encN_app (a b : List Int) : encN (a ++ b) = encN a ++ encN b := by simp [encN]
theorem reach_eq : reachBytes = 140737488351232 := rfl
theorem FitL.lt {A : Type} {n : Nat} {F : A -> Prop} {l : List A} (h : FitL n F l) (hn : 0 < n) : l.length < 9223372036854775807 := by
 have := Nat.le_trans (Nat.le_mul_of_pos_right l.length hn) h.1
 rw [reach_eq] at this
 omega
theorem drop_get {A : Type} {l : List A} {i : Nat} {x : A} (h : l[i]? = some x) : l.drop i = x :: l.drop (i + 1) := by
 obtain ⟨hi, he⟩ := List.getElem?_eq_some_iff.1 h
 rw [List.drop_eq_getElem_cons hi, he]
end Go.Proofs.Am
namespace Go.Proofs.Am
open Go
def Heap.put (h : Heap) (L : Nat) (bx : List LV) : Heap := { h with bx := h.bx.set L bx }
theorem put_same {h : Heap} {L : Nat} {b bx : List LV} (hb : h.bx[L]? = some b) : (h.put L bx).bx[L]? = some bx := by
 have hl := (List.getElem?_eq_some_iff.1 hb).1
 simp [Heap.put, hl]
theorem put_ne {h : Heap} {L M : Nat} {bx : List LV} (hn : L ≠ M) : (h.put L bx).bx[M]? = h.bx[M]? := by simp [Heap.put, hn]
theorem put_len (h : Heap) (L : Nat) (a : List LV) : (h.put L a).bx.length = h.bx.length := by simp [Heap.put]
theorem ldP_at {h : Heap} {L k : Nat} {bx : List LV} {a : AV} (hb : h.bx[L]? = some bx) (hk : bx[k]? = some (.v a)) : ldP h (.ptr L k) 1 false = some a := by
 have h1 : (bx.drop k).take 1 = [.v a] := by
  have := drop_get hk
  rw [this]; rfl
 simp only [ldP, hb, Option.bind_some, h1, cpyL, LV.cpy1]
 rfl
theorem stP_at {h : Heap} {L k : Nat} {bx : List LV} {x : LV} (hb : h.bx[L]? = some bx) (hk : k < bx.length) : stP h (.ptr L k) [x] = some (h.put L (bx.set k x)) := by
 have h1 : Nat.ble (k + ([x] : List LV).length) bx.length = true := Nat.ble_eq_true_of_le (by simp; omega)
 simp only [stP, hb, Option.bind_some, h1, cond_true, setL, Heap.put]
def Sl (h : Heap) (n : Nat) (xs : List (List AV)) : Option Nat -> AV -> Prop
 | none, a => a = .nilS /\ xs = []
 | some id, a => a = .arr n id 0 xs.length /\ ∃ junk, h.bx[id]? = some (flatV xs ++ junk) /\ 0 < (flatV xs ++ junk).length
theorem Sl.ln {h : Heap} {n : Nat} {xs : List (List AV)} {r : Option Nat} {a : AV} (hs : Sl h n xs r a) : lnS a = some (xs.length : Int) := by
 cases r with
 | none => obtain ⟨rfl, rfl⟩ := hs; rfl
 | some id => obtain ⟨rfl, _⟩ := hs; rfl
theorem Sl.put {h : Heap} {n : Nat} {xs : List (List AV)} {r : Option Nat} {a : AV} {L : Nat} {bx : List LV} (hs : Sl h n xs r a) (hn : r ≠ some L) : Sl (h.put L bx) n xs r a := by
 cases r with
 | none => exact hs
 | some id =>
  obtain ⟨e, j, hj, hl⟩ := hs
  exact ⟨e, j, by rw [put_ne (by rintro rfl; exact hn rfl)]; exact hj, hl⟩
theorem Sl.same {h h' : Heap} {n : Nat} {xs : List (List AV)} {r : Option Nat} {a : AV} (hs : Sl h n xs r a) (hn : ∀ id, r = some id -> h'.bx[id]? = h.bx[id]?) : Sl h' n xs r a := by
 cases r with
 | none => exact hs
 | some id =>
  obtain ⟨e, j, hj, hl⟩ := hs
  exact ⟨e, j, by rw [hn id rfl]; exact hj, hl⟩
theorem Sl.lt {h : Heap} {n : Nat} {xs : List (List AV)} {id : Nat} {a : AV} (hs : Sl h n xs (some id) a) : id < h.bx.length := by
 obtain ⟨_, j, hj, _⟩ := hs
 exact (List.getElem?_eq_some_iff.1 hj).1
theorem flatV_ap (xs ys : List (List AV)) : flatV (xs ++ ys) = flatV xs ++ flatV ys := by simp [flatV]
theorem flatV_ln {n : Nat} : ∀ {xs : List (List AV)}, (∀ x, x ∈ xs -> x.length = n) -> (flatV xs).length = xs.length * n
 | [], _ => by simp [flatV]
 | x :: xs, h => by
  have h1 := flatV_ln (xs := xs) (fun y hy => h y (List.mem_cons_of_mem _ hy))
  rw [show x :: xs = [x] ++ xs from rfl, flatV_ap, List.length_append, List.length_append, h1, Nat.add_mul]
  have h2 := h x (by simp)
  simp [flatV, h2]
theorem Sl.takeN {h : Heap} {n : Nat} {xs : List (List AV)} {id : Nat} {a : AV} (hs : Sl h n xs (some id) a) {k : Nat} (hk : k <= xs.length) : Sl h n (xs.take k) (some id) (.arr n id 0 k) := by
 obtain ⟨rfl, j, hj, hl⟩ := hs
 have e : flatV xs ++ j = flatV (xs.take k) ++ (flatV (xs.drop k) ++ j) := by
  rw [← List.append_assoc, ← flatV_ap, List.take_append_drop]
 exact ⟨by rw [List.length_take, Nat.min_eq_left hk], _, by rw [hj, e], by rw [← e]; exact hl⟩
theorem Sl.get {h : Heap} {n : Nat} {xs : List (List AV)} {id : Nat} {a : AV} (hs : Sl h n xs (some id) a) (hall : ∀ x, x ∈ xs -> x.length = n) {k j : Nat} {x : List AV} {c : AV} (hx : xs[k]? = some x) (hc : x[j]? = some c) :
  ldP h (.ptr id (k * n + j)) 1 false = some c := by
 obtain ⟨rfl, jk, hj, hl⟩ := hs
 obtain ⟨hk, e⟩ := List.getElem?_eq_some_iff.1 hx
 subst e
 refine ldP_at hj ?_
 have e : xs = xs.take k ++ ([xs[k]] ++ xs.drop (k + 1)) := by
  rw [List.singleton_append, ← List.drop_eq_getElem_cons hk, List.take_append_drop]
 have h1 : (flatV (xs.take k)).length = k * n := by
  rw [flatV_ln (n := n) (fun y hy => hall y (List.mem_of_mem_take hy)), List.length_take, Nat.min_eq_left (Nat.le_of_lt hk)]
 have hj' : j < (xs[k]).length := (List.getElem?_eq_some_iff.1 hc).1
 rw [e]
 have hm : xs[k] ∈ xs := List.getElem_mem hk
 generalize xs[k] = y at *
 rw [flatV_ap, flatV_ap, List.append_assoc, List.getElem?_append_right (by rw [h1]; omega), h1, Nat.add_sub_cancel_left]
 have h2 : flatV [y] = y.map .v := by simp [flatV]
 rw [h2, List.append_assoc, List.getElem?_append_left (by rw [List.length_map]; exact hj'), List.getElem?_map, hc]
 rfl
theorem ixP_arr {n id len : Nat} {i : Int} {k : Nat} (hi : i = k) (hk : k < len) : ixP (.arr n id 0 len) i n = some (.ptr id (k * n)) := by
 subst hi
 have h1 : decide ((0 : Int) <= (k : Int)) = true := decide_eq_true (by omega)
 have h2 : decide ((k : Int) < (len : Int)) = true := decide_eq_true (by omega)
 simp only [ixP, Nat.beq_refl, h1, h2, Bool.and_self, cond_true, Int.toNat_natCast, Nat.zero_add]
theorem slA_arr {P : Program} {t e : TypeId} {i : TypeInfo} (ht : P.underlying t = some (.slice e)) (hi : P.info? e = some i) {n id len k : Nat} (hn : i.size = n) (hk : k <= len) {z : Int} (hz : z = k) : slA P t (.arr n id 0 len) none (some z) = some (.arr n id 0 k) := by
 subst hz
 have h1 : decide ((0 : Int) <= 0) = true := by decide
 have h2 : decide ((0 : Int) <= (k : Int)) = true := decide_eq_true (by omega)
 have h3 : decide ((k : Int) <= (len : Int)) = true := decide_eq_true (by omega)
 unfold slA
 rw [ht]
 simp only [hi, Option.bind_some, Option.getD_none, Option.getD_some, h1, h2, h3, hn, Nat.beq_refl, Bool.and_self, cond_true, decide_true, Bool.true_or, Int.toNat_zero, Nat.zero_mul, Nat.add_zero, Int.toNat_natCast, Nat.sub_zero]
theorem slA_nil {P : Program} {t e : TypeId} {i : TypeInfo} (ht : P.underlying t = some (.slice e)) (hi : P.info? e = some i) {z : Int} (hz : z = 0) : slA P t .nilS none (some z) = some .nilS := by
 subst hz
 unfold slA
 rw [ht]
 simp only [hi, Option.bind_some]
 rfl
theorem setL_app : ∀ (ys J A : List LV), ys.length <= J.length -> setL (A ++ J) A.length ys = A ++ ys ++ J.drop ys.length
 | [], J, A, _ => by simp [setL]
 | y :: ys, [], A, h => by simp at h
 | y :: ys, j :: J, A, h => by
  have h1 := setL_app ys J (A ++ [y]) (by simpa using h)
  have e : (A ++ j :: J).set A.length y = (A ++ [y]) ++ J := by simp
  rw [setL, e, show A.length + 1 = (A ++ [y]).length by simp, h1]
  simp
theorem apH_one {h : Heap} {n bytes : Nat} {y : List AV} {xs : List (List AV)} {r : Option Nat} {a : AV} (hs : Sl h n xs r a) (hall : ∀ x, x ∈ xs -> x.length = n) (hy : y.length = n) (hn : 0 < n) (hroom : roomW (xs.length + 1) bytes = true) :
  ∃ id h', apH h a n bytes [y] = some (.arr n id 0 (xs.length + 1), h') /\ Sl h' n (xs ++ [y]) (some id) (.arr n id 0 (xs.length + 1)) /\ (∀ j, r ≠ some j -> j < h.bx.length -> h'.bx[j]? = h.bx[j]?) /\ (r = some id ∨ h.bx.length <= id) /\ h.bx.length <= h'.bx.length := by
 have hf : fitE n [y] = true := fit_one hy
 have hy1 : (flatV [y]).length = n := by simp [flatV, hy]
 have hlen : (xs ++ [y]).length = xs.length + 1 := by simp
 cases r with
 | none =>
  obtain ⟨rfl, rfl⟩ := hs
  refine ⟨h.bx.length, { h with bx := h.bx ++ [flatV [y]] }, ?_, ⟨rfl, [], by simp, by simp [hy1, hn]⟩, fun j _ hj => by simp [List.getElem?_append_left hj], .inr (Nat.le_refl _), by simp⟩
  simp only [List.length_nil, Nat.zero_add] at hroom
  simp only [apH, hf, List.length_singleton, hroom, Bool.and_self, cond_true, Nat.zero_add, List.length_nil, show Nat.blt 0 1 = true from rfl]
 | some id =>
  obtain ⟨rfl, J, hJ, hl⟩ := hs
  have hxl := flatV_ln hall
  have hb1 : Nat.blt 0 1 = true := rfl
  cases hfit : Nat.ble (0 + (xs.length + 1) * n) (flatV xs ++ J).length with
  | true =>
   have hle := Nat.le_of_ble_eq_true hfit
   rw [List.length_append, hxl, Nat.add_mul] at hle
   have hset : setL (flatV xs ++ J) (0 + xs.length * n) (flatV [y]) = flatV (xs ++ [y]) ++ J.drop n := by
    have := setL_app (flatV [y]) J (flatV xs) (by rw [hy1]; omega)
    rw [Nat.zero_add, ← hxl, this, hy1, flatV_ap]
   have hid : id < h.bx.length := (List.getElem?_eq_some_iff.1 hJ).1
   refine ⟨id, h.put id (flatV (xs ++ [y]) ++ J.drop n), ?_, ⟨by rw [hlen], _, put_same hJ, by simp [flatV_ap, hy1]; omega⟩, fun j hj _ => put_ne (by rintro rfl; exact hj rfl), .inl rfl, by rw [put_len]; exact Nat.le_refl _⟩
   simp only [apH, Nat.beq_refl, hf, List.length_singleton, hroom, hb1, Bool.and_self, cond_true, hJ, Option.bind_some, hfit, hset, Heap.put]
  | false =>
   have htk : (flatV xs ++ J).take (xs.length * n) = flatV xs := by rw [← hxl, List.take_left]
   have hc1 : Nat.ble (xs.length * n) (flatV xs ++ J).length = true := Nat.ble_eq_true_of_le (by rw [List.length_append, hxl]; omega)
   have hc2 : Nat.blt 0 (flatV xs ++ J).length = true := Nat.ble_eq_true_of_le hl
   have hid : id < h.bx.length := (List.getElem?_eq_some_iff.1 hJ).1
   refine ⟨h.bx.length, { h with bx := h.bx.set id [] ++ [flatV xs ++ flatV [y]] }, ?_, ⟨by rw [hlen], [], ?_, by simp [flatV_ap, hy1]; omega⟩, fun j hj hjl => ?_, .inr (Nat.le_refl _), by simp⟩
   ·simp only [apH, Nat.beq_refl, hf, List.length_singleton, hroom, hb1, Bool.and_self, cond_true, hJ, Option.bind_some, hfit, cond_false, hc1, hc2, htk]
   ·rw [List.getElem?_append_right (by simp)]
    simp [flatV_ap]
   ·rw [List.getElem?_append_left (by simpa using hjl)]
    rw [List.getElem?_set_ne (by rintro rfl; exact hj rfl)]
theorem Sl.setN {h : Heap} {n : Nat} {xs : List (List AV)} {id : Nat} {a : AV} (hs : Sl h n xs (some id) a) (hall : ∀ x, x ∈ xs -> x.length = n) {k j : Nat} {x : List AV} (hx : xs[k]? = some x) (hj : j < n) (c : AV) :
  ∃ h', stP h (.ptr id (k * n + j)) [.v c] = some h' /\ Sl h' n (xs.set k (x.set j c)) (some id) a /\ (∀ q, q ≠ id -> h'.bx[q]? = h.bx[q]?) /\ h'.bx.length = h.bx.length := by
 obtain ⟨rfl, J, hJ, hl⟩ := hs
 obtain ⟨hk, e⟩ := List.getElem?_eq_some_iff.1 hx
 have hxn : x.length = n := by rw [← e]; exact hall _ (List.getElem_mem hk)
 have h1 : (flatV (xs.take k)).length = k * n := by
  rw [flatV_ln (n := n) (fun y hy => hall y (List.mem_of_mem_take hy)), List.length_take, Nat.min_eq_left (Nat.le_of_lt hk)]
 have e1 : xs = xs.take k ++ ([x] ++ xs.drop (k + 1)) := by
  rw [← e, List.singleton_append, ← List.drop_eq_getElem_cons hk, List.take_append_drop]
 have e2 : xs.set k (x.set j c) = xs.take k ++ ([x.set j c] ++ xs.drop (k + 1)) := by
  rw [List.set_eq_take_append_cons_drop, if_pos hk]; rfl
 have h2 : ∀ y : List AV, flatV [y] = y.map .v := fun y => by simp [flatV]
 have hlt : k * n + j < (flatV xs ++ J).length := by
  rw [List.length_append, flatV_ln hall]
  have : (k + 1) * n <= xs.length * n := Nat.mul_le_mul_right n hk
  rw [Nat.add_mul] at this
  omega
 have hset : (flatV xs ++ J).set (k * n + j) (.v c) = flatV (xs.set k (x.set j c)) ++ J := by
  rw [e2]
  conv => lhs; rw [e1]
  rw [flatV_ap, flatV_ap, flatV_ap, flatV_ap, h2, h2, List.append_assoc, List.append_assoc, List.append_assoc, List.append_assoc,
   List.set_append_right _ _ (by rw [h1]; omega), h1, Nat.add_sub_cancel_left, List.set_append_left _ _ (by rw [List.length_map, hxn]; exact hj), List.map_set]
 refine ⟨_, stP_at hJ hlt, ⟨by rw [List.length_set], J, by rw [put_same hJ, hset], by rw [← hset, List.length_set]; exact hl⟩, fun q hq => put_ne (Ne.symm hq), put_len _ _ _⟩
end Go.Proofs.Am
