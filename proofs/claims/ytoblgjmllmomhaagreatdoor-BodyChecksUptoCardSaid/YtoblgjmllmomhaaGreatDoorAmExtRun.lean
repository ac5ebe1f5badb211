/-
  What the machine says of a function, as a call of its own: a table's entry.
-/
import Derived.Test.YtoblgjmllmomhaaGreatDoorAmMod
import Derived.Test.YtoblgjmllmomhaaGreatDoorAmFast
namespace Go.Proofs.Am
open Go
variable {cx : Cx}
def gShut (w : World) (g : Gh) (n : Nat) : Gh := { g with sl := upd g.sl w.heap.size n }
theorem shut_Le {w : World} {g : Gh} (wf : Wf w g) (o : Obj) (n : Nat) : Le w g (w.alloc o) (gShut w g n) := by
 refine ⟨fun b => ?_, fun b j hj => ?_, Nat.le_refl _, fun _ _ => rfl, fun b k hb => ?_⟩
 ·by_cases e : b = w.heap.size
  ·subst e; rw [wf.sl _ (Nat.le_refl _)]; exact Nat.zero_le _
  ·simp only [gShut]; rw [upd_ne _ _ e]; exact Nat.le_refl _
 ·have hb : b < w.heap.size := by
   rcases Nat.lt_or_ge b w.heap.size with h | h
   ·exact h
   ·rw [wf.sl b h] at hj; omega
  exact Cl_eq_of_heap (alloc_heap w o hb)
 ·rw [bsz_eq_of_heap (alloc_heap w o (bsz_lt hb))]; exact hb
theorem shut_Tr {w : World} {g : Gh} (wf : Wf w g) (o : Obj) (n : Nat) : Tr w g (w.alloc o) (gShut w g n) :=
 ⟨shut_Le wf o n, by simp, fun b hb h => ⟨alloc_heap w o hb, h, by simp only [gShut]; rw [upd_ne _ _ (by omega)]⟩, rfl, rfl, rfl⟩
theorem shut_Kp {w : World} {g : Gh} (wf : Wf w g) (o : Obj) (n : Nat) (hd : Hd) : Kp w g (w.alloc o) (gShut w g n) hd :=
 ⟨shut_Le wf o n, fun b hb h => ⟨alloc_heap w o hb, h, by simp only [gShut]; rw [upd_ne _ _ (by omega)]⟩⟩
theorem shut_Wf {w : World} {g : Gh} (wf : Wf w g) (o : Obj) (n : Nat) : Wf (w.alloc o) (gShut w g n) := by
 refine ⟨fun b hb => wf.own b (by simp at hb; omega), fun b hb => ?_, fun b hb => ?_⟩
 ·simp at hb
  simp only [gShut]; rw [upd_ne _ _ (by omega)]; exact wf.sl b (by omega)
 ·have hlt : b < w.heap.size := by
   rcases Nat.lt_or_ge b w.heap.size with h | h
   ·exact h
   ·exact absurd (wf.own b h) hb
  obtain ⟨k, h1, h2⟩ := wf.fit b hb
  exact ⟨k, by rw [bsz_eq_of_heap (alloc_heap w o hlt)]; exact h1, by simp only [gShut]; rw [upd_ne _ _ (by omega)]; exact h2⟩
theorem ext_value {f : FuncId} {e : List LV -> Option LV}
  (h : ∀ (xs : List LV) (x : LV), e xs = some x -> ∀ (w : World) (g : Gh) (vs : Array Value), Wf w g -> GOk cx w g -> vs.size = xs.length ->
   (∀ (j : Nat) (y : LV), xs[j]? = some y -> ∃ p u, y = .v p /\ vs[j]? = some u /\ Rep w g p u) ->
   ∃ a v, x = .v a /\ Rep w g a v /\ Calls cx.P f vs w fun e w' => e = .returned v /\ w' = w) : ExtOk cx f e := by
 intro xs x hx w g vs wf hG hl hr
 obtain ⟨a, v, rfl, hv, hc⟩ := h xs x hx w g vs wf hG hl hr
 refine hc.mono ?_
 rintro e w' ⟨rfl, rfl⟩
 exact ⟨v, g, rfl, wf, rfl, Tr.refl _ _, fun hd _ _ => Kp.refl _ _ hd, hv⟩
theorem ext_slice {f : FuncId} {e : List LV -> Option LV}
  (h : ∀ (xs : List LV) (x : LV), e xs = some x -> ∀ (w : World) (g : Gh) (vs : Array Value), Wf w g -> GOk cx w g -> vs.size = xs.length ->
   (∀ (j : Nat) (y : LV), xs[j]? = some y -> ∃ p u, y = .v p /\ vs[j]? = some u /\ Rep w g p u) ->
   ∃ (as : List AV) (us : List Value) (t : TypeId), x = .v (.imm (as.map fun a => [a])) /\ us.length = as.length /\
    (∀ (j : Nat) (a : AV), as[j]? = some a -> ∃ u, us[j]? = some u /\ Rep w g a u /\ a.one = true) /\
    Calls cx.P f vs w fun e w' => e = .returned (.slice (some ⟨w.heap.size, 0, none⟩) us.length us.length) /\ w' = w.alloc (.cells us.toArray t)) : ExtOk cx f e := by
 intro xs x hx w g vs wf hG hl hr
 obtain ⟨as, us, t, rfl, hlen, hv, hc⟩ := h xs x hx w g vs wf hG hl hr
 refine hc.mono ?_
 rintro e w' ⟨rfl, rfl⟩
 refine ⟨_, gShut w g us.length, rfl, shut_Wf wf _ _, rfl, shut_Tr wf _ _, fun hd _ _ => shut_Kp wf _ _ hd, ?_⟩
 have hnew := alloc_new w (.cells us.toArray t)
 have hget : ∀ (k : Nat) (x : List AV) (j : Nat) (c : AV), (as.map fun a => [a])[k]? = some x -> x[j]? = some c -> j = 0 /\ as[k]? = some c := by
  intro k x j c hk hj
  rw [List.getElem?_map] at hk
  cases ha : as[k]? with
  | none => rw [ha] at hk; cases hk
  | some a =>
   rw [ha] at hk
   simp only [Option.map_some, Option.some.injEq] at hk
   subst hk
   cases j with
   | zero => simp at hj; subst hj; exact ⟨rfl, rfl⟩
   | succ j => simp at hj
 have hcell : ∀ (k : Nat) (c : AV), as[k]? = some c -> 0 + k * 1 + 0 < (gShut w g us.length).sl w.heap.size /\ Cl (w.alloc (.cells us.toArray t)) w.heap.size (0 + k * 1 + 0) = some (us.getD k undef) /\ c.one = true /\
   Rep (w.alloc (.cells us.toArray t)) (gShut w g us.length) c (us.getD k undef) := by
  intro k c hk
  obtain ⟨u, hu, hrep, ho⟩ := hv k c hk
  have hlt : k < us.length := (List.getElem?_eq_some_iff.1 hu).1
  have hg : us.getD k undef = u := by rw [List.getD_eq_getElem?_getD, hu]; rfl
  refine ⟨by simp only [gShut, upd_same]; omega, ?_, ho, by rw [hg]; exact hrep.mono (shut_Le wf _ _)⟩
  rw [Cl_of hnew, hg, show 0 + k * 1 + 0 = k by omega]
  simpa using hu
 have := Rep.imm (w := w.alloc (.cells us.toArray t)) (g := gShut w g us.length) (as.map fun a => [a]) 1 w.heap.size 0 us.length (fun k _ => us.getD k undef) (by simp [hlen])
  (fun k x hk => by
   rw [List.getElem?_map] at hk
   cases ha : as[k]? with
   | none => rw [ha] at hk; cases hk
   | some a => rw [ha] at hk; simp only [Option.map_some, Option.some.injEq] at hk; subst hk; rfl)
  (fun k x j c hk hj => by
   obtain ⟨rfl, ha⟩ := hget k x j c hk hj
   obtain ⟨h1, h2, h3, _⟩ := hcell k c ha
   exact ⟨h1, h2, h3⟩)
  (fun k x j c hk hj => by
   obtain ⟨rfl, ha⟩ := hget k x j c hk hj
   exact (hcell k c ha).2.2.2)
 rw [List.length_map, ← hlen] at this
 exact this
theorem glob_cell {w : World} {g : Gh} (hG : GOk cx w g) {i : Nat} {cs : List AV} (hi : cx.glob i = some cs) {j : Nat} {c : AV} (hj : cs[j]? = some c) : ∃ u, w.cell? ⟨i, j, none⟩ = some u /\ Rep w g c u := by
 have := hG i cs hi
 cases this with
 | snap _ b o f hc hr =>
  obtain ⟨_, h2, _⟩ := hc j c hj
  rw [Nat.zero_add] at h2
  exact ⟨f j, h2, hr j c hj⟩
end Go.Proofs.Am
namespace Go.Proofs.Am
open Go
variable {cx cx' : Cx}
def gExt (g : Gh) : Gh := { sl := g.sl, own := fun _ => .oth, nb := 0, bm := g.bm }
def extOwn (h h' : Hd) : Hd :=
 match h' with
 | .res c => .res c
 | _ => h
def gExtBack (g g' : Gh) : Gh := { sl := g'.sl, own := fun b => extOwn (g.own b) (g'.own b), nb := g.nb, bm := g.bm }
theorem npLs_get : ∀ (l : List LV), npLs l = true -> ∀ (j : Nat) (y : LV), l[j]? = some y -> y.np = true
 | [], _, j, y, hj => by simp at hj
 | z :: l, hn, 0, y, hj => by
  simp only [npLs, Bool.and_eq_true] at hn
  simp at hj; subst hj; exact hn.1
 | z :: l, hn, j + 1, y, hj => by
  simp only [npLs, Bool.and_eq_true] at hn
  simp at hj; exact npLs_get l hn.2 j y hj
theorem ext_run (hC : CxOk cx) (hP : cx'.P = cx.P) (hg : cx'.glob = cx.glob) {f : FuncId} {fn : Func} {c : Code} (hf : cx.P.funcs[f]? = some fn) (hb : fn.body = some c) (hcut : cutAt cx f [.code c] = none)
  {e : List LV -> Option LV} (he : ∀ (xs : List LV) (x : LV), e xs = some x -> npLs xs = true /\ x.np = true /\ ∃ h', blk cx f [.code c] xs Heap.nil = some (x, h')) : ExtOk cx' f e := by
 intro xs x hx w g vs wf hG hl hr
 obtain ⟨hn1, hn2, h', ho⟩ := he xs x hx
 have wf0 : Wf w (gExt g) := ⟨fun _ _ => rfl, wf.sl, fun b hb => absurd rfl hb⟩
 have s0 : SR fn.ntmps (inSt xs Heap.nil) { tmps := vs ++ Array.replicate (fn.ntmps - vs.size) undef, defers := [] } w (gExt g) (fun _ => 0) :=
  SR.enter wf0 ⟨rfl, fun id bx hid => by simp [Heap.nil] at hid⟩ hl (fun j y hj => by
   obtain ⟨p, u, rfl, hu, hrp⟩ := hr j y hj
   exact ⟨u, hu, Rep.np (g := g) (g' := gExt g) (fun _ => Nat.le_refl _) (fun _ _ _ => rfl) hrp (npLs_get xs hn1 j _ hj)⟩)
 rw [hP]
 refine (calls_of_orc (blk_ok hC) hf hb hcut ho s0 (fun i cs hi => Rep.np (g := g) (g' := gExt g) (fun _ => Nat.le_refl _) (fun _ _ _ => rfl) (hG i cs (by rw [hg]; exact hi)) (hC.globs i cs hi))).mono ?_
 rintro e' w' ⟨v, rfl, g', wf', t, hh, hrep⟩
 have ho : ∀ b, b < w.heap.size -> w'.heap[b]? = w.heap[b]? /\ g'.own b = .oth /\ g'.sl b = g.sl b := fun b hb => t.oth b hb rfl
 have L : Le w g w' (gExtBack g g') := ⟨t.le.sl, t.le.cell, Nat.le_refl _, fun _ _ => rfl, t.le.sz⟩
 refine ⟨v, gExtBack g g', rfl, ⟨fun b hb => ?_, fun b hb => wf'.sl b hb, fun b hb => ?_⟩, rfl, ⟨L, t.size, fun b hb hgb => ?_, t.os, t.tape, t.output⟩, fun hd h1 h2 => ⟨L, fun b hb hgb => ?_⟩, ?_⟩
 ·simp only [gExtBack, wf'.own b hb, wf.own b (Nat.le_trans t.size hb), extOwn]
 ·by_cases h1 : ∃ c, g'.own b = .res c
  ·obtain ⟨c, h1⟩ := h1
   exact wf'.fit b (by rw [h1]; simp)
  ·have h2 : extOwn (g.own b) (g'.own b) = g.own b := by
    cases hgb : g'.own b <;> first | rfl | (exact absurd ⟨_, hgb⟩ h1)
   have h3 : g.own b ≠ .oth := by
    simp only [gExtBack, h2] at hb; exact hb
   have hlt : b < w.heap.size := by
    rcases Nat.lt_or_ge b w.heap.size with h | h
    ·exact h
    ·exact absurd (wf.own b h) h3
   obtain ⟨k1, _, k3⟩ := ho b hlt
   obtain ⟨n, n1, n2⟩ := wf.fit b h3
   exact ⟨n, by rw [bsz_eq_of_heap k1]; exact n1, by show g'.sl b <= n; rw [k3]; exact n2⟩
 ·obtain ⟨k1, k2, k3⟩ := ho b hb
  exact ⟨k1, by simp only [gExtBack, hgb, k2, extOwn], k3⟩
 ·obtain ⟨k1, k2, k3⟩ := ho b hb
  exact ⟨k1, by simp only [gExtBack, hgb, k2, extOwn], k3⟩
 ·have sl : ∀ b, g'.sl b <= (gExtBack g g').sl b := fun b => Nat.le_refl _
  cases x with
  | v p => exact Rep.np (g := g') sl (fun _ _ _ => rfl) hrep hn2
  | ow n xs => exact ⟨by simp, Own.np (g := g') sl (fun _ _ _ => rfl) (fun b hb hg => ⟨rfl, by simp only [gExtBack, hg, extOwn], rfl⟩) hrep.2 hn2⟩
  | tup xs =>
   obtain ⟨vs, e, hz, hc⟩ := hrep
   refine ⟨vs, e, hz, fun j c hj => ?_⟩
   obtain ⟨u, hu, hr⟩ := hc j c hj
   exact ⟨u, hu, Rep.np (g := g') sl (fun _ _ _ => rfl) hr (npL_get hn2 j c hj)⟩
  | _ => simp [LV.np] at hn2
theorem blk_of_run {n : Nat} {f : FuncId} {todo : List Item} {xs : List LV} {h : Heap} {x : LV} (hr : (blkF cx n f todo xs h).map Prod.fst = some x) : ∃ h', blk cx f todo xs h = some (x, h') := by
 rw [blkF_eq] at hr
 cases e : blkN cx n f todo xs h with
 | none => rw [e] at hr; cases hr
 | some y =>
  rw [e] at hr
  simp only [Option.map_some, Option.some.injEq] at hr
  subst hr
  exact ⟨y.2, blk_iff.2 ⟨n, e⟩⟩
end Go.Proofs.Am
