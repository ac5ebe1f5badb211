/-
  errors.Is at numbers, and grommetlaw00.Is at an api.Spot, as calls of the machine.
-/
import Derived.Test.YtacfojpdccahhaaGreatDoorAmTit
import Derived.Test.YtacfojpdccahhaaGreatDoorAmExt
namespace Go.Proofs.YtacfojpdccahhaaGreatDoor
open Go Go.Proofs.Am
def isE : List LV → Option LV
 | [.v (.ifc 50 (.int .i64 a)), .v (.ifc 50 (.int .i64 b))] => some (.v (.bool (a == b)))
 | [.v .nilI, .v (.ifc 50 (.int .i64 _))] => some (.v (.bool false))
 | _ => none
theorem vs_3 {x y z : LV} {vs : Array Value} (hl : vs.size = [x, y, z].length) : ∃ v u t, vs = #[v, u, t] := by
 obtain ⟨l⟩ := vs
 match l, hl with
 | [v, u, t], _ => exact ⟨v, u, t, rfl⟩
def isS : List LV → Heap → Option LV
 | [.v (.ifc 66 (.ptr id o)), .v (.int .i64 z), .v (.int .i64 c)], h =>
  match h.bx[id]? with
  | some bx =>
   match bx[o]?, bx[o + 1]? with
   | some (.v (.int .i64 p)), some (.v (.ifc 50 (.int .i64 a))) => some (.v (.bool ((a == c) && (p == z))))
   | _, _ => none
  | none => none
 | _, _ => none
theorem ret_ext {w w' : World} {g : Gh} {h : Heap} {a : AV} {v : Value} (wf : Wf w g) (hh : HeapOk w g h) (E : w.Extends w') (hv : Rep w g a v) : Ret w g (.v a) h v w' := by
 have L : Le w g w' g := Le_of wf E.block rfl (Nat.le_refl _) (fun _ _ => rfl)
 have K : ∀ hd, Kp w g w' g hd := fun hd => ⟨L, fun b hb ho => ⟨E.block b hb, ho, rfl⟩⟩
 refine ⟨g, ⟨fun b hb => wf.own b (Nat.le_trans E.size hb), fun b hb => wf.sl b (Nat.le_trans E.size hb), fun b hb => ?_⟩, ⟨L, E.size, fun b hb ho => ⟨E.block b hb, ho, rfl⟩, E.os, E.tape, E.output⟩, hh.keep rfl (fun _ => K _) (fun _ _ => K _), hv.mono L⟩
 obtain ⟨n, h1, h2⟩ := wf.fit b hb
 exact ⟨n, by rw [bsz_eq_of_heap (E.block b (bsz_lt h1))]; exact h1, h2⟩
theorem heap_cell {w : World} {g : Gh} {h : Heap} (hh : HeapOk w g h) {id j : Nat} {bx : List LV} {a : AV} (hb : h.bx[id]? = some bx) (hj : bx[j]? = some (.v a)) : ∃ u, w.cell? ⟨g.bm id, j, none⟩ = some u ∧ Rep w g a u := by
 obtain ⟨_, _, c, e, h1, _, h3⟩ := hh.2.2 id bx hb (by intro hn; rw [hn] at hj; simp at hj)
 obtain ⟨u, hu, hr⟩ := h3 j _ hj
 refine ⟨u, ?_, hr.1⟩
 have := Cl_of (j := j) h1
 exact this.trans hu
theorem is18r {cx : Cx} (hP : cx.P = Tryz.prog) (hw : cx.raw 0 = some (.iface 160 (.agg #[.pointer (some ⟨5, 30, none⟩)]))) : ExrOk cx 11 isS := by
 intro xs h x hx w g vs wf hh hG hl hr
 rw [hP]
 unfold isS at hx
 split at hx
 ·rename_i id o z c
  split at hx
  ·rename_i bx hbx
   split at hx
   ·rename_i p a h0 h1
    cases hx
    obtain ⟨v, u, t, rfl⟩ := vs_3 hl
    obtain ⟨_, _, e1, e2, r1⟩ := hr 0 _ rfl
    obtain ⟨_, _, e3, e4, r2⟩ := hr 1 _ rfl
    obtain ⟨_, _, e5, e6, r3⟩ := hr 2 _ rfl
    cases e1; cases e2; cases e3; cases e4; cases e5; cases e6
    obtain rfl : v = .iface 66 (.pointer (some ⟨g.bm id, o, none⟩)) := by cases r1 with | ifc _ _ _ r => cases r; rfl
    obtain rfl : u = .int .i64 z := by cases r2; rfl
    obtain rfl : t = .int .i64 c := by cases r3; rfl
    obtain ⟨u0, c0, q0⟩ := heap_cell hh hbx h0
    obtain ⟨u1, c1, q1⟩ := heap_cell hh hbx h1
    obtain rfl : u0 = .int .i64 p := by cases q0; rfl
    obtain rfl : u1 = .iface 50 (.int .i64 a) := by cases q1 with | ifc _ _ _ r => cases r; rfl
    refine (is18 (g.bm id) o p a z c w (hG.2 0 _ hw).2 c0 c1).mono ?_
    rintro ev w' ⟨rfl, hE⟩
    exact ⟨_, rfl, ret_ext wf hh hE (.bool _)⟩
   ·cases hx
  ·cases hx
 ·cases hx
end Go.Proofs.YtacfojpdccahhaaGreatDoor
