/-
  grommetlaw00.Is at an api.Spot that tells a number.
-/
import Derived.Test.YtacfojpdccahhaaGreatDoorAmTas
import Derived.Test.YtacfojpdccahhaaGreatDoorAmTis
import Derived.Extends
namespace Go.Proofs.YtacfojpdccahhaaGreatDoor
open Go Go.RowKit Go.Extern.Stop Go.Stop Go.Extern
theorem as_spot (e : Addr) (w : World) (hg : w.cell? ⟨0, 0, none⟩ = some (.iface 160 (.agg #[.pointer (some ⟨5, 30, none⟩)]))) :
  Calls Tryz.prog 18 #[.iface 66 (.pointer (some e)), .iface 68 (.pointer (some ⟨w.heap.size, 0, none⟩))] (w.alloc (.cells #[.pointer none] 66)) fun ev w' =>
   ev = .returned (.bool true) ∧ w.Extends w' ∧ w'.cell? ⟨w.heap.size, 0, none⟩ = some (.pointer (some e)) := by
 have hlt : 0 < w.heap.size := by
  rcases Nat.eq_zero_or_pos w.heap.size with h0 | h
  ·simp [World.cell?, h0] at hg
  ·exact h
 refine (as_hit e ⟨w.heap.size, 0, none⟩ (.pointer none) (w.alloc (.cells #[.pointer none] 66)) ?_ (by simp) (by simp)).mono ?_
 ·rw [World.cell?_alloc_lt _ _ ⟨0, 0, none⟩ hlt]; exact hg
 rintro ev w' ⟨rfl, rfl⟩
 refine ⟨rfl, ?_, ?_⟩
 ·exact World.Extends.setCell (((((World.Extends.refl w).alloc _).alloc _).alloc _).alloc _ |>.alloc _) _ _ (Nat.le_refl _)
 ·refine World.cell?_setCell_same' _ _ _ ?_
  rw [World.cell?_alloc_lt _ _ _ (by simp; omega), World.cell?_alloc_lt _ _ _ (by simp; omega), World.cell?_alloc_lt _ _ _ (by simp; omega), World.cell?_alloc_lt _ _ _ (by simp)]
  simp
theorem run_neq_iface_ptr_same {P : Program} (w : World) {ti tp te : TypeId} {ms : Array (String × TypeId)} {i j : TypeInfo} (a : Addr)
  (hi : P.underlying ti = some (.interface ms)) (hp : P.underlying tp = some (.pointer te)) (hinfo : P.info? tp = some i) (hcomp : i.comparable = true) (hte : P.info? te = some j) :
  (binOp .neq ti (.iface tp (.pointer (some a))) (.iface tp (.pointer (some a)))).run P w = .ok (.bool false) w := by
 simp only [binOp]
 simp [Op.equal, Op.maxDepth, run_equalIn_iface_ptr_same w 9998 a hi hp hinfo hcomp hte]
theorem isCompS : (Tryz.prog.info? 66).map (·.comparable) = some true := by kernel_rfl
theorem isSizeS : (Tryz.prog.info? 71).map (·.size) = some 2 := by kernel_rfl
theorem ext_cell {w w' : World} (h : w.Extends w') {a : Addr} {v : Value} (hc : w.cell? a = some v) : w'.cell? a = some v :=
 (h.cell a (World.block_lt_of_cell? w a hc)).trans hc
set_option maxRecDepth 100000 in
set_option maxHeartbeats 4000000 in
theorem is18 (pb po : Nat) (p a z c : Int) (w : World) (hg : w.cell? ⟨0, 0, none⟩ = some (.iface 160 (.agg #[.pointer (some ⟨5, 30, none⟩)])))
  (h0 : w.cell? ⟨pb, po, none⟩ = some (.int .i64 p)) (h1 : w.cell? ⟨pb, po + 1, none⟩ = some (.iface 50 (.int .i64 a))) :
  Calls Tryz.prog 11 #[.iface 66 (.pointer (some ⟨pb, po, none⟩)), .int .i64 z, .int .i64 c] w fun ev w' => ev = .returned (.bool ((a == c) && (p == z))) ∧ w.Extends w' := by
 obtain ⟨i, hi, hcmp⟩ := Option.map_eq_some_iff.1 isCompS
 obtain ⟨j, hj, hjs⟩ := Option.map_eq_some_iff.1 isSizeS
 have heq := fun w => run_neq_iface_ptr_same (P := Tryz.prog) w ⟨pb, po, none⟩ Tryz.underlying30 Tryz.underlying66 hi hcmp hj
 have heq2 := fun w => Go.Lib.run_eql_iface_int (P := Tryz.prog) w (k := .i64) a c Tryz.underlying30 isComp Tryz.underlying50
 by_cases hac : a = c
 ·subst hac
  by_cases hpz : p = z
  ·subst hpz
   have e : (a == a) = true := by simp
   have e2 : (p == p) = true := by simp
   rw [e, e2]
   simp only [e] at heq2
   go_enter Tryz.func11, Tryz.ntmps11
   go_wp2_with (first
    | (go_at_call 18; refine (as_spot _ _ ?_).mono ?_; exact hg; rintro ev w' ⟨rfl, hE, hc⟩; have k0 := ext_cell hE h0; have k1 := ext_cell hE h1)
    | (go_at_call 19; refine (is_spot _ _ a a _ ?_).mono ?_; exact k1; rintro ev w2 ⟨rfl, rfl⟩))
   go_ret
   exact ⟨rfl, hE⟩
  ·have e : (a == a) = true := by simp
   have e2 : (p == z) = false := by simp [hpz]
   rw [e, e2]
   simp only [e] at heq2
   go_enter Tryz.func11, Tryz.ntmps11
   go_wp2_with (first
    | (go_at_call 18; refine (as_spot _ _ ?_).mono ?_; exact hg; rintro ev w' ⟨rfl, hE, hc⟩; have k0 := ext_cell hE h0; have k1 := ext_cell hE h1)
    | (go_at_call 19; refine (is_spot _ _ a a _ ?_).mono ?_; exact k1; rintro ev w2 ⟨rfl, rfl⟩))
   go_ret
   exact ⟨rfl, hE⟩
 ·have e : (a == c) = false := by simp [hac]
  rw [e]
  simp only [e] at heq2
  go_enter Tryz.func11, Tryz.ntmps11
  go_wp2_with (first
   | (go_at_call 18; refine (as_spot _ _ ?_).mono ?_; exact hg; rintro ev w' ⟨rfl, hE, hc⟩; have k0 := ext_cell hE h0; have k1 := ext_cell hE h1)
   | (go_at_call 19; refine (is_spot _ _ a c _ ?_).mono ?_; exact k1; rintro ev w2 ⟨rfl, rfl⟩))
  go_ret
  exact ⟨rfl, hE⟩
end Go.Proofs.YtacfojpdccahhaaGreatDoor
