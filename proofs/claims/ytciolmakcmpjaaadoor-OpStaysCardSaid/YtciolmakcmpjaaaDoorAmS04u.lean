/-
  The law of what stays: the machine's answer at every byte; all readable arguments.
-/
import Derived.Test.YtciolmakcmpjaaaDoorAmIns
import Derived.Test.YtciolmakcmpjaaaDoorAmS04g
import Derived.Test.YtciolmakcmpjaaaDoorAmS04t0
import Derived.Test.YtciolmakcmpjaaaDoorAmS04t1
import Derived.Test.YtciolmakcmpjaaaDoorAmS04t2
import Derived.Test.YtciolmakcmpjaaaDoorAmS04t3

namespace Go.Proofs.YtciolmakcmpjaaaDoor
open Go.ChangeShapes Go.WideShapes Go.ChangeAt Go.RowKit Go.Proofs.Am
theorem stays_big (m : Int) (k : Nat) : runV m (.ofNat (k + 192)) = yesV := by kernel_rfl
theorem stays_neg (m : Int) (k : Nat) : runV m (.negSucc k) = yesV := by kernel_rfl
theorem stays_part {m : Int} {s l n : Nat} (h : (List.range' s l).map (fun n => runV m (.ofNat n)) = List.replicate l yesV) (h1 : s ≤ n) (h2 : n < s + l) : runV m (.ofNat n) = yesV := by
  have e : ((List.range' s l).map (fun n => runV m (.ofNat n)))[n - s]? = (List.replicate l yesV)[n - s]? := by rw [h]
  rw [List.getElem?_map, List.getElem?_range' (by omega), List.getElem?_replicate_of_lt (by omega)] at e
  simp only [Option.map_some, Option.some.injEq] at e
  rw [show s + 1 * (n - s) = n by omega] at e
  exact e
theorem stays_run (m z : Int) : runV m z = yesV := by
  cases z with
  | negSucc k => exact stays_neg m k
  | ofNat n =>
    rcases Nat.lt_or_ge n 8 with h | h
    · exact stays_part (law6_0_0 m) (by omega) (by omega)
    rcases Nat.lt_or_ge n 16 with h | h
    · exact stays_part (law6_0_1 m) (by omega) (by omega)
    rcases Nat.lt_or_ge n 24 with h | h
    · exact stays_part (law6_0_2 m) (by omega) (by omega)
    rcases Nat.lt_or_ge n 32 with h | h
    · exact stays_part (law6_0_3 m) (by omega) (by omega)
    rcases Nat.lt_or_ge n 40 with h | h
    · exact stays_part (law6_0_4 m) (by omega) (by omega)
    rcases Nat.lt_or_ge n 48 with h | h
    · exact stays_part (law6_0_5 m) (by omega) (by omega)
    rcases Nat.lt_or_ge n 56 with h | h
    · exact stays_part (law6_1_0 m) (by omega) (by omega)
    rcases Nat.lt_or_ge n 64 with h | h
    · exact stays_part (law6_1_1 m) (by omega) (by omega)
    rcases Nat.lt_or_ge n 72 with h | h
    · exact stays_part (law6_1_2 m) (by omega) (by omega)
    rcases Nat.lt_or_ge n 80 with h | h
    · exact stays_part (law6_1_3 m) (by omega) (by omega)
    rcases Nat.lt_or_ge n 88 with h | h
    · exact stays_part (law6_1_4 m) (by omega) (by omega)
    rcases Nat.lt_or_ge n 96 with h | h
    · exact stays_part (law6_1_5 m) (by omega) (by omega)
    rcases Nat.lt_or_ge n 104 with h | h
    · exact stays_part (law6_2_0 m) (by omega) (by omega)
    rcases Nat.lt_or_ge n 112 with h | h
    · exact stays_part (law6_2_1 m) (by omega) (by omega)
    rcases Nat.lt_or_ge n 120 with h | h
    · exact stays_part (law6_2_2 m) (by omega) (by omega)
    rcases Nat.lt_or_ge n 128 with h | h
    · exact stays_part (law6_2_3 m) (by omega) (by omega)
    rcases Nat.lt_or_ge n 136 with h | h
    · exact stays_part (law6_2_4 m) (by omega) (by omega)
    rcases Nat.lt_or_ge n 144 with h | h
    · exact stays_part (law6_2_5 m) (by omega) (by omega)
    rcases Nat.lt_or_ge n 152 with h | h
    · exact stays_part (law6_3_0 m) (by omega) (by omega)
    rcases Nat.lt_or_ge n 160 with h | h
    · exact stays_part (law6_3_1 m) (by omega) (by omega)
    rcases Nat.lt_or_ge n 168 with h | h
    · exact stays_part (law6_3_2 m) (by omega) (by omega)
    rcases Nat.lt_or_ge n 176 with h | h
    · exact stays_part (law6_3_3 m) (by omega) (by omega)
    rcases Nat.lt_or_ge n 184 with h | h
    · exact stays_part (law6_3_4 m) (by omega) (by omega)
    rcases Nat.lt_or_ge n 192 with h | h
    · exact stays_part (law6_3_5 m) (by omega) (by omega)
    obtain ⟨k, rfl⟩ : ∃ k, n = k + 192 := ⟨n - 192, by omega⟩
    exact stays_big m k
theorem opStays_main (W : World) (hL : laidMetH Tryd.prog Rows.opStaysRow.laid W) (hsh : W.ShapedOpen Tryd.prog) {H : Type} (ds : List (DataW H)) (xs : List AV) (hx : ShC Tryd.prog Tryd.f6.params.toList xs ds) :
    ∃ (cx : Cx) (c : Code) (h' : Heap), cx.P = Tryd.prog ∧ CxOk cx ∧ GOk cx W (gFull W) ∧ Tryd.f6.body = some c ∧ cutAt cx 6 [.code c] = none ∧ blk cx 6 [.code c] (xs.map .v) Heap.nil = some (.v (.bool true), h') := by
  obtain ⟨m, hG⟩ := glob_ok rfl hL hsh
  obtain ⟨c, hc, hbody⟩ := body_of Tryd.func6 (by kernel_rfl)
  rw [Tryd.params6] at hx
  obtain ⟨n1, y1, xs1, d1, ds1, rfl, rfl, h1, _, hx⟩ := shc_cons hx
  obtain rfl := shc_nil hx
  obtain ⟨i, rfl, _, _⟩ := sh_i64 Tryd.underlying3 h1
  rw [argV_int Tryd.underlying3]
  have h := stays_run m i
  unfold runV yesV at h
  rw [hbody] at h
  obtain ⟨h', h⟩ := blk_of_run h
  exact ⟨cxV m, c, h', rfl, cxV_ok m, hG, hc, cut_none rfl _ _, h⟩
end Go.Proofs.YtciolmakcmpjaaaDoor
