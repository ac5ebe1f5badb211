/-
  Expressions' bytes are bytes; sizes; bytes as texts.
-/
import Derived.Test.YtacfojpdccahhaaGreatDoorAmExpC
import Derived.KernelRfl
namespace Go.Proofs.Am
open Go
def encBy (l : List Nat) : List (List AV) := l.map fun (n : Nat) => [AV.int .u8 (n : Int)]
end Go.Proofs.Am
namespace Go.Proofs.Am
open Go
theorem uB_lt : ∀ (k v x : Nat), x ∈ uB k v → x < 256
 | 0, v, x, h => by cases h
 | k + 1, v, x, h => by
  rw [uB] at h
  split at h
  ·rcases List.mem_singleton.1 h with rfl
   omega
  ·rcases List.mem_cons.1 h with rfl | h
   ·omega
   ·exact uB_lt k _ x h
theorem sB_lt : ∀ (k : Nat) (v : Int) (x : Nat), x ∈ sB k v → x < 256
 | 0, v, x, h => by cases h
 | k + 1, v, x, h => by
  rw [sB] at h
  split at h
  ·rcases List.mem_cons.1 h with rfl | h
   ·omega
   ·exact sB_lt k _ x h
  ·rcases List.mem_singleton.1 h with rfl
   omega
theorem uL_lt (a : Int) (x : Nat) (h : x ∈ uL a) : x < 256 := uB_lt _ _ x h
theorem plainB_lt {r : OpR} {o a b v : Int} {l : List Int} {x : Nat} (h : x ∈ plainB r o a b v l) : x < 256 := by
 unfold plainB at h
 split at h
 ·rcases List.mem_append.1 h with h | h
  ·exact uL_lt _ x h
  ·exact uL_lt _ x h
 split at h
 ·rcases List.mem_singleton.1 h with rfl; omega
 split at h
 ·exact sB_lt _ _ x h
 split at h
 ·exact sB_lt _ _ x h
 split at h
 ·rcases List.mem_append.1 h with h | h
  ·exact uL_lt _ x h
  ·rcases List.mem_flatten.1 h with ⟨y, hy, hx⟩
   rcases List.mem_map.1 hy with ⟨z, _, rfl⟩
   exact uL_lt _ x hx
 split at h
 ·rcases List.mem_append.1 h with h | h
  ·exact uL_lt _ x h
  ·rcases List.mem_singleton.1 h with rfl; omega
 split at h
 ·exact uL_lt _ x h
 ·cases h
mutual
theorem insB_lt {OP : Int → Option OpR} (F : OpLaw OP) : ∀ x : Ins, mayI OP x = true → ∀ y, y ∈ insB OP x → y < 256
 | .mk o a b v t l bd el q => fun hm y hy => by
  rw [mayI] at hm
  rw [insB] at hy
  cases hop : OP o with
  | none => rw [hop] at hy; cases hy
  | some r =>
   rw [hop] at hy hm
   obtain ⟨o0, o1⟩ := F.rng hop
   simp only at hy hm
   rcases List.mem_cons.1 hy with rfl | hy
   ·omega
   by_cases h2 : r.kind = 2
   ·rw [if_pos h2] at hy hm
    simp only [Bool.and_eq_true, decide_eq_true_eq] at hm
    obtain ⟨⟨⟨⟨⟨⟨t0, t2⟩, hb⟩, he⟩, _⟩, _⟩, _⟩ := hm
    rcases List.mem_cons.1 hy with rfl | hy
    ·unfold resB; split <;> omega
    rcases List.mem_append.1 hy with hy | hy
    ·exact lstB_lt F bd hb y hy
    rcases List.mem_append.1 hy with hy | hy
    ·split at hy
     ·rcases List.mem_cons.1 hy with rfl | hy
      ·omega
      ·exact lstB_lt F el he y hy
     ·cases hy
    ·rcases List.mem_singleton.1 hy with rfl; omega
   ·rw [if_neg h2] at hy
    exact plainB_lt hy
theorem lstB_lt {OP : Int → Option OpR} (F : OpLaw OP) : ∀ xs : List Ins, mayL OP xs = true → ∀ y, y ∈ lstB OP xs → y < 256
 | [] => fun _ y hy => by cases hy
 | x :: xs => fun hm y hy => by
  rw [mayL, Bool.and_eq_true] at hm
  rw [lstB] at hy
  rcases List.mem_append.1 hy with hy | hy
  ·exact insB_lt F x hm.1 y hy
  ·exact lstB_lt F xs hm.2 y hy
end
mutual
theorem cI_n : ∀ x : Ins, lgI x = false → cI x ≤ 65 * nI x
 | .mk o a b v t l bd el q => fun h => by
  rw [lgI, Bool.or_eq_false_iff, Bool.or_eq_false_iff, decide_eq_false_iff_not] at h
  have h1 := cL_n bd h.1.2
  have h2 := cL_n el h.2
  rw [cI, nI]
  omega
theorem cL_n : ∀ xs : List Ins, lgL xs = false → cL xs ≤ 65 * nL xs
 | [] => fun _ => by rw [cL, nL]; omega
 | x :: xs => fun h => by
  rw [lgL, Bool.or_eq_false_iff] at h
  have h1 := cI_n x h.1
  have h2 := cL_n xs h.2
  rw [cL, nL]
  omega
end
mutual
theorem nI_c : ∀ x : Ins, nI x ≤ cI x
 | .mk o a b v t l bd el q => by
  have h1 := nL_c bd
  have h2 := nL_c el
  rw [cI, nI]
  omega
theorem nL_c : ∀ xs : List Ins, nL xs ≤ cL xs
 | [] => by rw [cL, nL]; omega
 | x :: xs => by
  have h1 := nI_c x
  have h2 := nL_c xs
  rw [cL, nL]
  omega
end
mutual
theorem dI_n : ∀ x : Ins, dI x ≤ nI x
 | .mk o a b v t l bd el q => by
  have h1 := dL_n bd
  have h2 := dL_n el
  rw [dI, nI]
  split <;> omega
theorem dL_n : ∀ xs : List Ins, dL xs ≤ nL xs
 | [] => by rw [dL, nL]; omega
 | x :: xs => by
  have h1 := dI_n x
  have h2 := dL_n xs
  rw [dL, nL]
  omega
end
def txt (bs : List Nat) : ByteArray := ⟨(bs.map Nat.toUInt8).toArray⟩
end Go.Proofs.Am
