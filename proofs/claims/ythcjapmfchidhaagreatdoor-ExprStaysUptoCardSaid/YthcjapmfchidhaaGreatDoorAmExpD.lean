/-
  Expressions' bytes are bytes; sizes; bytes as texts.
-/
import Derived.Test.YthcjapmfchidhaaGreatDoorAmExpC
import Derived.KernelRfl
namespace Go.Proofs.Am
open Go
def encBy (l : List Nat) : List (List AV) := l.map fun (n : Nat) => [AV.int .u8 (n : Int)]
theorem encBy_app (a b : List Nat) : encBy (a ++ b) = encBy a ++ encBy b := by simp [encBy]
theorem encBy_len (l : List Nat) : (encBy l).length = l.length := by simp [encBy]
theorem encBy_fit (l : List Nat) : fitE 1 (encBy l) = true := by cases l <;> rfl
theorem ap_by {out ys : List Nat} (h : out.length + ys.length ≤ 140737488355328) : apL (.ow 1 (encBy out)) 1 1 (encBy ys) = some (.ow 1 (encBy (out ++ ys))) := by
 rw [ap_owned (encBy_fit ys) (by rw [encBy_len, encBy_len]; omega) (by decide), encBy_app]
theorem ap_by1 {out : List Nat} {x : Int} {y : Nat} (hx : x = (y : Int)) (h : out.length + 1 ≤ 140737488355328) : apL (.ow 1 (encBy out)) 1 1 [[.int .u8 x]] = some (.ow 1 (encBy (out ++ [y]))) := by
 subst hx
 exact ap_by (ys := [y]) (by simpa using h)
theorem ix_by {l : List Nat} {i : Nat} {z : Int} {x : Nat} (hz : z = (i : Int)) (h : l[i]? = some x) : ixA (.imm (encBy l)) z 1 = some [.int .u8 (x : Int)] := by
 subst hz
 exact ix_map (f := fun (n : Nat) => [AV.int .u8 (n : Int)]) h rfl
theorem wrap8 (v : Int) : IntKind.wrap .u8 v = ((v % 256).toNat : Int) := by
 show (if (false && decide (v % 2 ^ 8 ≥ 2 ^ 7)) = true then v % 2 ^ 8 - 2 ^ 8 else v % 2 ^ 8) = _
 simp only [Bool.false_and, Bool.false_eq_true, if_false, Int.reducePow]
 omega
theorem wrap8i {n : Nat} {v : Int} (h : v = (n : Int)) (hn : n < 256) : IntKind.wrap .u8 v = (n : Int) := by
 rw [wrap8, h]; omega
theorem wrapU64 (v : Int) : IntKind.wrap .u64 v = v % 18446744073709551616 := by
 show (if (false && decide (v % 2 ^ 64 ≥ 2 ^ 63)) = true then v % 2 ^ 64 - 2 ^ 64 else v % 2 ^ 64) = _
 simp only [Bool.false_and, Bool.false_eq_true, if_false, Int.reducePow]
theorem wrapU32 (v : Int) : IntKind.wrap .u32 v = v % 4294967296 := by
 show (if (false && decide (v % 2 ^ 32 ≥ 2 ^ 31)) = true then v % 2 ^ 32 - 2 ^ 32 else v % 2 ^ 32) = _
 simp only [Bool.false_and, Bool.false_eq_true, if_false, Int.reducePow]
theorem wrapI32 (v : Int) : IntKind.wrap .i32 v = if 2147483648 ≤ v % 4294967296 then v % 4294967296 - 4294967296 else v % 4294967296 := by
 show (if (true && decide (v % 2 ^ 32 ≥ 2 ^ 31)) = true then v % 2 ^ 32 - 2 ^ 32 else v % 2 ^ 32) = _
 simp only [Bool.true_and, decide_eq_true_eq, Int.reducePow, ge_iff_le]
theorem wrapI64 (v : Int) : IntKind.wrap .i64 v = if 9223372036854775808 ≤ v % 18446744073709551616 then v % 18446744073709551616 - 18446744073709551616 else v % 18446744073709551616 := by
 show (if (true && decide (v % 2 ^ 64 ≥ 2 ^ 63)) = true then v % 2 ^ 64 - 2 ^ 64 else v % 2 ^ 64) = _
 simp only [Bool.true_and, decide_eq_true_eq, Int.reducePow, ge_iff_le]
theorem or_tab : (List.range 256).all (fun x => Nat.beq ((BitVec.ofInt 8 (Int.ofNat x) ||| BitVec.ofInt 8 128).toNat % 256) (x % 128 + 128)) = true := by kernel_rfl
theorem and_tab : (List.range 256).all (fun x => Nat.beq ((BitVec.ofInt 8 (Int.ofNat x) &&& BitVec.ofInt 8 127).toNat % 256) (x % 128)) = true := by kernel_rfl
theorem tab_at {f g : Nat → Nat} (h : (List.range 256).all (fun x => Nat.beq (f x) (g x)) = true) {x : Nat} (hx : x < 256) : f x = g x :=
 Nat.eq_of_beq_eq_true (List.all_eq_true.1 h x (List.mem_range.2 hx))
theorem or8 (v : Int) : (Int.ofNat (BitVec.toNat (BitVec.ofInt (IntKind.bits .u8) (IntKind.wrap .u8 v) ||| BitVec.ofInt (IntKind.bits .u8) 128) % 256)) = (((v % 128).toNat + 128 : Nat) : Int) := by
 rw [wrap8]
 have h := tab_at (f := fun x => (BitVec.ofInt 8 (Int.ofNat x) ||| BitVec.ofInt 8 128).toNat % 256) (g := fun x => x % 128 + 128) or_tab (x := (v % 256).toNat) (by omega)
 show Int.ofNat ((BitVec.ofInt 8 (Int.ofNat (v % 256).toNat) ||| BitVec.ofInt 8 128).toNat % 256) = _
 rw [h]
 show (((v % 256).toNat % 128 + 128 : Nat) : Int) = _
 congr 1
 omega
theorem and8 (v : Int) : (Int.ofNat (BitVec.toNat (BitVec.ofInt (IntKind.bits .u8) (IntKind.wrap .u8 v) &&& BitVec.ofInt (IntKind.bits .u8) 127) % 256)) = (((v % 128).toNat : Nat) : Int) := by
 rw [wrap8]
 have h := tab_at (f := fun x => (BitVec.ofInt 8 (Int.ofNat x) &&& BitVec.ofInt 8 127).toNat % 256) (g := fun x => x % 128) and_tab (x := (v % 256).toNat) (by omega)
 show Int.ofNat ((BitVec.ofInt 8 (Int.ofNat (v % 256).toNat) &&& BitVec.ofInt 8 127).toNat % 256) = _
 rw [h]
 show (((v % 256).toNat % 128 : Nat) : Int) = _
 congr 1
 omega
theorem and8n {x : Nat} (hx : x < 256) : (Int.ofNat (BitVec.toNat (BitVec.ofInt (IntKind.bits .u8) (x : Int) &&& BitVec.ofInt (IntKind.bits .u8) 127) % 256)) = ((x % 128 : Nat) : Int) := by
 have := and8 (x : Int)
 rw [wrap8i rfl hx] at this
 rw [this]
 congr 1
theorem fdiv128 (v : Int) : Int.fdiv v (Int.ofNat 128) = v / 128 := Int.fdiv_eq_ediv_of_nonneg v (by decide)
end Go.Proofs.Am
namespace Go.Proofs.Am
open Go
theorem uB_lt : ∀ (k v x : Nat), x ∈ uB k v → x < 256
 | 0, v, x, h => by cases h
 | k + 1, v, x, h => by
  rw [uB] at h
  split at h
  ·rcases List.mem_singleton.1 h with rfl
   omega
  ·rcases List.mem_cons.1 h with rfl | h
   ·omega
   ·exact uB_lt k _ x h
theorem sB_lt : ∀ (k : Nat) (v : Int) (x : Nat), x ∈ sB k v → x < 256
 | 0, v, x, h => by cases h
 | k + 1, v, x, h => by
  rw [sB] at h
  split at h
  ·rcases List.mem_cons.1 h with rfl | h
   ·omega
   ·exact sB_lt k _ x h
  ·rcases List.mem_singleton.1 h with rfl
   omega
theorem uL_lt (a : Int) (x : Nat) (h : x ∈ uL a) : x < 256 := uB_lt _ _ x h
theorem plainB_lt {r : OpR} {o a b v : Int} {l : List Int} {x : Nat} (h : x ∈ plainB r o a b v l) : x < 256 := by
 unfold plainB at h
 split at h
 ·rcases List.mem_append.1 h with h | h
  ·exact uL_lt _ x h
  ·exact uL_lt _ x h
 split at h
 ·rcases List.mem_singleton.1 h with rfl; omega
 split at h
 ·exact sB_lt _ _ x h
 split at h
 ·exact sB_lt _ _ x h
 split at h
 ·rcases List.mem_append.1 h with h | h
  ·exact uL_lt _ x h
  ·rcases List.mem_flatten.1 h with ⟨y, hy, hx⟩
   rcases List.mem_map.1 hy with ⟨z, _, rfl⟩
   exact uL_lt _ x hx
 split at h
 ·rcases List.mem_append.1 h with h | h
  ·exact uL_lt _ x h
  ·rcases List.mem_singleton.1 h with rfl; omega
 split at h
 ·exact uL_lt _ x h
 ·cases h
mutual
theorem insB_lt {OP : Int → Option OpR} (F : OpLaw OP) : ∀ x : Ins, mayI OP x = true → ∀ y, y ∈ insB OP x → y < 256
 | .mk o a b v t l bd el q => fun hm y hy => by
  rw [mayI] at hm
  rw [insB] at hy
  cases hop : OP o with
  | none => rw [hop] at hy; cases hy
  | some r =>
   rw [hop] at hy hm
   obtain ⟨o0, o1⟩ := F.rng hop
   simp only at hy hm
   rcases List.mem_cons.1 hy with rfl | hy
   ·omega
   by_cases h2 : r.kind = 2
   ·rw [if_pos h2] at hy hm
    simp only [Bool.and_eq_true, decide_eq_true_eq] at hm
    obtain ⟨⟨⟨⟨⟨⟨t0, t2⟩, hb⟩, he⟩, _⟩, _⟩, _⟩ := hm
    rcases List.mem_cons.1 hy with rfl | hy
    ·unfold resB; split <;> omega
    rcases List.mem_append.1 hy with hy | hy
    ·exact lstB_lt F bd hb y hy
    rcases List.mem_append.1 hy with hy | hy
    ·split at hy
     ·rcases List.mem_cons.1 hy with rfl | hy
      ·omega
      ·exact lstB_lt F el he y hy
     ·cases hy
    ·rcases List.mem_singleton.1 hy with rfl; omega
   ·rw [if_neg h2] at hy
    exact plainB_lt hy
theorem lstB_lt {OP : Int → Option OpR} (F : OpLaw OP) : ∀ xs : List Ins, mayL OP xs = true → ∀ y, y ∈ lstB OP xs → y < 256
 | [] => fun _ y hy => by cases hy
 | x :: xs => fun hm y hy => by
  rw [mayL, Bool.and_eq_true] at hm
  rw [lstB] at hy
  rcases List.mem_append.1 hy with hy | hy
  ·exact insB_lt F x hm.1 y hy
  ·exact lstB_lt F xs hm.2 y hy
end
mutual
theorem cI_n : ∀ x : Ins, lgI x = false → cI x ≤ 65 * nI x
 | .mk o a b v t l bd el q => fun h => by
  rw [lgI, Bool.or_eq_false_iff, Bool.or_eq_false_iff, decide_eq_false_iff_not] at h
  have h1 := cL_n bd h.1.2
  have h2 := cL_n el h.2
  rw [cI, nI]
  omega
theorem cL_n : ∀ xs : List Ins, lgL xs = false → cL xs ≤ 65 * nL xs
 | [] => fun _ => by rw [cL, nL]; omega
 | x :: xs => fun h => by
  rw [lgL, Bool.or_eq_false_iff] at h
  have h1 := cI_n x h.1
  have h2 := cL_n xs h.2
  rw [cL, nL]
  omega
end
mutual
theorem nI_c : ∀ x : Ins, nI x ≤ cI x
 | .mk o a b v t l bd el q => by
  have h1 := nL_c bd
  have h2 := nL_c el
  rw [cI, nI]
  omega
theorem nL_c : ∀ xs : List Ins, nL xs ≤ cL xs
 | [] => by rw [cL, nL]; omega
 | x :: xs => by
  have h1 := nI_c x
  have h2 := nL_c xs
  rw [cL, nL]
  omega
end
mutual
theorem dI_n : ∀ x : Ins, dI x ≤ nI x
 | .mk o a b v t l bd el q => by
  have h1 := dL_n bd
  have h2 := dL_n el
  rw [dI, nI]
  split <;> omega
theorem dL_n : ∀ xs : List Ins, dL xs ≤ nL xs
 | [] => by rw [dL, nL]; omega
 | x :: xs => by
  have h1 := dI_n x
  have h2 := dL_n xs
  rw [dL, nL]
  omega
end
def txt (bs : List Nat) : ByteArray := ⟨(bs.map Nat.toUInt8).toArray⟩
theorem bytes_by : ∀ {bs : List Nat}, (∀ x, x ∈ bs → x < 256) → bytesOf (encBy bs) = some (bs.map Nat.toUInt8)
 | [], _ => rfl
 | x :: bs, h => by
  have ih := bytes_by (bs := bs) fun y hy => h y (List.mem_cons_of_mem _ hy)
  have hx := h x (List.mem_cons_self ..)
  show (bif decide (0 ≤ (x : Int)) && decide ((x : Int) < 256) then (bytesOf (encBy bs)).bind fun r => some ((x : Int).toNat.toUInt8 :: r) else none) = _
  rw [decide_eq_true (show (0 : Int) ≤ (x : Int) by omega), decide_eq_true (show (x : Int) < 256 by omega), ih]
  rfl
end Go.Proofs.Am
