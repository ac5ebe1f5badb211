/-
  Instructions as a tree: what a readable value of their type is.
-/
import Derived.Test.YtjelldpjopdimaaDoorAmLawRow
import Derived.Test.YtjelldpjopdimaaDoorAmSym
/-
  Arguments of types that may hold one another (a tree's), and the row of a law of such arguments.
-/
namespace Go.Proofs.Am
open Go Go.RowKit Go.ChangeShapes Go.WideShapes

section
variable {P : Program} {w : World} {g : Gh}

def stepT (P : Program) (S : List TypeId) (t : TypeId) : Bool :=
  match P.underlying t with
  | some .bool => true
  | some (.int _) => true
  | some .string => true
  | some (.pointer e) => hasN S e && Nat.blt 0 (P.cellsOf e)
  | some (.slice e) => hasN S e && Nat.blt 0 (P.cellsOf e)
  | some (.struct fs) => tile P 0 fs.toList == some (P.cellsOf t) && fs.toList.all fun f => hasN S f.type
  | some (.array m e) => Nat.beq (P.cellsOf t) (m * P.cellsOf e) && hasN S e
  | _ => false
/-- Types of plain data that hold none but one another. -/
def closedT (P : Program) (S : List TypeId) : Bool := S.all (stepT P S)

end

/-- Arguments of their types, and what they were read as. -/
def ShC {H : Type} (P : Program) : List TypeId → List AV → List (DataW H) → Prop
  | [], [], [] => True
  | t :: ts, x :: xs, d :: ds => (∃ n ys, Sh P n t ys ∧ x = argV P t ys ∧ avD P n t d = some ys) ∧ ShC P ts xs ds
  | _, _, _ => False

variable {H : Type} {enc : TypeId × Value → H} {P : Program} {W : World} {g : Gh}

end Go.Proofs.Am


namespace Go.Proofs.Am
open Go

inductive Ins where
  | mk (op a b v t : Int) (l : List Int) (body els : List Ins) (has : Bool)

def encN (l : List Int) : List (List AV) := l.map fun x => [.int .i64 x]
mutual
def encI : Ins → List AV
  | .mk op a b v t l body els has => [.int .i64 op, .int .i64 a, .int .i64 b, .int .u64 v, .int .i64 t, .imm (encN l), .imm (encIs body), .imm (encIs els), .bool has]
def encIs : List Ins → List (List AV)
  | [] => []
  | x :: xs => encI x :: encIs xs
end
theorem encIs_map : ∀ l : List Ins, encIs l = l.map encI
  | [] => rfl
  | x :: l => by simp [encIs, encIs_map l]
theorem encIs_len (l : List Ins) : (encIs l).length = l.length := by rw [encIs_map, List.length_map]
theorem encI_len (x : Ins) : (encI x).length = 9 := by cases x; rfl

/-- The types of an instruction. -/
structure InsT (P : Program) (tI tN tV tL tB tQ : TypeId) : Prop where
  hN : P.underlying tN = some (.int .i64)
  hV : P.underlying tV = some (.int .u64)
  hQ : P.underlying tQ = some .bool
  hL : P.underlying tL = some (.slice tN)
  hB : P.underlying tB = some (.slice tI)
  fs : ∃ fs, P.underlying tI = some (.struct fs) ∧ fs.toList.map (fun f => (f.type, f.offset, P.cellsOf f.type)) = [(tN, 0, 1), (tN, 1, 1), (tN, 2, 1), (tV, 3, 1), (tN, 4, 1), (tL, 5, 1), (tB, 6, 1), (tB, 7, 1), (tQ, 8, 1)]
  hc : P.cellsOf tI = 9

/-- A list of what decodes decodes. -/
theorem list_of {A B : Type} {f : A → B} {Q : A → Prop} : ∀ (zs : List B), (∀ z, z ∈ zs → ∃ x, z = f x ∧ Q x) → ∃ l : List A, zs = l.map f ∧ ∀ x, x ∈ l → Q x
  | [], _ => ⟨[], rfl, fun x h => by cases h⟩
  | z :: zs, h => by
    obtain ⟨x, rfl, hx⟩ := h z (by simp)
    obtain ⟨l, rfl, hl⟩ := list_of zs (fun z hz => h z (by simp [hz]))
    exact ⟨x :: l, rfl, fun y hy => by
      rcases List.mem_cons.1 hy with rfl | hy
      · exact hx
      · exact hl y hy⟩
theorem list9 {A : Type} {ys : List A} (h : ys.length = 9) : ∃ c0 c1 c2 c3 c4 c5 c6 c7 c8, ys = [c0, c1, c2, c3, c4, c5, c6, c7, c8] := by
  match ys, h with
  | [c0, c1, c2, c3, c4, c5, c6, c7, c8], _ => exact ⟨c0, c1, c2, c3, c4, c5, c6, c7, c8, rfl⟩

/-- Lists short enough, all through. -/
inductive Fit : Ins → Prop
  | mk (op a b v t : Int) (l : List Int) (body els : List Ins) (has : Bool) (hl : l.length ≤ maxLen) (hb : body.length ≤ maxLen) (he : els.length ≤ maxLen) (h1 : ∀ x, x ∈ body → Fit x) (h2 : ∀ x, x ∈ els → Fit x) : Fit (.mk op a b v t l body els has)

end Go.Proofs.Am

/-
  What readable arguments are, type by type: for the laws' rows.
-/
namespace Go.Proofs.Am
open Go Go.RowKit Go.ChangeShapes Go.WideShapes

theorem argV_slice {P : Program} {t e : TypeId} (h : P.underlying t = some (.slice e)) (x : AV) : argV P t [x] = x := by simp [argV, h]
theorem argV_int {P : Program} {t : TypeId} {k : IntKind} (h : P.underlying t = some (.int k)) (x : AV) : argV P t [x] = x := by simp [argV, h]
theorem argV_struct {P : Program} {t : TypeId} {fs : Array Field} (h : P.underlying t = some (.struct fs)) (ys : List AV) : argV P t ys = .agg ys := by simp [argV, h]

theorem body_eq {P : Program} {f : FuncId} {fn : Func} {c : Code} (h : P.funcs[f]? = some fn) (hc : fn.body = some c) : body_ P f = [.code c] := by simp only [body_, h, hc]

/-! ### Structs -/
/-- A struct type's fields: type, place, cells. -/
structure StT (P : Program) (t : TypeId) (L : List (TypeId × Nat × Nat)) (c : Nat) : Prop where
  fs : ∃ fs, P.underlying t = some (.struct fs) ∧ fs.toList.map (fun f => (f.type, f.offset, P.cellsOf f.type)) = L
  hc : P.cellsOf t = c
end Go.Proofs.Am
