/-
  A way through a text with open values: what must hold on it is told, one by one; where all of it holds, the machine comes to what is told.
-/
import Derived.Test.YtciolmakcmpjaaaDoorAmFast
/-
  An operation's result by itself: what goes on behind it gets it.
-/
namespace Go.Proofs.Am
open Go

variable {R : Type} {cx : Cx} {orc : Orc} {f rid i : Nat} {st : St} {K : LV → St → Option R}

/-- Arguments, and the state behind them. -/
def argR (tk : Bool) (st : St) (xs : List Operand) : Option (List LV × St) := args tk st xs fun as s => some (as, s)
/-- What an operation gives, and the state behind it. -/
def opR (cx : Cx) (orc : Orc) (f rid i : Nat) (o : Oper) (st : St) : Option (LV × St) := opKF cx orc f rid i o st fun x s => some (x, s)

end Go.Proofs.Am


namespace Go.Proofs.Am
open Go

/-- What isn't reckoned but answered: conditions, by the temporary; values and calls, by their places. -/
structure Scr where
  b : Nat → Option Bool
  v : Nat → Nat → Option LV
  c : Nat → Nat → Option (LV × Heap)
  /-- Are the places told, too? -/
  tg : Bool := false
def tgP (scr : Scr) (n : Nat) (p : Prop) : Prop := bif scr.tg then (n = n ∧ p) else p
def oneV (x : LV) (F : AV → Prop) : Prop := match x with | .v y => F y | _ => False
def on1 (a : Option AV) (F : AV → Prop) : Prop := match a with | some p => F p | none => False
def onI (a : Option AV) (F : Int → Prop) : Prop := match a with | some (.int _ n) => F n | _ => False
def onE {A : Type} (a : Option A) (F : A → Prop) : Prop := match a with | some p => F p | none => False
def askBin (cx : Cx) (op : BinOp) (t : TypeId) (x y : Operand) (st : St) (z : LV) : Prop := onE (st.rv x) fun p => onE (st.rv y) fun q => oneV z fun r => binF cx.P op t (isC x || isC y) p q = some r
def askUn (op : UnOp) (x : Operand) (st : St) (z : LV) : Prop := onE (st.rv x) fun p => oneV z fun r => unA op p = some r
def askConv (cx : Cx) (s d : TypeId) (x : Operand) (st : St) (z : LV) : Prop := onE (st.rv x) fun p => cvA cx.P s d p = some z
def askIx (cx : Cx) (t : TypeId) (x ix : Operand) (st : St) (z : LV) : Prop := onE (st.rv x) fun p => onI (st.rv ix) fun n => oneV z fun r => ixS (cx.P.underlying t) p n = some r
def snapOf (r : AV) (F : List AV → Prop) : Prop := match r with | .snap cs => F cs | _ => False
def askIA (cx : Cx) (t : TypeId) (x ix : Operand) (st : St) (z : LV) : Prop :=
  onE (elemTy cx.P t) fun e => onE (tyz cx.P e) fun k => onE (st.rv x) fun p => onI (st.rv ix) fun n => oneV z fun r => snapOf r fun cs => ixA p n k.1 = some cs
def askSl (cx : Cx) (t : TypeId) (x : Operand) (lo hi : Option Operand) (st : St) (z : LV) : Prop :=
  onE (st.rv x) fun p => onE (rvs st lo.toList some) fun ls => onE (rvs st hi.toList some) fun hs => ((ls.all fun x => x.toI.isSome) && (hs.all fun x => x.toI.isSome)) = true ∧
    oneV z fun r => slA cx.P t p (ls.head?.bind AV.toI) (hs.head?.bind AV.toI) = some r
/-- What an operation without effect is to tell. -/
def askV (cx : Cx) (f rid i : Nat) (o : Oper) (st : St) (z : LV) : Prop :=
  match o.op with
  | .binOp op t x y _ => askBin cx op t x y st z
  | .unOp op _ x => askUn op x st z
  | .convert s d x => askConv cx s d x st z
  | .index t x ix => askIx cx t x ix st z
  | .indexAddr t x ix => cx.heap f rid i = false ∧ globOf o.op = none ∧ askIA cx t x ix st z
  | .slice t x lo hi none => askSl cx t x lo hi st z
  | _ => False

variable {cx : Cx} {orc : Orc} {f rid i : Nat} {o : Oper} {st : St}

/-- A call's answer, as its place takes it. -/
def resW (m : Nat) (x : LV) (K : LV → Prop) : Prop :=
  match m with
  | 0 => onE x.cpy1 fun a => K (.v a)
  | 1 => (match x with | .tup xs => K (.tup xs) | _ => False)
  | _ => K x
def callW (cx : Cx) (orc : Orc) (f rid i : Nat) (o : Oper) (st : St) (x : LV) (h' : Heap) (K : LV → St → Prop) : Prop :=
  match o.op with
  | .call c =>
    match c.callee with
    | .value (.func g) => onE (argR (cx.take f rid i) st c.args.toList) fun q =>
      bif cx.pure f rid i then npLs q.1 = true ∧ callF cx orc g q.1 Heap.nil = some (x, h') ∧ resW (mode cx g) x fun y => y.np = true ∧ K y q.2
      else callF cx orc g q.1 q.2.h = some (x, h') ∧ resW (mode cx g) x fun y => K y { q.2 with h := h' }
    | .value (.tmp j) => onE (st.t j).cpy fun fv => onE (argR (cx.take f rid i) st c.args.toList) fun q =>
      callV cx orc fv q.1 q.2.h = some (x, h') ∧ resW (bif tupTy cx.P o.type then 1 else 0) x fun y => K y { q.2 with h := h' }
    | _ => False
  | _ => False

/-- What goes on behind gets a value and a state. -/
def Gives (cx : Cx) (orc : Orc) (f rid i : Nat) (o : Oper) (st : St) (x : LV) (s : St) : Prop := ∀ (R : Type) (K : LV → St → Option R), opKF cx orc f rid i o st K = K x s

/-- 'append', its room and its element taken for granted where told so. -/
def appW (cx : Cx) (f rid i : Nat) (o : Oper) (st : St) (z : LV) (K : LV → St → Prop) : Prop :=
  match o.op with
  | .call c =>
    match c.callee, c.args.toList with
    | .builtin .append, [x, y] =>
      cx.arr f rid i = false ∧
      onE (c.argTypes.toList.head?.bind (elemTy cx.P)) fun e => onE (cx.P.info? e) fun ti => onE (zeroC cx.P e) fun zc =>
      onE (st.rv y) fun a => onE (elA (c.argTypes.toList[1]?.bind cx.P.underlying) ti.size a) fun ys =>
      (Nat.beq zc.length ti.size && Nat.blt 0 ti.size) = true ∧
      (match x with
       | .tmp j => apL (st.t j) ti.size ti.bytes ys = some z ∧ K z { st with t := upd st.t j .un }
       | .const (.slice none 0 0) => apL (.ow ti.size []) ti.size ti.bytes ys = some z ∧ K z st
       | _ => False)
    | _, _ => False
  | _ => False
def isApp (o : Oper) : Bool :=
  match o.op with
  | .call c => (match c.callee with | .builtin .append => true | _ => false)
  | _ => false
def askB (scr : Scr) (x : Operand) : Option Bool :=
  match x with
  | .tmp j => scr.b j
  | _ => none
def plainW (cx : Cx) (orc : Orc) (f rid i : Nat) (o : Oper) (st : St) (K : LV → St → Prop) : Prop := onE (opR cx orc f rid i o st) fun p => K p.1 p.2
def pickW (c a b : Operand) (t : Bool) (st : St) (K : LV → St → Prop) : Prop := st.rb c = some t ∧ (bif t then K (st.rd a) st else K (st.rd b) st)
def opW (cx : Cx) (orc : Orc) (scr : Scr) (f rid i : Nat) (o : Oper) (st : St) (K : LV → St → Prop) : Prop :=
  match scr.v rid i with
  | some z => bif isApp o then appW cx f rid i o st z K else askV cx f rid i o st z ∧ K z st
  | none =>
    match scr.c rid i with
    | some (x, h') => callW cx orc f rid i o st x h' K
    | none =>
      match o.op with
      | .pick c a b => (match askB scr c with | some t => pickW c a b t st K | none => plainW cx orc f rid i o st K)
      | _ => plainW cx orc f rid i o st K
/-! ### An operation at its place, a region, a text -/
def grdW (cx : Cx) (orc : Orc) (scr : Scr) (f rid : Nat) (i : Nat) (o : Oper) (d : Nat) (want : Bool) (b : Bool) (st : St) (K : St → Prop) : Prop :=
  bif Bool.xor b want then K (St.put { st with t := upd st.t d (.v (.bool b)) } o.dst .ud)
  else opW cx orc scr f rid i o { st with t := upd st.t d (.v (.bool b)) } fun x st => K (st.put o.dst x)
def op1W (cx : Cx) (orc : Orc) (scr : Scr) (f rid nt : Nat) (ops : Array Oper) (i : Nat) (o : Oper) (st : St) (K : St → Prop) : Prop :=
  bif !dstOk nt o.dst then False else
  match o.guard with
  | none => opW cx orc scr f rid i o st fun x st => K (st.put o.dst x)
  | some (j, want) =>
    match (ops[j]?).bind (·.dst) with
    | none => False
    | some d =>
      match scr.b d with
      | some b => (st.t d).toB = some b ∧ grdW cx orc scr f rid i o d want b st K
      | none =>
        match st.t d with
        | .ud => K (st.put o.dst .ud)
        | x => onE x.toB fun b => grdW cx orc scr f rid i o d want b st K
def opsW (cx : Cx) (orc : Orc) (scr : Scr) (f rid nt : Nat) (ops : Array Oper) : Nat → List Oper → St → (St → Prop) → Prop
  | _, [], st, K => K st
  | i, o :: os, st, K => tgP scr (rid * 1000 + i) (op1W cx orc scr f rid nt ops i o st fun st => opsW cx orc scr f rid nt ops (i + 1) os st K)
def regW (cx : Cx) (orc : Orc) (scr : Scr) (f : FuncId) (first : Bool) (id : Nat) (ops : Array Oper) (draw : Bool) (k : List Item) (st : St) (r : LV × Heap) (K : St → Prop) : Prop :=
  match (bif first then none else cx.cut f id) with
  | some kp => kpOk kp.nl st.z kp.bs = true ∧ orc f (.code (.region id ops draw) :: k) (kept kp st) st.h = some r
  | none => bif !draw || anyOk cx f id ops then onE (cx.P.funcs[f]?) fun fn => opsW cx orc scr f id fn.ntmps ops 0 ops.toList (frcS st) K else False
def tagC (c : Operand) : Nat := match c with | .tmp j => 1000000000 + j | _ => 0
def cndW (scr : Scr) (c : Operand) (st : St) (K : Bool → Prop) : Prop :=
  match askB scr c with
  | some t => st.rb c = some t ∧ K t
  | none => onE (st.rb c) K
def evW (cx : Cx) (orc : Orc) (scr : Scr) (f : FuncId) (r : LV × Heap) : Nat → Bool → List Item → St → Prop
  | 0, _, _, _ => False
  | n + 1, first, todo, st =>
    match todo with
    | [] => fin cx f st = some r
    | .code .ret :: _ => fin cx f st = some r
    | .code .skip :: k => evW cx orc scr f r n false k st
    | .code (.label _) :: k => evW cx orc scr f r n false k st
    | .inBlock _ :: k => evW cx orc scr f r n false k st
    | .code (.seq a b) :: k => evW cx orc scr f r n first (.code a :: .code b :: k) st
    | .code (.cond c a b) :: k => tgP scr (tagC c) (cndW scr c st fun t => bif t then evW cx orc scr f r n false (.code a :: k) st else evW cx orc scr f r n false (.code b :: k) st)
    | .code (.block id body) :: k => evW cx orc scr f r n first (.code body :: .inBlock id :: k) st
    | .code (.loop body) :: k => evW cx orc scr f r n first (.code body :: .inLoop body :: k) st
    | .inLoop body :: k => evW cx orc scr f r n first (.code body :: .inLoop body :: k) st
    | .code (.exit id) :: k =>
      match exitTo id k with
      | some k' => evW cx orc scr f r n false k' st
      | none => False
    | .code (.region id ops draw) :: k => regW cx orc scr f first id ops draw k st r fun st => evW cx orc scr f r n false k st
    | _ => False
/-- What must hold so that a text comes to r. -/
def stepW (cx : Cx) (orc : Orc) (scr : Scr) (f : FuncId) (todo : List Item) (xs : List LV) (h : Heap) (r : LV × Heap) : Prop :=
  match cutAt cx f todo with
  | some kp => evW cx orc scr f r fuel true todo (mkSt kp xs h)
  | none => evW cx orc scr f r fuel false todo (inSt xs h)
/-- The rest of a function's text from a region on. -/
def posn (id : Nat) : Code → List Item → Option (List Item)
  | .region i ops d, k => bif Nat.beq i id then some (.code (.region i ops d) :: k) else none
  | .seq a b, k => (posn id a (.code b :: k)).orElse fun _ => posn id b k
  | .cond _ a b, k => (posn id a k).orElse fun _ => posn id b k
  | .block j a, k => posn id a (.inBlock j :: k)
  | .loop a, k => posn id a (.inLoop a :: k)
  | _, _ => none
def at_ (P : Program) (f : FuncId) (id : Nat) : List Item :=
  match P.funcs[f]? with
  | some fn => (match fn.body with | some c => (posn id c []).getD [] | none => [])
  | none => []
/-- A function's text. -/
def body_ (P : Program) (f : FuncId) : List Item :=
  match P.funcs[f]? with
  | some fn => (match fn.body with | some c => [.code c] | none => [])
  | none => []
end Go.Proofs.Am
