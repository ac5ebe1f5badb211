/-
  A way through a text with open values: what must hold on it is told, one by one; where all of it holds, the machine comes to what is told.
-/
import Derived.Test.YtacfojpdccahhaaGreatDoorAmNat
namespace Go.Proofs.Am
open Go
structure Scr where
 b : Nat → Option Bool
 v : Nat → Nat → Option LV
 c : Nat → Nat → Option (LV × Heap)
 tg : Bool := false
def tgP (scr : Scr) (n : Nat) (p : Prop) : Prop := bif scr.tg then (n = n ∧ p) else p
theorem tgP_iff {scr : Scr} {n : Nat} {p : Prop} (h : tgP scr n p) : p := by
 unfold tgP at h
 cases hs : scr.tg with
 | true => rw [hs] at h; exact h.2
 | false => rw [hs] at h; exact h
def oneV (x : LV) (F : AV → Prop) : Prop := match x with | .v y => F y | _ => False
def on1 (a : Option AV) (F : AV → Prop) : Prop := match a with | some p => F p | none => False
def onI (a : Option AV) (F : Int → Prop) : Prop := match a with | some (.int _ n) => F n | _ => False
def onE {A : Type} (a : Option A) (F : A → Prop) : Prop := match a with | some p => F p | none => False
theorem oneV_iff {x : LV} {F : AV → Prop} (h : oneV x F) : ∃ y, x = .v y ∧ F y := by cases x <;> first | exact ⟨_, rfl, h⟩ | exact False.elim h
theorem onE_iff {A : Type} {a : Option A} {F : A → Prop} (h : onE a F) : ∃ p, a = some p ∧ F p := by
 cases a with
 | none => exact False.elim h
 | some p => exact ⟨p, rfl, h⟩
theorem onI_iff {a : Option AV} {F : Int → Prop} (h : onI a F) : ∃ p n, a = some p ∧ p.toI = some n ∧ F n := by
 cases a with
 | none => exact False.elim h
 | some p => cases p <;> first | exact ⟨_, _, rfl, rfl, h⟩ | exact False.elim h
def askBin (cx : Cx) (op : BinOp) (t : TypeId) (x y : Operand) (st : St) (z : LV) : Prop := onE (st.rv x) fun p => onE (st.rv y) fun q => oneV z fun r => binF cx.P op t (isC x || isC y) p q = some r
def askUn (op : UnOp) (x : Operand) (st : St) (z : LV) : Prop := onE (st.rv x) fun p => oneV z fun r => unA op p = some r
def askConv (cx : Cx) (s d : TypeId) (x : Operand) (st : St) (z : LV) : Prop := onE (st.rv x) fun p => cvA cx.P s d p = some z
def askConvH (cx : Cx) (s d : TypeId) (x : Operand) (st : St) (z : LV) : Prop := onE (st.rv x) fun p => cvH cx.P st.h s d p = some z
def askIx (cx : Cx) (t : TypeId) (x ix : Operand) (st : St) (z : LV) : Prop := onE (st.rv x) fun p => onI (st.rv ix) fun n => oneV z fun r => ixS (cx.P.underlying t) p n = some r
def snapOf (r : AV) (F : List AV → Prop) : Prop := match r with | .snap cs => F cs | _ => False
theorem snapOf_iff {r : AV} {F : List AV → Prop} (h : snapOf r F) : ∃ cs, r = .snap cs ∧ F cs := by cases r <;> first | exact ⟨_, rfl, h⟩ | exact False.elim h
def askIA (cx : Cx) (t : TypeId) (x ix : Operand) (st : St) (z : LV) : Prop :=
 onE (elemTy cx.P t) fun e => onE (tyz cx.P e) fun k => onE (st.rv x) fun p => onI (st.rv ix) fun n => oneV z fun r => snapOf r fun cs => ixA p n k.1 = some cs
def askSl (cx : Cx) (t : TypeId) (x : Operand) (lo hi : Option Operand) (st : St) (z : LV) : Prop :=
 onE (st.rv x) fun p => onE (rvs st lo.toList some) fun ls => onE (rvs st hi.toList some) fun hs => ((ls.all fun x => x.toI.isSome) && (hs.all fun x => x.toI.isSome)) = true ∧
  oneV z fun r => slA cx.P t p (ls.head?.bind AV.toI) (hs.head?.bind AV.toI) = some r
def lenV (z : LV) (F : Int → Prop) : Prop := match z with | .v (.int .i64 n) => F n | _ => False
theorem lenV_iff {z : LV} {F : Int → Prop} (h : lenV z F) : ∃ n, z = .v (.int .i64 n) ∧ F n := by
 unfold lenV at h
 split at h
 ·exact ⟨_, rfl, h⟩
 ·exact False.elim h
def lnS : AV → Option Int
 | .imm xs => some xs.length
 | .arr _ _ _ len => some len
 | .nilS => some 0
 | .nilE => some 0
 | _ => none
def askLen (cx : Cx) (c : Call) (st : St) (z : LV) : Prop :=
 match c.callee, c.args.toList with
 | .builtin .len, [x] => onE (st.rv x) fun p => lenV z fun n => (match c.argTypes.toList.head?.bind cx.P.underlying with | some (.slice _) => lnS p = some n | d => lnA d p = some n)
 | _, _ => False
def askV (cx : Cx) (f rid i : Nat) (o : Oper) (st : St) (z : LV) : Prop :=
 match o.op with
 | .binOp op t x y _ => askBin cx op t x y st z
 | .unOp op _ x => askUn op x st z
 | .convert s d x => bif cx.heap f rid i then askConvH cx s d x st z else askConv cx s d x st z
 | .index t x ix => askIx cx t x ix st z
 | .indexAddr t x ix => cx.heap f rid i = false ∧ globOf o.op = none ∧ askIA cx t x ix st z
 | .slice t x lo hi none => askSl cx t x lo hi st z
 | .call c => askLen cx c st z
 | _ => False
variable {cx : Cx} {orc : Orc} {f rid i : Nat} {o : Oper} {st : St}
theorem askV_ok {z : LV} (h : askV cx f rid i o st z) {R : Type} (K : LV → St → Option R) : opKF cx orc f rid i o st K = K z st := by
 unfold askV at h
 unfold opKF
 split at h
 ·rename_i op t x y q ho
  have hg : globOf o.op = none := by rw [ho]; rfl
  rw [hg]
  unfold opF; rw [ho]
  obtain ⟨p, hp, h⟩ := onE_iff h
  obtain ⟨q, hq, h⟩ := onE_iff h
  obtain ⟨r, rfl, h⟩ := oneV_iff h
  have h : binF cx.P op t (isC x || isC y) p q = some r := h
  simp only [fBin, hp, hq, h, Option.bind_some]
 ·rename_i op q x ho
  have hg : globOf o.op = none := by rw [ho]; rfl
  rw [hg]
  unfold opF; rw [ho]
  simp only
  unfold opO; rw [ho]
  obtain ⟨p, hp, h⟩ := onE_iff h
  obtain ⟨r, rfl, h⟩ := oneV_iff h
  have h : unA op p = some r := h
  simp only [hp, h, Option.bind_some]
 ·rename_i s d x ho
  have hg : globOf o.op = none := by rw [ho]; rfl
  rw [hg]
  unfold opF; rw [ho]
  simp only
  unfold opO; rw [ho]
  cases hh : cx.heap f rid i with
  | true =>
   rw [hh, cond_true] at h
   obtain ⟨p, hp, h⟩ := onE_iff h
   have h : cvH cx.P st.h s d p = some z := h
   simp only [hp, h, cond_true, Option.bind_some]
  | false =>
   rw [hh, cond_false] at h
   obtain ⟨p, hp, h⟩ := onE_iff h
   have h : cvA cx.P s d p = some z := h
   simp only [hp, h, cond_false, Option.bind_some]
 ·rename_i t x ix ho
  have hg : globOf o.op = none := by rw [ho]; rfl
  rw [hg]
  unfold opF; rw [ho]
  obtain ⟨p, hp, h⟩ := onE_iff h
  obtain ⟨q, n, hq, hn, h⟩ := onI_iff h
  obtain ⟨r, rfl, h⟩ := oneV_iff h
  have h : ixS (cx.P.underlying t) p n = some r := h
  simp only [fIx, idxA, hp, hq, hn, h, Option.bind_some]
 ·rename_i t x ix ho
  obtain ⟨hh, hg, h⟩ := h
  rw [hg]
  unfold opF; rw [ho]
  obtain ⟨e, he, h⟩ := onE_iff h
  obtain ⟨k, hk, h⟩ := onE_iff h
  obtain ⟨p, hp, h⟩ := onE_iff h
  obtain ⟨q, n, hq, hn, h⟩ := onI_iff h
  obtain ⟨r, rfl, h⟩ := oneV_iff h
  obtain ⟨cs, rfl, h⟩ := snapOf_iff h
  have h : ixA p n k.1 = some cs := h
  simp only [fIA, he, hk, hp, hq, hn, hh, h, Option.bind_some, cond_false]
 ·rename_i t x lo hi ho
  have hg : globOf o.op = none := by rw [ho]; rfl
  rw [hg]
  unfold opF; rw [ho]
  obtain ⟨p, hp, h⟩ := onE_iff h
  obtain ⟨ls, hls, h⟩ := onE_iff h
  obtain ⟨hs, hhs, h⟩ := onE_iff h
  obtain ⟨hb, h⟩ := h
  obtain ⟨r, rfl, h⟩ := oneV_iff h
  have h : slA cx.P t p (ls.head?.bind AV.toI) (hs.head?.bind AV.toI) = some r := h
  simp only [fSl, hp, Option.bind_some]
  rw [rvs_nat, hls, Option.bind_some, rvs_nat, hhs, Option.bind_some]
  simp only [Option.isNone_none, cond_true, h, Option.bind_some, hb]
 ·rename_i c ho
  have hg : globOf o.op = none := by rw [ho]; rfl
  obtain ⟨callee, as, tys⟩ := c
  unfold askLen at h
  simp only at h
  split at h
  ·rename_i x has
   obtain ⟨p, hp, h⟩ := onE_iff h
   obtain ⟨n, rfl, hn'⟩ := lenV_iff h
   have hn : lnA (tys.toList.head?.bind cx.P.underlying) p = some n := by
    generalize tys.toList.head?.bind cx.P.underlying = d at hn'
    split at hn'
    ·exact hn'
    ·exact hn'
   rw [hg]
   unfold opF; rw [ho]
   simp only [fCall, has, fBuiltin, fLen, hp, hn, Option.bind_some]
  ·exact False.elim h
 ·exact False.elim h
def resW (m : Nat) (x : LV) (K : LV → Prop) : Prop :=
 match m with
 | 0 => onE x.cpy1 fun a => K (.v a)
 | 1 => (match x with | .tup xs => K (.tup xs) | _ => False)
 | _ => K x
def cellsR (z : Nat) (y : LV) : Option (List LV) :=
 match y with
 | .ag ls => bif Nat.beq ls.length z && ls.all LV.isC then some ls else none
 | .v a => (a.toC z).bind fun cs => some (cs.map .v)
 | .ow n xs => bif Nat.beq z 1 then some [.ow n xs] else none
 | _ => none
def effW (cx : Cx) (f rid i : Nat) (o : Oper) (st : St) (x : LV) (h' : Heap) (K : LV → St → Prop) : Prop :=
 match o.op with
 | .indexAddr t a ix => cx.heap f rid i = true ∧ globOf o.op = none ∧ onE (elemTy cx.P t) fun e => onE (tyz cx.P e) fun k => onE (st.rv a) fun p => onI (st.rv ix) fun n => oneV x fun r => ixP p n k.1 = some r ∧ K x st
 | .load t a => cx.heap f rid i = true ∧ globOf o.op = none ∧ cx.take f rid i = false ∧ onE (tyz cx.P t) fun z => oneV (st.rd a) fun p => oneV x fun y => ldP st.h p z.1 z.2 = some y ∧ K x st
 | .store t a v => cx.heap f rid i = true ∧ cx.take f rid i = false ∧ x = .ud ∧ onE (tyz cx.P t) fun z => Nat.blt 0 z.1 = true ∧ oneV (st.rd a) fun p => onE (match v with | .const c => cellsR z.1 (lvC cx.P t c) | v => cellsR z.1 (st.rd v)) fun l => stP st.h p l = some h' ∧ K .ud { st with h := h' }
 | _ => False
def apX (P : Program) (h : Heap) (t : Option TypeId) (n bytes : Nat) (d p : AV) : Option (AV × Heap) := (elX P h true t n p).bind fun ys => apG h d n bytes ys
def appHW (cx : Cx) (f rid i : Nat) (o : Oper) (st : St) (x : LV) (h' : Heap) (K : LV → St → Prop) : Prop :=
 match o.op with
 | .call c =>
  match c.callee, c.args.toList with
  | .builtin .append, [a, y] =>
   cx.heap f rid i = true ∧
   onE (c.argTypes.toList.head?.bind (elemTy cx.P)) fun e => onE (cx.P.info? e) fun ti => onE (zeroC cx.P e) fun zc =>
   onE (st.rv y) fun p => bif cx.arr f rid i then ((Nat.beq zc.length ti.size && Nat.blt 0 ti.size) = true ∧ onE (st.ra a) fun d => oneV x fun q => apX cx.P st.h c.argTypes.toList[1]? ti.size ti.bytes d p = some (q, h') ∧ K x { st with h := h' }) else
   onE (elX cx.P st.h false c.argTypes.toList[1]? ti.size p) fun ys =>
   (Nat.beq zc.length ti.size && Nat.blt 0 ti.size) = true ∧ onE (st.ra a) fun d => oneV x fun q => apG st.h d ti.size ti.bytes ys = some (q, h') ∧ K x { st with h := h' }
  | _, _ => False
 | _ => False
theorem appHW_ok {x : LV} {h' : Heap} {K : LV → St → Prop} (h : appHW cx f rid i o st x h' K) : ∃ y s, K y s ∧ (∀ (R : Type) (K : LV → St → Option R), opKF cx orc f rid i o st K = K y s) := by
 unfold appHW at h
 split at h
 ·rename_i c ho
  have hg : globOf o.op = none := by rw [ho]; rfl
  obtain ⟨callee, as, tys⟩ := c
  simp only at h
  split at h
  ·rename_i a y has
   obtain ⟨hph, h⟩ := h
   obtain ⟨e, he, h⟩ := onE_iff h
   obtain ⟨ti, hti, h⟩ := onE_iff h
   obtain ⟨zc, hzc, h⟩ := onE_iff h
   obtain ⟨p, hp, h⟩ := onE_iff h
   cases har : cx.arr f rid i with
   | true =>
    rw [har, cond_true] at h
    obtain ⟨hc, h⟩ := h
    obtain ⟨d, hd, h⟩ := onE_iff h
    obtain ⟨q, rfl, ha, hK⟩ := oneV_iff h
    obtain ⟨ys, hys, ha⟩ := Option.bind_eq_some_iff.1 ha
    refine ⟨_, _, hK, fun R K' => ?_⟩
    unfold opKF
    rw [hg]
    unfold opF; rw [ho]
    simp only [fCall, has, fBuiltin, builtinK, he, hti, hzc, hp, har, hys, hc, hph, hd, ha, Option.bind_some, cond_true]
   | false =>
   rw [har, cond_false] at h
   obtain ⟨ys, hys, hc, h⟩ := onE_iff h
   obtain ⟨d, hd, h⟩ := onE_iff h
   obtain ⟨q, rfl, ha, hK⟩ := oneV_iff h
   refine ⟨_, _, hK, fun R K' => ?_⟩
   unfold opKF
   rw [hg]
   unfold opF; rw [ho]
   simp only [fCall, has, fBuiltin, builtinK, he, hti, hzc, hp, har, hys, hc, hph, hd, ha, Option.bind_some, cond_true]
  ·exact False.elim h
 ·exact False.elim h
def callW (cx : Cx) (orc : Orc) (f rid i : Nat) (o : Oper) (st : St) (x : LV) (h' : Heap) (K : LV → St → Prop) : Prop :=
 match o.op with
 | .call c =>
  match c.callee with
  | .value (.func g) => onE (argR (cx.take f rid i) st c.args.toList) fun q =>
   bif cx.pure f rid i then npLs q.1 = true ∧ callF cx orc g q.1 Heap.nil = some (x, h') ∧ resW (mode cx g) x fun y => y.np = true ∧ K y q.2
   else callF cx orc g q.1 q.2.h = some (x, h') ∧ resW (mode cx g) x fun y => K y { q.2 with h := h' }
  | .value (.tmp j) => onE (st.t j).cpy fun fv => onE (argR (cx.take f rid i) st c.args.toList) fun q =>
   callV cx orc fv q.1 q.2.h = some (x, h') ∧ resW (bif tupTy cx.P o.type then 1 else 0) x fun y => K y { q.2 with h := h' }
  | .builtin _ => appHW cx f rid i o st x h' K
  | _ => False
 | _ => effW cx f rid i o st x h' K
def Gives (cx : Cx) (orc : Orc) (f rid i : Nat) (o : Oper) (st : St) (x : LV) (s : St) : Prop := ∀ (R : Type) (K : LV → St → Option R), opKF cx orc f rid i o st K = K x s
theorem resW0 {x : LV} {h' : Heap} {K : LV → Prop} (h : resW 0 x K) : ∃ a, toA (some (x, h')) = some (a, h') ∧ K (.v a) := by
 obtain ⟨a, ha, h⟩ := onE_iff h
 exact ⟨a, by simp only [toA, Option.bind_some, ha], h⟩
theorem resW1 {x : LV} {h' : Heap} {K : LV → Prop} (h : resW 1 x K) : ∃ xs, toT (some (x, h')) = some (xs, h') ∧ K (.tup xs) := by
 cases x <;> simp only [resW] at h
 exact ⟨_, rfl, h⟩
theorem cellsR_ok {z : Nat} {y : LV} {l : List LV} (h : cellsR z y = some l) {st : St} {p : AV} {h' : Heap} {a : Operand} {R : Type} {K : LV → St → Option R} (hp : st.rd a = .v p) (hs : stP st.h p l = some h') :
  cellsF true a z K st y = K .ud { st with h := h' } := by
 unfold cellsR at h
 split at h
 ·rename_i ls
  cases hc : (Nat.beq ls.length z && ls.all LV.isC) with
  | false => rw [hc] at h; cases h
  | true =>
   rw [hc, cond_true, Option.some.injEq] at h
   subst h
   simp only [cellsF, hc, cond_true, putF, hp, hs, Option.bind_some]
 ·rename_i b
  rw [Option.bind_eq_some_iff] at h
  obtain ⟨cs, hcs, h⟩ := h
  simp only [Option.some.injEq] at h
  subst h
  simp only [cellsF, hcs, Option.bind_some, putF, cond_true, hp, hs]
 ·rename_i n xs
  cases hc : Nat.beq z 1 with
  | false => rw [hc] at h; cases h
  | true =>
   rw [hc, cond_true, Option.some.injEq] at h
   subst h
   simp only [cellsF, hc, cond_true, putF, hp, hs, Option.bind_some]
 ·cases h
theorem effW_ok {x : LV} {h' : Heap} {K : LV → St → Prop} (h : effW cx f rid i o st x h' K) : ∃ y s, K y s ∧ Gives cx orc f rid i o st y s := by
 unfold effW at h
 split at h
 ·rename_i t a ix ho
  obtain ⟨hh, hg, h⟩ := h
  obtain ⟨e, he, h⟩ := onE_iff h
  obtain ⟨k, hk, h⟩ := onE_iff h
  obtain ⟨p, hp, h⟩ := onE_iff h
  obtain ⟨q, n, hq, hn, h⟩ := onI_iff h
  obtain ⟨r, rfl, h, hK⟩ := oneV_iff h
  refine ⟨_, _, hK, fun R K' => ?_⟩
  unfold opKF
  rw [hg]
  unfold opF; rw [ho]
  simp only [fIA, he, hk, hp, hq, hn, hh, h, Option.bind_some, cond_true]
 ·rename_i t a ho
  obtain ⟨hh, hg, htk, h⟩ := h
  obtain ⟨z, hz, h⟩ := onE_iff h
  obtain ⟨p, hp, h⟩ := oneV_iff h
  obtain ⟨y, rfl, h, hK⟩ := oneV_iff h
  refine ⟨_, _, hK, fun R K' => ?_⟩
  unfold opKF
  rw [hg]
  unfold opF; rw [ho]
  simp only [fLoad, fLdH, hz, hh, htk, hp, h, Option.bind_some, cond_true, cond_false]
 ·rename_i t a v ho
  obtain ⟨hh, htk, rfl, h⟩ := h
  obtain ⟨z, hz, hb, h⟩ := onE_iff h
  obtain ⟨p, hp, h⟩ := oneV_iff h
  obtain ⟨l, hl, hs, hK⟩ := onE_iff h
  have hg : globOf o.op = none := by rw [ho]; rfl
  refine ⟨_, _, hK, fun R K' => ?_⟩
  unfold opKF
  rw [hg]
  unfold opF; rw [ho]
  have e : storeK cx.P (cx.heap f rid i) (cx.take f rid i) t a v st K' = K' .ud { st with h := h' } := by
   rw [storeK_eq, hz, hh, htk]
   simp only [Option.bind_some, hb, Bool.not_true, cond_false]
   cases v with
   | const c => exact cellsR_ok hl hp hs
   | _ => exact cellsR_ok hl hp hs
  exact e
 ·exact False.elim h
theorem callW_ok {x : LV} {h' : Heap} {K : LV → St → Prop} (h : callW cx orc f rid i o st x h' K) : ∃ y s, K y s ∧ Gives cx orc f rid i o st y s := by
 unfold callW at h
 split at h
 ·rename_i c ho
  have hg : globOf o.op = none := by rw [ho]; rfl
  obtain ⟨callee, as, tys⟩ := c
  simp only at h
  split at h
  ·rename_i g
   obtain ⟨q, hq, h⟩ := onE_iff h
   have un : ∀ (R : Type) (K' : LV → St → Option R), opKF cx orc f rid i o st K' = (match mode cx g with
     | 0 => doCall .v (cx.pure f rid i) q.1 (call1 cx orc g q.1) q.2 K'
     | 1 => doCall .tup (cx.pure f rid i) q.1 (callT cx orc g q.1) q.2 K'
     | _ => doCall (fun x => x) (cx.pure f rid i) q.1 (callF cx orc g q.1) q.2 K') := by
    intro R K'
    unfold opKF
    rw [hg]
    unfold opF; rw [ho]
    simp only [fCall, fCallF]
    rw [args_nat, hq, Option.bind_some]
    cases mode cx g with
    | zero => rfl
    | succ n => cases n <;> rfl
   cases hp : cx.pure f rid i with
   | true =>
    rw [hp] at h
    simp only [cond_true] at h
    obtain ⟨hn, hc, h⟩ := h
    generalize hm : mode cx g = m at h
    match m with
    | 0 =>
     obtain ⟨a, ha, h1, h2⟩ := resW0 (h' := h') h
     refine ⟨_, _, h2, fun R K' => ?_⟩
     rw [un, hm, hp]
     simp only [doCall, cond_true, hn, call1, hc, ha, Option.bind_some, h1]
    | 1 =>
     obtain ⟨a, ha, h1, h2⟩ := resW1 (h' := h') h
     refine ⟨_, _, h2, fun R K' => ?_⟩
     rw [un, hm, hp]
     simp only [doCall, cond_true, hn, callT, hc, ha, Option.bind_some, h1]
    | m + 2 =>
     obtain ⟨h1, h2⟩ := h
     refine ⟨_, _, h2, fun R K' => ?_⟩
     rw [un, hm, hp]
     simp only [doCall, cond_true, hn, hc, Option.bind_some, h1]
   | false =>
    rw [hp] at h
    simp only [cond_false] at h
    obtain ⟨hc, h⟩ := h
    generalize hm : mode cx g = m at h
    match m with
    | 0 =>
     obtain ⟨a, ha, h2⟩ := resW0 (h' := h') h
     refine ⟨_, _, h2, fun R K' => ?_⟩
     rw [un, hm, hp]
     simp only [doCall, cond_false, call1, hc, ha, Option.bind_some]
    | 1 =>
     obtain ⟨a, ha, h2⟩ := resW1 (h' := h') h
     refine ⟨_, _, h2, fun R K' => ?_⟩
     rw [un, hm, hp]
     simp only [doCall, cond_false, callT, hc, ha, Option.bind_some]
    | m + 2 =>
     refine ⟨_, _, h, fun R K' => ?_⟩
     rw [un, hm, hp]
     simp only [doCall, cond_false, hc, Option.bind_some]
  ·rename_i j
   obtain ⟨fv, hfv, h⟩ := onE_iff h
   obtain ⟨q, hq, hc, h⟩ := onE_iff h
   have un : ∀ (R : Type) (K' : LV → St → Option R), opKF cx orc f rid i o st K' = (bif tupTy cx.P o.type then doCall .tup false q.1 (callVT cx orc fv q.1) q.2 K'
     else doCall .v false q.1 (callV1 cx orc fv q.1) q.2 K') := by
    intro R K'
    unfold opKF
    rw [hg]
    unfold opF; rw [ho]
    simp only [fCall, fCallV, hfv, Option.bind_some]
    rw [args_nat, hq, Option.bind_some]
   cases ht : tupTy cx.P o.type with
   | true =>
    rw [ht] at h
    obtain ⟨a, ha, h2⟩ := resW1 (h' := h') h
    refine ⟨_, _, h2, fun R K' => ?_⟩
    rw [un, ht]
    simp only [doCall, cond_true, cond_false, callVT, hc, ha, Option.bind_some]
   | false =>
    rw [ht] at h
    obtain ⟨a, ha, h2⟩ := resW0 (h' := h') h
    refine ⟨_, _, h2, fun R K' => ?_⟩
    rw [un, ht]
    simp only [doCall, cond_false, callV1, hc, ha, Option.bind_some]
  ·exact appHW_ok h
  ·exact False.elim h
 ·exact effW_ok h
def appW (cx : Cx) (f rid i : Nat) (o : Oper) (st : St) (z : LV) (K : LV → St → Prop) : Prop :=
 match o.op with
 | .call c =>
  match c.callee, c.args.toList with
  | .builtin .append, [x, y] =>
   cx.arr f rid i = false ∧ cx.heap f rid i = false ∧
   onE (c.argTypes.toList.head?.bind (elemTy cx.P)) fun e => onE (cx.P.info? e) fun ti => onE (zeroC cx.P e) fun zc =>
   onE (st.rv y) fun a => onE (elA (c.argTypes.toList[1]?.bind cx.P.underlying) ti.size a) fun ys =>
   (Nat.beq zc.length ti.size && Nat.blt 0 ti.size) = true ∧
   (match x with
    | .tmp j => apL (st.t j) ti.size ti.bytes ys = some z ∧ K z { st with t := upd st.t j .un }
    | .const (.slice none 0 0) => apL (.ow ti.size []) ti.size ti.bytes ys = some z ∧ K z st
    | _ => False)
  | _, _ => False
 | _ => False
theorem appW_ok {z : LV} {K : LV → St → Prop} (h : appW cx f rid i o st z K) : ∃ y s, K y s ∧ Gives cx orc f rid i o st y s := by
 unfold appW at h
 split at h
 ·rename_i c ho
  have hg : globOf o.op = none := by rw [ho]; rfl
  obtain ⟨callee, as, tys⟩ := c
  simp only at h
  split at h
  ·rename_i x y has
   obtain ⟨har, hph, h⟩ := h
   obtain ⟨e, he, h⟩ := onE_iff h
   obtain ⟨ti, hti, h⟩ := onE_iff h
   obtain ⟨zc, hzc, h⟩ := onE_iff h
   obtain ⟨a, ha, h⟩ := onE_iff h
   obtain ⟨ys, hys, hc, hw⟩ := onE_iff h
   clear h
   cases x with
   | tmp j =>
    refine ⟨_, _, hw.2, fun R K' => ?_⟩
    unfold opKF
    rw [hg]
    unfold opF; rw [ho]
    simp only [fCall, has, fBuiltin, builtinK, elX, he, hti, hzc, ha, hys, hc, har, hph, hw.1, Option.bind_some, cond_true, cond_false]
   | const v =>
    split at hw
    ·rename_i heq; cases heq
    ·rename_i heq
     injection heq with heq
     subst heq
     refine ⟨_, _, hw.2, fun R K' => ?_⟩
     unfold opKF
     rw [hg]
     unfold opF; rw [ho]
     simp only [fCall, has, fBuiltin, builtinK, elX, he, hti, hzc, ha, hys, hc, har, hph, hw.1, Option.bind_some, cond_true, cond_false]
    ·exact False.elim hw
   | func g => exact False.elim hw
   | global g => exact False.elim hw
  ·exact False.elim h
 ·exact False.elim h
def isApp (o : Oper) : Bool :=
 match o.op with
 | .call c => (match c.callee with | .builtin .append => true | _ => false)
 | _ => false
def askB (scr : Scr) (x : Operand) : Option Bool :=
 match x with
 | .tmp j => scr.b j
 | _ => none
def plainW (cx : Cx) (orc : Orc) (f rid i : Nat) (o : Oper) (st : St) (K : LV → St → Prop) : Prop := onE (opR cx orc f rid i o st) fun p => K p.1 p.2
def pickW (c a b : Operand) (t : Bool) (st : St) (K : LV → St → Prop) : Prop := st.rb c = some t ∧ (bif t then K (st.rd a) st else K (st.rd b) st)
def opW (cx : Cx) (orc : Orc) (scr : Scr) (f rid i : Nat) (o : Oper) (st : St) (K : LV → St → Prop) : Prop :=
 match scr.v rid i with
 | some z => bif isApp o then appW cx f rid i o st z K else askV cx f rid i o st z ∧ K z st
 | none =>
  match scr.c rid i with
  | some (x, h') => callW cx orc f rid i o st x h' K
  | none =>
   match o.op with
   | .pick c a b => (match askB scr c with | some t => pickW c a b t st K | none => plainW cx orc f rid i o st K)
   | _ => plainW cx orc f rid i o st K
theorem plainW_ok {K : LV → St → Prop} (h : plainW cx orc f rid i o st K) : ∃ y s, K y s ∧ Gives cx orc f rid i o st y s := by
 obtain ⟨p, hp, h⟩ := onE_iff h
 exact ⟨_, _, h, fun R K' => by rw [opKF_nat, hp, Option.bind_some]⟩
theorem opW_ok {scr : Scr} {K : LV → St → Prop} (h : opW cx orc scr f rid i o st K) : ∃ y s, K y s ∧ Gives cx orc f rid i o st y s := by
 unfold opW at h
 split at h
 ·rename_i z _
  cases ha : isApp o with
  | true => rw [ha] at h; exact appW_ok h
  | false =>
   rw [ha] at h
   exact ⟨z, st, h.2, fun R K' => askV_ok h.1 K'⟩
 ·split at h
  ·exact callW_ok h
  ·split at h
   ·rename_i c a b ho
    split at h
    ·rename_i t _
     obtain ⟨h1, h⟩ := h
     refine ⟨bif t then st.rd a else st.rd b, st, by cases t <;> exact h, fun R K' => ?_⟩
     have hg : globOf o.op = none := by rw [ho]; rfl
     unfold opKF
     rw [hg]
     unfold opF; rw [ho]
     simp only [fPick, h1, Option.bind_some]
     cases t <;> rfl
    ·exact plainW_ok h
   ·exact plainW_ok h
def grdW (cx : Cx) (orc : Orc) (scr : Scr) (f rid : Nat) (i : Nat) (o : Oper) (d : Nat) (want : Bool) (b : Bool) (st : St) (K : St → Prop) : Prop :=
 bif Bool.xor b want then K (St.put { st with t := upd st.t d (.v (.bool b)) } o.dst .ud)
 else opW cx orc scr f rid i o { st with t := upd st.t d (.v (.bool b)) } fun x st => K (st.put o.dst x)
def op1W (cx : Cx) (orc : Orc) (scr : Scr) (f rid nt : Nat) (ops : Array Oper) (i : Nat) (o : Oper) (st : St) (K : St → Prop) : Prop :=
 bif !dstOk nt o.dst then False else
 match o.guard with
 | none => opW cx orc scr f rid i o st fun x st => K (st.put o.dst x)
 | some (j, want) =>
  match (ops[j]?).bind (·.dst) with
  | none => False
  | some d =>
   match scr.b d with
   | some b => (st.t d).toB = some b ∧ grdW cx orc scr f rid i o d want b st K
   | none =>
    match st.t d with
    | .ud => K (st.put o.dst .ud)
    | x => onE x.toB fun b => grdW cx orc scr f rid i o d want b st K
theorem grdW_ok {scr : Scr} {nt : Nat} {ops : Array Oper} {d j : Nat} {want b : Bool} {K : St → Prop} (hd : dstOk nt o.dst = true) (hj : (ops[j]?).bind (·.dst) = some d) (hgd : o.guard = some (j, want))
  (hb : (st.t d).toB = some b) (h : grdW cx orc scr f rid i o d want b st K) : ∃ s, K s ∧ ∀ (R : Type) (K' : St → Option R), op1F cx orc f rid nt ops i o st K' = K' s := by
 have un : ∀ (R : Type) (K' : St → Option R), op1F cx orc f rid nt ops i o st K' = (bif Bool.xor b want then K' (St.put { st with t := upd st.t d (.v (.bool b)) } o.dst .ud)
   else opKF cx orc f rid i o { st with t := upd st.t d (.v (.bool b)) } fun x st => K' (st.put o.dst x)) := by
  intro R K'
  unfold op1F
  rw [hd, hgd]
  simp only [Bool.not_true, cond_false, grdF, hj]
  have : st.t d ≠ .ud := by intro e; rw [e] at hb; cases hb
  cases hx : st.t d <;> first | exact absurd hx this | skip
  all_goals (rw [hx] at hb; simp only [hb, Option.bind_some]; cases b <;> cases want <;> rfl)
 unfold grdW at h
 cases hx : Bool.xor b want with
 | true =>
  rw [hx] at h
  exact ⟨_, h, fun R K' => by rw [un, hx]; rfl⟩
 | false =>
  rw [hx] at h
  obtain ⟨y, s, hk, hg⟩ := opW_ok h
  exact ⟨_, hk, fun R K' => by rw [un, hx, cond_false, hg]⟩
theorem op1W_ok {scr : Scr} {nt : Nat} {ops : Array Oper} {K : St → Prop} (h : op1W cx orc scr f rid nt ops i o st K) : ∃ s, K s ∧ ∀ (R : Type) (K' : St → Option R), op1F cx orc f rid nt ops i o st K' = K' s := by
 unfold op1W at h
 cases hd : dstOk nt o.dst with
 | false => rw [hd] at h; exact False.elim h
 | true =>
 rw [hd] at h
 simp only [Bool.not_true, cond_false] at h
 split at h
 ·rename_i hg
  obtain ⟨y, s, hk, hgv⟩ := opW_ok h
  exact ⟨_, hk, fun R K' => by unfold op1F; rw [hd, hg]; simp only [Bool.not_true, cond_false]; rw [hgv]⟩
 ·rename_i j want hg
  split at h
  ·exact False.elim h
  ·rename_i d hj
   split at h
   ·rename_i b _
    exact grdW_ok hd hj hg h.1 h.2
   ·split at h
    ·rename_i hu
     exact ⟨_, h, fun R K' => by unfold op1F; rw [hd, hg]; simp only [Bool.not_true, cond_false, grdF, hj, hu]⟩
    ·obtain ⟨b, hb, h⟩ := onE_iff h
     exact grdW_ok hd hj hg hb h
def opsW (cx : Cx) (orc : Orc) (scr : Scr) (f rid nt : Nat) (ops : Array Oper) : Nat → List Oper → St → (St → Prop) → Prop
 | _, [], st, K => K st
 | i, o :: os, st, K => tgP scr (rid * 1000 + i) (op1W cx orc scr f rid nt ops i o st fun st => opsW cx orc scr f rid nt ops (i + 1) os st K)
theorem opsW_ok {scr : Scr} {nt : Nat} {ops : Array Oper} : ∀ (os : List Oper) (i : Nat) (st : St) (K : St → Prop), opsW cx orc scr f rid nt ops i os st K →
  ∃ s, K s ∧ ∀ (R : Type) (K' : St → Option R), opsF cx orc f rid nt ops i os st K' = K' s
 | [], i, st, K, h => ⟨st, h, fun _ _ => rfl⟩
 | o :: os, i, st, K, h => by
  obtain ⟨s1, h1, k1⟩ := op1W_ok (tgP_iff h)
  obtain ⟨s2, h2, k2⟩ := opsW_ok os (i + 1) s1 K h1
  exact ⟨s2, h2, fun R K' => by rw [opsF, k1, k2]⟩
def regW (cx : Cx) (orc : Orc) (scr : Scr) (f : FuncId) (first : Bool) (id : Nat) (ops : Array Oper) (draw : Bool) (k : List Item) (st : St) (r : LV × Heap) (K : St → Prop) : Prop :=
 match (bif first then none else cx.cut f id) with
 | some kp => kpOk kp.nl st.z kp.bs = true ∧ orc f (.code (.region id ops draw) :: k) (kept kp st) st.h = some r
 | none => bif !draw || anyOk cx f id ops then onE (cx.P.funcs[f]?) fun fn => opsW cx orc scr f id fn.ntmps ops 0 ops.toList (frcS st) K else False
def tagC (n : Nat) (c : Operand) : Nat := match c with | .tmp _ => 1000000000 + (1000000 + n) | _ => 0
def askN (scr : Scr) (n : Nat) (x : Operand) : Option Bool :=
 match askB scr x with
 | some t => some t
 | none => scr.b (1000000 + n)
def cndW (scr : Scr) (n : Nat) (c : Operand) (st : St) (K : Bool → Prop) : Prop :=
 match askN scr n c with
 | some t => st.rb c = some t ∧ K t
 | none => onE (st.rb c) K
def evW (cx : Cx) (orc : Orc) (scr : Scr) (f : FuncId) (r : LV × Heap) : Nat → Bool → List Item → St → Prop
 | 0, _, _, _ => False
 | n + 1, first, todo, st =>
  match todo with
  | [] => fin cx f st = some r
  | .code .ret :: _ => fin cx f st = some r
  | .code .skip :: k => evW cx orc scr f r n false k st
  | .code (.label _) :: k => evW cx orc scr f r n false k st
  | .inBlock _ :: k => evW cx orc scr f r n false k st
  | .code (.seq a b) :: k => evW cx orc scr f r n first (.code a :: .code b :: k) st
  | .code (.cond c a b) :: k => tgP scr (tagC n c) (cndW scr n c st fun t => bif t then evW cx orc scr f r n false (.code a :: k) st else evW cx orc scr f r n false (.code b :: k) st)
  | .code (.block id body) :: k => evW cx orc scr f r n first (.code body :: .inBlock id :: k) st
  | .code (.loop body) :: k => evW cx orc scr f r n first (.code body :: .inLoop body :: k) st
  | .inLoop body :: k => evW cx orc scr f r n first (.code body :: .inLoop body :: k) st
  | .code (.exit id) :: k =>
   match exitTo id k with
   | some k' => evW cx orc scr f r n false k' st
   | none => False
  | .code (.region id ops draw) :: k => regW cx orc scr f first id ops draw k st r fun st => evW cx orc scr f r n false k st
  | _ => False
theorem evW_ok {scr : Scr} {r : LV × Heap} : ∀ (n : Nat) (first : Bool) (todo : List Item) (st : St), evW cx orc scr f r n first todo st → evF cx orc f n first todo st = some r
 | 0, _, _, _, h => False.elim h
 | n + 1, first, todo, st, h => by
  unfold evW at h
  unfold evF
  split at h
  ·exact h
  ·exact h
  ·exact evW_ok n _ _ _ h
  ·exact evW_ok n _ _ _ h
  ·exact evW_ok n _ _ _ h
  ·exact evW_ok n _ _ _ h
  ·rename_i c a b k
   simp only
   have go : ∀ t, st.rb c = some t → (bif t then evW cx orc scr f r n false (.code a :: k) st else evW cx orc scr f r n false (.code b :: k) st) →
     ((st.rb c).bind fun t => bif t then evF cx orc f n false (.code a :: k) st else evF cx orc f n false (.code b :: k) st) = some r := by
    intro t ht h
    rw [ht, Option.bind_some]
    cases t with
    | true => exact evW_ok n _ _ _ h
    | false => exact evW_ok n _ _ _ h
   have h := tgP_iff h
   unfold cndW at h
   split at h
   ·exact go _ h.1 h.2
   ·obtain ⟨t, ht, h⟩ := onE_iff h
    exact go _ ht h
  ·exact evW_ok n _ _ _ h
  ·exact evW_ok n _ _ _ h
  ·exact evW_ok n _ _ _ h
  ·rename_i id k
   simp only
   split at h
   ·rename_i k' hk
    rw [hk]
    exact evW_ok n _ _ _ h
   ·exact False.elim h
  ·rename_i id ops draw k
   simp only
   unfold regW at h
   unfold regF
   split at h
   ·rename_i kp hk
    rw [hk]
    simp only [h.1, cond_true]
    exact h.2
   ·rename_i hk
    rw [hk]
    simp only
    cases hb : (!draw || anyOk cx f id ops) with
    | false => rw [hb] at h; exact False.elim h
    | true =>
     rw [hb] at h
     simp only [cond_true] at h ⊢
     obtain ⟨fn, hfn, h⟩ := onE_iff h
     rw [hfn, Option.bind_some]
     obtain ⟨s, hs, k'⟩ := opsW_ok _ _ _ _ h
     rw [k']
     exact evW_ok n _ _ _ hs
  ·exact False.elim h
def stepW (cx : Cx) (orc : Orc) (scr : Scr) (f : FuncId) (todo : List Item) (xs : List LV) (h : Heap) (r : LV × Heap) : Prop :=
 match cutAt cx f todo with
 | some kp => evW cx orc scr f r fuel true todo (mkSt kp xs h)
 | none => evW cx orc scr f r fuel false todo (inSt xs h)
theorem stepW_ok {scr : Scr} {todo : List Item} {xs : List LV} {h : Heap} {r : LV × Heap} (hw : stepW cx orc scr f todo xs h r) : stepB cx orc f todo xs h = some r := by
 rw [← stepF_eq]
 unfold stepW at hw
 unfold stepF
 cases hc : cutAt cx f todo with
 | some kp => rw [hc] at hw; exact evW_ok _ _ _ _ hw
 | none => rw [hc] at hw; exact evW_ok _ _ _ _ hw
theorem blk_step {scr : Scr} {todo : List Item} {xs : List LV} {h : Heap} {r : LV × Heap} (hw : stepW cx (blk cx) scr f todo xs h r) : blk cx f todo xs h = some r := blk_of (stepW_ok hw)
theorem blk_by {scr : Scr} {todo : List Item} {xs : List LV} {h : Heap} {r : LV × Heap} {p : Prop} (hp : p) (e : stepW cx (blk cx) scr f todo xs h r = p) : blk cx f todo xs h = some r := blk_step (scr := scr) (Eq.mpr e hp)
theorem tT : some true = some true := rfl
theorem t1 : true = true := rfl
theorem t0 : false = false := rfl
theorem tN : (none : Option Nat) = none := rfl
theorem tR (r : LV × Heap) : some r = some r := rfl
theorem tF : some false = some false := rfl
theorem tA {p q : Prop} (hp : p) (hq : q) : p ∧ q := ⟨hp, hq⟩
theorem tS {A : Type} {x y : A} (h : x = y) : some x = some y := congrArg some h
def posn (id : Nat) : Code → List Item → Option (List Item)
 | .region i ops d, k => bif Nat.beq i id then some (.code (.region i ops d) :: k) else none
 | .seq a b, k => (posn id a (.code b :: k)).orElse fun _ => posn id b k
 | .cond _ a b, k => (posn id a k).orElse fun _ => posn id b k
 | .block j a, k => posn id a (.inBlock j :: k)
 | .loop a, k => posn id a (.inLoop a :: k)
 | _, _ => none
def at_ (P : Program) (f : FuncId) (id : Nat) : List Item :=
 match P.funcs[f]? with
 | some fn => (match fn.body with | some c => (posn id c []).getD [] | none => [])
 | none => []
def body_ (P : Program) (f : FuncId) : List Item :=
 match P.funcs[f]? with
 | some fn => (match fn.body with | some c => [.code c] | none => [])
 | none => []
theorem callF_of {xs : List LV} {h : Heap} {y : LV × Heap} (he : cx.ext f = none) (hb : (body_ cx.P f).isEmpty = false) (hc : (cutAt cx f (body_ cx.P f)).isNone = true) (hy : blk cx f (body_ cx.P f) xs h = some y) (hh : cx.exh f = none := by rfl) (hr : cx.exr f = none := by rfl) : callF cx (blk cx) f xs h = some y := by
 unfold callF
 rw [he]
 simp only
 rw [hh]
 simp only
 rw [hr]
 unfold body_ at hb hc hy
 cases hf : cx.P.funcs[f]? with
 | none => rw [hf] at hb; simp at hb
 | some fn =>
  rw [hf] at hb hc hy
  simp only at hb hc hy
  cases hbd : fn.body with
  | none => rw [hbd] at hb; simp at hb
  | some c =>
   rw [hbd] at hc hy
   simp only [Option.bind_some, hbd]
   rw [hc, cond_true]
   exact hy
end Go.Proofs.Am
