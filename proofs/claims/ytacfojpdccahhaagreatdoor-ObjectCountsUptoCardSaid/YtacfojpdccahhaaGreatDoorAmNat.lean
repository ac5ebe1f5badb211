/-
  An operation's result by itself: what goes on behind it gets it.
-/
import Derived.Test.YtacfojpdccahhaaGreatDoorAmFast
namespace Go.Proofs.Am
open Go
variable {R : Type} {cx : Cx} {orc : Orc} {f rid i : Nat} {st : St} {K : LV → St → Option R}
theorem bif_bind {A B : Type} (b : Bool) (x y : Option A) (g : A → Option B) : (bif b then x else y).bind g = bif b then x.bind g else y.bind g := by cases b <;> rfl
theorem rvs_nat : ∀ {R : Type} (xs : List Operand) (k : List AV → Option R), rvs st xs k = (rvs st xs some).bind k
 | _, [], k => rfl
 | _, x :: xs, k => by
  simp only [rvs]
  cases st.rv x with
  | none => rfl
  | some a =>
   simp only [Option.bind_some]
   rw [rvs_nat xs, rvs_nat xs (fun as => some (a :: as)), Option.bind_assoc]
   rfl
theorem rvp_nat : ∀ {R : Type} (xs : List (Nat × Operand)) (k : List (Nat × AV) → Option R), rvp st xs k = (rvp st xs some).bind k
 | _, [], k => rfl
 | _, (i, x) :: xs, k => by
  simp only [rvp]
  cases st.rv x with
  | none => rfl
  | some a =>
   simp only [Option.bind_some]
   rw [rvp_nat xs, rvp_nat xs (fun as => some ((i, a) :: as)), Option.bind_assoc]
   rfl
theorem bldK_nat {P : Program} {fs : List Field} : ∀ {R : Type} (xs : List (Nat × Operand)) (cs : List LV) (k : List LV → Option R), bldK P fs st xs cs k = (bldK P fs st xs cs some).bind k
 | _, [], cs, k => rfl
 | _, (i, x) :: xs, cs, k => by
  simp only [bldK]
  cases fs[i]? with
  | none => rfl
  | some fl =>
   simp only [Option.bind_some]
   cases tyz P fl.type with
   | none => rfl
   | some z =>
    simp only [Option.bind_some]
    cases st.rv x with
    | none => rfl
    | some a =>
     simp only [Option.bind_some]
     cases a.toC z.1 with
     | none => rfl
     | some ds =>
      simp only [Option.bind_some, bif_bind]
      cases Nat.ble (fl.offset + z.1) cs.length with
      | true => exact bldK_nat xs _ k
      | false => rfl
def argR (tk : Bool) (st : St) (xs : List Operand) : Option (List LV × St) := args tk st xs fun as s => some (as, s)
theorem args_nat {tk : Bool} : ∀ {R : Type} (xs : List Operand) (st : St) (k : List LV → St → Option R), args tk st xs k = (argR tk st xs).bind fun p => k p.1 p.2
 | _, [], st, k => rfl
 | _, x :: xs, st, k => by
  have plain : ((st.ra x).bind fun a => args tk st xs fun as st => k (.v a :: as) st) = (((st.ra x).bind fun a => args tk st xs fun as st => some ((.v a :: as : List LV), st)) : Option (List LV × St)).bind fun p => k p.1 p.2 := by
   cases st.ra x with
   | none => rfl
   | some a =>
    simp only [Option.bind_some]
    rw [args_nat xs st, args_nat xs st (fun as st => some ((.v a :: as : List LV), st)), Option.bind_assoc]
    rfl
  have plainV : ((st.rv x).bind fun a => args tk st xs fun as st => k (.v a :: as) st) = (((st.rv x).bind fun a => args tk st xs fun as st => some ((.v a :: as : List LV), st)) : Option (List LV × St)).bind fun p => k p.1 p.2 := by
   cases st.rv x with
   | none => rfl
   | some a =>
    simp only [Option.bind_some]
    rw [args_nat xs st, args_nat xs st (fun as st => some ((.v a :: as : List LV), st)), Option.bind_assoc]
    rfl
  unfold argR args
  cases tk with
  | false => exact plain
  | true =>
   cases x <;> first | exact plainV | skip
   rename_i j
   simp only [cond_true]
   cases (st.t j).arg with
   | none => rfl
   | some a =>
    simp only [Option.bind_some]
    rw [args_nat xs, args_nat xs _ (fun as st => some ((a :: as : List LV), st)), Option.bind_assoc]
    rfl
theorem doCall_nat {A : Type} {w : A → LV} {pu : Bool} {xs : List LV} {call : Heap → Option (A × Heap)} : doCall w pu xs call st K = (doCall w pu xs call st fun x s => some (x, s)).bind fun p => K p.1 p.2 := by
 unfold doCall
 cases pu with
 | true =>
  simp only [cond_true]
  cases npLs xs with
  | false => rfl
  | true =>
   simp only [cond_true]
   cases call Heap.nil with
   | none => rfl
   | some r =>
    simp only [Option.bind_some]
    cases (w r.1).np <;> rfl
 | false =>
  simp only [cond_false]
  cases call st.h <;> rfl
def opR (cx : Cx) (orc : Orc) (f rid i : Nat) (o : Oper) (st : St) : Option (LV × St) := opKF cx orc f rid i o st fun x s => some (x, s)
theorem fMv_nat {ty : TypeId} {x : Operand} : fMv cx f rid i ty x st K = (fMv cx f rid i ty x st fun x s => some (x, s)).bind fun p => K p.1 p.2 := by
 unfold fMv
 cases cx.arr f rid i with
 | true =>
  simp only [cond_true]
  cases x <;> try rfl
  rename_i j
  simp only [fFrz]
  cases st.t j <;> try rfl
  rename_i p
  simp only
  cases frz st.h p <;> rfl
 | false =>
  cases cx.take f rid i with
  | true => cases x <;> rfl
  | false => cases x <;> rfl
theorem fPick_nat {c a b : Operand} : fPick c a b st K = (fPick c a b st fun x s => some (x, s)).bind fun p => K p.1 p.2 := by
 unfold fPick
 cases st.rb c with
 | none => rfl
 | some t => cases t <;> rfl
theorem fAlloc_nat {e : TypeId} : fAlloc cx f rid i e st K = (fAlloc cx f rid i e st fun x s => some (x, s)).bind fun p => K p.1 p.2 := by
 unfold fAlloc
 cases tyz cx.P e with
 | none => rfl
 | some z =>
  simp only [Option.bind_some]
  cases zeroL cx.P e with
  | none => rfl
  | some zc =>
   simp only [Option.bind_some]
   cases Nat.beq zc.length z.1 with
   | false => rfl
   | true => cases cx.heap f rid i <;> cases Nat.beq (st.z st.nl) 0 <;> rfl
theorem fBox_nat {e : TypeId} {x : Operand} : fBox cx f rid i e x st K = (fBox cx f rid i e x st fun x s => some (x, s)).bind fun p => K p.1 p.2 := by
 unfold fBox
 cases tyz cx.P e with
 | none => rfl
 | some z =>
  simp only [Option.bind_some]
  cases st.rv x with
  | none => rfl
  | some a =>
   simp only [Option.bind_some]
   cases a.toC z.1 with
   | none => rfl
   | some cs => cases cx.heap f rid i <;> rfl
theorem fBuild_nat {nn : Bool} {t : TypeId} {parts : List (Nat × Operand)} : fBuild cx nn t parts st K = (fBuild cx nn t parts st fun x s => some (x, s)).bind fun p => K p.1 p.2 := by
 unfold fBuild
 cases fieldsOf cx.P t with
 | none =>
  simp only [arrB]
  cases arrTy cx.P t with
  | none => rfl
  | some e =>
  simp only [Option.bind_some]
  cases tyz cx.P e.2 with
  | none => rfl
  | some z =>
  simp only [Option.bind_some]
  cases zeroC cx.P t with
  | none => rfl
  | some zc =>
  simp only [Option.bind_some]
  rw [rvp_nat, rvp_nat (R := LV × St), Option.bind_assoc]
  congr 1
  funext ps
  cases (Nat.beq zc.length (e.1 * z.1) && Nat.blt 0 z.1) with
  | false => rfl
  | true =>
  simp only [cond_true]
  cases blsA z.1 (chunk z.1 e.1 zc) ps <;> rfl
 | some fs =>
  simp only
  cases zeroD nn cx.P t with
  | none => rfl
  | some zc =>
   simp only [Option.bind_some]
   cases (fs.all fun f => (tyz cx.P f.type).isSome) with
   | false => rfl
   | true =>
    simp only [cond_true]
    rw [bldK_nat, bldK_nat parts zc (fun cs => some ((.ag cs : LV), st)), Option.bind_assoc]
    rfl
theorem fBs_nat {t : TypeId} {len : Nat} {parts : List (Nat × Operand)} : fBs cx f rid i t len parts st K = (fBs cx f rid i t len parts st fun x s => some (x, s)).bind fun p => K p.1 p.2 := by
 unfold fBs
 cases elemTy cx.P t with
 | none => rfl
 | some e =>
  simp only [Option.bind_some]
  cases tyz cx.P e with
  | none => rfl
  | some z =>
   simp only [Option.bind_some]
   cases zeroC cx.P e with
   | none => rfl
   | some zc =>
    simp only [Option.bind_some]
    rw [rvp_nat, rvp_nat parts (fun ps => bif Nat.beq zc.length z.1 && Nat.ble (len * z.1) 16777216 && Nat.blt 0 z.1 then (blsA z.1 (List.replicate len zc) ps).bind fun xs => bif cx.heap f rid i then (bif Nat.blt 0 len then some ((.v (.arr z.1 st.h.bx.length 0 len) : LV), { st with h := newB st.h (flatV xs) }) else some ((.v .nilE : LV), st)) else some ((.ow z.1 xs : LV), st) else none), Option.bind_assoc]
    congr 1
    funext ps
    rw [bif_bind]
    cases (Nat.beq zc.length z.1 && Nat.ble (len * z.1) 16777216 && Nat.blt 0 z.1) with
    | false => rfl
    | true =>
     simp only [cond_true]
     cases blsA z.1 (List.replicate len zc) ps <;> cases cx.heap f rid i <;> cases Nat.blt 0 len <;> rfl
theorem fLoad_nat {t : TypeId} {a : Operand} : fLoad cx f rid i t a st K = (fLoad cx f rid i t a st fun x s => some (x, s)).bind fun p => K p.1 p.2 := by
 unfold fLoad
 cases tyz cx.P t with
 | none => rfl
 | some z =>
  simp only [Option.bind_some]
  cases cx.heap f rid i with
  | true =>
   simp only [cond_true, fLdH]
   cases st.rd a <;> try rfl
   rename_i p
   cases cx.take f rid i with
   | true =>
    simp only [cond_true]
    cases z.2 with
    | true => rfl
    | false =>
     simp only [cond_false]
     cases tkP st.h p <;> rfl
   | false =>
    simp only [cond_false]
    cases ldP st.h p z.1 z.2 <;> rfl
  | false =>
   simp only [cond_false, fLdL]
   cases st.rd a <;> try rfl
   ·rename_i p
    cases cx.take f rid i with
    | true => rfl
    | false =>
     simp only [cond_false]
     cases ldS p z.1 z.2 <;> rfl
   ·rename_i b off
    simp only [fLdB]
    cases Nat.ble (off + (bif z.2 then z.1 else 1)) (st.z b) with
    | false => rfl
    | true =>
     simp only [cond_true]
     cases cx.take f rid i with
     | true => cases z.2 <;> rfl
     | false =>
      simp only [cond_false]
      cases z.2 with
      | false => rfl
      | true =>
       simp only [cond_true]
       cases ldN st.m b off z.1 <;> rfl
theorem fNil_nat {x : Operand} : fNil x st K = (fNil x st fun x s => some (x, s)).bind fun p => K p.1 p.2 := by
 unfold fNil
 cases st.rd x <;> try rfl
 rename_i a
 simp only
 cases nckA a <;> rfl
theorem fBin_nat {op : BinOp} {t : TypeId} {x y : Operand} : fBin cx op t x y st K = (fBin cx op t x y st fun x s => some (x, s)).bind fun p => K p.1 p.2 := by
 unfold fBin
 cases st.rv x with
 | none => rfl
 | some a =>
  simp only [Option.bind_some]
  cases st.rv y with
  | none => rfl
  | some b =>
   simp only [Option.bind_some]
   cases binF cx.P op t (isC x || isC y) a b <;> rfl
theorem fMI_nat {t : TypeId} {x : Operand} : fMI cx t x st K = (fMI cx t x st fun x s => some (x, s)).bind fun p => K p.1 p.2 := by
 unfold fMI
 cases cx.P.underlying t with
 | none => rfl
 | some d =>
  simp only [Option.bind_some]
  cases st.rv x with
  | none => rfl
  | some a => cases d <;> rfl
theorem fMS_nat {t : TypeId} {l c : Operand} : fMS cx f rid i t l c st K = (fMS cx f rid i t l c st fun x s => some (x, s)).bind fun p => K p.1 p.2 := by
 unfold fMS
 cases elemTy cx.P t with
 | none => rfl
 | some e =>
  simp only [Option.bind_some]
  cases cx.P.info? e with
  | none => rfl
  | some ti =>
   simp only [Option.bind_some]
   cases tyz cx.P e with
   | none => rfl
   | some z =>
    simp only [Option.bind_some]
    cases zeroC cx.P e with
    | none => rfl
    | some zc =>
     simp only [Option.bind_some]
     cases st.rv l with
     | none => rfl
     | some a =>
      simp only [Option.bind_some]
      cases st.rv c with
      | none => rfl
      | some b =>
       simp only [Option.bind_some]
       cases a.toI with
       | none => rfl
       | some n =>
        simp only [Option.bind_some]
        cases b.toI with
        | none => rfl
        | some m =>
         simp only [Option.bind_some]
         cases (Nat.beq zc.length z.1 && Nat.blt 0 z.1 && decide (n = m) && decide (0 ≤ n) && room n.toNat ti.bytes) with
         | false => rfl
         | true => cases cx.heap f rid i <;> rfl
theorem fSl_nat {t : TypeId} {x : Operand} {lo hi mx : Option Operand} : fSl cx t x lo hi mx st K = (fSl cx t x lo hi mx st fun x s => some (x, s)).bind fun p => K p.1 p.2 := by
 unfold fSl
 cases st.rv x with
 | none => rfl
 | some a =>
  simp only [Option.bind_some]
  rw [rvs_nat, rvs_nat (R := LV × St) lo.toList, Option.bind_assoc]
  congr 1
  funext ls
  rw [rvs_nat, rvs_nat (R := LV × St) hi.toList, Option.bind_assoc]
  congr 1
  funext hs
  cases mx.isNone with
  | false => rfl
  | true =>
   simp only [cond_true]
   cases slA cx.P t a (ls.head?.bind AV.toI) (hs.head?.bind AV.toI) with
   | none => rfl
   | some r =>
    simp only [Option.bind_some]
    cases ((ls.all fun x => x.toI.isSome) && (hs.all fun x => x.toI.isSome)) <;> rfl
theorem fFA_nat {s : TypeId} {x : Operand} {j : Nat} : fFA cx s x j st K = (fFA cx s x j st fun x s => some (x, s)).bind fun p => K p.1 p.2 := by
 unfold fFA
 cases fieldsOf cx.P s with
 | none => rfl
 | some fs =>
  simp only [Option.bind_some]
  cases fs[j]? with
  | none => rfl
  | some fl =>
   simp only [Option.bind_some]
   cases tyz cx.P fl.type with
   | none => rfl
   | some z =>
    simp only [Option.bind_some]
    cases Nat.blt 0 z.1 with
    | false => rfl
    | true =>
     simp only [cond_true]
     cases st.rd x <;> try rfl
     rename_i p
     simp only
     cases fpA p fl.offset <;> rfl
theorem fFd_nat {s : TypeId} {x : Operand} {j : Nat} : fFd cx s x j st K = (fFd cx s x j st fun x s => some (x, s)).bind fun p => K p.1 p.2 := by
 unfold fFd
 cases fieldsOf cx.P s with
 | none => rfl
 | some fs =>
  simp only [Option.bind_some]
  cases fs[j]? with
  | none => rfl
  | some fl =>
   simp only [Option.bind_some]
   cases tyz cx.P fl.type with
   | none => rfl
   | some z =>
    simp only [Option.bind_some]
    cases st.rv x with
    | none => rfl
    | some a =>
     simp only [Option.bind_some]
     cases fdA a fl.offset z.1 z.2 <;> rfl
theorem fIA_nat {t : TypeId} {x ix : Operand} : fIA cx f rid i t x ix st K = (fIA cx f rid i t x ix st fun x s => some (x, s)).bind fun p => K p.1 p.2 := by
 unfold fIA
 cases elemTy cx.P t with
 | none =>
  simp only [arrIA]
  cases arrTy cx.P t with
  | none => rfl
  | some e =>
  simp only [Option.bind_some]
  cases tyz cx.P e.2 with
  | none => rfl
  | some z =>
  simp only [Option.bind_some]
  cases st.rv ix with
  | none => rfl
  | some b =>
  simp only [Option.bind_some]
  cases b.toI with
  | none => rfl
  | some n =>
  simp only [Option.bind_some]
  cases (decide (0 ≤ n) && decide (n < e.1) && Nat.blt 0 z.1) with
  | false => rfl
  | true =>
  simp only [cond_true]
  cases st.rd x <;> try rfl
  rename_i p
  simp only
  cases fpA p (n.toNat * z.1) <;> rfl
 | some e =>
  simp only
  cases tyz cx.P e with
  | none => rfl
  | some z =>
   simp only [Option.bind_some]
   cases st.rv x with
   | none => rfl
   | some a =>
    simp only [Option.bind_some]
    cases st.rv ix with
    | none => rfl
    | some b =>
     simp only [Option.bind_some]
     cases b.toI with
     | none => rfl
     | some n =>
      simp only [Option.bind_some]
      cases cx.heap f rid i with
      | true =>
       simp only [cond_true]
       cases ixP a n z.1 <;> rfl
      | false =>
       simp only [cond_false]
       cases ixA a n z.1 <;> rfl
theorem fIx_nat {t : TypeId} {x ix : Operand} : fIx cx t x ix st K = (fIx cx t x ix st fun x s => some (x, s)).bind fun p => K p.1 p.2 := by
 unfold fIx
 cases st.rv x with
 | none => rfl
 | some a =>
  simp only [Option.bind_some]
  cases st.rv ix with
  | none => rfl
  | some b =>
   simp only [Option.bind_some]
   cases b.toI with
   | none => rfl
   | some n =>
    simp only [Option.bind_some]
    cases idxA cx.P t a n <;> rfl
theorem fCallF_nat {tk pu : Bool} {g : FuncId} {as : List Operand} : fCallF cx orc tk pu g as st K = (fCallF cx orc tk pu g as st fun x s => some (x, s)).bind fun p => K p.1 p.2 := by
 unfold fCallF
 rw [args_nat, args_nat (R := LV × St), Option.bind_assoc]
 congr 1
 funext p
 cases mode cx g with
 | zero => exact doCall_nat
 | succ n => cases n <;> exact doCall_nat
theorem fCallV_nat {tk : Bool} {ty : TypeId} {j : Tmp} {as : List Operand} : fCallV cx orc tk ty j as st K = (fCallV cx orc tk ty j as st fun x s => some (x, s)).bind fun p => K p.1 p.2 := by
 unfold fCallV
 cases (st.t j).cpy with
 | none => rfl
 | some fv =>
  simp only [Option.bind_some]
  rw [args_nat, args_nat (R := LV × St), Option.bind_assoc]
  congr 1
  funext p
  cases tupTy cx.P ty with
  | true => simp only [cond_true]; exact doCall_nat
  | false => simp only [cond_false]; exact doCall_nat
theorem storeK_nat {P : Program} {hp tk : Bool} {t : TypeId} {a x : Operand} : storeK P hp tk t a x st K = (storeK P hp tk t a x st fun x s => some (x, s)).bind fun p => K p.1 p.2 := by
 have cel : ∀ (n : Nat) (st : St) (y : LV), cellsF hp a n K st y = (cellsF hp a n (fun x s => some (x, s)) st y).bind fun p => K p.1 p.2 := by
  intro n st y
  have put : ∀ (k : Nat) (g : Nat → LV) (l : List LV), putF hp a K k st g l = (putF hp a (fun x s => some (x, s)) k st g l).bind fun p => K p.1 p.2 := by
   intro k g l
   unfold putF
   cases hp with
   | true =>
    simp only [cond_true]
    cases st.rd a <;> try rfl
    rename_i p
    simp only
    cases stP st.h p l <;> rfl
   | false =>
    simp only [cond_false]
    cases st.rd a <;> try rfl
    rename_i b off
    simp only
    cases Nat.ble (off + k) (st.z b) <;> rfl
  unfold cellsF
  cases y <;> try rfl
  ·rename_i b
   simp only
   cases b.toC n with
   | none => rfl
   | some cs => exact put _ _ _
  ·rename_i m xs
   simp only
   cases Nat.beq n 1 with
   | false => rfl
   | true => exact put _ _ _
  ·rename_i ls
   simp only
   cases (Nat.beq ls.length n && ls.all LV.isC) with
   | false => rfl
   | true => exact put _ _ _
 rw [storeK_eq, storeK_eq]
 cases tyz P t with
 | none => rfl
 | some z =>
  simp only [Option.bind_some]
  cases Nat.blt 0 z.1 with
  | false => rfl
  | true =>
   cases tk with
   | true => cases x <;> first | rfl | (simp only [Bool.not_true, cond_false, cond_true]; exact cel _ _ _)
   | false => cases x <;> (simp only [Bool.not_true, cond_false]; exact cel _ _ _)
theorem builtinK_nat {hp ar : Bool} {b : Builtin} {xs : List Operand} {tys : List TypeId} : builtinK cx hp ar b xs tys st K = (builtinK cx hp ar b xs tys st fun x s => some (x, s)).bind fun p => K p.1 p.2 := by
 unfold builtinK
 split
 ·rename_i x
  cases st.rv x with
  | none => rfl
  | some a =>
   simp only [Option.bind_some]
   cases lnA (tys.head?.bind cx.P.underlying) a <;> rfl
 ·rename_i x y
  cases (tys.head?.bind (elemTy cx.P)) with
  | none => rfl
  | some e =>
   simp only [Option.bind_some]
   cases cx.P.info? e with
   | none => rfl
   | some ti =>
    simp only [Option.bind_some]
    cases zeroC cx.P e with
    | none => rfl
    | some zc =>
     simp only [Option.bind_some]
     cases st.rv y with
     | none => rfl
     | some a =>
      simp only [Option.bind_some]
      cases elX cx.P st.h ar tys[1]? ti.size a with
      | none => rfl
      | some ys =>
       simp only [Option.bind_some]
       cases (Nat.beq zc.length ti.size && Nat.blt 0 ti.size) with
       | false => rfl
       | true =>
        simp only [cond_true]
        cases hp with
        | true =>
         simp only [cond_true]
         cases st.ra x with
         | none => rfl
         | some p =>
          simp only [Option.bind_some]
          cases apG st.h p ti.size ti.bytes ys <;> rfl
        | false =>
        simp only [cond_false]
        split
        ·rename_i j
         cases apL (st.t j) ti.size ti.bytes ys <;> rfl
        ·cases apL (.ow ti.size []) ti.size ti.bytes ys <;> rfl
        ·rfl
 ·rename_i x y
  cases (tys.head?.bind (elemTy cx.P)) with
  | none => rfl
  | some e =>
   simp only [Option.bind_some]
   cases cx.P.info? e with
   | none => rfl
   | some ti =>
    simp only [Option.bind_some]
    cases Nat.beq ti.size 1 with
    | false => rfl
    | true =>
     simp only [cond_true]
     cases st.rv x with
     | none => rfl
     | some d =>
      simp only [Option.bind_some]
      cases st.rv y with
      | none => rfl
      | some s =>
       simp only [Option.bind_some]
       cases cpH st.h d s <;> rfl
 ·rename_i x y
  cases st.rv x with
  | none => rfl
  | some a =>
   simp only [Option.bind_some]
   cases st.rv y with
   | none => rfl
   | some b =>
    simp only [Option.bind_some]
    cases mnA false a b <;> rfl
 ·rename_i x y
  cases st.rv x with
  | none => rfl
  | some a =>
   simp only [Option.bind_some]
   cases st.rv y with
   | none => rfl
   | some b =>
    simp only [Option.bind_some]
    cases mnA true a b <;> rfl
 ·rename_i x y z
  cases st.rv x with
  | none => rfl
  | some a =>
   simp only [Option.bind_some]
   cases st.rv y with
   | none => rfl
   | some b =>
    simp only [Option.bind_some]
    cases st.rv z with
    | none => rfl
    | some c =>
     simp only [Option.bind_some]
     cases mnA true a b with
     | none => rfl
     | some q =>
      simp only [Option.bind_some]
      cases mnA true q c <;> rfl
 ·rw [rvs_nat, rvs_nat (R := LV × St), Option.bind_assoc]
  congr 1
  funext as
  cases mxLs true as <;> rfl
 ·rfl
theorem fCall_nat {ty : TypeId} {c : Call} : fCall cx orc f rid i ty c st K = (fCall cx orc f rid i ty c st fun x s => some (x, s)).bind fun p => K p.1 p.2 := by
 unfold fCall
 split
 ·unfold fBuiltin
  split
  ·rename_i x _ _
   unfold fLen
   cases st.rv x with
   | none => rfl
   | some a =>
    simp only [Option.bind_some]
    cases lnA ((c.argTypes.toList).head?.bind cx.P.underlying) a <;> rfl
  ·exact builtinK_nat
 ·exact fCallF_nat
 ·exact fCallV_nat
 ·rfl
theorem mapLk_nat {t : TypeId} {x ix : Operand} {ok : Bool} : mapLk cx t x ix ok st K = (mapLk cx t x ix ok st fun x s => some (x, s)).bind fun p => K p.1 p.2 := by
 unfold mapLk
 cases mapTy cx.P t with
 | none => rfl
 | some ke =>
 simp only [Option.bind_some]
 cases zeroA cx.P ke.2 with
 | none => rfl
 | some z =>
 simp only [Option.bind_some]
 cases st.rv x with
 | none => rfl
 | some m =>
 simp only [Option.bind_some]
 cases st.rv ix with
 | none => rfl
 | some k =>
 simp only [Option.bind_some]
 cases mpOf st.h m with
 | none => rfl
 | some es =>
 simp only [Option.bind_some]
 cases (keyB cx ke.1 k && keysB cx ke.1 es) <;> rfl
theorem mapUp_nat {t : TypeId} {m k x : Operand} : mapUp cx t m k x st K = (mapUp cx t m k x st fun x s => some (x, s)).bind fun p => K p.1 p.2 := by
 unfold mapUp
 cases mapTy cx.P t with
 | none => rfl
 | some ke =>
 simp only [Option.bind_some]
 cases st.rv m with
 | none => rfl
 | some p =>
 simp only [Option.bind_some]
 cases st.rv k with
 | none => rfl
 | some q =>
 simp only [Option.bind_some]
 cases st.rv x with
 | none => rfl
 | some y =>
 simp only [Option.bind_some]
 cases p <;> try rfl
 rename_i id
 simp only
 cases mpFind st.h.mp id with
 | none => rfl
 | some es =>
 simp only [Option.bind_some]
 cases (keyB cx ke.1 q && keysB cx ke.1 es) <;> rfl
theorem opF_nat {o : Oper} : opF cx orc f rid i o st K = (opF cx orc f rid i o st fun x s => some (x, s)).bind fun p => K p.1 p.2 := by
 unfold opF
 cases ho : o.op <;> simp only
 case move => exact fMv_nat
 case assign => exact fMv_nat
 case pick => exact fPick_nat
 case alloc => exact fAlloc_nat
 case box => exact fBox_nat
 case build => exact fBuild_nat
 case buildSlice => exact fBs_nat
 case load => exact fLoad_nat
 case nilCheck => exact fNil_nat
 case binOp => exact fBin_nat
 case makeInterface => exact fMI_nat
 case makeSlice => exact fMS_nat
 case slice => exact fSl_nat
 case fieldAddr => exact fFA_nat
 case field => exact fFd_nat
 case indexAddr => exact fIA_nat
 case index => exact fIx_nat
 case extract x j => cases exL (st.rd x) j <;> rfl
 case store => exact storeK_nat
 case call => exact fCall_nat
 case unOp op t x =>
  unfold opO; rw [ho]
  simp only
  cases st.rv x with
  | none => rfl
  | some a =>
   simp only [Option.bind_some]
   cases unA op a <;> rfl
 case convert s d x =>
  unfold opO; rw [ho]
  simp only
  cases st.rv x with
  | none => rfl
  | some a =>
   simp only [Option.bind_some]
   cases cx.heap f rid i with
   | true => simp only [cond_true]; cases cvH cx.P st.h s d a <;> rfl
   | false => simp only [cond_false]; cases cvA cx.P s d a <;> rfl
 case makeMap t q =>
  unfold opO; rw [ho]
  simp only
  cases q.isNone <;> rfl
 case lookup t x ix ok =>
  unfold opO; rw [ho]
  exact mapLk_nat
 case mapUpdate t m k x =>
  unfold opO; rw [ho]
  exact mapUp_nat
 case insert t m k x =>
  unfold opO; rw [ho]
  exact mapUp_nat
 case makeFunc c first caps =>
  unfold opO; rw [ho]
  cases c <;> try rfl
  simp only
  rw [rvs_nat, rvs_nat (R := LV × St), Option.bind_assoc]
  congr 1
  funext fs
  rw [rvs_nat, rvs_nat (R := LV × St), Option.bind_assoc]
  rfl
 all_goals (unfold opO; rw [ho]; rfl)
theorem globK_nat {o : Op} {cs : List AV} : globK cx o cs st K = (globK cx o cs st fun x s => some (x, s)).bind fun p => K p.1 p.2 := by
 unfold globK
 split
 ·rename_i t x
  cases tyz cx.P t with
  | none => rfl
  | some z =>
   simp only [Option.bind_some]
   cases ldS (.snap cs) z.1 z.2 <;> rfl
 ·rename_i s x j
  cases fieldsOf cx.P s with
  | none => rfl
  | some fs =>
   simp only [Option.bind_some]
   cases fs[j]? with
   | none => rfl
   | some fl =>
    simp only [Option.bind_some]
    cases tyz cx.P fl.type with
    | none => rfl
    | some z =>
     simp only [Option.bind_some]
     cases Nat.blt 0 z.1 <;> rfl
 ·rename_i t x ix
  cases arrTy cx.P t with
  | none => rfl
  | some e =>
   simp only [Option.bind_some]
   cases tyz cx.P e.2 with
   | none => rfl
   | some z =>
    simp only [Option.bind_some]
    cases st.rv ix with
    | none => rfl
    | some b =>
     simp only [Option.bind_some]
     cases b.toI with
     | none => rfl
     | some n =>
      simp only [Option.bind_some]
      cases (decide (0 ≤ n) && decide (n < e.1)) <;> rfl
 ·rfl
theorem opKF_nat {o : Oper} : opKF cx orc f rid i o st K = (opR cx orc f rid i o st).bind fun p => K p.1 p.2 := by
 unfold opR opKF
 cases globOf o.op with
 | none => exact opF_nat
 | some g =>
  simp only
  cases cx.glob g with
  | none => rfl
  | some cs => exact globK_nat
end Go.Proofs.Am
