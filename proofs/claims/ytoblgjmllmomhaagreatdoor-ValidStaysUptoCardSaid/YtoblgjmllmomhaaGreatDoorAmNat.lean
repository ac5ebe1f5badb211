/-
  An operation's result by itself: what goes on behind it gets it.
-/
import Derived.Test.YtoblgjmllmomhaaGreatDoorAmFast
namespace Go.Proofs.Am
open Go
variable {R:Type} {cx:Cx} {orc:Orc} {f rid i:Nat} {st:St} {K:LV→St→Option R}
theorem QiG {A B:Type}(b:Bool)(x y:Option A)(g:A→Option B):(bif b then x else y).bind g=bif b then x.bind g else y.bind g:=by cases b<;>rfl
theorem Qa5:∀{R:Type} (xs:List Operand) (k:List AV→Option R),rvs st xs k=(rvs st xs some).bind k
 |_,[],k=>rfl
 |_,x::xs,k=>by
  simp only[rvs]
  cases st.rv x with
  |none=>rfl
  |some a=>
   simp only[Option.bind_some]
   rw[Qa5 xs,Qa5 xs (fun as=>some (a::as)),Option.bind_assoc]
   rfl
theorem Qfg:∀{R:Type} (xs:List (Nat×Operand)) (k:List (Nat×AV)→Option R),rvp st xs k=(rvp st xs some).bind k
 |_,[],k=>rfl
 |_,(i,x)::xs,k=>by
  simp only[rvp]
  cases st.rv x with
  |none=>rfl
  |some a=>
   simp only[Option.bind_some]
   rw[Qfg xs,Qfg xs (fun as=>some ((i,a)::as)),Option.bind_assoc]
   rfl
theorem QfM {P:Program}{fs:List Field}:∀{R:Type} (xs:List (Nat×Operand)) (cs:List LV) (k:List LV→Option R),Qjj P fs st xs cs k=(Qjj P fs st xs cs some).bind k
 |_,[],cs,k=>rfl
 |_,(i,x)::xs,cs,k=>by
  simp only[Qjj]
  cases fs[i]? with
  |none=>rfl
  |some fl=>
   simp only[Option.bind_some]
   cases tyz P fl.type with
   |none=>rfl
   |some z=>
    simp only[Option.bind_some]
    cases st.rv x with
    |none=>rfl
    |some a=>
     simp only[Option.bind_some]
     cases a.toC z.1 with
     |none=>rfl
     |some ds=>
      simp only[Option.bind_some,QiG]
      cases Nat.ble (fl.offset+z.1) cs.length with
      |true=>exact QfM xs _ k
      |false=>rfl
def QxT (tk:Bool)(st:St)(xs:List Operand):Option (List LV×St):=args tk st xs fun as s=>some (as,s)
theorem Qa1 {tk:Bool}:∀{R:Type} (xs:List Operand) (st:St) (k:List LV→St→Option R),args tk st xs k=(QxT tk st xs).bind fun p=>k p.1 p.2
 |_,[],st,k=>rfl
 |_,x::xs,st,k=>by
  have plain:((st.ra x).bind fun a=>args tk st xs fun as st=>k (.v a::as) st)=(((st.ra x).bind fun a=>args tk st xs fun as st=>some ((.v a::as:List LV),st)):Option (List LV×St)).bind fun p=>k p.1 p.2:=by
   cases st.ra x with
   |none=>rfl
   |some a=>
    simp only[Option.bind_some]
    rw[Qa1 xs st,Qa1 xs st (fun as st=>some ((.v a::as:List LV),st)),Option.bind_assoc]
    rfl
  have plainV:((st.rv x).bind fun a=>args tk st xs fun as st=>k (.v a::as) st)=(((st.rv x).bind fun a=>args tk st xs fun as st=>some ((.v a::as:List LV),st)):Option (List LV×St)).bind fun p=>k p.1 p.2:=by
   cases st.rv x with
   |none=>rfl
   |some a=>
    simp only[Option.bind_some]
    rw[Qa1 xs st,Qa1 xs st (fun as st=>some ((.v a::as:List LV),st)),Option.bind_assoc]
    rfl
  unfold QxT args
  cases tk with
  |false=>exact plain
  |true=>
   cases x<;>first|exact plainV|skip
   rename_i j
   simp only[cond_true]
   cases(st.t j).arg with
   |none=>rfl
   |some a=>
    simp only[Option.bind_some]
    rw[Qa1 xs,Qa1 xs _ (fun as st=>some ((a::as:List LV),st)),Option.bind_assoc]
    rfl
theorem Qck {A:Type}{w:A→LV}{pu:Bool}{xs:List LV}{call:Heap→Option (A×Heap)}:Qap w pu xs call st K=(Qap w pu xs call st fun x s=>some (x,s)).bind fun p=>K p.1 p.2:=by
 unfold Qap
 cases pu with
 |true=>
  simp only[cond_true]
  cases Qbw xs with
  |false=>rfl
  |true=>
   simp only[cond_true]
   cases call Heap.nil with
   |none=>rfl
   |some r=>
    simp only[Option.bind_some]
    cases(w r.1).np<;>rfl
 |false=>
  simp only[cond_false]
  cases call st.h<;>rfl
def opR (cx:Cx)(orc:Orc)(f rid i:Nat)(o:Oper)(st:St):Option (LV×St):=Qdx cx orc f rid i o st fun x s=>some (x,s)
theorem Qk9 {ty:TypeId}{x:Operand}:fMv cx f rid i ty x st K=(fMv cx f rid i ty x st fun x s=>some (x,s)).bind fun p=>K p.1 p.2:=by
 unfold fMv
 cases cx.arr f rid i with
 |true=>
  simp only[cond_true]
  cases x<;>try rfl
  rename_i j
  simp only[QCu]
  cases st.t j<;>try rfl
  rename_i p
  simp only
  cases frz st.h p<;>rfl
 |false=>
  cases cx.take f rid i with
  |true=>cases x<;>rfl
  |false=>cases x<;>rfl
theorem Qk7 {c a b:Operand}:Qk8 c a b st K=(Qk8 c a b st fun x s=>some (x,s)).bind fun p=>K p.1 p.2:=by
 unfold Qk8
 cases st.rb c with
 |none=>rfl
 |some t=>cases t<;>rfl
theorem Qje {e:TypeId}:Qis cx f rid i e st K=(Qis cx f rid i e st fun x s=>some (x,s)).bind fun p=>K p.1 p.2:=by
 unfold Qis
 cases tyz cx.P e with
 |none=>rfl
 |some z=>
  simp only[Option.bind_some]
  cases QgW cx.P e with
  |none=>rfl
  |some zc=>
   simp only[Option.bind_some]
   cases Nat.beq zc.length z.1 with
   |false=>rfl
   |true=>cases cx.heap f rid i<;>cases Nat.beq (st.z st.nl) 0<;>rfl
theorem Qof {e:TypeId}{x:Operand}:QxN cx f rid i e x st K=(QxN cx f rid i e x st fun x s=>some (x,s)).bind fun p=>K p.1 p.2:=by
 unfold QxN
 cases tyz cx.P e with
 |none=>rfl
 |some z=>
  simp only[Option.bind_some]
  cases st.rv x with
  |none=>rfl
  |some a=>
   simp only[Option.bind_some]
   cases a.toC z.1 with
   |none=>rfl
   |some cs=>cases cx.heap f rid i<;>rfl
theorem Qjd {nn:Bool}{t:TypeId}{parts:List (Nat×Operand)}:Qir cx nn t parts st K=(Qir cx nn t parts st fun x s=>some (x,s)).bind fun p=>K p.1 p.2:=by
 unfold Qir
 cases fieldsOf cx.P t with
 |none=>rfl
 |some fs=>
  simp only[Option.bind_some]
  cases Qjs nn cx.P t with
  |none=>rfl
  |some zc=>
   simp only[Option.bind_some]
   cases(fs.all fun f=>(tyz cx.P f.type).isSome)with
   |false=>rfl
   |true=>
    simp only[cond_true]
    rw[QfM,QfM parts zc (fun cs=>some ((.ag cs:LV),st)),Option.bind_assoc]
    rfl
theorem Qsz {t:TypeId}{len:Nat}{parts:List (Nat×Operand)}:fBs cx f rid i t len parts st K=(fBs cx f rid i t len parts st fun x s=>some (x,s)).bind fun p=>K p.1 p.2:=by
 unfold fBs
 cases QaA cx.P t with
 |none=>rfl
 |some e=>
  simp only[Option.bind_some]
  cases tyz cx.P e with
  |none=>rfl
  |some z=>
   simp only[Option.bind_some]
   cases Qbq cx.P e with
   |none=>rfl
   |some zc=>
    simp only[Option.bind_some]
    rw[Qfg,Qfg parts (fun ps=>bif Nat.beq zc.length z.1&&Nat.ble (len*z.1) 16777216&&Nat.blt 0 z.1 then(Qmb z.1 (List.replicate len zc) ps).bind fun xs=>bif cx.heap f rid i then(bif Nat.blt 0 len then some ((.v (.arr z.1 st.h.bx.length 0 len):LV),{st with h:=Qdi st.h (Qal xs)})else some ((.v .nilE:LV),st))else some ((.ow z.1 xs:LV),st)else none),Option.bind_assoc]
    congr 1
    funext ps
    rw[QiG]
    cases(Nat.beq zc.length z.1&&Nat.ble (len*z.1) 16777216&&Nat.blt 0 z.1)with
    |false=>rfl
    |true=>
     simp only[cond_true]
     cases Qmb z.1 (List.replicate len zc) ps<;>cases cx.heap f rid i<;>cases Nat.blt 0 len<;>rfl
theorem Qla {t:TypeId}{a:Operand}:Qlb cx f rid i t a st K=(Qlb cx f rid i t a st fun x s=>some (x,s)).bind fun p=>K p.1 p.2:=by
 unfold Qlb
 cases tyz cx.P t with
 |none=>rfl
 |some z=>
  simp only[Option.bind_some]
  cases cx.heap f rid i with
  |true=>
   simp only[cond_true,QBH]
   cases st.rd a<;>try rfl
   rename_i p
   cases cx.take f rid i with
   |true=>
    simp only[cond_true]
    cases z.2 with
    |true=>rfl
    |false=>
     simp only[cond_false]
     cases tkP st.h p<;>rfl
   |false=>
    simp only[cond_false]
    cases ldP st.h p z.1 z.2<;>rfl
  |false=>
   simp only[cond_false,QCs]
   cases st.rd a<;>try rfl
   ·rename_i p
    cases cx.take f rid i with
    |true=>rfl
    |false=>
     simp only[cond_false]
     cases ldS p z.1 z.2<;>rfl
   ·rename_i b off
    simp only[QCt]
    cases Nat.ble (off+(bif z.2 then z.1 else 1)) (st.z b)with
    |false=>rfl
    |true=>
     simp only[cond_true]
     cases cx.take f rid i with
     |true=>cases z.2<;>rfl
     |false=>
      simp only[cond_false]
      cases z.2 with
      |false=>rfl
      |true=>
       simp only[cond_true]
       cases ldN st.m b off z.1<;>rfl
theorem Qoe {x:Operand}:QxM x st K=(QxM x st fun x s=>some (x,s)).bind fun p=>K p.1 p.2:=by
 unfold QxM
 cases st.rd x<;>try rfl
 rename_i a
 simp only
 cases Qv6 a<;>rfl
theorem Qog {op:BinOp}{t:TypeId}{x y:Operand}:Qtt cx op t x y st K=(Qtt cx op t x y st fun x s=>some (x,s)).bind fun p=>K p.1 p.2:=by
 unfold Qtt
 cases st.rv x with
 |none=>rfl
 |some a=>
  simp only[Option.bind_some]
  cases st.rv y with
  |none=>rfl
  |some b=>
   simp only[Option.bind_some]
   cases QcF cx.P op t (isC x||isC y) a b<;>rfl
theorem Qsu {t:TypeId}{x:Operand}:fMI cx t x st K=(fMI cx t x st fun x s=>some (x,s)).bind fun p=>K p.1 p.2:=by
 unfold fMI
 cases cx.P.underlying t with
 |none=>rfl
 |some d=>
  simp only[Option.bind_some]
  cases st.rv x with
  |none=>rfl
  |some a=>cases d<;>rfl
theorem Qst {t:TypeId}{l c:Operand}:fMS cx f rid i t l c st K=(fMS cx f rid i t l c st fun x s=>some (x,s)).bind fun p=>K p.1 p.2:=by
 unfold fMS
 cases QaA cx.P t with
 |none=>rfl
 |some e=>
  simp only[Option.bind_some]
  cases cx.P.info? e with
  |none=>rfl
  |some ti=>
   simp only[Option.bind_some]
   cases tyz cx.P e with
   |none=>rfl
   |some z=>
    simp only[Option.bind_some]
    cases Qbq cx.P e with
    |none=>rfl
    |some zc=>
     simp only[Option.bind_some]
     cases st.rv l with
     |none=>rfl
     |some a=>
      simp only[Option.bind_some]
      cases st.rv c with
      |none=>rfl
      |some b=>
       simp only[Option.bind_some]
       cases a.toI with
       |none=>rfl
       |some n=>
        simp only[Option.bind_some]
        cases b.toI with
        |none=>rfl
        |some m=>
         simp only[Option.bind_some]
         cases(Nat.beq zc.length z.1&&Nat.blt 0 z.1&&decide (n=m)&&decide (0≤n)&&room n.toNat ti.bytes)with
         |false=>rfl
         |true=>cases cx.heap f rid i<;>rfl
theorem Qss {t:TypeId}{x:Operand}{lo hi mx:Option Operand}:fSl cx t x lo hi mx st K=(fSl cx t x lo hi mx st fun x s=>some (x,s)).bind fun p=>K p.1 p.2:=by
 unfold fSl
 cases st.rv x with
 |none=>rfl
 |some a=>
  simp only[Option.bind_some]
  rw[Qa5,Qa5 (R:=LV×St) lo.toList,Option.bind_assoc]
  congr 1
  funext ls
  rw[Qa5,Qa5 (R:=LV×St) hi.toList,Option.bind_assoc]
  congr 1
  funext hs
  cases mx.isNone with
  |false=>rfl
  |true=>
   simp only[cond_true]
   cases slA cx.P t a (ls.head?.bind AV.toI) (hs.head?.bind AV.toI)with
   |none=>rfl
   |some r=>
    simp only[Option.bind_some]
    cases((ls.all fun x=>x.toI.isSome)&&(hs.all fun x=>x.toI.isSome))<;>rfl
theorem Qsy {s:TypeId}{x:Operand}{j:Nat}:fFA cx s x j st K=(fFA cx s x j st fun x s=>some (x,s)).bind fun p=>K p.1 p.2:=by
 unfold fFA
 cases fieldsOf cx.P s with
 |none=>rfl
 |some fs=>
  simp only[Option.bind_some]
  cases fs[j]? with
  |none=>rfl
  |some fl=>
   simp only[Option.bind_some]
   cases tyz cx.P fl.type with
   |none=>rfl
   |some z=>
    simp only[Option.bind_some]
    cases Nat.blt 0 z.1 with
    |false=>rfl
    |true=>
     simp only[cond_true]
     cases st.rd x<;>try rfl
     rename_i p
     simp only
     cases fpA p fl.offset<;>rfl
theorem Qsx {s:TypeId}{x:Operand}{j:Nat}:fFd cx s x j st K=(fFd cx s x j st fun x s=>some (x,s)).bind fun p=>K p.1 p.2:=by
 unfold fFd
 cases fieldsOf cx.P s with
 |none=>rfl
 |some fs=>
  simp only[Option.bind_some]
  cases fs[j]? with
  |none=>rfl
  |some fl=>
   simp only[Option.bind_some]
   cases tyz cx.P fl.type with
   |none=>rfl
   |some z=>
    simp only[Option.bind_some]
    cases st.rv x with
    |none=>rfl
    |some a=>
     simp only[Option.bind_some]
     cases fdA a fl.offset z.1 z.2<;>rfl
theorem Qsw {t:TypeId}{x ix:Operand}:fIA cx f rid i t x ix st K=(fIA cx f rid i t x ix st fun x s=>some (x,s)).bind fun p=>K p.1 p.2:=by
 unfold fIA
 cases QaA cx.P t with
 |none=>rfl
 |some e=>
  simp only[Option.bind_some]
  cases tyz cx.P e with
  |none=>rfl
  |some z=>
   simp only[Option.bind_some]
   cases st.rv x with
   |none=>rfl
   |some a=>
    simp only[Option.bind_some]
    cases st.rv ix with
    |none=>rfl
    |some b=>
     simp only[Option.bind_some]
     cases b.toI with
     |none=>rfl
     |some n=>
      simp only[Option.bind_some]
      cases cx.heap f rid i with
      |true=>
       simp only[cond_true]
       cases ixP a n z.1<;>rfl
      |false=>
       simp only[cond_false]
       cases ixA a n z.1<;>rfl
theorem Qsv {t:TypeId}{x ix:Operand}:fIx cx t x ix st K=(fIx cx t x ix st fun x s=>some (x,s)).bind fun p=>K p.1 p.2:=by
 unfold fIx
 cases st.rv x with
 |none=>rfl
 |some a=>
  simp only[Option.bind_some]
  cases st.rv ix with
  |none=>rfl
  |some b=>
   simp only[Option.bind_some]
   cases b.toI with
   |none=>rfl
   |some n=>
    simp only[Option.bind_some]
    cases ixS (cx.P.underlying t) a n<;>rfl
theorem Qjc {tk pu:Bool}{g:FuncId}{as:List Operand}:Qel cx orc tk pu g as st K=(Qel cx orc tk pu g as st fun x s=>some (x,s)).bind fun p=>K p.1 p.2:=by
 unfold Qel
 rw[Qa1,Qa1 (R:=LV×St),Option.bind_assoc]
 congr 1
 funext p
 cases mode cx g with
 |zero=>exact Qck
 |succ n=>cases n<;>exact Qck
theorem Qjb {tk:Bool}{ty:TypeId}{j:Tmp}{as:List Operand}:Qgz cx orc tk ty j as st K=(Qgz cx orc tk ty j as st fun x s=>some (x,s)).bind fun p=>K p.1 p.2:=by
 unfold Qgz
 cases(st.t j).cpy with
 |none=>rfl
 |some fv=>
  simp only[Option.bind_some]
  rw[Qa1,Qa1 (R:=LV×St),Option.bind_assoc]
  congr 1
  funext p
  cases Qey cx.P ty with
  |true=>simp only[cond_true];exact Qck
  |false=>simp only[cond_false];exact Qck
theorem QiQ {P:Program}{hp tk:Bool}{t:TypeId}{a x:Operand}:Qa8 P hp tk t a x st K=(Qa8 P hp tk t a x st fun x s=>some (x,s)).bind fun p=>K p.1 p.2:=by
 have cel:∀(n:Nat) (st:St) (y:LV),Qa9 hp a n K st y=(Qa9 hp a n (fun x s=>some (x,s)) st y).bind fun p=>K p.1 p.2:=by
  intro n st y
  have put:∀(k:Nat) (g:Nat→LV) (l:List LV),QhV hp a K k st g l=(QhV hp a (fun x s=>some (x,s)) k st g l).bind fun p=>K p.1 p.2:=by
   intro k g l
   unfold QhV
   cases hp with
   |true=>
    simp only[cond_true]
    cases st.rd a<;>try rfl
    rename_i p
    simp only
    cases stP st.h p l<;>rfl
   |false=>
    simp only[cond_false]
    cases st.rd a<;>try rfl
    rename_i b off
    simp only
    cases Nat.ble (off+k) (st.z b)<;>rfl
  unfold Qa9
  cases y<;>try rfl
  ·rename_i b
   simp only
   cases b.toC n with
   |none=>rfl
   |some cs=>exact put _ _ _
  ·rename_i m xs
   simp only
   cases Nat.beq n 1 with
   |false=>rfl
   |true=>exact put _ _ _
  ·rename_i ls
   simp only
   cases(Nat.beq ls.length n&&ls.all LV.isC)with
   |false=>rfl
   |true=>exact put _ _ _
 rw[Qbr,Qbr]
 cases tyz P t with
 |none=>rfl
 |some z=>
  simp only[Option.bind_some]
  cases Nat.blt 0 z.1 with
  |false=>rfl
  |true=>
   cases tk with
   |true=>cases x<;>first|rfl|(simp only[Bool.not_true,cond_false,cond_true];exact cel _ _ _)
   |false=>cases x<;>(simp only[Bool.not_true,cond_false];exact cel _ _ _)
theorem QgK {hp ar:Bool}{b:Builtin}{xs:List Operand}{tys:List TypeId}:Qat cx hp ar b xs tys st K=(Qat cx hp ar b xs tys st fun x s=>some (x,s)).bind fun p=>K p.1 p.2:=by
 unfold Qat
 split
 ·rename_i x
  cases st.rv x with
  |none=>rfl
  |some a=>
   simp only[Option.bind_some]
   cases lnA (tys.head?.bind cx.P.underlying) a<;>rfl
 ·rename_i x y
  cases(tys.head?.bind (QaA cx.P))with
  |none=>rfl
  |some e=>
   simp only[Option.bind_some]
   cases cx.P.info? e with
   |none=>rfl
   |some ti=>
    simp only[Option.bind_some]
    cases Qbq cx.P e with
    |none=>rfl
    |some zc=>
     simp only[Option.bind_some]
     cases st.rv y with
     |none=>rfl
     |some a=>
      simp only[Option.bind_some]
      cases elX cx.P st.h ar tys[1]? ti.size a with
      |none=>rfl
      |some ys=>
       simp only[Option.bind_some]
       cases(Nat.beq zc.length ti.size&&Nat.blt 0 ti.size)with
       |false=>rfl
       |true=>
        simp only[cond_true]
        cases hp with
        |true=>
         simp only[cond_true]
         cases st.ra x with
         |none=>rfl
         |some p=>
          simp only[Option.bind_some]
          cases apG st.h p ti.size ti.bytes ys<;>rfl
        |false=>
        simp only[cond_false]
        split
        ·rename_i j
         cases apL (st.t j) ti.size ti.bytes ys<;>rfl
        ·cases apL (.ow ti.size []) ti.size ti.bytes ys<;>rfl
        ·rfl
 ·rename_i x y
  cases(tys.head?.bind (QaA cx.P))with
  |none=>rfl
  |some e=>
   simp only[Option.bind_some]
   cases cx.P.info? e with
   |none=>rfl
   |some ti=>
    simp only[Option.bind_some]
    cases Nat.beq ti.size 1 with
    |false=>rfl
    |true=>
     simp only[cond_true]
     cases st.rv x with
     |none=>rfl
     |some d=>
      simp only[Option.bind_some]
      cases st.rv y with
      |none=>rfl
      |some s=>
       simp only[Option.bind_some]
       cases cpH st.h d s<;>rfl
 ·rename_i x y
  cases st.rv x with
  |none=>rfl
  |some a=>
   simp only[Option.bind_some]
   cases st.rv y with
   |none=>rfl
   |some b=>
    simp only[Option.bind_some]
    cases mnA false a b<;>rfl
 ·rename_i x y
  cases st.rv x with
  |none=>rfl
  |some a=>
   simp only[Option.bind_some]
   cases st.rv y with
   |none=>rfl
   |some b=>
    simp only[Option.bind_some]
    cases mnA true a b<;>rfl
 ·rename_i x y z
  cases st.rv x with
  |none=>rfl
  |some a=>
   simp only[Option.bind_some]
   cases st.rv y with
   |none=>rfl
   |some b=>
    simp only[Option.bind_some]
    cases st.rv z with
    |none=>rfl
    |some c=>
     simp only[Option.bind_some]
     cases mnA true a b with
     |none=>rfl
     |some q=>
      simp only[Option.bind_some]
      cases mnA true q c<;>rfl
 ·rw[Qa5,Qa5 (R:=LV×St),Option.bind_assoc]
  congr 1
  funext as
  cases QBk true as<;>rfl
 ·rfl
theorem Qlc {ty:TypeId}{c:Call}:QdI cx orc f rid i ty c st K=(QdI cx orc f rid i ty c st fun x s=>some (x,s)).bind fun p=>K p.1 p.2:=by
 unfold QdI
 split
 ·unfold Qbm
  split
  ·rename_i x _ _
   unfold QBG
   cases st.rv x with
   |none=>rfl
   |some a=>
    simp only[Option.bind_some]
    cases lnA ((c.argTypes.toList).head?.bind cx.P.underlying) a<;>rfl
  ·exact QgK
 ·exact Qjc
 ·exact Qjb
 ·rfl
theorem QrM {o:Oper}:opF cx orc f rid i o st K=(opF cx orc f rid i o st fun x s=>some (x,s)).bind fun p=>K p.1 p.2:=by
 unfold opF
 cases ho:o.op<;>simp only
 case move=>exact Qk9
 case assign=>exact Qk9
 case pick=>exact Qk7
 case alloc=>exact Qje
 case box=>exact Qof
 case build=>exact Qjd
 case buildSlice=>exact Qsz
 case load=>exact Qla
 case nilCheck=>exact Qoe
 case binOp=>exact Qog
 case makeInterface=>exact Qsu
 case makeSlice=>exact Qst
 case slice=>exact Qss
 case fieldAddr=>exact Qsy
 case field=>exact Qsx
 case indexAddr=>exact Qsw
 case index=>exact Qsv
 case extract x j=>cases exL (st.rd x) j<;>rfl
 case store=>exact QiQ
 case call=>exact Qlc
 case unOp op t x=>
  unfold opO;rw[ho]
  simp only
  cases st.rv x with
  |none=>rfl
  |some a=>
   simp only[Option.bind_some]
   cases unA op a<;>rfl
 case convert s d x=>
  unfold opO;rw[ho]
  simp only
  cases st.rv x with
  |none=>rfl
  |some a=>
   simp only[Option.bind_some]
   cases cx.heap f rid i with
   |true=>simp only[cond_true];cases cvH cx.P st.h s d a<;>rfl
   |false=>simp only[cond_false];cases cvA cx.P s d a<;>rfl
 case makeFunc c first caps=>
  unfold opO;rw[ho]
  cases c<;>try rfl
  simp only
  rw[Qa5,Qa5 (R:=LV×St),Option.bind_assoc]
  congr 1
  funext fs
  rw[Qa5,Qa5 (R:=LV×St),Option.bind_assoc]
  rfl
 all_goals (unfold opO;rw[ho];rfl)
theorem QkQ {o:Op}{cs:List AV}:Qby cx o cs st K=(Qby cx o cs st fun x s=>some (x,s)).bind fun p=>K p.1 p.2:=by
 unfold Qby
 split
 ·rename_i t x
  cases tyz cx.P t with
  |none=>rfl
  |some z=>
   simp only[Option.bind_some]
   cases ldS (.snap cs) z.1 z.2<;>rfl
 ·rename_i s x j
  cases fieldsOf cx.P s with
  |none=>rfl
  |some fs=>
   simp only[Option.bind_some]
   cases fs[j]? with
   |none=>rfl
   |some fl=>
    simp only[Option.bind_some]
    cases tyz cx.P fl.type with
    |none=>rfl
    |some z=>
     simp only[Option.bind_some]
     cases Nat.blt 0 z.1<;>rfl
 ·rename_i t x ix
  cases Qoz cx.P t with
  |none=>rfl
  |some e=>
   simp only[Option.bind_some]
   cases tyz cx.P e.2 with
   |none=>rfl
   |some z=>
    simp only[Option.bind_some]
    cases st.rv ix with
    |none=>rfl
    |some b=>
     simp only[Option.bind_some]
     cases b.toI with
     |none=>rfl
     |some n=>
      simp only[Option.bind_some]
      cases(decide (0≤n)&&decide (n<e.1))<;>rfl
 ·rfl
theorem QnH {o:Oper}:Qdx cx orc f rid i o st K=(opR cx orc f rid i o st).bind fun p=>K p.1 p.2:=by
 unfold opR Qdx
 cases QaG o.op with
 |none=>exact QrM
 |some g=>
  simp only
  cases cx.glob g with
  |none=>rfl
  |some cs=>exact QkQ
end Go.Proofs.Am
