/-
  The same machine, that keeps what it has reckoned; each operation's case is a definition of its own.
-/
import Derived.Test.YtoblgjmllmomhaaGreatDoorAmFix
namespace Go.Proofs.Am
open Go
def frc:LV→LV
 |.un=>.un
 |.ud=>.ud
 |.v a=>.v a
 |.ow n xs=>.ow n xs
 |.lp i o=>.lp i o
 |.tup xs=>.tup xs
 |.ag cs=>.ag cs
theorem QwQ (x:LV):frc x=x:=by cases x<;>rfl
def QxK (st:St):St:={st with t:=fun j=>frc (st.t j),m:=fun i c=>frc (st.m i c)}
theorem Qsp (st:St):QxK st=st:=by
 unfold QxK
 simp only[QwQ]
section
variable {R:Type}
def QCu (x:Operand)(st:St)(K:LV→St→Option R):Option R:=
 match x with
 |.tmp j=>match st.t j with|.v p=>(frz st.h p).bind fun q=>K (.v q.1) {st with t:=upd st.t j .un,h:=q.2}|_=>none
 |_=>none
def fTk (x:Operand)(st:St)(K:LV→St→Option R):Option R:=
 match x with
 |.tmp j=>K (st.t j) {st with t:=upd st.t j .un}
 |_=>none
def fCp (P:Program)(ty:TypeId)(x:Operand)(st:St)(K:LV→St→Option R):Option R:=
 match x with
 |.const c=>K (lvC P ty c) st
 |x=>K (st.rd x) st
def fMv (cx:Cx)(f rid i:Nat)(ty:TypeId)(x:Operand)(st:St)(K:LV→St→Option R):Option R:=
 bif cx.arr f rid i then QCu x st K else bif cx.take f rid i then fTk x st K else fCp cx.P ty x st K
def Qk8 (c a b:Operand)(st:St)(K:LV→St→Option R):Option R:=(st.rb c).bind fun t=>bif t then K (st.rd a) st else K (st.rd b) st
def Qis (cx:Cx)(f rid i:Nat)(e:TypeId)(st:St)(K:LV→St→Option R):Option R:=
 (tyz cx.P e).bind fun z=>(QgW cx.P e).bind fun zc=>bif Nat.beq zc.length z.1 then
  (bif cx.heap f rid i then K (.v (.ptr st.h.bx.length 0)) {st with h:=Qdi st.h zc}
   else bif Nat.beq (st.z st.nl) 0 then K (.lp st.nl 0) {st with m:=stN st.m st.nl 0 (fun j=>zc.getD j .un) z.1,z:=upd st.z st.nl z.1,nl:=st.nl+1}else none)
  else none
def QxN (cx:Cx)(f rid i:Nat)(e:TypeId)(x:Operand)(st:St)(K:LV→St→Option R):Option R:=
 (tyz cx.P e).bind fun z=>(st.rv x).bind fun a=>(a.toC z.1).bind fun cs=>
  bif cx.heap f rid i then K (.v (.ptr st.h.bx.length 0)) {st with h:=Qdi st.h (cs.map .v)}
  else K (.lp st.nl 0) {st with m:=stN st.m st.nl 0 (fun j=>.v (gd cs j)) z.1,z:=upd st.z st.nl z.1,nl:=st.nl+1}
def Qir (cx:Cx)(nn:Bool)(t:TypeId)(parts:List (Nat×Operand))(st:St)(K:LV→St→Option R):Option R:=
 (fieldsOf cx.P t).bind fun fs=>(Qjs nn cx.P t).bind fun zc=>
 bif (fs.all fun f=>(tyz cx.P f.type).isSome)then Qjj cx.P fs st parts zc fun cs=>K (.ag cs) st else none
def fBs (cx:Cx)(f rid i:Nat)(t:TypeId)(len:Nat)(parts:List (Nat×Operand))(st:St)(K:LV→St→Option R):Option R:=
 (QaA cx.P t).bind fun e=>(tyz cx.P e).bind fun z=>(Qbq cx.P e).bind fun zc=>rvp st parts fun ps=>
 bif Nat.beq zc.length z.1&&Nat.ble (len*z.1) 16777216&&Nat.blt 0 z.1 then
 (Qmb z.1 (List.replicate len zc) ps).bind fun xs=>
  bif cx.heap f rid i then(bif Nat.blt 0 len then K (.v (.arr z.1 st.h.bx.length 0 len)) {st with h:=Qdi st.h (Qal xs)}else K (.v .nilE) st)else K (.ow z.1 xs) st else none
def QBH (tk:Bool)(z:Nat×Bool)(a:Operand)(st:St)(K:LV→St→Option R):Option R:=
 match st.rd a with
 |.v p=>
  bif tk then(bif z.2 then none else(tkP st.h p).bind fun r=>K r.1 {st with h:=r.2})
  else(ldP st.h p z.1 z.2).bind fun x=>K (.v x) st
 |_=>none
def QCt (tk:Bool)(z:Nat×Bool)(b off:Nat)(st:St)(K:LV→St→Option R):Option R:=
 bif Nat.ble (off+(bif z.2 then z.1 else 1)) (st.z b)then
  bif tk then(bif z.2 then none else K (st.m b off) {st with m:=Qng st.m b off (st.m b off).cp})
  else bif z.2 then(ldN st.m b off z.1).bind fun cs=>K (.v (.agg cs)) st else K (st.m b off).cp st
 else none
def QCs (tk:Bool)(z:Nat×Bool)(a:Operand)(st:St)(K:LV→St→Option R):Option R:=
 match st.rd a with
 |.lp b off=>QCt tk z b off st K
 |.v p=>bif tk then none else(ldS p z.1 z.2).bind fun x=>K (.v x) st
 |_=>none
def Qlb (cx:Cx)(f rid i:Nat)(t:TypeId)(a:Operand)(st:St)(K:LV→St→Option R):Option R:=
 (tyz cx.P t).bind fun z=>bif cx.heap f rid i then QBH (cx.take f rid i) z a st K else QCs (cx.take f rid i) z a st K
def QxM (x:Operand)(st:St)(K:LV→St→Option R):Option R:=
 match st.rd x with
 |.lp b off=>K (.lp b off) st
 |.v a=>(Qv6 a).bind fun b=>K (.v b) st
 |_=>none
def QDo (k:IntKind)(x y:Int):Option AV:=some (.int k (k.wrap (x+y)))
def QDn (k:IntKind)(x y:Int):Option AV:=some (.int k (k.wrap (x-y)))
def arF (op:BinOp)(k:IntKind)(x y:Int):Option AV:=
 match op with
 |.add=>QDo k x y
 |.sub=>QDn k x y
 |.eql=>some (.bool (eqZ x y))
 |.neq=>some (.bool (!eqZ x y))
 |.lss=>some (.bool (ltZ x y))
 |.leq=>some (.bool (leZ x y))
 |.gtr=>some (.bool (ltZ y x))
 |.geq=>some (.bool (leZ y x))
 |op=>arI op k x y
theorem Qxp (op:BinOp)(k:IntKind)(x y:Int):arF op k x y=arI op k x y:=by cases op<;>rfl
def QCC (op:BinOp)(k k':IntKind)(a b:Int):Option AV:=
 match op with
 |.shl=>shI .shl k a b
 |.shr=>shI .shr k a b
 |op=>bif decide (k=k')then arF op k a b else none
def QDj (P:Program)(op:BinOp)(t:TypeId)(c:Bool)(x y:AV):Option AV:=
 match op with
 |.eql=>(eqA P t c x y).bind fun b=>some (.bool b)
 |.neq=>(eqA P t c x y).bind fun b=>some (.bool (!b))
 |_=>none
def QcF (P:Program)(op:BinOp)(t:TypeId)(c:Bool)(x y:AV):Option AV:=
 match x,y with
 |.int k a,.int k' b=>QCC op k k' a b
 |.str a,.str b=>stS op a b
 |x,y=>QDj P op t c x y
theorem Qs7 (P:Program)(op:BinOp)(t:TypeId)(c:Bool)(x y:AV):QcF P op t c x y=Qtw P op t c x y:=by
 cases x<;>cases y<;>first|rfl|(cases op<;>simp only[QcF,Qtw,QCC,Qxp])
def Qtt (cx:Cx)(op:BinOp)(t:TypeId)(x y:Operand)(st:St)(K:LV→St→Option R):Option R:=
 (st.rv x).bind fun a=>(st.rv y).bind fun b=>(QcF cx.P op t (isC x||isC y) a b).bind fun c=>K (.v c) st
def fMI (cx:Cx)(t:TypeId)(x:Operand)(st:St)(K:LV→St→Option R):Option R:=
 (cx.P.underlying t).bind fun d=>(st.rv x).bind fun a=>match d with|.interface _=>none|_=>K (.v (.ifc t a)) st
def fMS (cx:Cx)(f rid i:Nat)(t:TypeId)(l c:Operand)(st:St)(K:LV→St→Option R):Option R:=
 (QaA cx.P t).bind fun e=>(cx.P.info? e).bind fun ti=>(tyz cx.P e).bind fun z=>(Qbq cx.P e).bind fun zc=>
 (st.rv l).bind fun a=>(st.rv c).bind fun b=>a.toI.bind fun n=>b.toI.bind fun m=>
 bif Nat.beq zc.length z.1&&Nat.blt 0 z.1&&decide (n=m)&&decide (0≤n)&&room n.toNat ti.bytes then
  (bif cx.heap f rid i then K (.v (.arr z.1 st.h.bx.length 0 n.toNat)) {st with h:=Qdi st.h (Qal (List.replicate n.toNat zc))}else K (.ow z.1 (List.replicate n.toNat zc)) st)
 else none
def fSl (cx:Cx)(t:TypeId)(x:Operand)(lo hi mx:Option Operand)(st:St)(K:LV→St→Option R):Option R:=
 (st.rv x).bind fun a=>rvs st lo.toList fun ls=>rvs st hi.toList fun hs=>
 bif mx.isNone then(slA cx.P t a (ls.head?.bind AV.toI) (hs.head?.bind AV.toI)).bind fun r=>
  bif (ls.all fun x=>x.toI.isSome)&&(hs.all fun x=>x.toI.isSome)then K (.v r) st else none
 else none
def fFA (cx:Cx)(s:TypeId)(x:Operand)(j:Nat)(st:St)(K:LV→St→Option R):Option R:=
 (fieldsOf cx.P s).bind fun fs=>fs[j]?.bind fun fl=>(tyz cx.P fl.type).bind fun z=>bif Nat.blt 0 z.1 then
  (match st.rd x with
   |.lp b off=>K (.lp b (off+fl.offset)) st
   |.v p=>(fpA p fl.offset).bind fun q=>K (.v q) st
   |_=>none)
  else none
def fFd (cx:Cx)(s:TypeId)(x:Operand)(j:Nat)(st:St)(K:LV→St→Option R):Option R:=
 (fieldsOf cx.P s).bind fun fs=>fs[j]?.bind fun fl=>(tyz cx.P fl.type).bind fun z=>(st.rv x).bind fun a=>(fdA a fl.offset z.1 z.2).bind fun r=>K (.v r) st
def fIA (cx:Cx)(f rid i:Nat)(t:TypeId)(x ix:Operand)(st:St)(K:LV→St→Option R):Option R:=
 (QaA cx.P t).bind fun e=>(tyz cx.P e).bind fun z=>(st.rv x).bind fun a=>(st.rv ix).bind fun b=>b.toI.bind fun n=>
  bif cx.heap f rid i then(ixP a n z.1).bind fun p=>K (.v p) st else(ixA a n z.1).bind fun cs=>K (.v (.snap cs)) st
def fIx (cx:Cx)(t:TypeId)(x ix:Operand)(st:St)(K:LV→St→Option R):Option R:=
 (st.rv x).bind fun a=>(st.rv ix).bind fun b=>b.toI.bind fun n=>(ixS (cx.P.underlying t) a n).bind fun r=>K (.v r) st
def Qel (cx:Cx)(orc:Orc)(tk pu:Bool)(g:FuncId)(as:List Operand)(st:St)(K:LV→St→Option R):Option R:=
 args tk st as fun xs st=>
  match mode cx g with
  |0=>Qap .v pu xs (QeL cx orc g xs) st K
  |1=>Qap .tup pu xs (callT cx orc g xs) st K
  |_=>Qap (fun x=>x) pu xs (Qab cx orc g xs) st K
def Qgz (cx:Cx)(orc:Orc)(tk:Bool)(ty:TypeId)(j:Tmp)(as:List Operand)(st:St)(K:LV→St→Option R):Option R:=
 (st.t j).cpy.bind fun fv=>args tk st as fun xs st=>
  bif Qey cx.P ty then Qap .tup false xs (Qc4 cx orc fv xs) st K
  else Qap .v false xs (Qc5 cx orc fv xs) st K
def QBG (cx:Cx)(t:Option TypeId)(x:Operand)(st:St)(K:LV→St→Option R):Option R:=
 (st.rv x).bind fun a=>(lnA (t.bind cx.P.underlying) a).bind fun n=>K (.v (.int .i64 n)) st
def Qbm (cx:Cx)(hp ar:Bool)(b:Builtin)(xs:List Operand)(tys:List TypeId)(st:St)(K:LV→St→Option R):Option R:=
 match b,xs with
 |.len,[x]=>QBG cx tys.head? x st K
 |b,xs=>Qat cx hp ar b xs tys st K
def QdI (cx:Cx)(orc:Orc)(f rid i:Nat)(ty:TypeId)(c:Call)(st:St)(K:LV→St→Option R):Option R:=
 match c.callee with
 |.builtin b=>Qbm cx (cx.heap f rid i) (cx.arr f rid i) b c.args.toList c.argTypes.toList st K
 |.value (.func g)=>Qel cx orc (cx.take f rid i) (cx.pure f rid i) g c.args.toList st K
 |.value (.tmp j)=>Qgz cx orc (cx.take f rid i) ty j c.args.toList st K
 |_=>none
def opF (cx:Cx)(orc:Orc)(f rid i:Nat)(o:Oper)(st:St)(K:LV→St→Option R):Option R:=
 match o.op with
 |.move x=>fMv cx f rid i o.type x st K
 |.assign x=>fMv cx f rid i o.type x st K
 |.pick c a b=>Qk8 c a b st K
 |.alloc e=>Qis cx f rid i e st K
 |.box e x=>QxN cx f rid i e x st K
 |.build t parts=>Qir cx (cx.arr f rid i) t parts.toList st K
 |.buildSlice t len parts=>fBs cx f rid i t len parts.toList st K
 |.load t a=>Qlb cx f rid i t a st K
 |.nilCheck x=>QxM x st K
 |.binOp op t x y _=>Qtt cx op t x y st K
 |.makeInterface t x=>fMI cx t x st K
 |.makeSlice t l c=>fMS cx f rid i t l c st K
 |.slice t x lo hi mx=>fSl cx t x lo hi mx st K
 |.fieldAddr s x j=>fFA cx s x j st K
 |.field s x j=>fFd cx s x j st K
 |.indexAddr t x ix=>fIA cx f rid i t x ix st K
 |.index t x ix=>fIx cx t x ix st K
 |.extract x j=>(exL (st.rd x) j).bind fun a=>K (.v a) st
 |.store t a x=>Qa8 cx.P (cx.heap f rid i) (cx.take f rid i) t a x st K
 |.call c=>QdI cx orc f rid i o.type c st K
 |_=>opO cx orc f rid i o st K
theorem Qht {cx:Cx}{hp ar:Bool}{b:Builtin}{xs:List Operand}{tys:List TypeId}{st:St}{K:LV→St→Option R}:Qbm cx hp ar b xs tys st K=Qat cx hp ar b xs tys st K:=by
 unfold Qbm
 split
 ·rfl
 ·rfl
theorem Qld {cx:Cx}{orc:Orc}{tk pu:Bool}{g:FuncId}{as:List Operand}{st:St}{K:LV→St→Option R}:Qel cx orc tk pu g as st K=(match mode cx g with
 |0=>args tk st as fun xs st=>Qap .v pu xs (QeL cx orc g xs) st K
 |1=>args tk st as fun xs st=>Qap .tup pu xs (callT cx orc g xs) st K
 |_=>args tk st as fun xs st=>Qap (fun x=>x) pu xs (Qab cx orc g xs) st K):=by
 unfold Qel
 cases mode cx g with
 |zero=>rfl
 |succ n=>cases n<;>rfl
theorem Qv1 {cx:Cx}{orc:Orc}{f rid i:Nat}{o:Oper}{st:St}{K:LV→St→Option R}:opF cx orc f rid i o st K=opO cx orc f rid i o st K:=by
 unfold opF
 cases ho:o.op<;>simp only
 case move x=>unfold opO;rw[ho];rfl
 case assign x=>unfold opO;rw[ho];rfl
 case pick=>unfold opO;rw[ho];rfl
 case alloc=>unfold opO;rw[ho];rfl
 case box=>unfold opO;rw[ho];rfl
 case build=>unfold opO;rw[ho];rfl
 case buildSlice=>unfold opO;rw[ho];rfl
 case load=>unfold opO;rw[ho];rfl
 case nilCheck=>unfold opO;rw[ho];rfl
 case binOp=>unfold opO Qtt;rw[ho];simp only[Qs7]
 case makeInterface=>unfold opO;rw[ho];rfl
 case makeSlice=>unfold opO;rw[ho];rfl
 case slice=>unfold opO;rw[ho];rfl
 case fieldAddr=>unfold opO;rw[ho];rfl
 case field=>unfold opO;rw[ho];rfl
 case indexAddr=>unfold opO;rw[ho];rfl
 case index=>unfold opO;rw[ho];rfl
 case extract=>unfold opO;rw[ho]
 case store=>unfold opO;rw[ho]
 case call c=>
  unfold opO QdI
  rw[ho]
  obtain⟨callee,as,tys⟩:=c
  cases callee with
  |builtin b=>simp only[Qht]
  |invoke r m=>rfl
  |value v=>
   cases v<;>first|rfl|(simp only[Qld])
def Qdx (cx:Cx)(orc:Orc)(f rid i:Nat)(o:Oper)(st:St)(K:LV→St→Option R):Option R:=
 match QaG o.op with
 |some g=>(cx.glob g).bind fun cs=>Qby cx o.op cs st K
 |none=>opF cx orc f rid i o st K
theorem QrL {cx:Cx}{orc:Orc}{f rid i:Nat}{o:Oper}{st:St}{K:LV→St→Option R}:Qdx cx orc f rid i o st K=opK cx orc f rid i o st K:=by
 unfold Qdx opK
 cases QaG o.op with
 |none=>exact Qv1
 |some g=>rfl
def QxH (cx:Cx)(orc:Orc)(f rid:Nat)(ops:Array Oper)(i:Nat)(o:Oper)(j:Nat)(want:Bool)(st:St)(K:St→Option R):Option R:=
 match(ops[j]?).bind (·.dst)with
 |none=>none
 |some d=>
  match st.t d with
  |.ud=>K (st.put o.dst .ud)
  |x=>x.toB.bind fun b=>
   bif b then
    let st:={st with t:=upd st.t d (.v (.bool true))}
    bif want then Qdx cx orc f rid i o st fun x st=>K (st.put o.dst x)
    else K (st.put o.dst .ud)
   else
    let st:={st with t:=upd st.t d (.v (.bool false))}
    bif want then K (st.put o.dst .ud)
    else Qdx cx orc f rid i o st fun x st=>K (st.put o.dst x)
def QnI (cx:Cx)(orc:Orc)(f rid nt:Nat)(ops:Array Oper)(i:Nat)(o:Oper)(st:St)(K:St→Option R):Option R:=
 bif !QeJ nt o.dst then none else
 match o.guard with
 |none=>Qdx cx orc f rid i o st fun x st=>K (st.put o.dst x)
 |some (j,want)=>QxH cx orc f rid ops i o j want st K
theorem QrP {cx:Cx}{orc:Orc}{f rid nt:Nat}{ops:Array Oper}{i:Nat}{o:Oper}{st:St}{K:St→Option R}:QnI cx orc f rid nt ops i o st K=op1 cx orc f rid nt ops i o st K:=by
 unfold QnI op1 QxH
 simp only[QrL]
 cases QeJ nt o.dst with
 |false=>rfl
 |true=>
  cases o.guard with
  |none=>rfl
  |some jw=>
   simp only[Bool.not_true,cond_false]
   cases(ops[jw.1]?).bind (·.dst)with
   |none=>rfl
   |some d=>
    simp only
    cases st.t d<;>rfl
def Qtr (cx:Cx)(orc:Orc)(f rid nt:Nat)(ops:Array Oper):Nat→List Oper→St→(St→Option R)→Option R
 |_,[],st,K=>K st
 |i,o::os,st,K=>QnI cx orc f rid nt ops i o st fun st=>Qtr cx orc f rid nt ops (i+1) os st K
theorem Qkg {cx:Cx}{orc:Orc}{f rid nt:Nat}{ops:Array Oper}:∀(os:List Oper) (i:Nat) (st:St) (K:St→Option R),Qtr cx orc f rid nt ops i os st K=Qkf cx orc f rid nt ops i os st K
 |[],_,_,_=>rfl
 |o::os,i,st,K=>by
  simp only[Qtr,Qkf,QrP]
  congr 1
  funext st
  exact Qkg os (i+1) st K
end
def QA8 (cx:Cx)(orc:Orc)(f:FuncId)(first:Bool)(id:Nat)(ops:Array Oper)(draw:Bool)(k:List Item)(st:St)(K:St→Option (LV×Heap)):Option (LV×Heap):=
 match(bif first then none else cx.cut f id)with
 |some kp=>bif Ql9 kp.nl st.z kp.bs then orc f (.code (.region id ops draw)::k) (kept kp st) st.h else none
 |none=>bif !draw||QgS cx f id ops then(cx.P.funcs[f]?).bind fun fn=>Qtr cx orc f id fn.ntmps ops 0 ops.toList (QxK st) K else none
def evF (cx:Cx)(orc:Orc)(f:FuncId):Nat→Bool→List Item→St→Option (LV×Heap)
 |0,_,_,_=>none
 |n+1,first,todo,st=>
  match todo with
  |[]=>fin cx f st
  |.code .ret::_=>fin cx f st
  |.code .skip::k=>evF cx orc f n false k st
  |.code (.label _)::k=>evF cx orc f n false k st
  |.inBlock _::k=>evF cx orc f n false k st
  |.code (.seq a b)::k=>evF cx orc f n first (.code a::.code b::k) st
  |.code (.cond c a b)::k=>(st.rb c).bind fun t=>bif t then evF cx orc f n false (.code a::k) st else evF cx orc f n false (.code b::k) st
  |.code (.block id body)::k=>evF cx orc f n first (.code body::.inBlock id::k) st
  |.code (.loop body)::k=>evF cx orc f n first (.code body::.inLoop body::k) st
  |.inLoop body::k=>evF cx orc f n first (.code body::.inLoop body::k) st
  |.code (.exit id)::k=>
   match exitTo id k with
   |some k'=>evF cx orc f n false k' st
   |none=>none
  |.code (.region id ops draw)::k=>QA8 cx orc f first id ops draw k st fun st=>evF cx orc f n false k st
  |_=>none
theorem Qpe (cx:Cx)(orc:Orc)(f:FuncId):∀(n:Nat) (first:Bool) (todo:List Item) (st:St),evF cx orc f n first todo st=evS cx orc f n first todo st
 |0,_,_,_=>rfl
 |n+1,first,todo,st=>by
  have ih:evF cx orc f n=evS cx orc f n:=by funext a b c;exact Qpe cx orc f n a b c
  unfold evF evS QA8
  rw[ih]
  simp only[Qsp,Qkg]
  rfl
def QjQ (cx:Cx)(orc:Orc)(f:FuncId)(todo:List Item)(xs:List LV)(h:Heap):Option (LV×Heap):=
 match cutAt cx f todo with
 |some kp=>evF cx orc f fuel true todo (Ql8 kp xs h)
 |none=>evF cx orc f fuel false todo (QgV xs h)
theorem QhM:QjQ=QeA:=by
 funext cx orc f todo xs h
 unfold QjQ QeA
 simp only[Qpe]
 cases cutAt cx f todo<;>rfl
def Qtv (cx:Cx):Nat→Orc
 |0=>fun _ _ _ _=>none
 |n+1=>QjQ cx (Qtv cx n)
theorem QlP (cx:Cx):∀n,Qtv cx n=Qjr cx n
 |0=>rfl
 |n+1=>by
  show QjQ cx (Qtv cx n)=_
  rw[QhM,QlP cx n]
  rfl
end Go.Proofs.Am
