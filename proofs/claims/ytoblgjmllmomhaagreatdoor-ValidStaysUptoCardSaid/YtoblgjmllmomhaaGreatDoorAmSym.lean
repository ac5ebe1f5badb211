/-
  A way through a text with open values: what must hold on it is told, one by one; where all of it holds, the machine comes to what is told.
-/
import Derived.Test.YtoblgjmllmomhaaGreatDoorAmNat
namespace Go.Proofs.Am
open Go
structure Scr where
 b:Nat→Option Bool
 v:Nat→Nat→Option LV
 c:Nat→Nat→Option (LV×Heap)
 tg:Bool:=false
def tgP (scr:Scr)(n:Nat)(p:Prop):Prop:=bif scr.tg then(n=n∧p)else p
theorem QjI {scr:Scr}{n:Nat}{p:Prop}(h:tgP scr n p):p:=by
 unfold tgP at h
 cases hs:scr.tg with
 |true=>rw[hs]at h;exact h.2
 |false=>rw[hs]at h;exact h
def QiU (x:LV)(F:AV→Prop):Prop:=match x with|.v y=>F y|_=>False
def on1 (a:Option AV)(F:AV→Prop):Prop:=match a with|some p=>F p|none=>False
def onI (a:Option AV)(F:Int→Prop):Prop:=match a with|some (.int _ n)=>F n|_=>False
def onE {A:Type}(a:Option A)(F:A→Prop):Prop:=match a with|some p=>F p|none=>False
theorem QaY {x:LV}{F:AV→Prop}(h:QiU x F):∃y,x=.v y∧F y:=by cases x<;>first|exact⟨_,rfl,h⟩|exact False.elim h
theorem Qan {A:Type}{a:Option A}{F:A→Prop}(h:onE a F):∃p,a=some p∧F p:=by
 cases a with
 |none=>exact False.elim h
 |some p=>exact⟨p,rfl,h⟩
theorem Qg9 {a:Option AV}{F:Int→Prop}(h:onI a F):∃p n,a=some p∧p.toI=some n∧F n:=by
 cases a with
 |none=>exact False.elim h
 |some p=>cases p<;>first|exact⟨_,_,rfl,rfl,h⟩|exact False.elim h
def Qxm (cx:Cx)(op:BinOp)(t:TypeId)(x y:Operand)(st:St)(z:LV):Prop:=onE (st.rv x) fun p=>onE (st.rv y) fun q=>QiU z fun r=>QcF cx.P op t (isC x||isC y) p q=some r
def QB4 (op:UnOp)(x:Operand)(st:St)(z:LV):Prop:=onE (st.rv x) fun p=>QiU z fun r=>unA op p=some r
def Qtb (cx:Cx)(s d:TypeId)(x:Operand)(st:St)(z:LV):Prop:=onE (st.rv x) fun p=>cvA cx.P s d p=some z
def Qoy (cx:Cx)(s d:TypeId)(x:Operand)(st:St)(z:LV):Prop:=onE (st.rv x) fun p=>cvH cx.P st.h s d p=some z
def QB6 (cx:Cx)(t:TypeId)(x ix:Operand)(st:St)(z:LV):Prop:=onE (st.rv x) fun p=>onI (st.rv ix) fun n=>QiU z fun r=>ixS (cx.P.underlying t) p n=some r
def QoM (r:AV)(F:List AV→Prop):Prop:=match r with|.snap cs=>F cs|_=>False
theorem QiR {r:AV}{F:List AV→Prop}(h:QoM r F):∃cs,r=.snap cs∧F cs:=by cases r<;>first|exact⟨_,rfl,h⟩|exact False.elim h
def QB7 (cx:Cx)(t:TypeId)(x ix:Operand)(st:St)(z:LV):Prop:=
 onE (QaA cx.P t) fun e=>onE (tyz cx.P e) fun k=>onE (st.rv x) fun p=>onI (st.rv ix) fun n=>QiU z fun r=>QoM r fun cs=>ixA p n k.1=some cs
def QB5 (cx:Cx)(t:TypeId)(x:Operand)(lo hi:Option Operand)(st:St)(z:LV):Prop:=
 onE (st.rv x) fun p=>onE (rvs st lo.toList some) fun ls=>onE (rvs st hi.toList some) fun hs=>((ls.all fun x=>x.toI.isSome)&&(hs.all fun x=>x.toI.isSome))=true∧
  QiU z fun r=>slA cx.P t p (ls.head?.bind AV.toI) (hs.head?.bind AV.toI)=some r
def QBo (z:LV)(F:Int→Prop):Prop:=match z with|.v (.int .i64 n)=>F n|_=>False
theorem QnV {z:LV}{F:Int→Prop}(h:QBo z F):∃n,z=.v (.int .i64 n)∧F n:=by
 unfold QBo at h
 split at h
 ·exact⟨_,rfl,h⟩
 ·exact False.elim h
def lnS:AV→Option Int
 |.imm xs=>some xs.length
 |.arr _ _ _ len=>some len
 |.nilS=>some 0
 |.nilE=>some 0
 |_=>none
def Qpq (cx:Cx)(c:Call)(st:St)(z:LV):Prop:=
 match c.callee,c.args.toList with
 |.builtin .len,[x]=>onE (st.rv x) fun p=>QBo z fun n=>(match c.argTypes.toList.head?.bind cx.P.underlying with|some (.slice _)=>lnS p=some n|d=>lnA d p=some n)
 |_,_=>False
def QB3 (cx:Cx)(f rid i:Nat)(o:Oper)(st:St)(z:LV):Prop:=
 match o.op with
 |.binOp op t x y _=>Qxm cx op t x y st z
 |.unOp op _ x=>QB4 op x st z
 |.convert s d x=>bif cx.heap f rid i then Qoy cx s d x st z else Qtb cx s d x st z
 |.index t x ix=>QB6 cx t x ix st z
 |.indexAddr t x ix=>cx.heap f rid i=false∧QaG o.op=none∧QB7 cx t x ix st z
 |.slice t x lo hi none=>QB5 cx t x lo hi st z
 |.call c=>Qpq cx c st z
 |_=>False
variable {cx:Cx} {orc:Orc} {f rid i:Nat} {o:Oper} {st:St}
theorem Qta {z:LV}(h:QB3 cx f rid i o st z){R:Type}(K:LV→St→Option R):Qdx cx orc f rid i o st K=K z st:=by
 unfold QB3 at h
 unfold Qdx
 split at h
 ·rename_i op t x y q ho
  have hg:QaG o.op=none:=by rw[ho];rfl
  rw[hg]
  unfold opF;rw[ho]
  obtain⟨p,hp,h⟩:=Qan h
  obtain⟨q,hq,h⟩:=Qan h
  obtain⟨r,rfl,h⟩:=QaY h
  have h:QcF cx.P op t (isC x||isC y) p q=some r:=h
  simp only[Qtt,hp,hq,h,Option.bind_some]
 ·rename_i op q x ho
  have hg:QaG o.op=none:=by rw[ho];rfl
  rw[hg]
  unfold opF;rw[ho]
  simp only
  unfold opO;rw[ho]
  obtain⟨p,hp,h⟩:=Qan h
  obtain⟨r,rfl,h⟩:=QaY h
  have h:unA op p=some r:=h
  simp only[hp,h,Option.bind_some]
 ·rename_i s d x ho
  have hg:QaG o.op=none:=by rw[ho];rfl
  rw[hg]
  unfold opF;rw[ho]
  simp only
  unfold opO;rw[ho]
  cases hh:cx.heap f rid i with
  |true=>
   rw[hh,cond_true]at h
   obtain⟨p,hp,h⟩:=Qan h
   have h:cvH cx.P st.h s d p=some z:=h
   simp only[hp,h,cond_true,Option.bind_some]
  |false=>
   rw[hh,cond_false]at h
   obtain⟨p,hp,h⟩:=Qan h
   have h:cvA cx.P s d p=some z:=h
   simp only[hp,h,cond_false,Option.bind_some]
 ·rename_i t x ix ho
  have hg:QaG o.op=none:=by rw[ho];rfl
  rw[hg]
  unfold opF;rw[ho]
  obtain⟨p,hp,h⟩:=Qan h
  obtain⟨q,n,hq,hn,h⟩:=Qg9 h
  obtain⟨r,rfl,h⟩:=QaY h
  have h:ixS (cx.P.underlying t) p n=some r:=h
  simp only[fIx,hp,hq,hn,h,Option.bind_some]
 ·rename_i t x ix ho
  obtain⟨hh,hg,h⟩:=h
  rw[hg]
  unfold opF;rw[ho]
  obtain⟨e,he,h⟩:=Qan h
  obtain⟨k,hk,h⟩:=Qan h
  obtain⟨p,hp,h⟩:=Qan h
  obtain⟨q,n,hq,hn,h⟩:=Qg9 h
  obtain⟨r,rfl,h⟩:=QaY h
  obtain⟨cs,rfl,h⟩:=QiR h
  have h:ixA p n k.1=some cs:=h
  simp only[fIA,he,hk,hp,hq,hn,hh,h,Option.bind_some,cond_false]
 ·rename_i t x lo hi ho
  have hg:QaG o.op=none:=by rw[ho];rfl
  rw[hg]
  unfold opF;rw[ho]
  obtain⟨p,hp,h⟩:=Qan h
  obtain⟨ls,hls,h⟩:=Qan h
  obtain⟨hs,hhs,h⟩:=Qan h
  obtain⟨hb,h⟩:=h
  obtain⟨r,rfl,h⟩:=QaY h
  have h:slA cx.P t p (ls.head?.bind AV.toI) (hs.head?.bind AV.toI)=some r:=h
  simp only[fSl,hp,Option.bind_some]
  rw[Qa5,hls,Option.bind_some,Qa5,hhs,Option.bind_some]
  simp only[Option.isNone_none,cond_true,h,Option.bind_some,hb]
 ·rename_i c ho
  have hg:QaG o.op=none:=by rw[ho];rfl
  obtain⟨callee,as,tys⟩:=c
  unfold Qpq at h
  simp only at h
  split at h
  ·rename_i x has
   obtain⟨p,hp,h⟩:=Qan h
   obtain⟨n,rfl,hn'⟩:=QnV h
   have hn:lnA (tys.toList.head?.bind cx.P.underlying) p=some n:=by
    generalize tys.toList.head?.bind cx.P.underlying=d at hn'
    split at hn'
    ·exact hn'
    ·exact hn'
   rw[hg]
   unfold opF;rw[ho]
   simp only[QdI,has,Qbm,QBG,hp,hn,Option.bind_some]
  ·exact False.elim h
 ·exact False.elim h
def Qtp (m:Nat)(x:LV)(K:LV→Prop):Prop:=
 match m with
 |0=>onE x.cpy1 fun a=>K (.v a)
 |1=>(match x with|.tup xs=>K (.tup xs)|_=>False)
 |_=>K x
def QgG (z:Nat)(y:LV):Option (List LV):=
 match y with
 |.ag ls=>bif Nat.beq ls.length z&&ls.all LV.isC then some ls else none
 |.v a=>(a.toC z).bind fun cs=>some (cs.map .v)
 |.ow n xs=>bif Nat.beq z 1 then some [.ow n xs]else none
 |_=>none
def QBR (cx:Cx)(f rid i:Nat)(o:Oper)(st:St)(x:LV)(h':Heap)(K:LV→St→Prop):Prop:=
 match o.op with
 |.indexAddr t a ix=>cx.heap f rid i=true∧QaG o.op=none∧onE (QaA cx.P t) fun e=>onE (tyz cx.P e) fun k=>onE (st.rv a) fun p=>onI (st.rv ix) fun n=>QiU x fun r=>ixP p n k.1=some r∧K x st
 |.load t a=>cx.heap f rid i=true∧QaG o.op=none∧cx.take f rid i=false∧onE (tyz cx.P t) fun z=>QiU (st.rd a) fun p=>QiU x fun y=>ldP st.h p z.1 z.2=some y∧K x st
 |.store t a v=>cx.heap f rid i=true∧bif cx.take f rid i then
  (cx.take f rid i=true∧x=.ud∧onE (tyz cx.P t) fun z=>Nat.blt 0 z.1=true∧match v with
   |.tmp j=>QiU (({st with t:=upd st.t j .un}:St).rd a) fun p=>onE (QgG z.1 (st.t j)) fun l=>stP st.h p l=some h'∧K .ud {st with t:=upd st.t j .un,h:=h'}
   |_=>False)
  else cx.take f rid i=false∧x=.ud∧onE (tyz cx.P t) fun z=>Nat.blt 0 z.1=true∧QiU (st.rd a) fun p=>onE (match v with|.const c=>QgG z.1 (lvC cx.P t c)|v=>QgG z.1 (st.rd v)) fun l=>stP st.h p l=some h'∧K .ud {st with h:=h'}
 |_=>False
def apX (P:Program)(h:Heap)(t:Option TypeId)(n bytes:Nat)(d p:AV):Option (AV×Heap):=(elX P h true t n p).bind fun ys=>apG h d n bytes ys
def Qte (cx:Cx)(f rid i:Nat)(o:Oper)(st:St)(x:LV)(h':Heap)(K:LV→St→Prop):Prop:=
 match o.op with
 |.call c=>
  match c.callee,c.args.toList with
  |.builtin .append,[a,y]=>
   cx.heap f rid i=true∧
   onE (c.argTypes.toList.head?.bind (QaA cx.P)) fun e=>onE (cx.P.info? e) fun ti=>onE (Qbq cx.P e) fun zc=>
   onE (st.rv y) fun p=>bif cx.arr f rid i then((Nat.beq zc.length ti.size&&Nat.blt 0 ti.size)=true∧onE (st.ra a) fun d=>QiU x fun q=>apX cx.P st.h c.argTypes.toList[1]? ti.size ti.bytes d p=some (q,h')∧K x {st with h:=h'})else
   onE (elX cx.P st.h false c.argTypes.toList[1]? ti.size p) fun ys=>
   (Nat.beq zc.length ti.size&&Nat.blt 0 ti.size)=true∧onE (st.ra a) fun d=>QiU x fun q=>apG st.h d ti.size ti.bytes ys=some (q,h')∧K x {st with h:=h'}
  |_,_=>False
 |_=>False
theorem QoC {x:LV}{h':Heap}{K:LV→St→Prop}(h:Qte cx f rid i o st x h' K):∃y s,K y s∧(∀(R:Type) (K:LV→St→Option R),Qdx cx orc f rid i o st K=K y s):=by
 unfold Qte at h
 split at h
 ·rename_i c ho
  have hg:QaG o.op=none:=by rw[ho];rfl
  obtain⟨callee,as,tys⟩:=c
  simp only at h
  split at h
  ·rename_i a y has
   obtain⟨hph,h⟩:=h
   obtain⟨e,he,h⟩:=Qan h
   obtain⟨ti,hti,h⟩:=Qan h
   obtain⟨zc,hzc,h⟩:=Qan h
   obtain⟨p,hp,h⟩:=Qan h
   cases har:cx.arr f rid i with
   |true=>
    rw[har,cond_true]at h
    obtain⟨hc,h⟩:=h
    obtain⟨d,hd,h⟩:=Qan h
    obtain⟨q,rfl,ha,hK⟩:=QaY h
    obtain⟨ys,hys,ha⟩:=Option.bind_eq_some_iff.1 ha
    refine⟨_,_,hK,fun R K'=>?_⟩
    unfold Qdx
    rw[hg]
    unfold opF;rw[ho]
    simp only[QdI,has,Qbm,Qat,he,hti,hzc,hp,har,hys,hc,hph,hd,ha,Option.bind_some,cond_true]
   |false=>
   rw[har,cond_false]at h
   obtain⟨ys,hys,hc,h⟩:=Qan h
   obtain⟨d,hd,h⟩:=Qan h
   obtain⟨q,rfl,ha,hK⟩:=QaY h
   refine⟨_,_,hK,fun R K'=>?_⟩
   unfold Qdx
   rw[hg]
   unfold opF;rw[ho]
   simp only[QdI,has,Qbm,Qat,he,hti,hzc,hp,har,hys,hc,hph,hd,ha,Option.bind_some,cond_true]
  ·exact False.elim h
 ·exact False.elim h
def Qs4 (cx:Cx)(orc:Orc)(f rid i:Nat)(o:Oper)(st:St)(x:LV)(h':Heap)(K:LV→St→Prop):Prop:=
 match o.op with
 |.call c=>
  match c.callee with
  |.value (.func g)=>onE (QxT (cx.take f rid i) st c.args.toList) fun q=>
   bif cx.pure f rid i then Qbw q.1=true∧Qab cx orc g q.1 Heap.nil=some (x,h')∧Qtp (mode cx g) x fun y=>y.np=true∧K y q.2
   else Qab cx orc g q.1 q.2.h=some (x,h')∧Qtp (mode cx g) x fun y=>K y {q.2 with h:=h'}
  |.value (.tmp j)=>onE (st.t j).cpy fun fv=>onE (QxT (cx.take f rid i) st c.args.toList) fun q=>
   QaK cx orc fv q.1 q.2.h=some (x,h')∧Qtp (bif Qey cx.P o.type then 1 else 0) x fun y=>K y {q.2 with h:=h'}
  |.builtin _=>Qte cx f rid i o st x h' K
  |_=>False
 |_=>QBR cx f rid i o st x h' K
def Ql6 (cx:Cx)(orc:Orc)(f rid i:Nat)(o:Oper)(st:St)(x:LV)(s:St):Prop:=∀(R:Type) (K:LV→St→Option R),Qdx cx orc f rid i o st K=K x s
theorem QrA {x:LV}{h':Heap}{K:LV→Prop}(h:Qtp 0 x K):∃a,toA (some (x,h'))=some (a,h')∧K (.v a):=by
 obtain⟨a,ha,h⟩:=Qan h
 exact⟨a,by simp only[toA,Option.bind_some,ha],h⟩
theorem Qrz {x:LV}{h':Heap}{K:LV→Prop}(h:Qtp 1 x K):∃xs,toT (some (x,h'))=some (xs,h')∧K (.tup xs):=by
 cases x<;>simp only[Qtp]at h
 exact⟨_,rfl,h⟩
theorem Qeq {z:Nat}{y:LV}{l:List LV}(h:QgG z y=some l){st:St}{p:AV}{h':Heap}{a:Operand}{R:Type}{K:LV→St→Option R}(hp:st.rd a=.v p)(hs:stP st.h p l=some h'):
 Qa9 true a z K st y=K .ud {st with h:=h'}:=by
 unfold QgG at h
 split at h
 ·rename_i ls
  cases hc:(Nat.beq ls.length z&&ls.all LV.isC)with
  |false=>rw[hc]at h;cases h
  |true=>
   rw[hc,cond_true,Option.some.injEq]at h
   subst h
   simp only[Qa9,hc,cond_true,QhV,hp,hs,Option.bind_some]
 ·rename_i b
  rw[Option.bind_eq_some_iff]at h
  obtain⟨cs,hcs,h⟩:=h
  simp only[Option.some.injEq]at h
  subst h
  simp only[Qa9,hcs,Option.bind_some,QhV,cond_true,hp,hs]
 ·rename_i n xs
  cases hc:Nat.beq z 1 with
  |false=>rw[hc]at h;cases h
  |true=>
   rw[hc,cond_true,Option.some.injEq]at h
   subst h
   simp only[Qa9,hc,cond_true,QhV,hp,hs,Option.bind_some]
 ·cases h
theorem QsE {x:LV}{h':Heap}{K:LV→St→Prop}(h:QBR cx f rid i o st x h' K):∃y s,K y s∧Ql6 cx orc f rid i o st y s:=by
 unfold QBR at h
 split at h
 ·rename_i t a ix ho
  obtain⟨hh,hg,h⟩:=h
  obtain⟨e,he,h⟩:=Qan h
  obtain⟨k,hk,h⟩:=Qan h
  obtain⟨p,hp,h⟩:=Qan h
  obtain⟨q,n,hq,hn,h⟩:=Qg9 h
  obtain⟨r,rfl,h,hK⟩:=QaY h
  refine⟨_,_,hK,fun R K'=>?_⟩
  unfold Qdx
  rw[hg]
  unfold opF;rw[ho]
  simp only[fIA,he,hk,hp,hq,hn,hh,h,Option.bind_some,cond_true]
 ·rename_i t a ho
  obtain⟨hh,hg,htk,h⟩:=h
  obtain⟨z,hz,h⟩:=Qan h
  obtain⟨p,hp,h⟩:=QaY h
  obtain⟨y,rfl,h,hK⟩:=QaY h
  refine⟨_,_,hK,fun R K'=>?_⟩
  unfold Qdx
  rw[hg]
  unfold opF;rw[ho]
  simp only[Qlb,QBH,hz,hh,htk,hp,h,Option.bind_some,cond_true,cond_false]
 ·rename_i t a v ho
  obtain⟨hh,h⟩:=h
  have hg:QaG o.op=none:=by rw[ho];rfl
  cases htk:cx.take f rid i with
  |true=>
   rw[htk,cond_true]at h
   obtain⟨_,rfl,h⟩:=h
   obtain⟨z,hz,hb,h⟩:=Qan h
   cases v with
   |tmp j=>
    obtain⟨p,hp,h⟩:=QaY h
    obtain⟨l,hl,hs,hK⟩:=Qan h
    refine⟨_,_,hK,fun R K'=>?_⟩
    unfold Qdx
    rw[hg]
    unfold opF;rw[ho]
    have e:Qa8 cx.P (cx.heap f rid i) (cx.take f rid i) t a (.tmp j) st K'=K' .ud {st with t:=upd st.t j .un,h:=h'}:=by
     rw[Qbr,hz,hh,htk]
     simp only[Option.bind_some,hb,Bool.not_true,cond_false,cond_true]
     exact Qeq (st:={st with t:=upd st.t j .un}) hl hp hs
    exact e
   |_=>exact False.elim h
  |false=>
  rw[htk,cond_false]at h
  obtain⟨_,rfl,h⟩:=h
  obtain⟨z,hz,hb,h⟩:=Qan h
  obtain⟨p,hp,h⟩:=QaY h
  obtain⟨l,hl,hs,hK⟩:=Qan h
  refine⟨_,_,hK,fun R K'=>?_⟩
  unfold Qdx
  rw[hg]
  unfold opF;rw[ho]
  have e:Qa8 cx.P (cx.heap f rid i) (cx.take f rid i) t a v st K'=K' .ud {st with h:=h'}:=by
   rw[Qbr,hz,hh,htk]
   simp only[Option.bind_some,hb,Bool.not_true,cond_false]
   cases v with
   |const c=>exact Qeq hl hp hs
   |_=>exact Qeq hl hp hs
  exact e
 ·exact False.elim h
theorem Qop {x:LV}{h':Heap}{K:LV→St→Prop}(h:Qs4 cx orc f rid i o st x h' K):∃y s,K y s∧Ql6 cx orc f rid i o st y s:=by
 unfold Qs4 at h
 split at h
 ·rename_i c ho
  have hg:QaG o.op=none:=by rw[ho];rfl
  obtain⟨callee,as,tys⟩:=c
  simp only at h
  split at h
  ·rename_i g
   obtain⟨q,hq,h⟩:=Qan h
   have un:∀(R:Type) (K':LV→St→Option R),Qdx cx orc f rid i o st K'=(match mode cx g with
    |0=>Qap .v (cx.pure f rid i) q.1 (QeL cx orc g q.1) q.2 K'
    |1=>Qap .tup (cx.pure f rid i) q.1 (callT cx orc g q.1) q.2 K'
    |_=>Qap (fun x=>x) (cx.pure f rid i) q.1 (Qab cx orc g q.1) q.2 K'):=by
    intro R K'
    unfold Qdx
    rw[hg]
    unfold opF;rw[ho]
    simp only[QdI,Qel]
    rw[Qa1,hq,Option.bind_some]
    cases mode cx g with
    |zero=>rfl
    |succ n=>cases n<;>rfl
   cases hp:cx.pure f rid i with
   |true=>
    rw[hp]at h
    simp only[cond_true]at h
    obtain⟨hn,hc,h⟩:=h
    generalize hm:mode cx g=m at h
    match m with
    |0=>
     obtain⟨a,ha,h1,h2⟩:=QrA (h':=h') h
     refine⟨_,_,h2,fun R K'=>?_⟩
     rw[un,hm,hp]
     simp only[Qap,cond_true,hn,QeL,hc,ha,Option.bind_some,h1]
    |1=>
     obtain⟨a,ha,h1,h2⟩:=Qrz (h':=h') h
     refine⟨_,_,h2,fun R K'=>?_⟩
     rw[un,hm,hp]
     simp only[Qap,cond_true,hn,callT,hc,ha,Option.bind_some,h1]
    |m+2=>
     obtain⟨h1,h2⟩:=h
     refine⟨_,_,h2,fun R K'=>?_⟩
     rw[un,hm,hp]
     simp only[Qap,cond_true,hn,hc,Option.bind_some,h1]
   |false=>
    rw[hp]at h
    simp only[cond_false]at h
    obtain⟨hc,h⟩:=h
    generalize hm:mode cx g=m at h
    match m with
    |0=>
     obtain⟨a,ha,h2⟩:=QrA (h':=h') h
     refine⟨_,_,h2,fun R K'=>?_⟩
     rw[un,hm,hp]
     simp only[Qap,cond_false,QeL,hc,ha,Option.bind_some]
    |1=>
     obtain⟨a,ha,h2⟩:=Qrz (h':=h') h
     refine⟨_,_,h2,fun R K'=>?_⟩
     rw[un,hm,hp]
     simp only[Qap,cond_false,callT,hc,ha,Option.bind_some]
    |m+2=>
     refine⟨_,_,h,fun R K'=>?_⟩
     rw[un,hm,hp]
     simp only[Qap,cond_false,hc,Option.bind_some]
  ·rename_i j
   obtain⟨fv,hfv,h⟩:=Qan h
   obtain⟨q,hq,hc,h⟩:=Qan h
   have un:∀(R:Type) (K':LV→St→Option R),Qdx cx orc f rid i o st K'=(bif Qey cx.P o.type then Qap .tup false q.1 (Qc4 cx orc fv q.1) q.2 K'
    else Qap .v false q.1 (Qc5 cx orc fv q.1) q.2 K'):=by
    intro R K'
    unfold Qdx
    rw[hg]
    unfold opF;rw[ho]
    simp only[QdI,Qgz,hfv,Option.bind_some]
    rw[Qa1,hq,Option.bind_some]
   cases ht:Qey cx.P o.type with
   |true=>
    rw[ht]at h
    obtain⟨a,ha,h2⟩:=Qrz (h':=h') h
    refine⟨_,_,h2,fun R K'=>?_⟩
    rw[un,ht]
    simp only[Qap,cond_true,cond_false,Qc4,hc,ha,Option.bind_some]
   |false=>
    rw[ht]at h
    obtain⟨a,ha,h2⟩:=QrA (h':=h') h
    refine⟨_,_,h2,fun R K'=>?_⟩
    rw[un,ht]
    simp only[Qap,cond_false,Qc5,hc,ha,Option.bind_some]
  ·exact QoC h
  ·exact False.elim h
 ·exact QsE h
def QB8 (cx:Cx)(f rid i:Nat)(o:Oper)(st:St)(z:LV)(K:LV→St→Prop):Prop:=
 match o.op with
 |.call c=>
  match c.callee,c.args.toList with
  |.builtin .append,[x,y]=>
   cx.arr f rid i=false∧cx.heap f rid i=false∧
   onE (c.argTypes.toList.head?.bind (QaA cx.P)) fun e=>onE (cx.P.info? e) fun ti=>onE (Qbq cx.P e) fun zc=>
   onE (st.rv y) fun a=>onE (elA (c.argTypes.toList[1]?.bind cx.P.underlying) ti.size a) fun ys=>
   (Nat.beq zc.length ti.size&&Nat.blt 0 ti.size)=true∧
   (match x with
    |.tmp j=>apL (st.t j) ti.size ti.bytes ys=some z∧K z {st with t:=upd st.t j .un}
    |.const (.slice none 0 0)=>apL (.ow ti.size []) ti.size ti.bytes ys=some z∧K z st
    |_=>False)
  |_,_=>False
 |_=>False
theorem Qtd {z:LV}{K:LV→St→Prop}(h:QB8 cx f rid i o st z K):∃y s,K y s∧Ql6 cx orc f rid i o st y s:=by
 unfold QB8 at h
 split at h
 ·rename_i c ho
  have hg:QaG o.op=none:=by rw[ho];rfl
  obtain⟨callee,as,tys⟩:=c
  simp only at h
  split at h
  ·rename_i x y has
   obtain⟨har,hph,h⟩:=h
   obtain⟨e,he,h⟩:=Qan h
   obtain⟨ti,hti,h⟩:=Qan h
   obtain⟨zc,hzc,h⟩:=Qan h
   obtain⟨a,ha,h⟩:=Qan h
   obtain⟨ys,hys,hc,hw⟩:=Qan h
   clear h
   cases x with
   |tmp j=>
    refine⟨_,_,hw.2,fun R K'=>?_⟩
    unfold Qdx
    rw[hg]
    unfold opF;rw[ho]
    simp only[QdI,has,Qbm,Qat,elX,he,hti,hzc,ha,hys,hc,har,hph,hw.1,Option.bind_some,cond_true,cond_false]
   |const v=>
    split at hw
    ·rename_i heq;cases heq
    ·rename_i heq
     injection heq with heq
     subst heq
     refine⟨_,_,hw.2,fun R K'=>?_⟩
     unfold Qdx
     rw[hg]
     unfold opF;rw[ho]
     simp only[QdI,has,Qbm,Qat,elX,he,hti,hzc,ha,hys,hc,har,hph,hw.1,Option.bind_some,cond_true,cond_false]
    ·exact False.elim hw
   |func g=>exact False.elim hw
   |global g=>exact False.elim hw
  ·exact False.elim h
 ·exact False.elim h
def isApp (o:Oper):Bool:=
 match o.op with
 |.call c=>(match c.callee with|.builtin .append=>true|_=>false)
 |_=>false
def QCD (scr:Scr)(x:Operand):Option Bool:=
 match x with
 |.tmp j=>scr.b j
 |_=>none
def Qkb (cx:Cx)(orc:Orc)(f rid i:Nat)(o:Oper)(st:St)(K:LV→St→Prop):Prop:=onE (opR cx orc f rid i o st) fun p=>K p.1 p.2
def QBe (c a b:Operand)(t:Bool)(st:St)(K:LV→St→Prop):Prop:=st.rb c=some t∧(bif t then K (st.rd a) st else K (st.rd b) st)
def opW (cx:Cx)(orc:Orc)(scr:Scr)(f rid i:Nat)(o:Oper)(st:St)(K:LV→St→Prop):Prop:=
 match scr.v rid i with
 |some z=>bif isApp o then QB8 cx f rid i o st z K else QB3 cx f rid i o st z∧K z st
 |none=>
  match scr.c rid i with
  |some (x,h')=>Qs4 cx orc f rid i o st x h' K
  |none=>
   match o.op with
   |.pick c a b=>(match QCD scr c with|some t=>QBe c a b t st K|none=>Qkb cx orc f rid i o st K)
   |_=>Qkb cx orc f rid i o st K
theorem Qf6 {K:LV→St→Prop}(h:Qkb cx orc f rid i o st K):∃y s,K y s∧Ql6 cx orc f rid i o st y s:=by
 obtain⟨p,hp,h⟩:=Qan h
 exact⟨_,_,h,fun R K'=>by rw[QnH,hp,Option.bind_some]⟩
theorem QoX {scr:Scr}{K:LV→St→Prop}(h:opW cx orc scr f rid i o st K):∃y s,K y s∧Ql6 cx orc f rid i o st y s:=by
 unfold opW at h
 split at h
 ·rename_i z _
  cases ha:isApp o with
  |true=>rw[ha]at h;exact Qtd h
  |false=>
   rw[ha]at h
   exact⟨z,st,h.2,fun R K'=>Qta h.1 K'⟩
 ·split at h
  ·exact Qop h
  ·split at h
   ·rename_i c a b ho
    split at h
    ·rename_i t _
     obtain⟨h1,h⟩:=h
     refine⟨bif t then st.rd a else st.rd b,st,by cases t<;>exact h,fun R K'=>?_⟩
     have hg:QaG o.op=none:=by rw[ho];rfl
     unfold Qdx
     rw[hg]
     unfold opF;rw[ho]
     simp only[Qk8,h1,Option.bind_some]
     cases t<;>rfl
    ·exact Qf6 h
   ·exact Qf6 h
def QxG (cx:Cx)(orc:Orc)(scr:Scr)(f rid:Nat)(i:Nat)(o:Oper)(d:Nat)(want:Bool)(b:Bool)(st:St)(K:St→Prop):Prop:=
 bif Bool.xor b want then K (St.put {st with t:=upd st.t d (.v (.bool b))} o.dst .ud)
 else opW cx orc scr f rid i o {st with t:=upd st.t d (.v (.bool b))} fun x st=>K (st.put o.dst x)
def QBi (cx:Cx)(orc:Orc)(scr:Scr)(f rid nt:Nat)(ops:Array Oper)(i:Nat)(o:Oper)(st:St)(K:St→Prop):Prop:=
 bif !QeJ nt o.dst then False else
 match o.guard with
 |none=>opW cx orc scr f rid i o st fun x st=>K (st.put o.dst x)
 |some (j,want)=>
  match(ops[j]?).bind (·.dst)with
  |none=>False
  |some d=>
   match scr.b d with
   |some b=>(st.t d).toB=some b∧QxG cx orc scr f rid i o d want b st K
   |none=>
    match st.t d with
    |.ud=>K (st.put o.dst .ud)
    |x=>onE x.toB fun b=>QxG cx orc scr f rid i o d want b st K
theorem QkH {scr:Scr}{nt:Nat}{ops:Array Oper}{d j:Nat}{want b:Bool}{K:St→Prop}(hd:QeJ nt o.dst=true)(hj:(ops[j]?).bind (·.dst)=some d)(hgd:o.guard=some (j,want))
 (hb:(st.t d).toB=some b)(h:QxG cx orc scr f rid i o d want b st K):∃s,K s∧∀(R:Type) (K':St→Option R),QnI cx orc f rid nt ops i o st K'=K' s:=by
 have un:∀(R:Type) (K':St→Option R),QnI cx orc f rid nt ops i o st K'=(bif Bool.xor b want then K' (St.put {st with t:=upd st.t d (.v (.bool b))} o.dst .ud)
  else Qdx cx orc f rid i o {st with t:=upd st.t d (.v (.bool b))} fun x st=>K' (st.put o.dst x)):=by
  intro R K'
  unfold QnI
  rw[hd,hgd]
  simp only[Bool.not_true,cond_false,QxH,hj]
  have:st.t d≠.ud:=by intro e;rw[e]at hb;cases hb
  cases hx:st.t d<;>first|exact absurd hx this|skip
  all_goals (rw[hx]at hb;simp only[hb,Option.bind_some];cases b<;>cases want<;>rfl)
 unfold QxG at h
 cases hx:Bool.xor b want with
 |true=>
  rw[hx]at h
  exact⟨_,h,fun R K'=>by rw[un,hx];rfl⟩
 |false=>
  rw[hx]at h
  obtain⟨y,s,hk,hg⟩:=QoX h
  exact⟨_,hk,fun R K'=>by rw[un,hx,cond_false,hg]⟩
theorem QrO {scr:Scr}{nt:Nat}{ops:Array Oper}{K:St→Prop}(h:QBi cx orc scr f rid nt ops i o st K):∃s,K s∧∀(R:Type) (K':St→Option R),QnI cx orc f rid nt ops i o st K'=K' s:=by
 unfold QBi at h
 cases hd:QeJ nt o.dst with
 |false=>rw[hd]at h;exact False.elim h
 |true=>
 rw[hd]at h
 simp only[Bool.not_true,cond_false]at h
 split at h
 ·rename_i hg
  obtain⟨y,s,hk,hgv⟩:=QoX h
  exact⟨_,hk,fun R K'=>by unfold QnI;rw[hd,hg];simp only[Bool.not_true,cond_false];rw[hgv]⟩
 ·rename_i j want hg
  split at h
  ·exact False.elim h
  ·rename_i d hj
   split at h
   ·rename_i b _
    exact QkH hd hj hg h.1 h.2
   ·split at h
    ·rename_i hu
     exact⟨_,h,fun R K'=>by unfold QnI;rw[hd,hg];simp only[Bool.not_true,cond_false,QxH,hj,hu]⟩
    ·obtain⟨b,hb,h⟩:=Qan h
     exact QkH hd hj hg hb h
def QBh (cx:Cx)(orc:Orc)(scr:Scr)(f rid nt:Nat)(ops:Array Oper):Nat→List Oper→St→(St→Prop)→Prop
 |_,[],st,K=>K st
 |i,o::os,st,K=>tgP scr (rid*1000+i) (QBi cx orc scr f rid nt ops i o st fun st=>QBh cx orc scr f rid nt ops (i+1) os st K)
theorem Qke {scr:Scr}{nt:Nat}{ops:Array Oper}:∀(os:List Oper) (i:Nat) (st:St) (K:St→Prop),QBh cx orc scr f rid nt ops i os st K→
 ∃s,K s∧∀(R:Type) (K':St→Option R),Qtr cx orc f rid nt ops i os st K'=K' s
 |[],i,st,K,h=>⟨st,h,fun _ _=>rfl⟩
 |o::os,i,st,K,h=>by
  obtain⟨s1,h1,k1⟩:=QrO (QjI h)
  obtain⟨s2,h2,k2⟩:=Qke os (i+1) s1 K h1
  exact⟨s2,h2,fun R K'=>by rw[Qtr,k1,k2]⟩
def QCn (cx:Cx)(orc:Orc)(scr:Scr)(f:FuncId)(first:Bool)(id:Nat)(ops:Array Oper)(draw:Bool)(k:List Item)(st:St)(r:LV×Heap)(K:St→Prop):Prop:=
 match(bif first then none else cx.cut f id)with
 |some kp=>Ql9 kp.nl st.z kp.bs=true∧orc f (.code (.region id ops draw)::k) (kept kp st) st.h=some r
 |none=>bif !draw||QgS cx f id ops then onE (cx.P.funcs[f]?) fun fn=>QBh cx orc scr f id fn.ntmps ops 0 ops.toList (QxK st) K else False
def QCR (n:Nat)(c:Operand):Nat:=match c with|.tmp _=>1000000000+(1000000+n)|_=>0
def QDk (scr:Scr)(n:Nat)(x:Operand):Option Bool:=
 match QCD scr x with
 |some t=>some t
 |none=>scr.b (1000000+n)
def QCz (scr:Scr)(n:Nat)(c:Operand)(st:St)(K:Bool→Prop):Prop:=
 match QDk scr n c with
 |some t=>st.rb c=some t∧K t
 |none=>onE (st.rb c) K
def evW (cx:Cx)(orc:Orc)(scr:Scr)(f:FuncId)(r:LV×Heap):Nat→Bool→List Item→St→Prop
 |0,_,_,_=>False
 |n+1,first,todo,st=>
  match todo with
  |[]=>fin cx f st=some r
  |.code .ret::_=>fin cx f st=some r
  |.code .skip::k=>evW cx orc scr f r n false k st
  |.code (.label _)::k=>evW cx orc scr f r n false k st
  |.inBlock _::k=>evW cx orc scr f r n false k st
  |.code (.seq a b)::k=>evW cx orc scr f r n first (.code a::.code b::k) st
  |.code (.cond c a b)::k=>tgP scr (QCR n c) (QCz scr n c st fun t=>bif t then evW cx orc scr f r n false (.code a::k) st else evW cx orc scr f r n false (.code b::k) st)
  |.code (.block id body)::k=>evW cx orc scr f r n first (.code body::.inBlock id::k) st
  |.code (.loop body)::k=>evW cx orc scr f r n first (.code body::.inLoop body::k) st
  |.inLoop body::k=>evW cx orc scr f r n first (.code body::.inLoop body::k) st
  |.code (.exit id)::k=>
   match exitTo id k with
   |some k'=>evW cx orc scr f r n false k' st
   |none=>False
  |.code (.region id ops draw)::k=>QCn cx orc scr f first id ops draw k st r fun st=>evW cx orc scr f r n false k st
  |_=>False
theorem QbK {scr:Scr}{r:LV×Heap}:∀(n:Nat) (first:Bool) (todo:List Item) (st:St),evW cx orc scr f r n first todo st→evF cx orc f n first todo st=some r
 |0,_,_,_,h=>False.elim h
 |n+1,first,todo,st,h=>by
  unfold evW at h
  unfold evF
  split at h
  ·exact h
  ·exact h
  ·exact QbK n _ _ _ h
  ·exact QbK n _ _ _ h
  ·exact QbK n _ _ _ h
  ·exact QbK n _ _ _ h
  ·rename_i c a b k
   simp only
   have go:∀t,st.rb c=some t→(bif t then evW cx orc scr f r n false (.code a::k) st else evW cx orc scr f r n false (.code b::k) st)→
    ((st.rb c).bind fun t=>bif t then evF cx orc f n false (.code a::k) st else evF cx orc f n false (.code b::k) st)=some r:=by
    intro t ht h
    rw[ht,Option.bind_some]
    cases t with
    |true=>exact QbK n _ _ _ h
    |false=>exact QbK n _ _ _ h
   have h:=QjI h
   unfold QCz at h
   split at h
   ·exact go _ h.1 h.2
   ·obtain⟨t,ht,h⟩:=Qan h
    exact go _ ht h
  ·exact QbK n _ _ _ h
  ·exact QbK n _ _ _ h
  ·exact QbK n _ _ _ h
  ·rename_i id k
   simp only
   split at h
   ·rename_i k' hk
    rw[hk]
    exact QbK n _ _ _ h
   ·exact False.elim h
  ·rename_i id ops draw k
   simp only
   unfold QCn at h
   unfold QA8
   split at h
   ·rename_i kp hk
    rw[hk]
    simp only[h.1,cond_true]
    exact h.2
   ·rename_i hk
    rw[hk]
    simp only
    cases hb:(!draw||QgS cx f id ops)with
    |false=>rw[hb]at h;exact False.elim h
    |true=>
     rw[hb]at h
     simp only[cond_true]at h⊢
     obtain⟨fn,hfn,h⟩:=Qan h
     rw[hfn,Option.bind_some]
     obtain⟨s,hs,k'⟩:=Qke _ _ _ _ h
     rw[k']
     exact QbK n _ _ _ hs
  ·exact False.elim h
def QjP (cx:Cx)(orc:Orc)(scr:Scr)(f:FuncId)(todo:List Item)(xs:List LV)(h:Heap)(r:LV×Heap):Prop:=
 match cutAt cx f todo with
 |some kp=>evW cx orc scr f r fuel true todo (Ql8 kp xs h)
 |none=>evW cx orc scr f r fuel false todo (QgV xs h)
theorem Qni {scr:Scr}{todo:List Item}{xs:List LV}{h:Heap}{r:LV×Heap}(hw:QjP cx orc scr f todo xs h r):QeA cx orc f todo xs h=some r:=by
 rw[←QhM]
 unfold QjP at hw
 unfold QjQ
 cases hc:cutAt cx f todo with
 |some kp=>rw[hc]at hw;exact QbK _ _ _ _ hw
 |none=>rw[hc]at hw;exact QbK _ _ _ _ hw
theorem Qos {scr:Scr}{todo:List Item}{xs:List LV}{h:Heap}{r:LV×Heap}(hw:QjP cx (blk cx) scr f todo xs h r):blk cx f todo xs h=some r:=Qxj (Qni hw)
theorem Qdb {scr:Scr}{todo:List Item}{xs:List LV}{h:Heap}{r:LV×Heap}{p:Prop}(hp:p)(e:QjP cx (blk cx) scr f todo xs h r=p):blk cx f todo xs h=some r:=Qos (scr:=scr) (Eq.mpr e hp)
theorem tT:some true=some true:=rfl
theorem t1:true=true:=rfl
theorem t0:false=false:=rfl
theorem tN:(none:Option Nat)=none:=rfl
theorem tU:LV.ud=LV.ud:=rfl
theorem tR (r:LV×Heap):some r=some r:=rfl
theorem tF:some false=some false:=rfl
theorem tA {p q:Prop}(hp:p)(hq:q):p∧q:=⟨hp,hq⟩
theorem tS {A:Type}{x y:A}(h:x=y):some x=some y:=congrArg some h
def QrE (id:Nat):Code→List Item→Option (List Item)
 |.region i ops d,k=>bif Nat.beq i id then some (.code (.region i ops d)::k)else none
 |.seq a b,k=>(QrE id a (.code b::k)).orElse fun _=>QrE id b k
 |.cond _ a b,k=>(QrE id a k).orElse fun _=>QrE id b k
 |.block j a,k=>QrE id a (.inBlock j::k)
 |.loop a,k=>QrE id a (.inLoop a::k)
 |_,_=>none
def at_ (P:Program)(f:FuncId)(id:Nat):List Item:=
 match P.funcs[f]? with
 |some fn=>(match fn.body with|some c=>(QrE id c []).getD []|none=>[])
 |none=>[]
def QaE (P:Program)(f:FuncId):List Item:=
 match P.funcs[f]? with
 |some fn=>(match fn.body with|some c=>[.code c]|none=>[])
 |none=>[]
theorem Qaa {xs:List LV}{h:Heap}{y:LV×Heap}(he:cx.ext f=none)(hb:(QaE cx.P f).isEmpty=false)(hc:(cutAt cx f (QaE cx.P f)).isNone=true)(hy:blk cx f (QaE cx.P f) xs h=some y)(hh:cx.exh f=none:=by rfl)(hr:cx.exr f=none:=by rfl)(hxn:cx.exn f=none:=by rfl):Qab cx (blk cx) f xs h=some y:=by
 unfold Qab
 rw[he]
 simp only
 rw[hh]
 simp only
 rw[hr]
 simp only
 rw[hxn]
 unfold QaE at hb hc hy
 cases hf:cx.P.funcs[f]? with
 |none=>rw[hf]at hb;simp at hb
 |some fn=>
  rw[hf]at hb hc hy
  simp only at hb hc hy
  cases hbd:fn.body with
  |none=>rw[hbd]at hb;simp at hb
  |some c=>
   rw[hbd]at hc hy
   simp only[Option.bind_some,hbd]
   rw[hc,cond_true]
   exact hy
theorem QaX {e:List LV→Heap→Option (LV×Heap)}{xs:List LV}{h:Heap}{y:LV×Heap}(he:cx.ext f=none)(hh:cx.exh f=some e)(hv:xs.all LV.isV=true)(hx:e xs h=some y):Qab cx orc f xs h=some y:=by
 unfold Qab
 rw[he]
 simp only
 rw[hh]
 simp only[hv,hx,cond_true]
theorem QgJ {e:List LV→Nat→Option (LV×List (List LV))}{xs:List LV}{h:Heap}{y:LV}{l:List (List LV)}(he:cx.ext f=none)(hh:cx.exh f=none)(hr:cx.exr f=none)(hn:cx.exn f=some e)(hv:xs.all LV.isV=true)(hx:e xs h.bx.length=some (y,l)):Qab cx orc f xs h=some (y,{h with bx:=h.bx++l}):=by
 unfold Qab
 rw[he]
 simp only
 rw[hh]
 simp only
 rw[hr]
 simp only
 rw[hn]
 simp only[hv,Qo1,hx,cond_true,Option.bind_some]
theorem QlM {e:List LV→Heap→Option LV}{xs:List LV}{h:Heap}{y:LV}(he:cx.ext f=none)(hh:cx.exh f=none)(hr:cx.exr f=some e)(hv:xs.all LV.isV=true)(hx:e xs h=some y):Qab cx orc f xs h=some (y,h):=by
 unfold Qab
 rw[he]
 simp only
 rw[hh]
 simp only
 rw[hr]
 simp only[hv,hx,cond_true,Option.bind_some]
theorem Qcc {e:List LV→Option LV}{xs:List LV}{h:Heap}{x:LV}(he:cx.ext f=some e)(hv:xs.all LV.isV=true)(hx:e xs=some x):Qab cx orc f xs h=some (x,h):=by
 unfold Qab
 rw[he]
 simp only[hv,hx,cond_true,Option.bind_some]
end Go.Proofs.Am
