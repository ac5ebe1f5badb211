/-
  The machine's meaning: what its steps come to.
-/
import Derived.Test.YtoblgjmllmomhaaGreatDoorAmSound
namespace Go.Proofs.Am
open Go
variable {R:Type} {cx:Cx} {orc:Orc} {f rid i:Nat} {o:Oper} {st:St} {K:LV→St→Option R} {r:R}
abbrev Qry:=FuncId×List Item×List LV×Heap
def Up (q:Qry)(orc orc':Orc):Prop:=∀y,orc q.1 q.2.1 q.2.2.1 q.2.2.2=some y→orc' q.1 q.2.1 q.2.2.1 q.2.2.2=some y
theorem Up.refl (q:Qry)(orc:Orc):Up q orc orc:=fun _ h=>h
theorem Qc7 {g:FuncId}{as:List LV}{h:Heap}{y:LV×Heap}(hc:Qab cx orc g as h=some y):∃q,∀orc',Up q orc orc'→Qab cx orc' g as h=some y:=by
 unfold Qab at hc
 cases he:cx.ext g with
 |some e=>rw[he]at hc;exact⟨(0,[],[],h),fun orc' _=>by unfold Qab;rw[he];exact hc⟩
 |none=>
  rw[he]at hc
  simp only at hc
  cases hx:cx.exh g with
  |some e=>rw[hx]at hc;exact⟨(0,[],[],h),fun orc' _=>by unfold Qab;rw[he,hx];exact hc⟩
  |none=>
  rw[hx]at hc
  simp only at hc
  cases hr:cx.exr g with
  |some e=>rw[hr]at hc;exact⟨(0,[],[],h),fun orc' _=>by unfold Qab;rw[he,hx,hr];exact hc⟩
  |none=>
  rw[hr]at hc
  simp only at hc
  cases hn:cx.exn g with
  |some e=>rw[hn]at hc;exact⟨(0,[],[],h),fun orc' _=>by unfold Qab;rw[he,hx,hr,hn];exact hc⟩
  |none=>
  rw[hn]at hc
  simp only[Option.bind_eq_some_iff,Qaq]at hc
  obtain⟨fn,hfn,c,hb,hcut,ho⟩:=hc
  exact⟨(g,[.code c],as,h),fun orc' hu=>by unfold Qab;rw[he,hx,hr,hn];simp only[hfn,hb,Option.bind_some,hcut,cond_true];exact hu y ho⟩
theorem QjH {x:Option (LV×Heap)}{y:AV×Heap}(h:toA x=some y):∃z,x=some z:=by
 cases x with
 |none=>cases h
 |some z=>exact⟨z,rfl⟩
theorem QjG {x:Option (LV×Heap)}{y:List AV×Heap}(h:toT x=some y):∃z,x=some z:=by
 cases x with
 |none=>cases h
 |some z=>exact⟨z,rfl⟩
theorem QgH {fv:AV}{as:List LV}{h:Heap}{y:LV×Heap}(hc:QaK cx orc fv as h=some y):∃q,∀orc',Up q orc orc'→QaK cx orc' fv as h=some y:=by
 cases fv<;>simp only[QaK,reduceCtorEq]at hc
 exact Qc7 hc
theorem Qjf {A:Type}{W:A→LV}{pu:Bool}{xs:List LV}{call:Orc→Heap→Option (A×Heap)}(hf:∀h y,call orc h=some y→∃q,∀orc',Up q orc orc'→call orc' h=some y)
 (h:Qap W pu xs (call orc) st K=some r):∃q x s1,∀orc',Up q orc orc'→∀K':LV→St→Option R,Qap W pu xs (call orc') st K'=K' x s1:=by
 unfold Qap at h
 cases pu with
 |true=>
  simp only[cond_true,Qaq,Option.bind_eq_some_iff]at h
  obtain⟨hn,y,hy,hw,_⟩:=h
  obtain⟨q,hq⟩:=hf _ _ hy
  exact⟨q,W y.1,st,fun orc' hu K'=>by simp only[Qap,cond_true,hn,hq orc' hu,Option.bind_some,hw]⟩
 |false=>
  simp only[cond_false,Option.bind_eq_some_iff]at h
  obtain⟨y,hy,_⟩:=h
  obtain⟨q,hq⟩:=hf _ _ hy
  exact⟨q,W y.1,{st with h:=y.2},fun orc' hu K'=>by simp only[Qap,cond_false,hq orc' hu,Option.bind_some]⟩
theorem Qc3 {A:Type}{W:A→LV}{pu tk:Bool}{xs:List Operand}{call:Orc→List LV→Heap→Option (A×Heap)}(hf:∀ys h y,call orc ys h=some y→∃q,∀orc',Up q orc orc'→call orc' ys h=some y)
 (h:(args tk st xs fun ys st=>Qap W pu ys (call orc ys) st K)=some r):
 ∃q x s1,∀orc',Up q orc orc'→∀K':LV→St→Option R,(args tk st xs fun ys st=>Qap W pu ys (call orc' ys) st K')=K' x s1:=by
 obtain⟨ys,hy⟩:=Qeu xs st _ h
 rw[hy st (fun _ _=>rfl)]at h
 obtain⟨q,x,s1,k⟩:=Qjf (call:=fun orc=>call orc ys) (hf ys) h
 exact⟨q,x,s1,fun orc' hu K'=>by rw[hy st (fun _ _=>rfl)];exact k orc' hu K'⟩
def Qh2:Op→Bool
 |.call c=>match c.callee with|.builtin _=>true|_=>false
 |_=>true
theorem QrH (orc':Orc)(h:Qh2 o.op=true):opO cx orc f rid i o st K=opO cx orc' f rid i o st K:=by
 unfold opO
 cases ho:o.op with
 |call c=>
  rw[ho]at h
  obtain⟨callee,ags,tys⟩:=c
  cases callee<;>first|rfl|(simp only[Qh2]at h;cases h)
 |makeFunc c first caps=>cases c<;>rfl
 |_=>rfl
def QhV (hp:Bool)(a:Operand)(K:LV→St→Option R)(n:Nat)(st:St)(g:Nat→LV)(l:List LV):Option R:=
 bif hp then
  match st.rd a with
  |.v p=>(stP st.h p l).bind fun h=>K .ud {st with h}
  |_=>none
 else
  match st.rd a with
  |.lp b off=>bif Nat.ble (off+n) (st.z b)then K .ud {st with m:=stN st.m b off g n}else none
  |_=>none
def Qa9 (hp:Bool)(a:Operand)(n:Nat)(K:LV→St→Option R)(st:St)(y:LV):Option R:=
 match y with
 |.ag ls=>bif Nat.beq ls.length n&&ls.all LV.isC then QhV hp a K n st (fun j=>ls.getD j .un) ls else none
 |.v b=>(b.toC n).bind fun cs=>QhV hp a K n st (fun j=>.v (gd cs j)) (cs.map .v)
 |.ow m xs=>bif Nat.beq n 1 then QhV hp a K 1 st (fun _=>.ow m xs) [.ow m xs]else none
 |_=>none
theorem Qfi {hp:Bool}{a:Operand}{n:Nat}{g:Nat→LV}{l:List LV}(h:QhV hp a K n st g l=some r):∃y s1,∀K':LV→St→Option R,QhV hp a K' n st g l=K' y s1:=by
 unfold QhV at h
 cases hp with
 |true=>
  simp only[cond_true]at h
  cases hx:st.rd a<;>rw[hx]at h<;>simp only[reduceCtorEq,Option.bind_eq_some_iff]at h
  obtain⟨h1,hh,_⟩:=h
  exact⟨.ud,{st with h:=h1},fun K'=>by simp only[QhV,cond_true,hx,hh,Option.bind_some]⟩
 |false=>
  simp only[cond_false]at h
  cases hx:st.rd a<;>rw[hx]at h<;>simp only[reduceCtorEq,Qaq]at h
  rename_i b off
  exact⟨.ud,{st with m:=stN st.m b off g n},fun K'=>by simp only[QhV,cond_false,hx,h.1,cond_true]⟩
theorem Qjh {hp:Bool}{a:Operand}{n:Nat}{x:LV}(h:Qa9 hp a n K st x=some r):∃y s1,∀K':LV→St→Option R,Qa9 hp a n K' st x=K' y s1:=by
 cases x<;>simp only[Qa9,reduceCtorEq,Qaq,Option.bind_eq_some_iff]at h
 ·obtain⟨cs,hcs,h⟩:=h
  obtain⟨y,s1,k⟩:=Qfi h
  exact⟨y,s1,fun K'=>by simp only[Qa9,hcs,Option.bind_some,k]⟩
 ·obtain⟨h1,h⟩:=h
  obtain⟨y,s1,k⟩:=Qfi h
  exact⟨y,s1,fun K'=>by simp only[Qa9,h1,cond_true,k]⟩
 ·obtain⟨h1,h⟩:=h
  obtain⟨y,s1,k⟩:=Qfi h
  exact⟨y,s1,fun K'=>by simp only[Qa9,h1,cond_true,k]⟩
theorem Qbr {P:Program}{hp tk:Bool}{t:TypeId}{a x:Operand}{K:LV→St→Option R}:Qa8 P hp tk t a x st K=(tyz P t).bind fun z=>
 bif !Nat.blt 0 z.1 then none else
 bif tk then
  match x with
  |.tmp j=>Qa9 hp a z.1 K {st with t:=upd st.t j .un} (st.t j)
  |_=>none
 else
  match x with
  |.const c=>Qa9 hp a z.1 K st (lvC P t c)
  |x=>Qa9 hp a z.1 K st (st.rd x):=rfl
theorem QjN {P:Program}{hp tk:Bool}{t:TypeId}{a x:Operand}(h:Qa8 P hp tk t a x st K=some r):∃y s1,∀K':LV→St→Option R,Qa8 P hp tk t a x st K'=K' y s1:=by
 rw[Qbr]at h
 simp only[Option.bind_eq_some_iff]at h
 obtain⟨z,hz,h⟩:=h
 cases hb:!Nat.blt 0 z.1 with
 |true=>rw[hb]at h;cases h
 |false=>
  rw[hb,cond_false]at h
  have fin:∀(st2:St) (x2:LV),Qa9 hp a z.1 K st2 x2=some r→(∀K':LV→St→Option R,Qa8 P hp tk t a x st K'=Qa9 hp a z.1 K' st2 x2)→∃y s1,∀K':LV→St→Option R,Qa8 P hp tk t a x st K'=K' y s1:=by
   intro st2 x2 h2 e
   obtain⟨y,s1,k⟩:=Qjh h2
   exact⟨y,s1,fun K'=>(e K').trans (k K')⟩
  cases tk with
  |true=>
   simp only[cond_true]at h
   cases x<;>simp only[reduceCtorEq]at h
   exact fin _ _ h (fun K'=>by rw[Qbr,hz,Option.bind_some,hb];rfl)
  |false=>
   simp only[cond_false]at h
   cases x<;>exact fin _ _ h (fun K'=>by rw[Qbr,hz,Option.bind_some,hb];rfl)
theorem Qg5 {xs:List Operand}{k:List AV→Option R}(h:rvs st xs k=some r):∃as,k as=some r∧∀k':List AV→Option R,rvs st xs k'=k' as:=by
 obtain⟨as,h1,h2⟩:=QhR xs k h
 exact⟨as,h1,fun k'=>h2 st (fun _ _=>rfl) k'⟩
theorem QnG (hg:QaG o.op=none)(hn:Qh2 o.op=true)(h:opO cx orc f rid i o st K=some r):∃x s1,∀K':LV→St→Option R,opO cx orc f rid i o st K'=K' x s1:=by
 cases hf:Qdn cx f rid i o.op with
 |some p=>
  obtain⟨x,s1,_,k⟩:=Qkh (R:=R) (orc:=orc) hg hf st K r h
  exact⟨x,_,fun K'=>k st (Agree.refl p st) K'⟩
 |none=>
  unfold opO at h⊢
  cases ho:o.op<;>rw[ho]at h hf hn<;>try (simp only[Qdn]at hf;cases hf;done)
  case move x=>
   cases har:cx.arr f rid i with
   |false=>simp only[Qdn,har,cond_false]at hf;cases hf
   |true=>
   simp only[har,cond_true]at h
   cases x<;>try (cases h;done)
   rename_i j
   simp only at h
   cases hx:st.t j<;>rw[hx]at h<;>simp only[reduceCtorEq,Option.bind_eq_some_iff]at h
   obtain⟨q,hq,_⟩:=h
   exact⟨.v q.1,{st with t:=upd st.t j .un,h:=q.2},fun K'=>by simp only[cond_true,hx,hq,Option.bind_some]⟩
  case assign x=>
   cases har:cx.arr f rid i with
   |false=>simp only[Qdn,har,cond_false]at hf;cases hf
   |true=>
   simp only[har,cond_true]at h
   cases x<;>try (cases h;done)
   rename_i j
   simp only at h
   cases hx:st.t j<;>rw[hx]at h<;>simp only[reduceCtorEq,Option.bind_eq_some_iff]at h
   obtain⟨q,hq,_⟩:=h
   exact⟨.v q.1,{st with t:=upd st.t j .un,h:=q.2},fun K'=>by simp only[cond_true,hx,hq,Option.bind_some]⟩
  case box e x=>
   simp only[Option.bind_eq_some_iff]at h
   obtain⟨z,hz,a,ha,cs,hcs,h⟩:=h
   cases hp:cx.heap f rid i with
   |true=>exact⟨_,_,fun K'=>by simp only[hz,ha,hcs,Option.bind_some,cond_true];rfl⟩
   |false=>exact⟨_,_,fun K'=>by simp only[hz,ha,hcs,Option.bind_some,cond_false];rfl⟩
  case load t x=>
   have hf:(bif cx.take f rid i then(bif cx.heap f rid i then some (⟨tmO x,[],false,false,true,true,false,false,false,false,false⟩:Fp)else some (⟨tmO x,[],true,true,false,false,false,true,false,false,false⟩:Fp))else some (⟨tmO x,[],false,false,false,false,!cx.heap f rid i,false,false,cx.heap f rid i,false⟩:Fp))=none:=by
    rw[ho]at hg
    cases x<;>first|exact hf|(simp only[QaG]at hg;cases hg)
   cases ht:cx.take f rid i<;>rw[ht]at hf
   ·cases hf
   ·cases hp:cx.heap f rid i<;>rw[hp]at hf<;>cases hf
  case store t a x=>exact QjN h
  case convert s d x=>
   cases hp:cx.heap f rid i with
   |false=>simp only[Qdn,hp,cond_false]at hf;cases hf
   |true=>
   simp only[hp,cond_true,Option.bind_eq_some_iff]at h
   obtain⟨a,ha,c,hc,_⟩:=h
   exact⟨c,st,fun K'=>by simp only[cond_true,ha,hc,Option.bind_some]⟩
  case makeFunc c first caps=>
   cases c<;>try (cases h;done)
   rename_i g
   obtain⟨as,h1,h2⟩:=Qg5 h
   obtain⟨bs,h3,h4⟩:=Qg5 h1
   exact⟨.v (.fn g as bs),st,fun K'=>(h2 _).trans (h4 _)⟩
  case makeSlice t l c=>
   simp only[Option.bind_eq_some_iff,Qaq]at h
   obtain⟨e,he,ti,hti,z,hz,zc,hzc,a,ha,b,hb,n,hn,m,hm,hc,_⟩:=h
   cases hp:cx.heap f rid i with
   |true=>exact⟨_,_,fun K'=>by simp only[he,hti,hz,hzc,ha,hb,hn,hm,hc,Option.bind_some,cond_true];rfl⟩
   |false=>exact⟨_,_,fun K'=>by simp only[he,hti,hz,hzc,ha,hb,hn,hm,hc,Option.bind_some,cond_true,cond_false];rfl⟩
  case call c=>
   obtain⟨callee,ags,tys⟩:=c
   cases callee<;>try (cases hn;done)
   rename_i b
   simp only at h⊢
   generalize ags.toList=xs at h⊢
   generalize tys.toList=ts at h⊢
   unfold Qat at h⊢
   split at h
   ·simp only[Option.bind_eq_some_iff]at h
    obtain⟨a,ha,n,hn,_⟩:=h
    exact⟨_,_,fun K'=>by simp only[ha,hn,Option.bind_some];rfl⟩
   ·generalize (ts.head?.bind (QaA cx.P))=et at h⊢
    simp only[Option.bind_eq_some_iff,Qaq]at h
    obtain⟨e,he,ti,hti,zc,hzc,a,ha,ys,hys,hc,h⟩:=h
    cases hph:cx.heap f rid i with
    |true=>
     rw[hph]at h
     simp only[cond_true,Option.bind_eq_some_iff]at h
     obtain⟨p,hp,q,hq,_⟩:=h
     exact⟨_,_,fun K'=>by simp only[he,hti,hzc,ha,hys,hc,hp,hq,Option.bind_some,cond_true];rfl⟩
    |false=>
    rw[hph]at h
    simp only[cond_false]at h⊢
    split at h
    ·simp only[Option.bind_eq_some_iff]at h
     obtain⟨q,hq,_⟩:=h
     exact⟨_,_,fun K'=>by simp only[he,hti,hzc,ha,hys,hc,hq,Option.bind_some,cond_true];rfl⟩
    ·simp only[Option.bind_eq_some_iff]at h
     obtain⟨q,hq,_⟩:=h
     exact⟨_,_,fun K'=>by simp only[he,hti,hzc,ha,hys,hc,hq,Option.bind_some,cond_true];rfl⟩
    ·cases h
   ·generalize (ts.head?.bind (QaA cx.P))=et at h⊢
    simp only[Option.bind_eq_some_iff,Qaq]at h
    obtain⟨e,he,ti,hti,hc,d,hd,s,hs,r,hr,_⟩:=h
    exact⟨_,_,fun K'=>by simp only[he,hti,hc,hd,hs,hr,Option.bind_some,cond_true];rfl⟩
   ·simp only[Option.bind_eq_some_iff]at h
    obtain⟨a,ha,b,hb,n,hn,_⟩:=h
    exact⟨_,_,fun K'=>by simp only[ha,hb,hn,Option.bind_some];rfl⟩
   ·simp only[Option.bind_eq_some_iff]at h
    obtain⟨a,ha,b,hb,n,hn,_⟩:=h
    exact⟨_,_,fun K'=>by simp only[ha,hb,hn,Option.bind_some];rfl⟩
   ·simp only[Option.bind_eq_some_iff]at h
    obtain⟨a,ha,b,hb,c,hc,n,hn,m,hm,_⟩:=h
    exact⟨_,_,fun K'=>by simp only[ha,hb,hc,hn,hm,Option.bind_some];rfl⟩
   ·obtain⟨as,h1,h2⟩:=Qg5 h
    simp only[Option.bind_eq_some_iff]at h1
    obtain⟨u,hu,_⟩:=h1
    exact⟨.v u,st,fun K'=>(h2 _).trans (by rw[hu];rfl)⟩
   ·cases h
  all_goals (cases h)
theorem QrI (hg:QaG o.op=none)(h:opO cx orc f rid i o st K=some r):∃q x s1,∀orc',Up q orc orc'→∀K':LV→St→Option R,opO cx orc' f rid i o st K'=K' x s1:=by
 cases hn:Qh2 o.op with
 |true=>
  obtain⟨x,s1,k⟩:=QnG hg hn h
  exact⟨(0,[],[],st.h),x,s1,fun orc' _ K'=>by rw[QrH orc hn];exact k K'⟩
 |false=>
  unfold opO at h⊢
  cases ho:o.op<;>rw[ho]at h hn<;>try (cases hn;done)
  rename_i c
  obtain⟨callee,ags,tys⟩:=c
  cases callee<;>try (first|(cases h;done)|(cases hn;done))
  ·rename_i v
   cases v<;>try (cases h;done)
   ·rename_i j
    simp only[Option.bind_eq_some_iff]at h
    obtain⟨fv,hfv,h⟩:=h
    cases ht:Qey cx.P o.type with
    |true=>
     simp only[ht,cond_true]at h
     obtain⟨q,x,s1,k⟩:=Qc3 (call:=fun orc ys=>Qc4 cx orc fv ys) (fun ys hh y hy=>by
      obtain⟨z,hz⟩:=QjG hy
      obtain⟨q,hq⟩:=QgH hz
      exact⟨q,fun orc' hu=>by unfold Qc4 at hy⊢;rw[hz]at hy;rw[hq orc' hu];exact hy⟩) h
     exact⟨q,x,s1,fun orc' hu K'=>by simp only[hfv,Option.bind_some,cond_true];exact k orc' hu K'⟩
    |false=>
     simp only[ht,cond_false]at h
     obtain⟨q,x,s1,k⟩:=Qc3 (call:=fun orc ys=>Qc5 cx orc fv ys) (fun ys hh y hy=>by
      obtain⟨z,hz⟩:=QjH hy
      obtain⟨q,hq⟩:=QgH hz
      exact⟨q,fun orc' hu=>by unfold Qc5 at hy⊢;rw[hz]at hy;rw[hq orc' hu];exact hy⟩) h
     exact⟨q,x,s1,fun orc' hu K'=>by simp only[hfv,Option.bind_some,cond_false];exact k orc' hu K'⟩
   ·rename_i g
    simp only at h⊢
    generalize mode cx g=md at h⊢
    match md with
    |0=>
     exact Qc3 (call:=fun orc ys=>QeL cx orc g ys) (fun ys hh y hy=>by
      obtain⟨z,hz⟩:=QjH hy
      obtain⟨q,hq⟩:=Qc7 hz
      exact⟨q,fun orc' hu=>by unfold QeL at hy⊢;rw[hz]at hy;rw[hq orc' hu];exact hy⟩) h
    |1=>
     exact Qc3 (call:=fun orc ys=>callT cx orc g ys) (fun ys hh y hy=>by
      obtain⟨z,hz⟩:=QjG hy
      obtain⟨q,hq⟩:=Qc7 hz
      exact⟨q,fun orc' hu=>by unfold callT at hy⊢;rw[hz]at hy;rw[hq orc' hu];exact hy⟩) h
    |n+2=>exact Qc3 (call:=fun orc ys=>Qab cx orc g ys) (fun ys hh y hy=>Qc7 hy) h
theorem QkS {cs:List AV}(h:Qby cx o.op cs st K=some r):∃x s1,∀K':LV→St→Option R,Qby cx o.op cs st K'=K' x s1:=by
 cases ho:o.op<;>rw[ho]at h<;>simp only[Qby,reduceCtorEq]at h
 case load t x=>
  simp only[Option.bind_eq_some_iff]at h
  obtain⟨z,hz,u,hu,_⟩:=h
  exact⟨.v u,st,fun K'=>by simp only[Qby,hz,hu,Option.bind_some]⟩
 case fieldAddr s x j=>
  simp only[Option.bind_eq_some_iff,Qaq]at h
  obtain⟨fs,hfs,fl,hfl,z,hz,hb,_⟩:=h
  exact⟨.v (.snap (cs.drop fl.offset)),st,fun K'=>by simp only[Qby,hfs,hfl,hz,hb,cond_true,Option.bind_some]⟩
 case indexAddr t x ix=>
  simp only[Option.bind_eq_some_iff,Qaq]at h
  obtain⟨e,he,z,hz,b,hb,n,hn,hc,_⟩:=h
  exact⟨.v (.snap (cs.drop (n.toNat*z.1))),st,fun K'=>by simp only[Qby,he,hz,hb,hn,hc,cond_true,Option.bind_some]⟩
theorem QrK (h:opK cx orc f rid i o st K=some r):∃q x s1,∀orc',Up q orc orc'→∀K':LV→St→Option R,opK cx orc' f rid i o st K'=K' x s1:=by
 unfold opK at h⊢
 cases hg:QaG o.op with
 |none=>rw[hg]at h;exact QrI hg h
 |some gi=>
  rw[hg]at h
  simp only[Option.bind_eq_some_iff]at h
  obtain⟨cs,hcs,h⟩:=h
  obtain⟨x,s1,k⟩:=QkS h
  exact⟨(0,[],[],st.h),x,s1,fun orc' _ K'=>by simp only[hcs,Option.bind_some];exact k K'⟩
theorem QrN {nt:Nat}{ops:Array Oper}{K:St→Option R}(h:op1 cx orc f rid nt ops i o st K=some r):∃q s1,∀orc',Up q orc orc'→∀K':St→Option R,op1 cx orc' f rid nt ops i o st K'=K' s1:=by
 unfold op1 at h
 cases hd:QeJ nt o.dst with
 |false=>rw[hd]at h;cases h
 |true=>
 rw[hd]at h
 simp only[Bool.not_true,cond_false]at h
 have exec:∀{st2:St},(opK cx orc f rid i o st2 fun x st=>K (st.put o.dst x))=some r→∃q s1,∀orc',Up q orc orc'→∀K':St→Option R,(opK cx orc' f rid i o st2 fun x st=>K' (st.put o.dst x))=K' s1:=by
  intro st2 h
  obtain⟨q,x,s1,k⟩:=QrK h
  exact⟨q,s1.put o.dst x,fun orc' hu K'=>k orc' hu _⟩
 cases hg:o.guard with
 |none=>
  rw[hg]at h
  obtain⟨q,s1,k⟩:=exec h
  exact⟨q,s1,fun orc' hu K'=>by unfold op1;rw[hd,hg];exact k orc' hu K'⟩
 |some jw=>
  obtain⟨j,want⟩:=jw
  rw[hg]at h
  simp only at h
  cases hdd:(ops[j]?).bind (·.dst)with
  |none=>rw[hdd]at h;cases h
  |some d=>
  rw[hdd]at h
  simp only at h
  have un:∀(orc':Orc) (K':St→Option R),op1 cx orc' f rid nt ops i o st K'=(match st.t d with
   |.ud=>K' (st.put o.dst .ud)
   |x=>x.toB.bind fun b=>
    bif b then
     bif want then opK cx orc' f rid i o {st with t:=upd st.t d (.v (.bool true))} fun x st=>K' (st.put o.dst x)
     else K' (St.put {st with t:=upd st.t d (.v (.bool true))} o.dst .ud)
    else
     bif want then K' (St.put {st with t:=upd st.t d (.v (.bool false))} o.dst .ud)
     else opK cx orc' f rid i o {st with t:=upd st.t d (.v (.bool false))} fun x st=>K' (st.put o.dst x)):=by
   intro orc' K'
   unfold op1
   rw[hd,hg]
   simp only[Bool.not_true,cond_false,hdd]
   cases st.t d<;>rfl
  cases hx:st.t d with
  |ud=>exact⟨(0,[],[],st.h),st.put o.dst .ud,fun orc' _ K'=>by rw[un,hx]⟩
  |v y=>
   rw[hx]at h
   simp only[Option.bind_eq_some_iff]at h
   obtain⟨b,hb,h⟩:=h
   cases b<;>cases want<;>simp only[cond_true,cond_false]at h
   ·obtain⟨q,s1,k⟩:=exec h
    exact⟨q,s1,fun orc' hu K'=>by rw[un,hx];simp only[hb,Option.bind_some,cond_false];exact k orc' hu K'⟩
   ·exact⟨(0,[],[],st.h),_,fun orc' _ K'=>by rw[un,hx];simp only[hb,Option.bind_some,cond_false,cond_true];rfl⟩
   ·exact⟨(0,[],[],st.h),_,fun orc' _ K'=>by rw[un,hx];simp only[hb,Option.bind_some,cond_false,cond_true];rfl⟩
   ·obtain⟨q,s1,k⟩:=exec h
    exact⟨q,s1,fun orc' hu K'=>by rw[un,hx];simp only[hb,Option.bind_some,cond_true];exact k orc' hu K'⟩
  |_=>rw[hx]at h;simp only[LV.toB,Option.bind_none,reduceCtorEq]at h
def Ups (L:List Qry)(orc orc':Orc):Prop:=∀q,q∈L→Up q orc orc'
theorem Ups.left {L M:List Qry}{orc orc':Orc}(h:Ups (L++M) orc orc'):Ups L orc orc':=fun q hq=>h q (by simp[hq])
theorem Ups.right {L M:List Qry}{orc orc':Orc}(h:Ups (L++M) orc orc'):Ups M orc orc':=fun q hq=>h q (by simp[hq])
theorem QhX {nt:Nat}{ops:Array Oper}{K:St→Option R}:∀(os:List Oper) (i:Nat) (st:St),Qkf cx orc f rid nt ops i os st K=some r→
 ∃L s1,K s1=some r∧∀orc',Ups L orc orc'→∀K':St→Option R,Qkf cx orc' f rid nt ops i os st K'=K' s1
 |[],i,st,h=>⟨[],st,h,fun _ _ _=>rfl⟩
 |o::os,i,st,h=>by
  simp only[Qkf]at h
  obtain⟨q,s1,k⟩:=QrN h
  rw[k orc (Up.refl q orc)]at h
  obtain⟨L,s2,h2,k2⟩:=QhX os (i+1) s1 h
  exact⟨q::L,s2,h2,fun orc' hu K'=>by simp only[Qkf];rw[k orc' (hu q (by simp))];exact k2 orc' (fun q hq=>hu q (by simp[hq])) K'⟩
theorem QfC {y:LV×Heap}:∀(n:Nat) (first:Bool) (todo:List Item) (st:St),evS cx orc f n first todo st=some y→∃L,∀orc',Ups L orc orc'→evS cx orc' f n first todo st=some y
 |0,_,_,_,h=>by cases h
 |n+1,first,todo,st,h=>by
  have nil:∀{x:Option (LV×Heap)},x=some y→(∀orc',evS cx orc' f (n+1) first todo st=x)→∃L,∀orc',Ups L orc orc'→evS cx orc' f (n+1) first todo st=some y:=
   fun h e=>⟨[],fun orc' _=>(e orc').trans h⟩
  have go:∀{first':Bool} {todo':List Item},evS cx orc f n first' todo' st=some y→(∀orc',evS cx orc' f (n+1) first todo st=evS cx orc' f n first' todo' st)→
   ∃L,∀orc',Ups L orc orc'→evS cx orc' f (n+1) first todo st=some y:=by
   intro first' todo' h e
   obtain⟨L,k⟩:=QfC n first' todo' st h
   exact⟨L,fun orc' hu=>(e orc').trans (k orc' hu)⟩
  match todo,h with
  |[],h=>exact nil h (fun _=>rfl)
  |.inBlock _::k,h=>exact go h (fun _=>rfl)
  |.inLoop body::k,h=>exact go h (fun _=>rfl)
  |.code c::k,h=>
   cases c with
   |ret=>exact nil h (fun _=>rfl)
   |skip=>exact go h (fun _=>rfl)
   |label l=>exact go h (fun _=>rfl)
   |seq c d=>exact go h (fun _=>rfl)
   |cond c d e=>
    simp only[evS,Option.bind_eq_some_iff]at h
    obtain⟨b,hb,h⟩:=h
    cases b with
    |true=>exact go h (fun _=>by simp only[evS,hb,Option.bind_some,cond_true])
    |false=>exact go h (fun _=>by simp only[evS,hb,Option.bind_some,cond_false])
   |block id body=>exact go h (fun _=>rfl)
   |loop body=>exact go h (fun _=>rfl)
   |exit id=>
    simp only[evS]at h
    cases he:exitTo id k with
    |none=>rw[he]at h;cases h
    |some k'=>rw[he]at h;exact go h (fun _=>by simp only[evS,he])
   |region id ops draw=>
    simp only[evS]at h
    cases hc:(bif first then none else cx.cut f id)with
    |some kp=>
     rw[hc]at h
     simp only[Qaq]at h
     obtain⟨hk,h⟩:=h
     exact⟨[(f,.code (.region id ops draw)::k,kept kp st,st.h)],fun orc' hu=>by simp only[evS,hc,hk,cond_true];exact hu (f,.code (.region id ops draw)::k,kept kp st,st.h) (by simp) y h⟩
    |none=>
     rw[hc]at h
     simp only[Qaq,Option.bind_eq_some_iff]at h
     obtain⟨hk,fn,hfn,h⟩:=h
     obtain⟨L,s1,h1,k1⟩:=QhX _ _ _ h
     obtain⟨M,k2⟩:=QfC n false k s1 h1
     exact⟨L++M,fun orc' hu=>by simp only[evS,hc,hk,hfn,cond_true,Option.bind_some];rw[k1 orc' hu.left];exact k2 orc' hu.right⟩
   |_=>cases h
  |.inRegion _ _::_,h=>cases h
  |.inScope _::_,h=>cases h
theorem Qf3 {todo:List Item}{xs:List LV}{h:Heap}{y:LV×Heap}(hh:QeA cx orc f todo xs h=some y):∃L,∀orc',Ups L orc orc'→QeA cx orc' f todo xs h=some y:=by
 unfold QeA at hh⊢
 cases hc:cutAt cx f todo with
 |some kp=>rw[hc]at hh;exact QfC _ _ _ _ hh
 |none=>rw[hc]at hh;exact QfC _ _ _ _ hh
def Qjr (cx:Cx):Nat→Orc
 |0=>fun _ _ _ _=>none
 |n+1=>QeA cx (Qjr cx n)
theorem QlN:∀(n:Nat) (f:FuncId) (todo:List Item) (xs:List LV) (h:Heap) (y:LV×Heap),Qjr cx n f todo xs h=some y→Qjr cx (n+1) f todo xs h=some y
 |0,_,_,_,_,_,h=>by cases h
 |n+1,f,todo,xs,h,y,hh=>by
  obtain⟨L,k⟩:=Qf3 hh
  exact k _ fun q _ z hz=>QlN n _ _ _ _ z hz
theorem QfL {n m:Nat}(hm:n≤m){f:FuncId}{todo:List Item}{xs:List LV}{h:Heap}{y:LV×Heap}(hh:Qjr cx n f todo xs h=some y):Qjr cx m f todo xs h=some y:=by
 induction hm with
 |refl=>exact hh
 |step _ ih=>exact QlN _ _ _ _ _ _ ih
open Classical in
noncomputable def blk (cx:Cx):Orc:=fun f todo xs h=>if e:∃n y,Qjr cx n f todo xs h=some y then some e.choose_spec.choose else none
theorem QfK {todo:List Item}{xs:List LV}{h:Heap}{y:LV×Heap}:blk cx f todo xs h=some y↔∃n,Qjr cx n f todo xs h=some y:=by
 unfold blk
 split
 ·rename_i e
  have hs:=e.choose_spec.choose_spec
  constructor
  ·intro h1
   simp only[Option.some.injEq]at h1
   exact⟨_,h1▸hs⟩
  ·rintro⟨n,hn⟩
   have h1:=QfL (Nat.le_max_left n e.choose) hn
   have h2:=QfL (Nat.le_max_right n e.choose) hs
   rw[h1]at h2
   exact h2.symm
 ·rename_i e
  constructor
  ·intro h1;cases h1
  ·rintro⟨n,hn⟩
   exact absurd ⟨n,y,hn⟩ e
theorem Qxj {todo:List Item}{xs:List LV}{h:Heap}{y:LV×Heap}(hh:QeA cx (blk cx) f todo xs h=some y):blk cx f todo xs h=some y:=by
 obtain⟨L,k⟩:=Qf3 hh
 have key:∀L:List Qry,∃n,Ups L (blk cx) (Qjr cx n):=by
  intro L
  induction L with
  |nil=>exact⟨0,fun q hq=>by cases hq⟩
  |cons q L ih=>
   obtain⟨n,hn⟩:=ih
   have:∃m,Up q (blk cx) (Qjr cx m):=by
    cases hb:blk cx q.1 q.2.1 q.2.2.1 q.2.2.2 with
    |none=>exact⟨0,fun y hy=>by rw[hb]at hy;cases hy⟩
    |some z=>
     obtain⟨m,hm⟩:=QfK.1 hb
     exact⟨m,fun y hy=>by rw[hb]at hy;cases hy;exact hm⟩
   obtain⟨m,hm⟩:=this
   refine⟨max n m,fun q' hq'=>?_⟩
   rcases List.mem_cons.1 hq' with rfl|h
   ·exact fun y hy=>QfL (Nat.le_max_right n m) (hm y hy)
   ·exact fun y hy=>QfL (Nat.le_max_left n m) (hn q' h y hy)
 obtain⟨n,hn⟩:=key L
 exact QfK.2 ⟨n+1,k _ hn⟩
theorem QlO (hC:CxOk cx):∀n,Qcn cx (Qjr cx n)
 |0=>fun _ _ _ _ _ _ _ h=>by cases h
 |n+1=>Qnj hC (QlO hC n)
theorem QiD (hC:CxOk cx):Qcn cx (blk cx):=by
 intro f todo xs h x h' fn hh hf
 obtain⟨n,hn⟩:=QfK.1 hh
 exact QlO hC n f todo xs h x h' fn hn hf
end Go.Proofs.Am
