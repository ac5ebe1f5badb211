/-
  Calls.
-/
import Derived.Test.YtoblgjmllmomhaaGreatDoorAmOpO
namespace Go.Proofs.Am
open Go
variable {R:Type} {nt:Nat} {o:Oper} {st:St} {a:Act} {w:World} {g:Gh} {lm:Nat→Nat} {K:LV→St→Option R} {r:R}
def QqZ (cx:Cx)(f:FuncId)(todo:List Item)(xs:List LV)(h:Heap):St:=
 match cutAt cx f todo with
 |some kp=>Ql8 kp xs h
 |none=>QgV xs h
def Ret (w:World)(g:Gh)(x:LV)(h:Heap)(v:Value)(w':World):Prop:=
 ∃g',Wf w' g'∧Tr w g w' g'∧HeapOk w' g' h∧RepV w' g' (fun _=>0) 0 .res x v
def Qhr (f:FuncId):Frame:={(default:Frame)with fn:=f,kind:=.normal}
def GOk (cx:Cx)(w:World)(g:Gh):Prop:=(∀(i:Nat) (cs:List AV),cx.glob i=some cs→Rep w g (.snap cs) (.pointer (some ⟨i,0,none⟩)))∧∀(i:Nat) (v:Value),cx.raw i=some v→0<g.sl i∧Cl w i 0=some v
theorem GOk.mono {cx:Cx}{w w':World}{g g':Gh}(h:GOk cx w g)(L:Le w g w' g'):GOk cx w' g':=
 ⟨fun i cs hi=>(h.1 i cs hi).mono L,fun i v hi=>⟨Nat.lt_of_lt_of_le (h.2 i v hi).1 (L.sl i),(L.cell i 0 (h.2 i v hi).1).trans (h.2 i v hi).2⟩⟩
def Qcn (cx:Cx)(orc:Orc):Prop:=
 ∀(f:FuncId) (todo:List Item) (xs:List LV) (h:Heap) (x:LV) (h':Heap) (fn:Func),orc f todo xs h=some (x,h')→cx.P.funcs[f]? =some fn→
  ∀(a:Act) (w:World) (g:Gh) (lm:Nat→Nat),SR fn.ntmps (QqZ cx f todo xs h) a w g lm→GOk cx w g→∀cs:List Frame,
   ∃v w' fr,Steps cx.P (lone ((Qhr f).at a todo) cs w) (lone fr cs w')∧fr.fn=f∧fr.leaving cx.P w' (.returned v)∧Ret w g x h' v w'
def ExtOk (cx:Cx)(f:FuncId)(e:List LV→Option LV):Prop:=
 ∀(xs:List LV) (x:LV),e xs=some x→∀(w:World) (g:Gh) (vs:Array Value),Wf w g→GOk cx w g→vs.size=xs.length→
  (∀(j:Nat) (y:LV),xs[j]? =some y→∃p u,y=.v p∧vs[j]? =some u∧Rep w g p u)→
  Calls cx.P f vs w fun e w'=>∃v g',e=.returned v∧Wf w' g'∧g'.nb=g.nb∧Tr w g w' g'∧(∀hd,hd≠.oth→(∀c,hd≠.res c)→Kp w g w' g' hd)∧RepV w' g' (fun _=>0) 0 .res x v
def Qce (cx:Cx)(f:FuncId)(e:List LV→Heap→Option (LV×Heap)):Prop:=
 ∀(xs:List LV) (h:Heap) (x:LV) (h':Heap),e xs h=some (x,h')→∀(w:World) (g:Gh) (vs:Array Value),Wf w g→HeapOk w g h→GOk cx w g→vs.size=xs.length→
  (∀(j:Nat) (y:LV),xs[j]? =some y→∃p u,y=.v p∧vs[j]? =some u∧Rep w g p u)→
  Calls cx.P f vs w fun e w'=>∃v,e=.returned v∧Ret w g x h' v w'
def ExrOk (cx:Cx)(f:FuncId)(e:List LV→Heap→Option LV):Prop:=
 ∀(xs:List LV) (h:Heap) (x:LV),e xs h=some x→∀(w:World) (g:Gh) (vs:Array Value),Wf w g→HeapOk w g h→GOk cx w g→vs.size=xs.length→
  (∀(j:Nat) (y:LV),xs[j]? =some y→∃p u,y=.v p∧vs[j]? =some u∧Rep w g p u)→
  Calls cx.P f vs w fun e w'=>∃v,e=.returned v∧Ret w g x h v w'
theorem ExrOk.exh {cx:Cx}{f:FuncId}{e:List LV→Heap→Option LV}(h:ExrOk cx f e):Qce cx f fun xs h=>(e xs h).bind fun r=>some (r,h):=by
 intro xs hp x h' hx
 simp only[Option.bind_eq_some_iff,Option.some.injEq,Prod.mk.injEq]at hx
 obtain⟨r,hr,rfl,rfl⟩:=hx
 exact h xs hp r hr
structure CxOk (cx:Cx):Prop where
 names:∀(f:FuncId) (fn:Func),cx.P.funcs[f]? =some fn→fn.name≠ "runtime.NumGoroutine"
 ext:∀(f:FuncId) (e:List LV→Option LV),cx.ext f=some e→ExtOk cx f e∧∃fn c,cx.P.funcs[f]? =some fn∧fn.body=some c
 mixed:cx.P.follows .mixedOrders=true
 globs:∀(i:Nat) (cs:List AV),cx.glob i=some cs→(AV.snap cs).np=true
 exh:∀(f:FuncId) (e:List LV→Heap→Option (LV×Heap)),cx.exh f=some e→Qce cx f e∧∃fn c,cx.P.funcs[f]? =some fn∧fn.body=some c:=by intro _ _ h;cases h
 exr:∀(f:FuncId) (e:List LV→Heap→Option LV),cx.exr f=some e→ExrOk cx f e∧∃fn c,cx.P.funcs[f]? =some fn∧fn.body=some c:=by intro _ _ h;cases h
 exn:∀(f:FuncId) (e:List LV→Nat→Option (LV×List (List LV))),cx.exn f=some e→Qce cx f (Qo1 e)∧∃fn c,cx.P.funcs[f]? =some fn∧fn.body=some c:=by intro _ _ h;cases h
def RepA (w:World)(g:Gh)(k:Nat)(x:LV)(v:Value):Prop:=
 match x with
 |.v p=>Rep w g p v
 |.ow n xs=>Own w g (.arg k) n xs v
 |_=>False
def Qbg:Hd→Hd
 |.arg k=>.tmp k 0
 |.hbox id=>.hbox id
 |.hcell id c=>.hcell id c
 |_=>.oth
theorem QkD:∀(xs:List LV) (i j:Nat),inT i xs j=if i≤j then(xs[j-i]?).getD .ud else .ud
 |[],i,j=>by simp[inT]
 |x::xs,i,j=>by
  simp only[inT]
  by_cases h:j=i
  ·subst h;rw[Qai];simp
  ·rw[Qao _ _ h,QkD xs (i+1) j]
   by_cases h1:i≤j
   ·rw[if_pos (by omega),if_pos h1,show j-i=(j-(i+1))+1 by omega,List.getElem?_cons_succ]
   ·rw[if_neg (by omega),if_neg h1]
theorem SR.enter {n:Nat}{xs:List LV}{vs:Array Value}{h:Heap}{g0:Gh}(wf:Wf w g0)(hh:HeapOk w g0 h)(hl:vs.size=xs.length)
 (hx:∀(j:Nat) (x:LV),xs[j]? =some x→∃u,vs[j]? =some u∧RepV w g0 (fun _=>0) 0 (.tmp j) x u):
 SR n (QgV xs h) {tmps:=vs++Array.replicate (n-vs.size) undef,defers:=[]} w g0 (fun _=>0):=by
 refine⟨wf,by simp;omega,rfl,fun j=>?_,fun i hi=>by simp[QgV]at hi,hh⟩
 simp only[QgV,QkD,Nat.zero_le,if_true,Nat.sub_zero]
 cases hj:xs[j]? with
 |some x=>
  obtain⟨u,hu,hr⟩:=hx j x hj
  have hlt:j<vs.size:=(Array.getElem?_eq_some_iff.1 hu).1
  simp only[Option.getD_some,Array.getD_eq_getD_getElem?,Array.getElem?_append_left hlt,hu]
  exact hr
 |none=>
  have hge:vs.size≤j:=by rw[hl];exact List.getElem?_eq_none_iff.1 hj
  simp only[Option.getD_none,RepV,Array.getD_eq_getD_getElem?,Array.getElem?_append_right hge,Array.getElem?_replicate]
  split<;>rfl
def Qdp (h h':Hd):Hd:=
 match h' with
 |.res c=>.res c
 |.hbox id=>.hbox id
 |.hcell id c=>.hcell id c
 |_=>match h with
  |.tmp j c=>.tmp j c
  |.box i=>.box i
  |.cell i c=>.cell i c
  |_=>.oth
def Qei (g g':Gh):Gh:={sl:=g'.sl,own:=fun b=>Qdp (g.own b) (g'.own b),nb:=g'.nb,bm:=g'.bm}
theorem QlL {g':Gh}{w':World}(t:Tr w (Qbv g Qbg) w' g'):(∀b,b<w.heap.size→Qbg (g.own b)=.oth→w'.heap[b]? =w.heap[b]?∧g'.own b=.oth∧g'.sl b=g.sl b)∧Le w g w' g':=
 ⟨fun b hb h=>t.oth b hb h,⟨t.le.sl,t.le.cell,t.le.nb,t.le.bm,t.le.sz⟩⟩
theorem SR.back {h':Heap}{w':World}{g':Gh}{x:LV}{v:Value}(hs:SR nt st a w g lm)(wf:Wf w' g')(t:Tr w (Qbv g Qbg) w' g')(hh:HeapOk w' g' h')(hx:RepV w' g' (fun _=>0) 0 .res x v):
 SR nt {st with h:=h'} a w' (Qei g g') lm∧Tr w g w' (Qei g g')∧RepV w' (Qei g g') lm st.nl .res x v:=by
 obtain⟨ho,hle⟩:=QlL t
 have L:Le w g w' (Qei g g'):=⟨hle.sl,hle.cell,hle.nb,hle.bm,hle.sz⟩
 have K:∀hd,Qbg hd=.oth→Qdp hd .oth=hd→Kp w g w' (Qei g g') hd:=fun hd h1 h2=>⟨L,fun b hb hg=>by
  obtain⟨k1,k2,k3⟩:=ho b hb (by rw[hg];exact h1)
  exact⟨k1,by simp only[Qei,hg,k2];exact h2,k3⟩⟩
 have K2:∀hd,(∀h,Qdp h hd=hd)→Kp w' g' w' (Qei g g') hd:=fun hd h1=>⟨⟨fun _=>Nat.le_refl _,fun _ _ _=>rfl,Nat.le_refl _,fun _ _=>rfl,fun _ _ h=>h⟩,fun b hb hg=>⟨rfl,by simp only[Qei,hg];exact h1 _,rfl⟩⟩
 refine⟨⟨⟨fun b hb=>?_,fun b hb=>wf.sl b hb,fun b hb=>?_⟩,hs.nt,hs.df,fun j=>(hs.tm j).mono (fun c=>K _ rfl rfl),hs.bx.keep (fun _=>K _ rfl rfl) (fun _ _=>K _ rfl rfl),
  hh.keep rfl (fun _=>K2 _ (fun _=>rfl)) (fun _ _=>K2 _ (fun _=>rfl))⟩,⟨L,t.size,fun b hb hg=>?_,t.os,t.tape,t.output⟩,?_⟩
 ·have h1:=wf.own b hb
  have h2:=hs.wf.own b (Nat.le_trans t.size hb)
  simp only[Qei,h1,h2,Qdp]
 ·by_cases h1:g'.own b=.oth
  ·have h2:Qbg (g.own b)=.oth∧g.own b≠.oth:=by
    simp only[Qei,h1,Qdp]at hb
    cases hgb:g.own b<;>rw[hgb]at hb<;>simp_all[Qbg]
   have hlt:b<w.heap.size:=by
    rcases Nat.lt_or_ge b w.heap.size with h|h
    ·exact h
    ·exact absurd (hs.wf.own b h) h2.2
   obtain⟨k1,k2,k3⟩:=ho b hlt h2.1
   obtain⟨n,n1,n2⟩:=hs.wf.fit b h2.2
   exact⟨n,by rw[Qak k1];exact n1,by show g'.sl b≤n;rw[k3];exact n2⟩
  ·exact wf.fit b h1
 ·obtain⟨k1,k2,k3⟩:=ho b hb (by rw[hg];rfl)
  exact⟨k1,by simp only[Qei,hg,k2,Qdp],k3⟩
 ·have:=RepV.mono (fun c=>K2 (.res c) (fun _=>rfl)) hx
  cases x<;>simp only[RepV]at this⊢<;>try exact this
  exact absurd this.1 (by omega)
theorem Qcw:∀{cs:List AV},npL cs=true→∀(j:Nat) (c:AV),cs[j]? =some c→c.np=true
 |[],_,j,c,h=>by simp at h
 |x::cs,hn,0,c,h=>by simp at h;subst h;simp only[npL,Bool.and_eq_true]at hn;exact hn.1
 |x::cs,hn,j+1,c,h=>by simp only[npL,Bool.and_eq_true]at hn;simp at h;exact Qcw hn.2 j c h
theorem Qfo:∀{cs:List (List AV)},Qh1 cs=true→∀(j:Nat) (c:List AV),cs[j]? =some c→npL c=true
 |[],_,j,c,h=>by simp at h
 |x::cs,hn,0,c,h=>by simp at h;subst h;simp only[Qh1,Bool.and_eq_true]at hn;exact hn.1
 |x::cs,hn,j+1,c,h=>by simp only[Qh1,Bool.and_eq_true]at hn;simp at h;exact Qfo hn.2 j c h
theorem Rep.np {w':World}{g':Gh}(hsl:∀b,g.sl b≤g'.sl b)(hc:∀b j,j<g.sl b→Cl w' b j=Cl w b j){p:AV}{v:Value}(h:Rep w g p v)(hn:p.np=true):Rep w' g' p v:=by
 induction h with
 |int=>exact .int _ _
 |bool=>exact .bool _
 |str=>exact .str _
 |nilI=>exact .nilI
 |nilP=>exact .nilP
 |nilF=>exact .nilF
 |nilM=>exact .nilM
 |nilS=>exact .nilS
 |nilE=>exact .nilE _
 |ifc t p v _ ih=>simp only[AV.np]at hn;exact .ifc _ _ _ (ih hn)
 |imm0=>exact .imm0 _ _
 |imm xs n b o cap f hl hx hcl _ ih=>
  simp only[AV.np]at hn
  refine .imm xs n b o cap f hl hx (fun k x j c hk hj=>?_) (fun k x j c hk hj=>ih k x j c hk hj (Qcw (Qfo hn k x hk) j c hj))
  obtain⟨h1,h2,h3⟩:=hcl k x j c hk hj
  exact⟨Nat.lt_of_lt_of_le h1 (hsl b),(hc b _ h1).trans h2,h3⟩
 |agg cs vs hl f hcl _ ih=>
  simp only[AV.np]at hn
  exact .agg cs vs hl f hcl (fun j c hj=>ih j c hj (Qcw hn j c hj))
 |snap cs b o f hcl _ ih=>
  simp only[AV.np]at hn
  refine .snap cs b o f (fun j c hj=>?_) (fun j c hj=>ih j c hj (Qcw hn j c hj))
  obtain⟨h1,h2,h3⟩:=hcl j c hj
  exact⟨Nat.lt_of_lt_of_le h1 (hsl b),(hc b _ h1).trans h2,h3⟩
 |_=>simp[AV.np]at hn
theorem Own.np {w':World}{g':Gh}{hd hd':Hd}{n:Nat}{xs:List (List AV)}{v:Value}(hsl:∀b,g.sl b≤g'.sl b)(hc:∀b j,j<g.sl b→Cl w' b j=Cl w b j)
 (hb:∀b,b<w.heap.size→g.own b=hd→w'.heap[b]? =w.heap[b]?∧g'.own b=hd'∧g'.sl b=g.sl b)(h:Own w g hd n xs v)(hn:Qh1 xs=true):Own w' g' hd' n xs v:=by
 cases h with
 |emp ad=>exact .emp ad
 |blk _ b cap c e fz f hl hn' hx hbk hf hz ho hs hcl hr=>
  obtain⟨h1,h2,h3⟩:=hb b (QaP hbk) ho
  exact .blk xs b cap c e fz f hl hn' hx (h1.trans hbk) hf hz h2 (by omega) hcl (fun k x j y hk hj=>(hr k x j y hk hj).np hsl hc (Qcw (Qfo hn k x hk) j y hj))
def Qdw:Hd→Hd
 |.arg k=>.tmp k 0
 |_=>.oth
def QdG (g:Gh):Gh:={sl:=g.sl,own:=fun b=>Qdw (g.own b),nb:=0,bm:=g.bm}
def Qdh (h h':Hd):Hd:=
 match h' with
 |.res c=>.res c
 |_=>match h with
  |.tmp j c=>.tmp j c
  |.box i=>.box i
  |.cell i c=>.cell i c
  |.hbox i=>.hbox i
  |.hcell i c=>.hcell i c
  |_=>.oth
def QaS (g g':Gh):Gh:={sl:=g'.sl,own:=fun b=>Qdh (g.own b) (g'.own b),nb:=g.nb,bm:=g.bm}
theorem SR.pureBack {w':World}{g':Gh}{x:LV}{v:Value}(hs:SR nt st a w g lm)(wf:Wf w' g')(t:Tr w (QdG g) w' g')(hx:RepV w' g' (fun _=>0) 0 .res x v)(hn:x.np=true):
 SR nt st a w' (QaS g g') lm∧Tr w g w' (QaS g g')∧RepV w' (QaS g g') lm st.nl .res x v:=by
 have ho:∀b,b<w.heap.size→Qdw (g.own b)=.oth→w'.heap[b]? =w.heap[b]?∧g'.own b=.oth∧g'.sl b=g.sl b:=fun b hb h=>t.oth b hb h
 have L:Le w g w' (QaS g g'):=⟨t.le.sl,t.le.cell,Nat.le_refl _,fun _ _=>rfl,t.le.sz⟩
 have K:∀hd,Qdw hd=.oth→Qdh hd .oth=hd→Kp w g w' (QaS g g') hd:=fun hd h1 h2=>⟨L,fun b hb hg=>by
  obtain⟨k1,k2,k3⟩:=ho b hb (by rw[hg];exact h1)
  exact⟨k1,by simp only[QaS,hg,k2];exact h2,k3⟩⟩
 refine⟨⟨⟨fun b hb=>?_,fun b hb=>wf.sl b hb,fun b hb=>?_⟩,hs.nt,hs.df,fun j=>(hs.tm j).mono (fun c=>K _ rfl rfl),hs.bx.keep (fun _=>K _ rfl rfl) (fun _ _=>K _ rfl rfl),
  hs.hp.keep rfl (fun _=>K _ rfl rfl) (fun _ _=>K _ rfl rfl)⟩,⟨L,t.size,fun b hb hg=>?_,t.os,t.tape,t.output⟩,?_⟩
 ·have h1:=wf.own b hb
  have h2:=hs.wf.own b (Nat.le_trans t.size hb)
  simp only[QaS,h1,h2,Qdh]
 ·by_cases h1:∃c,g'.own b=.res c
  ·obtain⟨c,h1⟩:=h1
   exact wf.fit b (by rw[h1];simp)
  ·have h2:Qdw (g.own b)=.oth∧g.own b≠.oth:=by
    simp only[QaS]at hb
    unfold Qdh at hb
    split at hb
    ·rename_i c heq;exact absurd ⟨c,heq⟩ h1
    ·cases hgb:g.own b<;>rw[hgb]at hb<;>simp_all[Qdw]
   have hlt:b<w.heap.size:=by
    rcases Nat.lt_or_ge b w.heap.size with h|h
    ·exact h
    ·exact absurd (hs.wf.own b h) h2.2
   obtain⟨k1,k2,k3⟩:=ho b hlt h2.1
   obtain⟨n,n1,n2⟩:=hs.wf.fit b h2.2
   exact⟨n,by rw[Qak k1];exact n1,by show g'.sl b≤n;rw[k3];exact n2⟩
 ·obtain⟨k1,k2,k3⟩:=ho b hb (by rw[hg];rfl)
  exact⟨k1,by simp only[QaS,hg,k2,Qdh],k3⟩
 ·have sl:∀b,g'.sl b≤(QaS g g').sl b:=fun b=>Nat.le_refl _
  cases x with
  |v p=>exact Rep.np (g:=g') sl (fun _ _ _=>rfl) hx hn
  |ow n xs=>exact⟨by simp,Own.np (g:=g') sl (fun _ _ _=>rfl) (fun b hb hg=>⟨rfl,by simp only[QaS,hg,Qdh],rfl⟩) hx.2 hn⟩
  |tup xs=>
   obtain⟨vs,e,hz,hc⟩:=hx
   refine⟨vs,e,hz,fun j c hj=>?_⟩
   obtain⟨u,hu,hr⟩:=hc j c hj
   exact⟨u,hu,Rep.np (g:=g') sl (fun _ _ _=>rfl) hr (Qcw hn j c hj)⟩
  |_=>simp[LV.np]at hn
end Go.Proofs.Am
