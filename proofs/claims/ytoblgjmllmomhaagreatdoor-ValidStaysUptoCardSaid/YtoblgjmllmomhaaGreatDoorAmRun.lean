/-
  Calls at their place, and all operations.
-/
import Derived.Test.YtoblgjmllmomhaaGreatDoorAmCall
namespace Go.Proofs.Am
open Go
variable {R:Type} {cx:Cx} {orc:Orc} {nt:Nat} {o:Oper} {st:St} {a:Act} {w:World} {g:Gh} {lm:Nat→Nat} {K:LV→St→Option R} {r:R}
theorem RepA.mono {w':World}{g':Gh}{k:Nat}{x:LV}{v:Value}(h:RepA w g k x v)(hk:Kp w g w' g' (.arg k)):RepA w' g' k x v:=by
 cases x<;>simp only[RepA]at h⊢
 ·exact h.mono hk.le
 ·exact h.mono hk
def toArg (j k:Nat):Hd→Hd
 |.tmp i c=>if i=j then .arg k else .tmp i c
 |h=>h
theorem QBb (h:SR nt st a w g lm){o:Operand}{x:AV}(hx:st.ra o=some x):∃g',SR nt st a w g' lm∧Qt w g w g'∧Rep w g' x (a.eval o):=by
 unfold St.ra at hx
 split at hx
 ·simp only[Option.some.injEq]at hx
  subst hx
  exact⟨g,h,Qt.refl w g,.nilS⟩
 ·exact QaO h hx
theorem QfR {tk:Bool}:∀(l:List Operand) (i:Nat) (st:St) (g:Gh) (k:List LV→St→Option R),SR nt st a w g lm→args tk st l k=some r→
 ∃xs st1,k xs st1=some r∧xs.length=l.length∧∃g1,SR nt st1 a w g1 lm∧Qt w g w g1∧∀(j:Nat) (x:LV) (p:Operand),xs[j]? =some x→l[j]? =some p→RepA w g1 (i+j) x (a.eval p)
 |[],i,st,g,k,hs,h=>⟨[],st,h,rfl,g,hs,Qt.refl w g,by simp⟩
 |x::l,i,st,g,k,hs,h=>by
  have copy0:∀p,(∃g1,SR nt st a w g1 lm∧Qt w g w g1∧Rep w g1 p (a.eval x))→(args tk st l fun as st=>k (.v p::as) st)=some r→∃xs st1,k xs st1=some r∧xs.length=(x::l).length∧∃g1,SR nt st1 a w g1 lm∧Qt w g w g1∧
   ∀(j:Nat) (y:LV) (p:Operand),xs[j]? =some y→(x::l)[j]? =some p→RepA w g1 (i+j) y (a.eval p):=by
   rintro p ⟨g1,s1,t1,r1⟩ h
   obtain⟨xs,st1,hk,hl,g2,s2,t2,r2⟩:=QfR l (i+1) st g1 _ s1 h
   refine⟨.v p::xs,st1,hk,by simp[hl],g2,s2,t1.trans t2,fun j y q hj hq=>?_⟩
   cases j with
   |zero=>
    simp only[List.getElem?_cons_zero,Option.some.injEq]at hj hq
    subst hj;subst hq
    exact r1.mono t2.le
   |succ j=>
    simp only[List.getElem?_cons_succ]at hj hq
    rw[show i+(j+1)=i+1+j by omega]
    exact r2 j y q hj hq
  have copy:((st.ra x).bind fun p=>args tk st l fun as st=>k (.v p::as) st)=some r→∃xs st1,k xs st1=some r∧xs.length=(x::l).length∧∃g1,SR nt st1 a w g1 lm∧Qt w g w g1∧
   ∀(j:Nat) (y:LV) (p:Operand),xs[j]? =some y→(x::l)[j]? =some p→RepA w g1 (i+j) y (a.eval p):=by
   intro h
   simp only[Option.bind_eq_some_iff]at h
   obtain⟨p,hp,h⟩:=h
   exact copy0 p (QBb hs hp) h
  have copyV:((st.rv x).bind fun p=>args tk st l fun as st=>k (.v p::as) st)=some r→∃xs st1,k xs st1=some r∧xs.length=(x::l).length∧∃g1,SR nt st1 a w g1 lm∧Qt w g w g1∧
   ∀(j:Nat) (y:LV) (p:Operand),xs[j]? =some y→(x::l)[j]? =some p→RepA w g1 (i+j) y (a.eval p):=by
   intro h
   simp only[Option.bind_eq_some_iff]at h
   obtain⟨p,hp,h⟩:=h
   exact copy0 p (QaO hs hp) h
  unfold args at h
  cases tk with
  |false=>exact copy (by simpa using h)
  |true=>
   simp only[cond_true]at h
   cases x with
   |tmp j=>
    simp only[Option.bind_eq_some_iff]at h
    obtain⟨y,hy,h⟩:=h
    have hyj:st.t j=y∧(y.free∨∃n xs,y=.ow n xs):=by
     unfold LV.arg at hy
     split at hy
     ·rename_i heq;simp only[Option.some.injEq]at hy;subst hy;exact⟨heq,.inl trivial⟩
     ·rename_i heq;simp only[Option.some.injEq]at hy;subst hy;exact⟨heq,.inr ⟨_,_,rfl⟩⟩
     ·cases hy
    have K0:∀hd,(∀c,hd≠.tmp j c)→Kp w g w (Qbv g (toArg j i)) hd:=fun hd hne=>QdY w g (by
     cases hd<;>simp only[toArg]
     rename_i i' c
     rw[if_neg]
     rintro rfl;exact hne c rfl)
    have s1:SR nt {st with t:=upd st.t j .un} a w (Qbv g (toArg j i)) lm:=hs.tmpA (Qdv hs.wf rfl) rfl j (fun hd _ hne=>K0 hd hne) .un trivial
    have hA:RepA w (Qbv g (toArg j i)) i y (a.tmps.getD j undef):=by
     have:=(hs.tm j).rel (ρ:=toArg j i) (fun c _=>by simp[toArg])
     rw[hyj.1]at this
     unfold LV.arg at hy
     rw[hyj.1]at hy
     cases y<;>simp only[reduceCtorEq]at hy
     ·exact this
     ·simp only[RepV,toArg,if_true]at this;exact this.2
    obtain⟨xs,st1,hk,hl,g2,s2,t2,r2⟩:=QfR l (i+1) _ _ _ s1 h
    refine⟨y::xs,st1,hk,by simp[hl],g2,s2,(⟨Qb5 w g rfl,fun c=>K0 _ (by simp),fun c=>K0 _ (by simp)⟩:Qt w g w (Qbv g (toArg j i))).trans t2,fun k y' q hj hq=>?_⟩
    cases k with
    |zero=>
     simp only[List.getElem?_cons_zero,Option.some.injEq]at hj hq
     subst hj;subst hq
     exact hA.mono (t2.ka i)
    |succ k=>
     simp only[List.getElem?_cons_succ]at hj hq
     rw[show i+(k+1)=i+1+k by omega]
     exact r2 k y' q hj hq
   |const c=>exact copyV h
   |func f=>exact copyV h
   |global gl=>exact copyV h
theorem OpOk.call {P:Program}{f:FuncId}{vs:Array Value}{x:LV}{st':St}(hrun:(execOp a.eval o).run P w=.ok (.enter f vs) w)
 (hc:Calls P f vs w fun e w'=>∃v g' lm',e=.returned v∧SR nt st' a w' g' lm'∧Tr w g w' g'∧RepV w' g' lm' st'.nl .res x v):OpOk P nt o a w g x st':=by
 intro next Q k
 unfold Oper.wp
 rw[hrun,Oper.upon_enter]
 refine hc.mono ?_
 rintro e w' ⟨v,g',lm',rfl,hs,ht,hr⟩
 exact k v w' g' lm' hs ht hr
theorem Qoh {P:Program}{f:FuncId}{fn:Func}{c:Code}{vs:Array Value}(hf:P.funcs[f]? =some fn)(hb:fn.body=some c):
 Frame.enter P f vs .normal=(Qhr f).at {tmps:=vs++Array.replicate (fn.ntmps-vs.size) undef,defers:=[]} [.code c]:=by
 simp[Frame.enter,Frame.at,hf,hb,Qhr]
theorem Qa4 (hO:Qcn cx orc){f:FuncId}{fn:Func}{c:Code}{xs:List LV}{h h':Heap}{x:LV}{vs:Array Value}(hf:cx.P.funcs[f]? =some fn)(hb:fn.body=some c)(hcut:cutAt cx f [.code c]=none)
 (ho:orc f [.code c] xs h=some (x,h')){g0:Gh}(hs:SR fn.ntmps (QgV xs h) {tmps:=vs++Array.replicate (fn.ntmps-vs.size) undef,defers:=[]} w g0 (fun _=>0))(hG:GOk cx w g0):
 Calls cx.P f vs w fun e w'=>∃v,e=.returned v∧Ret w g0 x h' v w':=by
 intro cs
 have hst:QqZ cx f [.code c] xs h=QgV xs h:=by simp only[QqZ,hcut]
 obtain⟨v,w',fr,h1,h2,h3,h4⟩:=hO f [.code c] xs h x h' fn ho hf _ w g0 (fun _=>0) (by rw[hst];exact hs) hG cs
 refine⟨.returned v,w',fr,⟨v,rfl,h4⟩,?_,h2,h3⟩
 rw[Qoh hf hb]
 exact h1
theorem Qiz (hC:CxOk cx)(hO:Qcn cx orc)(hG:GOk cx w g){f:FuncId}{xs:List LV}{h':Heap}{x:LV}{vs:Array Value}(hs:SR nt st a w g lm)(hvs:vs.size=xs.length)
 (hA:∀(j:Nat) (y:LV),xs[j]? =some y→∃u,vs[j]? =some u∧RepA w g j y u)(pu:Bool)(hpu:pu=true→Qbw xs=true∧x.np=true)
 (h:Qab cx orc f xs (bif pu then Heap.nil else st.h)=some (x,h')):
 (∃fn c,cx.P.funcs[f]? =some fn∧fn.body=some c)∧
  Calls cx.P f vs w fun e w'=>∃v g',e=.returned v∧SR nt (bif pu then st else{st with h:=h'}) a w' g' lm∧Tr w g w' g'∧RepV w' g' lm st.nl .res x v:=by
 have lift:∀{w':World} {g':Gh} {v:Value},RepV w' g' (fun _=>0) 0 .res x v→RepV w' g' lm st.nl .res x v:=by
  intro w' g' v hx
  cases x<;>simp only[RepV]at hx⊢<;>try exact hx
  exact absurd hx.1 (by omega)
 unfold Qab at h
 cases he:cx.ext f with
 |some e=>
  rw[he]at h
  simp only at h
  by_cases hall:xs.all LV.isV=true
  ·rw[hall,cond_true]at h
   simp only[Option.bind_eq_some_iff,Option.some.injEq,Prod.mk.injEq]at h
   obtain⟨y,hy,rfl,hh⟩:=h
   obtain⟨hext,hbody⟩:=hC.ext f e he
   refine⟨hbody,(hext xs y hy w g vs hs.wf hG hvs (fun j z hj=>?_)).mono ?_⟩
   ·obtain⟨u,hu,hr⟩:=hA j z hj
    have hv:=(List.all_eq_true.1 hall) z (List.mem_of_getElem? hj)
    cases z<;>simp only[LV.isV,Bool.false_eq_true]at hv
    exact⟨_,u,rfl,hu,hr⟩
   ·rintro e w' ⟨v,g',rfl,wf',hnb,htr,hkp,hr⟩
    have s1:SR nt st a w' g' lm:=hs.keep wf' hnb (fun hd h1 h2 _=>hkp hd h1 h2)
    refine⟨v,g',rfl,?_,htr,lift hr⟩
    cases pu with
    |true=>exact s1
    |false=>
     simp only[cond_false]at hh⊢
     subst hh
     exact s1
  ·rw[Bool.eq_false_iff.2 hall]at h;cases h
 |none=>
  rw[he]at h
  simp only at h
  have hnx:∀(l:List LV),Qbw l=true→∀(j:Nat) (y:LV),l[j]? =some y→y.np=true:=by
   intro l
   induction l with
   |nil=>intro _ j y hj;simp at hj
   |cons z l ih=>
    intro hn j y hj
    simp only[Qbw,Bool.and_eq_true]at hn
    cases j with
    |zero=>simp at hj;subst hj;exact hn.1
    |succ j=>simp at hj;exact ih hn.2 j y hj
  have k0:∀hd,Qbg hd=hd→Kp w g w (Qbv g Qbg) hd:=fun hd he=>QdY w g he
  have hp0:HeapOk w (Qbv g Qbg) st.h:=hs.hp.keep rfl (fun _=>k0 _ rfl) (fun _ _=>k0 _ rfl)
  have wf0:Wf w (QdG g):=⟨fun b hb=>by simp only[QdG,hs.wf.own b hb,Qdw],hs.wf.sl,fun b hb=>hs.wf.fit b (fun e=>hb (by simp only[QdG,e,Qdw]))⟩
  have hpn:HeapOk w (QdG g) Heap.nil:=⟨rfl,fun id bx hid=>by simp[Heap.nil]at hid⟩
  have hGn:GOk cx w (QdG g):=⟨fun i cs hi=>Rep.np (g:=g) (g':=QdG g) (fun _=>Nat.le_refl _) (fun _ _ _=>rfl) (hG.1 i cs hi) (hC.globs i cs hi),hG.2⟩
  have viaH:∀e,Qce cx f e→(∃fn c,cx.P.funcs[f]? =some fn∧fn.body=some c)→(bif xs.all LV.isV then e xs (bif pu then Heap.nil else st.h)else none)=some (x,h')→
   (∃fn c,cx.P.funcs[f]? =some fn∧fn.body=some c)∧
    Calls cx.P f vs w fun e w'=>∃v g',e=.returned v∧SR nt (bif pu then st else{st with h:=h'}) a w' g' lm∧Tr w g w' g'∧RepV w' g' lm st.nl .res x v:=by
   intro e hext hbody h
   by_cases hall:xs.all LV.isV=true
   ·rw[hall,cond_true]at h
    have hAv:∀(j:Nat) (y:LV),xs[j]? =some y→∃p u,y=.v p∧vs[j]? =some u∧Rep w g p u:=fun j z hj=>by
     obtain⟨u,hu,hr⟩:=hA j z hj
     have hv:=(List.all_eq_true.1 hall) z (List.mem_of_getElem? hj)
     cases z<;>simp only[LV.isV,Bool.false_eq_true]at hv
     exact⟨_,u,rfl,hu,hr⟩
    refine⟨hbody,?_⟩
    cases pu with
    |false=>
     simp only[cond_false]at h
     refine(hext xs st.h x h' h w (Qbv g Qbg) vs (Qdv hs.wf rfl) hp0 (hG.mono (QbH w g Qbg)) hvs (fun j y hj=>by
      obtain⟨p,u,e1,e2,hr⟩:=hAv j y hj
      exact⟨p,u,e1,e2,hr.mono (QbH w g Qbg)⟩)).mono ?_
     rintro e w' ⟨v,rfl,g',wf',ht,hh,hr⟩
     obtain⟨s1,t1,r1⟩:=hs.back wf' ht hh hr
     exact⟨v,_,rfl,s1,t1,r1⟩
    |true=>
     simp only[cond_true]at h
     obtain⟨hn1,hn2⟩:=hpu rfl
     refine(hext xs Heap.nil x h' h w (QdG g) vs wf0 hpn hGn hvs (fun j y hj=>by
      obtain⟨p,u,e1,e2,hr⟩:=hAv j y hj
      refine⟨p,u,e1,e2,Rep.np (g:=g) (g':=QdG g) (fun _=>Nat.le_refl _) (fun _ _ _=>rfl) hr ?_⟩
      have:=hnx xs hn1 j y hj
      rw[e1]at this
      exact this)).mono ?_
     rintro e w' ⟨v,rfl,g',wf',ht,hh,hr⟩
     obtain⟨s1,t1,r1⟩:=hs.pureBack wf' ht hr hn2
     exact⟨v,_,rfl,s1,t1,r1⟩
   ·rw[Bool.eq_false_iff.2 hall]at h;cases h
  cases hx:cx.exh f with
  |some e=>
   rw[hx]at h
   obtain⟨hext,hbody⟩:=hC.exh f e hx
   exact viaH e hext hbody h
  |none=>
  rw[hx]at h
  simp only at h
  cases hxr:cx.exr f with
  |some e=>
   rw[hxr]at h
   obtain⟨hext,hbody⟩:=hC.exr f e hxr
   exact viaH _ hext.exh hbody h
  |none=>
  rw[hxr]at h
  simp only at h
  cases hxn:cx.exn f with
  |some e=>
   rw[hxn]at h
   obtain⟨hext,hbody⟩:=hC.exn f e hxn
   exact viaH _ hext hbody h
  |none=>
  rw[hxn]at h
  simp only[Option.bind_eq_some_iff]at h
  obtain⟨fn,hf,c,hb,h⟩:=h
  by_cases hcut:(cutAt cx f [.code c]).isNone=true
  ·rw[hcut,cond_true]at h
   rw[Option.isNone_iff_eq_none]at hcut
   refine⟨⟨fn,c,hf,hb⟩,?_⟩
   cases pu with
   |false=>
    simp only[cond_false]at h
    have s0:SR fn.ntmps (QgV xs st.h) {tmps:=vs++Array.replicate (fn.ntmps-vs.size) undef,defers:=[]} w (Qbv g Qbg) (fun _=>0):=
     SR.enter (Qdv hs.wf rfl) hp0 hvs (fun j y hj=>by
      obtain⟨u,hu,hr⟩:=hA j y hj
      refine⟨u,hu,?_⟩
      cases y<;>simp only[RepA]at hr<;>simp only[RepV]
      ·exact hr.mono (QbH w g Qbg)
      ·exact⟨by simp,hr.rel Qbg⟩)
    refine(Qa4 hO hf hb hcut h s0 (hG.mono (QbH w g Qbg))).mono ?_
    rintro e w' ⟨v,rfl,g',wf',ht,hh,hr⟩
    obtain⟨s1,t1,r1⟩:=hs.back wf' ht hh hr
    exact⟨v,_,rfl,s1,t1,r1⟩
   |true=>
    simp only[cond_true]at h
    obtain⟨hn1,hn2⟩:=hpu rfl
    have s0:SR fn.ntmps (QgV xs Heap.nil) {tmps:=vs++Array.replicate (fn.ntmps-vs.size) undef,defers:=[]} w (QdG g) (fun _=>0):=
     SR.enter wf0 hpn hvs (fun j y hj=>by
      obtain⟨u,hu,hr⟩:=hA j y hj
      have hnp:=hnx xs hn1 j y hj
      refine⟨u,hu,?_⟩
      cases y<;>simp only[RepA]at hr<;>simp only[RepV]
      ·exact Rep.np (g:=g) (g':=QdG g) (fun _=>Nat.le_refl _) (fun _ _ _=>rfl) hr hnp
      ·exact⟨by simp,Own.np (g:=g) (fun _=>Nat.le_refl _) (fun _ _ _=>rfl) (fun b hb hg=>⟨rfl,by simp only[QdG,hg,Qdw],rfl⟩) hr hnp⟩)
    refine(Qa4 hO hf hb hcut h s0 hGn).mono ?_
    rintro e w' ⟨v,rfl,g',wf',ht,hh,hr⟩
    obtain⟨s1,t1,r1⟩:=hs.pureBack wf' ht hr hn2
    exact⟨v,_,rfl,s1,t1,r1⟩
  ·rw[Bool.eq_false_iff.2 hcut]at h;cases h
theorem Qdu (hC:CxOk cx){f:FuncId}{fn:Func}{c:Code}{vs:Array Value}(hf:cx.P.funcs[f]? =some fn)(hb:fn.body=some c):(callFunc f vs).run cx.P w=.ok (.enter f vs) w:=by
 have hn:(fn.name== "runtime.NumGoroutine")=false:=by simpa using hC.names f fn hf
 unfold callFunc
 rw[Sem.run_bind]
 show((Result.ok cx.P w).andThen _)=_
 rw[Result.andThen_ok]
 simp only[hf,hn,hb]
 rfl
theorem SR.copyRes {n:Nat}{xs:List (List AV)}{v:Value}(hs:SR nt st a w g lm)(hx:RepV w g lm st.nl .res (.ow n xs) v):
 ∃g',SR nt st a w g' lm∧Tr w g w g'∧Rep w g' (.imm xs) v:=by
 obtain⟨hne,ho⟩:=hx
 obtain⟨g',wf',hn,htr,hkp,_,hrep⟩:=ho.cp hs.wf hne
 exact⟨g',hs.keep wf' hn (fun hd _ h1 _=>hkp hd (h1 0)),htr,hrep⟩
theorem Qbu {A:Type}(wr:A→LV)(un:Option (LV×Heap)→Option (A×Heap))(hC:CxOk cx)(hO:Qcn cx orc)(hG:GOk cx w g){f:FuncId}{xs:List LV}{vs:Array Value}{pu:Bool}{call:Heap→Option (A×Heap)}
 (hcall:call=fun h=>un (Qab cx orc f xs h))
 (hun:∀(q:Option (LV×Heap)) (y:A) (h':Heap),un q=some (y,h')→∃x,q=some (x,h')∧(wr y=x∨∃n zs,x=.ow n zs∧wr y=.v (.imm zs)))
 (hrun:∀{fn:Func} {c:Code},cx.P.funcs[f]? =some fn→fn.body=some c→(execOp a.eval o).run cx.P w=.ok (.enter f vs) w)
 (hs:SR nt st a w g lm)(hvs:vs.size=xs.length)(hA:∀(j:Nat) (y:LV),xs[j]? =some y→∃u,vs[j]? =some u∧RepA w g j y u)
 (h:Qap wr pu xs call st K=some r):Good cx.P nt o a w g K r:=by
 subst hcall
 have conv:∀{y:A} {x:LV} {w':World} {g':Gh} {v:Value} {st':St},st'.nl=st.nl→(wr y=x∨∃n zs,x=.ow n zs∧wr y=.v (.imm zs))→SR nt st' a w' g' lm→Tr w g w' g'→RepV w' g' lm st.nl .res x v→
  ∃g'',SR nt st' a w' g'' lm∧Tr w g w' g''∧RepV w' g'' lm st'.nl .res (wr y) v:=by
  intro y x w' g' v st' hnl hy s1 t1 r1
  rcases hy with rfl|⟨n,zs,rfl,hw⟩
  ·exact⟨g',s1,t1,by rw[hnl];exact r1⟩
  ·rw[←hnl]at r1
   obtain⟨g2,s2,t2,r2⟩:=s1.copyRes r1
   exact⟨g2,s2,t1.trans t2,by rw[hw];exact r2⟩
 unfold Qap at h
 cases pu with
 |false=>
  simp only[cond_false,Option.bind_eq_some_iff]at h
  obtain⟨⟨y,h'⟩,hq,h⟩:=h
  obtain⟨x,hx,hy⟩:=hun _ y h' hq
  obtain⟨⟨fn,c,hf,hb⟩,hcalls⟩:=Qiz hC hO hG hs hvs hA false (by simp) hx
  refine⟨_,_,h,OpOk.call (hrun hf hb) (hcalls.mono ?_)⟩
  rintro e w' ⟨v,g',rfl,s1,t1,r1⟩
  simp only[cond_false]at s1
  obtain⟨g2,s2,t2,r2⟩:=conv (y:=y) (st':={st with h:=h'}) rfl hy s1 t1 r1
  exact⟨v,g2,lm,rfl,s2,t2,r2⟩
 |true=>
  simp only[cond_true]at h
  by_cases hn:Qbw xs=true
  ·rw[hn,cond_true]at h
   simp only[Option.bind_eq_some_iff]at h
   obtain⟨⟨y,h'⟩,hq,h⟩:=h
   by_cases hny:(wr y).np=true
   ·simp only[hny,cond_true]at h
    obtain⟨x,hx,hy⟩:=hun _ y h' hq
    have hnx:x.np=true:=by
     rcases hy with rfl|⟨n,zs,rfl,hw⟩
     ·exact hny
     ·rw[hw]at hny;simpa[LV.np,AV.np]using hny
    obtain⟨⟨fn,c,hf,hb⟩,hcalls⟩:=Qiz hC hO hG hs hvs hA true (fun _=>⟨hn,hnx⟩) hx
    refine⟨_,_,h,OpOk.call (hrun hf hb) (hcalls.mono ?_)⟩
    rintro e w' ⟨v,g',rfl,s1,t1,r1⟩
    simp only[cond_true]at s1
    obtain⟨g2,s2,t2,r2⟩:=conv (y:=y) (st':=st) rfl hy s1 t1 r1
    exact⟨v,g2,lm,rfl,s2,t2,r2⟩
   ·simp only[Bool.eq_false_iff.2 hny,cond_false,reduceCtorEq]at h
  ·rw[Bool.eq_false_iff.2 hn]at h;cases h
theorem QhL (q:Option (LV×Heap))(y:AV)(h':Heap)(h:toA q=some (y,h')):∃x,q=some (x,h')∧(LV.v y=x∨∃n zs,x=.ow n zs∧LV.v y=.v (.imm zs)):=by
 unfold toA at h
 simp only[Option.bind_eq_some_iff,Option.some.injEq,Prod.mk.injEq]at h
 obtain⟨⟨x,hx⟩,rfl,p,hp,rfl,rfl⟩:=h
 refine⟨x,rfl,?_⟩
 cases x<;>simp only[LV.cpy1,Option.some.injEq,reduceCtorEq]at hp
 ·subst hp;exact .inl rfl
 ·subst hp;exact .inr ⟨_,_,rfl,rfl⟩
theorem QhK (q:Option (LV×Heap))(y:List AV)(h':Heap)(h:toT q=some (y,h')):∃x,q=some (x,h')∧(LV.tup y=x∨∃n zs,x=.ow n zs∧LV.tup y=.v (.imm zs)):=by
 unfold toT at h
 simp only[Option.bind_eq_some_iff]at h
 obtain⟨⟨x,hx⟩,rfl,h⟩:=h
 cases x<;>simp only[reduceCtorEq,Option.some.injEq,Prod.mk.injEq]at h
 obtain⟨rfl,rfl⟩:=h
 exact⟨_,rfl,.inl rfl⟩
theorem QkO {c:Call}{f:FuncId}{tk pu:Bool}(hC:CxOk cx)(hO:Qcn cx orc)(hG:GOk cx w g)(ho:o.op=.call c)(hc:c.callee=.value (.func f))(hs:SR nt st a w g lm)
 (h:(args tk st c.args.toList fun xs st=>
  match mode cx f with
  |0=>Qap .v pu xs (QeL cx orc f xs) st K
  |1=>Qap .tup pu xs (callT cx orc f xs) st K
  |_=>Qap (fun x=>x) pu xs (Qab cx orc f xs) st K)=some r):Good cx.P nt o a w g K r:=by
 obtain⟨xs,st1,h,hl,g1,s1,t1,r1⟩:=QfR _ 0 _ _ _ hs h
 refine Good.pre t1 ?_
 have hvs:(c.args.map a.eval).size=xs.length:=by simp[hl]
 have hA:∀(j:Nat) (y:LV),xs[j]? =some y→∃u,(c.args.map a.eval)[j]? =some u∧RepA w g1 j y u:=by
  intro j y hj
  have hlt:j<c.args.toList.length:=by rw[←hl];exact(List.getElem?_eq_some_iff.1 hj).1
  have:=r1 j y c.args.toList[j] hj (List.getElem?_eq_getElem hlt)
  rw[Nat.zero_add]at this
  have hlt':j<c.args.size:=by simpa using hlt
  exact⟨a.eval c.args[j],by simp[hlt'],by simpa using this⟩
 have hrun:∀{fn:Func} {cd:Code},cx.P.funcs[f]? =some fn→fn.body=some cd→(execOp a.eval o).run cx.P w=.ok (.enter f (c.args.map a.eval)) w:=by
  intro fn cd hf hb
  simp only[execOp,ho,resolve,hc]
  have e:a.eval (.func f)=.func (.func f) #[] #[]:=rfl
  simp only[e,Deferred.ofValue,Sem.run_bind,Sem.run_pure,Result.andThen_ok,invoke,Array.empty_append,Array.append_empty]
  exact Qdu hC hf hb
 split at h
 ·exact Qbu .v toA hC hO (hG.mono t1.le) rfl QhL hrun s1 hvs hA h
 ·exact Qbu .tup toT hC hO (hG.mono t1.le) rfl QhK hrun s1 hvs hA h
 ·exact Qbu (fun x=>x) (fun q=>q) hC hO (hG.mono t1.le) rfl (fun q y h' hq=>⟨y,hq,.inl rfl⟩) hrun s1 hvs hA h
theorem QwR {f:FuncId}{fs caps:List AV}{v:Value}(h:Rep w g (.fn f fs caps) v):∃vs us:Array Value,v=.func (.func f) vs us∧vs.size=fs.length∧us.size=caps.length∧
 (∀(j:Nat) (c:AV),fs[j]? =some c→∃u,vs[j]? =some u∧Rep w g c u)∧(∀(j:Nat) (c:AV),caps[j]? =some c→∃u,us[j]? =some u∧Rep w g c u):=by
 cases h with
 |fn _ _ _ vs us h1 h2 p q c1 r1 c2 r2=>exact⟨vs,us,rfl,h1,h2,fun j c hj=>⟨_,c1 j c hj,r1 j c hj⟩,fun j c hj=>⟨_,c2 j c hj,r2 j c hj⟩⟩
theorem Qi7 {c:Call}{j0:Tmp}{tk:Bool}(hC:CxOk cx)(hO:Qcn cx orc)(hG:GOk cx w g)(ho:o.op=.call c)(hc:c.callee=.value (.tmp j0))(hs:SR nt st a w g lm)
 (h:((st.t j0).cpy.bind fun fv=>args tk st c.args.toList fun xs st=>
  bif Qey cx.P o.type then Qap .tup false xs (Qc4 cx orc fv xs) st K
  else Qap .v false xs (Qc5 cx orc fv xs) st K)=some r):Good cx.P nt o a w g K r:=by
 simp only[Option.bind_eq_some_iff]at h
 obtain⟨fv,hfv,h⟩:=h
 obtain⟨g0,s0,t0,r0⟩:=hs.cpy j0 hfv
 have isfn:∃f fs caps,fv=.fn f fs caps∨((∀xs h,Qc5 cx orc fv xs h=none)∧∀xs h,Qc4 cx orc fv xs h=none):=by
  cases fv with
  |fn f fs caps=>exact⟨f,fs,caps,.inl rfl⟩
  |_=>exact⟨0,[],[],.inr ⟨fun _ _=>rfl,fun _ _=>rfl⟩⟩
 obtain⟨f,fs,caps,hfn⟩:=isfn
 obtain⟨xs,st1,h,hl,g1,s1,t1,r1⟩:=QfR _ fs.length _ _ _ s0 h
 rcases hfn with rfl|⟨n1,n2⟩
 ·obtain⟨vs,us,hv,hv1,hv2,hc1,hc2⟩:=QwR (r0.mono t1.le)
  refine Good.pre (t0.trans t1) ?_
  let ws:Array Value:=vs++c.args.map a.eval++us
  have hws:ws.size=(fs.map LV.v++xs++caps.map LV.v).length:=by simp[ws,hl,hv1,hv2]
  have hA:∀(j:Nat) (y:LV),(fs.map LV.v++xs++caps.map LV.v)[j]? =some y→∃u,ws[j]? =some u∧RepA w g1 j y u:=by
   intro j y hj
   have hxl:xs.length=c.args.size:=by rw[hl];simp
   by_cases h1:j<fs.length
   ·rw[List.append_assoc,List.getElem?_append_left (by simpa using h1),List.getElem?_map,List.getElem?_eq_getElem h1]at hj
    simp only[Option.map_some,Option.some.injEq]at hj
    subst hj
    obtain⟨u,hu,hr⟩:=hc1 j fs[j] (List.getElem?_eq_getElem h1)
    refine⟨u,?_,hr⟩
    simp only[ws,Array.append_assoc]
    rw[Array.getElem?_append_left (by omega)]
    exact hu
   ·by_cases h2:j<fs.length+xs.length
    ·rw[List.append_assoc,List.getElem?_append_right (by simp;omega),List.getElem?_append_left (by simp;omega),List.length_map]at hj
     have hlt:j-fs.length<c.args.toList.length:=by rw[←hl];omega
     have:=r1 (j-fs.length) y c.args.toList[j-fs.length] hj (List.getElem?_eq_getElem hlt)
     rw[show fs.length+(j-fs.length)=j by omega]at this
     refine⟨a.eval c.args.toList[j-fs.length],?_,this⟩
     simp only[ws,Array.append_assoc]
     have hlt':j-fs.length<c.args.size:=by simpa using hlt
     rw[Array.getElem?_append_right (by omega),hv1,Array.getElem?_append_left (by simpa using hlt')]
     simp[hlt']
    ·rw[List.getElem?_append_right (by simp;omega),List.getElem?_map]at hj
     cases hcj:caps[j-(fs.map LV.v++xs).length]? with
     |none=>rw[hcj]at hj;cases hj
     |some p=>
      rw[hcj]at hj
      simp only[Option.map_some,Option.some.injEq]at hj
      subst hj
      obtain⟨u,hu,hr⟩:=hc2 _ p hcj
      refine⟨u,?_,hr⟩
      simp only[ws]
      rw[Array.getElem?_append_right (by simp;omega)]
      have e:(vs++c.args.map a.eval).size=(fs.map LV.v++xs).length:=by simp[hv1,hxl]
      rw[e];exact hu
  have hrun:∀{fn:Func} {cd:Code},cx.P.funcs[f]? =some fn→fn.body=some cd→(execOp a.eval o).run cx.P w=.ok (.enter f ws) w:=by
   intro fn cd hf hb
   simp only[execOp,ho,resolve,hc]
   have e:a.eval (.tmp j0)=.func (.func f) vs us:=hv
   simp only[e,Deferred.ofValue,Sem.run_bind,Sem.run_pure,Result.andThen_ok,invoke]
   exact Qdu hC hf hb
  by_cases ht:Qey cx.P o.type=true
  ·rw[ht,cond_true]at h
   exact Qbu (xs:=fs.map LV.v++xs++caps.map LV.v) (pu:=false) .tup toT hC hO (hG.mono (t0.trans t1).le) rfl QhK hrun s1 hws hA h
  ·rw[Bool.eq_false_iff.2 ht,cond_false]at h
   exact Qbu (xs:=fs.map LV.v++xs++caps.map LV.v) (pu:=false) .v toA hC hO (hG.mono (t0.trans t1).le) rfl QhL hrun s1 hws hA h
 ·exfalso
  have z1:Qc5 cx orc fv xs=fun _=>none:=funext (n1 xs)
  have z2:Qc4 cx orc fv xs=fun _=>none:=funext (n2 xs)
  rw[z1,z2]at h
  simp only[Qap,cond_false,Option.bind_none]at h
  cases ht:Qey cx.P o.type<;>rw[ht]at h<;>cases h
theorem QvZ (hC:CxOk cx)(hO:Qcn cx orc)(hG:GOk cx w g){f rid i:Nat}(hs:SR nt st a w g lm)(h:opO cx orc f rid i o st K=some r):Good cx.P nt o a w g K r:=by
 unfold opO at h
 cases ho:o.op with
 |move x=>
  rw[ho]at h
  cases har:cx.arr f rid i with
  |true=>
   simp only[har,cond_true]at h
   cases x<;>first|(cases h;done)|exact Qim hs (by simp only[execOp,ho];rfl) h
  |false=>
   simp only[har,cond_false]at h
   cases x<;>exact QkL hs (by simp only[execOp,ho];rfl) h
 |assign x=>
  rw[ho]at h
  cases har:cx.arr f rid i with
  |true=>
   simp only[har,cond_true]at h
   cases x<;>first|(cases h;done)|exact Qim hs (by simp only[execOp,ho];rfl) h
  |false=>
   simp only[har,cond_false]at h
   cases x<;>exact QkL hs (by simp only[execOp,ho];rfl) h
 |pick c x y=>rw[ho]at h;exact QkK ho hs h
 |alloc e=>rw[ho]at h;exact Qja ho hs h
 |box e x=>rw[ho]at h;exact Qn7 ho hs h
 |build t ps=>rw[ho]at h;exact Qi8 ho hs h
 |buildSlice t l ps=>
  rw[ho]at h
  cases hp:cx.heap f rid i with
  |true=>simp only[hp,cond_true]at h;exact QdF ho hs h
  |false=>simp only[hp,cond_false]at h;exact Qee ho hs h
 |nilCheck x=>rw[ho]at h;exact Qfw ho hs h
 |binOp op t x y yt=>rw[ho]at h;exact Qi9 ho hs h
 |unOp op t x=>rw[ho]at h;exact QkI ho hs h
 |convert s d x=>
  rw[ho]at h
  cases hp:cx.heap f rid i with
  |true=>simp only[hp,cond_true]at h;exact Qfz ho hs h
  |false=>simp only[hp,cond_false]at h;exact Qdy ho hs h
 |makeInterface t x=>rw[ho]at h;exact QcU ho hs h
 |makeFunc fn fs cs=>
  rw[ho]at h
  cases fn with
  |func f=>exact Qfx ho hs h
  |_=>cases h
 |makeSlice t l c=>
  rw[ho]at h
  cases hp:cx.heap f rid i with
  |true=>exact Qed ho hs (by simpa only[hp,cond_true]using h)
  |false=>exact QeE ho hs (by simpa only[hp,cond_false]using h)
 |slice t x lo hi mx=>rw[ho]at h;exact Qi3 ho hs h
 |fieldAddr s x j=>rw[ho]at h;exact QeI ho hs h
 |field s x j=>rw[ho]at h;exact Qi5 ho hs h
 |indexAddr t x ix=>rw[ho]at h;exact QeH ho hs h
 |index t x ix=>rw[ho]at h;exact Qi4 ho hs h
 |extract x j=>rw[ho]at h;exact Qgr ho hs h
 |store t x y=>rw[ho]at h;exact Qi2 ho hs h
 |load t x=>
  rw[ho]at h
  simp only[Option.bind_eq_some_iff]at h
  obtain⟨z,hz,h⟩:=h
  cases hh:cx.heap f rid i with
  |true=>
   rw[hh]at h
   simp only[cond_true]at h
   cases hx:st.rd x<;>rw[hx]at h<;>simp only[reduceCtorEq]at h
   cases ht:cx.take f rid i with
   |true=>rw[ht]at h;exact QeD ho hs hz hx h
   |false=>rw[ht]at h;exact QeG ho hs hz hx h
  |false=>
   rw[hh]at h
   simp only[cond_false]at h
   cases hx:st.rd x<;>rw[hx]at h<;>simp only[reduceCtorEq]at h
   ·cases ht:cx.take f rid i with
    |true=>rw[ht]at h;cases h
    |false=>rw[ht]at h;exact QeF ho hs hz hx h
   ·rename_i b off
    by_cases hb:Nat.ble (off+(bif z.2 then z.1 else 1)) (st.z b)=true
    ·rw[hb,cond_true]at h
     have hb:=Nat.le_of_ble_eq_true hb
     cases ht:cx.take f rid i with
     |true=>rw[ht]at h;exact Qfv ho hs hz hx hb h
     |false=>rw[ht]at h;exact Qfy ho hs hz hx hb h
    ·rw[Bool.eq_false_iff.2 hb]at h;cases h
 |call c=>
  rw[ho]at h
  cases hc:c.callee with
  |builtin b=>
   simp only[hc]at h
   unfold Qat at h
   split at h
   ·rename_i x hx;exact Qn6 ho hc hx hs h
   ·rename_i x y hx
    cases hph:cx.heap f rid i with
    |true=>rw[hph]at h;exact QfA ho hc hx hs h
    |false=>
    rw[hph]at h
    simp only[cond_false]at h
    cases har:cx.arr f rid i with
    |true=>rw[har]at h;exact Qgs ho hc hx hs h
    |false=>rw[har]at h;exact Qhm ho hc hx hs h
   ·rename_i x y hx;exact Qi6 ho hc hx hs h
   ·rename_i x y hx;exact Qn4 ho hc hx hs h
   ·rename_i x y hx;exact Qn5 ho hc hx hs h
   ·rename_i x y z hx;exact QkN ho hc hx hs h
   ·rename_i x y z u us hx;exact QkM ho hc hx hs h
   ·cases h
  |invoke r m=>simp[hc]at h
  |value v=>
   cases v with
   |func f=>simp only[hc]at h;exact QkO hC hO hG ho hc hs h
   |tmp j=>simp only[hc]at h;exact Qi7 hC hO hG ho hc hs h
   |_=>simp[hc]at h
 |_=>rw[ho]at h;cases h
theorem Qjn {P:Program}{t:TypeId}{e:Nat×TypeId}(h:Qoz P t=some e):P.underlying t=some (.array e.1 e.2):=by
 unfold Qoz at h
 simp only[Option.bind_eq_some_iff]at h
 obtain⟨d,hd,h⟩:=h
 cases d<;>simp only[reduceCtorEq,Option.some.injEq]at h
 subst h;exact hd
theorem Qn8 (hG:GOk cx w g){gi:Nat}{cs:List AV}(hg:QaG o.op=some gi)(hcs:cx.glob gi=some cs)(hs:SR nt st a w g lm)(h:Qby cx o.op cs st K=some r):Good cx.P nt o a w g K r:=by
 have hp:=hG.1 gi cs hcs
 cases ho:o.op<;>rw[ho]at hg h<;>simp only[QaG,reduceCtorEq]at hg
 case load t x=>
  cases x<;>simp only[reduceCtorEq,Option.some.injEq]at hg
  subst hg
  simp only[Qby,Option.bind_eq_some_iff,ldS]at h
  obtain⟨z,hz,u,hu,h⟩:=h
  obtain⟨y,hy,hr⟩:=QcP (g:=g) hz (QeS hp) hu
  refine Good.pure hs h (v:=y) ?_ hr
  simp only[execOp,ho]
  refine Qad ?_
  simp[Instr.loadAt,Act.eval,Instr.sureAddr,hy]
 case fieldAddr s x j=>
  cases x<;>simp only[reduceCtorEq,Option.some.injEq]at hg
  subst hg
  rename_i gi
  simp only[Qby,Option.bind_eq_some_iff]at h
  obtain⟨fs,hfs,fl,hfl,z,hz,h⟩:=h
  obtain⟨fa,hfa,rfl⟩:=Qbk hfs
  obtain⟨i,d,hi,hsz,_,_⟩:=QaL hz
  have hfl':fa[j]? =some fl:=by simpa using hfl
  cases hb:Nat.blt 0 z.1 with
  |false=>rw[hb]at h;cases h
  |true=>
   rw[hb,cond_true]at h
   have hz0:i.size≠0:=by
    have:=Nat.le_of_ble_eq_true hb
    omega
   refine Good.pure hs h (v:=.pointer (some ⟨gi,0+fl.offset,none⟩)) ?_ (QdV hp)
   have:(Instr.fieldAt s (a.eval (.global gi)) j).run cx.P w=.ok (.pointer (some ⟨gi,0+fl.offset,none⟩)) w:=by
    simp[Instr.fieldAt,run_underlying hfa,hfl',Act.eval,Instr.sureAddr,fieldPlace,run_sizeOf hi,hz0,Addr.add_mid]
   simp only[execOp,ho]
   exact Qad this
 case indexAddr t x ix=>
  cases x<;>simp only[reduceCtorEq,Option.some.injEq]at hg
  subst hg
  simp only[Qby,Option.bind_eq_some_iff]at h
  obtain⟨e,he,z,hz,b,hb,n,hn,h⟩:=h
  have hu:=Qjn he
  rename_i gi
  obtain⟨i,d,hi,hsz,_,_⟩:=QaL hz
  obtain⟨g1,s1,t1,r1⟩:=QaO hs hb
  obtain⟨k,hk⟩:=QbX r1 hn
  cases hc:(decide (0≤n)&&decide (n<e.1))with
  |false=>rw[hc]at h;cases h
  |true=>
   rw[hc,cond_true]at h
   simp only[Bool.and_eq_true,decide_eq_true_eq]at hc
   refine Good.pre t1 (Good.pure s1 h (v:=.pointer (some ⟨gi,0+n.toNat*z.1,none⟩)) ?_ (QdV (hp.mono t1.le)))
   have:(Instr.indexAt t (a.eval (.global gi)) (a.eval ix)).run cx.P w=.ok (.pointer (some ⟨gi,0+n.toNat*z.1,none⟩)) w:=by
    have he:a.eval (.global gi)=.pointer (some ⟨gi,0,none⟩):=rfl
    simp[Instr.indexAt,hk,asIntOf,run_underlying hu,he,Instr.sureAddr,hc.1,hc.2,run_sizeOf hi,hsz,Addr.add_mid]
   simp only[execOp,ho]
   exact Qad this
theorem Qv0 (hC:CxOk cx)(hO:Qcn cx orc)(hG:GOk cx w g){f rid i:Nat}(hs:SR nt st a w g lm)(h:opK cx orc f rid i o st K=some r):Good cx.P nt o a w g K r:=by
 unfold opK at h
 cases hg:QaG o.op with
 |none=>rw[hg]at h;exact QvZ hC hO hG hs h
 |some gi=>
  rw[hg]at h
  simp only[Option.bind_eq_some_iff]at h
  obtain⟨cs,hcs,h⟩:=h
  exact Qn8 hG hg hcs hs h
end Go.Proofs.Am
