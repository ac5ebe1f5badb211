/-
  What an operation looks at, and what it changes.
-/
import Derived.Test.YtoblgjmllmomhaaGreatDoorAmRun
namespace Go.Proofs.Am
open Go
variable {R:Type}
theorem Qay {l:List Nat}{j:Nat}:QbQ l j=true↔j∈l:=by
 simp only[QbQ,List.any_eq_true]
 constructor
 ·rintro⟨i,h1,h2⟩;exact Nat.eq_of_beq_eq_true h2▸h1
 ·exact fun h=>⟨j,h,Nat.beq_refl j⟩
theorem QgD {l k:List Nat}(h:QgE l k=true){j:Nat}(hj:j∈l):j∉k:=by
 simp only[QgE,List.all_eq_true,Bool.not_eq_true']at h
 exact fun hk=>by have:=h j hj;rw[Qay.2 hk]at this;cases this
def Gr (st st':St):Prop:=(∀i,0<st.z i→∀c,(st'.m i c).cp=(st.m i c).cp)∧∀i,st.z i≤st'.z i
def HGr (st st':St):Prop:=∀(id:Nat) (bx:List LV),st.h.bx[id]? =some bx→st'.h.bx[id]? =some bx
theorem Gr.refl (st:St):Gr st st:=⟨fun _ _ _=>rfl,fun _=>Nat.le_refl _⟩
theorem HGr.refl (st:St):HGr st st:=fun _ _ h=>h
def QCd (l:List Nat)(st st':St):Prop:=∀(j:Nat),j∈l→∀(id off:Nat),st.t j=.v (.ptr id off)→∀bx:List LV,st.h.bx[id]? =some bx→st'.h.bx[id]? =some bx
theorem HGr.some {l:List Nat}{st st':St}(h:HGr st st'):QCd l st st':=fun _ _ id _ _ bx hb=>h id bx hb
def Old (p:Fp)(st:St):Prop:=p.hc=true→∀(j:Nat),j∈p.r→∀(id off:Nat),st.t j=.v (.ptr id off)→id<st.h.bx.length
def Agree (p:Fp)(st st':St):Prop:=
 (∀j,j∈p.r→st'.t j=st.t j)∧(p.mr=true→st'.m=st.m∧st'.z=st.z∧st'.nl=st.nl)∧(p.hr=true→st'.h=st.h)∧
  (p.mc=true→Gr st st')∧(p.hc=true→QCd p.r st st')
theorem Agree.refl (p:Fp)(st:St):Agree p st st:=⟨fun _ _=>rfl,fun _=>⟨rfl,rfl,rfl⟩,fun _=>rfl,fun _=>.refl _,fun _=>(HGr.refl _).some⟩
def mrg (p:Fp)(s1 st:St):St:=
 {t:=fun j=>bif QbQ p.w j then s1.t j else st.t j,m:=bif p.mw then s1.m else st.m,z:=bif p.mw then s1.z else st.z,nl:=bif p.mw then s1.nl else st.nl,h:=bif p.hw then s1.h else st.h}
def Sft (p:Fp)(s1 st:St):Prop:=(p.ms=true→(∀i c,(s1.m i c).cp=(st.m i c).cp)∧s1.z=st.z∧s1.nl=st.nl)∧(p.mn=true→Gr st s1)∧(p.hn=true→HGr st s1)
theorem Sft.no {p:Fp}{s1 st:St}(h:(p.ms||p.mn||p.hn)=false):Sft p s1 st:=by
 simp only[Bool.or_eq_false_iff]at h
 exact⟨fun h'=>(by rw[h.1.1]at h';cases h'),fun h'=>(by rw[h.1.2]at h';cases h'),fun h'=>(by rw[h.2]at h';cases h')⟩
theorem Sft.fr {p:Fp}{s1 st:St}(h1:p.ms=false)(h2:p.mn=false)(h3:p.hn=true→HGr st s1):Sft p s1 st:=⟨fun h=>(by rw[h1]at h;cases h),fun h=>(by rw[h2]at h;cases h),h3⟩
theorem Sft.self (p:Fp)(s1 st:St)(hm:s1.m=st.m)(hz:s1.z=st.z)(hn:s1.nl=st.nl)(hh:s1.h=st.h):Sft p s1 st:=
 ⟨fun _=>⟨fun _ _=>by rw[hm],hz,hn⟩,fun _=>⟨fun _ _ _=>by rw[hm],fun _=>by rw[hz];exact Nat.le_refl _⟩,fun _ _ _ h=>by rw[hh];exact h⟩
def Loc (p:Fp)(F:St→(LV→St→Option R)→Option R):Prop:=
 ∀(st:St) (K:LV→St→Option R) (r:R),F st K=some r→∃x s1,Sft p s1 st∧∀st',Agree p st st'→∀K',F st' K'=K' x (mrg p s1 st')
def Loc1 (p:Fp)(F:St→(St→Option R)→Option R):Prop:=
 ∀(st:St) (K:St→Option R) (r:R),F st K=some r→∃s1,Sft p s1 st∧∀st',Agree p st st'→∀K',F st' K'=K' (mrg p s1 st')
theorem QnL {a b:Fp}(h:indep a b=true)(s1 s2 st:St):mrg a s1 (mrg b s2 st)=mrg b s2 (mrg a s1 st):=by
 simp only[indep,Bool.and_eq_true,Bool.not_eq_true']at h
 obtain⟨⟨⟨⟨⟨⟨⟨⟨⟨⟨_,h1⟩,_⟩,h2⟩,_⟩,h3⟩,_⟩,_⟩,_⟩,_⟩,_⟩:=h
 simp only[mrg,St.mk.injEq]
 refine⟨funext fun j=>?_,?_,?_,?_,?_⟩
 ·cases hj:QbQ a.w j<;>cases hk:QbQ b.w j<;>simp only[cond_true,cond_false]
  exact absurd (Qay.1 hk) (QgD h1 (Qay.1 hj))
 all_goals (cases ha:a.mw<;>cases hb:b.mw<;>cases hc:a.hw<;>cases hd:b.hw<;>simp_all)
theorem QfS {a b:Fp}(h1:QgE b.w a.r=true)(s1 st:St):∀j,j∈a.r→(mrg b s1 st).t j=st.t j:=fun j hj=>by
 cases hw:QbQ b.w j with
 |false=>simp only[mrg,hw,cond_false]
 |true=>exact absurd hj (QgD h1 (Qay.1 hw))
theorem Ql0 {a b:Fp}(h2:(b.mw&&a.mr)=false)(s1 st:St):a.mr=true→(mrg b s1 st).m=st.m∧(mrg b s1 st).z=st.z∧(mrg b s1 st).nl=st.nl:=fun hm=>by
 rw[hm,Bool.and_true]at h2;simp only[mrg,h2,cond_false,and_self]
theorem Ql1 {a b:Fp}(h3:(b.hw&&a.hr)=false)(s1 st:St):a.hr=true→(mrg b s1 st).h=st.h:=fun hm=>by
 rw[hm,Bool.and_true]at h3;simp only[mrg,h3,cond_false]
theorem Ql2 {a b:Fp}(h1:QgE b.w a.r=true)(h2:(b.mw&&a.mr)=false)(h3:(b.hw&&a.hr)=false)(s1 st:St)
 (h4:b.mw=true→a.mc=true→Gr st s1)(h5:b.hw=true→a.hc=true→HGr st s1):Agree a st (mrg b s1 st):=by
 refine⟨QfS h1 s1 st,Ql0 h2 s1 st,Ql1 h3 s1 st,fun hm=>?_,fun hm=>?_⟩
 ·cases hb:b.mw with
  |false=>rw[show mrg b s1 st={mrg b s1 st with m:=st.m,z:=st.z,nl:=st.nl} by simp only[mrg,hb,cond_false]];exact .refl _
  |true=>simp only[mrg,hb,cond_true];exact h4 hb hm
 ·refine HGr.some ?_
  cases hb:b.hw with
  |false=>rw[show mrg b s1 st={mrg b s1 st with h:=st.h} by simp only[mrg,hb,cond_false]];exact fun _ _ h=>h
  |true=>simp only[HGr,mrg,hb,cond_true];exact h5 hb hm
theorem Ql3 {a b:Fp}(h1:QgE b.w a.r=true)(h2:(b.mw&&a.mr)=false)(h3:(b.hw&&a.hr)=false)(s1 st:St)(h5:b.hw=true→a.hc=true→HGr st s1∧Old a st)
 (h4:b.mw=true→a.mc=true→(∀i c,(s1.m i c).cp=(st.m i c).cp)∧s1.z=st.z∧s1.nl=st.nl):Agree a (mrg b s1 st) st:=by
 refine⟨fun j hj=>(QfS h1 s1 st j hj).symm,fun hm=>?_,fun hm=>(Ql1 h3 s1 st hm).symm,fun hm=>?_,fun hm=>?_⟩
 ·obtain⟨e1,e2,e3⟩:=Ql0 h2 s1 st hm
  exact⟨e1.symm,e2.symm,e3.symm⟩
 ·cases hb:b.mw with
  |false=>rw[show mrg b s1 st={mrg b s1 st with m:=st.m,z:=st.z,nl:=st.nl} by simp only[mrg,hb,cond_false]];exact .refl _
  |true=>
   obtain⟨e1,e2,_⟩:=h4 hb hm
   simp only[Gr,mrg,hb,cond_true,e2]
   exact⟨fun i _ c=>(e1 i c).symm,fun _=>Nat.le_refl _⟩
 ·cases hb:b.hw with
  |false=>rw[show mrg b s1 st={mrg b s1 st with h:=st.h} by simp only[mrg,hb,cond_false]];exact fun _ _ _ _ _ _ h=>h
  |true=>
   obtain⟨hg,ho⟩:=h5 hb hm
   intro j hj id off ht bx hx
   rw[QfS h1 s1 st j hj]at ht
   have hlt:=ho hm j hj id off ht
   have h0:st.h.bx[id]? =some st.h.bx[id]:=List.getElem?_eq_getElem hlt
   have h2:=hg id _ h0
   simp only[mrg,hb,cond_true]at hx
   rw[h2]at hx
   rw[h0];exact hx
theorem Loc1.swap {a b:Fp}{F G:St→(St→Option R)→Option R}(hF:Loc1 a F)(hG:Loc1 b G)(h:indep a b=true){st:St}{K:St→Option R}{r:R}(hold:Old b st)
 (hr:F st (fun s=>G s K)=some r):G st (fun s=>F s K)=some r:=by
 have hi:=h
 simp only[indep,Bool.and_eq_true,Bool.not_eq_true']at hi
 obtain⟨⟨⟨⟨⟨⟨⟨⟨⟨⟨i1,i2⟩,i3⟩,i4⟩,i5⟩,i6⟩,i7⟩,i8⟩,i9⟩,i10⟩,i11⟩:=hi
 have i4':(a.mw&&b.mr)=false:=by revert i4;cases a.mw<;>cases b.mr<;>simp
 have i4'':(a.mw&&b.mw)=false:=by revert i4;cases a.mw<;>cases b.mr<;>cases b.mw<;>simp
 have i6':(a.hw&&b.hr)=false:=by revert i6;cases a.hw<;>cases b.hr<;>simp
 have i6'':(a.hw&&b.hw)=false:=by revert i6;cases a.hw<;>cases b.hr<;>cases b.hw<;>simp
 obtain⟨s1,f1,k1⟩:=hF st _ r hr
 rw[k1 st (Agree.refl a st)]at hr
 obtain⟨s2,f2,k2⟩:=hG _ _ r hr
 rw[k2 _ (Agree.refl b _)]at hr
 rw[k2 st (Ql3 i1 i4' i6' s1 st (fun h1 h2=>⟨f1.2.2 (by rw[h1,h2]at i10;simpa using i10),hold⟩) (fun h1 h2=>f1.1 (by rw[h1,h2]at i8;simpa using i8))),k1 _ (Ql2 i3 i5 i7 s2 st (fun h1 h2=>by
  have ha:a.mw=false:=by rw[h1,Bool.and_true]at i4'';exact i4''
  rw[h1,h2]at i9
  simp only[Bool.and_self,Bool.not_true,Bool.false_or,Bool.or_eq_true]at i9
  rcases i9 with hs|hs
  ·obtain⟨e1,e2,_⟩:=f2.1 hs
   simp only[mrg,ha,cond_false]at e1 e2
   exact⟨fun i _ c=>e1 i c,fun i=>by rw[e2];exact Nat.le_refl _⟩
  ·have:=f2.2.1 hs
   simpa only[Gr,mrg,ha,cond_false]using this) (fun h1 h2=>by
  have ha:a.hw=false:=by rw[h1,Bool.and_true]at i6'';exact i6''
  rw[h1,h2]at i11
  simp only[Bool.and_self,Bool.not_true,Bool.false_or]at i11
  have:=f2.2.2 i11
  simpa only[HGr,mrg,ha,cond_false]using this)),QnL h]
 exact hr
theorem Qpi:∀cs:List LV,cpL (cpL cs)=cpL cs
 |[]=>rfl
 |x::cs=>by
  simp only[cpL,Qpi cs]
  cases x<;>rfl
theorem QBS (x:LV):x.cp.cp=x.cp:=by cases x<;>simp[LV.cp,Qpi]
theorem Qlo (x:LV):x.cp.cpy1=x.cpy1:=by cases x<;>rfl
theorem Qo8 {m m':Nat→Nat→LV}{i:Nat}(h:∀c,(m' i c).cp=(m i c).cp):∀(n off:Nat),ldN m' i off n=ldN m i off n
 |0,_=>rfl
 |n+1,off=>by
  have e:(m' i off).cpy1=(m i off).cpy1:=by rw[←Qlo,h,Qlo]
  simp only[ldN,e,Qo8 h n]
def On (l:List Nat)(st st':St):Prop:=∀j,j∈l→st'.t j=st.t j
theorem On.left {l k:List Nat}{st st':St}(h:On (l++k) st st'):On l st st':=fun j hj=>h j (by simp[hj])
theorem On.right {l k:List Nat}{st st':St}(h:On (l++k) st st'):On k st st':=fun j hj=>h j (by simp[hj])
theorem QbV {x:Operand}{st st':St}(h:On (tmO x) st st'):st'.rd x=st.rd x:=by
 cases x<;>simp only[St.rd]
 rw[h _ (by simp[tmO])]
theorem Qbc {x:Operand}{st st':St}(h:On (tmO x) st st'):st'.rv x=st.rv x:=by
 cases x<;>simp only[St.rv]
 rw[h _ (by simp[tmO])]
theorem QA9 {x:Operand}{st st':St}(h:On (tmO x) st st'):st'.rb x=st.rb x:=by simp only[St.rb,QbV h]
theorem QhR {st:St}{r:R}:∀(xs:List Operand) (k:List AV→Option R),rvs st xs k=some r→∃as,k as=some r∧∀st',On (QdD xs) st st'→∀k':List AV→Option R,rvs st' xs k'=k' as
 |[],k,h=>⟨[],h,fun _ _ _=>rfl⟩
 |x::xs,k,h=>by
  simp only[rvs,Option.bind_eq_some_iff]at h
  obtain⟨a,ha,h⟩:=h
  obtain⟨as,h1,h2⟩:=QhR xs _ h
  exact⟨a::as,h1,fun st' hs k'=>by simp only[rvs,Qbc hs.left,ha,Option.bind_some,h2 st' hs.right]⟩
theorem QoS {st:St}{r:R}:∀(xs:List (Nat×Operand)) (k:List (Nat×AV)→Option R),rvp st xs k=some r→∃as,k as=some r∧∀st',On (Qvp xs) st st'→∀k':List (Nat×AV)→Option R,rvp st' xs k'=k' as
 |[],k,h=>⟨[],h,fun _ _ _=>rfl⟩
 |(i,x)::xs,k,h=>by
  simp only[rvp,Option.bind_eq_some_iff]at h
  obtain⟨a,ha,h⟩:=h
  obtain⟨as,h1,h2⟩:=QoS xs _ h
  exact⟨(i,a)::as,h1,fun st' hs k'=>by simp only[rvp,Qbc hs.left,ha,Option.bind_some,h2 st' hs.right]⟩
theorem QlQ {P:Program}{fs:List Field}{st:St}{r:R}:∀(xs:List (Nat×Operand)) (cs:List LV) (k:List LV→Option R),Qjj P fs st xs cs k=some r→
 ∃ds,k ds=some r∧∀st',On (Qvp xs) st st'→∀k':List LV→Option R,Qjj P fs st' xs cs k'=k' ds
 |[],cs,k,h=>⟨cs,h,fun _ _ _=>rfl⟩
 |(i,x)::xs,cs,k,h=>by
  simp only[Qjj,Option.bind_eq_some_iff]at h
  obtain⟨f,hf,z,hz,a,ha,ds,hds,h⟩:=h
  cases hb:Nat.ble (f.offset+z.1) cs.length with
  |false=>rw[hb]at h;cases h
  |true=>
   rw[hb,cond_true]at h
   obtain⟨es,h1,h2⟩:=QlQ xs _ _ h
   exact⟨es,h1,fun st' hs k'=>by simp only[Qjj,Qbc hs.left,hf,hz,ha,hds,hb,cond_true,Option.bind_some,h2 st' hs.right]⟩
def QfG:List Nat→(Nat→LV)→Nat→LV
 |[],t=>t
 |j::js,t=>QfG js (upd t j .un)
theorem Qc0:∀(l:List Nat) (t:Nat→LV) (j:Nat),QfG l t j=bif QbQ l j then .un else t j
 |[],t,j=>rfl
 |i::l,t,j=>by
  rw[QfG,Qc0 l]
  by_cases e:j=i
  ·subst e
   have:QbQ (j::l) j=true:=Qay.2 (by simp)
   rw[Qai,this]
   cases QbQ l j<;>rfl
  ·rw[Qao _ _ e]
   cases h:QbQ l j with
   |true=>rw[Qay.2 (by simp[Qay.1 h])]
   |false=>
    have:QbQ (i::l) j=false:=by
     cases h2:QbQ (i::l) j with
     |false=>rfl
     |true=>
      rcases List.mem_cons.1 (Qay.1 h2)with h3|h3
      ·exact absurd h3 e
      ·rw[Qay.2 h3]at h;cases h
    rw[this]
theorem QvL {x:Operand}{st st':St}(h:On (tmO x) st st'):st'.ra x=st.ra x:=by
 unfold St.ra
 split
 ·rfl
 ·exact Qbc h
theorem Qeu {tk:Bool}{r:R}:∀(xs:List Operand) (st:St) (k:List LV→St→Option R),args tk st xs k=some r→
 ∃ys,∀st',On (QdD xs) st st'→∀k':List LV→St→Option R,args tk st' xs k'=k' ys {st' with t:=QfG (bif tk then QdD xs else[]) st'.t}
 |[],st,k,h=>⟨[],fun st' _ k'=>by cases tk<;>rfl⟩
 |x::xs,st,k,h=>by
  have plain:((st.ra x).bind fun a=>args tk st xs fun as st=>k (.v a::as) st)=some r→∃a ys,st.ra x=some a∧∀st',On (QdD (x::xs)) st st'→∀k':List LV→St→Option R,
   ((st'.ra x).bind fun a=>args tk st' xs fun as st=>k' (.v a::as) st)=k' (.v a::ys) {st' with t:=QfG (bif tk then QdD xs else[]) st'.t}:=by
   intro h
   simp only[Option.bind_eq_some_iff]at h
   obtain⟨a,ha,h⟩:=h
   obtain⟨ys,h2⟩:=Qeu xs st _ h
   exact⟨a,ys,ha,fun st' hs k'=>by rw[QvL hs.left,ha,Option.bind_some,h2 st' hs.right]⟩
  have plainV:((st.rv x).bind fun a=>args tk st xs fun as st=>k (.v a::as) st)=some r→∃a ys,st.rv x=some a∧∀st',On (QdD (x::xs)) st st'→∀k':List LV→St→Option R,
   ((st'.rv x).bind fun a=>args tk st' xs fun as st=>k' (.v a::as) st)=k' (.v a::ys) {st' with t:=QfG (bif tk then QdD xs else[]) st'.t}:=by
   intro h
   simp only[Option.bind_eq_some_iff]at h
   obtain⟨a,ha,h⟩:=h
   obtain⟨ys,h2⟩:=Qeu xs st _ h
   exact⟨a,ys,ha,fun st' hs k'=>by rw[Qbc hs.left,ha,Option.bind_some,h2 st' hs.right]⟩
  cases tk with
  |false=>
   simp only[args,cond_false]at h
   obtain⟨a,ys,_,h2⟩:=plain h
   exact⟨_,fun st' hs k'=>by simp only[args,cond_false];exact h2 st' hs k'⟩
  |true=>
   simp only[args,cond_true]at h
   cases x with
   |tmp j=>
    simp only[Option.bind_eq_some_iff]at h
    obtain⟨a,ha,h⟩:=h
    obtain⟨ys,h2⟩:=Qeu xs _ _ h
    refine⟨a::ys,fun st' hs k'=>?_⟩
    simp only[args,cond_true]
    rw[hs j (by simp[QdD,tmO]),ha,Option.bind_some,h2 _ (fun i hi=>?_)]
    ·rfl
    ·show upd st'.t j .un i=upd st.t j .un i
     by_cases e:i=j
     ·subst e;rw[Qai,Qai]
     ·rw[Qao _ _ e,Qao _ _ e];exact hs i (by simp[QdD,hi])
   |_=>
    obtain⟨a,ys,_,h2⟩:=plainV h
    exact⟨_,fun st' hs k'=>by simp only[args,cond_true];exact h2 st' hs k'⟩
def Loc0 (l:List Nat)(F:St→(LV→St→Option R)→Option R):Prop:=
 ∀(st:St) (K:LV→St→Option R) (r:R),F st K=some r→∃x,∀st',On l st st'→∀K',F st' K'=K' x st'
theorem Qfp (p:Fp)(s1 st:St)(hw:p.w=[])(hm:p.mw=false)(hh:p.hw=false):mrg p s1 st=st:=by
 simp only[mrg,hw,hm,hh,cond_false,QbQ,List.any_nil]
theorem Loc0.loc {l:List Nat}{F:St→(LV→St→Option R)→Option R}(h:Loc0 l F):Loc ⟨l,[],false,false,false,false,false,false,false,false,false⟩ F:=by
 intro st K r hr
 obtain⟨x,hx⟩:=h st K r hr
 exact⟨x,st,.no rfl,fun st' ha K'=>by rw[hx st' ha.1,Qfp _ _ _ rfl rfl rfl]⟩
variable {cx:Cx} {orc:Orc} {f rid i:Nat} {o:Oper}
theorem Qo7 {x:Operand}{c:Value→LV}{tk:Bool}:Loc (R:=R) ⟨tmO x,bif tk then tmO x else[],false,false,false,false,false,false,false,false,false⟩ (fun st K=>
 bif tk then match x with|.tmp j=>K (st.t j) {st with t:=upd st.t j .un}|_=>none
 else match x with|.const v=>K (c v) st|x=>K (st.rd x) st):=by
 intro st K r h
 cases tk with
 |true=>
  cases x<;>simp only[cond_true,reduceCtorEq]at h
  rename_i j
  refine⟨st.t j,{st with t:=fun _=>.un},.no rfl,fun st' ha K'=>?_⟩
  simp only[cond_true,ha.1 j (by simp[tmO])]
  congr 1
  simp only[mrg,cond_false,St.mk.injEq,and_self,and_true]
  funext k
  have:=Qc0 [j] st'.t k
  simpa[QfG,tmO]using this
 |false=>
  simp only[cond_false]at h⊢
  refine Loc0.loc ?_ st K r h
  intro st K r h
  cases x with
  |const v=>exact⟨c v,fun st' _ K'=>rfl⟩
  |_=>exact⟨_,fun st' ha K'=>by simp only;rw[QbV ha]⟩
theorem QnT {A:Type}{W:A→LV}{pu tk ro fr:Bool}{xs:List Operand}{call:List LV→Heap→Option (A×Heap)}(hro:ro=true→∀ys h y,call ys h=some y→y.2=h)(hfr:fr=true→∀ys h y,call ys h=some y→∃l,y.2.bx=h.bx++l):
 Loc (R:=R) ⟨QdD xs,bif tk then QdD xs else[],false,false,!pu,!(pu||ro),false,false,false,false,fr⟩ (fun st K=>args tk st xs fun ys st=>Qap W pu ys (call ys) st K):=by
 intro st K r h
 simp only at h
 obtain⟨ys,hy⟩:=Qeu xs st _ h
 rw[hy st (fun _ _=>rfl)]at h
 have tms:∀(h':Heap) (st':St) (K':LV→St→Option R) (x:LV),((pu||ro)=true→h'=st'.h)→K' x {st' with t:=QfG (bif tk then QdD xs else[]) st'.t,h:=h'}=
  K' x (mrg ⟨QdD xs,bif tk then QdD xs else[],false,false,!pu,!(pu||ro),false,false,false,false,fr⟩ {st with t:=fun _=>.un,h:=h'} st'):=by
  intro h' st' K' x hp
  congr 1
  simp only[mrg,cond_false,St.mk.injEq,true_and]
  refine⟨funext fun j=>by rw[Qc0],?_⟩
  cases hpr:(pu||ro)with
  |true=>simp[hp hpr]
  |false=>rfl
 unfold Qap at h
 cases pu with
 |true=>
  simp only[cond_true]at h
  cases hn:Qbw ys with
  |false=>rw[hn]at h;cases h
  |true=>
   rw[hn]at h
   simp only[cond_true,Option.bind_eq_some_iff]at h
   obtain⟨q,hq,h⟩:=h
   cases hw:(W q.1).np with
   |false=>rw[hw]at h;cases h
   |true=>
    refine⟨W q.1,{st with t:=fun _=>.un},.fr rfl rfl (fun _ _ _ hb=>hb),fun st' ha K'=>?_⟩
    simp only
    rw[hy st' ha.1]
    simp only[Qap,cond_true,hn,hq,Option.bind_some,hw]
    exact(tms st'.h st' K' _ (fun _=>rfl)).trans rfl
 |false=>
  simp only[cond_false,Option.bind_eq_some_iff]at h
  obtain⟨q,hq,h⟩:=h
  have hg:fr=true→HGr st {st with t:=fun _=>.un,h:=q.2}:=fun hf id bx hb=>by
   obtain⟨l,e⟩:=hfr hf _ _ _ hq
   show q.2.bx[id]? =_
   rw[e,List.getElem?_append_left (List.getElem?_eq_some_iff.1 hb).1]
   exact hb
  refine⟨W q.1,{st with t:=fun _=>.un,h:=q.2},.fr rfl rfl hg,fun st' ha K'=>?_⟩
  simp only
  rw[hy st' ha.1]
  have hh:st'.h=st.h:=ha.2.2.1 rfl
  simp only[Qap,cond_false,hh,hq,Option.bind_some]
  exact tms q.2 st' K' _ (fun h=>by rw[Bool.false_or]at h;exact(hro h _ _ _ hq).trans hh.symm)
theorem Qaq {b:Bool}{x:Option R}{r:R}:(bif b then x else none)=some r↔b=true∧x=some r:=by cases b<;>simp
def QrB (hp:Bool)(a:Operand)(n:Nat)(g:Nat→LV)(l:List LV)(st:St)(K:LV→St→Option R):Option R:=
 bif hp then match st.rd a with|.v p=>(stP st.h p l).bind fun h=>K .ud {st with h}|_=>none
 else match st.rd a with|.lp b off=>bif Nat.ble (off+n) (st.z b)then K .ud {st with m:=stN st.m b off g n}else none|_=>none
def Qtu (z:Nat×Bool)(hp:Bool)(a:Operand)(y:LV)(st:St)(K:LV→St→Option R):Option R:=
 match y with
 |.ag ls=>bif Nat.beq ls.length z.1&&ls.all LV.isC then QrB hp a z.1 (fun j=>ls.getD j .un) ls st K else none
 |.v a'=>(a'.toC z.1).bind fun cs=>QrB hp a z.1 (fun j=>.v (gd cs j)) (cs.map .v) st K
 |.ow n xs=>bif Nat.beq z.1 1 then QrB hp a 1 (fun _=>.ow n xs) [.ow n xs] st K else none
 |_=>none
def Qvw (P:Program)(t:TypeId)(x:Operand)(st:St):LV:=
 match x with
 |.const c=>lvC P t c
 |x=>st.rd x
theorem QeR {P:Program}{hp:Bool}{t:TypeId}{a x:Operand}{st:St}{K:LV→St→Option R}:
 Qa8 P hp false t a x st K=(tyz P t).bind fun z=>bif !Nat.blt 0 z.1 then none else Qtu z hp a (Qvw P t x st) st K:=by
 unfold Qa8
 cases tyz P t with
 |none=>rfl
 |some z=>
  simp only[Option.bind_some]
  cases Nat.blt 0 z.1 with
  |false=>rfl
  |true=>cases x<;>rfl
theorem Qq2 {P:Program}{t:TypeId}{x:Operand}{st st':St}(h:On (tmO x) st st'):Qvw P t x st'=Qvw P t x st:=by
 cases x with
 |const c=>rfl
 |_=>exact QbV h
theorem Qhc {hp:Bool}{a x:Operand}{n:Nat}{g:Nat→LV}{l:List LV}{st:St}{K:LV→St→Option R}{r:R}(h:QrB hp a n g l st K=some r):
 ∃s1,∀st',Agree ⟨tmO a++tmO x,[],!hp,!hp,hp,hp,false,false,false,false,false⟩ st st'→∀K':LV→St→Option R,QrB hp a n g l st' K'=K' .ud (mrg ⟨tmO a++tmO x,[],!hp,!hp,hp,hp,false,false,false,false,false⟩ s1 st'):=by
 unfold QrB at h
 unfold QrB
 cases hp with
 |true=>
  simp only[cond_true]at h⊢
  cases hx:st.rd a<;>rw[hx]at h<;>simp only[reduceCtorEq,Option.bind_eq_some_iff]at h
  obtain⟨h1,hh,_⟩:=h
  refine⟨{st with h:=h1},fun st' ha K'=>?_⟩
  have e:st'.h=st.h:=ha.2.2.1 rfl
  rw[QbV (On.left ha.1),hx]
  simp only[e,hh,Option.bind_some,mrg,QbQ,List.any_nil,cond_false,cond_true,Bool.not_true]
 |false=>
  simp only[cond_false]at h⊢
  cases hx:st.rd a<;>rw[hx]at h<;>simp only[reduceCtorEq]at h
  rename_i b off
  rw[Qaq]at h
  refine⟨{st with m:=stN st.m b off g n},fun st' ha K'=>?_⟩
  obtain⟨e1,e2,e3⟩:=ha.2.1 rfl
  rw[QbV (On.left ha.1),hx]
  simp only[e1,e2,e3,h.1,cond_true,mrg,QbQ,List.any_nil,cond_false,Bool.not_false]
theorem QkA {P:Program}{hp:Bool}{t:TypeId}{a x:Operand}{st:St}{K:LV→St→Option R}{r:R}(h:Qa8 P hp false t a x st K=some r):
 ∃s1,∀st',Agree ⟨tmO a++tmO x,[],!hp,!hp,hp,hp,false,false,false,false,false⟩ st st'→∀K':LV→St→Option R,Qa8 P hp false t a x st' K'=K' .ud (mrg ⟨tmO a++tmO x,[],!hp,!hp,hp,hp,false,false,false,false,false⟩ s1 st'):=by
 rw[QeR]at h
 simp only[Option.bind_eq_some_iff]at h
 obtain⟨z,hz,h⟩:=h
 cases hz0:Nat.blt 0 z.1 with
 |false=>rw[hz0]at h;cases h
 |true=>
 rw[hz0]at h
 simp only[Bool.not_true,cond_false]at h
 have e:∀st',On (tmO x) st st'→∀K':LV→St→Option R,Qa8 P hp false t a x st' K'=Qtu z hp a (Qvw P t x st) st' K':=by
  intro st' ho K'
  rw[QeR,hz,Option.bind_some,hz0,Qq2 ho]
  rfl
 generalize Qvw P t x st=y at h e
 cases y<;>simp only[Qtu,reduceCtorEq]at h
 ·rw[Option.bind_eq_some_iff]at h
  obtain⟨cs,hcs,h⟩:=h
  obtain⟨s1,k⟩:=Qhc (x:=x) h
  exact⟨s1,fun st' ha K'=>by rw[e st' (On.right ha.1) K'];simp only[Qtu];rw[hcs,Option.bind_some];exact k st' ha K'⟩
 ·rw[Qaq]at h
  obtain⟨s1,k⟩:=Qhc (x:=x) h.2
  exact⟨s1,fun st' ha K'=>by rw[e st' (On.right ha.1) K'];simp only[Qtu];rw[h.1,cond_true];exact k st' ha K'⟩
 ·rw[Qaq]at h
  obtain⟨s1,k⟩:=Qhc (x:=x) h.2
  exact⟨s1,fun st' ha K'=>by rw[e st' (On.right ha.1) K'];simp only[Qtu];rw[h.1,cond_true];exact k st' ha K'⟩
theorem QoL (m:Nat→Nat→LV)(i off:Nat)(g:Nat→LV){j c:Nat}:∀(n:Nat),j≠i→stN m i off g n j c=m j c
 |0,_=>rfl
 |n+1,h=>by
  simp only[stN,Qng]
  have:Nat.beq j i=false:=by
   cases hb:Nat.beq j i with
   |false=>rfl
   |true=>exact absurd (Nat.eq_of_beq_eq_true hb) h
  rw[this,Bool.false_and,cond_false]
  exact QoL m i off g n h
theorem QvK {st:St}{x:Operand}{id off:Nat}(h:st.rd x=.v (.ptr id off)):∃j,x=.tmp j∧st.t j=.v (.ptr id off):=by
 cases x with
 |tmp j=>
  refine⟨j,rfl,?_⟩
  simp only[St.rd]at h
  cases ht:st.t j<;>rw[ht]at h<;>simp only[LV.cp,reduceCtorEq,LV.v.injEq]at h
  rw[h]
 |const c=>
  simp only[St.rd]at h
  split at h
  ·rename_i a ha
   simp only[LV.v.injEq]at h
   subst h
   unfold avC at ha
   split at ha<;>cases ha
  ·cases h
 |func g=>simp only[St.rd,LV.v.injEq,reduceCtorEq]at h
 |global g=>simp only[St.rd,reduceCtorEq]at h
theorem QnW {st st':St}{x:Operand}(hg:QCd (tmO x) st st'){p:AV}(hx:st.rd x=.v p){n:Nat}{ag:Bool}{y:AV}(h:ldP st.h p n ag=some y):ldP st'.h p n ag=some y:=by
 unfold ldP at h⊢
 split at h
 ·simp only[Option.bind_eq_some_iff]at h⊢
  obtain⟨bx,hb,h⟩:=h
  obtain⟨j,rfl,hj⟩:=QvK hx
  exact⟨bx,hg j (by simp[tmO]) _ _ hj _ hb,h⟩
 ·cases h
theorem Qkh {p:Fp}(hn:QaG o.op=none)(h:Qdn cx f rid i o.op=some p):Loc (R:=R) p (opO cx orc f rid i o):=by
 cases ho:o.op<;>rw[ho]at h<;>simp only[Qdn,reduceCtorEq,Option.some.injEq]at h
 case move x=>
  cases har:cx.arr f rid i with
  |true=>rw[har]at h;cases h
  |false=>
  rw[har]at h
  simp only[cond_false,Option.some.injEq]at h
  subst h
  exact fun st K r h=>by
   have:=Qo7 (R:=R) (x:=x) (c:=lvC cx.P o.type) (tk:=cx.take f rid i) st K r (by
    unfold opO at h;rw[ho]at h;simp only[har,cond_false]at h;exact h)
   obtain⟨y,s1,_,k⟩:=this
   exact⟨y,s1,.no rfl,fun st' ha K'=>by unfold opO;rw[ho];simp only[har,cond_false];exact k st' ha K'⟩
 case assign x=>
  cases har:cx.arr f rid i with
  |true=>rw[har]at h;cases h
  |false=>
  rw[har]at h
  simp only[cond_false,Option.some.injEq]at h
  subst h
  exact fun st K r h=>by
   have:=Qo7 (R:=R) (x:=x) (c:=lvC cx.P o.type) (tk:=cx.take f rid i) st K r (by
    unfold opO at h;rw[ho]at h;simp only[har,cond_false]at h;exact h)
   obtain⟨y,s1,_,k⟩:=this
   exact⟨y,s1,.no rfl,fun st' ha K'=>by unfold opO;rw[ho];simp only[har,cond_false];exact k st' ha K'⟩
 case pick c x y=>
  subst h
  refine Loc0.loc fun st K r h=>?_
  unfold opO at h;rw[ho]at h
  simp only[Option.bind_eq_some_iff]at h
  obtain⟨b,hb,h⟩:=h
  refine⟨bif b then st.rd x else st.rd y,fun st' ha K'=>?_⟩
  unfold opO;rw[ho]
  simp only[QA9 ha.left,QbV ha.right.left,QbV ha.right.right,hb,Option.bind_some]
  cases b<;>rfl
 case alloc e=>
  subst h
  intro st K r h
  unfold opO at h;rw[ho]at h
  simp only[Option.bind_eq_some_iff,Qaq]at h
  obtain⟨z,hz,zc,hzc,hb,h⟩:=h
  cases hp:cx.heap f rid i with
  |true=>
   refine⟨.v (.ptr st.h.bx.length 0),{st with h:=Qdi st.h zc},⟨fun h=>(by cases h),fun h=>(by cases h),fun _ id bx hx=>?_⟩,fun st' ha K'=>?_⟩
   ·simp only[Qdi]
    rw[List.getElem?_append_left (List.getElem?_eq_some_iff.1 hx).1]
    exact hx
   ·have e1:st'.h=st.h:=ha.2.2.1 rfl
    unfold opO;rw[ho]
    simp only[hz,hzc,hb,hp,e1,Option.bind_some,cond_true,mrg,Bool.not_true,cond_false,QbQ,List.any_nil]
  |false=>
   rw[hp]at h
   simp only[cond_false,Qaq]at h
   obtain⟨h0,h⟩:=h
   have z0:=Nat.eq_of_beq_eq_true h0
   refine⟨.lp st.nl 0,{st with m:=stN st.m st.nl 0 (fun j=>zc.getD j .un) z.1,z:=upd st.z st.nl z.1,nl:=st.nl+1},⟨fun h=>(by cases h),fun _=>⟨fun j hj c=>?_,fun j=>?_⟩,fun h=>(by cases h)⟩,fun st' ha K'=>?_⟩
   ·have hne:j≠st.nl:=by rintro rfl;omega
    simp only
    rw[QoL _ _ _ _ _ hne]
   ·simp only
    by_cases e:j=st.nl
    ·subst e;rw[z0];exact Nat.zero_le _
    ·rw[Qao _ _ e];exact Nat.le_refl _
   ·obtain⟨e1,e2,e3⟩:=ha.2.1 rfl
    unfold opO;rw[ho]
    simp only[hz,hzc,hb,hp,e1,e2,e3,h0,Option.bind_some,cond_true,mrg,Bool.not_false,cond_false,QbQ,List.any_nil]
 case build t ps=>
  subst h
  refine Loc0.loc fun st K r h=>?_
  unfold opO at h;rw[ho]at h
  simp only[Option.bind_eq_some_iff]at h
  obtain⟨fs,hfs,zc,hzc,h⟩:=h
  cases hall:(fs.all fun f=>(tyz cx.P f.type).isSome)with
  |false=>rw[hall]at h;cases h
  |true=>
   rw[hall,cond_true]at h
   obtain⟨ds,_,h2⟩:=QlQ _ _ _ h
   refine⟨.ag ds,fun st' ha K'=>?_⟩
   unfold opO;rw[ho]
   simp only[hfs,hzc,Option.bind_some,hall,cond_true]
   exact h2 st' ha _
 case buildSlice t l ps=>
  subst h
  intro st K r h
  unfold opO at h;rw[ho]at h
  simp only[Option.bind_eq_some_iff]at h
  obtain⟨e,he,z,hz,zc,hzc,h⟩:=h
  obtain⟨as,h1,h2⟩:=QoS _ _ h
  simp only[Qaq,Option.bind_eq_some_iff]at h1
  obtain⟨hb,xs,hx,h3⟩:=h1
  cases hp:cx.heap f rid i with
  |false=>
   refine⟨.ow z.1 xs,st,.no rfl,fun st' ha K'=>?_⟩
   rw[Qfp _ _ _ rfl rfl rfl]
   unfold opO;rw[ho]
   simp only[he,hz,hzc,Option.bind_some]
   rw[h2 st' ha.1]
   simp only[hb,hx,hp,cond_true,cond_false,Option.bind_some]
  |true=>
   rw[hp]at h3
   simp only[cond_true]at h3
   cases hl:Nat.blt 0 l with
   |false=>
    refine⟨.v .nilE,st,⟨fun h=>(by cases h),fun h=>(by cases h),fun _ id bx hx=>hx⟩,fun st' ha K'=>?_⟩
    have e1:st'.h=st.h:=ha.2.2.1 rfl
    unfold opO;rw[ho]
    simp only[he,hz,hzc,Option.bind_some]
    rw[h2 st' ha.1]
    simp only[hb,hx,hp,hl,←e1,cond_true,Option.bind_some,mrg,cond_false,QbQ,List.any_nil]
   |true=>
   refine⟨.v (.arr z.1 st.h.bx.length 0 l),{st with h:=Qdi st.h (Qal xs)},⟨fun h=>(by cases h),fun h=>(by cases h),fun _ id bx hx=>?_⟩,fun st' ha K'=>?_⟩
   ·simp only[Qdi]
    rw[List.getElem?_append_left (List.getElem?_eq_some_iff.1 hx).1]
    exact hx
   ·have e1:st'.h=st.h:=ha.2.2.1 rfl
    unfold opO;rw[ho]
    simp only[he,hz,hzc,Option.bind_some]
    rw[h2 st' ha.1]
    simp only[hb,hx,hp,hl,e1,cond_true,Option.bind_some,mrg,cond_false,QbQ,List.any_nil]
 case store t a x=>
  cases ht:cx.take f rid i with
  |true=>rw[ht]at h;cases h
  |false=>
  rw[ht]at h
  simp only[cond_false,Option.some.injEq]at h
  subst h
  intro st K r h
  unfold opO at h;rw[ho]at h
  simp only[ht]at h
  obtain⟨s1,k⟩:=QkA h
  exact⟨.ud,s1,.no rfl,fun st' ha K'=>by unfold opO;rw[ho];simp only[ht];exact k st' ha K'⟩
 case nilCheck x=>
  subst h
  refine Loc0.loc fun st K r h=>?_
  unfold opO at h;rw[ho]at h
  simp only at h
  cases hx:st.rd x<;>rw[hx]at h<;>simp only[reduceCtorEq]at h
  ·rename_i a
   simp only[Option.bind_eq_some_iff]at h
   obtain⟨b,hb,_⟩:=h
   exact⟨.v b,fun st' ha K'=>by unfold opO;rw[ho];simp only[QbV ha,hx,hb,Option.bind_some]⟩
  ·rename_i b off
   exact⟨.lp b off,fun st' ha K'=>by unfold opO;rw[ho];simp only[QbV ha,hx]⟩
 case binOp op t x y ty=>
  subst h
  refine Loc0.loc fun st K r h=>?_
  unfold opO at h;rw[ho]at h
  simp only[Option.bind_eq_some_iff]at h
  obtain⟨a,ha,b,hb,c,hc,_⟩:=h
  exact⟨.v c,fun st' hs K'=>by unfold opO;rw[ho];simp only[Qbc hs.left,Qbc hs.right,ha,hb,hc,Option.bind_some]⟩
 case unOp op t x=>
  subst h
  refine Loc0.loc fun st K r h=>?_
  unfold opO at h;rw[ho]at h
  simp only[Option.bind_eq_some_iff]at h
  obtain⟨a,ha,c,hc,_⟩:=h
  exact⟨.v c,fun st' hs K'=>by unfold opO;rw[ho];simp only[Qbc hs,ha,hc,Option.bind_some]⟩
 case convert s d x=>
  cases hp:cx.heap f rid i with
  |true=>rw[hp]at h;cases h
  |false=>
  rw[hp]at h
  simp only[cond_false,Option.some.injEq]at h
  subst h
  refine Loc0.loc fun st K r h=>?_
  unfold opO at h;rw[ho]at h
  simp only[hp,cond_false,Option.bind_eq_some_iff]at h
  obtain⟨a,ha,c,hc,_⟩:=h
  exact⟨c,fun st' hs K'=>by unfold opO;rw[ho];simp only[hp,cond_false,Qbc hs,ha,hc,Option.bind_some]⟩
 case makeInterface t x=>
  subst h
  refine Loc0.loc fun st K r h=>?_
  unfold opO at h;rw[ho]at h
  simp only[Option.bind_eq_some_iff]at h
  obtain⟨d,hd,a,ha,h⟩:=h
  refine⟨.v (.ifc t a),fun st' hs K'=>?_⟩
  unfold opO;rw[ho]
  simp only[Qbc hs,hd,ha,Option.bind_some]
  cases d<;>first|rfl|cases h
 case slice t x lo hi mx=>
  subst h
  refine Loc0.loc fun st K r h=>?_
  unfold opO at h;rw[ho]at h
  simp only[Option.bind_eq_some_iff]at h
  obtain⟨a,ha,h⟩:=h
  obtain⟨ls,h1,h2⟩:=QhR _ _ h
  obtain⟨us,h3,h4⟩:=QhR _ _ h1
  simp only[Qaq,Option.bind_eq_some_iff]at h3
  obtain⟨hm,c,hc,hb,_⟩:=h3
  refine⟨.v c,fun st' hs K'=>?_⟩
  unfold opO;rw[ho]
  simp only[Qbc hs.left,ha,Option.bind_some]
  rw[h2 st' hs.right.left,h4 st' hs.right.right]
  simp only[hm,hc,hb,cond_true,Option.bind_some]
 case fieldAddr t x j=>
  subst h
  refine Loc0.loc fun st K r h=>?_
  unfold opO at h;rw[ho]at h
  simp only[Option.bind_eq_some_iff,Qaq]at h
  obtain⟨fs,hfs,fl,hfl,z,hz,hb,h⟩:=h
  cases hx:st.rd x<;>rw[hx]at h<;>simp only[reduceCtorEq]at h
  ·rename_i a
   simp only[Option.bind_eq_some_iff]at h
   obtain⟨b,hb2,_⟩:=h
   exact⟨.v b,fun st' ha K'=>by unfold opO;rw[ho];simp only[hfs,hfl,hz,hb,cond_true,QbV ha,hx,hb2,Option.bind_some]⟩
  ·rename_i b off
   exact⟨.lp b (off+fl.offset),fun st' ha K'=>by unfold opO;rw[ho];simp only[hfs,hfl,hz,hb,cond_true,QbV ha,hx,Option.bind_some]⟩
 case field t x j=>
  subst h
  refine Loc0.loc fun st K r h=>?_
  unfold opO at h;rw[ho]at h
  simp only[Option.bind_eq_some_iff]at h
  obtain⟨fs,hfs,fl,hfl,z,hz,a,ha,c,hc,_⟩:=h
  exact⟨.v c,fun st' hs K'=>by unfold opO;rw[ho];simp only[hfs,hfl,hz,Qbc hs,ha,hc,Option.bind_some]⟩
 case indexAddr t x ix=>
  subst h
  refine Loc0.loc fun st K r h=>?_
  unfold opO at h;rw[ho]at h
  simp only[Option.bind_eq_some_iff]at h
  obtain⟨e,he,z,hz,a,ha,b,hb,n,hn,h⟩:=h
  cases hp:cx.heap f rid i with
  |true=>
   rw[hp]at h
   simp only[cond_true,Option.bind_eq_some_iff]at h
   obtain⟨q,hq,_⟩:=h
   exact⟨.v q,fun st' hs K'=>by unfold opO;rw[ho];simp only[he,hz,Qbc hs.left,Qbc hs.right,ha,hb,hn,hp,hq,cond_true,Option.bind_some]⟩
  |false=>
   rw[hp]at h
   simp only[cond_false,Option.bind_eq_some_iff]at h
   obtain⟨q,hq,_⟩:=h
   exact⟨.v (.snap q),fun st' hs K'=>by unfold opO;rw[ho];simp only[he,hz,Qbc hs.left,Qbc hs.right,ha,hb,hn,hp,hq,cond_false,Option.bind_some]⟩
 case index t x ix=>
  subst h
  refine Loc0.loc fun st K r h=>?_
  unfold opO at h;rw[ho]at h
  simp only[Option.bind_eq_some_iff]at h
  obtain⟨a,ha,b,hb,n,hn,c,hc,_⟩:=h
  exact⟨.v c,fun st' hs K'=>by unfold opO;rw[ho];simp only[Qbc hs.left,Qbc hs.right,ha,hb,hn,hc,Option.bind_some]⟩
 case extract x j=>
  subst h
  refine Loc0.loc fun st K r h=>?_
  unfold opO at h;rw[ho]at h
  simp only[Option.bind_eq_some_iff]at h
  obtain⟨a,ha,_⟩:=h
  exact⟨.v a,fun st' hs K'=>by unfold opO;rw[ho];simp only[QbV hs,ha,Option.bind_some]⟩
 case load t x=>
  have h:(bif cx.take f rid i then(bif cx.heap f rid i then some ⟨tmO x,[],false,false,true,true,false,false,false,false,false⟩else some ⟨tmO x,[],true,true,false,false,false,true,false,false,false⟩)else some ⟨tmO x,[],false,false,false,false,!cx.heap f rid i,false,false,cx.heap f rid i,false⟩)=some p:=by
   rw[ho]at hn
   cases x<;>first|exact h|(simp only[QaG]at hn;cases hn)
  cases ht:cx.take f rid i with
  |true=>
   rw[ht]at h
   simp only[cond_true]at h
   cases hp:cx.heap f rid i with
   |true=>
    rw[hp]at h
    simp only[cond_true,Option.some.injEq]at h
    subst h
    intro st K r h
    unfold opO at h;rw[ho]at h
    simp only[Option.bind_eq_some_iff,ht,hp,cond_true]at h
    obtain⟨z,hz,h⟩:=h
    cases hx:st.rd x<;>rw[hx]at h<;>simp only[reduceCtorEq]at h
    cases h2:z.2 with
    |true=>rw[h2]at h;cases h
    |false=>
    rw[h2,cond_false,Option.bind_eq_some_iff]at h
    obtain⟨y,hy,_⟩:=h
    refine⟨y.1,{st with h:=y.2},.no rfl,fun st' ha K'=>?_⟩
    have hh:=ha.2.2.1 rfl
    unfold opO;rw[ho]
    simp only[hz,hp,ht,h2,cond_true,cond_false,QbV (show On (tmO x) st st' from ha.1),hx,hh,hy,Option.bind_some,mrg,QbQ,List.any_nil]
   |false=>
   rw[hp]at h
   simp only[cond_false,Option.some.injEq]at h
   subst h
   intro st K r h
   unfold opO at h;rw[ho]at h
   simp only[Option.bind_eq_some_iff,ht,hp,cond_true,cond_false]at h
   obtain⟨z,hz,h⟩:=h
   cases hx:st.rd x<;>rw[hx]at h<;>simp only[reduceCtorEq]at h
   rename_i b off
   simp only[Qaq]at h
   obtain⟨hb,h⟩:=h
   cases h2:z.2 with
   |true=>rw[h2]at h;cases h
   |false=>
   rw[h2]at hb
   refine⟨st.m b off,{st with m:=Qng st.m b off (st.m b off).cp},⟨fun _=>⟨fun i' c'=>?_,rfl,rfl⟩,fun h=>(by cases h),fun h=>(by cases h)⟩,fun st' ha K'=>?_⟩
   ·simp only[Qng]
    cases hh:(Nat.beq i' b&&Nat.beq c' off)with
    |false=>rfl
    |true=>
     rw[Bool.and_eq_true]at hh
     rw[Nat.eq_of_beq_eq_true hh.1,Nat.eq_of_beq_eq_true hh.2,cond_true,QBS]
   ·obtain⟨e1,e2,e3⟩:=ha.2.1 rfl
    unfold opO;rw[ho]
    simp only[hz,hp,ht,h2,cond_true,cond_false,QbV (show On (tmO x) st st' from ha.1),hx,e1,e2,e3,Option.bind_some,mrg,QbQ,List.any_nil]
    simp only[cond_false]at hb
    simp only[hb,cond_true]
  |false=>
  rw[ht]at h
  simp only[cond_false,Option.some.injEq]at h
  subst h
  intro st K r h
  unfold opO at h;rw[ho]at h
  simp only[Option.bind_eq_some_iff,ht,cond_false]at h
  obtain⟨z,hz,h⟩:=h
  have fin:∀(y:LV),(∀st',On (tmO x) st st'→Agree ⟨tmO x,[],false,false,false,false,!cx.heap f rid i,false,false,cx.heap f rid i,false⟩ st st'→∀K':LV→St→Option R,opO cx orc f rid i o st' K'=K' y st')→
   ∃x' s1,Sft ⟨tmO x,[],false,false,false,false,!cx.heap f rid i,false,false,cx.heap f rid i,false⟩ s1 st∧∀st',Agree ⟨tmO x,[],false,false,false,false,!cx.heap f rid i,false,false,cx.heap f rid i,false⟩ st st'→∀K':LV→St→Option R,opO cx orc f rid i o st' K'=K' x' (mrg ⟨tmO x,[],false,false,false,false,!cx.heap f rid i,false,false,cx.heap f rid i,false⟩ s1 st'):=
   fun y k=>⟨y,st,.no rfl,fun st' ha K'=>by rw[k st' ha.1 ha,Qfp _ _ _ rfl rfl rfl]⟩
  cases hp:cx.heap f rid i with
  |true=>
   rw[hp]at h fin
   simp only[cond_true]at h
   cases hx:st.rd x<;>rw[hx]at h<;>simp only[reduceCtorEq,Option.bind_eq_some_iff]at h
   obtain⟨y,hy,_⟩:=h
   refine fin (.v y) fun st' hs ha K'=>?_
   have hy':=QnW (ha.2.2.2.2 rfl) hx hy
   unfold opO;rw[ho]
   simp only[hz,hp,ht,cond_true,cond_false,QbV hs,hx,hy',Option.bind_some]
  |false=>
   rw[hp]at h fin
   simp only[cond_false]at h
   cases hx:st.rd x<;>rw[hx]at h<;>simp only[reduceCtorEq]at h
   ·simp only[Option.bind_eq_some_iff]at h
    obtain⟨y,hy,_⟩:=h
    refine fin (.v y) fun st' hs ha K'=>?_
    unfold opO;rw[ho]
    simp only[hz,hp,ht,cond_false,QbV hs,hx,hy,Option.bind_some]
   ·rename_i b off
    simp only[Qaq]at h
    obtain⟨hb,h⟩:=h
    cases h2:z.2 with
    |true=>
     rw[h2]at h hb
     simp only[cond_true,Option.bind_eq_some_iff]at h hb
     obtain⟨cs,hcs,_⟩:=h
     refine fin (.v (.agg cs)) fun st' hs ha K'=>?_
     have hm:=ha.2.2.2.1 rfl
     have hb':Nat.ble (off+z.1) (st'.z b)=true:=Nat.ble_eq_true_of_le (Nat.le_trans (Nat.le_of_ble_eq_true hb) (hm.2 b))
     have hcs':ldN st'.m b off z.1=some cs:=by
      cases hz1:z.1 with
      |zero=>rw[hz1]at hcs;exact hcs
      |succ n=>
       rw[←hz1,Qo8 (m:=st.m) (m':=st'.m) (hm.1 b (by have:=Nat.le_of_ble_eq_true hb;omega))]
       exact hcs
     unfold opO;rw[ho]
     simp only[hz,hp,ht,h2,cond_true,cond_false,QbV hs,hx,hb',hcs',Option.bind_some]
    |false=>
     rw[h2]at h hb
     simp only[cond_false]at h hb
     refine fin (st.m b off).cp fun st' hs ha K'=>?_
     have hm:=ha.2.2.2.1 rfl
     have hb':Nat.ble (off+1) (st'.z b)=true:=Nat.ble_eq_true_of_le (Nat.le_trans (Nat.le_of_ble_eq_true hb) (hm.2 b))
     have hc:=hm.1 b (by have:=Nat.le_of_ble_eq_true hb;omega) off
     unfold opO;rw[ho]
     simp only[hz,hp,ht,h2,cond_true,cond_false,QbV hs,hx,hc,hb',Option.bind_some]
 case call c=>
  obtain⟨callee,ags,tys⟩:=c
  cases callee<;>try (simp only at h;cases h;done)
  case builtin b=>
   cases b<;>try (simp only at h;cases h;done)
   case len=>
    simp only at h
    split at h
    all_goals (try (rename_i heq;cases heq;done))
    all_goals (try (rename_i heq _;cases heq;done))
    all_goals (try (cases h;done))
    ·rename_i x _ hx
     simp only[Option.some.injEq]at h
     subst h
     refine Loc0.loc fun st K r h=>?_
     unfold opO at h;rw[ho]at h
     simp only[Qat,hx,Option.bind_eq_some_iff]at h
     obtain⟨a,ha,n,hn,_⟩:=h
     exact⟨.v (.int .i64 n),fun st' hs K'=>by unfold opO;rw[ho];simp only[Qat,hx,Qbc hs,ha,hn,Option.bind_some]⟩
   case min=>
    simp only at h
    split at h
    all_goals (try (rename_i heq;cases heq;done))
    all_goals (try (rename_i heq _;cases heq;done))
    all_goals (try (cases h;done))
    rename_i x y _ hx
    simp only[Option.some.injEq]at h
    subst h
    refine Loc0.loc fun st K r h=>?_
    unfold opO at h;rw[ho]at h
    simp only[Qat,hx,Option.bind_eq_some_iff]at h
    obtain⟨a,ha,b,hb,n,hn,_⟩:=h
    exact⟨.v n,fun st' hs K'=>by unfold opO;rw[ho];simp only[Qat,hx,Qbc hs.left,Qbc hs.right,ha,hb,hn,Option.bind_some]⟩
   case copy=>
    simp only at h
    split at h
    all_goals (try (rename_i heq;cases heq;done))
    all_goals (try (rename_i heq _;cases heq;done))
    all_goals (try (cases h;done))
    rename_i x y heq hx
    simp only[Option.some.injEq]at h
    subst h
    intro st K r h
    unfold opO at h;rw[ho]at h
    simp only[Qat,hx]at h
    have ets:∃q,q=(tys.toList.head?.bind (QaA cx.P)):=⟨_,rfl⟩
    obtain⟨et,het⟩:=ets
    rw[←het]at h
    simp only[Option.bind_eq_some_iff,Qaq]at h
    obtain⟨e,he,ti,hti,hc,d,hd,s,hs,q,hq,_⟩:=h
    refine⟨.v q.1,{st with h:=q.2},.no rfl,fun st' ha K'=>?_⟩
    have hh:st'.h=st.h:=ha.2.2.1 rfl
    unfold opO;rw[ho]
    simp only[Qat,hx,←het,he,hti,hc,Qbc (On.left ha.1),Qbc (On.right ha.1),hd,hs,hh,hq,Option.bind_some,cond_true,mrg,QbQ,List.any_nil,cond_false]
   case append=>
    simp only at h
    split at h
    all_goals (try (rename_i heq;cases heq;done))
    all_goals (try (rename_i heq _;cases heq;done))
    all_goals (try (cases h;done))
    rename_i x y heq hx
    cases hph:cx.heap f rid i with
    |true=>
     rw[hph]at h
     simp only[cond_true,Option.some.injEq]at h
     subst h
     intro st K r h
     unfold opO at h;rw[ho]at h
     simp only[Qat,hx,hph,cond_true]at h
     obtain⟨et,het⟩:∃q,q=(tys.toList.head?.bind (QaA cx.P)):=⟨_,rfl⟩
     rw[←het]at h
     simp only[Option.bind_eq_some_iff,Qaq]at h
     obtain⟨e,he,ti,hti,zc,hzc,a,ha,ys,hys,hc,p,hp,q,hq,_⟩:=h
     refine⟨.v q.1,{st with h:=q.2},.no rfl,fun st' ha' K'=>?_⟩
     have hh:st'.h=st.h:=ha'.2.2.1 rfl
     have hp':st'.ra x=some p:=by rw[QvL (On.left ha'.1)];exact hp
     unfold opO;rw[ho]
     simp only[Qat,hx,hph,←het,he,hti,hzc,Qbc (On.right ha'.1),ha,hh,hys,hc,hp',hq,Option.bind_some,cond_true,cond_false,mrg,QbQ,List.any_nil]
    |false=>
    cases har:cx.arr f rid i with
    |true=>rw[hph,har]at h;cases h
    |false=>
    rw[har]at h
    rw[hph]at h
    simp only[cond_false,Option.some.injEq]at h
    subst h
    intro st K r h
    unfold opO at h;rw[ho]at h
    simp only[Qat,hx,har,hph,elX,cond_false]at h
    obtain⟨et,het⟩:∃q,q=(tys.toList.head?.bind (QaA cx.P)):=⟨_,rfl⟩
    obtain⟨ut,hut⟩:∃q,q=(tys.toList[1]?.bind cx.P.underlying):=⟨_,rfl⟩
    rw[←het,←hut]at h
    simp only[Option.bind_eq_some_iff,Qaq]at h
    obtain⟨e,he,ti,hti,zc,hzc,a,ha,ys,hys,hc,h⟩:=h
    split at h
    ·rename_i j
     simp only[Option.bind_eq_some_iff]at h
     obtain⟨q,hq,_⟩:=h
     refine⟨q,{st with t:=fun _=>.un},.no rfl,fun st' ha' K'=>?_⟩
     have hj:st'.t j=st.t j:=ha'.1 j (by simp[tmO])
     unfold opO;rw[ho]
     simp only[Qat,hx,har,hph,elX,←het,←hut,he,hti,hzc,Qbc (On.right ha'.1),ha,hys,hc,hj,hq,Option.bind_some,cond_true,cond_false]
     congr 1
     simp only[mrg,cond_false,St.mk.injEq,and_self,and_true]
     funext k
     have:=Qc0 [j] st'.t k
     simpa[QfG,tmO]using this
    ·simp only[Option.bind_eq_some_iff]at h
     obtain⟨q,hq,_⟩:=h
     refine⟨q,st,.no rfl,fun st' ha' K'=>?_⟩
     unfold opO;rw[ho]
     simp only[Qat,hx,har,hph,elX,←het,←hut,he,hti,hzc,Qbc (On.right ha'.1),ha,hys,hc,hq,Option.bind_some,cond_true,cond_false,mrg,tmO,QbQ,List.any_nil]
    ·cases h
  case value v=>
   cases v<;>try (simp only at h;cases h;done)
   simp only[Option.some.injEq]at h
   rename_i g
   subst h
   have key:∀(st:St) (K:LV→St→Option R),opO cx orc f rid i o st K=(match mode cx g with
    |0=>args (cx.take f rid i) st ags.toList fun xs st=>Qap .v (cx.pure f rid i) xs (QeL cx orc g xs) st K
    |1=>args (cx.take f rid i) st ags.toList fun xs st=>Qap .tup (cx.pure f rid i) xs (callT cx orc g xs) st K
    |_=>args (cx.take f rid i) st ags.toList fun xs st=>Qap (fun x=>x) (cx.pure f rid i) xs (Qab cx orc g xs) st K):=by
    intro st K
    unfold opO;rw[ho]
    simp only
    cases mode cx g with
    |zero=>rfl
    |succ n=>cases n<;>rfl
   intro st K r h
   rw[key]at h
   have hro:((cx.exr g).isSome&&(cx.ext g).isNone&&(cx.exh g).isNone)=true→∀(ys:List LV) (h:Heap) (y:LV×Heap),Qab cx orc g ys h=some y→y.2=h:=by
    intro hr ys h y hy
    simp only[Bool.and_eq_true,Option.isNone_iff_eq_none,Option.isSome_iff_exists]at hr
    obtain⟨⟨⟨e,he⟩,h1⟩,h2⟩:=hr
    unfold Qab at hy
    rw[h1]at hy
    simp only at hy
    rw[h2]at hy
    simp only at hy
    rw[he]at hy
    simp only[Qaq,Option.bind_eq_some_iff,Option.some.injEq]at hy
    obtain⟨_,x,_,rfl⟩:=hy
    rfl
   have hfr:((cx.exn g).isSome&&(cx.ext g).isNone&&(cx.exh g).isNone&&(cx.exr g).isNone)=true→∀(ys:List LV) (h:Heap) (y:LV×Heap),Qab cx orc g ys h=some y→∃l,y.2.bx=h.bx++l:=by
    intro hr ys h y hy
    simp only[Bool.and_eq_true,Option.isNone_iff_eq_none,Option.isSome_iff_exists]at hr
    obtain⟨⟨⟨⟨e,he⟩,h1⟩,h2⟩,h3⟩:=hr
    unfold Qab at hy
    rw[h1]at hy
    simp only at hy
    rw[h2]at hy
    simp only at hy
    rw[h3]at hy
    simp only at hy
    rw[he]at hy
    simp only[Qaq,Qo1,Option.bind_eq_some_iff,Option.some.injEq]at hy
    obtain⟨_,x,_,rfl⟩:=hy
    exact⟨x.2,rfl⟩
   have hA:∀{q:Option (LV×Heap)} {y:AV×Heap},toA q=some y→∃z,q=some z∧z.2=y.2:=by
    intro q y hq
    unfold toA at hq
    simp only[Option.bind_eq_some_iff,Option.some.injEq]at hq
    obtain⟨z,hz,a,_,rfl⟩:=hq
    exact⟨z,hz,rfl⟩
   have hT:∀{q:Option (LV×Heap)} {y:List AV×Heap},toT q=some y→∃z,q=some z∧z.2=y.2:=by
    intro q y hq
    unfold toT at hq
    simp only[Option.bind_eq_some_iff]at hq
    obtain⟨z,hz,hq⟩:=hq
    split at hq
    ·simp only[Option.some.injEq]at hq
     subst hq
     exact⟨z,hz,rfl⟩
    ·cases hq
   have fin:∀{A:Type} (W:A→LV) (call:List LV→Heap→Option (A×Heap)),(((cx.exr g).isSome&&(cx.ext g).isNone&&(cx.exh g).isNone)=true→∀ys h y,call ys h=some y→y.2=h)→(((cx.exn g).isSome&&(cx.ext g).isNone&&(cx.exh g).isNone&&(cx.exr g).isNone)=true→∀ys h y,call ys h=some y→∃l,y.2.bx=h.bx++l)→(∀(st:St) (K:LV→St→Option R),opO cx orc f rid i o st K=args (cx.take f rid i) st ags.toList fun xs st=>Qap W (cx.pure f rid i) xs (call xs) st K)→
    (args (cx.take f rid i) st ags.toList fun xs st=>Qap W (cx.pure f rid i) xs (call xs) st K)=some r→∃x s1,Sft ⟨QdD ags.toList,bif cx.take f rid i then QdD ags.toList else[],false,false,!cx.pure f rid i,!(cx.pure f rid i||((cx.exr g).isSome&&(cx.ext g).isNone&&(cx.exh g).isNone)),false,false,false,false,((cx.exn g).isSome&&(cx.ext g).isNone&&(cx.exh g).isNone&&(cx.exr g).isNone)⟩ s1 st∧∀st',Agree ⟨QdD ags.toList,bif cx.take f rid i then QdD ags.toList else[],false,false,!cx.pure f rid i,!(cx.pure f rid i||((cx.exr g).isSome&&(cx.ext g).isNone&&(cx.exh g).isNone)),false,false,false,false,((cx.exn g).isSome&&(cx.ext g).isNone&&(cx.exh g).isNone&&(cx.exr g).isNone)⟩ st st'→
     ∀K':LV→St→Option R,opO cx orc f rid i o st' K'=K' x (mrg ⟨QdD ags.toList,bif cx.take f rid i then QdD ags.toList else[],false,false,!cx.pure f rid i,!(cx.pure f rid i||((cx.exr g).isSome&&(cx.ext g).isNone&&(cx.exh g).isNone)),false,false,false,false,((cx.exn g).isSome&&(cx.ext g).isNone&&(cx.exh g).isNone&&(cx.exr g).isNone)⟩ s1 st'):=by
    intro A W call hc hf e h
    obtain⟨x,s1,sf,k⟩:=QnT (R:=R) (W:=W) (pu:=cx.pure f rid i) (tk:=cx.take f rid i) (xs:=ags.toList) (call:=call) hc hf st K r h
    exact⟨x,s1,sf,fun st' ha K'=>(e st' K').trans (k st' ha K')⟩
   cases hm:mode cx g with
   |zero=>
    rw[hm]at h key
    exact fin _ _ (fun hr ys h y hy=>by obtain⟨z,hz,e⟩:=hA hy;rw[←e];exact hro hr ys h z hz) (fun hr ys h y hy=>by obtain⟨z,hz,e⟩:=hA hy;rw[←e];exact hfr hr ys h z hz) key h
   |succ n=>
    rw[hm]at h key
    cases n with
    |zero=>exact fin _ _ (fun hr ys h y hy=>by obtain⟨z,hz,e⟩:=hT hy;rw[←e];exact hro hr ys h z hz) (fun hr ys h y hy=>by obtain⟨z,hz,e⟩:=hT hy;rw[←e];exact hfr hr ys h z hz) key h
    |succ n=>exact fin _ _ hro hfr key h
theorem QkR {cs:List AV}{gi:Nat}{p:Fp}(hg:QaG o.op=some gi)(h:Qdn cx f rid i o.op=some p):Loc (R:=R) p (Qby cx o.op cs):=by
 cases ho:o.op<;>rw[ho]at hg h<;>simp only[QaG,reduceCtorEq]at hg
 case load t x=>
  cases x<;>simp only[reduceCtorEq,Option.some.injEq]at hg
  simp only[Qdn,Option.some.injEq]at h
  subst h
  refine Loc0.loc fun st K r h=>?_
  simp only[Qby,Option.bind_eq_some_iff]at h
  obtain⟨z,hz,u,hu,_⟩:=h
  exact⟨.v u,fun st' _ K'=>by simp only[Qby,hz,hu,Option.bind_some]⟩
 case fieldAddr s x j=>
  cases x<;>simp only[reduceCtorEq,Option.some.injEq]at hg
  simp only[Qdn,Option.some.injEq]at h
  subst h
  refine Loc0.loc fun st K r h=>?_
  simp only[Qby,Option.bind_eq_some_iff,Qaq]at h
  obtain⟨fs,hfs,fl,hfl,z,hz,hb,_⟩:=h
  exact⟨.v (.snap (cs.drop fl.offset)),fun st' _ K'=>by simp only[Qby,hfs,hfl,hz,hb,cond_true,Option.bind_some]⟩
 case indexAddr t x ix=>
  cases x<;>simp only[reduceCtorEq,Option.some.injEq]at hg
  simp only[Qdn,Option.some.injEq]at h
  subst h
  refine Loc0.loc fun st K r h=>?_
  simp only[Qby,Option.bind_eq_some_iff,Qaq]at h
  obtain⟨e,he,z,hz,b,hb,n,hn,hc,_⟩:=h
  exact⟨.v (.snap (cs.drop (n.toNat*z.1))),fun st' hs K'=>by simp only[Qby,he,hz,Qbc hs.right,hb,hn,hc,cond_true,Option.bind_some]⟩
theorem QrJ {p:Fp}(h:Qdn cx f rid i o.op=some p):Loc (R:=R) p (opK cx orc f rid i o):=by
 intro st K r hr
 unfold opK at hr⊢
 cases hg:QaG o.op with
 |none=>rw[hg]at hr;exact Qkh hg h st K r hr
 |some gi=>
  rw[hg]at hr
  simp only[Option.bind_eq_some_iff]at hr
  obtain⟨cs,hcs,hr⟩:=hr
  obtain⟨x,s1,fs,k⟩:=QkR (cx:=cx) (f:=f) (rid:=rid) (i:=i) hg h st K r hr
  exact⟨x,s1,fs,fun st' ha K'=>by simp only[hcs,Option.bind_some];exact k st' ha K'⟩
theorem Qg6 (q:Fp)(s1 st:St)(d:Option Tmp)(x:LV):(mrg q s1 st).put d x=mrg {q with w:=d.toList++q.w} (s1.put d x) st:=by
 cases d with
 |none=>rfl
 |some d=>
  simp only[St.put,mrg,St.mk.injEq,and_self,and_true,Option.toList]
  funext j
  by_cases e:j=d
  ·subst e
   have:QbQ ([j]++q.w) j=true:=Qay.2 (by simp)
   rw[this,Qai,cond_true,Qai]
  ·rw[Qao _ _ e,Qao _ _ e]
   have:QbQ ([d]++q.w) j=QbQ q.w j:=by
    cases h:QbQ q.w j with
    |true=>exact Qay.2 (by simp[Qay.1 h])
    |false=>
     cases h2:QbQ ([d]++q.w) j with
     |false=>rfl
     |true=>
      rcases List.mem_cons.1 (Qay.1 h2)with h3|h3
      ·exact absurd h3 e
      ·have h3:j∈q.w:=h3
       rw[Qay.2 h3]at h;cases h
   rw[this]
theorem Sft.put {q q':Fp}{s1 st:St}{d:Option Tmp}{x:LV}(h:Sft q s1 st)(e:(q'.ms,q'.mn,q'.hn)=(q.ms,q.mn,q.hn):=by rfl):Sft q' (s1.put d x) st:=by
 simp only[Prod.mk.injEq]at e
 obtain⟨e1,e2,e3⟩:=e
 unfold Sft
 rw[e1,e2,e3]
 cases d<;>exact h
theorem QnK {q:Fp}(hw:q.w.all (QbQ q.r)=true)(hm:(!q.mw||q.mr)=true)(hh:(!q.hw||q.hr)=true){st st':St}(ha:Agree q st st'):mrg q st st'=st':=by
 simp only[mrg]
 obtain⟨t',m',z',nl',h'⟩:=st'
 simp only[Agree]at ha
 simp only[St.mk.injEq]
 refine⟨funext fun j=>?_,?_,?_,?_,?_⟩
 ·cases hj:QbQ q.w j with
  |false=>rfl
  |true=>
   simp only[List.all_eq_true]at hw
   exact(ha.1 j (Qay.1 (hw j (Qay.1 hj)))).symm
 all_goals (cases hq:q.mw<;>cases hr:q.mr<;>cases hs:q.hw<;>cases ht:q.hr<;>simp_all)
theorem Qg8 {nt:Nat}{ops:Array Oper}{p:Fp}(h:QcX cx f rid ops i o=some p):Loc1 (R:=R) p (op1 cx orc f rid nt ops i o):=by
 unfold QcX at h
 simp only[Option.bind_eq_some_iff]at h
 obtain⟨q,hq,h⟩:=h
 cases hc:(q.w.all (QbQ q.r)&&(!q.mw||q.mr)&&(!q.hw||q.hr))with
 |false=>rw[hc]at h;cases h
 |true=>
 rw[hc,cond_true]at h
 simp only[Bool.and_eq_true]at hc
 obtain⟨⟨hw,hm⟩,hh⟩:=hc
 have hl:=QrJ (R:=R) (orc:=orc) hq
 intro st K r hr
 unfold op1 at hr
 cases hd:QeJ nt o.dst with
 |false=>rw[hd]at hr;cases hr
 |true=>
 rw[hd]at hr
 simp only[Bool.not_true,cond_false]at hr
 cases hg:o.guard with
 |none=>
  rw[hg]at h hr
  simp only[Option.some.injEq]at h
  subst h
  obtain⟨x,s1,fs,k⟩:=hl st _ r hr
  refine⟨s1.put o.dst x,Sft.put fs,fun st' ha K'=>?_⟩
  unfold op1
  rw[hd,hg]
  simp only[Bool.not_true,cond_false]
  rw[k st' ha,Qg6]
 |some jw=>
  obtain⟨j,want⟩:=jw
  rw[hg]at h hr
  simp only at h hr
  cases hdd:(ops[j]?).bind (·.dst)with
  |none=>rw[hdd]at h;cases h
  |some d=>
  rw[hdd]at h hr
  simp only[Option.bind_some,Option.some.injEq]at h hr
  subst h
  have sub:∀{st':St},Agree {q with r:=d::q.r,w:=o.dst.toList++q.w} st st'→Agree q st st'∧st'.t d=st.t d:=
   fun ha=>⟨⟨fun i hi=>ha.1 i (by simp[hi]),ha.2.1,ha.2.2.1,ha.2.2.2.1,fun hh j hj=>ha.2.2.2.2 hh j (by simp[hj])⟩,ha.1 d (by simp)⟩
  have skip:∀st',Agree q st st'→∀K':St→Option R,K' (st'.put o.dst .ud)=K' (mrg {q with r:=d::q.r,w:=o.dst.toList++q.w} (st.put o.dst .ud) st'):=by
   intro st' ha K'
   have:=Qg6 q st st' o.dst .ud
   rw[QnK hw hm hh ha]at this
   rw[this];rfl
  have exec:(opK cx orc f rid i o st fun x st=>K (st.put o.dst x))=some r→∃s1,Sft q s1 st∧∀st',Agree q st st'→∀K':St→Option R,
   (opK cx orc f rid i o st' fun x st=>K' (st.put o.dst x))=K' (mrg {q with r:=d::q.r,w:=o.dst.toList++q.w} s1 st'):=by
   intro hr
   obtain⟨x,s1,fs,k⟩:=hl st _ r hr
   exact⟨s1.put o.dst x,Sft.put fs,fun st' ha K'=>by rw[k st' ha,Qg6];rfl⟩
  have un:∀(st':St) (K':St→Option R),op1 cx orc f rid nt ops i o st' K'=(match st'.t d with
   |.ud=>K' (st'.put o.dst .ud)
   |x=>x.toB.bind fun b=>
    bif b then
     bif want then opK cx orc f rid i o {st' with t:=upd st'.t d (.v (.bool true))} fun x st=>K' (st.put o.dst x)
     else K' (St.put {st' with t:=upd st'.t d (.v (.bool true))} o.dst .ud)
    else
     bif want then K' (St.put {st' with t:=upd st'.t d (.v (.bool false))} o.dst .ud)
     else opK cx orc f rid i o {st' with t:=upd st'.t d (.v (.bool false))} fun x st=>K' (st.put o.dst x)):=by
   intro st' K'
   unfold op1
   rw[hd,hg]
   simp only[Bool.not_true,cond_false,hdd]
   cases st'.t d<;>rfl
  cases hx:st.t d with
  |ud=>
   rw[hx]at hr
   refine⟨st.put o.dst .ud,by cases o.dst<;>exact .self _ _ _ rfl rfl rfl rfl,fun st' ha K'=>?_⟩
   obtain⟨ha,hb⟩:=sub ha
   rw[un,hb,hx]
   exact skip st' ha K'
  |v y=>
   rw[hx]at hr
   simp only[Option.bind_eq_some_iff]at hr
   obtain⟨b,hb,hr⟩:=hr
   have hy:st.t d=.v (.bool b):=by
    rw[hx]
    cases y<;>simp only[LV.toB,reduceCtorEq,Option.some.injEq]at hb
    rw[hb]
   have self:∀st',st'.t d=st.t d→({st' with t:=upd st'.t d (.v (.bool b))}:St)=st':=fun st' h=>by rw[←hy,←h,Qe8]
   have hs:=self st rfl
   cases b with
   |true=>
    simp only[cond_true]at hr
    rw[hs]at hr
    cases want with
    |true=>
     obtain⟨s1,fs,k⟩:=exec hr
     refine⟨s1,fs,fun st' ha K'=>?_⟩
     obtain⟨ha,hc⟩:=sub ha
     rw[un,hc,hx]
     simp only[hb,Option.bind_some,cond_true]
     rw[self st' hc]
     exact k st' ha K'
    |false=>
     refine⟨st.put o.dst .ud,by cases o.dst<;>exact .self _ _ _ rfl rfl rfl rfl,fun st' ha K'=>?_⟩
     obtain⟨ha,hc⟩:=sub ha
     rw[un,hc,hx]
     simp only[hb,Option.bind_some,cond_true,cond_false]
     rw[self st' hc]
     exact skip st' ha K'
   |false=>
    simp only[cond_false]at hr
    rw[hs]at hr
    cases want with
    |false=>
     obtain⟨s1,fs,k⟩:=exec hr
     refine⟨s1,fs,fun st' ha K'=>?_⟩
     obtain⟨ha,hc⟩:=sub ha
     rw[un,hc,hx]
     simp only[hb,Option.bind_some,cond_false]
     rw[self st' hc]
     exact k st' ha K'
    |true=>
     refine⟨st.put o.dst .ud,by cases o.dst<;>exact .self _ _ _ rfl rfl rfl rfl,fun st' ha K'=>?_⟩
     obtain⟨ha,hc⟩:=sub ha
     rw[un,hc,hx]
     simp only[hb,Option.bind_some,cond_true,cond_false]
     rw[self st' hc]
     exact skip st' ha K'
  |_=>rw[hx]at hr;simp only[LV.toB,Option.bind_none,reduceCtorEq]at hr
def opL (cx:Cx)(orc:Orc)(f rid nt:Nat)(ops:Array Oper):List Nat→St→(St→Option R)→Option R
 |[],st,K=>K st
 |i::l,st,K=>match ops[i]? with
  |some o=>op1 cx orc f rid nt ops i o st fun st=>opL cx orc f rid nt ops l st K
  |none=>none
theorem Qfk {nt:Nat}{ops:Array Oper}{K:St→Option R}:∀(os:List Oper) (i:Nat) (st:St),(∀(k:Nat) (o:Oper),os[k]? =some o→ops[i+k]? =some o)→
 Qkf cx orc f rid nt ops i os st K=opL cx orc f rid nt ops (List.range' i os.length) st K
 |[],i,st,_=>rfl
 |o::os,i,st,h=>by
  have ho:ops[i]? =some o:=by simpa using h 0 o rfl
  simp only[Qkf,List.length_cons,List.range'_succ,opL,ho]
  congr 1
  funext st
  exact Qfk os (i+1) st fun k o' hk=>by rw[show i+1+k=i+(k+1) by omega];exact h (k+1) o' (by simpa using hk)
theorem QrQ {p q:Fp}(h:indep p q=true){s1 st:St}(f1:Sft p s1 st)(ho:Old q st):Old q (mrg p s1 st):=by
 simp only[indep,Bool.and_eq_true,Bool.not_eq_true']at h
 obtain⟨⟨⟨⟨⟨⟨⟨⟨⟨⟨i1,i2⟩,i3⟩,i4⟩,i5⟩,i6⟩,i7⟩,i8⟩,i9⟩,i10⟩,i11⟩:=h
 intro hm j hj id off ht
 rw[QfS i1 s1 st j hj]at ht
 have hlt:=ho hm j hj id off ht
 cases hw:p.hw with
 |false=>simp only[mrg,hw,cond_false];exact hlt
 |true=>
  have hn:p.hn=true:=by rw[hw,hm]at i10;simpa using i10
  have:=f1.2.2 hn id _ (List.getElem?_eq_getElem hlt)
  simp only[mrg,hw,cond_true]
  exact(List.getElem?_eq_some_iff.1 this).1
theorem Qf7 {nt:Nat}{ops:Array Oper}{B:List Nat}{i:Nat}{K:St→Option R}{r:R}:∀(A:List Nat) (st:St),
 (∀k,k∈A→∃ok oi p q,ops[k]? =some ok∧ops[i]? =some oi∧QcX cx f rid ops k ok=some p∧QcX cx f rid ops i oi=some q∧indep p q=true)→
 (∀oi q,ops[i]? =some oi→QcX cx f rid ops i oi=some q→Old q st)→opL cx orc f rid nt ops (A++i::B) st K=some r→opL cx orc f rid nt ops (i::(A++B)) st K=some r
 |[],st,_,_,h=>h
 |k::A,st,hA,hold,h=>by
  obtain⟨ok,oi,p,q,h1,h2,h3,h4,h5⟩:=hA k (by simp)
  simp only[List.cons_append,opL,h1]at h
  obtain⟨s1,f1,k1⟩:=Qg8 (R:=R) (orc:=orc) (nt:=nt) h3 st _ r h
  rw[k1 st (Agree.refl p st)]at h
  have hq:=hold oi q h2 h4
  have h:=Qf7 A _ (fun k' hk'=>hA k' (by simp[hk'])) (fun oi' q' ho' hq'=>by
   rw[h2]at ho'
   cases ho'
   rw[h4]at hq'
   cases hq'
   exact QrQ h5 f1 hq) h
  rw[←k1 st (Agree.refl p st) (fun st=>opL cx orc f rid nt ops (i::(A++B)) st K)]at h
  simp only[opL,h2]at h
  have:=Loc1.swap (Qg8 (R:=R) (orc:=orc) (nt:=nt) h3) (Qg8 (R:=R) (orc:=orc) (nt:=nt) h4) h5 (st:=st) (K:=fun st=>opL cx orc f rid nt ops (A++B) st K) hq h
  simpa only[opL,h1,h2,List.cons_append]using this
end Go.Proofs.Am
