/-
  What is read out of memory.
-/
import Derived.Test.YtoblgjmllmomhaaGreatDoorAmOpC
namespace Go.Proofs.Am
open Go
variable {R:Type} {P:Program} {nt:Nat} {o:Oper} {st:St} {a:Act} {w:World} {g:Gh} {lm:Nat→Nat} {K:LV→St→Option R} {r:R}
theorem Qd4 {p q:AV}{u v:Value}{c:AV}(hp:Rep w g p u)(hq:Rep w g q v):
 (mnA false p q=some c→∃z,(Builtin.min2 u v).run P w=.ok z w∧Rep w g c z)∧(mnA true p q=some c→∃z,(Builtin.max2 u v).run P w=.ok z w∧Rep w g c z):=by
 constructor
 ·intro h
  unfold mnA at h
  split at h
  ·cases hp;cases hq
   rename_i k x k' y
   simp only[cond_false,Option.some.injEq]at h
   subst h
   refine⟨_,rfl,?_⟩
   by_cases e:y<x<;>simp[e]<;>exact .int _ _
  ·cases h
 ·intro h
  unfold mnA at h
  split at h
  ·cases hp;cases hq
   rename_i k x k' y
   simp only[cond_true,Option.some.injEq]at h
   subst h
   refine⟨_,rfl,?_⟩
   by_cases e:y>x<;>simp[e]<;>exact .int _ _
  ·cases h
theorem Qn4 {c:Call}{x y:Operand}(ho:o.op=.call c)(hc:c.callee=.builtin .min)(hx:c.args.toList=[x,y])(hs:SR nt st a w g lm)
 (h:((st.rv x).bind fun p=>(st.rv y).bind fun q=>(mnA false p q).bind fun u=>K (.v u) st)=some r):Good P nt o a w g K r:=by
 simp only[Option.bind_eq_some_iff]at h
 obtain⟨p,hp,q,hq,u,hu,h⟩:=h
 obtain⟨g1,s1,t1,r1⟩:=QaO hs hp
 obtain⟨g2,s2,t2,r2⟩:=QaO s1 hq
 obtain⟨z,hz,hr⟩:=(Qd4 (P:=P) (r1.mono t2.le) r2).1 hu
 refine Good.pre (t1.trans t2) (Good.pure s2 h (v:=z) ?_ hr)
 rw[QaM ho hc]
 have hargs:c.args= #[x,y]:=by rw[←Array.toArray_toList (xs:=c.args),hx]
 simp only[builtin]
 exact Qad (by simp[Builtin.min_,hargs,hz])
theorem Qn5 {c:Call}{x y:Operand}(ho:o.op=.call c)(hc:c.callee=.builtin .max)(hx:c.args.toList=[x,y])(hs:SR nt st a w g lm)
 (h:((st.rv x).bind fun p=>(st.rv y).bind fun q=>(mnA true p q).bind fun u=>K (.v u) st)=some r):Good P nt o a w g K r:=by
 simp only[Option.bind_eq_some_iff]at h
 obtain⟨p,hp,q,hq,u,hu,h⟩:=h
 obtain⟨g1,s1,t1,r1⟩:=QaO hs hp
 obtain⟨g2,s2,t2,r2⟩:=QaO s1 hq
 obtain⟨z,hz,hr⟩:=(Qd4 (P:=P) (r1.mono t2.le) r2).2 hu
 refine Good.pre (t1.trans t2) (Good.pure s2 h (v:=z) ?_ hr)
 rw[QaM ho hc]
 have hargs:c.args= #[x,y]:=by rw[←Array.toArray_toList (xs:=c.args),hx]
 simp only[builtin]
 exact Qad (by simp[Builtin.max_,hargs,hz])
theorem QkN {c:Call}{x y y2:Operand}(ho:o.op=.call c)(hc:c.callee=.builtin .max)(hx:c.args.toList=[x,y,y2])(hs:SR nt st a w g lm)
 (h:((st.rv x).bind fun p=>(st.rv y).bind fun q=>(st.rv y2).bind fun q2=>(mnA true p q).bind fun u=>(mnA true u q2).bind fun u=>K (.v u) st)=some r):Good P nt o a w g K r:=by
 simp only[Option.bind_eq_some_iff]at h
 obtain⟨p,hp,q,hq,q2,hq2,u,hu,u2,hu2,h⟩:=h
 obtain⟨g1,s1,t1,r1⟩:=QaO hs hp
 obtain⟨g2,s2,t2,r2⟩:=QaO s1 hq
 obtain⟨g3,s3,t3,r3⟩:=QaO s2 hq2
 obtain⟨z,hz,hr⟩:=(Qd4 (P:=P) (r1.mono (t2.trans t3).le) (r2.mono t3.le)).2 hu
 obtain⟨z2,hz2,hr2⟩:=(Qd4 (P:=P) hr r3).2 hu2
 refine Good.pre ((t1.trans t2).trans t3) (Good.pure s3 h (v:=z2) ?_ hr2)
 rw[QaM ho hc]
 have hargs:c.args= #[x,y,y2]:=by rw[←Array.toArray_toList (xs:=c.args),hx]
 simp only[builtin]
 exact Qad (by simp[Builtin.max_,hargs,hz,hz2])
theorem Qkr {P:Program}{w:World}{g:Gh}:∀(as:List AV) (vs:List Value) (a c:AV) (v:Value),Rep w g a v→as.length=vs.length→(∀(i:Nat) (x:AV) (u:Value),as[i]? =some x→vs[i]? =some u→Rep w g x u)→mxL true a as=some c→
 ∃z,(vs.foldlM Builtin.max2 v).run P w=.ok z w∧Rep w g c z
 |[],[],a,c,v,hr,_,_,h=>by
  simp only[mxL,Option.some.injEq]at h
  subst h
  exact⟨v,by simp,hr⟩
 |[],_::_,_,_,_,_,h,_,_=>by simp at h
 |_::_,[],_,_,_,_,h,_,_=>by simp at h
 |b::as,u::vs,a,c,v,hr,hl,hx,h=>by
  simp only[mxL,Option.bind_eq_some_iff]at h
  obtain⟨r,h1,h⟩:=h
  obtain⟨z,hz,hr2⟩:=(Qd4 (P:=P) hr (hx 0 b u rfl rfl)).2 h1
  obtain⟨z2,hz2,hr3⟩:=Qkr (P:=P) as vs r c z hr2 (by simpa using hl) (fun i x u h1 h2=>hx (i+1) x u (by simpa using h1) (by simpa using h2)) h
  exact⟨z2,by simp[List.foldlM_cons,hz,hz2],hr3⟩
theorem QkM {c:Call}{x y y2 y3:Operand}{ys:List Operand}(ho:o.op=.call c)(hc:c.callee=.builtin .max)(hx:c.args.toList=x::y::y2::y3::ys)(hs:SR nt st a w g lm)
 (h:(rvs st (x::y::y2::y3::ys) fun as=>(QBk true as).bind fun r=>K (.v r) st)=some r):Good P nt o a w g K r:=by
 obtain⟨as,h,hl,g1,s1,t1,h1⟩:=QeT _ _ _ hs h
 simp only[Option.bind_eq_some_iff]at h
 obtain⟨u,hu,h⟩:=h
 match as,hl with
 |b::bs,hl=>
  have hx0:=h1 0 b x rfl rfl
  obtain⟨z,hz,hr⟩:=Qkr (P:=P) bs ((y::y2::y3::ys).map a.eval) b u (a.eval x) hx0 (by simpa using hl) (fun i x' u' h2 h3=>by
   rw[List.getElem?_map,Option.map_eq_some_iff]at h3
   obtain⟨o',h4,rfl⟩:=h3
   exact h1 (i+1) x' o' (by simpa using h2) (by simpa using h4)) hu
  refine Good.pre t1 (Good.pure s1 h (v:=z) ?_ hr)
  rw[QaM ho hc]
  have hargs:c.args=(x::y::y2::y3::ys).toArray:=by rw[←hx,Array.toArray_toList]
  simp only[builtin]
  exact Qad (by simp[Builtin.max_,hargs]at hz⊢;exact hz)
theorem Qda {v:Value}{k:IntKind}{n:Int}{y:Nat}{c:BoundsCode}(hv:v=.int k n)(h0:0≤n)(h1:n≤y):(Instr.sliceBound v y c).run P w=.ok n.toNat w:=by
 simp[Instr.sliceBound,hv,asIntOf,h0,h1]
def BndIs (ov:Option Value)(on:Option Int):Prop:=(ov=none∧on=none)∨∃v k n,ov=some v∧on=some n∧v=.int k n
theorem Qe2 {isS:Bool}{len cap:Nat}{lo hi:Option Value}{ln hn:Option Int}(hl:BndIs lo ln)(hh:BndIs hi hn)(hc:len≤cap)(h0:0≤ln.getD 0)(h1:ln.getD 0≤hn.getD len)(h2:hn.getD len≤len):
 (Instr.sliceBounds isS len cap lo hi none).run P w=.ok ((ln.getD 0).toNat,(hn.getD len).toNat,cap) w:=by
 have h3:((hn.getD len).toNat:Int)=hn.getD len:=by omega
 rcases hh with⟨rfl,rfl⟩|⟨v,k,n,rfl,rfl,hv⟩
 ·rcases hl with⟨rfl,rfl⟩|⟨v',k',n',rfl,rfl,hv'⟩
  ·simp[Instr.sliceBounds]
  ·simp only[Option.getD_some,Option.getD_none]at*
   simp[Instr.sliceBounds,Qda (P:=P) (w:=w) hv' h0 h1]
 ·simp only[Option.getD_some]at*
  rcases hl with⟨rfl,rfl⟩|⟨v',k',n',rfl,rfl,hv'⟩
  ·simp only[Option.getD_none]at*
   simp[Instr.sliceBounds,Qda (P:=P) (w:=w) hv h1 (show n≤(cap:Int) by omega)]
  ·simp only[Option.getD_some]at*
   simp[Instr.sliceBounds,Qda (P:=P) (w:=w) hv (show 0≤n by omega) (show n≤(cap:Int) by omega),Qda (P:=P) (w:=w) hv' h0 (show n'≤(n.toNat:Int) by omega)]
theorem QkE {xs:List (List AV)}{ad:Option Addr}{len cap m:Nat}(hr:Rep w g (.imm xs) (.slice ad len cap))(hm:QbW m xs=true)(l h:Nat)(hl:l≤h)(hh:h≤xs.length):
 Rep w g (.imm ((xs.take h).drop l)) (.slice (if cap=l then ad else ad.map (·.add (l*m))) (h-l) (cap-l)):=by
 cases hr with
 |imm0=>
  simp only[List.length_nil]at hh
  have e1:h=0:=by omega
  have e2:l=0:=by omega
  subst e1;subst e2
  simp only[List.take_nil,List.drop_nil]
  exact .imm0 _ _
 |imm _ n b off _ f hl2 hn hc hr=>
  by_cases e:l=h
  ·subst e
   have:(xs.take l).drop l=[]:=by
    apply List.drop_eq_nil_of_le;simp;omega
   rw[this,Nat.sub_self]
   exact .imm0 _ _
  ·have hne:cap≠l:=by omega
   have hnm:n=m:=by
    cases xs with
    |nil=>simp at hh;omega
    |cons x xs=>
     have h1:=hn 0 x (by simp)
     simp only[QbW]at hm
     have:=Nat.eq_of_beq_eq_true hm
     omega
   subst hnm
   have hlen:((xs.take h).drop l).length=h-l:=by simp;omega
   rw[if_neg hne]
   simp only[Option.map_some,Addr.add_mid]
   rw[←hlen]
   have hget:∀(k:Nat) (x:List AV),((xs.take h).drop l)[k]? =some x→xs[l+k]? =some x:=by
    intro k x hk
    rw[List.getElem?_drop,List.getElem?_take]at hk
    split at hk
    ·exact hk
    ·cases hk
   refine .imm _ n b (off+l*n) (cap-l) (fun k j=>f (l+k) j) (by rw[hlen];omega) (fun k x hk=>hn _ x (hget k x hk)) (fun k x j c hk hj=>?_) (fun k x j c hk hj=>hr _ x j c (hget k x hk) hj)
   have:=hc (l+k) x j c (hget k x hk) hj
   rw[show off+l*n+k*n+j=off+(l+k)*n+j by rw[Nat.add_mul];omega]
   exact this
theorem BndIs.none:BndIs none none:=.inl ⟨rfl,rfl⟩
theorem Qpm {lo:Option Operand}{ls:List AV}(hlen:ls.length=lo.toList.length)(hr:∀(i:Nat) (x:AV) (p:Operand),ls[i]? =some x→lo.toList[i]? =some p→Rep w g x (a.eval p))
 (hI:(ls.all fun x=>x.toI.isSome)=true):BndIs (lo.map a.eval) (ls.head?.bind AV.toI):=by
 cases lo with
 |none=>
  simp only[Option.toList_none,List.length_nil,List.length_eq_zero_iff]at hlen
  subst hlen
  exact .inl ⟨rfl,rfl⟩
 |some p=>
  simp only[Option.toList_some,List.length_singleton]at hlen
  obtain⟨x,rfl⟩:=List.length_eq_one_iff.1 hlen
  simp only[List.all_cons,List.all_nil,Bool.and_true]at hI
  obtain⟨n,hn⟩:=Option.isSome_iff_exists.1 hI
  obtain⟨k,hk⟩:=QbX (hr 0 x p rfl rfl) hn
  exact .inr ⟨a.eval p,k,n,rfl,by simp[hn],hk⟩
theorem Qi3 {t:TypeId}{x:Operand}{lo hi mx:Option Operand}(ho:o.op=.slice t x lo hi mx)(hs:SR nt st a w g lm)
 (h:((st.rv x).bind fun p=>rvs st lo.toList fun ls=>rvs st hi.toList fun hs=>
  bif mx.isNone then(slA P t p (ls.head?.bind AV.toI) (hs.head?.bind AV.toI)).bind fun u=>
   bif (ls.all fun x=>x.toI.isSome)&&(hs.all fun x=>x.toI.isSome)then K (.v u) st else none
  else none)=some r):Good P nt o a w g K r:=by
 simp only[Option.bind_eq_some_iff]at h
 obtain⟨p,hp,h⟩:=h
 obtain⟨g1,s1,t1,r1⟩:=QaO hs hp
 obtain⟨ls,h,hl1,g2,s2,t2,r2⟩:=QeT _ _ _ s1 h
 obtain⟨us,h,hl2,g3,s3,t3,r3⟩:=QeT _ _ _ s2 h
 cases hmx:mx with
 |some _=>rw[hmx]at h;simp at h
 |none=>
  rw[hmx]at h
  simp only[Option.isNone_none,cond_true,Option.bind_eq_some_iff]at h
  obtain⟨u,hu,h⟩:=h
  by_cases hI:((ls.all fun x=>x.toI.isSome)&&(us.all fun x=>x.toI.isSome))=true
  ·rw[hI,cond_true]at h
   rw[Bool.and_eq_true]at hI
   have B1:=Qpm (a:=a) hl1 r2 hI.1
   have B2:=Qpm (a:=a) hl2 r3 hI.2
   have r1:=r1.mono (t2.trans t3).le
   refine Good.pre ((t1.trans t2).trans t3) ?_
   generalize ls.head?.bind AV.toI=ln at hu B1
   generalize us.head?.bind AV.toI=hn at hu B2
   unfold slA at hu
   split at hu
   ·rename_i e hue
    simp only[Option.bind_eq_some_iff]at hu
    obtain⟨i,hi,hu⟩:=hu
    have key:∀ad len cap,a.eval x=.slice ad len cap→len≤cap→0≤ln.getD 0→ln.getD 0≤hn.getD len→hn.getD len≤len→
     (execOp a.eval o).run P w=.ok (.value (.slice (if cap=(ln.getD 0).toNat then ad else ad.map (·.add ((ln.getD 0).toNat*i.size))) ((hn.getD len).toNat-(ln.getD 0).toNat) (cap-(ln.getD 0).toNat))) w:=by
     intro ad len cap hx hc h0 h1 h2
     simp only[execOp,ho,hmx]
     refine Qad ?_
     have:=Qe2 (P:=P) (w:=w) (isS:=true) B1 B2 hc h0 h1 h2
     simp[Instr.sliceAt,run_underlying hue,Instr.slice,hx,this,run_sizeOf hi]
    cases p with
    |imm xs=>
     simp only at hu
     by_cases hc:(decide (0≤ln.getD 0)&&decide (ln.getD 0≤hn.getD xs.length)&&decide (hn.getD xs.length≤xs.length)&&QbW i.size xs)=true
     ·rw[hc,cond_true,Option.some.injEq]at hu
      subst hu
      simp only[Bool.and_eq_true,decide_eq_true_eq]at hc
      obtain⟨⟨⟨c0,c1⟩,c2⟩,c3⟩:=hc
      generalize hx:a.eval x=v at r1
      have hv:∃ad cap,v=.slice ad xs.length cap∧xs.length≤cap:=by
       cases r1 with
       |imm0 ad cap=>exact⟨ad,cap,rfl,Nat.zero_le _⟩
       |imm _ n b off cap f hl _ _ _=>exact⟨_,cap,rfl,hl⟩
      obtain⟨ad,cap,rfl,hcap⟩:=hv
      exact Good.pure s3 h (key ad _ cap hx hcap c0 c1 c2) (QkE r1 c3 _ _ (by omega) (by omega))
     ·rw[Bool.eq_false_iff.2 hc]at hu;cases hu
    |nilS=>
     simp only at hu
     by_cases hc:(decide (ln.getD 0=0)&&decide (hn.getD 0=0))=true
     ·rw[hc,cond_true,Option.some.injEq]at hu
      subst hu
      simp only[Bool.and_eq_true,decide_eq_true_eq]at hc
      obtain⟨c0,c1⟩:=hc
      generalize hx:a.eval x=v at r1
      cases r1
      have c1':hn.getD ((0:Nat):Int)=0:=c1
      have hk:=key none 0 0 hx (Nat.le_refl _) (by omega) (by omega) (by omega)
      rw[c0,c1']at hk
      exact Good.pure s3 h hk .nilS
     ·rw[Bool.eq_false_iff.2 hc]at hu;cases hu
    |nilE=>
     simp only at hu
     by_cases hc:(decide (ln.getD 0=0)&&decide (hn.getD 0=0))=true
     ·rw[hc,cond_true,Option.some.injEq]at hu
      subst hu
      simp only[Bool.and_eq_true,decide_eq_true_eq]at hc
      obtain⟨c0,c1⟩:=hc
      generalize hx:a.eval x=v at r1
      obtain⟨ad,rfl⟩:∃ad,v=.slice ad 0 0:=by cases r1 with|nilE ad=>exact⟨ad,rfl⟩
      have c1':hn.getD ((0:Nat):Int)=0:=c1
      have hk:=key ad 0 0 hx (Nat.le_refl _) (by omega) (by omega) (by omega)
      rw[c0,c1']at hk
      exact Good.pure s3 h hk (.nilE _)
     ·rw[Bool.eq_false_iff.2 hc]at hu;cases hu
    |arr n id off len=>
     simp only at hu
     by_cases hc:(decide (0≤ln.getD 0)&&decide (ln.getD 0≤hn.getD len)&&decide (hn.getD len≤len)&&Nat.beq n i.size)=true
     ·rw[hc,cond_true]at hu
      simp only[Bool.and_eq_true,decide_eq_true_eq]at hc
      obtain⟨⟨⟨c0,c1⟩,c2⟩,c3⟩:=hc
      have c3:=Nat.eq_of_beq_eq_true c3
      generalize hx:a.eval x=v at r1
      cases r1 with
      |arr _ _ _ _ cap hid hl hsz=>
       have hk:=key _ _ cap hx hl c0 c1 c2
       by_cases hz:(decide (ln.getD 0=0)||decide (ln.getD 0<hn.getD len))=true
       ·rw[hz,cond_true,Option.some.injEq]at hu
        subst hu
        simp only[Bool.or_eq_true,decide_eq_true_eq]at hz
        have hbase:(if cap=(ln.getD 0).toNat then some (⟨g3.bm id,off,none⟩:Addr)else(some (⟨g3.bm id,off,none⟩:Addr)).map (·.add ((ln.getD 0).toNat*i.size)))=some ⟨g3.bm id,off+(ln.getD 0).toNat*n,none⟩:=by
         by_cases e:cap=(ln.getD 0).toNat
         ·have:(ln.getD 0).toNat=0:=by omega
          rw[if_pos e,this];simp
         ·rw[if_neg e];simp only[Option.map_some,Addr.add_mid,c3]
        rw[hbase]at hk
        refine Good.pure s3 h hk (.arr _ _ _ _ _ hid (by omega) ?_)
        rw[hsz,Nat.sub_mul]
        have:(ln.getD 0).toNat*n≤cap*n:=Nat.mul_le_mul_right n (by omega)
        congr 1;omega
       ·rw[Bool.eq_false_iff.2 hz,cond_false,Option.some.injEq]at hu
        subst hu
        simp only[Bool.or_eq_true,decide_eq_true_eq,not_or]at hz
        have e:(hn.getD len).toNat-(ln.getD 0).toNat=0:=by omega
        rw[e]at hk
        exact Good.pure s3 h hk (.imm0 _ _)
     ·rw[Bool.eq_false_iff.2 hc]at hu;cases hu
    |_=>simp at hu
   ·rename_i hue
    cases p with
    |str s=>
     simp only at hu
     by_cases hc:(decide (0≤ln.getD 0)&&decide (ln.getD 0≤hn.getD s.size)&&decide (hn.getD s.size≤s.size))=true
     ·rw[hc,cond_true,Option.some.injEq]at hu
      subst hu
      simp only[Bool.and_eq_true,decide_eq_true_eq]at hc
      obtain⟨⟨c0,c1⟩,c2⟩:=hc
      generalize hx:a.eval x=v at r1
      cases r1
      refine Good.pure s3 h (v:=.string (s.extract (ln.getD 0).toNat (hn.getD s.size).toNat)) ?_ (.str _)
      simp only[execOp,ho,hmx]
      refine Qad ?_
      have:=Qe2 (P:=P) (w:=w) (isS:=false) B1 B2 (Nat.le_refl s.size) c0 c1 c2
      simp[Instr.sliceAt,run_underlying hue,Instr.slice,hx,this]
     ·rw[Bool.eq_false_iff.2 hc]at hu;cases hu
    |_=>simp at hu
   ·cases hu
  ·rw[Bool.eq_false_iff.2 hI]at h;cases h
end Go.Proofs.Am
namespace Go.Proofs.Am
open Go
variable {R:Type} {P:Program} {nt:Nat} {o:Oper} {st:St} {a:Act} {w:World} {g:Gh} {lm:Nat→Nat} {K:LV→St→Option R} {r:R}
theorem Qhd {t:TypeId}{z:Nat×Bool}(hz:tyz P t=some z)(h2:z.2=true){b off:Nat}{vs:Array Value}(hv:vs.size=z.1)(hc:∀(j:Nat) (v:Value),vs[j]? =some v→Cl w b (off+j)=some v):
 (loadVar t ⟨b,off,none⟩).run P w=.ok (.agg vs) w:=by
 obtain⟨i,d,hi,hsz,hd,hrow⟩:=QaL hz
 have:=run_loadVar_mid (P:=P) w b off t vs.toList d (fun j v hj=>hc j v (by simpa using hj)) hd (by rw[←hrow];exact h2) (by simp[hi,hsz,hv])
 simpa using this
theorem Qbs {t:TypeId}{z:Nat×Bool}(hz:tyz P t=some z)(h2:z.2=false){b off:Nat}{v:Value}(hc:Cl w b off=some v):(loadVar t ⟨b,off,none⟩).run P w=.ok v w:=by
 obtain⟨i,d,hi,hsz,hd,hrow⟩:=QaL hz
 have e:d.isRow=false:=by rw[←hrow];exact h2
 have hc':w.cell? ⟨b,off,none⟩=some v:=hc
 simp[loadVar,Qb3 hd,e,hc']
theorem QeS {cs:List AV}{b off:Nat}(h:Rep w g (.snap cs) (.pointer (some ⟨b,off,none⟩))):
 ∀(j:Nat) (c:AV),cs[j]? =some c→∃u,Cl w b (off+j)=some u∧Rep w g c u∧c.one=true:=by
 cases h with
 |snap _ _ _ f hc hr=>exact fun j c hj=>⟨f j,(hc j c hj).2.1,hr j c hj,(hc j c hj).2.2⟩
theorem QcP {t:TypeId}{z:Nat×Bool}(hz:tyz P t=some z){b off:Nat}{cs:List AV}(hc:∀(j:Nat) (c:AV),cs[j]? =some c→∃u,Cl w b (off+j)=some u∧Rep w g c u∧c.one=true)
 {x:AV}(h:ldA cs z.1 z.2=some x):∃v,(loadVar t ⟨b,off,none⟩).run P w=.ok v w∧Rep w g x v:=by
 unfold ldA at h
 cases h2:z.2 with
 |true=>
  rw[h2]at h
  by_cases hb:Nat.ble z.1 cs.length=true
  ·simp only[hb,cond_true,Option.some.injEq]at h
   subst h
   have hb':=Nat.le_of_ble_eq_true hb
   let vs:Array Value:=((List.range z.1).map fun j=>(Cl w b (off+j)).getD undef).toArray
   have hvs:∀(j:Nat) (v:Value),vs[j]? =some v→j<z.1∧v=(Cl w b (off+j)).getD undef:=by
    intro j v hj
    simp only[vs,List.getElem?_toArray,List.getElem?_map]at hj
    by_cases hlt:j<z.1
    ·simp[hlt]at hj;exact⟨hlt,hj.symm⟩
    ·simp[hlt]at hj
   refine⟨.agg vs,Qhd hz h2 (by simp[vs]) (fun j v hj=>?_),QiJ (by simp[vs];omega) (fun j c hj=>?_)⟩
   ·obtain⟨hlt,rfl⟩:=hvs j v hj
    obtain⟨u,hu,_⟩:=hc j cs[j] (List.getElem?_eq_getElem (by omega))
    rw[hu];rfl
   ·rw[List.getElem?_take]at hj
    split at hj
    ·rename_i hlt
     obtain⟨u,hu,hr,h1⟩:=hc j c hj
     exact⟨u,by simp[vs,hlt,hu],hr,h1⟩
    ·cases hj
  ·simp[Bool.eq_false_iff.2 hb]at h
 |false=>
  rw[h2]at h
  simp only[cond_false]at h
  rw[List.head?_eq_getElem?]at h
  obtain⟨u,hu,hr,_⟩:=hc 0 x h
  exact⟨u,Qbs hz h2 hu,hr⟩
theorem Qcv {id off:Nat}{v:Value}(h:Rep w g (.ptr id off) v):id<g.nb∧v=.pointer (some ⟨g.bm id,off,none⟩):=by
 cases h with
 |ptr _ _ hid=>exact⟨hid,rfl⟩
theorem QcT (hs:SR nt st a w g lm){id off n:Nat}{bx:List LV}(hb:st.h.bx[id]? =some bx){cs:List AV}(hc:cpyL ((bx.drop off).take n)=some cs):
 ∃g',SR nt st a w g' lm∧Qt w g w g'∧g'.bm id=g.bm id∧∀(j:Nat) (c:AV),cs[j]? =some c→∃u,Cl w (g.bm id) (off+j)=some u∧Rep w g' c u∧c.one=true:=by
 by_cases hne:bx=[]
 ·subst hne
  simp only[List.drop_nil,List.take_nil,cpyL,Option.some.injEq]at hc
  subst hc
  exact⟨g,hs,Qt.refl w g,rfl,by simp⟩
 ·obtain⟨h2,h3,c,e,h4,h5,h6⟩:=hs.hp.2 id bx hb hne
  have F:=SR.famHeap (nt:=nt) (st:=st) (a:=a) (w:=w) (lm:=lm) id (g.bm id) bx hb hne c e h4
  obtain⟨hlen,g',⟨s',hbm⟩,tr,hall⟩:=F.cpyL ((bx.drop off).take n) off cs g (fun i y hi=>by
   rw[List.getElem?_take]at hi
   split at hi
   ·rw[List.getElem?_drop]at hi
    exact⟨(List.getElem?_eq_some_iff.1 hi).1,by simp[List.getD_eq_getElem?_getD,hi]⟩
   ·cases hi) ⟨hs,rfl⟩ hc
  refine⟨g',s',tr,hbm,fun j c' hj=>?_⟩
  obtain⟨hr,h1⟩:=hall j c' hj
  have hlt:j<((bx.drop off).take n).length:=by rw[←hlen];exact(List.getElem?_eq_some_iff.1 hj).1
  simp only[List.length_take,List.length_drop]at hlt
  have hlt2:off+j<c.size:=by omega
  refine⟨c.getD (off+j) undef,?_,hr,h1⟩
  rw[Qcf h4];simp[Array.getD_eq_getD_getElem?,hlt2]
theorem QeG {t:TypeId}{x:Operand}{z:Nat×Bool}{p:AV}(ho:o.op=.load t x)(hs:SR nt st a w g lm)(hz:tyz P t=some z)(hx:st.rd x=.v p)
 (h:((ldP st.h p z.1 z.2).bind fun u=>K (.v u) st)=some r):Good P nt o a w g K r:=by
 simp only[Option.bind_eq_some_iff]at h
 obtain⟨u,hu,h⟩:=h
 obtain⟨g1,s1,t1,r1⟩:=QcK hs x
 have hp:Rep w g1 p (a.eval x):=by have:=r1 .res;rw[hx]at this;exact this
 cases p with
 |ptr id off=>
  simp only[ldP,Option.bind_eq_some_iff]at hu
  obtain⟨bx,hb,cs,hcs,hu⟩:=hu
  by_cases hl:Nat.beq cs.length z.1=true
  ·rw[hl,cond_true]at hu
   obtain⟨g2,s2,t2,hbm,hc⟩:=QcT s1 hb hcs
   obtain⟨v,hv,hr⟩:=QcP (g:=g2) hz hc hu
   refine Good.pre (t1.trans t2) (Good.pure s2 h (v:=v) ?_ hr)
   simp only[execOp,ho]
   refine Qad ?_
   simp[Instr.loadAt,(Qcv hp).2,Instr.sureAddr,hv]
  ·rw[Bool.eq_false_iff.2 hl]at hu;cases hu
 |_=>simp[ldP]at hu
theorem QeF {t:TypeId}{x:Operand}{z:Nat×Bool}{p:AV}(ho:o.op=.load t x)(hs:SR nt st a w g lm)(hz:tyz P t=some z)(hx:st.rd x=.v p)
 (h:((ldS p z.1 z.2).bind fun u=>K (.v u) st)=some r):Good P nt o a w g K r:=by
 simp only[Option.bind_eq_some_iff]at h
 obtain⟨u,hu,h⟩:=h
 obtain⟨g1,s1,t1,r1⟩:=QcK hs x
 have hp:Rep w g1 p (a.eval x):=by have:=r1 .res;rw[hx]at this;exact this
 cases p with
 |snap cs=>
  simp only[ldS]at hu
  generalize he:a.eval x=v at hp
  have hv:∃b off,v=.pointer (some ⟨b,off,none⟩):=by cases hp;exact⟨_,_,rfl⟩
  obtain⟨b,off,rfl⟩:=hv
  obtain⟨y,hy,hr⟩:=QcP (g:=g1) hz (QeS hp) hu
  refine Good.pre t1 (Good.pure s1 h (v:=y) ?_ hr)
  simp only[execOp,ho]
  refine Qad ?_
  simp[Instr.loadAt,he,Instr.sureAddr,hy]
 |_=>simp[ldS]at hu
theorem Qih (m:Nat→Nat→LV)(i:Nat):∀(n off:Nat),ldN m i off n=cpyL ((List.range n).map fun j=>m i (off+j))
 |0,off=>rfl
 |n+1,off=>by
  have e:(List.range (n+1)).map (fun j=>m i (off+j))=m i off::(List.range n).map (fun j=>m i (off+1+j)):=by
   rw[List.range_succ_eq_map,List.map_cons,List.map_map]
   congr 1
   apply List.map_congr_left
   intro j _
   simp only[Function.comp]
   congr 1;omega
  rw[e]
  simp only[ldN,cpyL,Qih m i n (off+1)]
theorem QiB (hs:SR nt st a w g lm){b off n:Nat}(hb:off+n≤st.z b){cs:List AV}(hc:ldN st.m b off n=some cs):
 cs.length=n∧∃g',SR nt st a w g' lm∧Qt w g w g'∧∀(j:Nat) (c:AV),cs[j]? =some c→∃u,Cl w (lm b) (off+j)=some u∧Rep w g' c u∧c.one=true:=by
 by_cases hn:n=0
 ·subst hn
  simp only[ldN,Option.some.injEq]at hc
  subst hc
  exact⟨rfl,g,hs,Qt.refl w g,by simp⟩
 ·obtain⟨h1,h2,h3,c,e,h4,h5,h6⟩:=hs.bx b (by omega)
  have F:=SR.famBox (nt:=nt) (st:=st) (a:=a) (w:=w) (lm:=lm) b (by omega) c e h4
  rw[Qih]at hc
  obtain⟨hlen,g',s',tr,hall⟩:=F.cpyL _ off cs g (fun i y hi=>by
   have hlt:i<n:=by have:=(List.getElem?_eq_some_iff.1 hi).1;simpa using this
   rw[List.getElem?_map,List.getElem?_eq_getElem (by simpa using hlt)]at hi
   simp only[List.getElem_range,Option.map_some,Option.some.injEq]at hi
   exact⟨by omega,hi⟩) hs hc
  refine⟨by simpa using hlen,g',s',tr,fun j c' hj=>?_⟩
  obtain⟨hr,h1'⟩:=hall j c' hj
  have hlt:j<n:=by have:=(List.getElem?_eq_some_iff.1 hj).1;simp at hlen;omega
  have hlt2:off+j<c.size:=by omega
  refine⟨c.getD (off+j) undef,?_,hr,h1'⟩
  rw[Qcf h4];simp[Array.getD_eq_getD_getElem?,hlt2]
theorem Qfy {t:TypeId}{x:Operand}{z:Nat×Bool}{b off:Nat}(ho:o.op=.load t x)(hs:SR nt st a w g lm)(hz:tyz P t=some z)(hx:st.rd x=.lp b off)
 (hb:off+(bif z.2 then z.1 else 1)≤st.z b)
 (h:(bif z.2 then(ldN st.m b off z.1).bind fun cs=>K (.v (.agg cs)) st else K (st.m b off).cp st)=some r):Good P nt o a w g K r:=by
 obtain⟨g1,s1,t1,r1⟩:=QcK hs x
 have he:=r1 .res
 rw[hx]at he
 obtain⟨_,he⟩:=he
 have key:∀v,(loadVar t ⟨lm b,off,none⟩).run P w=.ok v w→(execOp a.eval o).run P w=.ok (.value v) w:=by
  intro v hv
  simp only[execOp,ho]
  refine Qad ?_
  simp[Instr.loadAt,he,Instr.sureAddr,hv]
 cases h2:z.2 with
 |true=>
  rw[h2]at h hb
  simp only[cond_true,Option.bind_eq_some_iff]at h hb
  obtain⟨cs,hcs,h⟩:=h
  obtain⟨hlen,g2,s2,t2,hc⟩:=QiB s1 hb hcs
  have hld:ldA cs z.1 z.2=some (.agg cs):=by
   unfold ldA
   rw[h2,hlen,Nat.ble_eq_true_of_le (Nat.le_refl _)]
   simp only[cond_true,Option.some.injEq,AV.agg.injEq]
   exact List.take_of_length_le (by omega)
  obtain⟨v,hv,hr⟩:=QcP (g:=g2) hz hc hld
  exact Good.pre (t1.trans t2) (Good.pure s2 h (key v hv) hr)
 |false=>
  rw[h2]at h hb
  simp only[cond_false]at h hb
  obtain⟨_,_,_,c,e,h4,h5,h6⟩:=s1.bx b (by omega)
  have F:=SR.famBox (nt:=nt) (st:=st) (a:=a) (w:=w) (lm:=lm) b (by omega) c e h4
  obtain⟨g2,s2,t2,hr⟩:=F.cp1 (k:=off) (by omega) s1
  have hlt:off<c.size:=by omega
  have hcl:Cl w (lm b) off=some (c.getD off undef):=by rw[Qcf h4];simp[Array.getD_eq_getD_getElem?,hlt]
  have hcp:(st.m b off).cp=(st.m b off).cp1∨∃cs,st.m b off=.ag cs:=by
   cases hm:st.m b off<;>simp[LV.cp,LV.cp1]
  refine Good.pre (t1.trans t2) (Good.pure s2 h (key _ (Qbs hz h2 hcl)) ?_)
  have hr:=hr .oth
  obtain⟨_,_,_,c',e',h4',_,h6'⟩:=s2.bx b (by omega)
  obtain⟨u,_,hu⟩:=h6' off (by omega)
  cases hm:st.m b off<;>rw[hm]at hr hu<;>simp only[LV.cp,LV.cp1,RepC]at hr hu⊢
  ·exact trivial
  ·exact hr.1
  ·exact hr.1
end Go.Proofs.Am
