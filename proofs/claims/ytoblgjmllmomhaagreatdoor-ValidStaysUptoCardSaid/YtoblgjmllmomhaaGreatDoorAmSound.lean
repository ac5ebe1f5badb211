/-
  What the machine says of a text, the program does.
-/
import Derived.Test.YtoblgjmllmomhaaGreatDoorAmLoc
import Derived.Orders
namespace Go.Proofs.Am
open Go
variable {R:Type} {cx:Cx} {orc:Orc} {nt:Nat} {st:St} {a:Act} {w:World} {g:Gh} {lm:Nat→Nat} {r:R}
theorem Qka {d:Option Tmp}{x:LV}{v:Value}(hd:QeJ nt d=true)(hs:SR nt st a w g lm)(hx:RepV w g lm st.nl .res x v):∃g',SR nt (st.put d x) (a.put d v) w g' lm∧Tr w g w g':=by
 cases d with
 |none=>exact⟨g,hs,Tr.refl w g⟩
 |some d=>exact⟨_,hs.put (Nat.le_of_ble_eq_true hd) hx,Qb5 w g rfl⟩
theorem QfW {ops:Array Oper}{j d:Nat}{b:Bool}(hd:(ops[j]?).bind (·.dst)=some d)(hv:a.tmps.getD d undef=.bool b):yielded ops a.tmps j=some b:=by
 unfold yielded
 rw[hd]
 cases ht:a.tmps[d]? with
 |none=>simp[Array.getD_eq_getD_getElem?,ht,undef]at hv
 |some u=>
  simp only[Array.getD_eq_getD_getElem?,ht,Option.getD_some]at hv
  subst hv
  simp[ht]
theorem Qe6 {ops:Array Oper}{j d:Nat}(hd:(ops[j]?).bind (·.dst)=some d)(hv:a.tmps.getD d undef=undef):yielded ops a.tmps j=none:=by
 unfold yielded
 rw[hd]
 cases ht:a.tmps[d]? with
 |none=>simp[ht]
 |some u=>
  simp only[Array.getD_eq_getD_getElem?,ht,Option.getD_some]at hv
  subst hv
  simp[ht,undef]
theorem QoZ (hC:CxOk cx)(hO:Qcn cx orc)(hG:GOk cx w g){f rid i:Nat}{ops:Array Oper}{o:Oper}{K:St→Option R}{Q:Exit→Act→World→Prop}{KW:Act→World→Prop}(ho:ops[i]? =some o)
 (hs:SR nt st a w g lm)(h:op1 cx orc f rid nt ops i o st K=some r)(k:∀st' a' w' g' lm',K st'=some r→SR nt st' a' w' g' lm'→Tr w g w' g'→KW a' w'):wpOp cx.P ops Q i KW a w:=by
 unfold op1 at h
 cases hd:QeJ nt o.dst with
 |false=>rw[hd]at h;cases h
 |true=>
  rw[hd]at h
  simp only[Bool.not_true,cond_false]at h
  have exec:Region.wanted o (yielded ops a.tmps)=true→(opK cx orc f rid i o st fun x st=>K (st.put o.dst x))=some r→wpOp cx.P ops Q i KW a w:=by
   intro hw h
   obtain⟨x,st1,h1,hok⟩:=Qv0 hC hO hG hs h
   simp only[wpOp,ho,hw,if_true]
   left
   refine hok _ _ fun v w1 g1 lm1 s1 t1 r1=>?_
   obtain⟨g2,s2,t2⟩:=Qka hd s1 r1
   exact k _ _ _ _ _ h1 s2 (t1.trans t2)
  have skip:Region.wanted o (yielded ops a.tmps)=false→K (st.put o.dst .ud)=some r→wpOp cx.P ops Q i KW a w:=by
   intro hw h
   simp only[wpOp,ho,hw,Bool.false_eq_true,if_false]
   obtain⟨g2,s2,t2⟩:=Qka (x:=.ud) (v:=undef) hd hs rfl
   exact k _ _ _ _ _ h s2 t2
  cases hg:o.guard with
  |none=>
   rw[hg]at h
   exact exec (by simp[Region.wanted,hg]) h
  |some jw=>
   obtain⟨j,want⟩:=jw
   rw[hg]at h
   simp only at h
   cases hdd:(ops[j]?).bind (·.dst)with
   |none=>rw[hdd]at h;cases h
   |some d=>
    rw[hdd]at h
    simp only at h
    have htm:=hs.tm d
    have hud:st.t d=.ud→wpOp cx.P ops Q i KW a w:=by
     intro hx
     rw[hx]at h htm
     refine skip ?_ h
     simp only[Region.wanted,hg,Qe6 hdd htm];rfl
    have hbool:((st.t d).toB.bind fun b=>
     bif b then
      let st:={st with t:=upd st.t d (.v (.bool true))}
      bif want then opK cx orc f rid i o st fun x st=>K (st.put o.dst x)
      else K (st.put o.dst .ud)
     else
      let st:={st with t:=upd st.t d (.v (.bool false))}
      bif want then K (st.put o.dst .ud)
      else opK cx orc f rid i o st fun x st=>K (st.put o.dst x))=some r→
     wpOp cx.P ops Q i KW a w:=by
     intro h
     simp only[Option.bind_eq_some_iff]at h
     obtain⟨b,hb,h⟩:=h
     have hv:=QgZ htm hb
     have hx:st.t d=.v (.bool b):=by
      unfold LV.toB at hb
      split at hb
      ·rename_i heq;simp only[Option.some.injEq]at hb;subst hb;exact heq
      ·cases hb
     have hy:=QfW (ops:=ops) hdd hv
     have hself:({st with t:=upd st.t d (.v (.bool b))}:St)=st:=by rw[←hx,Qe8]
     cases b with
     |true=>
      simp only[cond_true]at h
      rw[hself]at h
      cases want with
      |true=>exact exec (by simp only[Region.wanted,hg,hy];rfl) h
      |false=>exact skip (by simp only[Region.wanted,hg,hy];rfl) h
     |false=>
      simp only[cond_false]at h
      rw[hself]at h
      cases want with
      |true=>exact skip (by simp only[Region.wanted,hg,hy];rfl) h
      |false=>exact exec (by simp only[Region.wanted,hg,hy];rfl) h
    cases hx:st.t d with
    |ud=>exact hud hx
    |_=>rw[hx]at h;exact hbool (by rw[hx];exact h)
theorem QoY (hC:CxOk cx)(hO:Qcn cx orc){f rid:Nat}{ops:Array Oper}{Q:Exit→Act→World→Prop}{K:St→Option R}:
 ∀(l:List Nat) (st:St) (g:Gh) (lm:Nat→Nat) (a:Act) (w:World),GOk cx w g→SR nt st a w g lm→opL cx orc f rid nt ops l st K=some r→
  (∀st' a' w' g' lm',K st'=some r→SR nt st' a' w' g' lm'→Tr w g w' g'→Q .normal a' w')→wpOps cx.P ops Q l a w
 |[],st,g,lm,a,w,_,hs,h,k=>k st a w g lm h hs (Tr.refl w g)
 |i::l,st,g,lm,a,w,hG,hs,h,k=>by
  rw[wpOps_cons]
  simp only[opL]at h
  cases ho:ops[i]? with
  |none=>rw[ho]at h;cases h
  |some o=>
   rw[ho]at h
   exact QoZ hC hO hG ho hs h fun st' a' w' g' lm' hk hs' t'=>QoY hC hO l st' g' lm' a' w' (hG.mono t'.le) hs' hk fun st2 a2 w2 g2 lm2 hk2 hs2 t2=>k st2 a2 w2 g2 lm2 hk2 hs2 (t'.trans t2)
theorem Qkd {ops:Array Oper}:∀(k:Nat) (o:Oper),ops.toList[k]? =some o→ops[0+k]? =some o:=fun k o hk=>by simpa using hk
theorem QrG (hC:CxOk cx)(hO:Qcn cx orc)(hG:GOk cx w g){f rid:Nat}{ops:Array Oper}{Q:Exit→Act→World→Prop}{K:St→Option R}
 (hs:SR nt st a w g lm)(h:Qkf cx orc f rid nt ops 0 ops.toList st K=some r)(k:∀st' a' w' g' lm',K st'=some r→SR nt st' a' w' g' lm'→Tr w g w' g'→Q .normal a' w'):
 wpOps cx.P ops Q (List.range ops.size) a w:=by
 rw[Qfk _ _ _ Qkd,Array.length_toList,←List.range_eq_range']at h
 exact QoY hC hO _ _ _ _ _ _ hG hs h k
theorem QfQ {m:List Nat}{k:Nat}:∀{es:List Edge},Nat.testBit (Qmc m es) k=true→∃e,e∈es∧Region.binds .any e=true∧(e.on=k∨Nat.testBit (m.getD e.on 0) k=true)
 |[],h=>by simp[Qmc]at h
 |e::es,h=>by
  simp only[Qmc]at h
  cases hb:Region.binds .any e with
  |false=>
   rw[hb,cond_false]at h
   obtain⟨e',h1,h2⟩:=QfQ h
   exact⟨e',by simp[h1],h2⟩
  |true=>
   rw[hb,cond_true]at h
   have h:Nat.testBit ((2^e.on|||m.getD e.on 0)|||Qmc m es) k=true:=h
   rw[Nat.testBit_or,Nat.testBit_or,Nat.testBit_two_pow]at h
   simp only[Bool.or_eq_true,decide_eq_true_eq]at h
   rcases h with(h|h)|h
   ·exact⟨e,by simp,hb,.inl h⟩
   ·exact⟨e,by simp,hb,.inr h⟩
   ·obtain⟨e',h1,h2⟩:=QfQ h
    exact⟨e',by simp[h1],h2⟩
theorem Qeo {i:Nat}:∀{es:List Edge},Qe0 i es=true→∀e,e∈es→Region.binds .any e=true→e.on<i
 |[],_,e,h,_=>by cases h
 |e'::es,hk,e,h,hb=>by
  simp only[Qe0,Bool.and_eq_true,Bool.or_eq_true,Bool.not_eq_true']at hk
  rcases List.mem_cons.1 h with rfl|h
  ·rcases hk.1 with h1|h1
   ·rw[hb]at h1;cases h1
   ·exact Nat.le_of_ble_eq_true h1
  ·exact Qeo hk.2 e h hb
theorem QgN {p:Option Fp}{b:Nat}:∀{qs:List (Option Fp)} {k:Nat},Qov p b k qs=true→∀(j:Nat) (q:Option Fp),qs[j]? =some q→Nat.testBit b (k+j)=true∨apart q p=true
 |[],k,_,j,q,h=>by simp at h
 |q'::qs,k,hk,j,q,h=>by
  simp only[Qov,Bool.and_eq_true,Bool.or_eq_true]at hk
  cases j with
  |zero=>simp only[List.getElem?_cons_zero,Option.some.injEq]at h;subst h;exact hk.1
  |succ j=>
   rw[show k+(j+1)=k+1+j by omega]
   exact QgN hk.2 j q (by simpa using h)
def QxA (cx:Cx)(f rid:Nat)(ops:Array Oper)(m:List Nat):Prop:=
 ∀(i:Nat) (o:Oper),ops[i]? =some o→Qe0 i o.after.toList=true∧m.getD i 0=Qmc m o.after.toList∧
  ∀(k:Nat) (ok:Oper),k<i→ops[k]? =some ok→Nat.testBit (m.getD i 0) k=true∨apart (QcX cx f rid ops k ok) (QcX cx f rid ops i o)=true
theorem QlZ {f rid:Nat}{ops:Array Oper}{m:List Nat}:∀{os:List Oper} {i:Nat} {ps:List (Option Fp)},QxU cx f rid ops m i os ps=true→ps.length=i→(∀(k:Nat) (o:Oper),os[k]? =some o→ops[i+k]? =some o)→
 (∀(k:Nat) (ok:Oper),k<i→ops[k]? =some ok→ps[k]? =some (QcX cx f rid ops k ok))→∀(j:Nat) (o:Oper),os[j]? =some o→Qe0 (i+j) o.after.toList=true∧m.getD (i+j) 0=Qmc m o.after.toList∧
 ∀(k:Nat) (ok:Oper),k<i+j→ops[k]? =some ok→Nat.testBit (m.getD (i+j) 0) k=true∨apart (QcX cx f rid ops k ok) (QcX cx f rid ops (i+j) o)=true
 |[],i,ps,_,_,_,_,j,o,h=>by simp at h
 |o'::os,i,ps,hk,hl,hops,hp,j,o,h=>by
  simp only[QxU,Bool.and_eq_true]at hk
  obtain⟨⟨⟨h1,h2⟩,h3⟩,h4⟩:=hk
  have hi:ops[i]? =some o':=by simpa using hops 0 o' rfl
  cases j with
  |zero=>
   simp only[List.getElem?_cons_zero,Option.some.injEq]at h
   subst h
   refine⟨h1,Nat.eq_of_beq_eq_true h2,fun k ok hk ho=>?_⟩
   have:=QgN h3 k _ (hp k ok hk ho)
   rwa[Nat.zero_add]at this
  |succ j=>
   rw[show i+(j+1)=i+1+j by omega]
   refine QlZ h4 (by simp[hl]) (fun k o hk=>?_) (fun k ok hk ho=>?_) j o (by simpa using h)
   ·rw[show i+1+k=i+(k+1) by omega];exact hops (k+1) o (by simpa using hk)
   ·by_cases e:k=i
    ·subst e
     rw[hi]at ho
     cases ho
     rw[List.getElem?_append_right (by omega)]
     simp[hl]
    ·rw[List.getElem?_append_left (by omega)]
     exact hp k ok (by omega) ho
theorem QoD {f rid:Nat}{ops:Array Oper}(h:QgS cx f rid ops=true):QxA cx f rid ops (QB1 ops.toList []):=fun i o ho=>by
 have:=QlZ h rfl Qkd (fun k ok hk=>by omega) i o (by simpa using ho)
 simpa only[Nat.zero_add]using this
def lst (b:Array Bool)(i:Nat):Bool:=b.getD i false
theorem Qkw {b:Array Bool}{i j:Nat}(hi:i<b.size):lst (b.setIfInBounds i true) j=(j==i||lst b j):=by
 unfold lst
 simp only[Array.getD_eq_getD_getElem?]
 by_cases e:j=i
 ·subst e;simp[hi]
 ·rw[Array.getElem?_setIfInBounds_ne (Ne.symm e)];simp[e]
theorem QiF {f rid:Nat}{ops:Array Oper}{m:List Nat}(hA:QxA cx f rid ops m){b:Array Bool}(hb:∀(i:Nat) (o:Oper),ops[i]? =some o→lst b i=true→∀e,e∈o.after.toList→Region.binds .any e=true→lst b e.on=true):
 ∀(n i:Nat) (o:Oper),i<n→ops[i]? =some o→(∀e,e∈o.after.toList→Region.binds .any e=true→lst b e.on=true)→∀k,Nat.testBit (m.getD i 0) k=true→lst b k=true
 |0,i,o,h,_,_,_,_=>by omega
 |n+1,i,o,hi,ho,he,k,hk=>by
  obtain⟨h1,h2,_⟩:=hA i o ho
  rw[h2]at hk
  obtain⟨e,hm,hbi,hor⟩:=QfQ hk
  have hl:=he e hm hbi
  rcases hor with rfl|hk
  ·exact hl
  ·have hlt:=Qeo h1 e hm hbi
   have hs:e.on<ops.size:=Nat.lt_trans hlt (Array.getElem?_eq_some_iff.1 ho).1
   have ho':ops[e.on]? =some ops[e.on]:=by simp[hs]
   exact QiF hA hb n e.on _ (by omega) ho' (hb e.on _ ho' hl) k hk
def Qf5 (n:Nat)(b:Array Bool):List Nat:=(List.range n).filter fun i=>!lst b i
theorem Qxu (hC:CxOk cx)(hO:Qcn cx orc){f rid:Nat}{ops:Array Oper}(hA:QgS cx f rid ops=true){Q:Exit→Act→World→Prop}{K:St→Option R}:
 ∀(fuel:Nat) (b:Array Bool) (st:St) (g:Gh) (lm:Nat→Nat) (a:Act) (w:World),b.size=ops.size→(Qf5 ops.size b).length=fuel→
  (∀(i:Nat) (o:Oper),ops[i]? =some o→lst b i=true→∀e,e∈o.after.toList→Region.binds .any e=true→lst b e.on=true)→
  GOk cx w g→SR nt st a w g lm→opL cx orc f rid nt ops (Qf5 ops.size b) st K=some r→(∀st' a' w' g' lm',K st'=some r→SR nt st' a' w' g' lm'→Tr w g w' g'→Q .normal a' w')→
  wpAny cx.P .any ops Q fuel b a w:=by
 have hAt:=QoD hA
 have ready_mem:∀{b:Array Bool} {i:Nat},b.size=ops.size→i∈Region.ready .any ops b→∃o,ops[i]? =some o∧i<ops.size∧lst b i=false∧∀e,e∈o.after.toList→Region.binds .any e=true→lst b e.on=true:=by
  intro b i hsz hi
  simp only[Region.ready,List.mem_filter,List.mem_range,Bool.and_eq_true,Bool.not_eq_true']at hi
  obtain⟨hlt,h1,h2⟩:=hi
  have ho:ops[i]? =some ops[i]:=by simp[hlt]
  refine⟨ops[i],ho,hlt,?_,fun e he hb=>?_⟩
  ·have hlt':i<b.size:=by omega
   simp only[Array.getD_eq_getD_getElem?,hlt',Array.getElem?_eq_getElem,Option.getD_some]at h1
   simp only[lst,Array.getD_eq_getD_getElem?,hlt',Array.getElem?_eq_getElem,Option.getD_some,h1]
  ·rw[ho]at h2
   simp only[Option.map_some,Option.getD_some,Array.all_eq_true_iff_forall_mem,Bool.or_eq_true,Bool.not_eq_true']at h2
   rcases h2 e (by simpa using he)with h3|h3
   ·rw[hb]at h3;cases h3
   ·exact h3
 have nil_of:∀{b:Array Bool},b.size=ops.size→Region.ready .any ops b=[]→Qf5 ops.size b=[]:=by
  intro b hsz hn
  have key:∀n i,i<n→i<ops.size→lst b i=true:=by
   intro n
   induction n with
   |zero=>intro i h;omega
   |succ n ih=>
    intro i hi hlt
    cases hl:lst b i with
    |true=>rfl
    |false=>
     have ho:ops[i]? =some ops[i]:=by simp[hlt]
     have:i∈Region.ready .any ops b:=by
      simp only[Region.ready,List.mem_filter,List.mem_range,Bool.and_eq_true,Bool.not_eq_true',ho,Option.map_some,Option.getD_some,Array.all_eq_true_iff_forall_mem,Bool.or_eq_true]
      have hlt':i<b.size:=by omega
      refine⟨hlt,?_,fun e he=>?_⟩
      ·simp only[lst,Array.getD_eq_getD_getElem?,hlt',Array.getElem?_eq_getElem,Option.getD_some]at hl
       simp only[Array.getD_eq_getD_getElem?,hlt',Array.getElem?_eq_getElem,Option.getD_some,hl]
      ·cases hb:Region.binds .any e with
       |false=>exact .inl rfl
       |true=>
        have:=Qeo (hAt i _ ho).1 e (by simpa using he) hb
        exact .inr (ih e.on (by omega) (by omega))
     rw[hn]at this
     cases this
  refine List.filter_eq_nil_iff.2 fun i hi=>?_
  have:=key (i+1) i (by omega) (List.mem_range.1 hi)
  simp[this]
 intro fuel
 induction fuel with
 |zero=>
  intro b st g lm a w hsz hlen hb hG hs h k
  have hr:Qf5 ops.size b=[]:=List.length_eq_zero_iff.1 hlen
  refine⟨?_,?_⟩
  ·cases hc:Region.ready .any ops b with
   |nil=>rfl
   |cons i l=>
    obtain⟨o,_,hlt,hl,_⟩:=ready_mem hsz (i:=i) (by rw[hc];simp)
    have:i∈Qf5 ops.size b:=by simp[Qf5,hlt,hl]
    rw[hr]at this;cases this
  ·rw[hr]at h
   exact k st a w g lm h hs (Tr.refl w g)
 |succ fuel ih=>
  intro b st g lm a w hsz hlen hb hG hs h k
  refine⟨fun hn=>?_,fun i hi=>?_⟩
  ·rw[nil_of hsz hn]at h
   exact k st a w g lm h hs (Tr.refl w g)
  ·obtain⟨o,ho,hlt,hl,he⟩:=ready_mem hsz hi
   have hmem:i∈Qf5 ops.size b:=by simp[Qf5,hlt,hl]
   obtain⟨A,B,hAB⟩:=List.append_of_mem hmem
   have hpw:(Qf5 ops.size b).Pairwise (·<·):=List.Pairwise.filter _ List.pairwise_lt_range
   have hnd:(Qf5 ops.size b).Nodup:=hpw.imp (fun h=>Nat.ne_of_lt h)
   have hlt':i<b.size:=by omega
   have hrem:Qf5 ops.size (b.setIfInBounds i true)=A++B:=by
    have h1:Qf5 ops.size (b.setIfInBounds i true)=(Qf5 ops.size b).filter (fun j=>!(j==i)):=by
     simp only[Qf5,List.filter_filter]
     refine List.filter_congr fun j hj=>?_
     rw[Qkw hlt']
     cases(j==i)<;>cases lst b j<;>rfl
    rw[h1,hAB]
    rw[hAB]at hnd
    have hn2:=List.nodup_append.1 hnd
    have hiA:i∉A:=fun h=>hn2.2.2 i h i (by simp) rfl
    have hiB:i∉B:=(List.nodup_cons.1 hn2.2.1).1
    rw[List.filter_append,List.filter_cons]
    simp only[BEq.rfl,Bool.not_true,Bool.false_eq_true,if_false]
    rw[List.filter_eq_self.2 (fun j hj=>by simp;rintro rfl;exact hiA hj),List.filter_eq_self.2 (fun j hj=>by simp;rintro rfl;exact hiB hj)]
   rw[hAB]at h hpw
   have hfront:=Qf7 (orc:=orc) (nt:=nt) A st (fun k hk=>by
    have hki:k<i:=(List.pairwise_append.1 hpw).2.2 k hk i (by simp)
    have hkm:k∈Qf5 ops.size b:=by rw[hAB];simp[hk]
    simp only[Qf5,List.mem_filter,List.mem_range,Bool.not_eq_true']at hkm
    have hok:ops[k]? =some ops[k]:=by simp[hkm.1]
    rcases(hAt i o ho).2.2 k _ hki hok with hbit|hap
    ·have:=QiF hAt hb (i+1) i o (by omega) ho he k hbit
     rw[this]at hkm
     exact absurd hkm.2 (by simp)
    ·unfold apart at hap
     cases hp:QcX cx f rid ops k ops[k]with
     |none=>rw[hp]at hap;cases hap
     |some p=>
      cases hq:QcX cx f rid ops i o with
      |none=>rw[hp,hq]at hap;cases hap
      |some q=>rw[hp,hq]at hap;exact⟨_,_,p,q,hok,ho,hp,hq,hap⟩) (fun oi q _ _ _ j hj id off ht=>by
    have:=hs.tm j
    rw[ht]at this
    have this:Rep w g (.ptr id off) (a.tmps.getD j undef):=this
    generalize a.tmps.getD j undef=v at this
    cases this with
    |ptr _ _ hlt=>rw[←hs.hp.1];exact hlt) h
   simp only[opL,ho]at hfront
   refine QoZ hC hO hG ho hs hfront fun st' a' w' g' lm' hk hs' t'=>?_
   refine ih (b.setIfInBounds i true) st' g' lm' a' w' (by simpa using hsz) ?_ (fun j oj hoj hj e hej hbj=>?_) (hG.mono t'.le) hs' (by rw[hrem];exact hk) (fun st2 a2 w2 g2 lm2 hk2 hs2 t2=>k st2 a2 w2 g2 lm2 hk2 hs2 (t'.trans t2))
   ·rw[hrem]
    rw[hAB]at hlen
    simp only[List.length_append,List.length_cons]at hlen⊢
    omega
   ·rw[Qkw hlt']at hj⊢
    simp only[Bool.or_eq_true,beq_iff_eq]at hj⊢
    rcases hj with rfl|hj
    ·rw[ho]at hoj
     cases hoj
     exact .inr (he e hej hbj)
    ·exact .inr (hb j oj hoj hj e hej hbj)
theorem Qik:∀{bs:List (Nat×Nat)} {i:Nat},hasB bs i=true→∃n,(i,n)∈bs
 |[],i,h=>by cases h
 |b::bs,i,h=>by
  simp only[hasB,Bool.or_eq_true]at h
  rcases h with h|h
  ·have:=Nat.eq_of_beq_eq_true h
   exact⟨b.2,by simp[←this]⟩
  ·obtain⟨n,hn⟩:=Qik h
   exact⟨n,by simp[hn]⟩
theorem Qpr:∀(l r:List LV),apT l r=l++r
 |[],r=>rfl
 |x::l,r=>by simp[apT,Qpr l r]
theorem QkC (m:Nat→Nat→LV)(i:Nat):∀(n:Nat) (r:List LV),kpC m i n r=(List.range n).map (m i)++r
 |0,r=>rfl
 |n+1,r=>by simp[kpC,QkC m i n,List.range_succ]
theorem Qh3 (t:Nat→LV)(bs:List (Nat×Nat))(rest:List LV):∀(ts:List Nat),(mkT ts (kpT t bs ts++rest)).2=rest∧∀j,(mkT ts (kpT t bs ts++rest)).1 j=.un∨(mkT ts (kpT t bs ts++rest)).1 j=kpL bs (t j)
 |[]=>⟨rfl,fun _=>.inl rfl⟩
 |i::ts=>by
  obtain⟨h1,h2⟩:=Qh3 t bs rest ts
  simp only[kpT,List.cons_append,mkT]
  refine⟨h1,fun j=>?_⟩
  by_cases e:j=i
  ·subst e;right;rw[Qai]
  ·rw[Qao _ _ e];exact h2 j
theorem Qh4 (m:Nat→Nat→LV)(nl:Nat)(z:Nat→Nat):∀(bs:List (Nat×Nat)),Ql9 nl z bs=true→
 ∀i,(mkB bs (kpB m bs)).2 i=0∨((mkB bs (kpB m bs)).2 i=z i∧i<nl∧∀c,c<z i→(mkB bs (kpB m bs)).1 i c=m i c)
 |[],_,i=>.inl rfl
 |b::bs,h,i=>by
  simp only[Ql9,Bool.and_eq_true]at h
  obtain⟨⟨h1,h2⟩,h3⟩:=h
  have h1:=Nat.eq_of_beq_eq_true h1
  have h2:b.1<nl:=Nat.le_of_ble_eq_true h2
  have hdrop:(kpB m (b::bs)).drop b.2=kpB m bs:=by
   simp only[kpB,QkC]
   rw[List.drop_append_of_le_length (by simp)]
   simp
  simp only[mkB,hdrop]
  by_cases e:i=b.1
  ·subst e
   right
   rw[Qai]
   refine⟨h1.symm,h2,fun c hc=>?_⟩
   rw[QbZ,if_pos (by omega)]
   simp only[kpB,QkC,Nat.sub_zero]
   rw[List.getD_eq_getElem?_getD,List.getElem?_append_left (by simp;omega),List.getElem?_map,List.getElem?_eq_getElem (by simp;omega)]
   simp
  ·rw[Qao _ _ e]
   rcases Qh4 m nl z bs h3 i with h4|⟨h4,h5,h6⟩
   ·exact .inl h4
   ·refine .inr ⟨h4,h5,fun c hc=>?_⟩
    rw[QbZ,if_neg (by omega)]
    exact h6 c hc
theorem Qii {nl:Nat}{z:Nat→Nat}:∀{bs:List (Nat×Nat)},Ql9 nl z bs=true→∀{i n:Nat},(i,n)∈bs→i<nl
 |[],_,i,n,h=>by cases h
 |b::bs,hk,i,n,h=>by
  simp only[Ql9,Bool.and_eq_true]at hk
  rcases List.mem_cons.1 h with rfl|h
  ·exact Nat.le_of_ble_eq_true hk.1.2
  ·exact Qii hk.2 h
theorem SR.keepSt (hs:SR nt st a w g lm){kp:Keep}(hk:Ql9 kp.nl st.z kp.bs=true):SR nt (Ql8 kp (kept kp st) st.h) a w g lm:=by
 have hT:=Qh3 st.t kp.bs (kpB st.m kp.bs) kp.ts
 have hkept:kept kp st=kpT st.t kp.bs kp.ts++kpB st.m kp.bs:=Qpr _ _
 have hB:=Qh4 st.m kp.nl st.z kp.bs hk
 refine⟨hs.wf,hs.nt,hs.df,fun j=>?_,fun i hi=>?_,hs.hp⟩
 ·show RepV w g lm kp.nl (.tmp j) ((mkT kp.ts (kept kp st)).1 j) _
  rw[hkept]
  rcases hT.2 j with h|h
  ·rw[h];exact trivial
  ·rw[h]
   have:=hs.tm j
   cases hx:st.t j with
   |lp i off=>
    rw[hx]at this
    simp only[kpL]
    cases hb:hasB kp.bs i with
    |false=>exact trivial
    |true=>
     obtain⟨n,hn⟩:=Qik hb
     exact⟨Qii hk hn,this.2⟩
   |_=>rw[hx]at this;exact this
 ·have hz:(Ql8 kp (kept kp st) st.h).z=(mkB kp.bs (kpB st.m kp.bs)).2:=by simp only[Ql8,hkept,hT.1]
  have hm:(Ql8 kp (kept kp st) st.h).m=(mkB kp.bs (kpB st.m kp.bs)).1:=by simp only[Ql8,hkept,hT.1]
  rw[hz]at hi⊢
  rw[hm]
  rcases hB i with h|⟨h1,h2,h3⟩
  ·omega
  ·rw[h1]at hi⊢
   obtain⟨_,b2,b3,c,e,b4,b5,b6⟩:=hs.bx i hi
   exact⟨h2,b2,b3,c,e,b4,b5,fun j hj=>by
    obtain⟨u,hu,hr⟩:=b6 j hj
    exact⟨u,hu,by rw[h3 j hj];exact hr⟩⟩
theorem Qjm {P:Program}{b off:Nat}:(asAddr (.pointer (some ⟨b,off,none⟩))).run P w=.ok ⟨b,off,none⟩ w:=rfl
def Ql7 (_P:Program)(tmps:Array Value):ResultVar→Sem Value
 |.tmp t=>pure (tmps.getD t undef)
 |.cell a t=>do loadVar t (←asAddr (tmps.getD a undef))
theorem QiT {a0:Tmp}{t:TypeId}{x:LV}(hs:SR nt st a w g lm)(h:QoV cx false st (.cell a0 t)=some x):
 ∃g' v,SR nt st a w g' lm∧Qt w g w g'∧RepF w g' lm st.nl x v∧(Ql7 cx.P a.tmps (.cell a0 t)).run cx.P w=.ok v w:=by
 simp only[QoV]at h
 cases hx:st.t a0<;>rw[hx]at h<;>simp only[reduceCtorEq]at h
 rename_i b off
 have htm:=hs.tm a0
 rw[hx]at htm
 simp only[Option.bind_eq_some_iff]at h
 obtain⟨z,hz,h⟩:=h
 by_cases hb:Nat.ble (off+(bif z.2 then z.1 else 1)) (st.z b)=true
 ·rw[hb,cond_true]at h
  have hb:=Nat.le_of_ble_eq_true hb
  have key:∀v,(loadVar t ⟨lm b,off,none⟩).run cx.P w=.ok v w→(Ql7 cx.P a.tmps (.cell a0 t)).run cx.P w=.ok v w:=by
   intro v hv
   simp only[Ql7,htm.2,Sem.run_bind,Qjm,Result.andThen_ok,hv]
  cases h2:z.2 with
  |true=>
   rw[h2]at h hb
   simp only[cond_true,Option.bind_eq_some_iff,Option.some.injEq]at h hb
   obtain⟨cs,hcs,rfl⟩:=h
   obtain⟨hlen,g2,s2,t2,hc⟩:=QiB hs hb hcs
   have hld:ldA cs z.1 z.2=some (.agg cs):=by
    unfold ldA
    rw[h2,hlen,Nat.ble_eq_true_of_le (Nat.le_refl _)]
    simp only[cond_true,Option.some.injEq,AV.agg.injEq]
    exact List.take_of_length_le (by omega)
   obtain⟨v,hv,hr⟩:=QcP (g:=g2) hz hc hld
   exact⟨g2,v,s2,t2,fun _=>hr,key v hv⟩
  |false=>
   rw[h2]at h hb
   simp only[cond_false,Option.some.injEq]at h hb
   subst h
   obtain⟨_,_,_,c,e,h4,h5,h6⟩:=hs.bx b (by omega)
   have F:=SR.famBox (nt:=nt) (st:=st) (a:=a) (w:=w) (lm:=lm) b (by omega) c e h4
   obtain⟨g2,s2,t2,hr⟩:=F.cp1 (k:=off) (by omega) hs
   have hlt:off<c.size:=by omega
   have hcl:Cl w (lm b) off=some (c.getD off undef):=by rw[Qcf h4];simp[Array.getD_eq_getD_getElem?,hlt]
   refine⟨g2,_,s2,t2,fun hd=>?_,key _ (Qbs hz h2 hcl)⟩
   have hr:=hr .oth
   obtain⟨_,_,_,c',e',h4',_,h6'⟩:=s2.bx b (by omega)
   obtain⟨u,_,hu⟩:=h6' off (by omega)
   cases hm:st.m b off<;>rw[hm]at hr hu<;>simp only[LV.cp,LV.cp1,RepC]at hr hu⊢
   ·exact trivial
   ·exact hr.1
   ·exact hr.1
 ·rw[Bool.eq_false_iff.2 hb]at h;cases h
theorem Qj9 {rv:ResultVar}{x:LV}(hs:SR nt st a w g lm)(h:QoV cx false st rv=some x):
 ∃g' v,SR nt st a w g' lm∧Qt w g w g'∧RepF w g' lm st.nl x v∧(Ql7 cx.P a.tmps rv).run cx.P w=.ok v w:=by
 cases rv with
 |tmp t=>
  simp only[QoV,cond_false,Option.some.injEq]at h
  subst h
  obtain⟨g',s',t',r'⟩:=QcK hs (.tmp t)
  exact⟨g',_,s',t',r',rfl⟩
 |cell a0 t=>exact QiT hs h
theorem QhT:∀(rs:List ResultVar) (xs:List AV) (g:Gh),SR nt st a w g lm→QiS cx st rs=some xs→
 ∃(vs:List Value) (g':Gh),SR nt st a w g' lm∧Qt w g w g'∧(rs.mapM (Ql7 cx.P a.tmps)).run cx.P w=.ok vs w∧vs.length=xs.length∧xs.length=rs.length∧∀(j:Nat) (x:AV),xs[j]? =some x→∃u,vs[j]? =some u∧Rep w g' x u
 |[],xs,g,hs,h=>by
  simp only[QiS,Option.some.injEq]at h
  subst h
  exact⟨[],g,hs,Qt.refl w g,by simp,rfl,rfl,by simp⟩
 |rv::rs,xs,g,hs,h=>by
  simp only[QiS,Option.bind_eq_some_iff,Option.some.injEq]at h
  obtain⟨y,hy,p,hp,ps,hps,rfl⟩:=h
  obtain⟨g1,v,s1,t1,r1,run1⟩:=Qj9 hs hy
  obtain⟨vs,g2,s2,t2,run2,l2,l3,r2⟩:=QhT rs ps g1 s1 hps
  have hrep:Rep w g1 p v:=by
   have:=r1 (fun _=>.oth)
   cases y<;>simp only[LV.cpy,reduceCtorEq,Option.some.injEq]at hp
   ·subst hp;exact this
   ·exact absurd rfl this.1
   ·simp only[Option.bind_eq_some_iff,Option.some.injEq]at hp
    obtain⟨cs,hcs,rfl⟩:=hp
    obtain⟨us,rfl,hsz,hc⟩:=this
    have key:∀(l:List LV) (k:Nat) (cs:List AV),cpyL l=some cs→(∀(j:Nat) (z:LV),l[j]? =some z→∃u,us[k+j]? =some u∧RepC w g1 .oth z u)→
     cs.length=l.length∧∀(j:Nat) (c:AV),cs[j]? =some c→∃u,us[k+j]? =some u∧Rep w g1 c u∧c.one=true:=by
     intro l
     induction l with
     |nil=>intro k cs h _;simp only[cpyL,Option.some.injEq]at h;subst h;simp
     |cons z l ih=>
      intro k cs h hc
      simp only[cpyL,Option.bind_eq_some_iff,Option.some.injEq]at h
      obtain⟨c,hc1,cs',hcs',rfl⟩:=h
      obtain⟨i1,i2⟩:=ih (k+1) cs' hcs' (fun j z' hj=>by
       have:=hc (j+1) z' (by simpa using hj)
       rwa[show k+(j+1)=k+1+j by omega]at this)
      refine⟨by simp[i1],fun j c' hj=>?_⟩
      cases j with
      |zero=>
       simp only[List.getElem?_cons_zero,Option.some.injEq]at hj
       subst hj
       obtain⟨u,hu,hr⟩:=hc 0 z rfl
       cases z<;>simp only[LV.cpy1,reduceCtorEq,Option.some.injEq]at hc1
       ·subst hc1;exact⟨u,hu,hr⟩
       ·exact absurd rfl hr.1
      |succ j=>
       simp only[List.getElem?_cons_succ]at hj
       have:=i2 j c' hj
       rwa[show k+1+j=k+(j+1) by omega]at this
    rename_i l
    obtain⟨k1,k2⟩:=key l 0 cs hcs (fun j z hj=>by rw[Nat.zero_add];exact hc j z hj)
    exact QiJ (by omega) (fun j c hj=>by have:=k2 j c hj;rwa[Nat.zero_add]at this)
  refine⟨v::vs,g2,s2,t1.trans t2,by simp[List.mapM_cons,run1,run2],by simp[l2],by simp[l3],fun j x hj=>?_⟩
  cases j with
  |zero=>simp only[List.getElem?_cons_zero,Option.some.injEq]at hj;subst hj;exact⟨v,rfl,hrep.mono t2.le⟩
  |succ j=>simp only[List.getElem?_cons_succ]at hj;obtain⟨u,hu,hr⟩:=r2 j x hj;exact⟨u,by simpa using hu,hr⟩
def Qj8:List Value→Value
 |[v]=>v
 |vs=>.tuple vs.toArray
theorem Qcu {P:Program}{fn:Func}{tmps:Array Value}{vs:List Value}(h:(fn.results.toList.mapM (Ql7 P tmps)).run P w=.ok vs w):
 (results fn tmps).run P w=.ok (Qj8 vs) w:=by
 have e:results fn tmps=(do let vs ←fn.results.mapM (Ql7 P tmps);pure (if h:vs.size=1 then vs[0]else .tuple vs)):=by
  unfold results
  have:(fun|.tmp t=>pure (tmps.getD t undef)|.cell a t=>do loadVar t (←asAddr (tmps.getD a undef)):ResultVar→Sem Value)=Ql7 P tmps:=by
   funext rv;cases rv<;>rfl
  rw[←this]
  rfl
 have e2:((fn.results.mapM (Ql7 P tmps)):Sem (Array Value)).run P w=.ok vs.toArray w:=by
  rw[Array.mapM_eq_mapM_toList]
  simp[h]
 rw[e,Sem.run_bind,e2,Result.andThen_ok]
 cases vs with
 |nil=>rfl
 |cons v vs=>cases vs<;>rfl
theorem QoU {x:LV}{v:Value}{h':Heap}{g':Gh}(wf:Wf w g')(t:Tr w g w g')(hh:HeapOk w g' h')(hx:RepV w g' lm st.nl .res x v)(hne:(∃a,x=.v a)∨∃n xs,x=.ow n xs):Ret w g x h' v w:=by
 refine⟨g',wf,t,hh,?_⟩
 rcases hne with⟨a,rfl⟩|⟨n,xs,rfl⟩<;>exact hx
theorem Qcr {f:FuncId}{fn:Func}{x:LV}{h':Heap}(hf:cx.P.funcs[f]? =some fn)(hs:SR nt st a w g lm)(h:fin cx f st=some (x,h')):∃v,(results fn a.tmps).run cx.P w=.ok v w∧Ret w g x h' v w:=by
 unfold fin at h
 rw[hf]at h
 simp only[Option.bind_some]at h
 have many:((QiS cx st fn.results.toList).bind fun xs=>some ((LV.tup xs),st.h))=some (x,h')→fn.results.toList.length≠1→∃v,(results fn a.tmps).run cx.P w=.ok v w∧Ret w g x h' v w:=by
  intro h hl
  simp only[Option.bind_eq_some_iff,Option.some.injEq,Prod.mk.injEq]at h
  obtain⟨xs,hxs,rfl,rfl⟩:=h
  obtain⟨vs,g1,s1,t1,run,l1,l2,hr⟩:=QhT _ _ _ hs hxs
  refine⟨Qj8 vs,Qcu run,g1,s1.wf,t1.toTr,s1.hp,?_⟩
  have:Qj8 vs=.tuple vs.toArray:=by
   match vs,l1 with
   |[],_=>rfl
   |[v],l1=>simp only[List.length_cons,List.length_nil]at l1;omega
   |_::_::_,_=>rfl
  rw[this]
  exact⟨vs.toArray,rfl,by simpa using l1,fun j y hj=>by
   obtain⟨u,hu,hr⟩:=hr j y hj
   exact⟨u,by simpa using hu,hr⟩⟩
 cases hl:fn.results.toList with
 |nil=>rw[hl]at h many;exact many h (by simp)
 |cons rv rest=>
  cases rest with
  |cons r2 rest=>rw[hl]at h many;exact many h (by simp)
  |nil=>
   rw[hl]at h
   simp only[Option.bind_eq_some_iff]at h
   obtain⟨y,hy,h⟩:=h
   have hy':(y=x∧st.h=h')∧((∃a,x=.v a)∨∃n xs,x=.ow n xs):=by
    cases y<;>simp only[reduceCtorEq,Option.some.injEq,Prod.mk.injEq]at h
    ·obtain⟨rfl,rfl⟩:=h;exact⟨⟨rfl,rfl⟩,.inl ⟨_,rfl⟩⟩
    ·obtain⟨rfl,rfl⟩:=h;exact⟨⟨rfl,rfl⟩,.inr ⟨_,_,rfl⟩⟩
   obtain⟨⟨rfl,rfl⟩,hne⟩:=hy'
   have one:QoV cx false st rv=some y→∃v,(results fn a.tmps).run cx.P w=.ok v w∧Ret w g y st.h v w:=by
    intro hy
    obtain⟨g',v,s',t',r',run⟩:=Qj9 hs hy
    exact⟨v,Qcu (vs:=[v]) (by rw[hl];simp[List.mapM_cons,run]),QoU s'.wf t'.toTr s'.hp (r' _) hne⟩
   cases rv with
   |cell a0 t=>exact one hy
   |tmp t=>
    cases ho:cx.retOw f with
    |false=>rw[ho]at hy;exact one hy
    |true=>
     rw[ho]at hy
     simp only[QoV,cond_true,Option.some.injEq]at hy
     subst hy
     obtain⟨s',r'⟩:=hs.take t
     refine⟨a.tmps.getD t undef,Qcu (vs:=[a.tmps.getD t undef]) (by rw[hl];simp[List.mapM_cons,Ql7]),QoU s'.wf (Qb5 w g rfl) s'.hp r' hne⟩
def SP (cx:Cx)(f:FuncId)(fn:Func)(x:LV)(h':Heap)(st:St)(todo:List Item):Prop:=
 ∀(a:Act) (w:World) (g:Gh) (lm:Nat→Nat),SR fn.ntmps st a w g lm→GOk cx w g→∀cs:List Frame,
  ∃v w' fr,Steps cx.P (lone ((Qhr f).at a todo) cs w) (lone fr cs w')∧fr.fn=f∧fr.leaving cx.P w' (.returned v)∧Ret w g x h' v w'
theorem Qig {f:FuncId}{fn:Func}{x:LV}{h':Heap}{todo:List Item}{cs:List Frame}(hf:cx.P.funcs[f]? =some fn)(hs:SR nt st a w g lm)(h:fin cx f st=some (x,h'))
 (hstep:step cx.P (lone ((Qhr f).at a todo) cs w)=.next (lone {(Qhr f).at a todo with mode:=.returning} cs w)):
 ∃v w' fr,Steps cx.P (lone ((Qhr f).at a todo) cs w) (lone fr cs w')∧fr.fn=f∧fr.leaving cx.P w' (.returned v)∧Ret w g x h' v w':=by
 obtain⟨v,run,ret⟩:=Qcr hf hs h
 exact⟨v,w,_,.one hstep,rfl,⟨rfl,hs.df,rfl,fn,hf,run⟩,ret⟩
theorem QBa (hs:SR nt st a w g lm){c:Operand}{b:Bool}(h:st.rb c=some b):a.eval c=.bool b:=by
 obtain⟨_,_,_,r⟩:=QcK hs c
 exact QgZ (r .res) h
theorem Qit (hC:CxOk cx)(hO:Qcn cx orc){f:FuncId}{fn:Func}(hf:cx.P.funcs[f]? =some fn){x:LV}{h':Heap}:
 ∀(n:Nat) (first:Bool) (todo:List Item) (st:St),evS cx orc f n first todo st=some (x,h')→SP cx f fn x h' st todo
 |0,_,_,_,h=>by cases h
 |n+1,first,todo,st,h=>by
  intro a w g lm hs hG cs
  have go:∀{first':Bool} {todo':List Item},step cx.P (lone ((Qhr f).at a todo) cs w)=.next (lone ((Qhr f).at a todo') cs w)→evS cx orc f n first' todo' st=some (x,h')→
   ∃v w' fr,Steps cx.P (lone ((Qhr f).at a todo) cs w) (lone fr cs w')∧fr.fn=f∧fr.leaving cx.P w' (.returned v)∧Ret w g x h' v w':=by
   intro first' todo' hstep h
   obtain⟨v,w',fr,s1,rest⟩:=Qit hC hO hf n first' todo' st h a w g lm hs hG cs
   exact⟨v,w',fr,.head hstep s1,rest⟩
  match todo,h with
  |[],h=>exact Qig hf hs h step_end
  |.inBlock _::k,h=>exact go step_inBlock h
  |.inLoop body::k,h=>exact go step_inLoop h
  |.code c::k,h=>
   cases c with
   |ret=>exact Qig hf hs h step_ret
   |skip=>exact go step_skip h
   |label l=>exact go step_label h
   |seq c d=>exact go step_seq h
   |cond c y z=>
    simp only[evS,Option.bind_eq_some_iff]at h
    obtain⟨b,hb,h⟩:=h
    have hv:=QBa hs hb
    cases b with
    |true=>exact go (step_cond (t:=true) hv) h
    |false=>exact go (step_cond (t:=false) hv) h
   |block id body=>exact go step_block h
   |loop body=>exact go step_loop h
   |exit id=>
    simp only[evS]at h
    cases he:exitTo id k with
    |none=>rw[he]at h;cases h
    |some k'=>rw[he]at h;exact go (step_exit he) h
   |region id ops draw=>
    simp only[evS]at h
    cases hc:(bif first then none else cx.cut f id)with
    |some kp=>
     rw[hc]at h
     simp only at h
     cases hk:Ql9 kp.nl st.z kp.bs with
     |false=>rw[hk]at h;cases h
     |true=>
      rw[hk,cond_true]at h
      have hcut:cx.cut f id=some kp:=by cases first<;>simp_all
      have hst:QqZ cx f (.code (.region id ops draw)::k) (kept kp st) st.h=Ql8 kp (kept kp st) st.h:=by simp only[QqZ,cutAt,hcut]
      exact hO f _ _ _ x h' fn h hf a w g lm (by rw[hst];exact hs.keepSt hk) hG cs
    |none=>
     rw[hc]at h
     simp only at h
     cases hd:(!draw||QgS cx f id ops)with
     |false=>rw[hd]at h;cases h
     |true=>
      rw[hd,cond_true,hf]at h
      simp only[Option.bind_some]at h
      have fin:∀{a':Act} {w':World},(∃g' lm' st',evS cx orc f n false k st'=some (x,h')∧SR fn.ntmps st' a' w' g' lm'∧Tr w g w' g')→Steps cx.P (lone ((Qhr f).at a (.code (.region id ops draw)::k)) cs w) (lone ((Qhr f).at a' k) cs w')→
       ∃v w' fr,Steps cx.P (lone ((Qhr f).at a (.code (.region id ops draw)::k)) cs w) (lone fr cs w')∧fr.fn=f∧fr.leaving cx.P w' (.returned v)∧Ret w g x h' v w':=by
       rintro a' w' ⟨g',lm',st',hk,hs',ht'⟩ harr
       obtain⟨v,w2,fr,s1,f1,l1,ret⟩:=Qit hC hO hf n false k st' hk a' w' g' lm' hs' (hG.mono ht'.le) cs
       obtain⟨g2,r1,r2,r3,r4⟩:=ret
       exact⟨v,w2,fr,Steps.trans harr s1,f1,l1,g2,r1,ht'.trans r2,r3,r4⟩
      cases draw with
      |true=>
       have hany:QgS cx f id ops=true:=by simpa using hd
       have hs0:SR fn.ntmps st a w.drew g lm:=hs.keep (Qhw hs.wf) rfl (fun hd _ _ _=>Qhx w g hd)
       have hrem:Qf5 ops.size (Array.replicate ops.size false)=List.range ops.size:=by
        refine List.filter_eq_self.2 fun i hi=>?_
        simp[lst,Array.getD_eq_getD_getElem?,List.mem_range.1 hi]
       rw[Qfk _ _ _ Qkd,Array.length_toList,←List.range_eq_range',←hrem]at h
       have hw:=Qxu hC hO hany (Q:=fun e a' w'=>e=.normal∧∃g' lm' st',evS cx orc f n false k st'=some (x,h')∧SR fn.ntmps st' a' w' g' lm'∧Tr w g w' g') ops.size (Array.replicate ops.size false) st g lm a w.drew (by simp) (by rw[hrem];simp)
        (fun i o ho hl=>by simp[lst,Array.getD_eq_getD_getElem?,Array.getElem?_replicate]at hl;split at hl<;>simp at hl) (hG.mono (Qdo w g)) hs0 h
        (fun st' a' w' g' lm' hk hs' ht'=>⟨rfl,g',lm',st',hk,hs',(QcB w g).trans ht'⟩)
       obtain⟨e,a',w',⟨rfl,hq⟩,harr⟩:=wp_region_any (id:=id) hC.mixed hw (Qhr f) k cs
       exact fin hq harr
      |false=>
       have hw:=QrG hC hO hG (Q:=fun e a' w'=>e=.normal∧∃g' lm' st',evS cx orc f n false k st'=some (x,h')∧SR fn.ntmps st' a' w' g' lm'∧Tr w g w' g') hs h
        (fun st' a' w' g' lm' hk hs' ht'=>⟨rfl,g',lm',st',hk,hs',ht'⟩)
       obtain⟨e,a',w',⟨rfl,hq⟩,harr⟩:=wp_region hw (Qhr f) k cs
       exact fin hq harr
   |_=>cases h
  |.inRegion _ _::_,h=>cases h
  |.inScope _::_,h=>cases h
theorem Qnj (hC:CxOk cx)(hO:Qcn cx orc):Qcn cx (QeA cx orc):=by
 intro f todo xs h x h' fn hh hf
 unfold QeA at hh
 cases hc:cutAt cx f todo with
 |some kp=>
  rw[hc]at hh
  have:=Qit hC hO hf _ _ _ _ hh
  simp only[QqZ,hc]
  exact this
 |none=>
  rw[hc]at hh
  have:=Qit hC hO hf _ _ _ _ hh
  simp only[QqZ,hc]
  exact this
end Go.Proofs.Am
