/-
  Append to a slice in a heap box.
-/
import Derived.Test.YtoblgjmllmomhaaGreatDoorAmOpN
namespace Go.Proofs.Am
open Go
variable {R:Type} {P:Program} {nt:Nat} {o:Oper} {st:St} {a:Act} {w:World} {g:Gh} {lm:Nat→Nat} {K:LV→St→Option R} {r:R}
def QdT (id nb:Nat):Hd→Hd
 |.hcell i c=>if i=id then .hcell nb c else .hcell i c
 |.hbox i=>if i=id then .hbox nb else .hbox i
 |h=>h
def Qbj (g:Gh)(id b:Nat):Gh:={g with own:=upd (fun k=>QdT id g.nb (g.own k)) b (.hbox g.nb),nb:=g.nb+1,bm:=upd g.bm g.nb b}
theorem SR.grow_heap (hs:SR nt st a w g lm){id b:Nat}{bx:List LV}{w':World}{c c':Array Value}{e e':TypeId}(hid:st.h.bx[id]? =some bx)(hne:bx≠[])
 (hc:w.heap[g.bm id]? =some (.cells c e (0,0)))(hw:∀k,k<w.heap.size→k≠g.bm id→w'.heap[k]? =w.heap[k]?)(hz:w.heap.size≤w'.heap.size)(hos:w'.os=w.os)(htp:w'.tape=w.tape)(hou:w'.output=w.output)
 (hbz:∀n,bsz w (g.bm id)=some n→bsz w' (g.bm id)=some n)(hb:b=g.bm id∨w.heap.size≤b)(hc':w'.heap[b]? =some (.cells c' e' (0,0)))(l:List LV)(hl:l.length≤c'.size)
 (hx:∀(j:Nat) (x:LV),l[j]? =some x→∃u,c'[j]? =some u∧((bx[j]? =some x∧c[j]? =some u)∨∃p,x=.v p∧Rep w g p u∧p.one=true)):
 SR nt {st with h:={st.h with bx:=st.h.bx.set id []++[l]}} a w' (Qbj g id b) lm∧Tr w g w' (Qbj g id b)∧(Qbj g id b).nb=st.h.bx.length+1∧(Qbj g id b).bm st.h.bx.length=b:=by
 obtain⟨o1,o2,c0,e0,o3,o4,o5⟩:=hs.hp.2 id bx hid hne
 rw[hc]at o3
 simp only[Option.some.injEq,Obj.cells.injEq]at o3
 obtain⟨rfl,rfl,_⟩:=o3
 have hnb:=hs.hp.1
 have hidlt:id<g.nb:=by rw[hnb];exact(List.getElem?_eq_some_iff.1 hid).1
 have hbml:g.bm id<w.heap.size:=QaP hc
 have hbl:b<w'.heap.size:=QaP hc'
 have L:Le w g w' (Qbj g id b):=⟨fun _=>Nat.le_refl _,fun k j hj=>by
  have hk:k<w.heap.size:=by
   rcases Nat.lt_or_ge k w.heap.size with h|h
   ·exact h
   ·rw[hs.wf.sl k h]at hj;omega
  refine Qau (hw k hk ?_)
  rintro rfl
  rw[o2]at hj;omega,by simp[Qbj],fun i hi=>by simp only[Qbj];rw[Qao _ _ (by omega)],fun k n hn=>by
  by_cases h:k=g.bm id
  ·subst h;exact hbz n hn
  ·rw[Qak (hw k (Qc9 hn) h)];exact hn⟩
 have hne':∀k,k<w.heap.size→k≠g.bm id→k≠b:=by
  intro k h1 h2
  rcases hb with rfl|hb
  ·exact h2
  ·omega
 have K:∀hd,QdT id g.nb hd=hd→hd≠.hbox id→Kp w g w' (Qbj g id b) hd:=fun hd h1 h2=>⟨L,fun k hk ho=>by
  have hkn:k≠g.bm id:=by rintro rfl;rw[o1]at ho;exact h2 ho.symm
  exact⟨hw k hk hkn,by simp only[Qbj];rw[Qao _ _ (hne' k hk hkn),ho,h1],rfl⟩⟩
 have KN:∀j,Kp w (Qbv g (QdT id g.nb)) w' (Qbj g id b) (.hcell g.nb j):=fun j=>⟨⟨L.sl,L.cell,L.nb,L.bm,L.sz⟩,fun k hk ho=>by
  have hkn:k≠g.bm id:=by rintro rfl;simp only[Qbv,o1,QdT,if_true]at ho;cases ho
  refine⟨hw k hk hkn,?_,rfl⟩
  simp only[Qbj];rw[Qao _ _ (hne' k hk hkn)];exact ho⟩
 have tid:∀i,i≠id→QdT id g.nb (.hbox i)=.hbox i∧∀j,QdT id g.nb (.hcell i j)=.hcell i j:=fun i hi=>⟨by simp[QdT,hi],fun j=>by simp[QdT,hi]⟩
 have hw2:Wf w' (Qbj g id b):=by
  refine⟨fun k hk=>?_,fun k hk=>hs.wf.sl k (Nat.le_trans hz hk),fun k hk=>?_⟩
  ·simp only[Qbj];rw[Qao _ _ (by omega),hs.wf.own k (Nat.le_trans hz hk)];rfl
  ·by_cases h:k=b
   ·subst h
    refine⟨c'.size,Qba hc',?_⟩
    show g.sl k≤_
    rcases hb with rfl|hb
    ·rw[o2];omega
    ·rw[hs.wf.sl k hb];omega
   ·simp only[Qbj]at hk
    rw[Qao _ _ h]at hk
    have ho:g.own k≠.oth:=fun e=>hk (by rw[e];rfl)
    obtain⟨n,h1,h2⟩:=hs.wf.fit k ho
    exact⟨n,L.sz k n h1,h2⟩
 refine⟨⟨hw2,hs.nt,hs.df,fun j=>(hs.tm j).mono (fun c=>K _ rfl (by simp)),hs.bx.keep (fun _=>K _ rfl (by simp)) (fun _ _=>K _ rfl (by simp)),⟨by simp[Qbj,hnb],fun i bx' hi hne2=>?_⟩⟩,
  ⟨L,hz,fun k hk ho=>?_,hos,htp,hou⟩,by simp[Qbj,hnb],by simp only[Qbj,←hnb,Qai]⟩
 ·dsimp only at hi
  by_cases h1:i<st.h.bx.length
  ·rw[List.getElem?_append_left (by simpa using h1)]at hi
   have h2:i≠id:=by
    rintro rfl
    rw[List.getElem?_set_self h1]at hi
    cases hi;exact hne2 rfl
   rw[List.getElem?_set_ne (Ne.symm h2)]at hi
   obtain⟨p1,p2,c2,e2,p3,p4,p5⟩:=hs.hp.2 i bx' hi hne2
   obtain⟨q1,q2,q3⟩:=(K (.hbox i) (tid i h2).1 (by simpa using h2)).blk _ (QaP p3) p1
   have hbm:(Qbj g id b).bm i=g.bm i:=L.bm i (by omega)
   rw[hbm]
   exact⟨q2,q3.trans p2,c2,e2,q1.trans p3,p4,fun j x hj=>by
    obtain⟨u,hu,hr⟩:=p5 j x hj
    exact⟨u,hu,hr.mono (K _ ((tid i h2).2 j) (by simp))⟩⟩
  ·rw[List.getElem?_append_right (by simpa using h1)]at hi
   have h2:i=st.h.bx.length:=by
    have:=(List.getElem?_eq_some_iff.1 hi).1
    simp at this;omega
   subst h2
   simp only[List.length_set,Nat.sub_self,List.getElem?_cons_zero,Option.some.injEq]at hi
   subst hi
   have hbm:(Qbj g id b).bm st.h.bx.length=b:=by simp only[Qbj,←hnb,Qai]
   rw[hbm]
   refine⟨by simp only[Qbj,Qai,hnb],?_,c',e',hc',hl,fun j x hj=>?_⟩
   ·show g.sl b=0
    rcases hb with rfl|hb
    ·exact o2
    ·exact hs.wf.sl b hb
   ·obtain⟨u,hu,h|⟨p,rfl,hr,ho⟩⟩:=hx j x hj
    ·obtain⟨u',hu',hr⟩:=o5 j x h.1
     rw[h.2]at hu'
     simp only[Option.some.injEq]at hu'
     subst hu'
     refine⟨u,hu,?_⟩
     have hr2:=hr.rel (ρ:=QdT id g.nb) (fun _=>by simp[QdT])
     simp only[QdT,if_true]at hr2
     rw[←hnb]
     exact hr2.mono (KN j)
    ·exact⟨u,hu,hr.mono L,ho⟩
 ·have hkn:k≠g.bm id:=by rintro rfl;rw[o1]at ho;cases ho
  exact⟨hw k hk hkn,by simp only[Qbj];rw[Qao _ _ (hne' k hk hkn),ho];rfl,rfl⟩
theorem Qk1 {n:Nat}{ys:List (List AV)}(hn:∀(k:Nat) (x:List AV),ys[k]? =some x→x.length=n){j:Nat}{y:LV}(h:(Qal ys)[j]? =some y):
 ∃(k:Nat) (x:List AV) (i:Nat) (p:AV),ys[k]? =some x∧x[i]? =some p∧j=k*n+i∧y=.v p:=by
 unfold Qal at h
 rw[List.getElem?_map]at h
 cases hf:ys.flatten[j]? with
 |none=>rw[hf]at h;cases h
 |some p=>
  rw[hf]at h
  simp only[Option.map_some,Option.some.injEq]at h
  subst h
  obtain⟨k,x,i,h1,h2,h3⟩:=QcY ys j p hn hf
  exact⟨k,x,i,p,h1,h2,h3,rfl⟩
theorem Qk0 {n:Nat}{ys:List (List AV)}(hn:∀(k:Nat) (x:List AV),ys[k]? =some x→x.length=n):(Qal ys).length=ys.length*n:=by
 unfold Qal
 rw[List.length_map]
 exact QfB ys hn
theorem QbL {n:Nat}{ys:List (List AV)}{news:List Value}(hE:Elems w g n ys news.toArray){j:Nat}{y:LV}(h:(Qal ys)[j]? =some y):∃p u,y=.v p∧news[j]? =some u∧Rep w g p u∧p.one=true:=by
 obtain⟨k,x,i,p,h1,h2,rfl,rfl⟩:=Qk1 hE.1 h
 obtain⟨u,hu,hr,ho⟩:=hE.2 k x i p h1 h2
 exact⟨p,u,rfl,by simpa using hu,hr,ho⟩
theorem Qcj {P:Program}(w:World)(n:Nat)(ao:Option Addr)(c:Nat):(Builtin.firstCells n 0 (.slice ao 0 c)).run P w=.ok ([]:List Value).toArray w:=by
 cases ao with
 |none=>simp[Builtin.firstCells]
 |some ad=>exact run_firstCells_some w n 0 ad 0 c [] (by simp) (fun j u hj=>by simp at hj)
theorem QbN {P:Program}{w:World}(t tx ty e:TypeId)(i:TypeInfo)(ht:P.underlying t=some (.slice e))(hi:P.info? e=some i)(base:Option Addr)(sLen sCap:Nat)(x:Value)(hs:Src P i.size tx x 0 [] w)(hroom:sLen≤sCap):
 (Builtin.append_ #[t,tx] ty #[.slice base sLen sCap,x]).run P w=.ok (.slice base sLen sCap) w:=by
 have e0:∀b:Addr,(storeCells b []).run P w=.ok () w:=fun _=>rfl
 cases base<;>rcases hs.kind with⟨e',hk⟩|hk<;>simp[Builtin.append_,run_underlying ht,run_underlying hk,sizeOf,typeInfo,hi,hs.len,hroom,hs.cells,e0]
theorem QB9 (hs:SR nt st a w g lm){t tx ty e:TypeId}{i:TypeInfo}(ht:P.underlying t=some (.slice e))(hi:P.info? e=some i){zc:List AV}(hzc:Qbq P e=some zc)(hzl:zc.length=i.size)(hpos:0<i.size)
 {p q:AV}{s v:Value}{ys:List (List AV)}{h':Heap}(hr:Rep w g p s){news:List Value}(hsrc:Src P i.size tx v ys.length news w)(hnl:news.length=ys.length*i.size)(hE:Elems w g i.size ys news.toArray)
 (h:apH st.h p i.size i.bytes ys=some (q,h')):
 ∃v' w' g',(Builtin.append_ #[t,tx] ty #[s,v]).run P w=.ok v' w'∧SR nt {st with h:=h'} a w' g' lm∧Tr w g w' g'∧Rep w' g' q v':=by
 obtain⟨i',z,hi',hz,hzz,_⟩:=Qbb hzc
 rw[hi]at hi'
 simp only[Option.some.injEq]at hi'
 subst hi'
 have e1:z.cells.size=i.size:=by omega
 have hfl:(Qal ys).length=ys.length*i.size:=Qk0 hE.1
 cases p<;>simp only[apH,reduceCtorEq]at h
 case nilS=>
  cases hb:(QbW i.size ys&&QaU ys.length i.bytes&&Nat.blt 0 ys.length)with
  |false=>rw[hb]at h;cases h
  |true=>
  rw[hb,cond_true]at h
  simp only[Option.some.injEq,Prod.mk.injEq]at h
  obtain⟨rfl,rfl⟩:=h
  simp only[Bool.and_eq_true]at hb
  obtain⟨_,_,hfit⟩:=QbG hb.1.2
  have hlen:=QcJ hb.1.2
  have hyl:0<ys.length:=Nat.le_of_ble_eq_true hb.2
  cases hr
  have hrun:=run_append_grow_src w t tx ty e i z ht hi hz none 0 0 [] (by simp[Builtin.firstCells]) v ys.length news hsrc (by omega) (by omega) (by rw[Nat.zero_add];exact hfit 0 hyl)
  have hge:=grownCap_ge w (0+ys.length) 0 e
  let cs:Array Value:=(([]:List Value)++news).toArray++Builtin.zeroCells z.cells (grownCap w (0+ys.length) 0 e-(0+ys.length))
  have hcs:cs.size=grownCap w (0+ys.length) 0 e*i.size:=by
   simp only[cs,Array.size_append,List.size_toArray,List.nil_append,hnl,Builtin.zeroCells,Array.size_map,Array.size_range,e1]
   rw[←Nat.add_mul];congr 1;omega
  obtain⟨s2,t2,r2⟩:=hs.drew.new_heap cs e (Qal ys) (by rw[hfl,hcs];exact Nat.mul_le_mul_right _ (by omega)) (fun j y hj=>by
   obtain⟨p,u,rfl,hu,hr,ho⟩:=QbL hE hj
   have hlt:j<news.length:=(List.getElem?_eq_some_iff.1 hu).1
   refine⟨u,?_,hr.mono (Qdo w g),ho⟩
   simp only[cs,List.nil_append]
   rw[Array.getElem?_append_left (by simpa using hlt)]
   simpa using hu)
  refine⟨_,_,_,hrun,s2,(QcB w g).trans t2,?_⟩
  have hsz:bsz (w.drew.alloc (.cells cs e)) w.drew.heap.size=some (0+grownCap w (0+ys.length) 0 e*i.size):=by rw[Qba (QaF w.drew _),hcs];congr 1;omega
  have hnb:=s2.hp.1
  simp only[Qdi,List.length_append,List.length_cons,List.length_nil]at hnb
  obtain⟨hlt,hbm⟩:=Qcv r2
  simp only[Value.pointer.injEq,Option.some.injEq,Addr.mk.injEq,and_true]at hbm
  have hA:=Rep.arr (w:=w.drew.alloc (.cells cs e)) (g:=QaV w.drew g) i.size st.h.bx.length 0 (0+ys.length) (grownCap w (0+ys.length) 0 e) hlt (by omega) (by rw[←hbm];exact hsz)
  rw[←hbm,World.size_drew]at hA
  have hav:AV.arr i.size st.h.bx.length 0 ys.length=AV.arr i.size st.h.bx.length 0 (0+ys.length):=by rw[Nat.zero_add]
  rw[hav]
  exact hA
 case nilE=>
  cases hb:(QbW i.size ys&&QaU ys.length i.bytes&&Nat.blt 0 ys.length)with
  |false=>rw[hb]at h;cases h
  |true=>
  rw[hb,cond_true]at h
  simp only[Option.some.injEq,Prod.mk.injEq]at h
  obtain⟨rfl,rfl⟩:=h
  simp only[Bool.and_eq_true]at hb
  obtain⟨_,_,hfit⟩:=QbG hb.1.2
  have hlen:=QcJ hb.1.2
  have hyl:0<ys.length:=Nat.le_of_ble_eq_true hb.2
  cases hr with
  |nilE ao=>
  have hrun:=run_append_grow_src w t tx ty e i z ht hi hz ao 0 0 [] (Qcj w.drew i.size ao 0) v ys.length news hsrc (by omega) (by omega) (by rw[Nat.zero_add];exact hfit 0 hyl)
  have hge:=grownCap_ge w (0+ys.length) 0 e
  let cs:Array Value:=(([]:List Value)++news).toArray++Builtin.zeroCells z.cells (grownCap w (0+ys.length) 0 e-(0+ys.length))
  have hcs:cs.size=grownCap w (0+ys.length) 0 e*i.size:=by
   simp only[cs,Array.size_append,List.size_toArray,List.nil_append,hnl,Builtin.zeroCells,Array.size_map,Array.size_range,e1]
   rw[←Nat.add_mul];congr 1;omega
  obtain⟨s2,t2,r2⟩:=hs.drew.new_heap cs e (Qal ys) (by rw[hfl,hcs];exact Nat.mul_le_mul_right _ (by omega)) (fun j y hj=>by
   obtain⟨p,u,rfl,hu,hr,ho⟩:=QbL hE hj
   have hlt:j<news.length:=(List.getElem?_eq_some_iff.1 hu).1
   refine⟨u,?_,hr.mono (Qdo w g),ho⟩
   simp only[cs,List.nil_append]
   rw[Array.getElem?_append_left (by simpa using hlt)]
   simpa using hu)
  refine⟨_,_,_,hrun,s2,(QcB w g).trans t2,?_⟩
  have hsz:bsz (w.drew.alloc (.cells cs e)) w.drew.heap.size=some (0+grownCap w (0+ys.length) 0 e*i.size):=by rw[Qba (QaF w.drew _),hcs];congr 1;omega
  have hnb:=s2.hp.1
  simp only[Qdi,List.length_append,List.length_cons,List.length_nil]at hnb
  obtain⟨hlt,hbm⟩:=Qcv r2
  simp only[Value.pointer.injEq,Option.some.injEq,Addr.mk.injEq,and_true]at hbm
  have hA:=Rep.arr (w:=w.drew.alloc (.cells cs e)) (g:=QaV w.drew g) i.size st.h.bx.length 0 (0+ys.length) (grownCap w (0+ys.length) 0 e) hlt (by omega) (by rw[←hbm];exact hsz)
  rw[←hbm,World.size_drew]at hA
  have hav:AV.arr i.size st.h.bx.length 0 ys.length=AV.arr i.size st.h.bx.length 0 (0+ys.length):=by rw[Nat.zero_add]
  rw[hav]
  exact hA
 case arr m id off len=>
  cases hb:(Nat.beq m i.size&&QbW i.size ys&&QaU (len+ys.length) i.bytes&&Nat.blt 0 ys.length)with
  |false=>rw[hb]at h;cases h
  |true=>
  rw[hb,cond_true]at h
  simp only[Option.bind_eq_some_iff]at h
  obtain⟨bx,hbx,h⟩:=h
  simp only[Bool.and_eq_true]at hb
  have hm:=Nat.eq_of_beq_eq_true hb.1.1.1
  subst hm
  obtain⟨_,_,hfit⟩:=QbG hb.1.2
  have hlen:=QcJ hb.1.2
  have hyl:0<ys.length:=Nat.le_of_ble_eq_true hb.2
  have hysz:0<ys.length*i.size:=Nat.mul_pos hyl hpos
  cases hr with
  |arr _ _ _ _ cap hid hlc hsz=>
  have room:∀{c:Array Value} {e':TypeId},w.heap[g.bm id]? =some (.cells c e' (0,0))→c.size=off+cap*i.size→len+ys.length≤cap→
   (Builtin.append_ #[t,tx] ty #[.slice (some ⟨g.bm id,off,none⟩) len cap,v]).run P w=.ok (.slice (some ⟨g.bm id,off,none⟩) (len+ys.length) cap) (w.setRow (g.bm id) (QaI c (off+len*i.size) news))∧
    off+len*i.size+news.length≤c.size:=by
   intro c e' h4 hcz hrm
   have hsz2:off+len*i.size+news.length≤c.size:=by
    rw[hnl,hcz,Nat.add_assoc,←Nat.add_mul]
    exact Nat.add_le_add_left (Nat.mul_le_mul_right _ hrm) _
   have hrun:=run_append_room_src w t tx ty e i ht hi (g.bm id) off len cap v ys.length news hsrc hrm (fun j hj=>by
    have:Cl w (g.bm id) (off+len*i.size+j)=c[off+len*i.size+j]?:=Qcf h4
    show(Cl w (g.bm id) (off+len*i.size+j)).isSome=true
    rw[this,Array.getElem?_eq_getElem (by omega)];rfl) (fun j hj=>Qgu h4 (.inl rfl) (by omega))
   rw[Qb2 (g.bm id) news (off+len*i.size) c e' (0,0) w h4 hsz2]at hrun
   exact⟨hrun,hsz2⟩
  have hbsz:∀{c:Array Value} {e':TypeId},w.heap[g.bm id]? =some (.cells c e' (0,0))→c.size=off+cap*i.size:=by
   intro c e' h4
   rw[Qba h4]at hsz
   simpa using hsz
  cases hin:Nat.ble (off+(len+ys.length)*i.size) bx.length with
  |true=>
   rw[hin,cond_true]at h
   simp only[Option.some.injEq,Prod.mk.injEq]at h
   obtain⟨rfl,rfl⟩:=h
   have hin:=Nat.le_of_ble_eq_true hin
   have hne:bx≠[]:=by
    rintro rfl
    rw[List.length_nil,Nat.add_mul]at hin;omega
   obtain⟨h2,h3,c,e',h4,h5,_⟩:=hs.hp.2 id bx hbx hne
   have hcz:=hbsz h4
   have hrm:len+ys.length≤cap:=by
    have:(len+ys.length)*i.size≤cap*i.size:=by omega
    exact Nat.le_of_mul_le_mul_right this hpos
   obtain⟨hrun,hsz2⟩:=room h4 hcz hrm
   obtain⟨s2,t2⟩:=hs.write_heap (off:=off+len*i.size) (l:=Qal ys) (vs:=news) hbx (by rw[hfl];exact hysz) h4 (by rw[hfl,Nat.add_assoc,←Nat.add_mul];exact hin) (by rw[hnl,hfl]) (fun j y hj=>by
    obtain⟨p,u,rfl,hu,hr,ho⟩:=QbL hE hj
    exact⟨u,hu,hr,ho⟩)
   refine⟨_,_,_,hrun,s2,t2,?_⟩
   refine .arr _ _ _ _ cap hid hrm ?_
   show bsz _ (g.bm id)=_
   exact t2.le.sz _ _ hsz
  |false=>
   rw[hin,cond_false]at h
   cases hg:(Nat.beq off 0&&Nat.ble (len*i.size) bx.length&&Nat.blt 0 bx.length)with
   |false=>rw[hg]at h;cases h
   |true=>
   rw[hg,cond_true]at h
   simp only[Option.some.injEq,Prod.mk.injEq]at h
   obtain⟨rfl,rfl⟩:=h
   simp only[Bool.and_eq_true]at hg
   have ho0:=Nat.eq_of_beq_eq_true hg.1.1
   subst ho0
   have hle:=Nat.le_of_ble_eq_true hg.1.2
   have hbl:0<bx.length:=Nat.le_of_ble_eq_true hg.2
   have hne:bx≠[]:=by rintro rfl;simp at hbl
   obtain⟨h2,h3,c,e',h4,h5,h6⟩:=hs.hp.2 id bx hbx hne
   have hcz:=hbsz h4
   rw[Nat.zero_add]at hcz
   have htl:(bx.take (len*i.size)).length=len*i.size:=by rw[List.length_take];omega
   by_cases hrm:len+ys.length≤cap
   ·obtain⟨hrun,hsz2⟩:=room h4 (by rw[hcz,Nat.zero_add]) hrm
    rw[Nat.zero_add]at hrun hsz2
    have hrow:=QbO (c':=QaI c (len*i.size) news) h4
    obtain⟨s2,t2,hnb,hbm⟩:=hs.grow_heap (b:=g.bm id) (w':=w.setRow (g.bm id) (QaI c (len*i.size) news)) hbx hne h4 (fun k _ hk=>setRow_other w _ k _ hk) (by rw[QdK];exact Nat.le_refl _) rfl rfl rfl
     (fun n hn=>by rw[Qba hrow,Qar hsz2];rw[Qba h4]at hn;exact hn) (.inl rfl) hrow (bx.take (len*i.size)++Qal ys) (by rw[List.length_append,htl,hfl,Qar hsz2,←hnl];exact hsz2) (fun j x hj=>by
      rw[List.getElem?_append]at hj
      split at hj
      ·rename_i hlt
       rw[htl]at hlt
       rw[List.getElem?_take,if_pos hlt]at hj
       obtain⟨u,hu,_⟩:=h6 j x hj
       exact⟨u,by rw[QaT hsz2,if_neg (by omega)];exact hu,.inl ⟨hj,hu⟩⟩
      ·rename_i hge
       rw[htl]at hge hj
       obtain⟨p,u,rfl,hu,hr,ho⟩:=QbL hE hj
       have hlt:j-len*i.size<news.length:=(List.getElem?_eq_some_iff.1 hu).1
       exact⟨u,by rw[QaT hsz2,if_pos (by omega)];exact hu,.inr ⟨p,rfl,hr,ho⟩⟩)
    refine⟨_,_,_,hrun,s2,t2,?_⟩
    have hA:=Rep.arr (w:=w.setRow (g.bm id) (QaI c (len*i.size) news)) (g:=Qbj g id (g.bm id)) i.size st.h.bx.length 0 (len+ys.length) cap (by rw[hnb];omega) hrm (by rw[hbm];exact t2.le.sz _ _ hsz)
    rw[hbm]at hA
    exact hA
   ·let olds:List Value:=c.toList.take (len*i.size)
    have hol:olds.length=len*i.size:=by simp[olds];omega
    have hold:(Builtin.firstCells i.size len (.slice (some ⟨g.bm id,0,none⟩) len cap)).run P w.drew=.ok olds.toArray w.drew:=by
     refine run_firstCells_some w.drew i.size len ⟨g.bm id,0,none⟩ len cap olds hol (fun j u hj=>?_)
     rw[Addr.add_mid,World.cell?_drew]
     show Cl w (g.bm id) (0+j)=_
     rw[Qcf h4,Nat.zero_add]
     simp only[olds,List.getElem?_take]at hj
     split at hj
     ·simpa using hj
     ·cases hj
    have hrun:=run_append_grow_src w t tx ty e i z ht hi hz (some ⟨g.bm id,0,none⟩) len cap olds hold v ys.length news hsrc (by omega) (by omega) (hfit cap (by omega))
    have hge:=grownCap_ge w (len+ys.length) cap e
    let cs:Array Value:=(olds++news).toArray++Builtin.zeroCells z.cells (grownCap w (len+ys.length) cap e-(len+ys.length))
    have hcs:cs.size=grownCap w (len+ys.length) cap e*i.size:=by
     simp only[cs,Array.size_append,List.size_toArray,List.length_append,hol,hnl,Builtin.zeroCells,Array.size_map,Array.size_range,e1]
     rw[←Nat.add_mul,←Nat.add_mul];congr 1;omega
    have hnew:(w.drew.alloc (.cells cs e)).heap[w.heap.size]? =some (.cells cs e (0,0)):=by
     have:=QaF w.drew (.cells cs e)
     rwa[World.size_drew]at this
    have hsame:∀k,k<w.heap.size→(w.drew.alloc (.cells cs e)).heap[k]? =w.heap[k]?:=fun k hk=>QaB w.drew _ hk
    obtain⟨s2,t2,hnb,hbm⟩:=hs.grow_heap (b:=w.heap.size) (w':=w.drew.alloc (.cells cs e)) hbx hne h4 (fun k hk _=>hsame k hk) (by simp) rfl rfl rfl
     (fun n hn=>by rw[Qak (hsame _ (Qc9 hn))];exact hn) (.inr (Nat.le_refl _)) hnew (bx.take (len*i.size)++Qal ys)
     (by rw[List.length_append,htl,hfl,hcs,←Nat.add_mul];exact Nat.mul_le_mul_right _ hge) (fun j x hj=>by
      rw[List.getElem?_append]at hj
      split at hj
      ·rename_i hlt
       rw[htl]at hlt
       rw[List.getElem?_take,if_pos hlt]at hj
       obtain⟨u,hu,_⟩:=h6 j x hj
       refine⟨u,?_,.inl ⟨hj,hu⟩⟩
       simp only[cs]
       rw[Array.getElem?_append_left (by simp;omega),List.getElem?_toArray,List.getElem?_append_left (by omega)]
       simp only[olds,List.getElem?_take]
       rw[if_pos hlt,Array.getElem?_toList];exact hu
      ·rename_i hge'
       rw[htl]at hge' hj
       obtain⟨p,u,rfl,hu,hr,ho⟩:=QbL hE hj
       have hlt:j-len*i.size<news.length:=(List.getElem?_eq_some_iff.1 hu).1
       refine⟨u,?_,.inr ⟨p,rfl,hr,ho⟩⟩
       simp only[cs]
       rw[Array.getElem?_append_left (by simp;omega),List.getElem?_toArray,List.getElem?_append_right (by omega),hol]
       exact hu)
    refine⟨_,_,_,hrun,s2,t2,?_⟩
    have hA:=Rep.arr (w:=w.drew.alloc (.cells cs e)) (g:=Qbj g id w.heap.size) i.size st.h.bx.length 0 (len+ys.length) (grownCap w (len+ys.length) cap e) (by rw[hnb];omega) hge (by rw[hbm,Qba hnew,hcs,Nat.zero_add])
    rw[hbm]at hA
    exact hA
theorem Qq1 {ar:Bool}{n:Nat}{t1:Option TypeId}{y:Operand}{p:AV}{ys:List (List AV)}(hs:SR nt st a w g lm)(hp:st.rv y=some p)(h:elX P st.h ar t1 n p=some ys)(hf:QbW n ys=true):
 ∃g' tx,t1=some tx∧SR nt st a w g' lm∧Qt w g w g'∧∃news,Src P n tx (a.eval y) ys.length news w∧news.length=ys.length*n∧Elems w g' n ys news.toArray:=by
 obtain⟨g1,s1,q1,r1⟩:=QaO hs hp
 cases ar with
 |true=>
  simp only[elX,cond_true,Option.bind_eq_some_iff]at h
  obtain⟨e2,⟨tx,htx,he2⟩,hys⟩:=h
  obtain⟨g2,s2,q2,news,h1,h2,h3⟩:=QjR (P:=P) s1 r1 (QaD he2) hys
  exact⟨g2,tx,htx,s2,q1.trans q2,news,h1,h2,h3⟩
 |false=>
  simp only[elX,cond_false]at h
  cases t1 with
  |none=>simp[elA]at h
  |some tx=>
   rw[Option.bind_some]at h
   obtain⟨news,h1,h2,h3⟩:=QjS (P:=P) (tx:=tx) r1 h hf
   exact⟨g1,tx,rfl,s1,q1,news,h1,h2,h3⟩
theorem Qtf {h:Heap}{x:AV}{n bytes:Nat}{ys:List (List AV)}{q:AV×Heap}(hq:apH h x n bytes ys=some q):QbW n ys=true:=by
 cases x<;>simp only[apH,reduceCtorEq]at hq
 case nilS=>
  cases hb:(QbW n ys&&QaU ys.length bytes&&Nat.blt 0 ys.length)with
  |false=>rw[hb]at hq;cases hq
  |true=>simp only[Bool.and_eq_true]at hb;exact hb.1.1
 case nilE=>
  cases hb:(QbW n ys&&QaU ys.length bytes&&Nat.blt 0 ys.length)with
  |false=>rw[hb]at hq;cases hq
  |true=>simp only[Bool.and_eq_true]at hb;exact hb.1.1
 case arr m id off len=>
  cases hb:(Nat.beq m n&&QbW n ys&&QaU (len+ys.length) bytes&&Nat.blt 0 ys.length)with
  |false=>rw[hb]at hq;cases hq
  |true=>simp only[Bool.and_eq_true]at hb;exact hb.1.1.2
theorem Qtg {h:Heap}{x:AV}{n bytes:Nat}{ys:List (List AV)}{q:AV×Heap}(hq:apG h x n bytes ys=some q):QbW n ys=true:=by
 cases ys with
 |nil=>rfl
 |cons y ys=>exact Qtf hq
theorem QCa (hs:SR nt st a w g lm){t tx ty e:TypeId}{i:TypeInfo}(ht:P.underlying t=some (.slice e))(hi:P.info? e=some i){zc:List AV}(hzc:Qbq P e=some zc)(hzl:zc.length=i.size)(hpos:0<i.size)
 {p q:AV}{s v:Value}{ys:List (List AV)}{h':Heap}(hr:Rep w g p s){news:List Value}(hsrc:Src P i.size tx v ys.length news w)(hnl:news.length=ys.length*i.size)(hE:Elems w g i.size ys news.toArray)
 (h:apG st.h p i.size i.bytes ys=some (q,h')):
 ∃v' w' g',(Builtin.append_ #[t,tx] ty #[s,v]).run P w=.ok v' w'∧SR nt {st with h:=h'} a w' g' lm∧Tr w g w' g'∧Rep w' g' q v':=by
 cases ys with
 |cons y ys=>exact QB9 hs ht hi hzc hzl hpos hr hsrc hnl hE h
 |nil=>
  have hn:news=[]:=List.eq_nil_of_length_eq_zero (by simpa using hnl)
  subst hn
  cases p<;>simp only[apG,reduceCtorEq]at h
  case nilS=>
   simp only[Option.some.injEq,Prod.mk.injEq]at h
   obtain⟨rfl,rfl⟩:=h
   cases hr
   exact⟨_,w,g,QbN t tx ty e i ht hi _ _ _ v hsrc (Nat.le_refl _),hs,Tr.refl w g,.nilS⟩
  case nilE=>
   simp only[Option.some.injEq,Prod.mk.injEq]at h
   obtain⟨rfl,rfl⟩:=h
   cases hr
   exact⟨_,w,g,QbN t tx ty e i ht hi _ _ _ v hsrc (Nat.le_refl _),hs,Tr.refl w g,.nilE _⟩
  case arr m id off len=>
   cases hb:Nat.beq m i.size with
   |false=>rw[hb]at h;cases h
   |true=>
    rw[hb,cond_true]at h
    simp only[Option.some.injEq,Prod.mk.injEq]at h
    obtain⟨rfl,rfl⟩:=h
    cases hr with
    |arr _ _ _ _ cap hid hlc hsz=>exact⟨_,w,g,QbN t tx ty e i ht hi _ _ _ v hsrc hlc,hs,Tr.refl w g,.arr _ _ _ _ cap hid hlc hsz⟩
theorem QvM (h:SR nt st a w g lm){o:Operand}{x:AV}(hx:st.ra o=some x):∃g',SR nt st a w g' lm∧Qt w g w g'∧Rep w g' x (a.eval o):=by
 unfold St.ra at hx
 split at hx
 ·simp only[Option.some.injEq]at hx
  subst hx
  exact⟨g,h,Qt.refl w g,.nilS⟩
 ·exact QaO h hx
theorem QfA {ar:Bool}{c:Call}{x y:Operand}(ho:o.op=.call c)(hc:c.callee=.builtin .append)(hx:c.args.toList=[x,y])(hs:SR nt st a w g lm)
 (h:((c.argTypes.toList.head?.bind (QaA P)).bind fun e=>(P.info? e).bind fun ti=>(Qbq P e).bind fun zc=>
  (st.rv y).bind fun p=>(elX P st.h ar c.argTypes.toList[1]? ti.size p).bind fun ys=>
  bif Nat.beq zc.length ti.size&&Nat.blt 0 ti.size then(st.ra x).bind fun p=>(apG st.h p ti.size ti.bytes ys).bind fun q=>K (.v q.1) {st with h:=q.2}else none)=some r):Good P nt o a w g K r:=by
 simp only[Option.bind_eq_some_iff]at h
 obtain⟨e,⟨t,ht,he⟩,ti,hti,zc,hzc,p,hp,ys,hys,h⟩:=h
 by_cases hcond:(Nat.beq zc.length ti.size&&Nat.blt 0 ti.size)=true
 case neg=>rw[Bool.eq_false_iff.2 hcond]at h;cases h
 rw[hcond,cond_true]at h
 simp only[Option.bind_eq_some_iff]at h
 obtain⟨d,hd,q,hq,h⟩:=h
 simp only[Bool.and_eq_true]at hcond
 have hzl:=Nat.eq_of_beq_eq_true hcond.1
 have hpos:0<ti.size:=Nat.le_of_ble_eq_true hcond.2
 have hut:=QaD he
 have hargs:c.args= #[x,y]:=by rw[←Array.toArray_toList (xs:=c.args),hx]
 have t0:c.argTypes[0]? =some t:=by rw[List.head?_eq_getElem?]at ht;simpa using ht
 obtain⟨g0,s0,q0,r0⟩:=QvM hs hd
 obtain⟨g1,tx,htx,s1,q1,news,hsrc,hnl,hE⟩:=Qq1 (P:=P) s0 hp hys (Qtg hq)
 have t1:c.argTypes[1]? =some tx:=by simpa using htx
 obtain⟨v',w',g',hrun,s2,q2,r2⟩:=QCa (P:=P) s1 (t:=t) (tx:=tx) (ty:=o.type) hut hti hzc hzl hpos (r0.mono q1.le) hsrc hnl hE hq
 refine⟨_,_,h,OpOk.value (v:=v') (w':=w') ?_ s2 ((q0.trans q1).toTr.trans q2) r2⟩
 rw[QaM ho hc]
 simp only[builtin]
 refine Qad ?_
 have heq:(Builtin.append_ c.argTypes o.type (c.args.map a.eval)).run P w=(Builtin.append_ #[t,tx] o.type #[a.eval x,a.eval y]).run P w:=by
  simp[Builtin.append_,hargs,t0,t1]
 rw[heq];exact hrun
end Go.Proofs.Am
