/-
  Ways through texts, one by one (printed by a program of this repo).
-/
import Derived.Test.YtoblgjmllmomhaaGreatDoorAmS15e
import Derived.Test.YtoblgjmllmomhaaGreatDoorAmS15R
import Derived.KernelRfl
namespace Go.Proofs.YtoblgjmllmomhaaGreatDoor
open Go Go.Proofs.Am Go.RowKit Go.Shelf
attribute [local go_sem] Oper.semAt_some
def Qgk:List (List AV)→Option (List Int)
 |[]=>some []
 |[.int .i64 z]::r=>(Qgk r).bind fun zs=>some (z::zs)
 |_::_=>none
def QnZ:AV→Option (List Int)
 |.nilS=>some []
 |.imm xs=>Qgk xs
 |_=>none
theorem Qfu:∀(xs:List (List AV)) (zs:List Int),Qgk xs=some zs→xs=zs.map fun z=>[AV.int .i64 z]
 |[],zs,h=>by simp only[Qgk,Option.some.injEq]at h;subst h;rfl
 |x::xs,zs,h=>by
  unfold Qgk at h
  split at h
  ·rename_i heq;cases heq
  ·rename_i z r heq
   simp only[List.cons.injEq]at heq
   obtain⟨rfl,rfl⟩:=heq
   simp only[Option.bind_eq_some_iff,Option.some.injEq]at h
   obtain⟨ws,hw,rfl⟩:=h
   rw[Qfu _ ws hw];rfl
  ·cases h
noncomputable abbrev cxN (m:Int):Cx:=cxE m fun _=>none
theorem Qph (m:Int)(ht:∀(xs:List LV) (h:Heap) (y:LV),Qti xs h=some y→blk (cxB m) 53 (QaE Tryz.prog 53) xs h=some (y,h)){e:FuncId→Option (List LV→Heap→Option (LV×Heap))}
 (he:∀(f:FuncId) (x:List LV→Heap→Option (LV×Heap)),e f=some x→Qce (cxE m e) f x∧∃fn c,Tryz.prog.funcs[f]? =some fn∧fn.body=some c):CxOk (cxE m e) where
 names:=QcM
 ext:=(Qlm m).ext
 mixed:=(Qlm m).mixed
 globs:=QcV m
 exh:=he
 exr:=fun f x h=>by
  have h:QBL f=some x:=h
  unfold QBL at h
  cases hb:Nat.beq f 53 with
  |false=>rw[hb]at h;cases h
  |true=>
   rw[hb]at h
   cases h
   have:=Nat.eq_of_beq_eq_true hb
   subst this
   obtain⟨c,hc,hbody⟩:=QbC Tryz.func53 (by kernel_rfl)
   have hcut:(cutAt (cxB m) 53 (QaE Tryz.prog 53)).isNone=true:=by kernel_rfl
   have hb2:QaE Tryz.prog 53=[.code c]:=by simp only[QaE,Tryz.func53,hc]
   rw[hb2,Option.isNone_iff_eq_none]at hcut
   rw[hb2]at ht
   exact⟨QsB (Qlm m) rfl rfl Tryz.func53 hc hcut ht,_,c,Tryz.func53,hc⟩
noncomputable def Qg2 (m:Int)(p:AV)(z:Int)(h:Heap):Option Heap:=(Qab (cxN m) (blk (cxN m)) 96 [.v p,.v (.int .i64 z)] h).map (·.2)
noncomputable def QbF (m:Int)(p:AV):List Int→Heap→Option Heap
 |[],h=>some h
 |z::zs,h=>(Qg2 m p z h).bind (QbF m p zs)
def QCe (m:Int)(p:AV)(h:Heap):Prop:=∀zs,∃h',QbF m p zs h=some h'
open Classical in
noncomputable def Qxx (m:Int):List LV→Heap→Option (LV×Heap)
 |[.v (.ptr L o),.v a],h=>(QnZ a).bind fun zs=>bif Nat.ble (zs.length*8) 140737488351232 then(if QCe m (.ptr L o) h then(QbF m (.ptr L o) zs.reverse h).bind fun h'=>some (.tup [],h')else none)else none
 |_,_=>none
theorem Qdf (m:Int)(p:AV):∀(xs ys:List Int) (h:Heap),QbF m p (xs++ys) h=(QbF m p xs h).bind (QbF m p ys)
 |[],ys,h=>rfl
 |x::xs,ys,h=>by
  simp only[List.cons_append,QbF]
  cases Qg2 m p x h with
  |none=>rfl
  |some h1=>simp only[Option.bind_some,Qdf m p xs ys h1]
theorem QjK (m:Int)(hC:CxOk (cxN m)){p:AV}{z:Int}{h h':Heap}(ht:Qg2 m p z h=some h'){w:World}{g:Gh}{pv:Value}(wf:Wf w g)(hh:HeapOk w g h)(hG:GOk (cxN m) w g)(hp:Rep w g p pv):
 Calls Tryz.prog 96 #[pv,.int .i64 z] w fun e w'=>∃v g',e=.returned v∧Wf w' g'∧Tr w g w' g'∧HeapOk w' g' h':=by
 unfold Qg2 at ht
 rw[Option.map_eq_some_iff]at ht
 obtain⟨⟨x,h1⟩,hx,rfl⟩:=ht
 obtain⟨c,hc,_⟩:=QbC Tryz.func96 (by kernel_rfl)
 have hb2:QaE Tryz.prog 96=[.code c]:=by simp only[QaE,Tryz.func96,hc]
 have hcut:(cutAt (cxN m) 96 (QaE Tryz.prog 96)).isNone=true:=by kernel_rfl
 rw[hb2]at hcut
 have ho:blk (cxN m) 96 [.code c] [.v p,.v (.int .i64 z)] h=some (x,h1):=by
  have e1:(cxN m).ext 96=none:=rfl
  have e2:(cxN m).exr 96=none:=rfl
  unfold Qab at hx
  rw[e1]at hx
  simp only at hx
  rw[e2]at hx
  have e3:(cxN m).P.funcs[96]? =some Tryz.f96:=Tryz.func96
  rw[e3]at hx
  simp only[Option.bind_some,hc,hcut,cond_true]at hx
  exact hx
 rw[Option.isNone_iff_eq_none]at hcut
 have hr:∀(j:Nat) (y:LV),([.v p,.v (.int .i64 z)]:List LV)[j]? =some y→∃q u,y=.v q∧(#[pv,Value.int .i64 z])[j]? =some u∧Rep w g q u:=by
  intro j y hj
  match j,hj with
  |0,hj=>simp only[List.getElem?_cons_zero,Option.some.injEq]at hj;subst hj;exact⟨p,pv,rfl,rfl,hp⟩
  |1,hj=>simp only[List.getElem?_cons_succ,List.getElem?_cons_zero,Option.some.injEq]at hj;subst hj;exact⟨_,_,rfl,rfl,.int _ _⟩
  |n+2,hj=>simp at hj
 have s0:SR Tryz.f96.ntmps (QgV [.v p,.v (.int .i64 z)] h) {tmps:= #[pv,Value.int .i64 z]++Array.replicate (Tryz.f96.ntmps-(#[pv,Value.int .i64 z]).size) undef,defers:=[]} w g (fun _=>0):=
  SR.enter wf hh rfl (fun j y hj=>by
   obtain⟨q,u,rfl,hu,hrp⟩:=hr j y hj
   exact⟨u,hu,hrp⟩)
 refine(Qa4 (cx:=cxN m) (QiD hC) Tryz.func96 hc hcut ho s0 hG).mono ?_
 rintro e w' ⟨v,rfl,g',wf',t,hh',_⟩
 exact⟨v,g',rfl,wf',t,hh'⟩
structure Btw (m:Int) (w:World) (g:Gh) (p:AV) (a:AV) (pv sv:Value) (b1 b2:Nat) (hk:Heap) (W:World):Prop where
 ex:∃g',Wf W g'∧Tr w g W g'∧HeapOk W g' hk∧GOk (cxN m) W g'∧Rep W g' p pv∧Rep W g' a sv∧g'.own b1=.oth∧g'.own b2=.oth
 c1:W.cell? ⟨b1,0,none⟩=some pv
 c2:W.cell? ⟨b2,0,none⟩=some sv
variable {m:Int} {w W W':World} {g:Gh} {p a:AV} {pv sv:Value} {b1 b2:Nat} {hk:Heap} {row:Option Nat}
theorem Btw.grown (h:Btw m w g p a pv sv b1 b2 hk W)(wf0:Wf w g)(hg:W.grownBy W' row)(hr:∀r,row=some r→w.heap.size≤r∧∃o:Obj,W.heap[r]? =some o∧o.isCells=false):Btw m w g p a pv sv b1 b2 hk W':=by
 obtain⟨⟨g',h1,h2,h3,h4,h5,h6,h7,h8⟩,c1,c2⟩:=h
 obtain⟨k1,k2,k3,L⟩:=Qdk wf0 h1 h2 h3 hg hr
 have cell:∀b v,W.cell? ⟨b,0,none⟩=some v→W'.cell? ⟨b,0,none⟩=some v:=fun b v hv=>by
  have hne:row≠some b:=by
   rintro rfl
   obtain⟨_,o,ho,hc⟩:=hr b rfl
   have h9:Cl W b 0=some v:=hv
   rw[(Qd3 ho hc).1]at h9;cases h9
  exact(Qau (hg.block b (Qjo hv) (Ne.symm hne))).trans hv
 exact⟨⟨_,k1,k2,k3,⟨fun i cs hi=>(h4.1 i cs hi).monoW L,fun i v hv=>by cases hv⟩,h5.monoW L,h6.monoW L,by rw[Qch];exact h7,by rw[Qch];exact h8⟩,cell _ _ c1,cell _ _ c2⟩
theorem Qn1 {W:World}{g:Gh}{zs:List Int}{a:AV}{sv:Value}(h:Rep W g a sv)(ha:QnZ a=some zs):∃b off,Qpv W sv b off zs∧∀j,j<zs.length→off+j<g.sl b:=by
 cases a<;>simp only[QnZ,reduceCtorEq,Option.some.injEq]at ha
 case nilS=>
  subst ha
  cases h
  exact⟨0,0,.inl ⟨_,_,rfl,rfl⟩,fun j hj=>by simp at hj⟩
 case imm xs=>
  have:=Qfu xs zs ha
  subst this
  generalize hx:zs.map (fun z=>[AV.int .i64 z])=xs at h
  cases h with
  |imm0 ad cap=>
   have:zs=[]:=by simpa using hx
   subst this
   exact⟨0,0,.inl ⟨_,_,rfl,rfl⟩,fun j hj=>by simp at hj⟩
  |imm _ n b o cap f hl hn hc hr=>
   subst hx
   have hget:∀j,j<zs.length→(zs.map fun z=>[AV.int .i64 z])[j]? =some [AV.int .i64 (zs[j]?.getD 0)]:=fun j hj=>by
    rw[List.getElem?_map,List.getElem?_eq_getElem hj];rfl
   have key:∀j,j<zs.length→o+j<g.sl b∧W.cell? ⟨b,o+j,none⟩=some (.int .i64 (zs[j]?.getD 0)):=fun j hj=>by
    have h1:=hget j hj
    have hn1:n=1:=by rw[←hn j _ h1];rfl
    subst hn1
    obtain⟨k1,k2,_⟩:=hc j _ 0 _ h1 rfl
    have h3:=hr j _ 0 _ h1 rfl
    generalize f j 0=u at k2 h3
    cases h3
    rw[Nat.mul_one,Nat.add_zero]at k1 k2
    exact⟨k1,k2⟩
   refine⟨b,o,.inr ⟨cap,by rw[List.length_map],fun j hj=>(key j hj).2⟩,fun j hj=>(key j hj).1⟩
set_option maxRecDepth 100000 in
set_option maxHeartbeats 4000000 in
theorem Qxw (m:Int)(hC:CxOk (cxN m)){cx':Cx}(hP:cx'.P=Tryz.prog)(hgl:cx'.glob=(cxN m).glob):Qce cx' 52 (Qxx m):=by
 intro xs h x h' hx w g vs wf hh hG hl hr
 unfold Qxx at hx
 split at hx
 ·rename_i L o a
  simp only[Option.bind_eq_some_iff]at hx
  obtain⟨zs,hzs,hx⟩:=hx
  cases hb:Nat.ble (zs.length*8) 140737488351232 with
  |false=>rw[hb]at hx;cases hx
  |true=>
  rw[hb,cond_true]at hx
  by_cases hfine:QCe m (.ptr L o) h
  case neg=>rw[if_neg hfine]at hx;cases hx
  rw[if_pos hfine]at hx
  simp only[Option.bind_eq_some_iff,Option.some.injEq,Prod.mk.injEq]at hx
  obtain⟨hend,htk,rfl,rfl⟩:=hx
  have hreach:=Nat.le_of_ble_eq_true hb
  obtain⟨pv,sv,rfl⟩:=QoE rfl hl
  obtain⟨p',u,hp',hu,hrp⟩:=hr 0 _ rfl
  obtain⟨a',u',ha',hu',hra⟩:=hr 1 _ rfl
  cases hp';cases ha'
  simp at hu hu'
  subst hu;subst hu'
  rw[hP]
  have hG:GOk (cxN m) w g:=⟨fun i cs hi=>hG.1 i cs (by rw[hgl];exact hi),fun i v hv=>by cases hv⟩
  obtain⟨hLn,rfl⟩:=Qcv hrp
  obtain⟨b,off,hI,hsl⟩:=Qn1 hra hzs
  have hsv:∃ad cap,sv=.slice ad zs.length cap:=by
   rcases hI with⟨ad,cap,rfl,rfl⟩|⟨cap,rfl,_⟩
   ·exact⟨ad,cap,rfl⟩
   ·exact⟨_,cap,rfl⟩
  obtain⟨ad,cap,rfl⟩:=hsv
  let f:=fun j:Nat=>(zs.length-1-j,zs[zs.length-1-j]?.getD 0)
  have hf:∀j,j<zs.length→zs.reverse[j]? =some (f j).2:=fun j hj=>by
   rw[List.getElem?_reverse hj]
   simp only[f]
   rw[List.getElem?_eq_getElem (by omega)];rfl
  refine(callsIn_wide (n:=5)).1 ?_
  refine callsIn_of_wp_marks Tryz.func52 rfl trivial ?_ rfl
  simp only[Tryz.ntmps52,List.size_toArray,List.length_cons,List.length_nil,Nat.reduceAdd,Nat.reduceSub,Array.replicate_succ,Array.replicate_zero,List.push_toArray,List.append_toArray,List.nil_append,List.cons_append]
  gi_wp2_with (refine⟨trivial,?_⟩;gi_at_call 95;refine(Qhz Fence.wide _ trivial rfl _ _ _ _).mono ?_;rintro e w' ⟨rfl,rfl⟩)
  have hB0:Below w.heap.size w ((w.alloc (.cells #[.pointer (some ⟨g.bm L,o,none⟩)] 62)).alloc (.cells #[.slice ad zs.length cap] 23)):=((Below.refl _ w).alloc (Nat.le_refl _) _).alloc (by simp) _
  have c1:((w.alloc (.cells #[.pointer (some ⟨g.bm L,o,none⟩)] 62)).alloc (.cells #[.slice ad zs.length cap] 23)).cell? ⟨w.heap.size,0,none⟩=some (.pointer (some ⟨g.bm L,o,none⟩)):=by
   have e1:=QaF w (.cells #[Value.pointer (some ⟨g.bm L,o,none⟩)] 62)
   have e2:=QaB (w.alloc (.cells #[Value.pointer (some ⟨g.bm L,o,none⟩)] 62)) (.cells #[Value.slice ad zs.length cap] 23) (b:=w.heap.size) (by simp)
   exact Qcf (e2.trans e1)
  have c2:((w.alloc (.cells #[.pointer (some ⟨g.bm L,o,none⟩)] 62)).alloc (.cells #[.slice ad zs.length cap] 23)).cell? ⟨w.heap.size+1,0,none⟩=some (.slice ad zs.length cap):=by
   have e1:=QaF (w.alloc (.cells #[Value.pointer (some ⟨g.bm L,o,none⟩)] 62)) (.cells #[Value.slice ad zs.length cap] 23)
   rw[World.size_alloc]at e1
   exact Qcf e1
  have hstart:Btw m w g (.ptr L o) a (.pointer (some ⟨g.bm L,o,none⟩)) (.slice ad zs.length cap) w.heap.size (w.heap.size+1) h ((w.alloc (.cells #[.pointer (some ⟨g.bm L,o,none⟩)] 62)).alloc (.cells #[.slice ad zs.length cap] 23)):=by
   obtain⟨k1,k2,k3,L1⟩:=Qdk wf wf (Tr.refl w g) hh (World.grownBy_alloc w (.cells #[Value.pointer (some ⟨g.bm L,o,none⟩)] 62) none) (fun r e=>by cases e)
   obtain⟨q1,q2,q3,L2⟩:=Qdk wf k1 k2 k3 (World.grownBy_alloc (w.alloc (.cells #[Value.pointer (some ⟨g.bm L,o,none⟩)] 62)) (.cells #[Value.slice ad zs.length cap] 23) none) (fun r e=>by cases e)
   exact⟨⟨_,q1,q2,q3,⟨fun i cs hi=>((hG.1 i cs hi).monoW L1).monoW L2,fun i v hv=>by cases hv⟩,(hrp.monoW L1).monoW L2,(hra.monoW L1).monoW L2,wf.own _ (Nat.le_refl _),wf.own _ (by omega)⟩,c1,c2⟩
  have hstp:=Qjk Fence.wide 4 trivial rfl (by omega) (w.heap.size+1) b off (.slice ad zs.length cap) zs hreach ((w.alloc (.cells #[.pointer (some ⟨g.bm L,o,none⟩)] 62)).alloc (.cells #[.slice ad zs.length cap] 23)) (by simp) c2
   (by
    rcases hI with⟨ad',cap',e1,e2⟩|⟨cap',e1,hcs⟩
    ·exact .inl ⟨ad',cap',e1,e2⟩
    ·exact .inr ⟨cap',e1,fun j hj=>(hB0.cell (p:=⟨b,off+j,none⟩) (World.block_lt_of_cell? w ⟨b,off+j,none⟩ (hcs j hj))).trans (hcs j hj)⟩)
  have hup:(QiP f zs.length).map (·.2)=zs.reverse:=by
   apply List.ext_getElem?
   intro j
   rw[List.getElem?_map]
   by_cases hj:j<zs.length
   ·rw[hf j hj]
    simp only[QiP,List.getElem?_map,List.getElem?_range hj,Option.map_some]
   ·rw[List.getElem?_eq_none (by rw[QdQ];omega),List.getElem?_eq_none (by rw[List.length_reverse];omega)];rfl
  refine wpIn_rangeFunc_ownG rfl (by omega) (gf:=122) (lb:= #[.pointer (some ⟨w.heap.size+1,0,none⟩)]) rfl trivial (enters_of Tryz.func122 (by kernel_rfl) rfl)
   hstp (fun h k=>h.trans k) ?hKb (Below.refl _ _) (fun _=>rfl)
   (fun pre W=>∃hk,QbF m (.ptr L o) (pre.map (·.2)) h=some hk∧Btw m w g (.ptr L o) a (.pointer (some ⟨g.bm L,o,none⟩)) (.slice ad zs.length cap) w.heap.size (w.heap.size+1) hk W)
   (fun _ _ _=>False)
   ?hI (fun _ _ _ _ _ hs _ _=>hs) ⟨h,rfl,hstart⟩
   (fun x=>{tmps:= #[.pointer (some ⟨g.bm L,o,none⟩),.slice ad zs.length cap,.pointer (some ⟨w.heap.size,0,none⟩),undef,undef,.int .i64 x.2,.slice ad zs.length cap,.func (.func 122) #[] #[.pointer (some ⟨w.heap.size+1,0,none⟩)],.int .i64 (x.1:Int),.int .i64 x.2,undef,undef,undef],defers:=[]}) ?assign ?body ?done ?stop
  case hKb=>
   intro W l ob ob' _ hob hcl _
   have hne:∀(b' j:Nat) v,W.cell? ⟨b',j,none⟩=some v→(W.putObj l ob').cell? ⟨b',j,none⟩=some v:=fun b' j v hv=>by
    have hnb:b'≠l:=by
     rintro rfl
     have h9:Cl W b' j=some v:=hv
     rw[(Qd3 hob hcl).1]at h9;cases h9
    exact(Qau ((grownBy_putObj' W l ob').block b' (Qjo hv) (by simp;exact hnb))).trans hv
   exact⟨fun v hv=>hne _ _ v hv,fun j v _ hv=>hne _ _ v hv⟩
  case hI=>
   rintro pre W W' row ⟨hk,e1,hB⟩ hg hr
   exact⟨hk,e1,hB.grown wf hg (fun r e=>⟨by have:=(hr r e).1;simp at this;omega,(hr r e).2⟩)⟩
  case assign=>
   intro l x W K hK
   gi_wp2
   exact hK
  case body=>
   rintro l pre x W ⟨hk,e1,hB⟩ _
   obtain⟨⟨g',h1,h2,h3,h4,h5,h6,h7,h8⟩,k1,k2⟩:=hB
   obtain⟨hk',ht⟩:∃hk',Qg2 m (.ptr L o) x.2 hk=some hk':=by
    obtain⟨q,hq⟩:=hfine (pre.map (·.2)++[x.2])
    rw[Qdf,e1,Option.bind_some,QbF]at hq
    cases e:Qg2 m (.ptr L o) x.2 hk with
    |none=>rw[e]at hq;cases hq
    |some hk'=>exact⟨hk',rfl⟩
   have hcall:=QjK m hC ht h1 h3 h4 h5
   gi_wp2_with (refine⟨trivial,?_⟩;gi_at_call 96;refine(CallsIn.inRound l (callsIn_wide.2 hcall)).mono ?_;rintro e W1 ⟨v,g1,rfl,q1,q2,q3⟩)
   have same:∀b',g'.own b'=.oth→∀v,W.cell? ⟨b',0,none⟩=some v→W1.cell? ⟨b',0,none⟩=some v:=fun b' ho v hv=>(Qau (q2.oth b' (Qjo hv) ho).1).trans hv
   refine⟨⟨q2.size,fun k ob _ hk ho=>q2.others h1 hk ho⟩,⟨fun v hv=>same _ h8 v hv,fun j v hj hv=>(q2.le.cell b (off+j) (Nat.lt_of_lt_of_le (hsl j hj) (h2.le.sl b))).trans hv⟩,hk',?_,⟨g1,q1,h2.trans q2,q3,h4.mono q2.le,h5.mono q2.le,h6.mono q2.le,(q2.oth _ (Qjo k1) h7).2.1,(q2.oth _ (Qjo k2) h8).2.1⟩,same _ h7 _ k1,same _ h8 _ k2⟩
   rw[List.map_append,Qdf,e1,Option.bind_some]
   simp only[List.map_cons,List.map_nil,QbF,ht,Option.bind_some]
  case done=>
   rintro D xs W hD rfl ⟨hk,e1,hB⟩ hK
   gi_wp2
   have e2:hk=hend:=by
    have e3:QbF m (.ptr L o) ((QiP f zs.length).map (·.2)) h=some hk:=e1
    rw[hup,htk]at e3
    exact(Option.some.inj e3).symm
   subst e2
   have hB2:=hB.grown wf (grownBy_putObj' W D (.deferred none)) (fun r e=>by cases e;exact⟨by simp at hD;omega,_,hK,rfl⟩)
   obtain⟨⟨g',h1,h2,h3,_⟩,_⟩:=hB2
   refine⟨by simp,.inl ⟨_,_,rfl,run_takeDeferred hK,?_⟩⟩
   exact⟨_,results_none rfl _ _ _,_,rfl,g',h1,h2,h3, #[],rfl,rfl,fun j c hj=>by simp at hj⟩
  case stop=>
   rintro D c pre W _ _ h _
   exact h.elim
 ·cases hx
end Go.Proofs.YtoblgjmllmomhaaGreatDoor
namespace Go.Proofs.YtoblgjmllmomhaaGreatDoor
open Go Go.Proofs.Am
noncomputable def QwZ (m:Int)(f:Nat):Option (List LV→Heap→Option (LV×Heap)):=bif Nat.beq f 52 then some (Qxx m)else none
noncomputable def cxZ (m:Int):Cx:=cxE m (QwZ m)
abbrev LL:=List (List AV)
abbrev aI:Int→AV:=AV.int .i64
abbrev aM:LL→AV:=AV.imm
abbrev aB:Bool→AV:=AV.bool
abbrev aS:ByteArray→AV:=AV.str
abbrev vI (x:Int):LV:=.v (.int .i64 x)
abbrev vM (x:LL):LV:=.v (.imm x)
abbrev vB (x:Bool):LV:=.v (.bool x)
abbrev vG (x:List AV):LV:=.v (.agg x)
abbrev vP (i o:Nat):LV:=.v (.ptr i o)
abbrev vF (t:TypeId)(a:AV):LV:=.v (.ifc t a)
abbrev vS (s:ByteArray):LV:=.v (.str s)
abbrev nC (o a b v t:Int)(l bd el:LL)(q:Bool):List AV:=[.int .i64 o,.int .i64 a,.int .i64 b,.int .u64 v,.int .i64 t,.imm l,.imm bd,.imm el,.bool q]
abbrev mV (ty im fu ta me gl ex:LL)(st:Int)(el da cu:LL):LV:=.v (.agg [.imm ty,.imm im,.imm fu,.imm ta,.imm me,.imm gl,.imm ex,.int .i64 st,.imm el,.imm da,.imm cu])
abbrev mL (ty im fu ta me gl ex:LL)(st:Int)(el da cu:LL):List LV:=[.v (.imm ty),.v (.imm im),.v (.imm fu),.v (.imm ta),.v (.imm me),.v (.imm gl),.v (.imm ex),.v (.int .i64 st),.v (.imm el),.v (.imm da),.v (.imm cu)]
noncomputable abbrev cA (m:Int):=Qab (cxZ m) (blk (cxZ m))
noncomputable abbrev cV (m:Int):=QaK (cxZ m) (blk (cxZ m))
noncomputable abbrev bA (m:Int)(f r:Nat):=blk (cxZ m) f (at_ Tryz.prog f r)
noncomputable abbrev bB (m:Int)(f:Nat):=blk (cxZ m) f (QaE Tryz.prog f)
abbrev nE (m:Int)(x:AV)(b:Bool):Prop:=QcF (Cx.P (cxZ m)) BinOp.neq 33 true x .nilI=some (.bool b)
abbrev qE (m:Int)(x:AV)(b:Bool):Prop:=QcF (Cx.P (cxZ m)) BinOp.eql 33 true x .nilI=some (.bool b)
def lkB (t f:List Nat)(n:Nat):Option Bool:=bif t.any (Nat.beq n)then some true else bif f.any (Nat.beq n)then some false else none
def lkV {A:Type}:List (Nat×Nat×A)→Nat→Nat→Option A
 |[],_,_=>none
 |x::xs,r,i=>bif Nat.beq x.1 r&&Nat.beq x.2.1 i then some x.2.2 else lkV xs r i
def qS (t f:List Nat)(v:List (Nat×Nat×LV))(c:List (Nat×Nat×LV×Heap)):Scr:=⟨lkB t f,lkV v,lkV c,false⟩
theorem bY {cx:Cx}{f:FuncId}{todo:List Item}{xs:List LV}{h:Heap}{r:LV×Heap}{p:Prop}(scr:Scr)(hp:p)(e:QjP cx (blk cx) scr f todo xs h r=p):blk cx f todo xs h=some r:=Qdb hp e
theorem tZ {A:Type}{x y:A}{q:Prop}(h:x=y)(hq:q):some x=some y∧q:=⟨congrArg some h,hq⟩
theorem uT2 {p:Prop}(h:p):some true=some true∧some true=some true∧p:=tA tT (tA tT h)
theorem uT3 {p:Prop}(h:p):some true=some true∧some true=some true∧some true=some true∧p:=tA tT (uT2 h)
theorem uT4 {p:Prop}(h:p):some true=some true∧some true=some true∧some true=some true∧some true=some true∧p:=tA tT (uT3 h)
theorem uT5 {p:Prop}(h:p):some true=some true∧some true=some true∧some true=some true∧some true=some true∧some true=some true∧p:=tA tT (uT4 h)
theorem uT6 {p:Prop}(h:p):some true=some true∧some true=some true∧some true=some true∧some true=some true∧some true=some true∧some true=some true∧p:=tA tT (uT5 h)
theorem uT7 {p:Prop}(h:p):some true=some true∧some true=some true∧some true=some true∧some true=some true∧some true=some true∧some true=some true∧some true=some true∧p:=tA tT (uT6 h)
theorem uT8 {p:Prop}(h:p):some true=some true∧some true=some true∧some true=some true∧some true=some true∧some true=some true∧some true=some true∧some true=some true∧some true=some true∧p:=tA tT (uT7 h)
theorem uT9 {p:Prop}(h:p):some true=some true∧some true=some true∧some true=some true∧some true=some true∧some true=some true∧some true=some true∧some true=some true∧some true=some true∧some true=some true∧p:=tA tT (uT8 h)
theorem uF2 {p:Prop}(h:p):some false=some false∧some false=some false∧p:=tA tF (tA tF h)
theorem uF3 {p:Prop}(h:p):some false=some false∧some false=some false∧some false=some false∧p:=tA tF (uF2 h)
theorem uF4 {p:Prop}(h:p):some false=some false∧some false=some false∧some false=some false∧some false=some false∧p:=tA tF (uF3 h)
theorem uF5 {p:Prop}(h:p):some false=some false∧some false=some false∧some false=some false∧some false=some false∧some false=some false∧p:=tA tF (uF4 h)
theorem uF6 {p:Prop}(h:p):some false=some false∧some false=some false∧some false=some false∧some false=some false∧some false=some false∧some false=some false∧p:=tA tF (uF5 h)
theorem uF7 {p:Prop}(h:p):some false=some false∧some false=some false∧some false=some false∧some false=some false∧some false=some false∧some false=some false∧some false=some false∧p:=tA tF (uF6 h)
theorem uF8 {p:Prop}(h:p):some false=some false∧some false=some false∧some false=some false∧some false=some false∧some false=some false∧some false=some false∧some false=some false∧some false=some false∧p:=tA tF (uF7 h)
theorem u12 {p:Prop}(h:p):true=true∧true=true∧p:=tA t1 (tA t1 h)
theorem u02 {p:Prop}(h:p):false=false∧false=false∧p:=tA t0 (tA t0 h)
end Go.Proofs.YtoblgjmllmomhaaGreatDoor
namespace Go.Proofs.YtoblgjmllmomhaaGreatDoor
open Go Go.Proofs.Am
variable {m c z i0 i1 i2 i3 i4:Int} {L n0 n1 n2 n3 n4 n5:Nat} {h h0 h1 h2:Heap} {e:FuncId→Option (List LV→Heap→Option (LV×Heap))} {v0 v1 v2 v3 v4:AV} {b0:Bool}
theorem QyY (k0:ldP h (AV.ptr L 8) 1 false=some v0)(k1:ldP h (AV.ptr L 8) 1 false=some v1)(k2:lnS v1=some i0)(k3:ixP v0 (IntKind.wrap .i64 (i0-Int.ofNat 1)) 4=some (AV.ptr n0 n1)):
 blk (cxB m) 53 (QaE Tryz.prog 53) [vP L 0] h=some ((vP n0 n1,h)):=
 bY (qS [] [] [(1,8,(vI i0))] [(1,3,LV.v v0,Heap.nil),(1,7,LV.v v1,Heap.nil),(1,10,vP n0 n1,Heap.nil)]) (tA t1 (tA tN (tA t0 (tA k0 (tA t1 (tA tN (tA t0 (tA k1 (tA k2 (tA t1 (tA tN (tA k3 (tR ((vP n0 n1,h))))))))))))))) (by kernel_rfl)
theorem QyX (k0:ldP h (AV.ptr L 9) 1 false=some v0)(k1:QcF (Cx.P (cxE m e)) BinOp.eql 33 true v0 AV.nilI=some (aB b0))(k2:b0=true)(k3:stP h (AV.ptr L 9) [vF 56 (aI c)]=some h0):
 blk (cxE m e) 54 (QaE Tryz.prog 54) [vP L 0,vF 56 (aI c)] h=some ((LV.tup [],h0)):=
 bY (qS [8] [] [(0,4,(vB b0))] [(0,3,LV.v v0,Heap.nil),(1,4,LV.ud,h0)]) (tA t1 (tA tN (tA t0 (tA k0 (tA k1 (tZ k2 (tA t1 (tA t0 (tA tU (tA t1 (tA k3 (tR ((LV.tup [],h0)))))))))))))) (by kernel_rfl)
theorem QyW (k0:ldP h (AV.ptr L 9) 1 false=some v0)(k1:QcF (Cx.P (cxE m e)) BinOp.eql 33 true v0 AV.nilI=some (aB b0))(k2:b0=false):
 blk (cxE m e) 54 (QaE Tryz.prog 54) [vP L 0,vF 56 (aI c)] h=some ((LV.tup [],h)):=
 bY (qS [] [8] [(0,4,(vB b0))] [(0,3,LV.v v0,Heap.nil)]) (tA t1 (tA tN (tA t0 (tA k0 (tA k1 (tZ k2 (tR ((LV.tup [],h))))))))) (by kernel_rfl)
theorem Qym (k0:Qab (cxE m e) (blk (cxE m e)) 53 [vP L 0] h=some (vP n0 n1,h0))(k1:ldP h0 (AV.ptr L 7) 1 false=some v0)(k2:lnS v0=some i0)(k3:ldP h0 (AV.ptr n0 (Nat.succ (Nat.succ n1))) 1 false=some (aI i1))(k4:eqZ i0 i1=true)(k5:ldP h0 (AV.ptr n0 (Nat.succ (Nat.succ (Nat.succ n1)))) 1 false=some (aB b0))(k6:(!b0)=true)(k7:Qab (cxE m e) (blk (cxE m e)) 54 [vP L 0,vF 56 (aI (.ofNat 4))] h0=some (LV.tup [],h1)):
 blk (cxE m e) 96 (QaE Tryz.prog 96) [vP L 0,vI z] h=some ((vI z,h1)):=
 bY (qS [18,23] [] [(2,4,(vI i0))] [(1,1,vP n0 n1,h0),(2,3,LV.v v0,Heap.nil),(2,8,vI i1,Heap.nil),(3,3,vB b0,Heap.nil),(4,2,LV.tup [],h1)]) (tA k0 (tA t1 (tA tN (tA t0 (tA k1 (tA k2 (tA t1 (tA tN (tA t0 (tA k3 (tZ k4 (tA t1 (tA tN (tA t0 (tA k5 (tZ k6 (tA k7 (tR ((vI z,h1)))))))))))))))))))) (by kernel_rfl)
theorem Qyl (k0:Qab (cxE m e) (blk (cxE m e)) 53 [vP L 0] h=some (vP n0 n1,h0))(k1:ldP h0 (AV.ptr L 7) 1 false=some v0)(k2:lnS v0=some i0)(k3:ldP h0 (AV.ptr n0 (Nat.succ (Nat.succ n1))) 1 false=some (aI i1))(k4:eqZ i0 i1=true)(k5:ldP h0 (AV.ptr n0 (Nat.succ (Nat.succ (Nat.succ n1)))) 1 false=some (aB b0))(k6:(!b0)=false):
 blk (cxE m e) 96 (QaE Tryz.prog 96) [vP L 0,vI z] h=some ((vI z,h0)):=
 bY (qS [18] [23] [(2,4,(vI i0))] [(1,1,vP n0 n1,h0),(2,3,LV.v v0,Heap.nil),(2,8,vI i1,Heap.nil),(3,3,vB b0,Heap.nil)]) (tA k0 (tA t1 (tA tN (tA t0 (tA k1 (tA k2 (tA t1 (tA tN (tA t0 (tA k3 (tZ k4 (tA t1 (tA tN (tA t0 (tA k5 (tZ k6 (tR ((vI z,h0))))))))))))))))))) (by kernel_rfl)
theorem QtN (k0:Qab (cxE m e) (blk (cxE m e)) 53 [vP L 0] h=some (vP n0 n1,h0))(k1:ldP h0 (AV.ptr L 7) 1 false=some v0)(k2:lnS v0=some i1)(k3:ldP h0 (AV.ptr n0 (Nat.succ (Nat.succ n1))) 1 false=some (aI i2))(k4:eqZ i1 i2=false)(k5:ldP h0 (AV.ptr L 7) 1 false=some v1)(k6:ldP h0 (AV.ptr L 7) 1 false=some v2)(k7:lnS v2=some i3)(k8:ixP v1 (IntKind.wrap .i64 (i3-Int.ofNat 1)) 1=some (AV.ptr n2 n3))(k9:ldP h0 (AV.ptr n2 n3) 1 false=some (aI i0))(k10:ldP h0 (AV.ptr L 7) 1 false=some v3)(k11:ldP h0 (AV.ptr L 7) 1 false=some v4)(k12:lnS v4=some i4)(k13:slA (Cx.P (cxE m e)) 23 v3 none (some (IntKind.wrap .i64 (i4-Int.ofNat 1)))=some (AV.arr 1 n4 0 n5))(k14:stP h0 (AV.ptr L 7) [LV.v (AV.arr 1 n4 0 n5)]=some h2)(k15:(!eqZ i0 z)=true)(k16:(!eqZ i0 (Int.negSucc 0))=true)(k17:(!eqZ z (Int.negSucc 0))=true)(k18:Qab (cxE m e) (blk (cxE m e)) 54 [vP L 0,vF 56 (aI (.ofNat 4))] h2=some (LV.tup [],h1))(k19:eqZ i0 (Int.negSucc 0)=false):
 blk (cxE m e) 96 (QaE Tryz.prog 96) [vP L 0,vI z] h=some ((vI i0,h1)):=
 bY (qS [57,61,64] [18,69] [(2,4,(vI i1)),(6,8,(vI i3)),(7,9,(vI i4)),(7,11,(LV.v (AV.arr 1 n4 0 n5)))] [(1,1,vP n0 n1,h0),(2,3,LV.v v0,Heap.nil),(2,8,vI i2,Heap.nil),(6,3,LV.v v1,Heap.nil),(6,7,LV.v v2,Heap.nil),(6,10,vP n2 n3,Heap.nil),(6,11,vI i0,Heap.nil),(7,4,LV.v v3,Heap.nil),(7,8,LV.v v4,Heap.nil),(7,14,LV.ud,h2),(9,2,LV.tup [],h1)]) (tA k0 (tA t1 (tA tN (tA t0 (tA k1 (tA k2 (tA t1 (tA tN (tA t0 (tA k3 (tZ k4 (tA t1 (tA tN (tA t0 (tA k5 (tA t1 (tA tN (tA t0 (tA k6 (tA k7 (tA t1 (tA tN (tA k8 (tA t1 (tA tN (tA t0 (tA k9 (tA t1 (tA tN (tA t0 (tA k10 (tA t1 (tA tN (tA t0 (tA k11 (tA k12 (tA (tA t1 (k13)) (tA t1 (tA t0 (tA tU (tA t1 (tA k14 (tZ k15 (uT2 (tZ k16 (uT2 (tZ k17 (tA k18 (tZ k19 (tR ((vI i0,h1)))))))))))))))))))))))))))))))))))))))))))))))))))) (by kernel_rfl)
theorem QtM (k0:Qab (cxE m e) (blk (cxE m e)) 53 [vP L 0] h=some (vP n0 n1,h0))(k1:ldP h0 (AV.ptr L 7) 1 false=some v0)(k2:lnS v0=some i1)(k3:ldP h0 (AV.ptr n0 (Nat.succ (Nat.succ n1))) 1 false=some (aI i2))(k4:eqZ i1 i2=false)(k5:ldP h0 (AV.ptr L 7) 1 false=some v1)(k6:ldP h0 (AV.ptr L 7) 1 false=some v2)(k7:lnS v2=some i3)(k8:ixP v1 (IntKind.wrap .i64 (i3-Int.ofNat 1)) 1=some (AV.ptr n2 n3))(k9:ldP h0 (AV.ptr n2 n3) 1 false=some (aI i0))(k10:ldP h0 (AV.ptr L 7) 1 false=some v3)(k11:ldP h0 (AV.ptr L 7) 1 false=some v4)(k12:lnS v4=some i4)(k13:slA (Cx.P (cxE m e)) 23 v3 none (some (IntKind.wrap .i64 (i4-Int.ofNat 1)))=some (AV.arr 1 n4 0 n5))(k14:stP h0 (AV.ptr L 7) [LV.v (AV.arr 1 n4 0 n5)]=some h1)(k15:(!eqZ i0 z)=true)(k16:(!eqZ i0 (Int.negSucc 0))=true)(k17:(!eqZ z (Int.negSucc 0))=false)(k18:eqZ i0 (Int.negSucc 0)=false):
 blk (cxE m e) 96 (QaE Tryz.prog 96) [vP L 0,vI z] h=some ((vI i0,h1)):=
 bY (qS [57,61] [18,64,69] [(2,4,(vI i1)),(6,8,(vI i3)),(7,9,(vI i4)),(7,11,(LV.v (AV.arr 1 n4 0 n5)))] [(1,1,vP n0 n1,h0),(2,3,LV.v v0,Heap.nil),(2,8,vI i2,Heap.nil),(6,3,LV.v v1,Heap.nil),(6,7,LV.v v2,Heap.nil),(6,10,vP n2 n3,Heap.nil),(6,11,vI i0,Heap.nil),(7,4,LV.v v3,Heap.nil),(7,8,LV.v v4,Heap.nil),(7,14,LV.ud,h1)]) (tA k0 (tA t1 (tA tN (tA t0 (tA k1 (tA k2 (tA t1 (tA tN (tA t0 (tA k3 (tZ k4 (tA t1 (tA tN (tA t0 (tA k5 (tA t1 (tA tN (tA t0 (tA k6 (tA k7 (tA t1 (tA tN (tA k8 (tA t1 (tA tN (tA t0 (tA k9 (tA t1 (tA tN (tA t0 (tA k10 (tA t1 (tA tN (tA t0 (tA k11 (tA k12 (tA (tA t1 (k13)) (tA t1 (tA t0 (tA tU (tA t1 (tA k14 (tZ k15 (uT2 (tZ k16 (uT2 (tZ k17 (tZ k18 (tR ((vI i0,h1))))))))))))))))))))))))))))))))))))))))))))))))))) (by kernel_rfl)
theorem QtL (k0:Qab (cxE m e) (blk (cxE m e)) 53 [vP L 0] h=some (vP n0 n1,h0))(k1:ldP h0 (AV.ptr L 7) 1 false=some v0)(k2:lnS v0=some i1)(k3:ldP h0 (AV.ptr n0 (Nat.succ (Nat.succ n1))) 1 false=some (aI i2))(k4:eqZ i1 i2=false)(k5:ldP h0 (AV.ptr L 7) 1 false=some v1)(k6:ldP h0 (AV.ptr L 7) 1 false=some v2)(k7:lnS v2=some i3)(k8:ixP v1 (IntKind.wrap .i64 (i3-Int.ofNat 1)) 1=some (AV.ptr n2 n3))(k9:ldP h0 (AV.ptr n2 n3) 1 false=some (aI i0))(k10:ldP h0 (AV.ptr L 7) 1 false=some v3)(k11:ldP h0 (AV.ptr L 7) 1 false=some v4)(k12:lnS v4=some i4)(k13:slA (Cx.P (cxE m e)) 23 v3 none (some (IntKind.wrap .i64 (i4-Int.ofNat 1)))=some (AV.arr 1 n4 0 n5))(k14:stP h0 (AV.ptr L 7) [LV.v (AV.arr 1 n4 0 n5)]=some h1)(k15:(!eqZ i0 z)=true)(k16:(!eqZ i0 (Int.negSucc 0))=false)(k17:eqZ i0 (Int.negSucc 0)=true):
 blk (cxE m e) 96 (QaE Tryz.prog 96) [vP L 0,vI z] h=some ((vI z,h1)):=
 bY (qS [57,69] [18,61] [(2,4,(vI i1)),(6,8,(vI i3)),(7,9,(vI i4)),(7,11,(LV.v (AV.arr 1 n4 0 n5)))] [(1,1,vP n0 n1,h0),(2,3,LV.v v0,Heap.nil),(2,8,vI i2,Heap.nil),(6,3,LV.v v1,Heap.nil),(6,7,LV.v v2,Heap.nil),(6,10,vP n2 n3,Heap.nil),(6,11,vI i0,Heap.nil),(7,4,LV.v v3,Heap.nil),(7,8,LV.v v4,Heap.nil),(7,14,LV.ud,h1)]) (tA k0 (tA t1 (tA tN (tA t0 (tA k1 (tA k2 (tA t1 (tA tN (tA t0 (tA k3 (tZ k4 (tA t1 (tA tN (tA t0 (tA k5 (tA t1 (tA tN (tA t0 (tA k6 (tA k7 (tA t1 (tA tN (tA k8 (tA t1 (tA tN (tA t0 (tA k9 (tA t1 (tA tN (tA t0 (tA k10 (tA t1 (tA tN (tA t0 (tA k11 (tA k12 (tA (tA t1 (k13)) (tA t1 (tA t0 (tA tU (tA t1 (tA k14 (tZ k15 (uT2 (tZ k16 (uF2 (tZ k17 (tR ((vI z,h1)))))))))))))))))))))))))))))))))))))))))))))))))) (by kernel_rfl)
theorem QtK (k0:Qab (cxE m e) (blk (cxE m e)) 53 [vP L 0] h=some (vP n0 n1,h0))(k1:ldP h0 (AV.ptr L 7) 1 false=some v0)(k2:lnS v0=some i1)(k3:ldP h0 (AV.ptr n0 (Nat.succ (Nat.succ n1))) 1 false=some (aI i2))(k4:eqZ i1 i2=false)(k5:ldP h0 (AV.ptr L 7) 1 false=some v1)(k6:ldP h0 (AV.ptr L 7) 1 false=some v2)(k7:lnS v2=some i3)(k8:ixP v1 (IntKind.wrap .i64 (i3-Int.ofNat 1)) 1=some (AV.ptr n2 n3))(k9:ldP h0 (AV.ptr n2 n3) 1 false=some (aI i0))(k10:ldP h0 (AV.ptr L 7) 1 false=some v3)(k11:ldP h0 (AV.ptr L 7) 1 false=some v4)(k12:lnS v4=some i4)(k13:slA (Cx.P (cxE m e)) 23 v3 none (some (IntKind.wrap .i64 (i4-Int.ofNat 1)))=some (AV.arr 1 n4 0 n5))(k14:stP h0 (AV.ptr L 7) [LV.v (AV.arr 1 n4 0 n5)]=some h1)(k15:(!eqZ i0 z)=false)(k16:eqZ i0 (Int.negSucc 0)=true):
 blk (cxE m e) 96 (QaE Tryz.prog 96) [vP L 0,vI z] h=some ((vI z,h1)):=
 bY (qS [69] [18,57] [(2,4,(vI i1)),(6,8,(vI i3)),(7,9,(vI i4)),(7,11,(LV.v (AV.arr 1 n4 0 n5)))] [(1,1,vP n0 n1,h0),(2,3,LV.v v0,Heap.nil),(2,8,vI i2,Heap.nil),(6,3,LV.v v1,Heap.nil),(6,7,LV.v v2,Heap.nil),(6,10,vP n2 n3,Heap.nil),(6,11,vI i0,Heap.nil),(7,4,LV.v v3,Heap.nil),(7,8,LV.v v4,Heap.nil),(7,14,LV.ud,h1)]) (tA k0 (tA t1 (tA tN (tA t0 (tA k1 (tA k2 (tA t1 (tA tN (tA t0 (tA k3 (tZ k4 (tA t1 (tA tN (tA t0 (tA k5 (tA t1 (tA tN (tA t0 (tA k6 (tA k7 (tA t1 (tA tN (tA k8 (tA t1 (tA tN (tA t0 (tA k9 (tA t1 (tA tN (tA t0 (tA k10 (tA t1 (tA tN (tA t0 (tA k11 (tA k12 (tA (tA t1 (k13)) (tA t1 (tA t0 (tA tU (tA t1 (tA k14 (tZ k15 (uF2 (tZ k16 (tR ((vI z,h1)))))))))))))))))))))))))))))))))))))))))))))))) (by kernel_rfl)
theorem QtJ (k0:Qab (cxE m e) (blk (cxE m e)) 53 [vP L 0] h=some (vP n0 n1,h0))(k1:ldP h0 (AV.ptr L 7) 1 false=some v0)(k2:lnS v0=some i1)(k3:ldP h0 (AV.ptr n0 (Nat.succ (Nat.succ n1))) 1 false=some (aI i2))(k4:eqZ i1 i2=false)(k5:ldP h0 (AV.ptr L 7) 1 false=some v1)(k6:ldP h0 (AV.ptr L 7) 1 false=some v2)(k7:lnS v2=some i3)(k8:ixP v1 (IntKind.wrap .i64 (i3-Int.ofNat 1)) 1=some (AV.ptr n2 n3))(k9:ldP h0 (AV.ptr n2 n3) 1 false=some (aI i0))(k10:ldP h0 (AV.ptr L 7) 1 false=some v3)(k11:ldP h0 (AV.ptr L 7) 1 false=some v4)(k12:lnS v4=some i4)(k13:slA (Cx.P (cxE m e)) 23 v3 none (some (IntKind.wrap .i64 (i4-Int.ofNat 1)))=some (AV.arr 1 n4 0 n5))(k14:stP h0 (AV.ptr L 7) [LV.v (AV.arr 1 n4 0 n5)]=some h1)(k15:(!eqZ i0 z)=false)(k16:eqZ i0 (Int.negSucc 0)=false):
 blk (cxE m e) 96 (QaE Tryz.prog 96) [vP L 0,vI z] h=some ((vI i0,h1)):=
 bY (qS [] [18,57,69] [(2,4,(vI i1)),(6,8,(vI i3)),(7,9,(vI i4)),(7,11,(LV.v (AV.arr 1 n4 0 n5)))] [(1,1,vP n0 n1,h0),(2,3,LV.v v0,Heap.nil),(2,8,vI i2,Heap.nil),(6,3,LV.v v1,Heap.nil),(6,7,LV.v v2,Heap.nil),(6,10,vP n2 n3,Heap.nil),(6,11,vI i0,Heap.nil),(7,4,LV.v v3,Heap.nil),(7,8,LV.v v4,Heap.nil),(7,14,LV.ud,h1)]) (tA k0 (tA t1 (tA tN (tA t0 (tA k1 (tA k2 (tA t1 (tA tN (tA t0 (tA k3 (tZ k4 (tA t1 (tA tN (tA t0 (tA k5 (tA t1 (tA tN (tA t0 (tA k6 (tA k7 (tA t1 (tA tN (tA k8 (tA t1 (tA tN (tA t0 (tA k9 (tA t1 (tA tN (tA t0 (tA k10 (tA t1 (tA tN (tA t0 (tA k11 (tA k12 (tA (tA t1 (k13)) (tA t1 (tA t0 (tA tU (tA t1 (tA k14 (tZ k15 (uF2 (tZ k16 (tR ((vI i0,h1)))))))))))))))))))))))))))))))))))))))))))))))) (by kernel_rfl)
end Go.Proofs.YtoblgjmllmomhaaGreatDoor
namespace Go.Proofs.YtoblgjmllmomhaaGreatDoor
open Go Go.Proofs.Am
variable {m n i t i0 i1:Int} {L n0 n1 n2 n3:Nat} {a v0 v1 v2 v3:AV} {h h0 h1 h2:Heap} {r:LV×Heap}
theorem QyV (k0:lnS a=some i0)(k1:bA m 55 1 [vP L 0,LV.v a,vI i0,vI (.ofNat 0)] h=some r):
 bB m 55 [vP L 0,.v a] h=some r:=
 bY (qS [] [] [(0,1,(vI i0))] []) (tA k0 (tA t1 (k1))) (by kernel_rfl)
theorem Qp9 (k0:ltZ i n=true)(k1:ixA a i 1=some [aI i0])(k2:(!eqZ i0 (.ofNat 0))=true)(k3:ldP h (AV.ptr L 7) 1 false=some v0)(k4:apH h v0 1 8 [[aI i0]]=some (AV.arr 1 n0 0 n1,h0))(k5:stP h0 (AV.ptr L 7) [LV.v (AV.arr 1 n0 0 n1)]=some h1)(k6:bA m 55 1 [vP L 0,LV.v a,vI n,vI (IntKind.wrap .i64 (i+Int.ofNat 1))] h1=some r):
 bA m 55 1 [vP L 0,.v a,vI n,vI i] h=some r:=
 bY (qS [9,13] [] [(2,0,(LV.v (AV.snap [aI i0])))] [(4,4,LV.v v0,Heap.nil),(4,7,LV.v (AV.arr 1 n0 0 n1),h0),(4,10,LV.ud,h1)]) (tZ k0 (tA (tA t0 (tA tN (k1))) (tZ k2 (tA t1 (tA tN (tA t0 (tA k3 (u12 (tA k4 (tA t1 (tA t0 (tA tU (tA t1 (tA k5 (tA t1 (k6)))))))))))))))) (by kernel_rfl)
theorem Qp8 (k0:ltZ i n=true)(k1:ixA a i 1=some [aI i0])(k2:(!eqZ i0 (.ofNat 0))=false)(k3:bA m 55 1 [vP L 0,LV.v a,vI n,vI (IntKind.wrap .i64 (i+Int.ofNat 1))] h=some r):
 bA m 55 1 [vP L 0,.v a,vI n,vI i] h=some r:=
 bY (qS [9] [13] [(2,0,(LV.v (AV.snap [aI i0])))] []) (tZ k0 (tA (tA t0 (tA tN (k1))) (tZ k2 (tA t1 (k3))))) (by kernel_rfl)
theorem Qp7 (k0:ltZ i n=false):
 bA m 55 1 [vP L 0,.v a,vI n,vI i] h=some ((LV.tup [],h)):=
 bY (qS [] [9] [] []) (tZ k0 (tR ((LV.tup [],h)))) (by kernel_rfl)
theorem Qyx (k0:cA m 53 [vP L 0] h=some (vP n0 n1,h0))(k1:ldP h0 (AV.ptr L 7) 1 false=some v0)(k2:ldP h0 (AV.ptr n0 (Nat.succ (Nat.succ n1))) 1 false=some (aI i0))(k3:slA (Cx.P (cxZ m)) 23 v0 none (some i0)=some AV.nilS)(k4:stP h0 (AV.ptr L 7) [LV.v AV.nilS]=some h2)(k5:stP h2 (AV.ptr n0 (Nat.succ (Nat.succ (Nat.succ n1)))) [vB true]=some h1):
 bB m 93 [vP L 0] h=some ((LV.tup [],h1)):=
 bY (qS [] [] [(1,10,(LV.v AV.nilS))] [(0,1,vP n0 n1,h0),(1,5,LV.v v0,Heap.nil),(1,9,vI i0,Heap.nil),(1,13,LV.ud,h2),(1,16,LV.ud,h1)]) (tA k0 (tA t1 (tA tN (tA t0 (tA k1 (tA t1 (tA tN (tA t0 (tA k2 (tA (tA t1 (k3)) (tA t1 (tA t0 (tA tU (tA t1 (tA k4 (tA t1 (tA t0 (tA tU (tA t1 (tA k5 (tR ((LV.tup [],h1))))))))))))))))))))))) (by kernel_rfl)
theorem Qyw (k0:cA m 53 [vP L 0] h=some (vP n0 n1,h0))(k1:ldP h0 (AV.ptr L 7) 1 false=some v0)(k2:ldP h0 (AV.ptr n0 (Nat.succ (Nat.succ n1))) 1 false=some (aI i0))(k3:slA (Cx.P (cxZ m)) 23 v0 none (some i0)=some (AV.arr 1 n2 0 n3))(k4:stP h0 (AV.ptr L 7) [LV.v (AV.arr 1 n2 0 n3)]=some h2)(k5:stP h2 (AV.ptr n0 (Nat.succ (Nat.succ (Nat.succ n1)))) [vB true]=some h1):
 bB m 93 [vP L 0] h=some ((LV.tup [],h1)):=
 bY (qS [] [] [(1,10,(LV.v (AV.arr 1 n2 0 n3)))] [(0,1,vP n0 n1,h0),(1,5,LV.v v0,Heap.nil),(1,9,vI i0,Heap.nil),(1,13,LV.ud,h2),(1,16,LV.ud,h1)]) (tA k0 (tA t1 (tA tN (tA t0 (tA k1 (tA t1 (tA tN (tA t0 (tA k2 (tA (tA t1 (k3)) (tA t1 (tA t0 (tA tU (tA t1 (tA k4 (tA t1 (tA t0 (tA tU (tA t1 (tA k5 (tR ((LV.tup [],h1))))))))))))))))))))))) (by kernel_rfl)
theorem Qyj (k0:ldP h (AV.ptr L 8) 1 false=some v0)(k1:lnS v0=some i0)(k2:leZ i0 n=true)(k3:cA m 54 [vP L 0,vF 56 (aI (.ofNat 5))] h=some (LV.tup [],h0)):
 bB m 121 [vP L 0,vI n] h=some ((LV.tup [aM [],aB false],h0)):=
 bY (qS [12] [] [(1,5,(vI i0))] [(1,4,LV.v v0,Heap.nil),(2,2,LV.tup [],h0)]) (tA t1 (tA tN (tA t0 (tA k0 (tA k1 (tZ k2 (tA k3 (tR ((LV.tup [aM [],aB false],h0)))))))))) (by kernel_rfl)
theorem Qyi {x4_12_i x4_12_o:Nat}(k0:ldP h (AV.ptr L 8) 1 false=some v1)(k1:lnS v1=some i0)(k2:leZ i0 n=false)(k3:ldP h (AV.ptr L 8) 1 false=some v2)(k4:ldP h (AV.ptr L 8) 1 false=some v3)(k5:lnS v3=some i1)(k6:ixP v2 (IntKind.wrap .i64 (IntKind.wrap .i64 (i1-Int.ofNat 1)-n)) 4=some (AV.ptr x4_12_i x4_12_o))(k7:ldP h (AV.ptr x4_12_i x4_12_o) 1 false=some v0):
 bB m 121 [vP L 0,vI n] h=some ((LV.tup [v0,aB true],h)):=
 bY (qS [] [12] [(1,5,(vI i0)),(4,8,(vI i1))] [(1,4,LV.v v1,Heap.nil),(4,3,LV.v v2,Heap.nil),(4,7,LV.v v3,Heap.nil),(4,12,vP x4_12_i x4_12_o,Heap.nil),(4,14,LV.v v0,Heap.nil)]) (tA t1 (tA tN (tA t0 (tA k0 (tA k1 (tZ k2 (tA t1 (tA tN (tA t0 (tA k3 (tA t1 (tA tN (tA t0 (tA k4 (tA k5 (tA t1 (tA tN (tA k6 (tA t1 (tA tN (tA t0 (tA k7 (tR ((LV.tup [v0,aB true],h))))))))))))))))))))))))) (by kernel_rfl)
theorem Qzq (k0:eqZ t (.ofNat 0)=true):
 bB m 22 [vI t] h=some ((vM [],h)):=
 bY (qS [4] [] [] []) (tZ k0 (tR ((vM [],h)))) (by kernel_rfl)
theorem Qzp (k0:eqZ t (.ofNat 0)=false):
 bB m 22 [vI t] h=some ((vM [[aI t]],h)):=
 bY (qS [] [4] [] []) (tZ k0 (tR ((vM [[aI t]],h)))) (by kernel_rfl)
end Go.Proofs.YtoblgjmllmomhaaGreatDoor
namespace Go.Proofs.YtoblgjmllmomhaaGreatDoor
open Go Go.Proofs.Am
variable {m o a b v t n i0 i1 i2:Int} {L i C:Nat} {l bd el out xs l0 l1:LL} {q b0:Bool} {h h0 h1 h2 h3 h4 h5:Heap} {r:LV×Heap} {fv x y v0:AV}
theorem Qyk (k0:bA m 120 3 [vP L 0,LV.ow 1 [],vM l,vI (.ofNat l.length),vI (.ofNat 0)] h=some r):
 bB m 120 [vP L 0,vG (nC o a b v t l bd el q)] h=some r:=
 bY (qS [] [] [] []) (tA t1 (k0)) (by kernel_rfl)
theorem QpX (k0:ltZ (.ofNat i) n=true)(k1:ixA (aM l) (.ofNat i) 1=some [aI i0])(k2:cA m 121 [vP L 0,vI i0] h=some (LV.tup [aM l0,aB b0],h0))(k3:(!b0)=true):
 bA m 120 3 [vP L 0,.ow 1 out,vM l,vI n,vI i] h=some ((LV.tup [],h0)):=
 bY (qS [14,24] [] [(4,0,(LV.v (AV.snap [aI i0])))] [(5,2,LV.tup [aM l0,aB b0],h0)]) (tZ k0 (tA (tA t0 (tA tN (k1))) (tA k2 (tZ k3 (tR ((LV.tup [],h0))))))) (by kernel_rfl)
theorem QpW (k0:ltZ (.ofNat i) n=true)(k1:ixA (aM l) (.ofNat i) 1=some [aI i0])(k2:cA m 121 [vP L 0,vI i0] h=some (LV.tup [aM l0,aB b0],h0))(k3:(!b0)=false)(k4:apL (LV.ow 1 out) 1 24 [[aM l0]]=some (LV.ow 1 l1))(k5:bA m 120 3 [vP L 0,LV.ow 1 l1,vM l,vI n,vI (IntKind.wrap .i64 (.ofNat (Nat.succ i)))] h0=some r):
 bA m 120 3 [vP L 0,.ow 1 out,vM l,vI n,vI i] h=some r:=
 bY (qS [14] [24] [(4,0,(LV.v (AV.snap [aI i0]))),(7,3,(LV.ow 1 l1))] [(5,2,LV.tup [aM l0,aB b0],h0)]) (tZ k0 (tA (tA t0 (tA tN (k1))) (tA k2 (tZ k3 (u02 (tA t1 (tA k4 (tA t1 (k5))))))))) (by kernel_rfl)
theorem QpV (k0:ltZ (.ofNat i) n=false)(k1:ixA (aM out) (IntKind.wrap .i64 (Int.ofNat out.length-Int.ofNat 1)) 1=some [aM l0])(k2:stP {bx:=Heap.bx h++[[LV.ow 1 []]],mp:=Heap.mp h} (AV.ptr (List.length (Heap.bx h)) 0) [vM l0]=some h2)(k3:cA m 143 [vM out,LV.v (AV.fn 144 [] [AV.ptr (List.length (Heap.bx h)) 0])] h2=some (vB b0,h3))(k4:b0=true)(k5:cA m 54 [vP L 0,vF 56 (aI (.ofNat 4))] h3=some (LV.tup [],h4))(k6:cA m 96 [vP L 0,vI (.ofNat 1)] h4=some (vI i0,h0))(k7:ldP h0 (AV.ptr (List.length (Heap.bx h)) 0) 1 false=some v0)(k8:cA m 52 [vP L 0,LV.v v0] h0=some (LV.tup [],h5))(k9:cA m 93 [vP L 0] h5=some (LV.tup [],h1)):
 bA m 120 3 [vP L 0,.ow 1 out,vM l,vI n,vI i] h=some ((LV.tup [],h1)):=
 bY (qS [38] [14] [(9,4,(LV.v (AV.snap [aM l0])))] [(9,7,LV.ud,h2),(10,2,vB b0,h3),(11,2,LV.tup [],h4),(12,1,vI i0,h0),(13,1,LV.v v0,Heap.nil),(13,2,LV.tup [],h5),(14,1,LV.tup [],h1)]) (tZ k0 (tA (tA t0 (tA tN (k1))) (tA t1 (tA t0 (tA tU (tA t1 (tA k2 (tA k3 (tZ k4 (tA k5 (tA k6 (tA t1 (tA tN (tA t0 (tA k7 (tA k8 (tA k9 (tR ((LV.tup [],h1)))))))))))))))))))) (by kernel_rfl)
theorem QpU (k0:ltZ (.ofNat i) n=false)(k1:ixA (aM out) (IntKind.wrap .i64 (Int.ofNat out.length-Int.ofNat 1)) 1=some [aM l0])(k2:stP {bx:=Heap.bx h++[[LV.ow 1 []]],mp:=Heap.mp h} (AV.ptr (List.length (Heap.bx h)) 0) [vM l0]=some h2)(k3:cA m 143 [vM out,LV.v (AV.fn 144 [] [AV.ptr (List.length (Heap.bx h)) 0])] h2=some (vB b0,h3))(k4:b0=false)(k5:cA m 96 [vP L 0,vI (.ofNat 1)] h3=some (vI i0,h0))(k6:ldP h0 (AV.ptr (List.length (Heap.bx h)) 0) 1 false=some v0)(k7:cA m 52 [vP L 0,LV.v v0] h0=some (LV.tup [],h4))(k8:cA m 93 [vP L 0] h4=some (LV.tup [],h1)):
 bA m 120 3 [vP L 0,.ow 1 out,vM l,vI n,vI i] h=some ((LV.tup [],h1)):=
 bY (qS [] [14,38] [(9,4,(LV.v (AV.snap [aM l0])))] [(9,7,LV.ud,h2),(10,2,vB b0,h3),(12,1,vI i0,h0),(13,1,LV.v v0,Heap.nil),(13,2,LV.tup [],h4),(14,1,LV.tup [],h1)]) (tZ k0 (tA (tA t0 (tA tN (k1))) (tA t1 (tA t0 (tA tU (tA t1 (tA k2 (tA k3 (tZ k4 (tA k5 (tA t1 (tA tN (tA t0 (tA k6 (tA k7 (tA k8 (tR ((LV.tup [],h1))))))))))))))))))) (by kernel_rfl)
theorem Qyh (k0:cA m 161 [vM xs,LV.v fv] h=some (vI i0,h0)):
 bB m 143 [vM xs,.v fv] h=some ((vB (leZ (.ofNat 0) i0),h0)):=
 bY (qS [] [] [] [(1,2,vI i0,h0)]) (tA k0 (tR ((vB (leZ (.ofNat 0) i0),h0)))) (by kernel_rfl)
theorem Qyd (k0:bA m 161 2 [vM xs,LV.v fv,vI (.ofNat xs.length),vI (.ofNat 0)] h=some r):
 bB m 161 [vM xs,.v fv] h=some r:=
 bY (qS [] [] [] []) (tA t1 (k0)) (by kernel_rfl)
theorem QpQ (k0:ltZ (.ofNat i) n=true)(k1:ixA (aM xs) (.ofNat i) 1=some [aM l0])(k2:cV m fv [vM l0] h=some (vB b0,h0))(k3:b0=true):
 bA m 161 2 [vM xs,.v fv,vI n,vI i] h=some ((vI (.ofNat i),h0)):=
 bY (qS [9,16] [] [(4,3,(LV.v (AV.snap [aM l0])))] [(4,5,vB b0,h0)]) (tZ k0 (tA (tA t0 (tA tN (k1))) (tA k2 (tZ k3 (tR ((vI (.ofNat i),h0))))))) (by kernel_rfl)
theorem QpP (k0:ltZ (.ofNat i) n=true)(k1:ixA (aM xs) (.ofNat i) 1=some [aM l0])(k2:cV m fv [vM l0] h=some (vB b0,h0))(k3:b0=false)(k4:bA m 161 2 [vM xs,LV.v fv,vI n,vI (IntKind.wrap .i64 (.ofNat (Nat.succ i)))] h0=some r):
 bA m 161 2 [vM xs,.v fv,vI n,vI i] h=some r:=
 bY (qS [9] [16] [(4,3,(LV.v (AV.snap [aM l0])))] [(4,5,vB b0,h0)]) (tZ k0 (tA (tA t0 (tA tN (k1))) (tA k2 (tZ k3 (tA t1 (k4)))))) (by kernel_rfl)
theorem QpO (k0:ltZ (.ofNat i) n=false):
 bA m 161 2 [vM xs,.v fv,vI n,vI i] h=some ((vI (Int.negSucc 0),h)):=
 bY (qS [] [9] [] []) (tZ k0 (tR ((vI (Int.negSucc 0),h)))) (by kernel_rfl)
theorem Qyg (k0:ldP h (AV.ptr C 0) 1 false=some v0)(k1:cA m 145 [LV.v x,LV.v v0] h=some (vB b0,h0)):
 bB m 144 [.v x,vP C 0] h=some ((vB !b0,h0)):=
 bY (qS [] [] [] [(1,1,LV.v v0,Heap.nil),(1,2,vB b0,h0)]) (tA t1 (tA tN (tA t0 (tA k0 (tA k1 (tR ((vB !b0,h0)))))))) (by kernel_rfl)
theorem Qyf (k0:lnS x=some i0)(k1:lnS y=some i1)(k2:(!eqZ i0 i1)=true):
 bB m 145 [.v x,.v y] h=some ((vB false,h)):=
 bY (qS [10] [] [(1,1,(vI i0)),(1,3,(vI i1))] []) (tA k0 (tA k1 (tZ k2 (tR ((vB false,h)))))) (by kernel_rfl)
theorem Qye (k0:lnS x=some i0)(k1:lnS y=some i1)(k2:(!eqZ i0 i1)=false)(k3:lnS x=some i2)(k4:bA m 145 4 [LV.v x,LV.v y,vI i2,vI (.ofNat 0)] h=some r):
 bB m 145 [.v x,.v y] h=some r:=
 bY (qS [] [10] [(1,1,(vI i0)),(1,3,(vI i1)),(3,1,(vI i2))] []) (tA k0 (tA k1 (tZ k2 (tA k3 (tA t1 (k4)))))) (by kernel_rfl)
theorem QpT (k0:ltZ (.ofNat i) n=true)(k1:ixA x (.ofNat i) 1=some [aI i0])(k2:ixA y (.ofNat i) 1=some [aI i1])(k3:(!eqZ i0 i1)=true):
 bA m 145 4 [.v x,.v y,vI n,vI i] h=some ((vB false,h)):=
 bY (qS [14,24] [] [(6,2,(LV.v (AV.snap [aI i0]))),(6,6,(LV.v (AV.snap [aI i1])))] []) (tZ k0 (tA (tA t0 (tA tN (k1))) (tA (tA t0 (tA tN (k2))) (tZ k3 (tR ((vB false,h))))))) (by kernel_rfl)
theorem QpS (k0:ltZ (.ofNat i) n=true)(k1:ixA x (.ofNat i) 1=some [aI i0])(k2:ixA y (.ofNat i) 1=some [aI i1])(k3:(!eqZ i0 i1)=false)(k4:bA m 145 4 [LV.v x,LV.v y,vI n,vI (IntKind.wrap .i64 (.ofNat (Nat.succ i)))] h=some r):
 bA m 145 4 [.v x,.v y,vI n,vI i] h=some r:=
 bY (qS [14] [24] [(6,2,(LV.v (AV.snap [aI i0]))),(6,6,(LV.v (AV.snap [aI i1])))] []) (tZ k0 (tA (tA t0 (tA tN (k1))) (tA (tA t0 (tA tN (k2))) (tZ k3 (tA t1 (k4)))))) (by kernel_rfl)
theorem QpR (k0:ltZ (.ofNat i) n=false):
 bA m 145 4 [.v x,.v y,vI n,vI i] h=some ((vB true,h)):=
 bY (qS [] [14] [] []) (tZ k0 (tR ((vB true,h)))) (by kernel_rfl)
end Go.Proofs.YtoblgjmllmomhaaGreatDoor
namespace Go.Proofs.YtoblgjmllmomhaaGreatDoor
open Go Go.Proofs.Am
variable {m c d re i0 i1 i2 i3 i4 i5 i6 i7 i8 i9 i10 i11 i12 i13 i14 i15 i16 i17 i18 i19 i20 i21 i22 i23:Int} {xs ty fu gl lo l0 l1 l2 l3 l4 l5 l6 l7 l8 l9 l10 l11:LL} {h h0 h1:Heap} {r:LV×Heap} {i:Nat} {tb mm b0 b1 b2 b3:Bool}
theorem QCP (k0:bA m 8 4 [vM xs,vI (.ofNat 0),vI (.ofNat 0),vI (.ofNat 0)] h=some r):
 bB m 8 [vM xs] h=some r:=
 bY (qS [] [] [] []) (tA t1 (k0)) (by kernel_rfl)
theorem QtI (k0:ltZ (.ofNat i) (.ofNat xs.length)=true)(k1:ixA (aM xs) (.ofNat i) 9=some (nC i6 i7 i8 i9 i10 l2 l0 l3 b0))(k2:cA m 8 [vM l0] h=some (LV.tup [aI i2,aI i0],h0))(k3:ixA (aM xs) (.ofNat i) 9=some (nC i11 i12 i13 i14 i15 l4 l5 l1 b1))(k4:cA m 8 [vM l1] h0=some (LV.tup [aI i3,aI i1],h1))(k5:ixA (aM xs) (.ofNat i) 9=some (nC i4 i16 i17 i18 i19 l6 l7 l8 b2))(k6:leZ (.ofNat 2) i4=true)(k7:ixA (aM xs) (.ofNat i) 9=some (nC i5 i20 i21 i22 i23 l9 l10 l11 b3))(k8:leZ i5 (.ofNat 4)=true)(k9:ltZ d (IntKind.wrap .i64 (i0+Int.ofNat 1))=true)(k10:ltZ (IntKind.wrap .i64 (i0+Int.ofNat 1)) (IntKind.wrap .i64 (i1+Int.ofNat 1))=true)(k11:bA m 8 4 [vM xs,vI (IntKind.wrap .i64 (IntKind.wrap .i64 (IntKind.wrap .i64 (c+Int.ofNat 1)+i2)+i3)),vI (IntKind.wrap .i64 (i1+Int.ofNat 1)),vI (IntKind.wrap .i64 (.ofNat (Nat.succ i)))] h1=some r):
 bA m 8 4 [vM xs,vI c,vI d,vI i] h=some r:=
 bY (qS [14,47,54,58,64] [] [(6,2,(LV.v (AV.snap (nC i6 i7 i8 i9 i10 l2 l0 l3 b0)))),(7,2,(LV.v (AV.snap (nC i11 i12 i13 i14 i15 l4 l5 l1 b1)))),(9,2,(LV.v (AV.snap (nC i4 i16 i17 i18 i19 l6 l7 l8 b2)))),(9,9,(LV.v (AV.snap (nC i5 i20 i21 i22 i23 l9 l10 l11 b3))))] [(6,5,LV.tup [aI i2,aI i0],h0),(7,5,LV.tup [aI i3,aI i1],h1)]) (tZ k0 (tA (tA t0 (tA tN (k1))) (tA k2 (tA (tA t0 (tA tN (k3))) (tA k4 (tA (tA t0 (tA tN (k5))) (tZ k6 (uT2 (tA (tA t0 (tA tN (k7))) (uT4 (tZ k8 (tZ k9 (tZ k10 (tA t1 (k11))))))))))))))) (by kernel_rfl)
theorem QtH (k0:ltZ (.ofNat i) (.ofNat xs.length)=true)(k1:ixA (aM xs) (.ofNat i) 9=some (nC i6 i7 i8 i9 i10 l2 l0 l3 b0))(k2:cA m 8 [vM l0] h=some (LV.tup [aI i1,aI i0],h0))(k3:ixA (aM xs) (.ofNat i) 9=some (nC i11 i12 i13 i14 i15 l4 l5 l1 b1))(k4:cA m 8 [vM l1] h0=some (LV.tup [aI i2,aI i3],h1))(k5:ixA (aM xs) (.ofNat i) 9=some (nC i4 i16 i17 i18 i19 l6 l7 l8 b2))(k6:leZ (.ofNat 2) i4=true)(k7:ixA (aM xs) (.ofNat i) 9=some (nC i5 i20 i21 i22 i23 l9 l10 l11 b3))(k8:leZ i5 (.ofNat 4)=true)(k9:ltZ d (IntKind.wrap .i64 (i0+Int.ofNat 1))=true)(k10:ltZ (IntKind.wrap .i64 (i0+Int.ofNat 1)) (IntKind.wrap .i64 (i3+Int.ofNat 1))=false)(k11:bA m 8 4 [vM xs,vI (IntKind.wrap .i64 (IntKind.wrap .i64 (IntKind.wrap .i64 (c+Int.ofNat 1)+i1)+i2)),vI (IntKind.wrap .i64 (i0+Int.ofNat 1)),vI (IntKind.wrap .i64 (.ofNat (Nat.succ i)))] h1=some r):
 bA m 8 4 [vM xs,vI c,vI d,vI i] h=some r:=
 bY (qS [14,47,54,58] [64] [(6,2,(LV.v (AV.snap (nC i6 i7 i8 i9 i10 l2 l0 l3 b0)))),(7,2,(LV.v (AV.snap (nC i11 i12 i13 i14 i15 l4 l5 l1 b1)))),(9,2,(LV.v (AV.snap (nC i4 i16 i17 i18 i19 l6 l7 l8 b2)))),(9,9,(LV.v (AV.snap (nC i5 i20 i21 i22 i23 l9 l10 l11 b3))))] [(6,5,LV.tup [aI i1,aI i0],h0),(7,5,LV.tup [aI i2,aI i3],h1)]) (tZ k0 (tA (tA t0 (tA tN (k1))) (tA k2 (tA (tA t0 (tA tN (k3))) (tA k4 (tA (tA t0 (tA tN (k5))) (tZ k6 (uT2 (tA (tA t0 (tA tN (k7))) (uT4 (tZ k8 (tZ k9 (tZ k10 (tA t1 (k11))))))))))))))) (by kernel_rfl)
theorem QtG (k0:ltZ (.ofNat i) (.ofNat xs.length)=true)(k1:ixA (aM xs) (.ofNat i) 9=some (nC i6 i7 i8 i9 i10 l2 l0 l3 b0))(k2:cA m 8 [vM l0] h=some (LV.tup [aI i1,aI i2],h0))(k3:ixA (aM xs) (.ofNat i) 9=some (nC i11 i12 i13 i14 i15 l4 l5 l1 b1))(k4:cA m 8 [vM l1] h0=some (LV.tup [aI i3,aI i0],h1))(k5:ixA (aM xs) (.ofNat i) 9=some (nC i4 i16 i17 i18 i19 l6 l7 l8 b2))(k6:leZ (.ofNat 2) i4=true)(k7:ixA (aM xs) (.ofNat i) 9=some (nC i5 i20 i21 i22 i23 l9 l10 l11 b3))(k8:leZ i5 (.ofNat 4)=true)(k9:ltZ d (IntKind.wrap .i64 (i2+Int.ofNat 1))=false)(k10:ltZ d (IntKind.wrap .i64 (i0+Int.ofNat 1))=true)(k11:bA m 8 4 [vM xs,vI (IntKind.wrap .i64 (IntKind.wrap .i64 (IntKind.wrap .i64 (c+Int.ofNat 1)+i1)+i3)),vI (IntKind.wrap .i64 (i0+Int.ofNat 1)),vI (IntKind.wrap .i64 (.ofNat (Nat.succ i)))] h1=some r):
 bA m 8 4 [vM xs,vI c,vI d,vI i] h=some r:=
 bY (qS [14,47,54,64] [58] [(6,2,(LV.v (AV.snap (nC i6 i7 i8 i9 i10 l2 l0 l3 b0)))),(7,2,(LV.v (AV.snap (nC i11 i12 i13 i14 i15 l4 l5 l1 b1)))),(9,2,(LV.v (AV.snap (nC i4 i16 i17 i18 i19 l6 l7 l8 b2)))),(9,9,(LV.v (AV.snap (nC i5 i20 i21 i22 i23 l9 l10 l11 b3))))] [(6,5,LV.tup [aI i1,aI i2],h0),(7,5,LV.tup [aI i3,aI i0],h1)]) (tZ k0 (tA (tA t0 (tA tN (k1))) (tA k2 (tA (tA t0 (tA tN (k3))) (tA k4 (tA (tA t0 (tA tN (k5))) (tZ k6 (uT2 (tA (tA t0 (tA tN (k7))) (uT4 (tZ k8 (tZ k9 (tZ k10 (tA t1 (k11))))))))))))))) (by kernel_rfl)
theorem QtF (k0:ltZ (.ofNat i) (.ofNat xs.length)=true)(k1:ixA (aM xs) (.ofNat i) 9=some (nC i6 i7 i8 i9 i10 l2 l0 l3 b0))(k2:cA m 8 [vM l0] h=some (LV.tup [aI i0,aI i1],h0))(k3:ixA (aM xs) (.ofNat i) 9=some (nC i11 i12 i13 i14 i15 l4 l5 l1 b1))(k4:cA m 8 [vM l1] h0=some (LV.tup [aI i2,aI i3],h1))(k5:ixA (aM xs) (.ofNat i) 9=some (nC i4 i16 i17 i18 i19 l6 l7 l8 b2))(k6:leZ (.ofNat 2) i4=true)(k7:ixA (aM xs) (.ofNat i) 9=some (nC i5 i20 i21 i22 i23 l9 l10 l11 b3))(k8:leZ i5 (.ofNat 4)=true)(k9:ltZ d (IntKind.wrap .i64 (i1+Int.ofNat 1))=false)(k10:ltZ d (IntKind.wrap .i64 (i3+Int.ofNat 1))=false)(k11:bA m 8 4 [vM xs,vI (IntKind.wrap .i64 (IntKind.wrap .i64 (IntKind.wrap .i64 (c+Int.ofNat 1)+i0)+i2)),vI d,vI (IntKind.wrap .i64 (.ofNat (Nat.succ i)))] h1=some r):
 bA m 8 4 [vM xs,vI c,vI d,vI i] h=some r:=
 bY (qS [14,47,54] [58,64] [(6,2,(LV.v (AV.snap (nC i6 i7 i8 i9 i10 l2 l0 l3 b0)))),(7,2,(LV.v (AV.snap (nC i11 i12 i13 i14 i15 l4 l5 l1 b1)))),(9,2,(LV.v (AV.snap (nC i4 i16 i17 i18 i19 l6 l7 l8 b2)))),(9,9,(LV.v (AV.snap (nC i5 i20 i21 i22 i23 l9 l10 l11 b3))))] [(6,5,LV.tup [aI i0,aI i1],h0),(7,5,LV.tup [aI i2,aI i3],h1)]) (tZ k0 (tA (tA t0 (tA tN (k1))) (tA k2 (tA (tA t0 (tA tN (k3))) (tA k4 (tA (tA t0 (tA tN (k5))) (tZ k6 (uT2 (tA (tA t0 (tA tN (k7))) (uT4 (tZ k8 (tZ k9 (tZ k10 (tA t1 (k11))))))))))))))) (by kernel_rfl)
theorem QtE (k0:ltZ (.ofNat i) (.ofNat xs.length)=true)(k1:ixA (aM xs) (.ofNat i) 9=some (nC i4 i5 i6 i7 i8 l2 l0 l3 b0))(k2:cA m 8 [vM l0] h=some (LV.tup [aI i0,aI i9],h0))(k3:ixA (aM xs) (.ofNat i) 9=some (nC i10 i11 i12 i13 i14 l4 l5 l1 b1))(k4:cA m 8 [vM l1] h0=some (LV.tup [aI i1,aI i15],h1))(k5:ixA (aM xs) (.ofNat i) 9=some (nC i2 i16 i17 i18 i19 l6 l7 l8 b2))(k6:leZ (.ofNat 2) i2=true)(k7:ixA (aM xs) (.ofNat i) 9=some (nC i3 i20 i21 i22 i23 l9 l10 l11 b3))(k8:leZ i3 (.ofNat 4)=false)(k9:bA m 8 4 [vM xs,vI (IntKind.wrap .i64 (IntKind.wrap .i64 (IntKind.wrap .i64 (c+Int.ofNat 1)+i0)+i1)),vI d,vI (IntKind.wrap .i64 (.ofNat (Nat.succ i)))] h1=some r):
 bA m 8 4 [vM xs,vI c,vI d,vI i] h=some r:=
 bY (qS [14,47] [54] [(6,2,(LV.v (AV.snap (nC i4 i5 i6 i7 i8 l2 l0 l3 b0)))),(7,2,(LV.v (AV.snap (nC i10 i11 i12 i13 i14 l4 l5 l1 b1)))),(9,2,(LV.v (AV.snap (nC i2 i16 i17 i18 i19 l6 l7 l8 b2)))),(9,9,(LV.v (AV.snap (nC i3 i20 i21 i22 i23 l9 l10 l11 b3))))] [(6,5,LV.tup [aI i0,aI i9],h0),(7,5,LV.tup [aI i1,aI i15],h1)]) (tZ k0 (tA (tA t0 (tA tN (k1))) (tA k2 (tA (tA t0 (tA tN (k3))) (tA k4 (tA (tA t0 (tA tN (k5))) (tZ k6 (uT2 (tA (tA t0 (tA tN (k7))) (uT4 (tZ k8 (tA t1 (k9))))))))))))) (by kernel_rfl)
theorem QtD (k0:ltZ (.ofNat i) (.ofNat xs.length)=true)(k1:ixA (aM xs) (.ofNat i) 9=some (nC i3 i4 i5 i6 i7 l2 l0 l3 b0))(k2:cA m 8 [vM l0] h=some (LV.tup [aI i0,aI i8],h0))(k3:ixA (aM xs) (.ofNat i) 9=some (nC i9 i10 i11 i12 i13 l4 l5 l1 b1))(k4:cA m 8 [vM l1] h0=some (LV.tup [aI i1,aI i14],h1))(k5:ixA (aM xs) (.ofNat i) 9=some (nC i2 i15 i16 i17 i18 l6 l7 l8 b2))(k6:leZ (.ofNat 2) i2=false)(k7:bA m 8 4 [vM xs,vI (IntKind.wrap .i64 (IntKind.wrap .i64 (IntKind.wrap .i64 (c+Int.ofNat 1)+i0)+i1)),vI d,vI (IntKind.wrap .i64 (.ofNat (Nat.succ i)))] h1=some r):
 bA m 8 4 [vM xs,vI c,vI d,vI i] h=some r:=
 bY (qS [14] [47] [(6,2,(LV.v (AV.snap (nC i3 i4 i5 i6 i7 l2 l0 l3 b0)))),(7,2,(LV.v (AV.snap (nC i9 i10 i11 i12 i13 l4 l5 l1 b1)))),(9,2,(LV.v (AV.snap (nC i2 i15 i16 i17 i18 l6 l7 l8 b2))))] [(6,5,LV.tup [aI i0,aI i8],h0),(7,5,LV.tup [aI i1,aI i14],h1)]) (tZ k0 (tA (tA t0 (tA tN (k1))) (tA k2 (tA (tA t0 (tA tN (k3))) (tA k4 (tA (tA t0 (tA tN (k5))) (tZ k6 (uF6 (tA t1 (k7)))))))))) (by kernel_rfl)
theorem QtC (k0:ltZ (.ofNat i) (.ofNat xs.length)=false):
 bA m 8 4 [vM xs,vI c,vI d,vI i] h=some ((LV.tup [aI c,aI d],h)):=
 bY (qS [] [14] [] []) (tZ k0 (tR ((LV.tup [aI c,aI d],h)))) (by kernel_rfl)
end Go.Proofs.YtoblgjmllmomhaaGreatDoor
namespace Go.Proofs.YtoblgjmllmomhaaGreatDoor
set_option maxRecDepth 100000
open Go Go.Proofs.Am
variable {m c:Int} {xs ys out l0:LL} {h h0:Heap} {r:LV×Heap}
theorem Qx5 (k0:bA m 39 3 [vM [[aM xs],[aM ys]],vI (.ofNat 0),vM [[aM xs],[aM ys]],vI (.ofNat 2),vI (.ofNat 0)] h=some r):
 bB m 39 [vM [[aM xs],[aM ys]]] h=some r:=
 bY (qS [] [] [] []) (tA t1 (k0)) (by kernel_rfl)
theorem Qjz (k0:ltZ (IntKind.wrap .i64 (c+Int.ofNat xs.length)) (.ofNat 0)=false)(k1:bA m 39 3 [vM [[aM xs],[aM ys]],vI (IntKind.wrap .i64 (c+Int.ofNat xs.length)),vM [[aM xs],[aM ys]],vI (.ofNat 2),vI (.ofNat 1)] h=some r):
 bA m 39 3 [vM [[aM xs],[aM ys]],vI c,vM [[aM xs],[aM ys]],vI (.ofNat 2),vI (.ofNat 0)] h=some r:=
 bY (qS [] [20] [] []) (tZ k0 (tA t1 (k1))) (by kernel_rfl)
theorem Qjy (k0:ltZ (IntKind.wrap .i64 (c+Int.ofNat ys.length)) (.ofNat 0)=false)(k1:bA m 39 3 [vM [[aM xs],[aM ys]],vI (IntKind.wrap .i64 (c+Int.ofNat ys.length)),vM [[aM xs],[aM ys]],vI (.ofNat 2),vI (.ofNat 2)] h=some r):
 bA m 39 3 [vM [[aM xs],[aM ys]],vI c,vM [[aM xs],[aM ys]],vI (.ofNat 2),vI (.ofNat 1)] h=some r:=
 bY (qS [] [20] [] []) (tZ k0 (tA t1 (k1))) (by kernel_rfl)
theorem Qjx (k0:cA m 78 [LV.v AV.nilS,vI c] h=some (LV.ow 1 l0,h0))(k1:bA m 39 11 [LV.ow 1 l0,vM [[aM xs],[aM ys]],vI (.ofNat 2),vI (.ofNat 0)] h0=some r):
 bA m 39 3 [vM [[aM xs],[aM ys]],vI c,vM [[aM xs],[aM ys]],vI (.ofNat 2),vI (.ofNat 2)] h=some r:=
 bY (qS [] [] [] [(9,1,LV.ow 1 l0,h0)]) (tA k0 (tA t1 (k1))) (by kernel_rfl)
theorem QiO (k0:apL (LV.ow 1 out) 1 8 xs=some (LV.ow 1 l0))(k1:bA m 39 11 [LV.ow 1 l0,vM [[aM xs],[aM ys]],vI (.ofNat 2),vI (.ofNat 1)] h=some r):
 bA m 39 11 [.ow 1 out,vM [[aM xs],[aM ys]],vI (.ofNat 2),vI (.ofNat 0)] h=some r:=
 bY (qS [] [] [(13,2,(LV.ow 1 l0))] []) (u02 (tA t1 (tA k0 (tA t1 (k1))))) (by kernel_rfl)
theorem QiN (k0:apL (LV.ow 1 out) 1 8 ys=some (LV.ow 1 l0))(k1:bA m 39 11 [LV.ow 1 l0,vM [[aM xs],[aM ys]],vI (.ofNat 2),vI (.ofNat 2)] h=some r):
 bA m 39 11 [.ow 1 out,vM [[aM xs],[aM ys]],vI (.ofNat 2),vI (.ofNat 1)] h=some r:=
 bY (qS [] [] [(13,2,(LV.ow 1 l0))] []) (u02 (tA t1 (tA k0 (tA t1 (k1))))) (by kernel_rfl)
theorem QiM:
 bA m 39 11 [.ow 1 out,vM [[aM xs],[aM ys]],vI (.ofNat 2),vI (.ofNat 2)] h=some ((vM out,h)):=
 bY (qS [] [] [] []) (tR ((vM out,h))) (by kernel_rfl)
end Go.Proofs.YtoblgjmllmomhaaGreatDoor
namespace Go.Proofs.YtoblgjmllmomhaaGreatDoor
set_option maxRecDepth 100000
open Go Go.Proofs.Am
variable {m:Int} {h h0 h1:Heap} {v0 v1:AV} {b0 b1:Bool}
theorem QAl (k0:cA m 15 [vG [aM [],aM [],aM [],aM [],aM [],aM [],aM [],aI (Int.negSucc 0),aM [],aM [],aM []]] h=some (LV.v v1,h1))(k1:cA m 15 [vG [aM [],aM [],aM [],aM [],aM [],aM [],aM [],aI (.ofNat 0),aM [],aM [],aM []]] h1=some (LV.v v0,h0))(k2:qE m v1 b1)(k3:b1=true)(k4:QcF (Cx.P (cxZ m)) BinOp.eql 33 false v0 (AV.ifc 56 (aI (.ofNat 5)))=some (aB b0)):
 bB m 13 [] h=some ((vB b0,h0)):=
 bY (qS [9] [] [(3,1,(vB b1)),(3,5,(vB b0))] [(1,1,LV.v v1,h1),(2,1,LV.v v0,h0)]) (tA k0 (tA k1 (tA k2 (tZ k3 (uT2 (tA k4 (tA tT (tR ((vB b0,h0)))))))))) (by kernel_rfl)
end Go.Proofs.YtoblgjmllmomhaaGreatDoor
