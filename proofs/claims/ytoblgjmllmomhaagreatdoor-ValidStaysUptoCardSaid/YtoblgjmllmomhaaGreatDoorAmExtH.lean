/-
  A contract that sees no heap, as one that leaves it as it is.
-/
import Derived.Test.YtoblgjmllmomhaaGreatDoorAmExt
import Derived.Test.YtoblgjmllmomhaaGreatDoorAmFast
namespace Go.Proofs.Am
open Go
variable {cx cx':Cx}
def QxI (g:Gh):Gh:={sl:=g.sl,own:=fun _=>.oth,nb:=0,bm:=g.bm}
def QeZ (h h':Hd):Hd:=
 match h' with
 |.res c=>.res c
 |_=>h
def QbB (g g':Gh):Gh:={sl:=g'.sl,own:=fun b=>QeZ (g.own b) (g'.own b),nb:=g.nb,bm:=g.bm}
theorem Qh0:∀(l:List LV),Qbw l=true→∀(j:Nat) (y:LV),l[j]? =some y→y.np=true
 |[],_,j,y,hj=>by simp at hj
 |z::l,hn,0,y,hj=>by
  simp only[Qbw,Bool.and_eq_true]at hn
  simp at hj;subst hj;exact hn.1
 |z::l,hn,j+1,y,hj=>by
  simp only[Qbw,Bool.and_eq_true]at hn
  simp at hj;exact Qh0 l hn.2 j y hj
theorem Qhu (hC:CxOk cx)(hP:cx'.P=cx.P)(hg:cx'.glob=cx.glob){f:FuncId}{fn:Func}{c:Code}(hf:cx.P.funcs[f]? =some fn)(hb:fn.body=some c)(hcut:cutAt cx f [.code c]=none)
 {e:List LV→Option LV}(he:∀(xs:List LV) (x:LV),e xs=some x→Qbw xs=true∧x.np=true∧∃h',blk cx f [.code c] xs Heap.nil=some (x,h'))(hraw:∀(i:Nat) (v:Value),cx.raw i=some v→cx'.raw i=some v:=by intro _ _ h;first|exact h|cases h):ExtOk cx' f e:=by
 intro xs x hx w g vs wf hG hl hr
 obtain⟨hn1,hn2,h',ho⟩:=he xs x hx
 have wf0:Wf w (QxI g):=⟨fun _ _=>rfl,wf.sl,fun b hb=>absurd rfl hb⟩
 have s0:SR fn.ntmps (QgV xs Heap.nil) {tmps:=vs++Array.replicate (fn.ntmps-vs.size) undef,defers:=[]} w (QxI g) (fun _=>0):=
  SR.enter wf0 ⟨rfl,fun id bx hid=>by simp[Heap.nil]at hid⟩ hl (fun j y hj=>by
   obtain⟨p,u,rfl,hu,hrp⟩:=hr j y hj
   exact⟨u,hu,Rep.np (g:=g) (g':=QxI g) (fun _=>Nat.le_refl _) (fun _ _ _=>rfl) hrp (Qh0 xs hn1 j _ hj)⟩)
 rw[hP]
 refine(Qa4 (QiD hC) hf hb hcut ho s0 ⟨fun i cs hi=>Rep.np (g:=g) (g':=QxI g) (fun _=>Nat.le_refl _) (fun _ _ _=>rfl) (hG.1 i cs (by rw[hg];exact hi)) (hC.globs i cs hi),fun i v hi=>hG.2 i v (hraw i v hi)⟩).mono ?_
 rintro e' w' ⟨v,rfl,g',wf',t,hh,hrep⟩
 have ho:∀b,b<w.heap.size→w'.heap[b]? =w.heap[b]?∧g'.own b=.oth∧g'.sl b=g.sl b:=fun b hb=>t.oth b hb rfl
 have L:Le w g w' (QbB g g'):=⟨t.le.sl,t.le.cell,Nat.le_refl _,fun _ _=>rfl,t.le.sz⟩
 refine⟨v,QbB g g',rfl,⟨fun b hb=>?_,fun b hb=>wf'.sl b hb,fun b hb=>?_⟩,rfl,⟨L,t.size,fun b hb hgb=>?_,t.os,t.tape,t.output⟩,fun hd h1 h2=>⟨L,fun b hb hgb=>?_⟩,?_⟩
 ·simp only[QbB,wf'.own b hb,wf.own b (Nat.le_trans t.size hb),QeZ]
 ·by_cases h1:∃c,g'.own b=.res c
  ·obtain⟨c,h1⟩:=h1
   exact wf'.fit b (by rw[h1];simp)
  ·have h2:QeZ (g.own b) (g'.own b)=g.own b:=by
    cases hgb:g'.own b<;>first|rfl|(exact absurd ⟨_,hgb⟩ h1)
   have h3:g.own b≠.oth:=by
    simp only[QbB,h2]at hb;exact hb
   have hlt:b<w.heap.size:=by
    rcases Nat.lt_or_ge b w.heap.size with h|h
    ·exact h
    ·exact absurd (wf.own b h) h3
   obtain⟨k1,_,k3⟩:=ho b hlt
   obtain⟨n,n1,n2⟩:=wf.fit b h3
   exact⟨n,by rw[Qak k1];exact n1,by show g'.sl b≤n;rw[k3];exact n2⟩
 ·obtain⟨k1,k2,k3⟩:=ho b hb
  exact⟨k1,by simp only[QbB,hgb,k2,QeZ],k3⟩
 ·obtain⟨k1,k2,k3⟩:=ho b hb
  exact⟨k1,by simp only[QbB,hgb,k2,QeZ],k3⟩
 ·have sl:∀b,g'.sl b≤(QbB g g').sl b:=fun b=>Nat.le_refl _
  cases x with
  |v p=>exact Rep.np (g:=g') sl (fun _ _ _=>rfl) hrep hn2
  |ow n xs=>exact⟨by simp,Own.np (g:=g') sl (fun _ _ _=>rfl) (fun b hb hg=>⟨rfl,by simp only[QbB,hg,QeZ],rfl⟩) hrep.2 hn2⟩
  |tup xs=>
   obtain⟨vs,e,hz,hc⟩:=hrep
   refine⟨vs,e,hz,fun j c hj=>?_⟩
   obtain⟨u,hu,hr⟩:=hc j c hj
   exact⟨u,hu,Rep.np (g:=g') sl (fun _ _ _=>rfl) hr (Qcw hn2 j c hj)⟩
  |_=>simp[LV.np]at hn2
theorem Qji {n:Nat}{f:FuncId}{todo:List Item}{xs:List LV}{h:Heap}{x:LV}(hr:(Qtv cx n f todo xs h).map Prod.fst=some x):∃h',blk cx f todo xs h=some (x,h'):=by
 rw[QlP]at hr
 cases e:Qjr cx n f todo xs h with
 |none=>rw[e]at hr;cases hr
 |some y=>
  rw[e]at hr
  simp only[Option.map_some,Option.some.injEq]at hr
  subst hr
  exact⟨y.2,QfK.2 ⟨n,e⟩⟩
end Go.Proofs.Am
namespace Go.Proofs.Am
open Go
theorem ExtOk.exh {cx:Cx}{f:FuncId}{e:List LV→Option LV}(h:ExtOk cx f e):Qce cx f fun xs h=>(e xs).bind fun r=>some (r,h):=by
 intro xs hp x h' hx w g vs wf hh hG hl hr
 simp only[Option.bind_eq_some_iff,Option.some.injEq,Prod.mk.injEq]at hx
 obtain⟨r,he,rfl,rfl⟩:=hx
 refine(h xs r he w g vs wf hG hl hr).mono ?_
 rintro e' w' ⟨v,g',rfl,wf',hn,t,k,rv⟩
 exact⟨v,rfl,g',wf',t,hh.keep hn (fun i=>k _ (by intro e;cases e) (by intro c e;cases e)) (fun i c=>k _ (by intro e;cases e) (by intro c e;cases e)),rv⟩
end Go.Proofs.Am
