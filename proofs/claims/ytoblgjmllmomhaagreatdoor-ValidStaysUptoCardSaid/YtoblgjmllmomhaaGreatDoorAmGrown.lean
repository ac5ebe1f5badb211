/-
  Steps of the world at blocks that hold no cells: what the machine's values mean stays.
-/
import Derived.Test.YtoblgjmllmomhaaGreatDoorAmExtH
import Derived.RangeFuncWrites
namespace Go.Proofs.Am
open Go
structure Lw (w:World) (g:Gh) (w':World) (g':Gh):Prop where
 cell:∀b j v,j<g.sl b→Cl w b j=some v→j<g'.sl b∧Cl w' b j=some v
 nb:g.nb≤g'.nb
 bm:∀id,id<g.nb→g'.bm id=g.bm id
 sz:∀b n,bsz w b=some n→bsz w' b=some n
variable {w w':World} {g g':Gh}
theorem Rep.monoW (h:Lw w g w' g'){a:AV}{v:Value}(r:Rep w g a v):Rep w' g' a v:=by
 induction r with
 |int=>exact .int ..
 |bool=>exact .bool ..
 |str=>exact .str ..
 |nilI=>exact .nilI
 |nilP=>exact .nilP
 |nilF=>exact .nilF
 |nilM=>exact .nilM
 |nilS=>exact .nilS
 |nilE=>exact .nilE _
 |ifc t a v _ ih=>exact .ifc _ _ _ ih
 |ptr id off hi=>
  have:=Rep.ptr (w:=w') (g:=g') id off (Nat.lt_of_lt_of_le hi h.nb)
  rwa[h.bm id hi]at this
 |snap cs b o f hc _ ih=>
  refine .snap cs b o f (fun j c hj=>?_) ih
  obtain⟨h1,h2,h3⟩:=hc j c hj
  obtain⟨k1,k2⟩:=h.cell b _ _ h1 h2
  exact⟨k1,k2,h3⟩
 |imm0=>exact .imm0 ..
 |imm xs n b o cap f hl hn hc _ ih=>
  refine .imm xs n b o cap f hl hn (fun k x j c hk hj=>?_) ih
  obtain⟨h1,h2,h3⟩:=hc k x j c hk hj
  obtain⟨k1,k2⟩:=h.cell b _ _ h1 h2
  exact⟨k1,k2,h3⟩
 |arr n id off len cap hi hl hs=>
  have:=Rep.arr (w:=w') (g:=g') n id off len cap (Nat.lt_of_lt_of_le hi h.nb) hl (by rw[h.bm id hi];exact h.sz _ _ hs)
  rwa[h.bm id hi]at this
 |agg cs vs hl f hc _ ih=>exact .agg cs vs hl f hc ih
 |fn f fs caps vs us h1 h2 p q c1 _ c2 _ i1 i2=>exact .fn f fs caps vs us h1 h2 p q c1 i1 c2 i2
theorem Own.monoW (h:Lw w g w' g'){hd:Hd}(hb:∀b c e f,g.own b=hd→w.heap[b]? =some (.cells c e f)→w'.heap[b]? =w.heap[b]?∧g'.own b=hd∧g'.sl b=g.sl b){n:Nat}{xs:List (List AV)}{v:Value}(r:Own w g hd n xs v):Own w' g' hd n xs v:=by
 cases r with
 |emp a=>exact .emp a
 |blk _ b cap c e fz f hl hn hx hbk hf hz ho hs hc hr=>
  obtain⟨h1,h2,h3⟩:=hb b c e fz ho hbk
  exact .blk xs b cap c e fz f hl hn hx (h1.trans hbk) hf hz h2 (by omega) hc (fun k x j a hk hj=>(hr k x j a hk hj).monoW h)
def Qip (g:Gh):Option Nat→Gh
 |none=>g
 |some r=>{g with sl:=upd g.sl r 0}
theorem Qch (g:Gh)(row:Option Nat):(Qip g row).own=g.own:=by cases row<;>rfl
theorem Qho (g:Gh)(row:Option Nat):(Qip g row).nb=g.nb:=by cases row<;>rfl
theorem Qhp (g:Gh)(row:Option Nat):(Qip g row).bm=g.bm:=by cases row<;>rfl
theorem Qeg (g:Gh){row:Option Nat}{b:Nat}(h:row≠some b):(Qip g row).sl b=g.sl b:=by
 cases row with
 |none=>rfl
 |some r=>simp only[Qip];rw[Qao _ _ (by rintro rfl;exact h rfl)]
theorem QkY (g:Gh)(row:Option Nat)(b:Nat):(Qip g row).sl b≤g.sl b:=by
 by_cases h:row=some b
 ·subst h;simp only[Qip,Qai];omega
 ·rw[Qeg g h];exact Nat.le_refl _
variable {w0:World} {g0:Gh} {row:Option Nat}
theorem Qd3 {o:Obj}{b:Nat}(h:w.heap[b]? =some o)(ho:o.isCells=false):(∀j,Cl w b j=none)∧bsz w b=none:=by
 cases o<;>first|(cases ho;done)|exact⟨fun j=>by simp[Cl,World.cell?,h],by simp[bsz,h]⟩
theorem Qn2 (hg:w.grownBy w' row)(hr:∀r,row=some r→∃o:Obj,w.heap[r]? =some o∧o.isCells=false):Lw w g w' (Qip g row):=by
 have hne:∀b j v,Cl w b j=some v→row≠some b:=by
  rintro b j v hv rfl
  obtain⟨o,ho,hc⟩:=hr b rfl
  rw[(Qd3 ho hc).1 j]at hv;cases hv
 refine⟨fun b j v hj hv=>?_,by rw[Qho];exact Nat.le_refl _,fun id _=>by rw[Qhp],fun b n hb=>?_⟩
 ·have h:=hne b j v hv
  exact⟨by rw[Qeg g h];exact hj,(Qau (hg.block b (Qjo hv) (Ne.symm h))).trans hv⟩
 ·rw[Qak (hg.block b (Qc9 hb) ?_)];exact hb
  rintro e
  obtain⟨o,ho,hc⟩:=hr b e.symm
  rw[(Qd3 ho hc).2]at hb;cases hb
theorem Qdk (wf0:Wf w0 g0)(wf:Wf w g)(t:Tr w0 g0 w g){hp:Heap}(hh:HeapOk w g hp)(hg:w.grownBy w' row)(hr:∀r,row=some r→w0.heap.size≤r∧∃o:Obj,w.heap[r]? =some o∧o.isCells=false):
 Wf w' (Qip g row)∧Tr w0 g0 w' (Qip g row)∧HeapOk w' (Qip g row) hp∧Lw w g w' (Qip g row):=by
 have L:=Qn2 (g:=g) hg (fun r e=>(hr r e).2)
 have hcell:∀b c e f,w.heap[b]? =some (.cells c e f)→row≠some b:=by
  rintro b c e f hb rfl
  obtain⟨_,o,ho,hc⟩:=hr b rfl
  rw[hb]at ho;cases ho;cases hc
 have K:∀hd b c e f,g.own b=hd→w.heap[b]? =some (.cells c e f)→w'.heap[b]? =w.heap[b]?∧(Qip g row).own b=hd∧(Qip g row).sl b=g.sl b:=fun hd b c e f ho hb=>
  ⟨hg.block b (QaP hb) (Ne.symm (hcell b c e f hb)),by rw[Qch];exact ho,Qeg g (hcell b c e f hb)⟩
 have hlt0:∀b,b<w0.heap.size→row≠some b:=by
  rintro b hb rfl
  have:=(hr b rfl).1;omega
 refine⟨⟨fun b hb=>by rw[Qch];exact wf.own b (Nat.le_trans hg.size hb),fun b hb=>?_,fun b hb=>?_⟩,⟨⟨fun b=>?_,fun b j hj=>?_,by rw[Qho];exact t.le.nb,fun id hi=>by rw[Qhp];exact t.le.bm id hi,fun b n hb=>L.sz b n (t.le.sz b n hb)⟩,
  Nat.le_trans t.size hg.size,fun b hb ho=>?_,hg.os.trans t.os,hg.tape.trans t.tape,hg.output.trans t.output⟩,⟨by rw[Qho];exact hh.1,fun id bx hid hne=>?_⟩,L⟩
 ·have:=QkY g row b
  have:=wf.sl b (Nat.le_trans hg.size hb)
  omega
 ·rw[Qch]at hb
  obtain⟨n,h1,h2⟩:=wf.fit b hb
  exact⟨n,L.sz b n h1,Nat.le_trans (QkY g row b) h2⟩
 ·rcases Nat.lt_or_ge b w0.heap.size with h|h
  ·rw[Qeg g (hlt0 b h)];exact t.le.sl b
  ·rw[wf0.sl b h];exact Nat.zero_le _
 ·have hb:b<w0.heap.size:=by
   rcases Nat.lt_or_ge b w0.heap.size with h|h
   ·exact h
   ·rw[wf0.sl b h]at hj;omega
  rw[Qau (hg.block b (Nat.lt_of_lt_of_le hb t.size) (Ne.symm (hlt0 b hb)))]
  exact t.le.cell b j hj
 ·obtain⟨k1,k2,k3⟩:=t.oth b hb ho
  exact⟨(hg.block b (Nat.lt_of_lt_of_le hb t.size) (Ne.symm (hlt0 b hb))).trans k1,by rw[Qch];exact k2,(Qeg g (hlt0 b hb)).trans k3⟩
 ·obtain⟨h2,h3,c,e,h4,h5,h6⟩:=hh.2 id bx hid hne
  obtain⟨a1,a2,a3⟩:=K _ _ _ _ _ h2 h4
  rw[Qhp]
  refine⟨a2,a3.trans h3,c,e,a1.trans h4,h5,fun j x hj=>?_⟩
  obtain⟨u,hu,hr'⟩:=h6 j x hj
  refine⟨u,hu,?_⟩
  cases x<;>simp only[RepC]at hr'⊢
  ·exact⟨hr'.1.monoW L,hr'.2⟩
  ·exact⟨hr'.1,hr'.2.monoW L (K _)⟩
theorem Tr.others {w1:World}{g1:Gh}(wf:Wf w g)(t:Tr w g w1 g1){k:Nat}{o:Obj}(hk:w.heap[k]? =some o)(ho:o.isCells=false):w1.heap[k]? =some o:=by
 have hoth:g.own k=.oth:=by
  cases h:g.own k with
  |oth=>rfl
  |_=>
   obtain⟨n,hn,_⟩:=wf.fit k (by rw[h];simp)
   rw[(Qd3 hk ho).2]at hn;cases hn
 exact((t.oth k (QaP hk) hoth).1).trans hk
theorem Qlf {cx cx':Cx}(hC:CxOk cx)(hP:cx'.P=cx.P)(hg:cx'.glob=cx.glob){f:FuncId}{fn:Func}{c:Code}(hf:cx.P.funcs[f]? =some fn)(hb:fn.body=some c)(hcut:cutAt cx f [.code c]=none)
 {e:List LV→Heap→Option (LV×Heap)}(he:∀(xs:List LV) (h:Heap) (y:LV×Heap),e xs h=some y→blk cx f [.code c] xs h=some y)(hraw:∀(i:Nat) (v:Value),cx.raw i=some v→cx'.raw i=some v:=by intro _ _ h;first|exact h|cases h):Qce cx' f e:=by
 intro xs hp x h' hx w g vs wf hh hG hl hr
 have s0:SR fn.ntmps (QgV xs hp) {tmps:=vs++Array.replicate (fn.ntmps-vs.size) undef,defers:=[]} w g (fun _=>0):=
  SR.enter wf hh hl (fun j y hj=>by
   obtain⟨p,u,rfl,hu,hrp⟩:=hr j y hj
   exact⟨u,hu,hrp⟩)
 rw[hP]
 exact Qa4 (QiD hC) hf hb hcut (he xs hp (x,h') hx) s0 ⟨fun i cs hi=>hG.1 i cs (by rw[hg];exact hi),fun i v hi=>hG.2 i v (hraw i v hi)⟩
theorem QsB {cx cx':Cx}(hC:CxOk cx)(hP:cx'.P=cx.P)(hg:cx'.glob=cx.glob){f:FuncId}{fn:Func}{c:Code}(hf:cx.P.funcs[f]? =some fn)(hb:fn.body=some c)(hcut:cutAt cx f [.code c]=none)
 {e:List LV→Heap→Option LV}(he:∀(xs:List LV) (h:Heap) (y:LV),e xs h=some y→blk cx f [.code c] xs h=some (y,h))(hraw:∀(i:Nat) (v:Value),cx.raw i=some v→cx'.raw i=some v:=by intro _ _ h;first|exact h|cases h):ExrOk cx' f e:=by
 intro xs hp x hx
 exact Qlf hC hP hg hf hb hcut (e:=fun xs h=>(e xs h).bind fun r=>some (r,h)) (fun xs h y hy=>by
  simp only[Option.bind_eq_some_iff,Option.some.injEq]at hy
  obtain⟨r,hr,rfl⟩:=hy
  exact he xs h r hr) hraw xs hp x hp (by simp[hx])
end Go.Proofs.Am
