/-
  What the abstract machine's values and states mean in a world.
-/
import Derived.Test.YtoblgjmllmomhaaGreatDoorAmCore
import Derived.Below
import Derived.Wp
namespace Go.Proofs.Am
open Go
inductive Hd where
 |oth
 |res (c:Nat)
 |arg (k:Nat)
 |tmp (j c:Nat)
 |box (i:Nat)
 |cell (i c:Nat)
 |hbox (id:Nat)
 |hcell (id c:Nat)
 deriving DecidableEq
structure Gh where
 sl:Nat→Nat
 own:Nat→Hd
 nb:Nat
 bm:Nat→Nat
def AV.one:AV→Bool
 |.agg _=>false
 |_=>true
def bsz (w:World)(b:Nat):Option Nat:=
 match w.heap[b]? with
 |some (.cells c _ _)=>some c.size
 |_=>none
abbrev Cl (w:World)(b j:Nat):Option Value:=w.cell? ⟨b,j,none⟩
inductive Rep (w:World) (g:Gh):AV→Value→Prop where
 |int (k n):Rep w g (.int k n) (.int k n)
 |bool (b):Rep w g (.bool b) (.bool b)
 |str (s):Rep w g (.str s) (.string s)
 |nilI:Rep w g .nilI .nilIface
 |nilP:Rep w g .nilP (.pointer none)
 |nilF:Rep w g .nilF .nilFunc
 |nilM:Rep w g .nilM (.map none)
 |nilS:Rep w g .nilS (.slice none 0 0)
 |nilE (a:Option Addr):Rep w g .nilE (.slice a 0 0)
 |ifc (t:TypeId) (a:AV) (v:Value) (h:Rep w g a v):Rep w g (.ifc t a) (.iface t v)
 |ptr (id off:Nat) (h:id<g.nb):Rep w g (.ptr id off) (.pointer (some ⟨g.bm id,off,none⟩))
 |snap (cs:List AV) (b o:Nat) (f:Nat→Value) (hc:∀j c,cs[j]? =some c→o+j<g.sl b∧Cl w b (o+j)=some (f j)∧c.one=true)
  (hr:∀j c,cs[j]? =some c→Rep w g c (f j)):Rep w g (.snap cs) (.pointer (some ⟨b,o,none⟩))
 |imm0 (a:Option Addr) (cap:Nat):Rep w g (.imm []) (.slice a 0 cap)
 |imm (xs:List (List AV)) (n b o cap:Nat) (f:Nat→Nat→Value) (hl:xs.length≤cap) (hn:∀(k:Nat) (x:List AV),xs[k]? =some x→x.length=n)
  (hc:∀(k:Nat) (x:List AV) (j:Nat) (c:AV),xs[k]? =some x→x[j]? =some c→o+k*n+j<g.sl b∧Cl w b (o+k*n+j)=some (f k j)∧c.one=true)
  (hr:∀(k:Nat) (x:List AV) (j:Nat) (c:AV),xs[k]? =some x→x[j]? =some c→Rep w g c (f k j)):Rep w g (.imm xs) (.slice (some ⟨b,o,none⟩) xs.length cap)
 |arr (n id off len cap:Nat) (h:id<g.nb) (hl:len≤cap) (hs:bsz w (g.bm id)=some (off+cap*n)):Rep w g (.arr n id off len) (.slice (some ⟨g.bm id,off,none⟩) len cap)
 |agg (cs:List AV) (vs:Array Value) (hl:vs.size=cs.length) (f:Nat→Value) (hc:∀j c,cs[j]? =some c→vs[j]? =some (f j)∧c.one=true)
  (hr:∀j c,cs[j]? =some c→Rep w g c (f j)):Rep w g (.agg cs) (.agg vs)
 |fn (f:FuncId) (fs caps:List AV) (vs us:Array Value) (h1:vs.size=fs.length) (h2:us.size=caps.length) (p q:Nat→Value)
  (hc1:∀j c,fs[j]? =some c→vs[j]? =some (p j)) (hr1:∀j c,fs[j]? =some c→Rep w g c (p j))
  (hc2:∀j c,caps[j]? =some c→us[j]? =some (q j)) (hr2:∀j c,caps[j]? =some c→Rep w g c (q j)):
  Rep w g (.fn f fs caps) (.func (.func f) vs us)
structure Le (w:World) (g:Gh) (w':World) (g':Gh):Prop where
 sl:∀b,g.sl b≤g'.sl b
 cell:∀b j,j<g.sl b→Cl w' b j=Cl w b j
 nb:g.nb≤g'.nb
 bm:∀id,id<g.nb→g'.bm id=g.bm id
 sz:∀b n,bsz w b=some n→bsz w' b=some n
theorem Le.refl (w:World)(g:Gh):Le w g w g:=⟨fun _=>Nat.le_refl _,fun _ _ _=>rfl,Nat.le_refl _,fun _ _=>rfl,fun _ _ h=>h⟩
theorem Le.trans {w1 w2 w3:World}{g1 g2 g3:Gh}(h:Le w1 g1 w2 g2)(k:Le w2 g2 w3 g3):Le w1 g1 w3 g3:=
 ⟨fun b=>Nat.le_trans (h.sl b) (k.sl b),fun b j hj=>(k.cell b j (Nat.lt_of_lt_of_le hj (h.sl b))).trans (h.cell b j hj),Nat.le_trans h.nb k.nb,
  fun id hi=>(k.bm id (Nat.lt_of_lt_of_le hi h.nb)).trans (h.bm id hi),fun b n hb=>k.sz b n (h.sz b n hb)⟩
theorem Rep.mono {w w':World}{g g':Gh}(h:Le w g w' g'){a:AV}{v:Value}(r:Rep w g a v):Rep w' g' a v:=by
 induction r with
 |int=>exact .int ..
 |bool=>exact .bool ..
 |str=>exact .str ..
 |nilI=>exact .nilI
 |nilP=>exact .nilP
 |nilF=>exact .nilF
 |nilM=>exact .nilM
 |nilS=>exact .nilS
 |nilE=>exact .nilE ..
 |ifc t a v _ ih=>exact .ifc _ _ _ ih
 |ptr id off hi=>
  have:=Rep.ptr (w:=w') (g:=g') id off (Nat.lt_of_lt_of_le hi h.nb)
  rwa[h.bm id hi]at this
 |snap cs b o f hc _ ih=>
  refine .snap cs b o f (fun j c hj=>?_) ih
  obtain⟨h1,h2,h3⟩:=hc j c hj
  exact⟨Nat.lt_of_lt_of_le h1 (h.sl b),(h.cell b _ h1).trans h2,h3⟩
 |imm0=>exact .imm0 ..
 |imm xs n b o cap f hl hn hc _ ih=>
  refine .imm xs n b o cap f hl hn (fun k x j c hk hj=>?_) ih
  obtain⟨h1,h2,h3⟩:=hc k x j c hk hj
  exact⟨Nat.lt_of_lt_of_le h1 (h.sl b),(h.cell b _ h1).trans h2,h3⟩
 |arr n id off len cap hi hl hs=>
  have:=Rep.arr (w:=w') (g:=g') n id off len cap (Nat.lt_of_lt_of_le hi h.nb) hl (by rw[h.bm id hi];exact h.sz _ _ hs)
  rwa[h.bm id hi]at this
 |agg cs vs hl f hc _ ih=>exact .agg cs vs hl f hc ih
 |fn f fs caps vs us h1 h2 p q c1 _ c2 _ i1 i2=>exact .fn f fs caps vs us h1 h2 p q c1 i1 c2 i2
theorem Rep.oneCell {w:World}{g:Gh}{a:AV}{v:Value}(r:Rep w g a v)(h:a.one=true):v.cells= #[v]∧v.oneCell=true:=by
 cases r<;>simp_all[AV.one,Value.cells,Value.oneCell]
inductive Own (w:World) (g:Gh) (hd:Hd) (n:Nat):List (List AV)→Value→Prop where
 |emp (a:Option Addr):Own w g hd n [] (.slice a 0 0)
 |blk (xs:List (List AV)) (b cap:Nat) (c:Array Value) (e:TypeId) (fz:Nat×Nat) (f:Nat→Nat→Value) (hl:xs.length≤cap) (hn:0<n) (hx:∀(k:Nat) (x:List AV),xs[k]? =some x→x.length=n)
  (hb:w.heap[b]? =some (.cells c e fz)) (hf:fz.2=0∨c.size≤fz.1) (hz:c.size=cap*n) (ho:g.own b=hd) (hs:g.sl b≤xs.length*n)
  (hc:∀(k:Nat) (x:List AV) (j:Nat) (a:AV),xs[k]? =some x→x[j]? =some a→c[k*n+j]? =some (f k j)∧a.one=true)
  (hr:∀(k:Nat) (x:List AV) (j:Nat) (a:AV),xs[k]? =some x→x[j]? =some a→Rep w g a (f k j)):Own w g hd n xs (.slice (some ⟨b,0,none⟩) xs.length cap)
def RepC (w:World)(g:Gh)(hd:Hd)(x:LV)(v:Value):Prop:=
 match x with
 |.un=>True
 |.v a=>Rep w g a v∧a.one=true
 |.ow n xs=>hd≠.oth∧Own w g hd n xs v
 |_=>False
def RepV (w:World)(g:Gh)(lm:Nat→Nat)(nl:Nat)(hd:Nat→Hd)(x:LV)(v:Value):Prop:=
 match x with
 |.un=>True
 |.ud=>v=undef
 |.v a=>Rep w g a v
 |.ow n xs=>hd 0≠.oth∧Own w g (hd 0) n xs v
 |.lp i off=>i<nl∧v=.pointer (some ⟨lm i,off,none⟩)
 |.tup xs=>∃vs:Array Value,v=.tuple vs∧vs.size=xs.length∧∀(j:Nat) (a:AV),xs[j]? =some a→∃u,vs[j]? =some u∧Rep w g a u
 |.ag cs=>∃vs:Array Value,v=.agg vs∧vs.size=cs.length∧∀(j:Nat) (x:LV),cs[j]? =some x→∃u,vs[j]? =some u∧RepC w g (hd j) x u
structure Kp (w:World) (g:Gh) (w':World) (g':Gh) (hd:Hd):Prop where
 le:Le w g w' g'
 blk:∀b,b<w.heap.size→g.own b=hd→w'.heap[b]? =w.heap[b]?∧g'.own b=hd∧g'.sl b=g.sl b
theorem Own.mono {w w':World}{g g':Gh}{hd:Hd}(h:Kp w g w' g' hd){n:Nat}{xs:List (List AV)}{v:Value}(r:Own w g hd n xs v):Own w' g' hd n xs v:=by
 cases r with
 |emp a=>exact .emp a
 |blk _ b cap c e fz f hl hn hx hb hf hz ho hs hc hr=>
  obtain⟨h1,h2,h3⟩:=h.blk b (Array.getElem?_eq_some_iff.1 hb).1 ho
  exact .blk xs b cap c e fz f hl hn hx (h1.trans hb) hf hz h2 (by omega) hc (fun k x j a hk hj=>(hr k x j a hk hj).mono h.le)
theorem RepC.mono {w w':World}{g g':Gh}{hd:Hd}(h:Kp w g w' g' hd){x:LV}{v:Value}(r:RepC w g hd x v):RepC w' g' hd x v:=by
 cases x<;>simp only[RepC]at r⊢
 ·exact⟨r.1.mono h.le,r.2⟩
 ·exact⟨r.1,r.2.mono h⟩
theorem RepV.mono {w w':World}{g g':Gh}{lm:Nat→Nat}{nl:Nat}{hd:Nat→Hd}(h:∀c,Kp w g w' g' (hd c)){x:LV}{v:Value}(r:RepV w g lm nl hd x v):RepV w' g' lm nl hd x v:=by
 cases x<;>simp only[RepV]at r⊢<;>try exact r
 ·exact r.mono (h 0).le
 ·exact⟨r.1,r.2.mono (h 0)⟩
 ·obtain⟨vs,e,hs,hr⟩:=r
  refine⟨vs,e,hs,fun j a hj=>?_⟩
  obtain⟨u,hu,hr⟩:=hr j a hj
  exact⟨u,hu,hr.mono (h 0).le⟩
 ·obtain⟨vs,e,hs,hr⟩:=r
  refine⟨vs,e,hs,fun j a hj=>?_⟩
  obtain⟨u,hu,hr⟩:=hr j a hj
  exact⟨u,hu,hr.mono (h j)⟩
structure Wf (w:World) (g:Gh):Prop where
 own:∀b,w.heap.size≤b→g.own b=.oth
 sl:∀b,w.heap.size≤b→g.sl b=0
 fit:∀b,(g.own b≠.oth)→∃n,bsz w b=some n∧g.sl b≤n
def HeapOk (w:World)(g:Gh)(h:Heap):Prop:=
 g.nb=h.bx.length∧∀(id:Nat) (bx:List LV),h.bx[id]? =some bx→bx≠[]→
  g.own (g.bm id)=.hbox id∧g.sl (g.bm id)=0∧∃(c:Array Value) (e:TypeId),w.heap[g.bm id]? =some (.cells c e (0,0))∧bx.length≤c.size∧
   ∀(j:Nat) (x:LV),bx[j]? =some x→∃u,c[j]? =some u∧RepC w g (.hcell id j) x u
def BoxOk (w:World)(g:Gh)(lm:Nat→Nat)(st:St):Prop:=
 ∀i,0<st.z i→i<st.nl∧g.own (lm i)=.box i∧g.sl (lm i)=0∧∃(c:Array Value) (e:TypeId),w.heap[lm i]? =some (.cells c e (0,0))∧c.size=st.z i∧
  ∀j,j<st.z i→∃u,c[j]? =some u∧RepC w g (.cell i j) (st.m i j) u
structure SR (nt:Nat) (st:St) (a:Act) (w:World) (g:Gh) (lm:Nat→Nat):Prop where
 wf:Wf w g
 nt:nt≤a.tmps.size
 df:a.defers=[]
 tm:∀j,RepV w g lm st.nl (.tmp j) (st.t j) (a.tmps.getD j undef)
 bx:BoxOk w g lm st
 hp:HeapOk w g st.h
end Go.Proofs.Am
