/-
  New blocks: slices' literals, made slices, texts as bytes, local boxes, heap boxes.
-/
import Derived.Test.YtoblgjmllmomhaaGreatDoorAmOpE
import Derived.Great.BuildSlice
import Derived.Laws.MakeOwn
namespace Go.Proofs.Am
open Go
variable {R:Type} {P:Program} {nt:Nat} {o:Oper} {st:St} {a:Act} {w:World} {g:Gh} {lm:Nat→Nat} {K:LV→St→Option R} {r:R}
theorem Arg.toC {p:AV}{v:Value}{n:Nat}{cs:List AV}(hr:Rep w g p v)(h:p.toC n=some cs):
 cs.length=n∧v.cells.size=n∧∀(j:Nat) (c:AV),cs[j]? =some c→∃u,v.cells[j]? =some u∧Rep w g c u∧c.one=true:=by
 have one:p.one=true→(bif Nat.beq n 1 then some [p]else none)=some cs→cs.length=n∧v.cells.size=n∧∀(j:Nat) (c:AV),cs[j]? =some c→∃u,v.cells[j]? =some u∧Rep w g c u∧c.one=true:=by
  intro h1 h
  by_cases e:Nat.beq n 1=true
  ·rw[e,cond_true,Option.some.injEq]at h
   subst h
   have e:=Nat.eq_of_beq_eq_true e
   subst e
   have hv:=(hr.oneCell h1).1
   rw[hv]
   refine⟨rfl,rfl,fun j c hj=>?_⟩
   cases j with
   |zero=>simp at hj;subst hj;exact⟨v,by simp,hr,h1⟩
   |succ j=>simp at hj
  ·rw[Bool.eq_false_iff.2 e]at h;cases h
 cases p with
 |agg xs=>
  simp only[AV.toC]at h
  by_cases e:Nat.beq xs.length n=true
  ·rw[e,cond_true,Option.some.injEq]at h
   subst h
   have e:=Nat.eq_of_beq_eq_true e
   have hv:∃vs,v=.agg vs:=by cases hr;exact⟨_,rfl⟩
   obtain⟨vs,rfl⟩:=hv
   obtain⟨hl,hc⟩:=Qew hr
   exact⟨e,by simp only[Value.cells];omega,hc⟩
  ·rw[Bool.eq_false_iff.2 e]at h;cases h
 |_=>exact one rfl h
theorem Qoa {cs:List AV}{j:Nat}{c:AV}(h:cs[j]? =some c):gd cs j=c:=by simp[gd,List.getD_eq_getElem?_getD,h]
theorem Qiq (off:Nat):∀(vs:List Value) (s:Nat) (cells:Array Value) (k:Nat),
 ((vs.zipIdx s).foldl (fun(cs:Array Value) (x:Value×Nat)=>cs.setIfInBounds (off+x.2) x.1) cells)[k]? =
  if off+s≤k∧k<off+s+vs.length∧k<cells.size then vs[k-(off+s)]? else cells[k]?
 |[],s,cells,k=>by
  simp only[List.zipIdx_nil,List.foldl_nil,List.length_nil]
  rw[if_neg (by omega)]
 |v::vs,s,cells,k=>by
  simp only[List.zipIdx_cons,List.foldl_cons]
  rw[Qiq off vs (s+1)]
  simp only[Array.size_setIfInBounds,List.length_cons,Array.getElem?_setIfInBounds]
  by_cases h1:k=off+s
  ·subst h1
   by_cases h2:off+s<cells.size
   ·rw[if_neg (by omega),if_pos rfl,if_pos h2,if_pos (by omega)]
    simp
   ·rw[if_neg (by omega),if_pos rfl,if_neg h2,if_neg (by omega)]
    rw[Array.getElem?_eq_none (by omega)]
  ·by_cases h3:off+(s+1)≤k∧k<off+(s+1)+vs.length∧k<cells.size
   ·rw[if_pos h3,if_pos (by omega)]
    rw[show k-(off+s)=(k-(off+(s+1)))+1 by omega,List.getElem?_cons_succ]
   ·rw[if_neg h3,if_neg (by omega),if_neg (by omega)]
theorem Qgv (off:Nat):∀(vs:List Value) (s:Nat) (cells:Array Value),((vs.zipIdx s).foldl (fun(cs:Array Value) (x:Value×Nat)=>cs.setIfInBounds (off+x.2) x.1) cells).size=cells.size
 |[],_,_=>rfl
 |v::vs,s,cells=>by simp only[List.zipIdx_cons,List.foldl_cons];rw[Qgv off vs (s+1)];simp
def Qb1 (cells:Array Value)(off:Nat)(v:Value):Array Value:=v.cells.zipIdx.foldl (fun cs (c,j)=>cs.setIfInBounds (off+j) c) cells
theorem QdW (cells:Array Value)(off:Nat)(v:Value)(k:Nat):
 (Qb1 cells off v)[k]? =if off≤k∧k<off+v.cells.size∧k<cells.size then v.cells[k-off]? else cells[k]?:=by
 unfold Qb1
 rw[←Array.foldl_toList,Array.toList_zipIdx]
 have:=Qiq off v.cells.toList 0 cells k
 simp only[Nat.add_zero,Array.length_toList,Array.getElem?_toList]at this
 exact this
theorem Qb0 (cells:Array Value)(off:Nat)(v:Value):(Qb1 cells off v).size=cells.size:=by
 unfold Qb1
 rw[←Array.foldl_toList,Array.toList_zipIdx]
 exact Qgv off v.cells.toList 0 cells
theorem Qgy {place:Nat→Option (Nat×Nat)}{cells:Array Value}{i:Nat}{v:Value}{rest:List (Nat×Value)}{off size:Nat}(h:place i=some (off,size))(h1:v.cells.size=size)(h2:off+size≤cells.size):
 Instr.fill place cells ((i,v)::rest)=Instr.fill place (Qb1 cells off v) rest:=by
 simp only[Instr.fill,h]
 rw[if_neg (by simp[h1];omega)]
 rfl
theorem Qdc (P:Program):∀(ts:List TypeId) (zs:List Value),(QbD P ts zs).length=zs.length
 |[],[]=>rfl
 |[],z::zs=>by simp[QbD,Qdc P [] zs]
 |_::_,[]=>rfl
 |t::ts,z::zs=>by simp[QbD,Qdc P ts zs]
theorem Qdd (P:Program):∀(ts:List TypeId) (zs:List Value) (j:Nat) (x:LV),(QbD P ts zs)[j]? =some x→∃t z,zs[j]? =some z∧x=lvC P t z
 |[],[],j,x,h=>by simp[QbD]at h
 |_::_,[],j,x,h=>by simp[QbD]at h
 |[],z::zs,0,x,h=>by simp[QbD]at h;exact⟨0,z,by simp,h.symm⟩
 |[],z::zs,j+1,x,h=>by simp[QbD]at h;obtain⟨t,z',h1,h2⟩:=Qdd P [] zs j x h;exact⟨t,z',by simpa using h1,h2⟩
 |t::ts,z::zs,0,x,h=>by simp[QbD]at h;exact⟨t,z,by simp,h.symm⟩
 |t::ts,z::zs,j+1,x,h=>by simp[QbD]at h;obtain⟨t',z',h1,h2⟩:=Qdd P ts zs j x h;exact⟨t',z',by simpa using h1,h2⟩
def RepZ (w:World)(g:Gh)(x:LV)(v:Value):Prop:=
 match x with
 |.un=>True
 |.v a=>Rep w g a v∧a.one=true
 |.ow _ xs=>xs=[]∧∃ad,v=.slice ad 0 0
 |_=>False
theorem RepZ.mono {w w':World}{g g':Gh}{x:LV}{v:Value}(h:Le w g w' g')(r:RepZ w g x v):RepZ w' g' x v:=by
 cases x<;>simp only[RepZ]at r⊢
 ·exact⟨r.1.mono h,r.2⟩
 ·exact r
theorem RepZ.repC {x:LV}{v:Value}(r:RepZ w g x v){hd:Hd}(h:hd≠.oth):RepC w g hd x v:=by
 cases x<;>simp only[RepZ]at r<;>simp only[RepC]
 ·exact r
 ·obtain⟨rfl,ad,rfl⟩:=r
  exact⟨h,.emp ad⟩
theorem QnO {t:TypeId}{c:Value}:RepZ w g (lvC P t c) c:=by
 unfold lvC
 split
 ·exact⟨rfl,_,rfl⟩
 ·cases hc:avC c with
  |none=>exact trivial
  |some x=>exact⟨Qds hc,QhA hc⟩
theorem QeN {t:TypeId}{zc:List LV}(h:QgW P t=some zc):
 ∃i z,P.info? t=some i∧i.zero=some z∧zc.length=z.cells.size∧∀(j:Nat) (x:LV),zc[j]? =some x→∃u,z.cells[j]? =some u∧∀(w:World) (g:Gh),RepZ w g x u:=by
 unfold QgW at h
 simp only[Option.bind_eq_some_iff,Option.some.injEq]at h
 obtain⟨i,hi,z,hz,rfl⟩:=h
 refine⟨i,z,hi,hz,by rw[Qdc];simp,fun j x hj=>?_⟩
 obtain⟨t',u,hu,rfl⟩:=Qdd P _ _ j x hj
 exact⟨u,by simpa using hu,fun w g=>QnO⟩
theorem QnN {c:Value}:RepZ w g (lvN c) c:=by
 unfold lvN
 split
 ·exact⟨.nilS,rfl⟩
 ·cases hc:avC c with
  |none=>exact trivial
  |some x=>exact⟨Qds hc,QhA hc⟩
theorem QiL {nn:Bool}{t:TypeId}{zc:List LV}(h:Qjs nn P t=some zc):
 ∃i z,P.info? t=some i∧i.zero=some z∧zc.length=z.cells.size∧∀(j:Nat) (x:LV),zc[j]? =some x→∃u,z.cells[j]? =some u∧∀(w:World) (g:Gh),RepZ w g x u:=by
 cases nn with
 |false=>exact QeN h
 |true=>
  have h:Qpw P t=some zc:=h
  unfold Qpw at h
  simp only[Option.bind_eq_some_iff,Option.some.injEq]at h
  obtain⟨i,hi,z,hz,rfl⟩:=h
  refine⟨i,z,hi,hz,by simp,fun j x hj=>?_⟩
  rw[List.getElem?_map]at hj
  cases hu:z.cells.toList[j]? with
  |none=>rw[hu]at hj;cases hj
  |some u=>
   rw[hu]at hj
   simp only[Option.map_some,Option.some.injEq]at hj
   subst hj
   exact⟨u,by simpa using hu,fun w g=>QnN⟩
theorem Qfh (cs:List LV)(o:Nat)(f:Nat→LV):∀n,(QrC cs o f n).length=cs.length
 |0=>rfl
 |n+1=>by simp[QrC,Qfh cs o f n]
theorem QhU (cs:List LV)(o:Nat)(f:Nat→LV):∀(n k:Nat),(QrC cs o f n)[k]? =if o≤k∧k<o+n∧k<cs.length then some (f (k-o))else cs[k]?
 |0,k=>by rw[if_neg (by omega)];rfl
 |n+1,k=>by
  simp only[QrC,List.getElem?_set,Qfh,QhU cs o f n k]
  by_cases h1:o+n=k
  ·subst h1
   by_cases h2:o+n<cs.length
   ·rw[if_pos rfl,if_pos h2,if_pos (by omega)];congr 2;omega
   ·rw[if_pos rfl,if_neg h2,if_neg (by omega),List.getElem?_eq_none (by omega)]
  ·rw[if_neg h1]
   by_cases h3:o≤k∧k<o+n∧k<cs.length
   ·rw[if_pos h3,if_pos (by omega)]
   ·rw[if_neg h3,if_neg (by omega)]
theorem QlR {fs:List Field}{places:List (Nat×Nat)}(hp:fs.mapM (fun f=>(P.info? f.type).map fun i=>(f.offset,i.size))=some places):
 ∀(parts:List (Nat×Operand)) (cs:List LV) (cells:Array Value) (g:Gh) (k:List LV→Option R),SR nt st a w g lm→cs.length=cells.size→
  (∀(j:Nat) (x:LV),cs[j]? =some x→∃u,cells[j]? =some u∧RepZ w g x u)→Qjj P fs st parts cs k=some r→
  ∃cs' cells' g',k cs'=some r∧Instr.fill (places[·]?) cells (parts.map fun(i,x)=>(i,a.eval x))=some cells'∧SR nt st a w g' lm∧Qt w g w g'∧cs'.length=cells'.size∧
   ∀(j:Nat) (x:LV),cs'[j]? =some x→∃u,cells'[j]? =some u∧RepZ w g' x u
 |[],cs,cells,g,k,hs,hl,hc,h=>⟨cs,cells,g,h,rfl,hs,Qt.refl w g,hl,hc⟩
 |(i,x)::parts,cs,cells,g,k,hs,hl,hc,h=>by
  simp only[Qjj,Option.bind_eq_some_iff]at h
  obtain⟨f,hf,z,hz,p,hx,ds,hds,h⟩:=h
  by_cases hb:Nat.ble (f.offset+z.1) cs.length=true
  ·rw[hb,cond_true]at h
   have hb:=Nat.le_of_ble_eq_true hb
   obtain⟨g1,s1,t1,r1⟩:=QaO hs hx
   obtain⟨ti,d,hti,hsz,_,_⟩:=QaL hz
   obtain⟨hdl,hvl,hdc⟩:=Arg.toC r1 hds
   have hpl:places[i]? =some (f.offset,z.1):=by
    clear h
    induction fs generalizing places i with
    |nil=>simp at hf
    |cons f0 fs ih=>
     simp only[List.mapM_cons,Option.bind_eq_bind,Option.pure_def,Option.bind_eq_some_iff]at hp
     obtain⟨p0,hp0,ps,hps,e⟩:=hp
     simp only[Option.some.injEq]at e
     subst e
     cases i with
     |zero=>
      simp only[List.getElem?_cons_zero,Option.some.injEq]at hf
      subst hf
      simp only[hti,Option.map_some,Option.some.injEq]at hp0
      simp[←hp0,hsz]
     |succ i=>
      simp only[List.getElem?_cons_succ]at hf⊢
      exact ih hps i hf
   have hrec:=QlR hp parts (QrC cs f.offset (fun j=>.v (gd ds j)) z.1) (Qb1 cells f.offset (a.eval x)) g1 k s1 (by rw[Qfh,Qb0,hl]) (fun j y hj=>?_) h
   ·obtain⟨cs',cells',g',hk,hfill,hs',ht',hl',hc'⟩:=hrec
    refine⟨cs',cells',g',hk,?_,hs',t1.trans ht',hl',hc'⟩
    simp only[List.map_cons]
    rw[Qgy hpl hvl (by omega)]
    exact hfill
   ·rw[QhU]at hj
    rw[QdW,hvl]
    split at hj
    ·rename_i hcond
     simp only[Option.some.injEq]at hj
     subst hj
     obtain⟨u,hu,hru,h1⟩:=hdc (j-f.offset) ds[j-f.offset] (List.getElem?_eq_getElem (by omega))
     refine⟨u,?_,?_⟩
     ·rw[if_pos (by omega)];exact hu
     ·rw[Qoa (List.getElem?_eq_getElem (by omega))];exact⟨hru,h1⟩
    ·rename_i hcond
     obtain⟨u,hu,hru⟩:=hc j y hj
     have hlt:j<cs.length:=(List.getElem?_eq_some_iff.1 hj).1
     refine⟨u,?_,?_⟩
     ·rw[if_neg (by omega)];exact hu
     ·exact hru.mono t1.le
  ·rw[Bool.eq_false_iff.2 hb]at h;cases h
theorem Qi8 {t:TypeId}{parts:Array (Nat×Operand)}(ho:o.op=.build t parts)(hs:SR nt st a w g lm)
 {nn:Bool}(h:((fieldsOf P t).bind fun fs=>(Qjs nn P t).bind fun zc=>
  bif (fs.all fun f=>(tyz P f.type).isSome)then Qjj P fs st parts.toList zc fun cs=>K (.ag cs) st else none)=some r):Good P nt o a w g K r:=by
 simp only[Option.bind_eq_some_iff]at h
 obtain⟨fs,hfs,zc,hzc,h⟩:=h
 obtain⟨fa,hfa,rfl⟩:=Qbk hfs
 obtain⟨i,z,hi,hz,hlen,hcells⟩:=QiL hzc
 by_cases hall:(fa.toList.all fun f=>(tyz P f.type).isSome)=true
 ·rw[hall,cond_true]at h
  have hp:∃places,fa.toList.mapM (fun f=>(P.info? f.type).map fun i=>(f.offset,i.size))=some places:=by
   generalize fa.toList=l at hall
   induction l with
   |nil=>exact⟨[],rfl⟩
   |cons f l ih=>
    simp only[List.all_cons,Bool.and_eq_true]at hall
    obtain⟨ps,hps⟩:=ih hall.2
    obtain⟨zf,hzf⟩:=Option.isSome_iff_exists.1 hall.1
    obtain⟨ti,_,hti,_⟩:=QaL hzf
    exact⟨(f.offset,ti.size)::ps,by simp[List.mapM_cons,hti,hps]⟩
  obtain⟨places,hp⟩:=hp
  obtain⟨cs',cells',g',hk,hfill,hs',ht',hl',hc'⟩:=QlR hp parts.toList zc z.cells g _ hs hlen (fun j x hj=>by
   obtain⟨u,hu,hr⟩:=hcells j x hj
   exact⟨u,hu,hr w g⟩) h
  refine Good.pre ht' (Good.pure hs' hk (v:=.agg cells') ?_ ?_)
  ·simp only[execOp,ho]
   refine Qad (run_build w t _ cells' ?_)
   unfold Program.built
   simp only[hi,hfa,hz,hp]
   simpa using hfill
  ·exact⟨cells',rfl,by omega,fun j x hj=>by
    obtain⟨u,hu,hr⟩:=hc' j x hj
    exact⟨u,hu,hr.repC (by simp)⟩⟩
 ·rw[Bool.eq_false_iff.2 hall]at h;cases h
end Go.Proofs.Am
namespace Go.Proofs.Am
open Go
variable {R:Type} {P:Program} {nt:Nat} {o:Oper} {st:St} {a:Act} {w:World} {g:Gh} {lm:Nat→Nat} {K:LV→St→Option R} {r:R}
theorem SR.drew (hs:SR nt st a w g lm):SR nt st a w.drew g lm:=hs.keep (Qhw hs.wf) rfl (fun hd _ _ _=>Qhx w g hd)
theorem SR.new (hs:SR nt st a w g lm)(c:Array Value)(e:TypeId)(hd:Hd)(fz:Nat×Nat:=(0,0)):SR nt st a (w.alloc (.cells c e fz)) (QfU w g hd) lm:=
 hs.keep (Qga hs.wf c e hd fz) rfl (fun _ _ _ _=>Qkq hs.wf _ _ _)
theorem SR.new_ow (hs:SR nt st a w g lm)(c:Array Value)(e:TypeId)(fz:Nat×Nat)(hfz:fz.2=0∨c.size≤fz.1)(n cap:Nat)(hn:0<n)(hz:c.size=cap*n)(xs:List (List AV))(hl:xs.length≤cap)
 (hx:∀(k:Nat) (x:List AV),xs[k]? =some x→x.length=n)
 (hc:∀(k:Nat) (x:List AV) (j:Nat) (y:AV),xs[k]? =some x→x[j]? =some y→∃u,c[k*n+j]? =some u∧Rep w g y u∧y.one=true):
 SR nt st a (w.alloc (.cells c e fz)) (QfU w g (.res 0)) lm∧Tr w g (w.alloc (.cells c e fz)) (QfU w g (.res 0))∧
  RepV (w.alloc (.cells c e fz)) (QfU w g (.res 0)) lm st.nl .res (.ow n xs) (.slice (some ⟨w.heap.size,0,none⟩) xs.length cap):=by
 refine⟨hs.new c e _ fz,Qgb hs.wf _ _,by simp,?_⟩
 have L:=Qkp hs.wf (.cells c e fz) (.res 0)
 refine .blk xs w.heap.size cap c e fz (fun k j=>c.getD (k*n+j) undef) hl hn hx (QaF w _) hfz hz (by simp only[QfU,Qai]) (by show g.sl _≤_;rw[hs.wf.sl _ (Nat.le_refl _)];omega) (fun k x j y hk hj=>?_) (fun k x j y hk hj=>?_)
 ·obtain⟨u,hu,_,h1⟩:=hc k x j y hk hj
  exact⟨by simp[Array.getD_eq_getD_getElem?,hu],h1⟩
 ·obtain⟨u,hu,hr,_⟩:=hc k x j y hk hj
  simpa[Array.getD_eq_getD_getElem?,hu]using hr.mono L
theorem Qbb {t:TypeId}{zc:List AV}(h:Qbq P t=some zc):
 ∃i z,P.info? t=some i∧i.zero=some z∧zc.length=z.cells.size∧∀(j:Nat) (x:AV),zc[j]? =some x→∃u,z.cells[j]? =some u∧x.one=true∧∀(w:World) (g:Gh),Rep w g x u:=by
 unfold Qbq at h
 simp only[Option.bind_eq_some_iff]at h
 obtain⟨i,hi,z,hz,h⟩:=h
 have key:∀(l:List Value) (zc:List AV),Qxl l=some zc→zc.length=l.length∧∀(j:Nat) (x:AV),zc[j]? =some x→∃u,l[j]? =some u∧x.one=true∧∀(w:World) (g:Gh),Rep w g x u:=by
  intro l
  induction l with
  |nil=>intro zc h;simp only[Qxl,Option.some.injEq]at h;subst h;simp
  |cons u l ih=>
   intro zc h
   simp only[Qxl,Option.bind_eq_some_iff,Option.some.injEq]at h
   obtain⟨y,hy,ys,hys,rfl⟩:=h
   obtain⟨hl,hc⟩:=ih ys hys
   refine⟨by simp[hl],fun j x hj=>?_⟩
   cases j with
   |zero=>simp at hj;subst hj;exact⟨u,by simp,QhA hy,fun w g=>Qds hy⟩
   |succ j=>simp at hj;obtain⟨u',h1,h2⟩:=hc j x hj;exact⟨u',by simpa using h1,h2⟩
 obtain⟨hl,hc⟩:=key _ _ h
 exact⟨i,z,hi,hz,by simpa using hl,fun j x hj=>by
  obtain⟨u,hu,h2⟩:=hc j x hj
  exact⟨u,by simpa using hu,h2⟩⟩
def Elems (w:World)(g:Gh)(n:Nat)(xs:List (List AV))(c:Array Value):Prop:=
 (∀(k:Nat) (x:List AV),xs[k]? =some x→x.length=n)∧
 ∀(k:Nat) (x:List AV) (j:Nat) (y:AV),xs[k]? =some x→x[j]? =some y→∃u,c[k*n+j]? =some u∧Rep w g y u∧y.one=true
theorem Elems.mono {w':World}{g':Gh}{n:Nat}{xs:List (List AV)}{c:Array Value}(h:Elems w g n xs c)(L:Le w g w' g'):Elems w' g' n xs c:=
 ⟨h.1,fun k x j y hk hj=>by obtain⟨u,hu,hr,h1⟩:=h.2 k x j y hk hj;exact⟨u,hu,hr.mono L,h1⟩⟩
theorem Qbp {t:TypeId}{zc:List AV}{z:Value}{i:TypeInfo}(hzc:Qbq P t=some zc)(hi:P.info? t=some i)(hz:i.zero=some z){n:Nat}(hn:zc.length=n)(len:Nat):
 Elems w g n (List.replicate len zc) (((Array.range (len*n)).map (z.cells[·%z.cells.size]!)):Array Value):=by
 obtain⟨i',z',hi',hz',hl,hc⟩:=Qbb hzc
 rw[hi]at hi'
 simp only[Option.some.injEq]at hi'
 subst hi'
 rw[hz]at hz'
 simp only[Option.some.injEq]at hz'
 subst hz'
 refine⟨fun k x hk=>?_,fun k x j y hk hj=>?_⟩
 ·rw[List.getElem?_replicate]at hk
  split at hk
  ·simp only[Option.some.injEq]at hk;subst hk;exact hn
  ·cases hk
 ·rw[List.getElem?_replicate]at hk
  split at hk
  ·rename_i hlt
   simp only[Option.some.injEq]at hk
   subst hk
   obtain⟨u,hu,h1,hr⟩:=hc j y hj
   have hjn:j<n:=by rw[←hn];exact(List.getElem?_eq_some_iff.1 hj).1
   have hmod:(k*n+j)%z.cells.size=j:=by
    rw[←hl,hn,Nat.add_comm,Nat.add_mul_mod_self_right,Nat.mod_eq_of_lt hjn]
   have hlt2:k*n+j<len*n:=by
    have:(k+1)*n≤len*n:=Nat.mul_le_mul_right n hlt
    rw[Nat.succ_mul]at this;omega
   refine⟨u,?_,hr w g,h1⟩
   have hju:j<z.cells.size:=(Array.getElem?_eq_some_iff.1 hu).1
   have e:z.cells[j]=u:=(Array.getElem?_eq_some_iff.1 hu).2
   simp[hlt2,hmod,hju,e]
  ·cases hk
theorem QfJ {n:Nat}(h0:0<n):∀(ps:List (Nat×AV)) (parts:List (Nat×Value)) (xs xs':List (List AV)) (c:Array Value),ps.length=parts.length→c.size=xs.length*n→Elems w g n xs c→
 (∀(i:Nat) (x:Nat×AV) (v:Nat×Value),ps[i]? =some x→parts[i]? =some v→x.1=v.1∧Rep w g x.2 v.2)→Qmb n xs ps=some xs'→
 ∃c',Instr.fill (fun i=>some (i*n,n)) c parts=some c'∧c'.size=c.size∧xs'.length=xs.length∧Elems w g n xs' c'
 |[],[],xs,xs',c,_,_,he,_,h=>by
  simp only[Qmb,Option.some.injEq]at h
  subst h
  exact⟨c,rfl,rfl,rfl,he⟩
 |[],_::_,_,_,_,hl,_,_,_,_=>by simp at hl
 |_::_,[],_,_,_,hl,_,_,_,_=>by simp at hl
 |(i,p)::ps,(i',v)::parts,xs,xs',c,hl,hz,he,hr,h=>by
  obtain⟨e1,hr0⟩:=hr 0 (i,p) (i',v) rfl rfl
  simp only at e1 hr0
  subst e1
  simp only[Qmb,Option.bind_eq_some_iff]at h
  obtain⟨ds,hds,h⟩:=h
  by_cases hb:Nat.blt i xs.length=true
  ·rw[hb,cond_true]at h
   have hlt:i<xs.length:=Nat.le_of_ble_eq_true hb
   obtain⟨hdl,hvl,hdc⟩:=Arg.toC hr0 hds
   have hin:i*n+n≤c.size:=by
    have:(i+1)*n≤xs.length*n:=Nat.mul_le_mul_right n hlt
    rw[Nat.succ_mul]at this;omega
   have hE:Elems w g n (xs.set i ds) (Qb1 c (i*n) v):=by
    refine⟨fun k x hk=>?_,fun k x j y hk hj=>?_⟩
    ·rw[List.getElem?_set]at hk
     split at hk
     ·simp only[Option.some.injEq]at hk;subst hk;exact hdl
     ·exact he.1 k x hk
    ·rw[QdW,hvl]
     rw[List.getElem?_set]at hk
     split at hk
     ·rename_i e
      subst e
      simp only[Option.some.injEq]at hk
      subst hk
      obtain⟨u,hu,h2⟩:=hdc j y hj
      have hjn:j<n:=by rw[←hdl];exact(List.getElem?_eq_some_iff.1 hj).1
      refine⟨u,?_,h2⟩
      rw[if_pos (by omega),show i*n+j-i*n=j by omega]
      exact hu
     ·rename_i hne
      obtain⟨u,hu,h2⟩:=he.2 k x j y hk hj
      refine⟨u,?_,h2⟩
      have hjn:j<n:=by rw[←he.1 k x hk];exact(List.getElem?_eq_some_iff.1 hj).1
      rw[if_neg ?_]
      ·exact hu
      ·intro hcond
       rcases Nat.lt_or_gt_of_ne hne with h1|h1
       ·have:(i+1)*n≤k*n:=Nat.mul_le_mul_right n h1
        rw[Nat.succ_mul]at this;omega
       ·have:(k+1)*n≤i*n:=Nat.mul_le_mul_right n h1
        rw[Nat.succ_mul]at this;omega
   obtain⟨c',hf,hz',hl',he'⟩:=QfJ h0 ps parts (xs.set i ds) xs' (Qb1 c (i*n) v) (by simpa using hl) (by rw[Qb0];simpa using hz) hE (fun j x u hj hu=>hr (j+1) x u (by simpa using hj) (by simpa using hu)) h
   exact⟨c',by rw[Qgy rfl hvl hin];exact hf,hz'.trans (Qb0 _ _ _),by simpa using hl',he'⟩
  ·rw[Bool.eq_false_iff.2 hb]at h;cases h
theorem Qee {t:TypeId}{len:Nat}{parts:Array (Nat×Operand)}(ho:o.op=.buildSlice t len parts)(hs:SR nt st a w g lm)
 (h:((QaA P t).bind fun e=>(tyz P e).bind fun z=>(Qbq P e).bind fun zc=>rvp st parts.toList fun ps=>
  bif Nat.beq zc.length z.1&&Nat.ble (len*z.1) 16777216&&Nat.blt 0 z.1 then
  (Qmb z.1 (List.replicate len zc) ps).bind fun xs=>K (.ow z.1 xs) st else none)=some r):Good P nt o a w g K r:=by
 simp only[Option.bind_eq_some_iff]at h
 obtain⟨e,he,z,hz,zc,hzc,h⟩:=h
 have hu:=QaD he
 obtain⟨i,d,hi,hsz,_,_⟩:=QaL hz
 obtain⟨i',zv,hi',hzv,hzl,_⟩:=Qbb hzc
 rw[hi]at hi'
 simp only[Option.some.injEq]at hi'
 subst hi'
 obtain⟨ps,h,hl,g1,s1,t1,r1⟩:=Qj1 _ _ _ hs h
 by_cases hc:(Nat.beq zc.length z.1&&Nat.ble (len*z.1) 16777216&&Nat.blt 0 z.1)=true
 ·rw[hc,cond_true]at h
  simp only[Bool.and_eq_true]at hc
  obtain⟨⟨c1,c2⟩,c3⟩:=hc
  have c1:=Nat.eq_of_beq_eq_true c1
  have c2:=Nat.le_of_ble_eq_true c2
  have c3:0<z.1:=Nat.le_of_ble_eq_true c3
  simp only[Option.bind_eq_some_iff]at h
  obtain⟨xs,hxs,h⟩:=h
  obtain⟨c',hf,hz',hl',he'⟩:=QfJ (w:=w) (g:=g1) c3 ps (parts.toList.map fun(i,x)=>(i,a.eval x)) (List.replicate len zc) xs ((Array.range (len*z.1)).map (zv.cells[·%zv.cells.size]!)) (by simpa using hl) (by simp)
   (Qbp hzc hi hzv c1 len) (fun j x v hj hv=>by
    rw[List.getElem?_map]at hv
    cases hp:parts.toList[j]? with
    |none=>rw[hp]at hv;cases hv
    |some q=>
     rw[hp]at hv
     simp only[Option.map_some,Option.some.injEq]at hv
     subst hv
     exact r1 j x q hj hp) hxs
  have hxl:xs.length=len:=by simpa using hl'
  refine Good.pre t1 ?_
  by_cases hlen:len=0
  ·subst hlen
   have hxs0:xs=[]:=List.eq_nil_of_length_eq_zero hxl
   subst hxs0
   refine⟨_,st,h,OpOk.value (v:=.slice (some ⟨w.heap.size,0,none⟩) 0 0) (w':=w.alloc (.cells c' e)) ?_ (s1.new c' e (.res 0)) (Qgb s1.wf _ _) ⟨by simp,.emp _⟩⟩
   simp only[execOp,ho]
   refine Qad ?_
   have hf':Instr.fill (fun i_1=>some (i_1*i.size,i.size)) #[] (parts.toList.map fun(i,x)=>(i,a.eval x))=some c':=by
    rw[hsz];simpa[Array.range_zero']using hf
   have hf2:Instr.fill (fun i_1=>some (i_1*i.size,i.size)) #[] ((parts.map fun(i,x)=>(i,a.eval x)).toList)=some c':=by
    rw[Array.toList_map];exact hf'
   simp only[Instr.buildSlice,Sem.run_bind,run_underlying hu,Result.andThen_ok,run_sizeOf hi,Nat.zero_mul]
   simp only[Nat.not_lt_zero,gt_iff_lt,if_false,if_true,Sem.run_pure,Sem.run_bind,Result.andThen_ok,Array.range_zero',Array.map_empty,hf2]
   simp[newRow]
  ·have hpos:¬len*i.size=0:=by rw[hsz];exact Nat.mul_ne_zero hlen (by omega)
   obtain⟨s2,t2,r2⟩:=s1.new_ow c' e (0,0) (.inl rfl) z.1 len c3 (by rw[hz'];simp) xs (by omega) he'.1 he'.2
   rw[hxl]at r2
   refine⟨_,st,h,OpOk.value (v:=.slice (some ⟨w.heap.size,0,none⟩) len len) (w':=w.alloc (.cells c' e)) ?_ s2 t2 r2⟩
   simp only[execOp,ho]
   refine Qad (run_buildSlice w t e len _ c' i zv hu hi hzv (by rw[hsz];omega) hpos ?_)
   rw[hsz];simpa using hf
 ·rw[Bool.eq_false_iff.2 hc]at h;cases h
end Go.Proofs.Am
