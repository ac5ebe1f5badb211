/-
  Instructions as a tree: what a readable value of their type is.
-/
import Derived.Test.YtoblgjmllmomhaaGreatDoorAmRow
import Derived.Carry
import Derived.WideShapes
import Derived.ChangeShapes
import Derived.ChangeOld
import Derived.WalkKit
import Derived.ProofKit
import Derived.OpenShut
import Derived.LaidMore
import Derived.Stop.Joined
namespace Go.Proofs.Am
open Go Go.RowKit Go.ChangeShapes Go.WideShapes
def QlW (P:Program)(t:TypeId)(ys:List AV):AV:=
 match P.underlying t with
 |some (.struct _)=>.agg ys
 |some (.array _ _)=>.agg ys
 |_=>ys.headD .nilI
def ShA (P:Program)(n:Nat):List TypeId→List AV→Prop
 |[],[]=>True
 |t::ts,x::xs=>(∃ys,Sh P n t ys∧x=QlW P t ys)∧ShA P n ts xs
 |_,_=>False
variable {H:Type} {enc:TypeId×Value→H} {P:Program} {W:World} {g:Gh}
def Qko (P:Program)(t:TypeId):Bool:=
 match P.underlying t with
 |some (.array _ _)=>false
 |_=>true
theorem QgQ {W':World}(hl:laidOutB P=true)(hb:Below W.heap.size W W'):∀(ts:List TypeId) (vs:List Value) (ds:List (DataW H)) (p:List MemPlace),(∀t∈ts,P.readableRec t=true∧t<P.types.size)→
 (∀x∈p,x.block<W.heap.size)→DataW.TrodAll enc P W 0 (fun _=>true) true ts vs ds p→DataW.TrodAll enc P W' 0 (fun b=>decide (b<W.heap.size)) true ts vs ds p
 |[],[],[],_,_,_,h=>h
 |t::ts,v::vs,d::ds,_,hr,hlt,⟨p,q,h,hs,e⟩=>by
  subst e
  obtain⟨h1,h2⟩:=hr t (by simp)
  exact⟨p,q,Below.trod hl h1 h2 h hb (fun x hx=>hlt x (by simp[hx])),QgQ hl hb ts vs ds q (fun t ht=>hr t (by simp[ht])) (fun x hx=>hlt x (by simp[hx])) hs,rfl⟩
 |[],_::_,_,_,_,_,h=>False.elim h
 |[],[],_::_,_,_,_,h=>False.elim h
 |_::_,[],_,_,_,_,h=>False.elim h
 |_::_,_::_,[],_,_,_,h=>False.elim h
theorem Qe9:∀{ts:List TypeId} {vs:List Value} {ds:List (DataW H)} {p:List MemPlace} {sp:Nat→Bool} {held:Bool},DataW.TrodAll enc P W 0 sp held ts vs ds p→ds.length=ts.length
 |[],[],[],_,_,_,_=>rfl
 |t::ts,v::vs,d::ds,_,_,_,⟨p,q,h,hs,e⟩=>by simp[Qe9 hs]
 |[],_::_,_,_,_,_,h=>False.elim h
 |[],[],_::_,_,_,_,h=>False.elim h
 |_::_,[],_,_,_,_,h=>False.elim h
 |_::_,_::_,[],_,_,_,h=>False.elim h
end Go.Proofs.Am
namespace Go.Proofs.Am
open Go Go.RowKit Go.ChangeShapes Go.WideShapes
section
variable {P:Program} {w:World} {g:Gh}
def stepT (P:Program)(S:List TypeId)(t:TypeId):Bool:=
 match P.underlying t with
 |some .bool=>true
 |some (.int _)=>true
 |some .string=>true
 |some (.pointer e)=>QbQ S e&&Nat.blt 0 (P.cellsOf e)
 |some (.slice e)=>QbQ S e&&Nat.blt 0 (P.cellsOf e)
 |some (.struct fs)=>Qfa P 0 fs.toList==some (P.cellsOf t)&&fs.toList.all fun f=>QbQ S f.type
 |some (.array m e)=>Nat.beq (P.cellsOf t) (m*P.cellsOf e)&&QbQ S e
 |_=>false
def QfI (P:Program)(S:List TypeId):Bool:=S.all (stepT P S)
end
def ShC {H:Type}(P:Program):List TypeId→List AV→List (DataW H)→Prop
 |[],[],[]=>True
 |t::ts,x::xs,d::ds=>(∃n ys,Sh P n t ys∧x=QlW P t ys∧avD P n t d=some ys)∧ShC P ts xs ds
 |_,_,_=>False
variable {H:Type} {enc:TypeId×Value→H} {P:Program} {W:World} {g:Gh}
end Go.Proofs.Am
namespace Go.Proofs.Am
open Go Go.RowKit Go.ChangeShapes Go.WideShapes
section
variable {P:Program} {w:World} {g:Gh}
def ShZ (P:Program):Nat→TypeId→List AV→Prop
 |0,_,_=>False
 |n+1,t,xs=>
  match P.underlying t with
  |some .bool=>∃b,xs=[.bool b]
  |some (.int k)=>∃i,xs=[.int k i]∧(Lit.int k i).wf=true
  |some .string=>∃s,xs=[.str s]∧s.size≤reachBytes
  |some (.pointer e)=>xs=[.nilP]∨∃cs,xs=[.snap cs]∧ShZ P n e cs
  |some (.slice e)=>∃ys,xs=[.imm ys]∧ys.length≤maxLen∧ys.length*P.bytesOf e≤reachBytes∧∀y,y∈ys→ShZ P n e y
  |some (.struct fs)=>xs.length=P.cellsOf t∧∀f,f∈fs.toList→ShZ P n f.type ((xs.drop f.offset).take (P.cellsOf f.type))
  |some (.array m e)=>xs.length=P.cellsOf t∧∀i,i<m→ShZ P n e ((xs.drop (i*P.cellsOf e)).take (P.cellsOf e))
  |_=>False
theorem Qe7 {H:Type}{e:TypeId}:∀{l:List (DataW H)} {j:Nat} {d:DataW H},(DataW.weightsAll P e l).all (·≤reachBytes)=true→l[j]? =some d→(d.weights P e).all (·≤reachBytes)=true
 |[],j,d,_,h=>by simp at h
 |x::l,j,d,hw,h=>by
  simp only[DataW.weightsAll,List.all_append,Bool.and_eq_true]at hw
  cases j with
  |zero=>simp at h;subst h;exact hw.1
  |succ j=>exact Qe7 hw.2 (by simpa using h)
theorem QfX {H:Type}:∀{ts:List TypeId} {l:List (DataW H)} {j:Nat} {t:TypeId} {d:DataW H},(DataW.weightsEach P ts l).all (·≤reachBytes)=true→ts[j]? =some t→l[j]? =some d→(d.weights P t).all (·≤reachBytes)=true
 |_,[],j,t,d,_,_,h=>by simp at h
 |[],_::_,j,t,d,_,h,_=>by simp at h
 |u::ts,x::l,j,t,d,hw,ht,h=>by
  simp only[DataW.weightsEach,List.all_append,Bool.and_eq_true]at hw
  cases j with
  |zero=>simp at h ht;subst h;subst ht;exact hw.1
  |succ j=>exact QfX hw.2 (by simpa using ht) (by simpa using h)
theorem QCf {H:Type}:∀{ts us:List TypeId} {l:List (DataW H)},l.length=ts.length→(DataW.weightsEach P (ts++us) (l++[])).all (·≤reachBytes)=true→(DataW.weightsEach P ts l).all (·≤reachBytes)=true
 |[],_,[],_,_=>by simp[DataW.weightsEach]
 |[],_,_::_,h,_=>by simp at h
 |_::_,_,[],h,_=>by simp at h
 |t::ts,us,x::l,h,hw=>by
  simp only[List.cons_append,DataW.weightsEach,List.all_append,Bool.and_eq_true]at hw⊢
  exact⟨hw.1,QCf (by simpa using h) hw.2⟩
theorem QoH {n:Nat}:∀(fs:List Field) (ys:List (List AV)) (o m:Nat) (cs:List Value),Qfa P o fs=some m→m=o+cs.length→ys.length=fs.length→
 (∀(i:Nat) (f:Field) (xs:List AV),fs[i]? =some f→ys[i]? =some xs→ShZ P n f.type xs∧RepL w g xs ((cs.drop (f.offset-o)).take (P.cellsOf f.type)))→
 RepL w g ys.flatten cs∧∀f,f∈fs→o≤f.offset∧ShZ P n f.type ((ys.flatten.drop (f.offset-o)).take (P.cellsOf f.type))
 |[],ys,o,m,cs,ht,hm,hl,_=>by
  simp only[Qfa,Option.some.injEq]at ht
  have:cs=[]:=List.length_eq_zero_iff.1 (by omega)
  subst this
  have:ys=[]:=List.length_eq_zero_iff.1 (by simpa using hl)
  subst this
  exact⟨⟨rfl,fun j c hj=>by simp at hj⟩,fun f hf=>by cases hf⟩
 |f::fs,[],o,m,cs,_,_,hl,_=>by simp at hl
 |f::fs,xs::ys,o,m,cs,ht,hm,hl,hf=>by
  simp only[Qfa]at ht
  split at ht
  ·rename_i ho
   obtain⟨hs,hx⟩:=hf 0 f xs rfl rfl
   rw[ho,Nat.sub_self,List.drop_zero]at hx
   have mono:∀(fs:List Field) (o m:Nat),Qfa P o fs=some m→o≤m:=by
    intro fs
    induction fs with
    |nil=>intro o m h;simp[Qfa]at h;omega
    |cons f fs ih=>
     intro o m h
     simp only[Qfa]at h
     split at h
     ·exact Nat.le_trans (Nat.le_add_right _ _) (ih _ _ h)
     ·cases h
   have ge:∀(fs:List Field) (o m:Nat),Qfa P o fs=some m→∀f,f∈fs→o≤f.offset:=by
    intro fs
    induction fs with
    |nil=>intro o m _ f hf;cases hf
    |cons f' fs ih=>
     intro o m h f hf
     simp only[Qfa]at h
     split at h
     ·rename_i he
      rcases List.mem_cons.1 hf with rfl|hf
      ·omega
      ·exact Nat.le_trans (Nat.le_add_right _ _) (ih _ _ h f hf)
     ·cases h
   have hk:=mono _ _ _ ht
   have hlen:(cs.take (P.cellsOf f.type)).length=P.cellsOf f.type:=by simp;omega
   obtain⟨hy,hz⟩:=QoH (n:=n) fs ys (o+P.cellsOf f.type) m (cs.drop (P.cellsOf f.type)) ht (by simp;omega) (by simpa using hl) (fun i f' zs hf' hz'=>by
    obtain⟨h1,h2⟩:=hf (i+1) f' zs (by simpa using hf') (by simpa using hz')
    have:=ge _ _ _ ht f' (List.mem_of_getElem? hf')
    refine⟨h1,?_⟩
    rw[List.drop_drop]
    rwa[show P.cellsOf f.type+(f'.offset-(o+P.cellsOf f.type))=f'.offset-o by omega])
   have hxl:xs.length=P.cellsOf f.type:=by rw[hx.1,hlen]
   rw[List.flatten_cons]
   refine⟨?_,fun f' hf'=>?_⟩
   ·have:=hx.append hy
    rwa[List.take_append_drop]at this
   ·rcases List.mem_cons.1 hf' with rfl|hf'
    ·refine⟨by omega,?_⟩
     rw[ho,Nat.sub_self,List.drop_zero,List.take_append_of_le_length (by omega),List.take_of_length_le (by omega)]
     exact hs
    ·obtain⟨h1,h2⟩:=hz f' hf'
     refine⟨by omega,?_⟩
     rw[show f'.offset-o=xs.length+(f'.offset-(o+P.cellsOf f.type)) by omega,List.drop_append,List.drop_of_length_le (by omega),List.nil_append,
      show xs.length+(f'.offset-(o+P.cellsOf f.type))-xs.length=f'.offset-(o+P.cellsOf f.type) by omega]
     exact h2
  ·cases ht
theorem Qe4 {n:Nat}{e:TypeId}:∀(ys:List (List AV)) (cs:List Value),cs.length=ys.length*P.cellsOf e→(∀(i:Nat) (xs:List AV),ys[i]? =some xs→ShZ P n e xs∧RepL w g xs ((cs.drop (i*P.cellsOf e)).take (P.cellsOf e)))→
 RepL w g ys.flatten cs∧∀i,i<ys.length→ShZ P n e ((ys.flatten.drop (i*P.cellsOf e)).take (P.cellsOf e))
 |[],cs,hl,_=>by
  have:cs=[]:=List.length_eq_zero_iff.1 (by simpa using hl)
  subst this
  exact⟨⟨rfl,fun j c hj=>by simp at hj⟩,fun i hi=>by simp at hi⟩
 |xs::ys,cs,hl,hf=>by
  have hm:(ys.length+1)*P.cellsOf e=P.cellsOf e+ys.length*P.cellsOf e:=by rw[Nat.add_mul,Nat.one_mul,Nat.add_comm]
  rw[List.length_cons]at hl
  obtain⟨hs,hx⟩:=hf 0 xs rfl
  rw[Nat.zero_mul,List.drop_zero]at hx
  obtain⟨hy,hz⟩:=Qe4 (n:=n) (e:=e) ys (cs.drop (P.cellsOf e)) (by simp;omega) (fun i zs hi=>by
   obtain⟨h1,h2⟩:=hf (i+1) zs (by simpa using hi)
   refine⟨h1,?_⟩
   rw[List.drop_drop]
   rwa[show P.cellsOf e+i*P.cellsOf e=(i+1)*P.cellsOf e by rw[Nat.add_mul,Nat.one_mul,Nat.add_comm]])
  have hxl:xs.length=P.cellsOf e:=by rw[hx.1];simp;omega
  rw[List.flatten_cons]
  refine⟨?_,fun i hi=>?_⟩
  ·have:=hx.append hy
   rwa[List.take_append_drop]at this
  ·cases i with
   |zero=>
    rw[Nat.zero_mul,List.drop_zero,List.take_append_of_le_length (by omega),List.take_of_length_le (by omega)]
    exact hs
   |succ i=>
    rw[show(i+1)*P.cellsOf e=xs.length+i*P.cellsOf e by rw[Nat.add_mul,Nat.one_mul,Nat.add_comm,hxl],List.drop_append,List.drop_of_length_le (by omega),List.nil_append,
     show xs.length+i*P.cellsOf e-xs.length=i*P.cellsOf e by omega]
    exact hz i (by simpa using hi)
theorem QcH {S:List TypeId}(hS:QfI P S=true){H:Type}{enc:TypeId×Value→H}{base:Nat}{sp:Nat→Bool}{held:Bool}(hF:Full w g):∀(n:Nat) (t:TypeId) (fuel:Nat) (cs:List Value) (x:DataW H×List MemPlace),
 fuel≤n→t∈S→(x.1.weights P t).all (·≤reachBytes)=true→DataW.trod enc P w base sp held fuel t cs=some x→∃xs,ShZ P n t xs∧RepL w g xs cs∧avD P n t x.1=some xs
 |0,_,fuel,_,_,hfu,_,_,h=>by
  obtain rfl:fuel=0:=by omega
  simp[DataW.trod]at h
 |n+1,t,fuel,cs,x,hfu,hts,hwt,h=>by
  have hp:=List.all_eq_true.1 hS t hts
  unfold stepT at hp
  cases hu:P.underlying t with
  |none=>rw[hu]at hp;cases hp
  |some d=>
   rw[hu]at hp
   cases d<;>simp only[Bool.false_eq_true]at hp
   case bool=>
    obtain⟨b,rfl,rfl⟩:=DataW.trod_bool hu h
    exact⟨_,by simp only[ShZ,hu];exact⟨_,rfl⟩,RepL.one (.bool _) rfl,by simp only[avD,hu]⟩
   case int k=>
    obtain⟨i,rfl,rfl,hw⟩:=DataW.trod_int hu h
    exact⟨_,by simp only[ShZ,hu];exact⟨_,rfl,hw⟩,RepL.one (.int _ _) rfl,by simp only[avD,hu]⟩
   case string=>
    obtain⟨s,rfl,rfl,hw⟩:=DataW.trod_string hu h
    exact⟨[.str s],by simp only[ShZ,hu];exact⟨_,rfl,by simpa[DataW.weights]using hwt⟩,RepL.one (.str _) rfl,by simp only[avD,hu,Array.toArray_toList]⟩
   case pointer e=>
    simp only[Bool.and_eq_true]at hp
    rcases DataW.trod_pointer hu h with⟨rfl,rfl⟩|⟨a,cs',y,m,hm,rfl,rfl,hc,hd⟩
    ·exact⟨[.nilP],by simp only[ShZ,hu];exact .inl trivial,RepL.one .nilP rfl,by simp only[avD,hu]⟩
    ·obtain⟨xs,h1,h2,h3⟩:=QcH hS hF n e m cs' y (by omega) (Qay.1 hp.1) (by simpa only[DataW.weights,hu]using hwt) hd
     obtain⟨_,hl,hcell⟩:=Qbo hc
     have h0:0<P.cellsOf e:=Nat.le_of_ble_eq_true hp.2
     obtain⟨hs,hr⟩:=Qfe hF h2 (fun j hj=>hcell j (by omega)) (by omega)
     have ha:a=⟨a.block,a.off,none⟩:=by obtain⟨b,off,sp⟩:=a;simp only at hs;subst hs;rfl
     refine⟨[.snap xs],by simp only[ShZ,hu];exact .inr ⟨xs,rfl,h1⟩,RepL.one ?_ rfl,by simp only[avD,hu,h3,Option.bind_some]⟩
     rw[ha];exact hr
   case slice e=>
    simp only[Bool.and_eq_true]at hp
    have h0:0<P.cellsOf e:=Nat.le_of_ble_eq_true hp.2
    rcases DataW.trod_slice hu h with⟨rfl,rfl⟩|⟨a,len,cap,elems,rest,m,hm,rfl,rfl,_,hlc,hcap,hlen,hel,_⟩
    ·exact⟨[.imm []],by simp only[ShZ,hu];exact⟨[],rfl,by simp,by simp,fun y hy=>by cases hy⟩,RepL.one (.imm0 _ _) rfl,by simp only[avD,hu]⟩
    ·have hwt:((elems.map (·.1)).length+(rest.map (·.1)).length)*P.bytesOf e≤reachBytes∧((DataW.weightsAll P e (elems.map (·.1))).all (·≤reachBytes))=true:=by
      simp only[DataW.weights,hu,List.all_cons,List.all_append,Bool.and_eq_true,decide_eq_true_eq]at hwt
      exact⟨hwt.1,hwt.2.1⟩
     have key:∀i,i<len→∃xs:List AV,(∃d,elems[i]? =some d∧avD P n e d.1=some xs)∧ShZ P n e xs∧xs.length=P.cellsOf e∧a.spot=none∧
      Rep w g (.snap xs) (.pointer (some ⟨a.block,a.off+i*P.cellsOf e,none⟩)):=by
      intro i hi
      have:=hel i hi
      rw[List.getElem?_eq_getElem (by omega),Option.bind_eq_some_iff]at this
      obtain⟨vs,hvs,hd⟩:=this
      obtain⟨xs,h1,h2,h3⟩:=QcH hS hF n e m vs _ (by omega) (Qay.1 hp.1) (Qe7 hwt.2 (j:=i) (by rw[List.getElem?_map,List.getElem?_eq_getElem (by omega)];rfl)) hd
      obtain⟨_,hl,hcell⟩:=Qbo hvs
      obtain⟨hs,hr⟩:=Qfe hF h2 (fun j hj=>hcell j (by omega)) (by omega)
      have hs':a.spot=none:=by
       cases hz:i*P.cellsOf e with
       |zero=>rw[hz]at hs;exact hs
       |succ k=>
        have h00:=hel 0 (by omega)
        rw[List.getElem?_eq_getElem (by omega),Option.bind_eq_some_iff]at h00
        obtain⟨vs0,hvs0,_⟩:=h00
        obtain⟨_,_,hcell0⟩:=Qbo hvs0
        obtain⟨u,_,hcl⟩:=hcell0 0 h0
        rw[Nat.zero_mul]at hcl
        exact Qer hcl
      rw[QiK hs']at hr
      exact⟨xs,⟨_,List.getElem?_eq_getElem (by omega),h3⟩,h1,by rw[h2.1,hl],hs',hr⟩
     obtain⟨ys,hyl,hget⟩:=Qd5 len key
     refine⟨[.imm ys],?_,RepL.one ?_ rfl,?_⟩
     ·simp only[ShZ,hu]
      refine⟨ys,rfl,by omega,?_,fun y hy=>?_⟩
      ·refine Nat.le_trans (Nat.mul_le_mul_right _ ?_) hwt.1
       simp only[List.length_map]
       omega
      obtain⟨k,hk⟩:=List.mem_iff_getElem?.1 hy
      exact(hget k y hk).2.1
     ·cases hz:len with
      |zero=>
       have:ys=[]:=List.length_eq_zero_iff.1 (by omega)
       subst this
       exact .imm0 _ _
      |succ l0=>
       have hs:a.spot=none:=by
        have:ys[0]? =some ys[0]:=List.getElem?_eq_getElem (by omega)
        exact(hget 0 _ this).2.2.2.1
       have ha:a=⟨a.block,a.off,none⟩:=by obtain⟨b,off,sp⟩:=a;simp only at hs;subst hs;rfl
       rw[ha,←hz,←hyl]
       refine .imm ys (P.cellsOf e) a.block a.off cap (fun k j=>(Cl w a.block (a.off+k*P.cellsOf e+j)).getD undef) (by omega) (fun k x hx=>(hget k x hx).2.2.1) (fun k x j c hx hj=>?_) (fun k x j c hx hj=>?_)
       ·have:=(hget k x hx).2.2.2.2
        cases this with
        |snap _ _ _ f hc _=>
         obtain⟨h1,h2,h3⟩:=hc j c hj
         exact⟨h1,by rw[h2];rfl,h3⟩
       ·have:=(hget k x hx).2.2.2.2
        cases this with
        |snap _ _ _ f hc hr=>
         obtain⟨_,h2,_⟩:=hc j c hj
         rw[h2];exact hr j c hj
     ·simp only[avD,hu]
      rw[Qa2 (ys:=ys) (by simp;omega) (fun i d y hd hy=>by
       rw[List.getElem?_map]at hd
       obtain⟨d',hd',h3⟩:=(hget i y hy).1
       rw[hd']at hd
       simp only[Option.map_some,Option.some.injEq]at hd
       subst hd;exact h3)]
      rfl
   case struct fs=>
    simp only[Bool.and_eq_true,beq_iff_eq,List.all_eq_true]at hp
    obtain⟨zs,m,hm,rfl,hl,hlen,hf⟩:=DataW.trod_struct hu h
    simp only[DataW.weights,hu]at hwt
    have key:∀i,i<fs.size→∃xs:List AV,∀f,fs[i]? =some f→ShZ P n f.type xs∧RepL w g xs ((cs.drop f.offset).take (P.cellsOf f.type))∧∃d,zs[i]? =some d∧avD P n f.type d.1=some xs:=by
     intro i hi
     have hfi:fs[i]? =some fs[i]:=by simp[hi]
     have:=hf i _ hfi
     rw[List.getElem?_eq_getElem (by omega)]at this
     obtain⟨xs,h1,h2,h3⟩:=QcH hS hF n _ m _ _ (by omega) (Qay.1 (hp.2 _ (by simp))) (QfX hwt (j:=i) (by rw[List.getElem?_map];simp[hi]) (by rw[List.getElem?_map,List.getElem?_eq_getElem (by omega)];rfl)) this
     refine⟨xs,fun f hf'=>?_⟩
     rw[hfi]at hf'
     cases hf'
     exact⟨h1,h2,_,List.getElem?_eq_getElem (by omega),h3⟩
    obtain⟨ys,hyl,hget⟩:=Qd5 _ key
    obtain⟨h1,h2⟩:=QoH (P:=P) (w:=w) (g:=g) (n:=n) fs.toList ys 0 (P.cellsOf t) cs hp.1 (by omega) (by simpa using hyl) (fun i f xs hfi hxi=>by
     obtain⟨k1,k2,_⟩:=hget i xs hxi f (by simpa using hfi)
     rw[Nat.sub_zero]
     exact⟨k1,k2⟩)
    refine⟨ys.flatten,by simp only[ShZ,hu];exact⟨by rw[h1.1,hl],fun f hfm=>by have:=(h2 f hfm).2;rwa[Nat.sub_zero]at this⟩,h1,?_⟩
    simp only[avD,hu]
    rw[Qa2 (ys:=ys) (by simp;omega) (fun i pr y hpr hy=>by
     rw[List.getElem?_zip_eq_some,List.getElem?_map]at hpr
     obtain⟨_,_,d,hd,h3⟩:=hget i y hy pr.1 (by simpa using hpr.1)
     rw[hd]at hpr
     simp only[Option.map_some,Option.some.injEq]at hpr
     rw[←hpr.2];exact h3)]
    rfl
   case array k e=>
    simp only[Bool.and_eq_true]at hp
    obtain⟨zs,m,hm,rfl,hl,hlen,hf⟩:=DataW.trod_array hu h
    simp only[DataW.weights,hu]at hwt
    have hc:=Nat.eq_of_beq_eq_true hp.1
    have key:∀i,i<k→∃xs:List AV,ShZ P n e xs∧RepL w g xs ((cs.drop (i*P.cellsOf e)).take (P.cellsOf e))∧∃d,zs[i]? =some d∧avD P n e d.1=some xs:=by
     intro i hi
     have:=hf i hi
     rw[List.getElem?_eq_getElem (by omega)]at this
     obtain⟨xs,h1,h2,h3⟩:=QcH hS hF n _ m _ _ (by omega) (Qay.1 hp.2) (Qe7 hwt (j:=i) (by rw[List.getElem?_map,List.getElem?_eq_getElem (by omega)];rfl)) this
     exact⟨xs,h1,h2,_,List.getElem?_eq_getElem (by omega),h3⟩
    obtain⟨ys,hyl,hget⟩:=Qd5 _ key
    obtain⟨h1,h2⟩:=Qe4 (P:=P) (w:=w) (g:=g) (n:=n) (e:=e) ys cs (by rw[hyl];omega) (fun i xs hxi=>⟨(hget i xs hxi).1,(hget i xs hxi).2.1⟩)
    refine⟨ys.flatten,by simp only[ShZ,hu];exact⟨by rw[h1.1,hl],fun i hi=>h2 i (by omega)⟩,h1,?_⟩
    simp only[avD,hu]
    rw[Qa2 (ys:=ys) (by simp;omega) (fun i d y hd hy=>by
     rw[List.getElem?_map]at hd
     obtain⟨_,_,d',hd',h3⟩:=hget i y hy
     rw[hd']at hd
     simp only[Option.map_some,Option.some.injEq]at hd
     subst hd;exact h3)]
    rfl
end
def Qpt {H:Type}(P:Program):List TypeId→List AV→List (DataW H)→Prop
 |[],[],[]=>True
 |t::ts,x::xs,d::ds=>(∃n ys,ShZ P n t ys∧x=QlW P t ys∧avD P n t d=some ys)∧Qpt P ts xs ds
 |_,_,_=>False
variable {H:Type} {enc:TypeId×Value→H} {P:Program} {W:World} {g:Gh}
theorem QoA {S:List TypeId}(hS:QfI P S=true){base:Nat}{t:TypeId}{v:Value}{d:DataW H}{p:List MemPlace}{sp:Nat→Bool}{held:Bool}(hF:Full W g)(hp:t∈S)(ha:Qko P t=true)(hwt:(d.weights P t).all (·≤reachBytes)=true)(hok:Value.okWide P W .any base t v)
 (h:DataW.Trod enc P W 0 sp held t v d p):∃n ys,ShZ P n t ys∧Rep W g (QlW P t ys) v∧avD P n t d=some ys:=by
 obtain⟨fuel,hf⟩:=h
 obtain⟨ys,h1,h2,h3⟩:=QcH hS hF fuel t fuel _ _ (Nat.le_refl _) hp hwt hf
 refine⟨fuel,ys,h1,?_,h3⟩
 have hp:=List.all_eq_true.1 hS t hp
 unfold stepT at hp
 unfold Qko at ha
 unfold QlW
 have one:∀(x:AV),ys=[x]→v.cells.toList=[v]→Rep W g (ys.headD .nilI) v:=by
  intro x hx hv
  subst hx
  rw[hv]at h2
  obtain⟨u,hu,hr,_⟩:=h2.2 0 x rfl
  simp at hu
  subst hu
  exact hr
 have head:∀(x:AV),v.cells.toList=[v]→ys.length=1→Rep W g (ys.headD .nilI) v:=by
  intro x hv hl
  match ys,hl with
  |[y],_=>exact one y rfl hv
 cases hu:P.underlying t with
 |none=>rw[hu]at hp;cases hp
 |some dd=>
  rw[hu]at hp ha
  cases dd<;>simp only[Bool.false_eq_true]at hp ha
  case struct fs=>
   obtain⟨cs,rfl,_⟩:=okWide_struct hu hok
   simp only
   have hlen:cs.size=ys.length:=by have:=h2.1;simp[Value.cells]at this;exact this.symm
   exact .agg ys cs hlen (fun j=>cs.getD j undef) (fun j c hj=>by
    obtain⟨u,hu',_,ho⟩:=h2.2 j c hj
    have:cs[j]? =some u:=by simpa[Value.cells]using hu'
    exact⟨by rw[this];simp[Array.getD_eq_getD_getElem?,this],ho⟩) (fun j c hj=>by
    obtain⟨u,hu',hr,_⟩:=h2.2 j c hj
    have:cs[j]? =some u:=by simpa[Value.cells]using hu'
    simp only[Array.getD_eq_getD_getElem?,this,Option.getD_some]
    exact hr)
  all_goals simp only
  all_goals (
   have hv:v.cells.toList=[v]:=by
    first
    |(obtain⟨_,rfl⟩:=okWide_bool hu hok;rfl)
    |(obtain⟨_,rfl⟩:=okWide_int hu hok;rfl)
    |(obtain⟨_,rfl⟩:=okWide_string hu hok;rfl)
    |(obtain⟨_,rfl⟩:=okWide_pointer hu hok;rfl)
    |(obtain⟨_,_,_,rfl⟩:=okWide_slice hu hok;rfl)
   exact head .nilI hv (by rw[h2.1,hv];rfl))
theorem QgR {S:List TypeId}(hS:QfI P S=true){base:Nat}{sp:Nat→Bool}{held:Bool}(hF:Full W g):∀(ts:List TypeId) (vs:List Value) (ds:List (DataW H)) (p:List MemPlace),
 (∀t∈ts,t∈S∧Qko P t=true)→(DataW.weightsEach P ts ds).all (·≤reachBytes)=true→(∀(j:Nat) t v,ts[j]? =some t→vs[j]? =some v→Value.okWide P W .any base t v)→DataW.TrodAll enc P W 0 sp held ts vs ds p→
 ∃xs:List AV,Qpt P ts xs ds∧xs.length=vs.length∧∀(j:Nat) (x:AV),xs[j]? =some x→∃u,vs[j]? =some u∧Rep W g x u
 |[],[],[],_,_,_,_,_=>⟨[],trivial,rfl,fun j x h=>by simp at h⟩
 |t::ts,v::vs,d::ds,_,hp,hwt,hok,⟨p,q,h,hs,_⟩=>by
  simp only[DataW.weightsEach,List.all_append,Bool.and_eq_true]at hwt
  obtain⟨h1,h2⟩:=hp t (by simp)
  obtain⟨n,ys,hy,hr,hd⟩:=QoA hS hF h1 h2 hwt.1 (hok 0 t v rfl rfl) h
  obtain⟨xs,h3,h4,h5⟩:=QgR hS hF ts vs ds q (fun t ht=>hp t (by simp[ht])) hwt.2 (fun j t v hj hv=>hok (j+1) t v (by simpa using hj) (by simpa using hv)) hs
  refine⟨QlW P t ys::xs,⟨⟨n,ys,hy,rfl,hd⟩,h3⟩,by simp[h4],fun j x hj=>?_⟩
  cases j with
  |zero=>simp at hj;subst hj;exact⟨v,rfl,hr⟩
  |succ j=>simp only[List.getElem?_cons_succ]at hj⊢;exact h5 j x hj
 |[],_::_,_,_,_,_,_,h=>False.elim h
 |[],[],_::_,_,_,_,_,h=>False.elim h
 |_::_,[],_,_,_,_,_,h=>False.elim h
 |_::_,_::_,[],_,_,_,_,h=>False.elim h
end Go.Proofs.Am
namespace Go.Proofs.Am
open Go
inductive Ins where
 |mk (op a b v t:Int) (l:List Int) (body els:List Ins) (has:Bool)
def Qah (l:List Int):List (List AV):=l.map fun x=>[.int .i64 x]
mutual
def Qbx:Ins→List AV
 |.mk op a b v t l body els has=>[.int .i64 op,.int .i64 a,.int .i64 b,.int .u64 v,.int .i64 t,.imm (Qah l),.imm (Qam body),.imm (Qam els),.bool has]
def Qam:List Ins→List (List AV)
 |[]=>[]
 |x::xs=>Qbx x::Qam xs
end
theorem QaN:∀l:List Ins,Qam l=l.map Qbx
 |[]=>rfl
 |x::l=>by simp[Qam,QaN l]
theorem QaW (l:List Ins):(Qam l).length=l.length:=by rw[QaN,List.length_map]
theorem Qbe (x:Ins):(Qbx x).length=9:=by cases x;rfl
structure InsT (P:Program) (tI tN tV tL tB tQ:TypeId):Prop where
 hN:P.underlying tN=some (.int .i64)
 hV:P.underlying tV=some (.int .u64)
 hQ:P.underlying tQ=some .bool
 hL:P.underlying tL=some (.slice tN)
 hB:P.underlying tB=some (.slice tI)
 fs:∃fs,P.underlying tI=some (.struct fs)∧fs.toList.map (fun f=>(f.type,f.offset,P.cellsOf f.type))=[(tN,0,1),(tN,1,1),(tN,2,1),(tV,3,1),(tN,4,1),(tL,5,1),(tB,6,1),(tB,7,1),(tQ,8,1)]
 hc:P.cellsOf tI=9
theorem Qhe {A B:Type}{f:A→B}{Q:A→Prop}:∀(zs:List B),(∀z,z∈zs→∃x,z=f x∧Q x)→∃l:List A,zs=l.map f∧∀x,x∈l→Q x
 |[],_=>⟨[],rfl,fun x h=>by cases h⟩
 |z::zs,h=>by
  obtain⟨x,rfl,hx⟩:=h z (by simp)
  obtain⟨l,rfl,hl⟩:=Qhe zs (fun z hz=>h z (by simp[hz]))
  exact⟨x::l,rfl,fun y hy=>by
   rcases List.mem_cons.1 hy with rfl|hy
   ·exact hx
   ·exact hl y hy⟩
theorem QBn {A:Type}{ys:List A}(h:ys.length=9):∃c0 c1 c2 c3 c4 c5 c6 c7 c8,ys=[c0,c1,c2,c3,c4,c5,c6,c7,c8]:=by
 match ys,h with
 |[c0,c1,c2,c3,c4,c5,c6,c7,c8],_=>exact⟨c0,c1,c2,c3,c4,c5,c6,c7,c8,rfl⟩
inductive Fit:Ins→Prop
 |mk (op a b v t:Int) (l:List Int) (body els:List Ins) (has:Bool) (hl:l.length≤maxLen) (hb:body.length≤maxLen) (he:els.length≤maxLen) (h1:∀x,x∈body→Fit x) (h2:∀x,x∈els→Fit x):Fit (.mk op a b v t l body els has)
end Go.Proofs.Am
