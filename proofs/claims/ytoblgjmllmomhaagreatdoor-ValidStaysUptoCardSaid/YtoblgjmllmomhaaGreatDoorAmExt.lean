/-
  Contracts of library functions, as the abstract machine's own calls.
-/
import Derived.Test.YtoblgjmllmomhaaGreatDoorAmFix
import Derived.OpenShut
import Derived.Below
namespace Go.Proofs.Am
open Go
variable {P:Program} {w:World} {g:Gh}
def Full (w:World)(g:Gh):Prop:=∀(b o:Nat) (u:Value),Cl w b o=some u→o<g.sl b
def Qfa (P:Program):Nat→List Field→Option Nat
 |o,[]=>some o
 |o,f::fs=>if f.offset=o then Qfa P (o+P.cellsOf f.type) fs else none
def Qd0 (P:Program):Nat→TypeId→Bool
 |0,_=>false
 |n+1,t=>
  match P.underlying t with
  |some .bool=>true
  |some (.int _)=>true
  |some .string=>true
  |some (.pointer e)=>Qd0 P n e&&Nat.blt 0 (P.cellsOf e)
  |some (.slice e)=>Qd0 P n e&&Nat.blt 0 (P.cellsOf e)
  |some (.struct fs)=>Qfa P 0 fs.toList==some (P.cellsOf t)&&fs.toList.all fun f=>Qd0 P n f.type
  |some (.array m e)=>Nat.beq (P.cellsOf t) (m*P.cellsOf e)&&Qd0 P n e
  |_=>false
def Sh (P:Program):Nat→TypeId→List AV→Prop
 |0,_,_=>False
 |n+1,t,xs=>
  match P.underlying t with
  |some .bool=>∃b,xs=[.bool b]
  |some (.int k)=>∃i,xs=[.int k i]∧(Lit.int k i).wf=true
  |some .string=>∃s,xs=[.str s]∧s.size≤maxLen
  |some (.pointer e)=>xs=[.nilP]∨∃cs,xs=[.snap cs]∧Sh P n e cs
  |some (.slice e)=>∃ys,xs=[.imm ys]∧ys.length≤maxLen∧∀y,y∈ys→Sh P n e y
  |some (.struct fs)=>xs.length=P.cellsOf t∧∀f,f∈fs.toList→Sh P n f.type ((xs.drop f.offset).take (P.cellsOf f.type))
  |some (.array m e)=>xs.length=P.cellsOf t∧∀i,i<m→Sh P n e ((xs.drop (i*P.cellsOf e)).take (P.cellsOf e))
  |_=>False
def RepL (w:World)(g:Gh)(xs:List AV)(cs:List Value):Prop:=
 xs.length=cs.length∧∀(j:Nat) (c:AV),xs[j]? =some c→∃u,cs[j]? =some u∧Rep w g c u∧c.one=true
theorem RepL.one {x:AV}{v:Value}(h:Rep w g x v)(ho:x.one=true):RepL w g [x] [v]:=
 ⟨rfl,fun j c hj=>by
  cases j with
  |zero=>simp at hj;subst hj;exact⟨v,rfl,h,ho⟩
  |succ j=>simp at hj⟩
theorem RepL.append {xs ys:List AV}{cs ds:List Value}(h:RepL w g xs cs)(k:RepL w g ys ds):RepL w g (xs++ys) (cs++ds):=
 ⟨by simp[h.1,k.1],fun j c hj=>by
  by_cases hl:j<xs.length
  ·rw[List.getElem?_append_left hl]at hj
   obtain⟨u,hu,hr⟩:=h.2 j c hj
   exact⟨u,by rw[List.getElem?_append_left (by rw[←h.1];exact hl)];exact hu,hr⟩
  ·rw[List.getElem?_append_right (by omega)]at hj
   obtain⟨u,hu,hr⟩:=k.2 _ c hj
   exact⟨u,by rw[List.getElem?_append_right (by rw[←h.1];omega),←h.1];exact hu,hr⟩⟩
theorem Qh7 {α β:Type}{f:α→Option β}:∀{l:List α} {r:List β},l.mapM f=some r→r.length=l.length∧∀(j:Nat) (x:α),l[j]? =some x→∃y,f x=some y∧r[j]? =some y
 |[],r,h=>by simp at h;subst h;simp
 |a::l,r,h=>by
  simp only[List.mapM_cons,Option.bind_eq_bind,Option.bind_eq_some_iff,Option.pure_def,Option.some.injEq]at h
  obtain⟨b,hb,bs,hbs,rfl⟩:=h
  obtain⟨h1,h2⟩:=Qh7 hbs
  refine⟨by simp[h1],fun j x hj=>?_⟩
  cases j with
  |zero=>simp at hj;subst hj;exact⟨b,hb,rfl⟩
  |succ j=>simp at hj;simpa using h2 j x hj
theorem Qbo {base n:Nat}{a:Addr}{vs:List Value}(h:w.cells? base a n=some vs):base≤a.block∧vs.length=n∧∀j,j<n→∃u,vs[j]? =some u∧w.cell? (a.add j)=some u:=by
 unfold World.cells? at h
 split at h
 ·rename_i hb
  obtain⟨h1,h2⟩:=Qh7 h
  refine⟨hb,by simpa using h1,fun j hj=>?_⟩
  obtain⟨y,hy,hr⟩:=h2 j j (by simp[hj])
  exact⟨y,hr,hy⟩
 ·cases h
theorem Qer {a:Addr}{u:Value}(h:w.cell? a=some u):a.spot=none:=by
 unfold World.cell? at h
 split at h
 ·split at h
  ·cases h
  ·rename_i hs;simpa using hs
 ·cases h
theorem Qd5 {α:Type}{Q:Nat→α→Prop}:∀(n:Nat),(∀i,i<n→∃x,Q i x)→∃ys:List α,ys.length=n∧∀(i:Nat) (x:α),ys[i]? =some x→Q i x
 |0,_=>⟨[],rfl,fun i x h=>by simp at h⟩
 |n+1,h=>by
  obtain⟨ys,h1,h2⟩:=Qd5 n (fun i hi=>h i (by omega))
  obtain⟨y,hy⟩:=h n (by omega)
  refine⟨ys++[y],by simp[h1],fun i x hx=>?_⟩
  by_cases hi:i<ys.length
  ·rw[List.getElem?_append_left hi]at hx;exact h2 i x hx
  ·rw[List.getElem?_append_right (by omega)]at hx
   cases hk:i-ys.length with
   |zero=>rw[hk]at hx;simp at hx;subst hx;rw[show i=n by omega];exact hy
   |succ k=>rw[hk]at hx;simp at hx
theorem Qa2 {α β:Type}{f:α→Option β}:∀{l:List α} {ys:List β},ys.length=l.length→(∀(i:Nat) (x:α) (y:β),l[i]? =some x→ys[i]? =some y→f x=some y)→l.mapM f=some ys
 |[],ys,hl,_=>by have:ys=[]:=List.length_eq_zero_iff.1 (by simpa using hl);subst this;simp
 |a::l,[],hl,_=>by simp at hl
 |a::l,y::ys,hl,h=>by
  have h0:=h 0 a y rfl rfl
  have h1:=Qa2 (f:=f) (l:=l) (ys:=ys) (by simpa using hl) (fun i x z hx hz=>h (i+1) x z (by simpa using hx) (by simpa using hz))
  simp[List.mapM_cons,h0,h1]
def avD {H:Type}(P:Program):Nat→TypeId→DataW H→Option (List AV)
 |0,_,_=>none
 |n+1,t,d=>
  match P.underlying t,d with
  |some .bool,.lit (.bool b)=>some [.bool b]
  |some (.int _),.lit (.int k i)=>some [.int k i]
  |some .string,.lit (.string s)=>some [.str ⟨s.toArray⟩]
  |some (.pointer _),.nil=>some [.nilP]
  |some (.pointer e),.ptr d=>(avD P n e d).bind fun cs=>some [.snap cs]
  |some (.slice _),.nil=>some [.imm []]
  |some (.slice e),.slice es _=>(es.mapM fun d=>avD P n e d).bind fun ys=>some [.imm ys]
  |some (.struct fs),.agg ds=>((List.zip fs.toList ds).mapM fun p=>avD P n p.1.type p.2).bind fun ys=>some ys.flatten
  |some (.array _ e),.agg ds=>(ds.mapM fun d=>avD P n e d).bind fun ys=>some ys.flatten
  |_,_=>none
theorem tiled {n:Nat}:∀(fs:List Field) (ys:List (List AV)) (o m:Nat) (cs:List Value),Qfa P o fs=some m→m=o+cs.length→ys.length=fs.length→
 (∀(i:Nat) (f:Field) (xs:List AV),fs[i]? =some f→ys[i]? =some xs→Sh P n f.type xs∧RepL w g xs ((cs.drop (f.offset-o)).take (P.cellsOf f.type)))→
 RepL w g ys.flatten cs∧∀f,f∈fs→o≤f.offset∧Sh P n f.type ((ys.flatten.drop (f.offset-o)).take (P.cellsOf f.type))
 |[],ys,o,m,cs,ht,hm,hl,_=>by
  simp only[Qfa,Option.some.injEq]at ht
  have:cs=[]:=List.length_eq_zero_iff.1 (by omega)
  subst this
  have:ys=[]:=List.length_eq_zero_iff.1 (by simpa using hl)
  subst this
  exact⟨⟨rfl,fun j c hj=>by simp at hj⟩,fun f hf=>by cases hf⟩
 |f::fs,[],o,m,cs,_,_,hl,_=>by simp at hl
 |f::fs,xs::ys,o,m,cs,ht,hm,hl,hf=>by
  simp only[Qfa]at ht
  split at ht
  ·rename_i ho
   obtain⟨hs,hx⟩:=hf 0 f xs rfl rfl
   rw[ho,Nat.sub_self,List.drop_zero]at hx
   have mono:∀(fs:List Field) (o m:Nat),Qfa P o fs=some m→o≤m:=by
    intro fs
    induction fs with
    |nil=>intro o m h;simp[Qfa]at h;omega
    |cons f fs ih=>
     intro o m h
     simp only[Qfa]at h
     split at h
     ·exact Nat.le_trans (Nat.le_add_right _ _) (ih _ _ h)
     ·cases h
   have ge:∀(fs:List Field) (o m:Nat),Qfa P o fs=some m→∀f,f∈fs→o≤f.offset:=by
    intro fs
    induction fs with
    |nil=>intro o m _ f hf;cases hf
    |cons f' fs ih=>
     intro o m h f hf
     simp only[Qfa]at h
     split at h
     ·rename_i he
      rcases List.mem_cons.1 hf with rfl|hf
      ·omega
      ·exact Nat.le_trans (Nat.le_add_right _ _) (ih _ _ h f hf)
     ·cases h
   have hk:=mono _ _ _ ht
   have hlen:(cs.take (P.cellsOf f.type)).length=P.cellsOf f.type:=by simp;omega
   obtain⟨hy,hz⟩:=tiled (n:=n) fs ys (o+P.cellsOf f.type) m (cs.drop (P.cellsOf f.type)) ht (by simp;omega) (by simpa using hl) (fun i f' zs hf' hz'=>by
    obtain⟨h1,h2⟩:=hf (i+1) f' zs (by simpa using hf') (by simpa using hz')
    have:=ge _ _ _ ht f' (List.mem_of_getElem? hf')
    refine⟨h1,?_⟩
    rw[List.drop_drop]
    rwa[show P.cellsOf f.type+(f'.offset-(o+P.cellsOf f.type))=f'.offset-o by omega])
   have hxl:xs.length=P.cellsOf f.type:=by rw[hx.1,hlen]
   rw[List.flatten_cons]
   refine⟨?_,fun f' hf'=>?_⟩
   ·have:=hx.append hy
    rwa[List.take_append_drop]at this
   ·rcases List.mem_cons.1 hf' with rfl|hf'
    ·refine⟨by omega,?_⟩
     rw[ho,Nat.sub_self,List.drop_zero,List.take_append_of_le_length (by omega),List.take_of_length_le (by omega)]
     exact hs
    ·obtain⟨h1,h2⟩:=hz f' hf'
     refine⟨by omega,?_⟩
     rw[show f'.offset-o=xs.length+(f'.offset-(o+P.cellsOf f.type)) by omega,List.drop_append,List.drop_of_length_le (by omega),List.nil_append,
      show xs.length+(f'.offset-(o+P.cellsOf f.type))-xs.length=f'.offset-(o+P.cellsOf f.type) by omega]
     exact h2
  ·cases ht
theorem Qfe {xs:List AV}{vs:List Value}{a:Addr}(hF:Full w g)(hx:RepL w g xs vs)(hc:∀j,j<vs.length→∃u,vs[j]? =some u∧w.cell? (a.add j)=some u)(h0:0<vs.length):
 a.spot=none∧Rep w g (.snap xs) (.pointer (some ⟨a.block,a.off,none⟩)):=by
 have hs:a.spot=none:=by
  obtain⟨u,_,hu⟩:=hc 0 h0
  rw[Addr.add,if_pos rfl]at hu
  exact Qer hu
 refine⟨hs,.snap xs a.block a.off (fun j=>vs.getD j undef) (fun j c hj=>?_) (fun j c hj=>?_)⟩
 ·obtain⟨u,hu,_,ho⟩:=hx.2 j c hj
  have hlt:j<vs.length:=(List.getElem?_eq_some_iff.1 hu).1
  obtain⟨u',hu',hcell⟩:=hc j hlt
  rw[hu]at hu'
  cases hu'
  have hcl:Cl w a.block (a.off+j)=some u:=by
   obtain⟨b,off,sp⟩:=a
   simp only at hs;subst hs
   cases j with
   |zero=>simpa[Addr.add,Cl]using hcell
   |succ j=>simpa[Addr.add,Cl]using hcell
  refine⟨hF _ _ _ hcl,?_,ho⟩
  rw[hcl,List.getD_eq_getElem?_getD,hu];rfl
 ·obtain⟨u,hu,hr,_⟩:=hx.2 j c hj
  rw[List.getD_eq_getElem?_getD,hu];exact hr
theorem QiK {a:Addr}(hs:a.spot=none)(k:Nat):a.add k=⟨a.block,a.off+k,none⟩:=by
 obtain⟨b,off,sp⟩:=a
 simp only at hs;subst hs
 cases k<;>simp[Addr.add]
theorem QgP {n:Nat}{e:TypeId}:∀(ys:List (List AV)) (cs:List Value),cs.length=ys.length*P.cellsOf e→(∀(i:Nat) (xs:List AV),ys[i]? =some xs→Sh P n e xs∧RepL w g xs ((cs.drop (i*P.cellsOf e)).take (P.cellsOf e)))→
 RepL w g ys.flatten cs∧∀i,i<ys.length→Sh P n e ((ys.flatten.drop (i*P.cellsOf e)).take (P.cellsOf e))
 |[],cs,hl,_=>by
  have:cs=[]:=List.length_eq_zero_iff.1 (by simpa using hl)
  subst this
  exact⟨⟨rfl,fun j c hj=>by simp at hj⟩,fun i hi=>by simp at hi⟩
 |xs::ys,cs,hl,hf=>by
  have hm:(ys.length+1)*P.cellsOf e=P.cellsOf e+ys.length*P.cellsOf e:=by rw[Nat.add_mul,Nat.one_mul,Nat.add_comm]
  rw[List.length_cons]at hl
  obtain⟨hs,hx⟩:=hf 0 xs rfl
  rw[Nat.zero_mul,List.drop_zero]at hx
  obtain⟨hy,hz⟩:=QgP (n:=n) (e:=e) ys (cs.drop (P.cellsOf e)) (by simp;omega) (fun i zs hi=>by
   obtain⟨h1,h2⟩:=hf (i+1) zs (by simpa using hi)
   refine⟨h1,?_⟩
   rw[List.drop_drop]
   rwa[show P.cellsOf e+i*P.cellsOf e=(i+1)*P.cellsOf e by rw[Nat.add_mul,Nat.one_mul,Nat.add_comm]])
  have hxl:xs.length=P.cellsOf e:=by rw[hx.1];simp;omega
  rw[List.flatten_cons]
  refine⟨?_,fun i hi=>?_⟩
  ·have:=hx.append hy
   rwa[List.take_append_drop]at this
  ·cases i with
   |zero=>
    rw[Nat.zero_mul,List.drop_zero,List.take_append_of_le_length (by omega),List.take_of_length_le (by omega)]
    exact hs
   |succ i=>
    rw[show(i+1)*P.cellsOf e=xs.length+i*P.cellsOf e by rw[Nat.add_mul,Nat.one_mul,Nat.add_comm,hxl],List.drop_append,List.drop_of_length_le (by omega),List.nil_append,
     show xs.length+i*P.cellsOf e-xs.length=i*P.cellsOf e by omega]
    exact hz i (by simpa using hi)
theorem QdS {H:Type}{enc:TypeId×Value→H}{base:Nat}{sp:Nat→Bool}{held:Bool}(hF:Full w g):∀(n:Nat) (t:TypeId) (fuel:Nat) (cs:List Value) (x:DataW H×List MemPlace),
 Qd0 P n t=true→DataW.trod enc P w base sp held fuel t cs=some x→∃xs,Sh P n t xs∧RepL w g xs cs∧avD P n t x.1=some xs
 |0,_,_,_,_,h,_=>by cases h
 |n+1,t,fuel,cs,x,hp,h=>by
  simp only[Qd0]at hp
  cases hu:P.underlying t with
  |none=>rw[hu]at hp;cases hp
  |some d=>
   rw[hu]at hp
   cases d<;>simp only[Bool.false_eq_true]at hp
   case bool=>
    obtain⟨b,rfl,rfl⟩:=DataW.trod_bool hu h
    exact⟨_,by simp only[Sh,hu];exact⟨_,rfl⟩,RepL.one (.bool _) rfl,by simp only[avD,hu]⟩
   case int k=>
    obtain⟨i,rfl,rfl,hw⟩:=DataW.trod_int hu h
    exact⟨_,by simp only[Sh,hu];exact⟨_,rfl,hw⟩,RepL.one (.int _ _) rfl,by simp only[avD,hu]⟩
   case string=>
    obtain⟨s,rfl,rfl,hw⟩:=DataW.trod_string hu h
    exact⟨[.str s],by simp only[Sh,hu];exact⟨_,rfl,hw⟩,RepL.one (.str _) rfl,by simp only[avD,hu,Array.toArray_toList]⟩
   case pointer e=>
    simp only[Bool.and_eq_true]at hp
    rcases DataW.trod_pointer hu h with⟨rfl,rfl⟩|⟨a,cs',y,m,_,rfl,rfl,hc,hd⟩
    ·exact⟨[.nilP],by simp only[Sh,hu];exact .inl trivial,RepL.one .nilP rfl,by simp only[avD,hu]⟩
    ·obtain⟨xs,h1,h2,h3⟩:=QdS hF n e m cs' y hp.1 hd
     obtain⟨_,hl,hcell⟩:=Qbo hc
     have h0:0<P.cellsOf e:=Nat.le_of_ble_eq_true hp.2
     obtain⟨hs,hr⟩:=Qfe hF h2 (fun j hj=>hcell j (by omega)) (by omega)
     have ha:a=⟨a.block,a.off,none⟩:=by obtain⟨b,off,sp⟩:=a;simp only at hs;subst hs;rfl
     refine⟨[.snap xs],by simp only[Sh,hu];exact .inr ⟨xs,rfl,h1⟩,RepL.one ?_ rfl,by simp only[avD,hu,h3,Option.bind_some]⟩
     rw[ha];exact hr
   case slice e=>
    simp only[Bool.and_eq_true]at hp
    have h0:0<P.cellsOf e:=Nat.le_of_ble_eq_true hp.2
    rcases DataW.trod_slice hu h with⟨rfl,rfl⟩|⟨a,len,cap,elems,rest,m,_,rfl,rfl,_,hlc,hcap,hlen,hel,_⟩
    ·exact⟨[.imm []],by simp only[Sh,hu];exact⟨[],rfl,by simp,fun y hy=>by cases hy⟩,RepL.one (.imm0 _ _) rfl,by simp only[avD,hu]⟩
    ·have key:∀i,i<len→∃xs:List AV,(∃d,elems[i]? =some d∧avD P n e d.1=some xs)∧Sh P n e xs∧xs.length=P.cellsOf e∧a.spot=none∧
      Rep w g (.snap xs) (.pointer (some ⟨a.block,a.off+i*P.cellsOf e,none⟩)):=by
      intro i hi
      have:=hel i hi
      rw[List.getElem?_eq_getElem (by omega),Option.bind_eq_some_iff]at this
      obtain⟨vs,hvs,hd⟩:=this
      obtain⟨xs,h1,h2,h3⟩:=QdS hF n e m vs _ hp.1 hd
      obtain⟨_,hl,hcell⟩:=Qbo hvs
      obtain⟨hs,hr⟩:=Qfe hF h2 (fun j hj=>hcell j (by omega)) (by omega)
      have hs':a.spot=none:=by
       cases hz:i*P.cellsOf e with
       |zero=>rw[hz]at hs;exact hs
       |succ k=>
        have h00:=hel 0 (by omega)
        rw[List.getElem?_eq_getElem (by omega),Option.bind_eq_some_iff]at h00
        obtain⟨vs0,hvs0,_⟩:=h00
        obtain⟨_,_,hcell0⟩:=Qbo hvs0
        obtain⟨u,_,hcl⟩:=hcell0 0 h0
        rw[Nat.zero_mul]at hcl
        exact Qer hcl
      rw[QiK hs']at hr
      exact⟨xs,⟨_,List.getElem?_eq_getElem (by omega),h3⟩,h1,by rw[h2.1,hl],hs',hr⟩
     obtain⟨ys,hyl,hget⟩:=Qd5 len key
     refine⟨[.imm ys],?_,RepL.one ?_ rfl,?_⟩
     ·simp only[Sh,hu]
      refine⟨ys,rfl,by omega,fun y hy=>?_⟩
      obtain⟨k,hk⟩:=List.mem_iff_getElem?.1 hy
      exact(hget k y hk).2.1
     ·cases hz:len with
      |zero=>
       have:ys=[]:=List.length_eq_zero_iff.1 (by omega)
       subst this
       exact .imm0 _ _
      |succ l0=>
       have hs:a.spot=none:=by
        have:ys[0]? =some ys[0]:=List.getElem?_eq_getElem (by omega)
        exact(hget 0 _ this).2.2.2.1
       have ha:a=⟨a.block,a.off,none⟩:=by obtain⟨b,off,sp⟩:=a;simp only at hs;subst hs;rfl
       rw[ha,←hz,←hyl]
       refine .imm ys (P.cellsOf e) a.block a.off cap (fun k j=>(Cl w a.block (a.off+k*P.cellsOf e+j)).getD undef) (by omega) (fun k x hx=>(hget k x hx).2.2.1) (fun k x j c hx hj=>?_) (fun k x j c hx hj=>?_)
       ·have:=(hget k x hx).2.2.2.2
        cases this with
        |snap _ _ _ f hc _=>
         obtain⟨h1,h2,h3⟩:=hc j c hj
         exact⟨h1,by rw[h2];rfl,h3⟩
       ·have:=(hget k x hx).2.2.2.2
        cases this with
        |snap _ _ _ f hc hr=>
         obtain⟨_,h2,_⟩:=hc j c hj
         rw[h2];exact hr j c hj
     ·simp only[avD,hu]
      rw[Qa2 (ys:=ys) (by simp;omega) (fun i d y hd hy=>by
       rw[List.getElem?_map]at hd
       obtain⟨d',hd',h3⟩:=(hget i y hy).1
       rw[hd']at hd
       simp only[Option.map_some,Option.some.injEq]at hd
       subst hd;exact h3)]
      rfl
   case struct fs=>
    simp only[Bool.and_eq_true,beq_iff_eq,List.all_eq_true]at hp
    obtain⟨zs,m,_,rfl,hl,hlen,hf⟩:=DataW.trod_struct hu h
    have key:∀i,i<fs.size→∃xs:List AV,∀f,fs[i]? =some f→Sh P n f.type xs∧RepL w g xs ((cs.drop f.offset).take (P.cellsOf f.type))∧∃d,zs[i]? =some d∧avD P n f.type d.1=some xs:=by
     intro i hi
     have hfi:fs[i]? =some fs[i]:=by simp[hi]
     have:=hf i _ hfi
     rw[List.getElem?_eq_getElem (by omega)]at this
     obtain⟨xs,h1,h2,h3⟩:=QdS hF n _ m _ _ (hp.2 _ (by simp)) this
     refine⟨xs,fun f hf'=>?_⟩
     rw[hfi]at hf'
     cases hf'
     exact⟨h1,h2,_,List.getElem?_eq_getElem (by omega),h3⟩
    obtain⟨ys,hyl,hget⟩:=Qd5 _ key
    obtain⟨h1,h2⟩:=tiled (P:=P) (w:=w) (g:=g) (n:=n) fs.toList ys 0 (P.cellsOf t) cs hp.1 (by omega) (by simpa using hyl) (fun i f xs hfi hxi=>by
     obtain⟨k1,k2,_⟩:=hget i xs hxi f (by simpa using hfi)
     rw[Nat.sub_zero]
     exact⟨k1,k2⟩)
    refine⟨ys.flatten,by simp only[Sh,hu];exact⟨by rw[h1.1,hl],fun f hfm=>by have:=(h2 f hfm).2;rwa[Nat.sub_zero]at this⟩,h1,?_⟩
    simp only[avD,hu]
    rw[Qa2 (ys:=ys) (by simp;omega) (fun i pr y hpr hy=>by
     rw[List.getElem?_zip_eq_some,List.getElem?_map]at hpr
     obtain⟨_,_,d,hd,h3⟩:=hget i y hy pr.1 (by simpa using hpr.1)
     rw[hd]at hpr
     simp only[Option.map_some,Option.some.injEq]at hpr
     rw[←hpr.2];exact h3)]
    rfl
   case array k e=>
    simp only[Bool.and_eq_true]at hp
    obtain⟨zs,m,_,rfl,hl,hlen,hf⟩:=DataW.trod_array hu h
    have hc:=Nat.eq_of_beq_eq_true hp.1
    have key:∀i,i<k→∃xs:List AV,Sh P n e xs∧RepL w g xs ((cs.drop (i*P.cellsOf e)).take (P.cellsOf e))∧∃d,zs[i]? =some d∧avD P n e d.1=some xs:=by
     intro i hi
     have:=hf i hi
     rw[List.getElem?_eq_getElem (by omega)]at this
     obtain⟨xs,h1,h2,h3⟩:=QdS hF n _ m _ _ hp.2 this
     exact⟨xs,h1,h2,_,List.getElem?_eq_getElem (by omega),h3⟩
    obtain⟨ys,hyl,hget⟩:=Qd5 _ key
    obtain⟨h1,h2⟩:=QgP (P:=P) (w:=w) (g:=g) (n:=n) (e:=e) ys cs (by rw[hyl];omega) (fun i xs hxi=>⟨(hget i xs hxi).1,(hget i xs hxi).2.1⟩)
    refine⟨ys.flatten,by simp only[Sh,hu];exact⟨by rw[h1.1,hl],fun i hi=>h2 i (by omega)⟩,h1,?_⟩
    simp only[avD,hu]
    rw[Qa2 (ys:=ys) (by simp;omega) (fun i d y hd hy=>by
     rw[List.getElem?_map]at hd
     obtain⟨_,_,d',hd',h3⟩:=hget i y hy
     rw[hd']at hd
     simp only[Option.map_some,Option.some.injEq]at hd
     subst hd;exact h3)]
    rfl
end Go.Proofs.Am
namespace Go.Proofs.Am
open Go Go.RowKit
variable {cx:Cx}
def QdH (w:World):Gh:={sl:=fun b=>(bsz w b).getD 0,own:=fun _=>.oth,nb:=0,bm:=fun _=>0}
theorem Qob (w:World):Wf w (QdH w):=by
 refine⟨fun _ _=>rfl,fun b hb=>?_,fun b h=>absurd rfl h⟩
 simp only[QdH,bsz]
 rw[Array.getElem?_eq_none hb]
 rfl
theorem Qdl (w:World):Full w (QdH w):=by
 intro b o u h
 simp only[Cl,World.cell?]at h
 cases hb:w.heap[b]? with
 |none=>rw[hb]at h;cases h
 |some ob=>
  rw[hb]at h
  cases ob<;>simp only[reduceCtorEq]at h
  rename_i c e fz
  simp only[Option.isSome_none,Bool.false_eq_true,if_false]at h
  simp only[QdH,bsz,hb,Option.getD_some]
  exact(Array.getElem?_eq_some_iff.1 h).1
theorem QkB (hC:CxOk cx){f:FuncId}{fn:Func}{c:Code}(hf:cx.P.funcs[f]? =some fn)(hb:fn.body=some c)(hcut:cutAt cx f [.code c]=none){w:World}(hG:GOk cx w (QdH w))
 {xs:List AV}{vs:Array Value}(hl:vs.size=xs.length)(hx:∀(j:Nat) (x:AV),xs[j]? =some x→∃u,vs[j]? =some u∧Rep w (QdH w) x u){x:AV}{h':Heap}
 (hr:blk cx f [.code c] (xs.map .v) Heap.nil=some (.v x,h')):
 Calls cx.P f vs w fun e w'=>∃v g',e=.returned v∧Rep w' g' x v∧Below w.heap.size w w':=by
 have s0:SR fn.ntmps (QgV (xs.map .v) Heap.nil) {tmps:=vs++Array.replicate (fn.ntmps-vs.size) undef,defers:=[]} w (QdH w) (fun _=>0):=
  SR.enter (Qob w) ⟨rfl,fun id bx hid=>by simp[Heap.nil]at hid⟩ (by simpa using hl) (fun j y hj=>by
   rw[List.getElem?_map]at hj
   cases hxj:xs[j]? with
   |none=>rw[hxj]at hj;cases hj
   |some z=>
    rw[hxj]at hj
    simp only[Option.map_some,Option.some.injEq]at hj
    subst hj
    exact hx j z hxj)
 refine(Qa4 (QiD hC) hf hb hcut hr s0 hG).mono ?_
 rintro e w' ⟨v,rfl,g',_,t,_,hv⟩
 exact⟨v,g',rfl,hv,t.os,t.tape,t.output,t.size,fun k hk=>(t.oth k hk rfl).1⟩
theorem QnX (hC:CxOk cx){f:FuncId}{fn:Func}{c:Code}(hf:cx.P.funcs[f]? =some fn)(hb:fn.body=some c)(hcut:cutAt cx f [.code c]=none){w:World}(hG:GOk cx w (QdH w))
 {xs:List AV}{vs:Array Value}(hl:vs.size=xs.length)(hx:∀(j:Nat) (x:AV),xs[j]? =some x→∃u,vs[j]? =some u∧Rep w (QdH w) x u){h':Heap}
 (hr:blk cx f [.code c] (xs.map .v) Heap.nil=some (.v (.bool true),h')):
 Calls cx.P f vs w fun e w'=>e=.returned (.bool true)∧Below w.heap.size w w':=
 (QkB hC hf hb hcut hG hl hx hr).mono (by
  rintro e w' ⟨v,g',rfl,hv,hbel⟩
  cases hv
  exact⟨rfl,hbel⟩)
theorem Qqh {P:Program}{w:World}{g:Gh}(hF:Full w g){H:Type}{enc:TypeId×Value→H}{sp:Nat→Bool}{held:Bool}{n fuel:Nat}{t:TypeId}{name:String}{gi:Nat}{cs:Array Value}{x:DataW H×List MemPlace}
 (hg:P.globalNamed name=some gi)(hv:w.var? P name=some cs)(hp:Qd0 P n t=true)(hd:DataW.trod enc P w 0 sp held fuel t cs.toList=some x):
 ∃xs,Sh P n t xs∧avD P n t x.1=some xs∧Rep w g (.snap xs) (.pointer (some ⟨gi,0,none⟩)):=by
 obtain⟨xs,h1,h2,h3⟩:=QdS hF n t fuel _ _ hp hd
 refine⟨xs,h1,h3,.snap xs gi 0 (fun j=>cs.getD j undef) (fun j c hj=>?_) (fun j c hj=>?_)⟩
 ·obtain⟨u,hu,_,ho⟩:=h2.2 j c hj
  have hcell:=World.var?_cell hg hv j
  have hu':cs[j]? =some u:=by simpa using hu
  rw[hu']at hcell
  refine⟨hF _ _ u (by rw[Nat.zero_add];exact hcell),?_,ho⟩
  rw[Nat.zero_add]
  simp only[Array.getD_eq_getD_getElem?,hu',Option.getD_some]
  exact hcell
 ·obtain⟨u,hu,hr,_⟩:=h2.2 j c hj
  have hu':cs[j]? =some u:=by simpa using hu
  simp only[Array.getD_eq_getD_getElem?,hu',Option.getD_some]
  exact hr
end Go.Proofs.Am
namespace Go.Proofs.Am
open Go
variable {cx:Cx}
def QcW (w:World)(g:Gh)(n:Nat):Gh:={g with sl:=upd g.sl w.heap.size n}
theorem Qg4 {w:World}{g:Gh}(wf:Wf w g)(o:Obj)(n:Nat):Le w g (w.alloc o) (QcW w g n):=by
 refine⟨fun b=>?_,fun b j hj=>?_,Nat.le_refl _,fun _ _=>rfl,fun b k hb=>?_⟩
 ·by_cases e:b=w.heap.size
  ·subst e;rw[wf.sl _ (Nat.le_refl _)];exact Nat.zero_le _
  ·simp only[QcW];rw[Qao _ _ e];exact Nat.le_refl _
 ·have hb:b<w.heap.size:=by
   rcases Nat.lt_or_ge b w.heap.size with h|h
   ·exact h
   ·rw[wf.sl b h]at hj;omega
  exact Qau (QaB w o hb)
 ·rw[Qak (QaB w o (Qc9 hb))];exact hb
theorem Qq7 {w:World}{g:Gh}(wf:Wf w g)(o:Obj)(n:Nat):Tr w g (w.alloc o) (QcW w g n):=
 ⟨Qg4 wf o n,by simp,fun b hb h=>⟨QaB w o hb,h,by simp only[QcW];rw[Qao _ _ (by omega)]⟩,rfl,rfl,rfl⟩
theorem Qq8 {w:World}{g:Gh}(wf:Wf w g)(o:Obj)(n:Nat)(hd:Hd):Kp w g (w.alloc o) (QcW w g n) hd:=
 ⟨Qg4 wf o n,fun b hb h=>⟨QaB w o hb,h,by simp only[QcW];rw[Qao _ _ (by omega)]⟩⟩
theorem Qq6 {w:World}{g:Gh}(wf:Wf w g)(o:Obj)(n:Nat):Wf (w.alloc o) (QcW w g n):=by
 refine⟨fun b hb=>wf.own b (by simp at hb;omega),fun b hb=>?_,fun b hb=>?_⟩
 ·simp at hb
  simp only[QcW];rw[Qao _ _ (by omega)];exact wf.sl b (by omega)
 ·have hlt:b<w.heap.size:=by
   rcases Nat.lt_or_ge b w.heap.size with h|h
   ·exact h
   ·exact absurd (wf.own b h) hb
  obtain⟨k,h1,h2⟩:=wf.fit b hb
  exact⟨k,by rw[Qak (QaB w o hlt)];exact h1,by simp only[QcW];rw[Qao _ _ (by omega)];exact h2⟩
theorem QgA {f:FuncId}{e:List LV→Option LV}
 (h:∀(xs:List LV) (x:LV),e xs=some x→∀(w:World) (g:Gh) (vs:Array Value),Wf w g→GOk cx w g→vs.size=xs.length→
  (∀(j:Nat) (y:LV),xs[j]? =some y→∃p u,y=.v p∧vs[j]? =some u∧Rep w g p u)→
  ∃a v,x=.v a∧Rep w g a v∧Calls cx.P f vs w fun e w'=>e=.returned v∧w'=w):ExtOk cx f e:=by
 intro xs x hx w g vs wf hG hl hr
 obtain⟨a,v,rfl,hv,hc⟩:=h xs x hx w g vs wf hG hl hr
 refine hc.mono ?_
 rintro e w' ⟨rfl,rfl⟩
 exact⟨v,g,rfl,wf,rfl,Tr.refl _ _,fun hd _ _=>Kp.refl _ _ hd,hv⟩
theorem Qle {f:FuncId}{e:List LV→Option LV}
 (h:∀(xs:List LV) (x:LV),e xs=some x→∀(w:World) (g:Gh) (vs:Array Value),Wf w g→GOk cx w g→vs.size=xs.length→
  (∀(j:Nat) (y:LV),xs[j]? =some y→∃p u,y=.v p∧vs[j]? =some u∧Rep w g p u)→
  ∃(as:List AV) (us:List Value) (t:TypeId),x=.v (.imm (as.map fun a=>[a]))∧us.length=as.length∧
   (∀(j:Nat) (a:AV),as[j]? =some a→∃u,us[j]? =some u∧Rep w g a u∧a.one=true)∧
   Calls cx.P f vs w fun e w'=>e=.returned (.slice (some ⟨w.heap.size,0,none⟩) us.length us.length)∧w'=w.alloc (.cells us.toArray t)):ExtOk cx f e:=by
 intro xs x hx w g vs wf hG hl hr
 obtain⟨as,us,t,rfl,hlen,hv,hc⟩:=h xs x hx w g vs wf hG hl hr
 refine hc.mono ?_
 rintro e w' ⟨rfl,rfl⟩
 refine⟨_,QcW w g us.length,rfl,Qq6 wf _ _,rfl,Qq7 wf _ _,fun hd _ _=>Qq8 wf _ _ hd,?_⟩
 have hnew:=QaF w (.cells us.toArray t)
 have hget:∀(k:Nat) (x:List AV) (j:Nat) (c:AV),(as.map fun a=>[a])[k]? =some x→x[j]? =some c→j=0∧as[k]? =some c:=by
  intro k x j c hk hj
  rw[List.getElem?_map]at hk
  cases ha:as[k]? with
  |none=>rw[ha]at hk;cases hk
  |some a=>
   rw[ha]at hk
   simp only[Option.map_some,Option.some.injEq]at hk
   subst hk
   cases j with
   |zero=>simp at hj;subst hj;exact⟨rfl,rfl⟩
   |succ j=>simp at hj
 have hcell:∀(k:Nat) (c:AV),as[k]? =some c→0+k*1+0<(QcW w g us.length).sl w.heap.size∧Cl (w.alloc (.cells us.toArray t)) w.heap.size (0+k*1+0)=some (us.getD k undef)∧c.one=true∧
  Rep (w.alloc (.cells us.toArray t)) (QcW w g us.length) c (us.getD k undef):=by
  intro k c hk
  obtain⟨u,hu,hrep,ho⟩:=hv k c hk
  have hlt:k<us.length:=(List.getElem?_eq_some_iff.1 hu).1
  have hg:us.getD k undef=u:=by rw[List.getD_eq_getElem?_getD,hu];rfl
  refine⟨by simp only[QcW,Qai];omega,?_,ho,by rw[hg];exact hrep.mono (Qg4 wf _ _)⟩
  rw[Qcf hnew,hg,show 0+k*1+0=k by omega]
  simpa using hu
 have:=Rep.imm (w:=w.alloc (.cells us.toArray t)) (g:=QcW w g us.length) (as.map fun a=>[a]) 1 w.heap.size 0 us.length (fun k _=>us.getD k undef) (by simp[hlen])
  (fun k x hk=>by
   rw[List.getElem?_map]at hk
   cases ha:as[k]? with
   |none=>rw[ha]at hk;cases hk
   |some a=>rw[ha]at hk;simp only[Option.map_some,Option.some.injEq]at hk;subst hk;rfl)
  (fun k x j c hk hj=>by
   obtain⟨rfl,ha⟩:=hget k x j c hk hj
   obtain⟨h1,h2,h3,_⟩:=hcell k c ha
   exact⟨h1,h2,h3⟩)
  (fun k x j c hk hj=>by
   obtain⟨rfl,ha⟩:=hget k x j c hk hj
   exact(hcell k c ha).2.2.2)
 rw[List.length_map,←hlen]at this
 exact this
theorem Qgt {w:World}{g:Gh}(hG:GOk cx w g){i:Nat}{cs:List AV}(hi:cx.glob i=some cs){j:Nat}{c:AV}(hj:cs[j]? =some c):∃u,w.cell? ⟨i,j,none⟩=some u∧Rep w g c u:=by
 have:=hG.1 i cs hi
 cases this with
 |snap _ b o f hc hr=>
  obtain⟨_,h2,_⟩:=hc j c hj
  rw[Nat.zero_add]at h2
  exact⟨f j,h2,hr j c hj⟩
end Go.Proofs.Am
