/-
  Stores, and what is taken out of a box.
-/
import Derived.Test.YtoblgjmllmomhaaGreatDoorAmOpG
import Derived.Laws.BytesString
import Derived.Laws.Strings
namespace Go.Proofs.Am
open Go
variable {R:Type} {P:Program} {nt:Nat} {o:Oper} {st:St} {a:Act} {w:World} {g:Gh} {lm:Nat→Nat} {K:LV→St→Option R} {r:R}
theorem QdX {len bytes:Nat}(h:room len bytes=true):len*bytes≤140737488355328∧0<bytes:=by
 unfold room at h
 simp only[Bool.and_eq_true]at h
 exact⟨Nat.le_of_ble_eq_true h.1,Nat.le_of_ble_eq_true h.2⟩
theorem QhS {len bytes:Nat}(h:room len bytes=true):len≤140737488355328:=by
 obtain⟨h1,h2⟩:=QdX h
 exact Nat.le_trans (Nat.le_mul_of_pos_right len h2) h1
theorem QeE {t:TypeId}{l c:Operand}(ho:o.op=.makeSlice t l c)(hs:SR nt st a w g lm)
 (h:((QaA P t).bind fun e=>(P.info? e).bind fun ti=>(tyz P e).bind fun z=>(Qbq P e).bind fun zc=>
  (st.rv l).bind fun p=>(st.rv c).bind fun q=>p.toI.bind fun n=>q.toI.bind fun m=>
  bif Nat.beq zc.length z.1&&Nat.blt 0 z.1&&decide (n=m)&&decide (0≤n)&&room n.toNat ti.bytes then K (.ow z.1 (List.replicate n.toNat zc)) st else none)=some r):Good P nt o a w g K r:=by
 simp only[Option.bind_eq_some_iff]at h
 obtain⟨e,he,i,hi,z,hz,zc,hzc,p,hp,q,hq,n,hn,m,hm,h⟩:=h
 have hu:=QaD he
 obtain⟨i0,d,hi0,hsz,_,_⟩:=QaL hz
 rw[hi]at hi0
 simp only[Option.some.injEq]at hi0
 subst hi0
 obtain⟨i',zv,hi',hzv,hzl,_⟩:=Qbb hzc
 rw[hi]at hi'
 simp only[Option.some.injEq]at hi'
 subst hi'
 obtain⟨g1,s1,t1,r1⟩:=QaO hs hp
 obtain⟨g2,s2,t2,r2⟩:=QaO s1 hq
 obtain⟨k1,e1⟩:=QbX r1 hn
 obtain⟨k2,e2⟩:=QbX r2 hm
 by_cases hc:(Nat.beq zc.length z.1&&Nat.blt 0 z.1&&decide (n=m)&&decide (0≤n)&&room n.toNat i.bytes)=true
 ·rw[hc,cond_true]at h
  simp only[Bool.and_eq_true,decide_eq_true_eq]at hc
  obtain⟨⟨⟨⟨c1,c2⟩,rfl⟩,c4⟩,c5⟩:=hc
  have c1:=Nat.eq_of_beq_eq_true c1
  have c2:0<z.1:=Nat.le_of_ble_eq_true c2
  obtain⟨c6,c7⟩:=QdX c5
  have c8:=QhS c5
  have hE:=Qbp (w:=w) (g:=g2) hzc hi hzv c1 n.toNat
  obtain⟨s3,t3,r3⟩:=s2.new_ow (madeCells zv.cells (n.toNat*z.1)) e (0,0) (.inl rfl) z.1 n.toNat c2 (size_madeCells _ _) (List.replicate n.toNat zc) (by simp) hE.1 hE.2
  refine Good.pre (t1.trans t2) ⟨_,st,h,OpOk.value (v:=.slice (some ⟨w.heap.size,0,none⟩) n.toNat n.toNat) (w':=w.alloc (.cells (madeCells zv.cells (n.toNat*z.1)) e)) ?_ s3 t3 (by simpa using r3)⟩
  simp only[execOp,ho,e1,e2]
  refine Qad ?_
  have hb:(i.bytes:Int)*n≤281474976710656:=by
   have e:n=(n.toNat:Int):=by omega
   have:((n.toNat*i.bytes:Nat):Int)≤140737488355328:=by omega
   rw[Nat.mul_comm,Int.natCast_mul]at this
   rw[←e]at this;omega
  have:=run_make (P:=P) w t e i zv hu hi hzv k1 k2 n n c4 (Int.le_refl _) hb (by omega)
  rw[hsz]at this
  exact this
 ·rw[Bool.eq_false_iff.2 hc]at h;cases h
theorem Qhq (w:World)(c:Array Value)(e:TypeId):(w.alloc (.cells c e)).freeze {block:=w.heap.size,off:=c.size} 1=w.alloc (.cells c e (c.size,c.size+1)):=by
 unfold World.freeze
 rw[if_neg (by omega)]
 show({w with heap:=(w.heap.push (.cells c e)).modify w.heap.size _}:World)={w with heap:=w.heap.push _}
 congr 1
 apply Array.ext_getElem?
 intro k
 rw[Array.getElem?_modify,Array.getElem?_push,Array.getElem?_push]
 by_cases hk:w.heap.size=k
 ·subst hk;simp
 ·rw[if_neg hk,if_neg (by omega),if_neg (by omega)]
theorem Qes (s:ByteArray)(rest:Array Value):Elems w g 1 (QeM s) (s.data.map (fun b=>Value.int .u8 b.toNat)++rest):=by
 have hget:∀(k:Nat) (x:List AV),(QeM s)[k]? =some x→∃b,s.data[k]? =some b∧x=[.int .u8 b.toNat]:=by
  intro k x hk
  unfold QeM at hk
  rw[List.getElem?_map,Array.getElem?_toList]at hk
  cases hb:s.data[k]? with
  |none=>rw[hb]at hk;cases hk
  |some b=>rw[hb]at hk;simp only[Option.map_some,Option.some.injEq]at hk;exact⟨b,rfl,hk.symm⟩
 refine⟨fun k x hk=>?_,fun k x j y hk hj=>?_⟩
 ·obtain⟨b,_,rfl⟩:=hget k x hk;rfl
 ·obtain⟨b,hb,rfl⟩:=hget k x hk
  cases j with
  |succ j=>simp at hj
  |zero=>
   simp only[List.getElem?_cons_zero,Option.some.injEq]at hj
   subst hj
   have hlt:k<s.data.size:=(Array.getElem?_eq_some_iff.1 hb).1
   refine⟨.int .u8 b.toNat,?_,.int _ _,rfl⟩
   rw[Nat.mul_one,Nat.add_zero,Array.getElem?_append_left (by simpa using hlt)]
   simp[hb]
theorem Qc8 (s:ByteArray):(QeM s).length=s.size:=by simp[QeM]
theorem Qcd:∀(xs:List (List AV)) (l:List UInt8),bytesOf xs=some l→∃ns:List Int,xs=ns.map (fun n=>[AV.int .u8 n])∧∀(s:ByteArray),ns.foldl (fun r n=>r.push (UInt8.ofNat n.toNat)) s=⟨s.data++l.toArray⟩
 |[],l,h=>by
  simp only[bytesOf,Option.some.injEq]at h
  subst h
  exact⟨[],rfl,fun s=>by simp⟩
 |x::xs,l,h=>by
  unfold bytesOf at h
  split at h
  ·rename_i heq;cases heq
  ·rename_i n xs' heq
   simp only[List.cons.injEq]at heq
   obtain⟨rfl,rfl⟩:=heq
   by_cases hc:(decide (0≤n)&&decide (n<256))=true
   ·rw[hc,cond_true]at h
    simp only[Option.bind_eq_some_iff,Option.some.injEq]at h
    obtain⟨r,hr,rfl⟩:=h
    obtain⟨ns,rfl,hf⟩:=Qcd _ r hr
    refine⟨n::ns,rfl,fun s=>?_⟩
    rw[List.foldl_cons,hf]
    congr 1
    apply Array.ext'
    simp[ByteArray.push]
   ·rw[Bool.eq_false_iff.2 hc]at h;cases h
  ·cases h
theorem Qdy {s d:TypeId}{x:Operand}(ho:o.op=.convert s d x)(hs:SR nt st a w g lm)
 (h:((st.rv x).bind fun p=>(cvA P s d p).bind fun c=>K c st)=some r):Good P nt o a w g K r:=by
 simp only[Option.bind_eq_some_iff]at h
 obtain⟨p,hp,c,hc,h⟩:=h
 obtain⟨g1,s1,t1,r1⟩:=QaO hs hp
 refine Good.pre t1 ?_
 have he:(execOp a.eval o)=(do pure (Next.value (←Go.convert s d (a.eval x))):Sem Next):=by simp only[execOp,ho]
 unfold cvA at hc
 simp only[Option.bind_eq_some_iff]at hc
 obtain⟨ds,hds,dd,hdd,hc⟩:=hc
 generalize hv:a.eval x=v at r1
 rw[hv]at he
 cases p with
 |int k' n=>
  cases r1
  cases dd with
  |int k=>
   have hc':some (LV.v (.int k (k.wrap n)))=some c:=by cases ds<;>exact hc
   simp only[Option.some.injEq]at hc'
   subst hc'
   refine Good.pure s1 h (v:=.int k (k.wrap n)) ?_ (.int _ _)
   rw[he]
   refine Qad ?_
   simp[Go.convert,run_underlying hds,run_underlying hdd,Conv.intToInt]
  |_=>cases ds<;>cases hc
 |str b=>
  cases r1
  cases dd with
  |string=>
   cases ds with
   |string=>
    simp only[Option.some.injEq]at hc
    subst hc
    refine Good.pure s1 h (v:=.string b) ?_ (.str _)
    rw[he]
    refine Qad ?_
    simp[Go.convert,run_underlying hds,run_underlying hdd]
   |_=>cases hc
  |slice e=>
   have hc':(match P.underlying e with
    |some (.int .u8)=>some (LV.ow 1 (QeM b))
    |_=>none)=some c:=by cases ds<;>exact hc
   clear hc
   have hue:P.underlying e=some (.int .u8)∧LV.ow 1 (QeM b)=c:=by
    split at hc'
    ·rename_i hue;simp only[Option.some.injEq]at hc';exact⟨hue,hc'⟩
    ·cases hc'
   obtain⟨hue,rfl⟩:=hue
   let cap:=(Question.appendCap b.size 0 e).cut (w.tape w.drawn (Question.appendCap b.size 0 e))
   have hcap:b.size≤cap:=by simp only[cap,Question.cut];omega
   let cs:Array Value:=b.data.map (fun x=>Value.int .u8 x.toNat)++Array.replicate (cap-b.size) (.int .u8 0)
   have hcs:cs.size=cap*1:=by
    have:b.data.size=b.size:=rfl
    simp only[cs,Array.size_append,Array.size_map,Array.size_replicate,this];omega
   have hE:=Qes (w:=w.drew) (g:=g1) b (Array.replicate (cap-b.size) (.int .u8 0))
   obtain⟨s2,t2,r2⟩:=s1.drew.new_ow cs e (cs.size,cs.size+1) (.inr (Nat.le_refl _)) 1 cap (by omega) hcs (QeM b) (by rw[Qc8];exact hcap) hE.1 hE.2
   rw[Qc8]at r2
   refine⟨_,st,h,OpOk.value (v:=.slice (some ⟨w.heap.size,0,none⟩) b.size cap) (w':=w.drew.alloc (.cells cs e (cs.size,cs.size+1))) ?_ s2 ((QcB w g1).trans t2) r2⟩
   rw[he]
   refine Qad ?_
   have hfr:=Qhq w.drew cs e
   rw[World.size_drew]at hfr
   have hsh:(w.drew.alloc (.cells cs e)).shape? w.heap.size=some (e,cs.size):=by
    have:=QaF w.drew (.cells cs e)
    rw[World.size_drew]at this
    simp only[World.shape?,this]
   simp only[Go.convert,Sem.run_bind,run_underlying hds,run_underlying hdd,Result.andThen_ok]
   have hconv:(Conv.stringToBytes e b).run P w=.ok (.slice (some ⟨w.heap.size,0,none⟩) b.size cap) (w.drew.alloc (.cells cs e (cs.size,cs.size+1))):=by
    simp[Conv.stringToBytes,markStringish,newRow,Question.forced]
    simp only[cs,cap]at hsh hfr
    rw[hsh]
    show((Sem.run P (freeze _ 1) _).andThen _)=_
    simp only[freeze,Sem.run,Result.andThen_ok]
    rw[hfr]
   cases ds<;>simp[run_underlying hue,hconv]
  |_=>cases ds<;>cases hc
 |imm xs=>
  cases ds with
  |slice e=>
   cases dd with
   |string=>
    have hue:P.underlying e=some (.int .u8)∧((bytesOf xs).bind fun r=>some (LV.v (.str ⟨r.toArray⟩)))=some c:=by
     simp only at hc
     split at hc
     ·rename_i hue;exact⟨hue,hc⟩
     ·cases hc
    obtain⟨hue,hc⟩:=hue
    simp only[Option.bind_eq_some_iff,Option.some.injEq]at hc
    obtain⟨l,hl,rfl⟩:=hc
    obtain⟨ns,hxs,hf⟩:=Qcd _ l hl
    have hfold:=hf ByteArray.empty
    have hemp:ByteArray.empty.data= #[]:=rfl
    refine Good.pure s1 h (v:=.string ⟨l.toArray⟩) ?_ (.str _)
    rw[he]
    refine Qad ?_
    have hvs:∃ad len cap,v=.slice ad len cap:=by cases r1<;>exact⟨_,_,_,rfl⟩
    obtain⟨ad,len,cap,rfl⟩:=hvs
    rw[run_convert_bytes_string w s d e ad len cap hds hue hdd]
    have hcells:(ad=none∧ns=[])∨∃ad',ad=some ad'∧(loadCells ad' len).run P w=.ok (ns.map (Value.int .u8)).toArray w:=by
     cases r1 with
     |imm0=>
      have:ns=[]:=by simpa using hxs.symm
      subst this
      cases ad with
      |none=>exact .inl ⟨rfl,rfl⟩
      |some ad'=>exact .inr ⟨ad',rfl,rfl⟩
     |imm _ n b off _ f hl' hn hcl hr=>
      refine .inr ⟨_,rfl,?_⟩
      have hlen:(ns.map (Value.int .u8)).length=xs.length:=by rw[hxs];simp
      rw[←hlen]
      refine run_loadCells_list w _ _ (fun j u hj=>?_)
      rw[List.getElem?_map]at hj
      cases hnj:ns[j]? with
      |none=>rw[hnj]at hj;cases hj
      |some m=>
       rw[hnj]at hj
       simp only[Option.map_some,Option.some.injEq]at hj
       subst hj
       have hx:xs[j]? =some [AV.int .u8 m]:=by rw[hxs,List.getElem?_map,hnj];rfl
       have hn1:n=1:=by rw[←hn j _ hx];rfl
       subst hn1
       obtain⟨_,h2,_⟩:=hcl j _ 0 (.int .u8 m) hx rfl
       have h3:=hr j _ 0 (.int .u8 m) hx rfl
       generalize f j 0=u at h2 h3
       cases h3
       rw[Addr.add_mid]
       simpa using h2
    rcases hcells with⟨rfl,rfl⟩|⟨ad',rfl,hld⟩
    ·simp only[List.foldl_nil]at hfold
     have:(⟨l.toArray⟩:ByteArray)=ByteArray.empty:=by
      rw[hfold,hemp];simp
     simp[Conv.bytesToString,this]
    ·rw[run_bytesToString w ad' len cap ns hld,hfold,hemp]
     simp
   |_=>cases hc
  |_=>cases dd<;>cases hc
 |_=>cases ds<;>cases dd<;>cases hc
end Go.Proofs.Am
namespace Go.Proofs.Am
open Go
variable {R:Type} {P:Program} {nt:Nat} {o:Oper} {st:St} {a:Act} {w:World} {g:Gh} {lm:Nat→Nat} {K:LV→St→Option R} {r:R}
theorem QbZ (m:Nat→Nat→LV)(i off:Nat)(f:Nat→LV):∀(n i' c:Nat),stN m i off f n i' c=if i'=i∧off≤c∧c<off+n then f (c-off)else m i' c
 |0,i',c=>by rw[if_neg (by omega)];rfl
 |n+1,i',c=>by
  simp only[stN,Qng]
  by_cases h1:i'=i∧c=off+n
  ·obtain⟨rfl,rfl⟩:=h1
   rw[Nat.beq_refl,Nat.beq_refl,if_pos (by omega)]
   simp
  ·have:(Nat.beq i' i&&Nat.beq c (off+n))=false:=by
    rw[Bool.and_eq_false_iff]
    by_cases h2:i'=i
    ·right
     rw[Bool.eq_false_iff]
     intro h3;exact h1 ⟨h2,Nat.eq_of_beq_eq_true h3⟩
    ·left
     rw[Bool.eq_false_iff]
     intro h3;exact h2 (Nat.eq_of_beq_eq_true h3)
   rw[this,cond_false,QbZ m i off f n i' c]
   by_cases h2:i'=i∧off≤c∧c<off+n
   ·rw[if_pos h2,if_pos (by omega)]
   ·rw[if_neg h2,if_neg (by omega)]
theorem Qnf (m:Nat→Nat→LV)(i c:Nat)(x:LV)(i' c':Nat):Qng m i c x i' c'=if i'=i∧c'=c then x else m i' c':=by
 have:=QbZ m i c (fun _=>x) 1 i' c'
 simp only[stN,Nat.add_zero]at this
 rw[this]
 by_cases h:i'=i∧c'=c
 ·rw[if_pos h,if_pos (by omega)]
 ·rw[if_neg h,if_neg (by omega)]
theorem RepV.more {nl:Nat}{hd:Nat→Hd}{x:LV}{v:Value}(b:Nat)(h:RepV w g lm nl hd x v):RepV w g (upd lm nl b) (nl+1) hd x v:=by
 cases x<;>simp only[RepV]at h⊢<;>try exact h
 obtain⟨h1,h2⟩:=h
 exact⟨by omega,by rw[Qao _ _ (by omega)];exact h2⟩
theorem SR.new_box (hs:SR nt st a w g lm)(c:Array Value)(e:TypeId)(f:Nat→LV)(n:Nat)(hz:c.size=n)(hc:∀j,j<n→∃u,c[j]? =some u∧RepZ w g (f j) u):
 SR nt {st with m:=stN st.m st.nl 0 f n,z:=upd st.z st.nl n,nl:=st.nl+1} a (w.alloc (.cells c e)) (QfU w g (.box st.nl)) (upd lm st.nl w.heap.size)∧
  Tr w g (w.alloc (.cells c e)) (QfU w g (.box st.nl)):=by
 have K:=fun hd=>Qkq hs.wf (.cells c e) (.box st.nl) hd
 have s1:=hs.new c e (.box st.nl)
 refine⟨⟨s1.wf,s1.nt,s1.df,fun j=>(s1.tm j).more _,fun i hi=>?_,s1.hp⟩,Qgb hs.wf _ _⟩
 by_cases hin:i=st.nl
 ·subst hin
  simp only[Qai]at hi⊢
  refine⟨by omega,by simp only[QfU,Qai],by show g.sl _=0;exact hs.wf.sl _ (Nat.le_refl _),c,e,QaF w _,hz,fun j hj=>?_⟩
  obtain⟨u,hu,hr⟩:=hc j hj
  refine⟨u,hu,?_⟩
  rw[QbZ,if_pos (by omega)]
  exact(hr.mono (K .oth).le).repC (by simp)
 ·simp only[Qao _ _ hin]at hi⊢
  obtain⟨h1,h2,h3,c',e',h4,h5,h6⟩:=s1.bx i hi
  refine⟨by show i<st.nl+1;have:i<st.nl:=h1;omega,h2,h3,c',e',h4,h5,fun j hj=>?_⟩
  rw[QbZ,if_neg (by omega)]
  exact h6 j hj
def QaV (w:World)(g:Gh):Gh:={g with own:=upd g.own w.heap.size (.hbox g.nb),nb:=g.nb+1,bm:=upd g.bm g.nb w.heap.size}
theorem QkF {w:World}{g:Gh}(wf:Wf w g)(o:Obj):Le w g (w.alloc o) (QaV w g):=
 Qxz wf (fun _ h=>QaB w o h) rfl (by simp[QaV]) (fun id h=>by simp only[QaV];rw[Qao _ _ (by omega)])
theorem Qr6 {w:World}{g:Gh}(wf:Wf w g)(o:Obj)(hd':Hd):Kp w g (w.alloc o) (QaV w g) hd':=
 ⟨QkF wf o,fun b hb h=>⟨QaB w o hb,by simp only[QaV];rw[Qao _ _ (by omega)];exact h,rfl⟩⟩
theorem Qr5 {w:World}{g:Gh}(wf:Wf w g)(o:Obj):Tr w g (w.alloc o) (QaV w g):=
 ⟨QkF wf o,by simp,fun b hb h=>⟨QaB w o hb,by simp only[QaV];rw[Qao _ _ (by omega)];exact h,rfl⟩,rfl,rfl,rfl⟩
theorem Qr4 {w:World}{g:Gh}(wf:Wf w g)(c:Array Value)(e:TypeId):Wf (w.alloc (.cells c e)) (QaV w g):=
 ⟨(Qga wf c e (.hbox g.nb)).own,(Qga wf c e (.hbox g.nb)).sl,(Qga wf c e (.hbox g.nb)).fit⟩
theorem SR.new_heap (hs:SR nt st a w g lm)(c:Array Value)(e:TypeId)(cs:List LV)(hz:cs.length≤c.size)(hc:∀(j:Nat) (x:LV),cs[j]? =some x→∃u,c[j]? =some u∧RepZ w g x u):
 SR nt {st with h:=Qdi st.h cs} a (w.alloc (.cells c e)) (QaV w g) lm∧Tr w g (w.alloc (.cells c e)) (QaV w g)∧
  Rep (w.alloc (.cells c e)) (QaV w g) (.ptr st.h.bx.length 0) (.pointer (some ⟨w.heap.size,0,none⟩)):=by
 have K:=fun hd=>Qr6 hs.wf (.cells c e) hd
 have hnb:=hs.hp.1
 refine⟨⟨Qr4 hs.wf c e,hs.nt,hs.df,fun j=>(hs.tm j).mono (fun c=>K _),hs.bx.keep (fun _=>K _) (fun _ _=>K _),⟨?_,fun id bx hid hne=>?_⟩⟩,Qr5 hs.wf _,?_⟩
 ·simp[QaV,Qdi,hnb]
 ·simp only[Qdi]at hid
  by_cases hlt:id<st.h.bx.length
  ·rw[List.getElem?_append_left hlt]at hid
   obtain⟨h2,h3,c',e',h4,h5,h6⟩:=hs.hp.2 id bx hid hne
   have hbm:(QaV w g).bm id=g.bm id:=by simp only[QaV];rw[Qao _ _ (by omega)]
   obtain⟨a1,a2,a3⟩:=(K (.hbox id)).blk _ (QaP h4) h2
   rw[hbm]
   exact⟨a2,a3.trans h3,c',e',a1.trans h4,h5,fun j x hj=>by
    obtain⟨u,hu,hr⟩:=h6 j x hj
    exact⟨u,hu,hr.mono (K _)⟩⟩
  ·rw[List.getElem?_append_right (by omega)]at hid
   have hid0:id=st.h.bx.length:=by
    have:=(List.getElem?_eq_some_iff.1 hid).1
    simp at this;omega
   subst hid0
   simp only[Nat.sub_self,List.getElem?_cons_zero,Option.some.injEq]at hid
   subst hid
   have hbm:(QaV w g).bm st.h.bx.length=w.heap.size:=by simp only[QaV];rw[←hnb,Qai]
   rw[hbm]
   refine⟨by simp only[QaV,Qai,hnb],by show g.sl _=0;exact hs.wf.sl _ (Nat.le_refl _),c,e,QaF w _,hz,fun j x hj=>?_⟩
   obtain⟨u,hu,hr⟩:=hc j x hj
   exact⟨u,hu,(hr.mono (K .oth).le).repC (by simp)⟩
 ·have:=Rep.ptr (w:=w.alloc (.cells c e)) (g:=QaV w g) st.h.bx.length 0 (by simp[QaV,hnb])
  simp only[QaV]at this
  rw[←hnb,Qai]at this
  rw[←hnb];exact this
theorem Qja {e:TypeId}{hp:Bool}(ho:o.op=.alloc e)(hs:SR nt st a w g lm)
 (h:((tyz P e).bind fun z=>(QgW P e).bind fun zc=>bif Nat.beq zc.length z.1 then
  (bif hp then K (.v (.ptr st.h.bx.length 0)) {st with h:=Qdi st.h zc}
   else bif Nat.beq (st.z st.nl) 0 then K (.lp st.nl 0) {st with m:=stN st.m st.nl 0 (fun j=>zc.getD j .un) z.1,z:=upd st.z st.nl z.1,nl:=st.nl+1}else none)
  else none)=some r):Good P nt o a w g K r:=by
 simp only[Option.bind_eq_some_iff]at h
 obtain⟨z,hz,zc,hzc,h⟩:=h
 obtain⟨i,zv,hi,hzv,hlen,hcells⟩:=QeN hzc
 by_cases hb:Nat.beq zc.length z.1=true
 ·rw[hb,cond_true]at h
  have hb:=Nat.eq_of_beq_eq_true hb
  have hrun:(execOp a.eval o).run P w=.ok (.value (.pointer (some ⟨w.heap.size,0,none⟩))) (w.alloc (.cells zv.cells e)):=by
   simp only[execOp,ho]
   refine Qad ?_
   simp[Instr.alloc,zeroValue,typeInfo,hi,hzv,newVar,newRow]
  cases hp with
  |true=>
   simp only[cond_true]at h
   obtain⟨s1,t1,r1⟩:=hs.new_heap zv.cells e zc (by omega) (fun j x hj=>by
    obtain⟨u,hu,hr⟩:=hcells j x hj
    exact⟨u,hu,hr w g⟩)
   exact⟨_,_,h,OpOk.value hrun s1 t1 r1⟩
  |false=>
   simp only[cond_false]at h
   have h:K (.lp st.nl 0) {st with m:=stN st.m st.nl 0 (fun j=>zc.getD j .un) z.1,z:=upd st.z st.nl z.1,nl:=st.nl+1}=some r:=by
    cases hq:Nat.beq (st.z st.nl) 0 with
    |false=>rw[hq]at h;cases h
    |true=>rw[hq]at h;exact h
   obtain⟨s1,t1⟩:=hs.new_box zv.cells e (fun j=>zc.getD j .un) z.1 (by omega) (fun j hj=>by
    obtain⟨u,hu,hr⟩:=hcells j zc[j] (List.getElem?_eq_getElem (by omega))
    refine⟨u,hu,?_⟩
    have e:zc.getD j .un=zc[j]'(by omega):=by simp[List.getD_eq_getElem?_getD,List.getElem?_eq_getElem (show j<zc.length by omega)]
    rw[e];exact hr w g)
   exact⟨_,_,h,OpOk.value hrun s1 t1 ⟨by show st.nl<st.nl+1;omega,by simp only[Qai]⟩⟩
 ·rw[Bool.eq_false_iff.2 hb]at h;cases h
theorem Qn7 {e:TypeId}{x:Operand}{hp:Bool}(ho:o.op=.box e x)(hs:SR nt st a w g lm)
 (h:((tyz P e).bind fun z=>(st.rv x).bind fun p=>(p.toC z.1).bind fun cs=>
  bif hp then K (.v (.ptr st.h.bx.length 0)) {st with h:=Qdi st.h (cs.map .v)}
  else K (.lp st.nl 0) {st with m:=stN st.m st.nl 0 (fun j=>.v (gd cs j)) z.1,z:=upd st.z st.nl z.1,nl:=st.nl+1})=some r):Good P nt o a w g K r:=by
 simp only[Option.bind_eq_some_iff]at h
 obtain⟨z,hz,p,hp',cs,hcs,h⟩:=h
 obtain⟨g1,s1,t1,r1⟩:=QaO hs hp'
 obtain⟨hdl,hvl,hdc⟩:=Arg.toC r1 hcs
 have hrun:(execOp a.eval o).run P w=.ok (.value (.pointer (some ⟨w.heap.size,0,none⟩))) (w.alloc (.cells (a.eval x).cells e)):=by
  simp only[execOp,ho]
  refine Qad ?_
  simp[Instr.box,newVar,newRow]
 refine Good.pre t1 ?_
 cases hp with
 |true=>
  simp only[cond_true]at h
  obtain⟨s2,t2,r2⟩:=s1.new_heap (a.eval x).cells e (cs.map .v) (by simp;omega) (fun j y hj=>by
   rw[List.getElem?_map]at hj
   cases hc:cs[j]? with
   |none=>rw[hc]at hj;cases hj
   |some c=>
    rw[hc]at hj
    simp only[Option.map_some,Option.some.injEq]at hj
    subst hj
    exact hdc j c hc)
  exact⟨_,_,h,OpOk.value hrun s2 t2 r2⟩
 |false=>
  simp only[cond_false]at h
  obtain⟨s2,t2⟩:=s1.new_box (a.eval x).cells e (fun j=>.v (gd cs j)) z.1 hvl (fun j hj=>by
   obtain⟨u,hu,hr⟩:=hdc j cs[j] (List.getElem?_eq_getElem (by omega))
   exact⟨u,hu,by rw[Qoa (List.getElem?_eq_getElem (by omega))];exact hr⟩)
  exact⟨_,_,h,OpOk.value hrun s2 t2 ⟨by show st.nl<st.nl+1;omega,by simp only[Qai]⟩⟩
end Go.Proofs.Am
namespace Go.Proofs.Am
open Go
variable {R:Type} {P:Program} {nt:Nat} {o:Oper} {st:St} {a:Act} {w:World} {g:Gh} {lm:Nat→Nat} {K:LV→St→Option R} {r:R}
theorem QcL {v:Value}(h:v.oneCell=true):v.oneCell'=true:=by cases v<;>simp_all[Value.oneCell,Value.oneCell']
theorem RepC.oneCell {hd:Hd}{x:LV}{v:Value}(h:RepC w g hd x v)(hx:x.isC=true):v.oneCell'=true:=by
 cases x<;>simp only[LV.isC,Bool.false_eq_true]at hx<;>simp only[RepC]at h
 ·exact QcL (h.1.oneCell h.2).2
 ·cases h.2<;>rfl
def QaI (c:Array Value)(off:Nat)(vs:List Value):Array Value:=(c.toList.take off++vs++c.toList.drop (off+vs.length)).toArray
theorem Qar {c:Array Value}{off:Nat}{vs:List Value}(h:off+vs.length≤c.size):(QaI c off vs).size=c.size:=by
 simp[QaI];omega
theorem QaT {c:Array Value}{off:Nat}{vs:List Value}(h:off+vs.length≤c.size)(k:Nat):(QaI c off vs)[k]? =if off≤k∧k<off+vs.length then vs[k-off]? else c[k]?:=by
 simp only[QaI,List.getElem?_toArray,List.append_assoc]
 by_cases h1:k<off
 ·rw[List.getElem?_append_left (by simp;omega),List.getElem?_take,if_pos h1,if_neg (by omega),Array.getElem?_toList]
 ·rw[List.getElem?_append_right (by simp;omega)]
  have e:(c.toList.take off).length=off:=by simp;omega
  rw[e]
  by_cases h2:k<off+vs.length
  ·rw[List.getElem?_append_left (by omega),if_pos (by omega)]
  ·rw[List.getElem?_append_right (by omega),if_neg (by omega),List.getElem?_drop,Array.getElem?_toList]
   congr 1;omega
theorem Qez {b off:Nat}{c:Array Value}{e:TypeId}{vs:List Value}(hb:w.heap[b]? =some (.cells c e (0,0)))(h:off+vs.length≤c.size)(h1:∀v∈vs,v.oneCell'=true):
 (storeCells ⟨b,off,none⟩ vs).run P w=.ok () (w.setRow b (QaI c off vs)):=by
 have:=run_storeCells_at P b off e vs 0 c w hb (by simpa using h) h1
 simpa[QaI]using this
theorem Qf1 {t:TypeId}{z:Nat×Bool}(hz:tyz P t=some z){b off:Nat}{c:Array Value}{e:TypeId}{v:Value}(hv:v.cells.size=z.1)(hb:w.heap[b]? =some (.cells c e (0,0)))(h:off+z.1≤c.size)
 (h1:∀(j:Nat) (u:Value),v.cells[j]? =some u→u.oneCell'=true):(storeVar t ⟨b,off,none⟩ v).run P w=.ok () (w.setRow b (QaI c off v.cells.toList)):=by
 obtain⟨i,d,hi,hsz,_,_⟩:=QaL hz
 have:=Qez (P:=P) (off:=off) (vs:=v.cells.toList) hb (by simp;omega) (fun u hu=>by
  obtain⟨j,hj⟩:=List.mem_iff_getElem?.1 hu
  exact h1 j u (by simpa using hj))
 simp[storeVar,run_sizeOf hi,hv,hsz,this]
def toCell (i off:Nat):Hd→Hd
 |.res c=>.cell i (off+c)
 |h=>h
def Qbf (id off:Nat):Hd→Hd
 |.res c=>.hcell id (off+c)
 |h=>h
theorem SR.rel (hs:SR nt st a w g lm){ρ:Hd→Hd}(h:∀hd,(∀c,hd≠.res c)→ρ hd=hd):SR nt st a w (Qbv g ρ) lm:=
 hs.keep (Qdv hs.wf (h _ (by simp))) rfl (fun hd _ hr _=>QdY w g (h hd hr))
theorem QfZ {i off:Nat}{hd:Hd}(h:∀c,hd≠.res c):toCell i off hd=hd:=by cases hd<;>simp_all[toCell]
theorem QeP {i off:Nat}{hd:Hd}(h:∀c,hd≠.res c):Qbf i off hd=hd:=by cases hd<;>simp_all[Qbf]
theorem SR.write_box (hs:SR nt st a w g lm){b off n:Nat}{c:Array Value}{e:TypeId}(hn:0<n)(hb:w.heap[lm b]? =some (.cells c e (0,0)))(hz:off+n≤st.z b){vs:List Value}(hl:vs.length=n)(f:Nat→LV)
 (hc:∀j,j<n→∃u,vs[j]? =some u∧RepC w g (.res j) (f j) u):
 SR nt {st with m:=stN st.m b off f n} a (w.setRow (lm b) (QaI c off vs)) (QbT (Qbv g (toCell b off)) (lm b) (.box b)) lm∧
  Tr w g (w.setRow (lm b) (QaI c off vs)) (QbT (Qbv g (toCell b off)) (lm b) (.box b)):=by
 have s1:=hs.rel (ρ:=toCell b off) (fun hd h=>QfZ h)
 obtain⟨h1,h2,h3,c1,e1,h4,h5,h6⟩:=s1.bx b (by omega)
 rw[hb]at h4
 simp only[Option.some.injEq,Obj.cells.injEq]at h4
 obtain⟨rfl,rfl,_⟩:=h4
 have hsz:off+vs.length≤c.size:=by omega
 have hk:∀j,j<(Qbv g (toCell b off)).sl (lm b)→(QaI c off vs)[j]? =c[j]?:=fun j hj=>by rw[h3]at hj;omega
 have K:∀hd,hd≠.box b→Kp w (Qbv g (toCell b off)) (w.setRow (lm b) (QaI c off vs)) (QbT (Qbv g (toCell b off)) (lm b) (.box b)) hd:=fun hd hne=>
  Qj7 hb (Qar hsz) hk _ (by rw[h2];exact hne)
 refine⟨⟨Qj5 s1.wf hb (Qar hsz) _ (by rw[h2];simp),s1.nt,s1.df,fun j=>(s1.tm j).mono (fun c=>K _ (by simp)),fun i hi=>?_,s1.hp.keep rfl (fun _=>K _ (by simp)) (fun _ _=>K _ (by simp))⟩,
  (Qb5 w g (QfZ (by simp))).trans (Qj6 hb (Qar hsz) hk _ (by rw[h2];simp))⟩
 by_cases hib:i=b
 ·subst hib
  refine⟨h1,by simp only[QbT,Qai],h3,_,_,QbO hb,by rw[Qar hsz];exact h5,fun j hj=>?_⟩
  dsimp only at hj hi⊢
  rw[QbZ,QaT hsz]
  by_cases hin:off≤j∧j<off+n
  ·rw[if_pos (⟨rfl,hin⟩:i=i∧off≤j∧j<off+n),if_pos (by omega)]
   obtain⟨u,hu,hr⟩:=hc (j-off) (by omega)
   refine⟨u,hu,?_⟩
   have hr2:=hr.rel (ρ:=toCell i off) (fun _=>by simp[toCell])
   simp only[toCell,show off+(j-off)=j by omega]at hr2
   exact hr2.mono (K _ (by simp))
  ·rw[if_neg (by omega),if_neg (by omega)]
   obtain⟨u,hu,hr⟩:=h6 j hj
   exact⟨u,hu,hr.mono (K _ (by simp))⟩
 ·obtain⟨b1,b2,b3,c2,e2,b4,b5,b6⟩:=s1.bx i hi
  obtain⟨k1,k2,k3⟩:=(K (.box i) (by simp[hib])).blk _ (QaP b4) b2
  refine⟨b1,k2,k3.trans b3,c2,e2,k1.trans b4,b5,fun j hj=>?_⟩
  obtain⟨u,hu,hr⟩:=b6 j hj
  refine⟨u,hu,?_⟩
  dsimp only
  rw[QbZ,if_neg (by omega)]
  exact hr.mono (K _ (by simp))
theorem Qff:∀(l:List LV) (bx:List LV) (off:Nat),(QgU bx off l).length=bx.length
 |[],_,_=>rfl
 |x::l,bx,off=>by simp[QgU,Qff l]
theorem QhO:∀(l:List LV) (bx:List LV) (off k:Nat),(QgU bx off l)[k]? =if off≤k∧k<off+l.length∧k<bx.length then l[k-off]? else bx[k]?
 |[],bx,off,k=>by rw[if_neg (by simp;omega)];rfl
 |x::l,bx,off,k=>by
  simp only[QgU,QhO l,List.length_set,List.length_cons,List.getElem?_set]
  by_cases h1:off=k
  ·subst h1
   by_cases h2:off<bx.length
   ·rw[if_neg (by omega),if_pos rfl,if_pos h2,if_pos (by omega)];simp
   ·rw[if_neg (by omega),if_pos rfl,if_neg h2,if_neg (by omega),List.getElem?_eq_none (by omega)]
  ·by_cases h3:off+1≤k∧k<off+1+l.length∧k<bx.length
   ·rw[if_pos h3,if_pos (by omega),show k-off=(k-(off+1))+1 by omega,List.getElem?_cons_succ]
   ·rw[if_neg h3,if_neg h1,if_neg (by omega)]
theorem SR.write_heap (hs:SR nt st a w g lm){id off:Nat}{bx l:List LV}{c:Array Value}{e:TypeId}(hid:st.h.bx[id]? =some bx)(hn:0<l.length)(hb:w.heap[g.bm id]? =some (.cells c e (0,0)))(hz:off+l.length≤bx.length)
 {vs:List Value}(hl:vs.length=l.length)(hc:∀(j:Nat) (x:LV),l[j]? =some x→∃u,vs[j]? =some u∧RepC w g (.res j) x u):
 SR nt {st with h:={st.h with bx:=st.h.bx.set id (QgU bx off l)}} a (w.setRow (g.bm id) (QaI c off vs)) (QbT (Qbv g (Qbf id off)) (g.bm id) (.hbox id)) lm∧
  Tr w g (w.setRow (g.bm id) (QaI c off vs)) (QbT (Qbv g (Qbf id off)) (g.bm id) (.hbox id)):=by
 have s1:=hs.rel (ρ:=Qbf id off) (fun hd h=>QeP h)
 have hne:bx≠[]:=by intro h;subst h;have:off+l.length≤0:=hz;omega
 obtain⟨h2,h3,c1,e1,h4,h5,h6⟩:=s1.hp.2 id bx hid hne
 have hbm:(Qbv g (Qbf id off)).bm id=g.bm id:=rfl
 rw[hbm]at h2 h3 h4
 rw[hb]at h4
 simp only[Option.some.injEq,Obj.cells.injEq]at h4
 obtain⟨rfl,rfl,_⟩:=h4
 have hsz:off+vs.length≤c.size:=by omega
 have hk:∀j,j<(Qbv g (Qbf id off)).sl (g.bm id)→(QaI c off vs)[j]? =c[j]?:=fun j hj=>by rw[h3]at hj;omega
 have K:∀hd,hd≠.hbox id→Kp w (Qbv g (Qbf id off)) (w.setRow (g.bm id) (QaI c off vs)) (QbT (Qbv g (Qbf id off)) (g.bm id) (.hbox id)) hd:=fun hd hne=>
  Qj7 hb (Qar hsz) hk _ (by rw[h2];exact hne)
 refine⟨⟨Qj5 s1.wf hb (Qar hsz) _ (by rw[h2];simp),s1.nt,s1.df,fun j=>(s1.tm j).mono (fun c=>K _ (by simp)),s1.bx.keep (fun _=>K _ (by simp)) (fun _ _=>K _ (by simp)),⟨?_,fun i bx' hi hne'=>?_⟩⟩,
  (Qb5 w g (QeP (by simp))).trans (Qj6 hb (Qar hsz) hk _ (by rw[h2];simp))⟩
 ·show g.nb=_;rw[List.length_set];exact hs.hp.1
 ·simp only[List.getElem?_set]at hi
  by_cases hib:id=i
  ·subst hib
   rw[if_pos rfl]at hi
   split at hi
   ·simp only[Option.some.injEq]at hi
    subst hi
    refine⟨by simp only[QbT];exact Qai _ _ _,h3,_,_,QbO hb,by rw[Qar hsz,Qff];exact h5,fun j x hj=>?_⟩
    rw[QhO]at hj
    rw[QaT hsz]
    split at hj
    ·rename_i hin
     rw[if_pos (by omega)]
     obtain⟨u,hu,hr⟩:=hc (j-off) x hj
     refine⟨u,hu,?_⟩
     have hr2:=hr.rel (ρ:=Qbf id off) (fun _=>by simp[Qbf])
     simp only[Qbf,show off+(j-off)=j by omega]at hr2
     exact hr2.mono (K _ (by simp))
    ·rename_i hin
     have hlt:j<bx.length:=(List.getElem?_eq_some_iff.1 hj).1
     rw[if_neg (by omega)]
     obtain⟨u,hu,hr⟩:=h6 j x hj
     exact⟨u,hu,hr.mono (K _ (by simp))⟩
   ·cases hi
  ·rw[if_neg hib]at hi
   obtain⟨b2,b3,c2,e2,b4,b5,b6⟩:=s1.hp.2 i bx' hi hne'
   obtain⟨k1,k2,k3⟩:=(K (.hbox i) (by simp;omega)).blk _ (QaP b4) b2
   exact⟨k2,k3.trans b3,c2,e2,k1.trans b4,b5,fun j x hj=>by
    obtain⟨u,hu,hr⟩:=b6 j x hj
    exact⟨u,hu,hr.mono (K _ (by simp))⟩⟩
theorem Qi2 {t:TypeId}{x y:Operand}{hp tk:Bool}(ho:o.op=.store t x y)(hs:SR nt st a w g lm)
 (h:Qa8 P hp tk t x y st K=some r):Good P nt o a w g K r:=by
 unfold Qa8 at h
 simp only[Option.bind_eq_some_iff]at h
 obtain⟨z,hz,h⟩:=h
 by_cases hz0:Nat.blt 0 z.1=true
 case neg=>rw[Bool.eq_false_iff.2 hz0]at h;cases h
 have hzp:0<z.1:=Nat.le_of_ble_eq_true hz0
 simp only[hz0,Bool.not_true,cond_false]at h
 have core:∀(st1:St) (g1:Gh) (lv:LV),SR nt st1 a w g1 lm→Tr w g w g1→RepV w g1 lm st1.nl .res lv (a.eval y)→
  (match lv with
   |.ag ls=>bif Nat.beq ls.length z.1&&ls.all LV.isC then
    (bif hp then
     match st1.rd x with
     |.v p=>(stP st1.h p ls).bind fun h=>K .ud {st1 with h}
     |_=>none
    else
     match st1.rd x with
     |.lp b off=>bif Nat.ble (off+z.1) (st1.z b)then K .ud {st1 with m:=stN st1.m b off (fun j=>ls.getD j .un) z.1}else none
     |_=>none)else none
   |.v p=>(p.toC z.1).bind fun cs=>
    (bif hp then
     match st1.rd x with
     |.v p=>(stP st1.h p (cs.map .v)).bind fun h=>K .ud {st1 with h}
     |_=>none
    else
     match st1.rd x with
     |.lp b off=>bif Nat.ble (off+z.1) (st1.z b)then K .ud {st1 with m:=stN st1.m b off (fun j=>.v (gd cs j)) z.1}else none
     |_=>none)
   |.ow n xs=>bif Nat.beq z.1 1 then
    (bif hp then
     match st1.rd x with
     |.v p=>(stP st1.h p [.ow n xs]).bind fun h=>K .ud {st1 with h}
     |_=>none
    else
     match st1.rd x with
     |.lp b off=>bif Nat.ble (off+1) (st1.z b)then K .ud {st1 with m:=stN st1.m b off (fun _=>.ow n xs) 1}else none
     |_=>none)else none
   |_=>none)=some r→Good P nt o a w g K r:=by
  intro st1 g1 lv hs1 ht1 hrv h
  obtain⟨g2,s2,t2,r2⟩:=QcK hs1 x
  have fin:∀(n:Nat) (f:Nat→LV) (l:List LV),n=z.1→l.length=n→(a.eval y).cells.size=n→(∀j,j<n→l[j]? =some (f j))→
   (∀j,j<n→∃u,(a.eval y).cells[j]? =some u∧RepC w g1 (.res j) (f j) u∧(f j).isC=true)→
   (bif hp then
    match st1.rd x with
    |.v p=>(stP st1.h p l).bind fun h=>K .ud {st1 with h}
    |_=>none
   else
    match st1.rd x with
    |.lp b off=>bif Nat.ble (off+n) (st1.z b)then K .ud {st1 with m:=stN st1.m b off f n}else none
    |_=>none)=some r→Good P nt o a w g K r:=by
   intro n f l hnz hl hvl hlf hc h
   have h1:∀(j:Nat) (u:Value),(a.eval y).cells[j]? =some u→u.oneCell'=true:=by
    intro j u hu
    have hj:j<n:=by rw[←hvl];exact(Array.getElem?_eq_some_iff.1 hu).1
    obtain⟨u',hu',hr,hi⟩:=hc j hj
    rw[hu]at hu'
    simp only[Option.some.injEq]at hu'
    subst hu'
    exact hr.oneCell hi
   have run:∀b off,a.eval x=.pointer (some ⟨b,off,none⟩)→∀(c:Array Value) (e:TypeId),w.heap[b]? =some (.cells c e (0,0))→off+z.1≤c.size→
    (execOp a.eval o).run P w=.ok .skip (w.setRow b (QaI c off (a.eval y).cells.toList)):=by
    intro b off hx c e hb hsz
    simp only[execOp,ho]
    refine Qj2 ?_
    simp[Instr.storeAt,hx,Instr.sureAddr,Qf1 (P:=P) hz (hvl.trans hnz) hb hsz h1]
   cases hp with
   |true=>
    simp only[cond_true]at h
    cases hx:st1.rd x<;>rw[hx]at h<;>simp only[reduceCtorEq]at h
    rename_i p
    have hp':Rep w g2 p (a.eval x):=by have:=r2 .res;rw[hx]at this;exact this
    simp only[Option.bind_eq_some_iff]at h
    obtain⟨h',hst,h⟩:=h
    cases p with
    |ptr id off=>
     simp only[stP,Option.bind_eq_some_iff]at hst
     obtain⟨bx,hbx,hst⟩:=hst
     by_cases hb:Nat.ble (off+l.length) bx.length=true
     ·rw[hb,cond_true,Option.some.injEq]at hst
      subst hst
      have hb:=Nat.le_of_ble_eq_true hb
      have hne:bx≠[]:=by intro h;subst h;have:off+l.length≤0:=hb;omega
      obtain⟨_,_,c,e,h4,h5,_⟩:=s2.hp.2 id bx hbx hne
      obtain⟨s3,t3⟩:=s2.write_heap (off:=off) (l:=l) (vs:=(a.eval y).cells.toList) hbx (by omega) h4 hb (by simp;omega) (fun j lv hj=>by
       have hjn:j<n:=by rw[←hl];exact(List.getElem?_eq_some_iff.1 hj).1
       obtain⟨u,hu,hr,_⟩:=hc j hjn
       rw[hlf j hjn]at hj
       simp only[Option.some.injEq]at hj
       subst hj
       exact⟨u,by simpa using hu,hr.mono (t2.kr j)⟩)
      exact⟨_,_,h,(OpOk.skip (run _ off (Qcv hp').2 c e h4 (by omega)) s3 ((ht1.trans t2.toTr).trans t3))⟩
     ·rw[Bool.eq_false_iff.2 hb]at hst;cases hst
    |_=>simp[stP]at hst
   |false=>
    simp only[cond_false]at h
    cases hx:st1.rd x<;>rw[hx]at h<;>simp only[reduceCtorEq]at h
    rename_i b off
    have hp':=r2 .res
    rw[hx]at hp'
    by_cases hb:Nat.ble (off+n) (st1.z b)=true
    ·rw[hb,cond_true]at h
     have hb:=Nat.le_of_ble_eq_true hb
     obtain⟨_,_,_,c,e,h4,h5,_⟩:=s2.bx b (by omega)
     obtain⟨s3,t3⟩:=s2.write_box (b:=b) (off:=off) (n:=n) (vs:=(a.eval y).cells.toList) (by omega) h4 hb (by simpa using hvl) f (fun j hj=>by
      obtain⟨u,hu,hr,_⟩:=hc j hj
      exact⟨u,by simpa using hu,hr.mono (t2.kr j)⟩)
     exact⟨_,_,h,(OpOk.skip (run _ off hp'.2 c e h4 (by omega)) s3 ((ht1.trans t2.toTr).trans t3))⟩
    ·rw[Bool.eq_false_iff.2 hb]at h;cases h
  cases lv with
  |ag ls=>
   simp only at h
   by_cases hc:(Nat.beq ls.length z.1&&ls.all LV.isC)=true
   ·rw[hc,cond_true]at h
    simp only[Bool.and_eq_true,List.all_eq_true]at hc
    have hlen:=Nat.eq_of_beq_eq_true hc.1
    obtain⟨vs,hv,hsz,hcells⟩:=hrv
    refine fin z.1 _ ls rfl hlen (by rw[hv];simp only[Value.cells];omega) (fun j hj=>?_) (fun j hj=>?_) h
    ·simp[List.getD_eq_getElem?_getD,List.getElem?_eq_getElem (show j<ls.length by omega)]
    ·have hget:ls[j]? =some (ls.getD j .un):=by simp[List.getD_eq_getElem?_getD,List.getElem?_eq_getElem (show j<ls.length by omega)]
     obtain⟨u,hu,hr⟩:=hcells j _ hget
     rw[hv]
     exact⟨u,hu,hr,hc.2 _ (List.mem_of_getElem? hget)⟩
   ·rw[Bool.eq_false_iff.2 hc]at h;cases h
  |v p=>
   simp only[Option.bind_eq_some_iff]at h
   obtain⟨cs,hcs,h⟩:=h
   obtain⟨hdl,hvl,hdc⟩:=Arg.toC (show Rep w g1 p _ from hrv) hcs
   refine fin z.1 _ (cs.map .v) rfl (by simpa using hdl) hvl (fun j hj=>?_) (fun j hj=>?_) h
   ·rw[List.getElem?_map,List.getElem?_eq_getElem (by omega),Qoa (List.getElem?_eq_getElem (by omega))];rfl
   ·obtain⟨u,hu,hr⟩:=hdc j cs[j] (List.getElem?_eq_getElem (by omega))
    exact⟨u,hu,by rw[Qoa (List.getElem?_eq_getElem (by omega))];exact hr,rfl⟩
  |ow n xs=>
   simp only at h
   by_cases hc:Nat.beq z.1 1=true
   ·rw[hc,cond_true]at h
    have hc:=Nat.eq_of_beq_eq_true hc
    obtain⟨hne,hown⟩:=hrv
    have hv:(a.eval y).cells= #[a.eval y]:=by
     generalize a.eval y=v at hown
     cases hown<;>rfl
    refine fin 1 _ [.ow n xs] hc.symm rfl (by rw[hv];rfl) (fun j hj=>?_) (fun j hj=>?_) h
    ·have:j=0:=by omega
     subst this;rfl
    ·have:j=0:=by omega
     subst this
     exact⟨_,by rw[hv];rfl,⟨hne,hown⟩,rfl⟩
   ·rw[Bool.eq_false_iff.2 hc]at h;cases h
  |_=>simp at h
 cases tk with
 |true=>
  simp only[cond_true]at h
  cases y with
  |tmp j=>
   obtain⟨s1,r1⟩:=hs.take j
   exact core _ _ _ s1 (Qb5 w g rfl) r1 h
  |_=>simp at h
 |false=>
  simp only[cond_false]at h
  have rd:∀y',a.eval y'=a.eval y→(∀g1,SR nt st a w g1 lm→Tr w g w g1→RepV w g1 lm st.nl .res (st.rd y') (a.eval y)→Good P nt o a w g K r)→Good P nt o a w g K r:=by
   intro y' he k
   obtain⟨g1,s1,t1,r1⟩:=QcK hs y'
   exact k g1 s1 t1.toTr (by rw[←he];exact r1 .res)
  cases y with
  |const c=>exact core st g _ hs (Tr.refl w g) Qkt h
  |tmp j=>exact rd (.tmp j) rfl fun g1 s1 t1 r1=>core st g1 _ s1 t1 r1 h
  |func f=>exact rd (.func f) rfl fun g1 s1 t1 r1=>core st g1 _ s1 t1 r1 h
  |global f=>exact rd (.global f) rfl fun g1 s1 t1 r1=>core st g1 _ s1 t1 r1 h
end Go.Proofs.Am
