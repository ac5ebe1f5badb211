/-
  Copying into a slice in a heap box.
-/
import Derived.Test.YtoblgjmllmomhaaGreatDoorAmOpJ
import Derived.Deep.DeepAppendWide
import Derived.Deep.Upon
namespace Go.Proofs.Am
open Go
variable {R:Type} {P:Program} {nt:Nat} {o:Oper} {st:St} {a:Act} {w:World} {g:Gh} {lm:Nat→Nat} {K:LV→St→Option R} {r:R}
theorem QbG {len bytes:Nat}(h:QaU len bytes=true):len*bytes≤281474976710656∧0<bytes∧∀old,old<len→Builtin.nextslicecap len old*bytes≤281474976710656:=by
 unfold QaU at h
 simp only[Bool.and_eq_true,Bool.or_eq_true]at h
 have hb:0<bytes:=Nat.le_of_ble_eq_true h.2
 rcases h.1 with h1|h1
 ·have h1:=Nat.le_of_ble_eq_true h1
  exact⟨by omega,hb,fun old ho=>growslice_fits ho h1⟩
 ·have h1:=Nat.le_of_ble_eq_true h1
  have:len*bytes≤(len+len/4+192)*bytes:=Nat.mul_le_mul_right _ (by omega)
  exact⟨by omega,hb,fun old ho=>growslice_fits_wide ho h1⟩
theorem QcJ {len bytes:Nat}(h:QaU len bytes=true):len≤281474976710656:=by
 obtain⟨h1,h2,_⟩:=QbG h
 exact Nat.le_trans (Nat.le_mul_of_pos_right _ h2) h1
theorem QjS {tx:TypeId}{n:Nat}{p:AV}{v:Value}{ys:List (List AV)}(hr:Rep w g p v)(he:elA (P.underlying tx) n p=some ys)(hf:QbW n ys=true):
 ∃news,Src P n tx v ys.length news w∧news.length=ys.length*n∧Elems w g n ys news.toArray:=by
 unfold elA at he
 split at he
 ·rename_i e hu
  cases p with
  |imm xs=>
   simp only[Option.some.injEq]at he
   subst he
   cases hr with
   |imm0 ad cap=>
    refine⟨[],?_,by simp,fun k x hk=>by simp at hk,fun k x j y hk hj=>by simp at hk⟩
    cases ad with
    |none=>exact Src.ofNil w hu cap
    |some ad=>exact Src.ofSlice w hu ad 0 cap [] (by simp) (by simp) (by simp)
   |imm _ m b off cap f hl hn hc hr=>
    have hmn:xs=[]∨m=n:=by
     cases xs with
     |nil=>exact .inl rfl
     |cons x xs=>
      right
      have h1:=hn 0 x (by simp)
      simp only[QbW]at hf
      have:=Nat.eq_of_beq_eq_true hf
      omega
    rcases hmn with rfl|rfl
    ·exact⟨[],Src.ofSlice w hu ⟨b,off,none⟩ 0 cap [] (by simp) (by simp) (by simp),by simp,fun k x hk=>by simp at hk,fun k x j y hk hj=>by simp at hk⟩
    ·have hget:∀j,j<xs.length*m→∃(k:Nat) (x:List AV) (i:Nat) (y:AV),xs[k]? =some x∧x[i]? =some y∧j=k*m+i:=by
      intro j hj
      have hm:0<m:=by rcases Nat.eq_zero_or_pos m with h|h;·subst h;omega
                      ·exact h
      have hk:j/m<xs.length:=Nat.div_lt_of_lt_mul (by rw[Nat.mul_comm];exact hj)
      have hi:j%m<xs[j/m].length:=by rw[hn _ _ (List.getElem?_eq_getElem hk)];exact Nat.mod_lt _ hm
      refine⟨j/m,xs[j/m],j%m,xs[j/m][j%m],List.getElem?_eq_getElem hk,List.getElem?_eq_getElem hi,?_⟩
      have:=Nat.div_add_mod j m
      rw[Nat.mul_comm]at this;exact this.symm
     let news:List Value:=(List.range (xs.length*m)).map fun j=>(Cl w b (off+j)).getD undef
     have hnews:∀(j:Nat) (u:Value),news[j]? =some u→j<xs.length*m∧u=(Cl w b (off+j)).getD undef:=by
      intro j u hj
      have hlt:j<xs.length*m:=by have:=(List.getElem?_eq_some_iff.1 hj).1;simpa[news]using this
      simp only[news,List.getElem?_map,List.getElem?_eq_getElem (show j<(List.range (xs.length*m)).length by simpa using hlt),List.getElem_range,Option.map_some,Option.some.injEq]at hj
      exact⟨hlt,hj.symm⟩
     have hcell:∀j,j<xs.length*m→∃u,Cl w b (off+j)=some u∧u.oneCell'=true:=by
      intro j hj
      obtain⟨k,x,i,y,hk,hi,rfl⟩:=hget j hj
      obtain⟨_,h2,h3⟩:=hc k x i y hk hi
      rw[←Nat.add_assoc]
      exact⟨_,h2,QcL ((hr k x i y hk hi).oneCell h3).2⟩
     refine⟨news,Src.ofSlice w hu ⟨b,off,none⟩ xs.length cap news (by simp[news]) (fun j u hj=>?_) (fun u hu'=>?_),by simp[news],hn,fun k x j y hk hj=>?_⟩
     ·obtain⟨hlt,rfl⟩:=hnews j u hj
      obtain⟨u,hu,_⟩:=hcell j hlt
      rw[Addr.add_mid]
      show Cl w b (off+j)=_
      rw[hu];rfl
     ·obtain⟨j,hj⟩:=List.mem_iff_getElem?.1 hu'
      obtain⟨hlt,rfl⟩:=hnews j u hj
      obtain⟨u,hu,h1⟩:=hcell j hlt
      rw[hu];exact h1
     ·obtain⟨h1,h2,h3⟩:=hc k x j y hk hj
      have hjm:j<m:=by rw[←hn k x hk];exact(List.getElem?_eq_some_iff.1 hj).1
      have hkl:k<xs.length:=(List.getElem?_eq_some_iff.1 hk).1
      have hlt:k*m+j<xs.length*m:=by
       have:(k+1)*m≤xs.length*m:=Nat.mul_le_mul_right m hkl
       rw[Nat.succ_mul]at this;omega
      refine⟨f k j,?_,hr k x j y hk hj,h3⟩
      rw[List.getElem?_toArray]
      simp only[news,List.getElem?_map,List.getElem?_eq_getElem (show k*m+j<(List.range (xs.length*m)).length by simpa using hlt),List.getElem_range,Option.map_some,Option.some.injEq]
      rw[←Nat.add_assoc,h2];rfl
  |nilS=>
   simp only[Option.some.injEq]at he
   subst he
   cases hr
   exact⟨[],Src.ofNil w hu 0,by simp,fun k x hk=>by simp at hk,fun k x j y hk hj=>by simp at hk⟩
  |nilE=>
   simp only[Option.some.injEq]at he
   subst he
   cases hr with
   |nilE ad=>
    cases ad with
    |none=>exact⟨[],Src.ofNil w hu 0,by simp,fun k x hk=>by simp at hk,fun k x j y hk hj=>by simp at hk⟩
    |some ad=>exact⟨[],Src.ofSlice w hu ad 0 0 [] (by simp) (fun j u hj=>by simp at hj) (fun u hu=>by simp at hu),by simp,fun k x hk=>by simp at hk,fun k x j y hk hj=>by simp at hk⟩
  |_=>simp at he
 ·rename_i hu
  cases p with
  |str s=>
   simp only at he
   by_cases hn:Nat.beq n 1=true
   ·rw[hn,cond_true,Option.some.injEq]at he
    subst he
    have hn:=Nat.eq_of_beq_eq_true hn
    subst hn
    cases hr
    refine⟨byteCells s,?_,by rw[byteCells_length,Qc8,Nat.mul_one],?_⟩
    ·rw[Qc8];exact Src.ofString w hu s
    ·have:=Qes (w:=w) (g:=g) s #[]
     rw[Array.append_empty]at this
     have e:(byteCells s).toArray=s.data.map (fun b=>Value.int .u8 b.toNat):=by
      apply Array.ext';simp[byteCells]
     rw[e];exact this
   ·rw[Bool.eq_false_iff.2 hn]at he;cases he
  |_=>simp at he
 ·cases he
theorem Qb2 (b:Nat):∀(vs:List Value) (off:Nat) (c:Array Value) (e:TypeId) (fz:Nat×Nat) (w:World),w.heap[b]? =some (.cells c e fz)→off+vs.length≤c.size→
 w.setCells b off vs=w.setRow b (QaI c off vs)
 |[],off,c,e,fz,w,hb,_=>by
  have:QaI c off []=c:=by
   apply Array.ext';simp[QaI]
  rw[this,setRow_self w b c e fz hb];rfl
 |v::vs,off,c,e,fz,w,hb,hl=>by
  simp only[List.length_cons]at hl
  have h1:(w.setRow b (c.setIfInBounds off v)).heap[b]? =some (.cells (c.setIfInBounds off v) e fz):=setRow_heap w b c _ e fz hb
  rw[World.setCells,setCell_eq_setRow w b off c e fz v hb,Qb2 b vs (off+1) _ e fz _ h1 (by simp;omega),setRow_setRow]
  congr 1
  apply Array.ext_getElem?
  intro k
  rw[QaT (by simp;omega),QaT (by simp;omega),Array.getElem?_setIfInBounds]
  simp only[List.length_cons]
  by_cases h2:k=off
  ·subst h2
   rw[if_neg (by omega),if_pos rfl,if_pos (by omega),if_pos (by omega)]
   simp
  ·by_cases h3:off+1≤k∧k<off+1+vs.length
   ·rw[if_pos h3,if_pos (by omega),show k-off=(k-(off+1))+1 by omega,List.getElem?_cons_succ]
   ·rw[if_neg h3,if_neg (by omega),if_neg (by omega)]
theorem Qgu {b:Nat}{c:Array Value}{e:TypeId}{fz:Nat×Nat}(hb:w.heap[b]? =some (.cells c e fz))(hf:fz.2=0∨c.size≤fz.1){j:Nat}(hj:j<c.size):w.frozen? ⟨b,j,none⟩=false:=by
 obtain⟨lo,hi⟩:=fz
 simp only[World.frozen?,hb]
 simp only at hf
 rw[Bool.and_eq_false_iff]
 rcases hf with h|h
 ·right;simp;omega
 ·left;simp;omega
theorem Elems.append {n:Nat}{xs ys:List (List AV)}{c d:Array Value}{m:Nat}(hx:Elems w g n xs c)(hy:Elems w g n ys d)(hm:m=xs.length*n)
 (e:Array Value)(h1:∀j,j<m→e[j]? =c[j]?)(h2:∀j,j<ys.length*n→e[m+j]? =d[j]?):Elems w g n (xs++ys) e:=by
 refine⟨fun k x hk=>?_,fun k x j y hk hj=>?_⟩
 ·rw[List.getElem?_append]at hk
  split at hk
  ·exact hx.1 k x hk
  ·exact hy.1 _ x hk
 ·rw[List.getElem?_append]at hk
  split at hk
  ·rename_i hlt
   have hjn:j<n:=by rw[←hx.1 k x hk];exact(List.getElem?_eq_some_iff.1 hj).1
   have:k*n+j<xs.length*n:=by
    have:(k+1)*n≤xs.length*n:=Nat.mul_le_mul_right n hlt
    rw[Nat.succ_mul]at this;omega
   rw[h1 _ (by omega)]
   exact hx.2 k x j y hk hj
  ·rename_i hge
   have hjn:j<n:=by rw[←hy.1 _ x hk];exact(List.getElem?_eq_some_iff.1 hj).1
   have hlt:k-xs.length<ys.length:=(List.getElem?_eq_some_iff.1 hk).1
   have h3:(k-xs.length)*n+j<ys.length*n:=by
    have:(k-xs.length+1)*n≤ys.length*n:=Nat.mul_le_mul_right n hlt
    rw[Nat.succ_mul]at this;omega
   have e1:k*n+j=m+((k-xs.length)*n+j):=by
    have:(xs.length+(k-xs.length))*n=xs.length*n+(k-xs.length)*n:=Nat.add_mul _ _ _
    rw[show xs.length+(k-xs.length)=k by omega]at this
    omega
   rw[e1,h2 _ h3]
   exact hy.2 _ x j y hk hj
theorem Qxr (hs:SR nt st a w g lm){t tx ty e:TypeId}{i:TypeInfo}(ht:P.underlying t=some (.slice e))(hi:P.info? e=some i){zc:List AV}(hzc:Qbq P e=some zc)(hzl:zc.length=i.size)(hpos:0<i.size)
 {xs ys:List (List AV)}{s v:Value}(hown:Own w g (.res 0) i.size xs s){news:List Value}(hsrc:Src P i.size tx v ys.length news w)(hnl:news.length=ys.length*i.size)(hE:Elems w g i.size ys news.toArray)
 (hroom:QaU (xs.length+ys.length) i.bytes=true):
 ∃v' w' g',(Builtin.append_ #[t,tx] ty #[s,v]).run P w=.ok v' w'∧SR nt st a w' g' lm∧Tr w g w' g'∧Own w' g' (.res 0) i.size (xs++ys) v':=by
 obtain⟨i',z,hi',hz,hzz,_⟩:=Qbb hzc
 rw[hi]at hi'
 simp only[Option.some.injEq]at hi'
 subst hi'
 obtain⟨hroom1,hroom2,hroom3⟩:=QbG hroom
 have hlen:=QcJ hroom
 have grow:∀(base:Option Addr) (cap:Nat) (olds:List Value) (c:Array Value),(Builtin.firstCells i.size xs.length (.slice base xs.length cap)).run P w.drew=.ok olds.toArray w.drew→olds.length=xs.length*i.size→
  cap<xs.length+ys.length→Elems w g i.size xs c→(∀j,j<olds.length→olds[j]? =c[j]?)→s=.slice base xs.length cap→
  ∃v' w' g',(Builtin.append_ #[t,tx] ty #[s,v]).run P w=.ok v' w'∧SR nt st a w' g' lm∧Tr w g w' g'∧Own w' g' (.res 0) i.size (xs++ys) v':=by
  intro base cap olds c hold hol hg hx hoc hsv
  subst hsv
  have hfit:=hroom3 _ hg
  have hrun:=run_append_grow_src w t tx ty e i z ht hi hz base xs.length cap olds hold v ys.length news hsrc hg (by omega) hfit
  have hge:=grownCap_ge w (xs.length+ys.length) cap e
  let cs:Array Value:=(olds++news).toArray++Builtin.zeroCells z.cells (grownCap w (xs.length+ys.length) cap e-(xs.length+ys.length))
  have hcs:cs.size=grownCap w (xs.length+ys.length) cap e*i.size:=by
   have e1:z.cells.size=i.size:=by omega
   simp only[cs,Array.size_append,List.size_toArray,List.length_append,hol,hnl,Builtin.zeroCells,Array.size_map,Array.size_range,e1]
   rw[←Nat.add_mul,←Nat.add_mul];congr 1;omega
  have hall:Elems w.drew g i.size (xs++ys) cs:=by
   refine(Elems.append (m:=xs.length*i.size) hx hE rfl cs (fun j hj=>?_) (fun j hj=>?_)).mono (Qdo w g)
   ·rw[←hoc j (by omega)]
    simp only[cs]
    rw[Array.getElem?_append_left (by simp;omega),List.getElem?_toArray,List.getElem?_append_left (by omega)]
   ·simp only[cs]
    rw[Array.getElem?_append_left (by simp;omega),List.getElem?_toArray,List.getElem?_append_right (by omega),List.getElem?_toArray,hol]
    congr 1;omega
  obtain⟨s2,t2,r2⟩:=hs.drew.new_ow cs e (0,0) (.inl rfl) i.size _ hpos hcs (xs++ys) (by simpa using hge) hall.1 hall.2
  obtain⟨_,r2⟩:=r2
  rw[List.length_append]at r2
  exact⟨_,_,_,hrun,s2,(QcB w g).trans t2,r2⟩
 cases hown with
 |emp ad=>
  by_cases hy:ys=[]
  ·subst hy
   simp only[List.length_nil,Nat.zero_mul,List.length_eq_zero_iff]at hnl
   subst hnl
   exact⟨_,w,g,run_append_nothing w t tx ty e i ht hi ad 0 0 (Nat.le_refl _) v hsrc,hs,Tr.refl w g,.emp ad⟩
  ·have hyl:0<ys.length:=List.length_pos_iff.2 hy
   refine grow ad 0 [] #[] ?_ (by simp) (by simpa using hyl) ⟨fun k x hk=>by simp at hk,fun k x j y hk hj=>by simp at hk⟩ (by simp) rfl
   cases ad<;>simp[Builtin.firstCells,loadCells,loadCellsFrom]
 |blk _ b cap c e' fz f hl hn hx hb hf hz ho hsl hc hr=>
  have hx':Elems w g i.size xs c:=⟨hx,fun k x j y hk hj=>⟨f k j,(hc k x j y hk hj).1,hr k x j y hk hj,(hc k x j y hk hj).2⟩⟩
  have hle:xs.length*i.size≤c.size:=by rw[hz];exact Nat.mul_le_mul_right _ hl
  by_cases hrm:xs.length+ys.length≤cap
  ·have hsz:xs.length*i.size+news.length≤c.size:=by
    rw[hnl,←Nat.add_mul,hz];exact Nat.mul_le_mul_right _ hrm
   have hrun:=run_append_room_src w t tx ty e i ht hi b 0 xs.length cap v ys.length news hsrc hrm (fun j hj=>by
    have:Cl w b (0+xs.length*i.size+j)=c[0+xs.length*i.size+j]?:=Qcf hb
    show(Cl w b (0+xs.length*i.size+j)).isSome=true
    rw[this,Array.getElem?_eq_getElem (by omega)];rfl) (fun j hj=>Qgu hb hf (by omega))
   rw[Nat.zero_add,Qb2 b news (xs.length*i.size) c e' fz w hb hsz]at hrun
   have hk:∀j,j<g.sl b→(QaI c (xs.length*i.size) news)[j]? =c[j]?:=fun j hj=>by
    rw[QaT hsz,if_neg (by omega)]
   have K:∀hd,hd≠.res 0→Kp w g (w.setRow b (QaI c (xs.length*i.size) news)) (QbT g b (.res 0)) hd:=fun hd hne=>Qj7 hb (Qar hsz) hk _ (by rw[ho];exact hne)
   refine⟨_,_,QbT g b (.res 0),hrun,hs.keep (Qj5 hs.wf hb (Qar hsz) _ (by rw[ho];simp)) rfl (fun hd _ h1 _=>K hd (h1 0)),Qj6 hb (Qar hsz) hk _ (by rw[ho];simp),?_⟩
   have L:=(K .oth (by simp)).le
   have hall:Elems w g i.size (xs++ys) (QaI c (xs.length*i.size) news):=by
    refine Elems.append (m:=xs.length*i.size) hx' hE rfl _ (fun j hj=>?_) (fun j hj=>?_)
    ·rw[QaT hsz,if_neg (by omega)]
    ·rw[QaT hsz,if_pos (by omega),List.getElem?_toArray];congr 1;omega
   have hall:=hall.mono L
   rw[←List.length_append]
   refine .blk (xs++ys) b cap _ e' fz (fun k j=>(QaI c (xs.length*i.size) news).getD (k*i.size+j) undef) (by simpa using hrm) hn hall.1 (QbO hb) (by rw[Qar hsz];exact hf) (by rw[Qar hsz];exact hz)
    (by simp only[QbT,Qai]) (by show g.sl b≤_;rw[List.length_append,Nat.add_mul];omega) (fun k x j y hk hj=>?_) (fun k x j y hk hj=>?_)
   ·obtain⟨u,hu,_,h1⟩:=hall.2 k x j y hk hj
    exact⟨by simp[Array.getD_eq_getD_getElem?,hu],h1⟩
   ·obtain⟨u,hu,hr,_⟩:=hall.2 k x j y hk hj
    simpa[Array.getD_eq_getD_getElem?,hu]using hr
  ·let olds:List Value:=c.toList.take (xs.length*i.size)
   have hol:olds.length=xs.length*i.size:=by simp[olds];omega
   refine grow (some ⟨b,0,none⟩) cap olds c ?_ hol (by omega) hx' (fun j hj=>?_) rfl
   ·refine run_firstCells_some w.drew i.size xs.length ⟨b,0,none⟩ xs.length cap olds hol (fun j u hj=>?_)
    rw[Addr.add_mid,World.cell?_drew]
    show Cl w b (0+j)=_
    rw[Qcf hb,Nat.zero_add]
    simp only[olds,List.getElem?_take]at hj
    split at hj
    ·simpa using hj
    ·cases hj
   ·simp only[olds,List.getElem?_take]
    rw[if_pos (by omega),Array.getElem?_toList]
end Go.Proofs.Am
namespace Go.Proofs.Am
open Go
variable {R:Type} {P:Program} {nt:Nat} {o:Oper} {st:St} {a:Act} {w:World} {g:Gh} {lm:Nat→Nat} {K:LV→St→Option R} {r:R}
theorem QdN {x:LV}{n bytes:Nat}{ys:List (List AV)}{y:LV}(h:apL x n bytes ys=some y):∃xs,(x=.ow n xs∨(x=.v .nilS∧xs=[]))∧y=.ow n (xs++ys)∧QbW n ys=true∧QaU (xs.length+ys.length) bytes=true:=by
 unfold apL at h
 split at h
 ·rename_i m xs
  by_cases hc:(Nat.beq m n&&QbW n ys&&QaU (xs.length+ys.length) bytes)=true
  ·rw[hc,cond_true,Option.some.injEq]at h
   simp only[Bool.and_eq_true]at hc
   have:=Nat.eq_of_beq_eq_true hc.1.1
   subst this
   exact⟨xs,.inl rfl,h.symm,hc.1.2,hc.2⟩
  ·rw[Bool.eq_false_iff.2 hc]at h;cases h
 ·by_cases hc:(QbW n ys&&QaU ys.length bytes)=true
  ·rw[hc,cond_true,Option.some.injEq]at h
   simp only[Bool.and_eq_true]at hc
   exact⟨[],.inr ⟨rfl,rfl⟩,h.symm,hc.1,by simpa using hc.2⟩
  ·rw[Bool.eq_false_iff.2 hc]at h;cases h
 ·cases h
theorem QvW {n nl:Nat}{x:LV}{xs:List (List AV)}{v:Value}(hj:x=.ow n xs∨(x=.v .nilS∧xs=[]))(r:RepV w g lm nl .res x v):Own w g (.res 0) n xs v:=by
 rcases hj with rfl|⟨rfl,rfl⟩
 ·exact r.2
 ·cases r
  exact .emp _
theorem Qhm {c:Call}{x y:Operand}(ho:o.op=.call c)(hc:c.callee=.builtin .append)(hx:c.args.toList=[x,y])(hs:SR nt st a w g lm)
 (h:((c.argTypes.toList.head?.bind (QaA P)).bind fun e=>(P.info? e).bind fun ti=>(Qbq P e).bind fun zc=>
  (st.rv y).bind fun p=>(elX P st.h false c.argTypes.toList[1]? ti.size p).bind fun ys=>
  bif Nat.beq zc.length ti.size&&Nat.blt 0 ti.size then
  match x with
  |.tmp j=>(apL (st.t j) ti.size ti.bytes ys).bind fun r=>K r {st with t:=upd st.t j .un}
  |.const (.slice none 0 0)=>(apL (.ow ti.size []) ti.size ti.bytes ys).bind fun r=>K r st
  |_=>none
  else none)=some r):Good P nt o a w g K r:=by
 simp only[elX,cond_false,Option.bind_eq_some_iff]at h
 obtain⟨e,⟨t,ht,he⟩,ti,hti,zc,hzc,p,hp,ys,hys,h⟩:=h
 by_cases hcond:(Nat.beq zc.length ti.size&&Nat.blt 0 ti.size)=true
 case neg=>rw[Bool.eq_false_iff.2 hcond]at h;cases h
 rw[hcond,cond_true]at h
 simp only[Bool.and_eq_true]at hcond
 have hzl:=Nat.eq_of_beq_eq_true hcond.1
 have hpos:0<ti.size:=Nat.le_of_ble_eq_true hcond.2
 have hut:=QaD he
 have hargs:c.args= #[x,y]:=by rw[←Array.toArray_toList (xs:=c.args),hx]
 obtain⟨tx,htx⟩:∃tx,c.argTypes.toList[1]? =some tx:=by
  cases h1:c.argTypes.toList[1]? with
  |some tx=>exact⟨tx,rfl⟩
  |none=>rw[h1]at hys;simp[elA]at hys
 rw[htx,Option.bind_some]at hys
 have t0:c.argTypes[0]? =some t:=by rw[List.head?_eq_getElem?]at ht;simpa using ht
 have t1:c.argTypes[1]? =some tx:=by simpa using htx
 obtain⟨g1,s1,q1,r1⟩:=QaO hs hp
 have run:∀(st1:St) (g2:Gh) (s:Value) (lv:LV) (xs:List (List AV)),SR nt st1 a w g2 lm→Tr w g1 w g2→Rep w g2 p (a.eval y)→a.eval x=s→Own w g2 (.res 0) ti.size xs s→
  QbW ti.size ys=true→QaU (xs.length+ys.length) ti.bytes=true→lv=.ow ti.size (xs++ys)→K lv st1=some r→Good P nt o a w g K r:=by
  intro st1 g2 s lv xs s2 q2 r2 hsx hown hfit hroom hlv hK
  obtain⟨news,hsrc,hnl,hE⟩:=QjS (P:=P) (tx:=tx) r2 hys hfit
  obtain⟨v',w',g',hrun,s3,q3,hown'⟩:=Qxr (P:=P) s2 (t:=t) (tx:=tx) (ty:=o.type) hut hti hzc hzl hpos hown hsrc hnl hE hroom
  subst hlv
  refine⟨_,st1,hK,OpOk.value (v:=v') (w':=w') ?_ s3 ((q1.toTr.trans q2).trans q3) ⟨by simp,hown'⟩⟩
  rw[QaM ho hc]
  simp only[builtin]
  refine Qad ?_
  have heq:(Builtin.append_ c.argTypes o.type (c.args.map a.eval)).run P w=(Builtin.append_ #[t,tx] o.type #[s,a.eval y]).run P w:=by
   simp[Builtin.append_,hargs,t0,t1,hsx]
  rw[heq];exact hrun
 cases x with
 |tmp j=>
  simp only[Option.bind_eq_some_iff]at h
  ·obtain⟨lv,hap,h⟩:=h
   obtain⟨xs,hj,hlv,hfit,hroom⟩:=QdN hap
   obtain⟨s2,r2⟩:=s1.take j
   exact run _ _ _ lv xs s2 (Qb5 w g1 rfl) (r1.mono (QbH w g1 _)) rfl (QvW hj r2) hfit hroom hlv h
 |const cv=>
  split at h
  ·rename_i heq;cases heq
  ·rename_i heq
   simp only[Option.bind_eq_some_iff]at h
   ·obtain⟨lv,hap,h⟩:=h
    obtain⟨xs,hj,hlv,hfit,hroom⟩:=QdN hap
    simp only[LV.ow.injEq,true_and,reduceCtorEq,false_and,or_false]at hj
    subst hj
    injection heq with heq
    subst heq
    exact run st g1 (.slice none 0 0) lv [] s1 (Tr.refl w g1) r1 rfl (.emp _) hfit hroom hlv h
  ·cases h
 |_=>cases h
def Qci (i j:Nat):Hd→Hd
 |.cell i' j'=>if i'=i∧j'=j then .res 0 else .cell i' j'
 |h=>h
def QbJ (i j:Nat):Hd→Hd
 |.hcell i' j'=>if i'=i∧j'=j then .res 0 else .hcell i' j'
 |h=>h
theorem Qfv {t:TypeId}{x:Operand}{z:Nat×Bool}{b off:Nat}(ho:o.op=.load t x)(hs:SR nt st a w g lm)(hz:tyz P t=some z)(hx:st.rd x=.lp b off)(hb:off+(bif z.2 then z.1 else 1)≤st.z b)
 (h:(bif z.2 then none else K (st.m b off) {st with m:=Qng st.m b off (st.m b off).cp})=some r):Good P nt o a w g K r:=by
 cases h2:z.2 with
 |true=>rw[h2]at h;cases h
 |false=>
  rw[h2]at h hb
  simp only[cond_false]at h hb
  obtain⟨g0,s0,t0,r0⟩:=QcK hs x
  have he:=r0 .res
  rw[hx]at he
  obtain⟨_,he⟩:=he
  obtain⟨_,_,_,c0,e0,k4,k5,k6⟩:=s0.bx b (by omega)
  have F:=SR.famBox (nt:=nt) (st:=st) (a:=a) (w:=w) (lm:=lm) b (by omega) c0 e0 k4
  obtain⟨g1,s1,t1,hcpr⟩:=F.cp1 (k:=off) (by omega) s0
  obtain⟨b1,b2,b3,c,e,h4,h5,h6⟩:=s1.bx b (by omega)
  have hce:c0=c:=by
   rw[h4]at k4
   simp only[Option.some.injEq,Obj.cells.injEq]at k4
   exact k4.1.symm
  subst hce
  obtain⟨u,hu,hru⟩:=h6 off (by omega)
  have hud:c0.getD off undef=u:=by simp[Array.getD_eq_getD_getElem?,hu]
  have K0:∀hd,hd≠.cell b off→Kp w g1 w (Qbv g1 (Qci b off)) hd:=fun hd hne=>QdY w g1 (by
   cases hd<;>simp only[Qci]
   rename_i i' j'
   rw[if_neg]
   rintro⟨rfl,rfl⟩;exact hne rfl)
  refine Good.pre (t0.trans t1) ⟨_,_,h,OpOk.value (v:=u) (w':=w) (g':=Qbv g1 (Qci b off)) (lm':=lm) ?_ ⟨Qdv s1.wf rfl,s1.nt,s1.df,fun j=>(s1.tm j).mono (fun c=>K0 _ (by simp)),fun i hi=>?_,s1.hp.keep rfl (fun _=>K0 _ (by simp)) (fun _ _=>K0 _ (by simp))⟩ (Qb5 w g1 rfl) ?_⟩
  ·simp only[execOp,ho]
   refine Qad ?_
   have hcl:Cl w (lm b) off=some u:=by rw[Qcf h4];exact hu
   simp[Instr.loadAt,he,Instr.sureAddr,Qbs (P:=P) hz h2 hcl]
  ·obtain⟨c1,c2,c3,c',e',d4,d5,d6⟩:=s1.bx i hi
   refine⟨c1,by simp only[Qbv];rw[c2];rfl,c3,c',e',d4,d5,fun j hj=>?_⟩
   obtain⟨u',hu',hr'⟩:=d6 j hj
   refine⟨u',hu',?_⟩
   dsimp only
   rw[Qnf]
   by_cases hij:i=b∧j=off
   ·rw[if_pos hij]
    obtain⟨rfl,rfl⟩:=hij
    have e1:u'=c0.getD j undef:=by
     rw[h4]at d4
     simp only[Option.some.injEq,Obj.cells.injEq]at d4
     rw[←d4.1]at hu'
     simp[Array.getD_eq_getD_getElem?,hu']
    rw[e1]
    have hr:=hcpr .oth
    cases hm:st.m i j<;>rw[hm]at hr hr'<;>simp only[LV.cp,LV.cp1,RepC]at hr hr'⊢
    ·exact⟨hr.1.mono (QbH w g1 _),hr.2⟩
    ·exact⟨hr.1.mono (QbH w g1 _),hr.2⟩
   ·rw[if_neg hij];exact hr'.mono (K0 _ (by simp;omega))
  ·have hr2:=hru.rel (ρ:=Qci b off) (fun _=>by simp[Qci])
   simp only[Qci,and_self,if_true]at hr2
   dsimp only
   cases hm:st.m b off<;>rw[hm]at hr2<;>simp only[RepC]at hr2<;>simp only[RepV]
   ·exact hr2.1
   ·exact hr2
theorem QeD {t:TypeId}{x:Operand}{z:Nat×Bool}{p:AV}(ho:o.op=.load t x)(hs:SR nt st a w g lm)(hz:tyz P t=some z)(hx:st.rd x=.v p)
 (h:(bif z.2 then none else(tkP st.h p).bind fun r=>K r.1 {st with h:=r.2})=some r):Good P nt o a w g K r:=by
 cases h2:z.2 with
 |true=>rw[h2]at h;cases h
 |false=>
  rw[h2]at h
  simp only[cond_false,Option.bind_eq_some_iff]at h
  obtain⟨⟨lv,h'⟩,htk,h⟩:=h
  obtain⟨g1,s1,t1,r1⟩:=QcK hs x
  have hp:Rep w g1 p (a.eval x):=by have:=r1 .res;rw[hx]at this;exact this
  cases p with
  |ptr id off=>
   simp only[tkP,Option.bind_eq_some_iff,Option.some.injEq,Prod.mk.injEq]at htk
   obtain⟨bx,hbx,lv',hlv,rfl,rfl⟩:=htk
   have hlt:off<bx.length:=(List.getElem?_eq_some_iff.1 hlv).1
   have hne:bx≠[]:=by intro h;subst h;simp at hlt
   obtain⟨b2,b3,c,e,h4,h5,h6⟩:=s1.hp.2 id bx hbx hne
   obtain⟨u,hu,hru⟩:=h6 off lv' hlv
   have K0:∀hd,hd≠.hcell id off→Kp w g1 w (Qbv g1 (QbJ id off)) hd:=fun hd hne=>QdY w g1 (by
    cases hd<;>simp only[QbJ]
    rename_i i' j'
    rw[if_neg]
    rintro⟨rfl,rfl⟩;exact hne rfl)
   refine Good.pre t1 ⟨_,_,h,OpOk.value (v:=u) (w':=w) (g':=Qbv g1 (QbJ id off)) (lm':=lm) ?_ ⟨Qdv s1.wf rfl,s1.nt,s1.df,fun j=>(s1.tm j).mono (fun c=>K0 _ (by simp)),s1.bx.keep (fun _=>K0 _ (by simp)) (fun _ _=>K0 _ (by simp)),⟨?_,fun i bx' hi hne'=>?_⟩⟩ (Qb5 w g1 rfl) ?_⟩
   ·simp only[execOp,ho]
    refine Qad ?_
    have hcl:Cl w (g1.bm id) off=some u:=by rw[Qcf h4];exact hu
    simp[Instr.loadAt,(Qcv hp).2,Instr.sureAddr,Qbs (P:=P) hz h2 hcl]
   ·show g1.nb=_;rw[List.length_set];exact s1.hp.1
   ·simp only[List.getElem?_set]at hi
    by_cases hid:id=i
    ·subst hid
     rw[if_pos rfl]at hi
     split at hi
     ·simp only[Option.some.injEq]at hi
      subst hi
      refine⟨by simp only[Qbv];rw[b2];rfl,b3,c,e,h4,by rw[List.length_set];exact h5,fun j y hj=>?_⟩
      rw[List.getElem?_set]at hj
      split at hj
      ·rename_i hoj
       subst hoj
       simp only[Option.some.injEq]at hj
       subst hj
       exact⟨u,hu,trivial⟩
      ·rename_i hoj
       obtain⟨u',hu',hr'⟩:=h6 j y hj
       exact⟨u',hu',hr'.mono (K0 _ (by simp;omega))⟩
     ·cases hi
    ·rw[if_neg hid]at hi
     obtain⟨c2,c3,c',e',d4,d5,d6⟩:=s1.hp.2 i bx' hi hne'
     refine⟨by simp only[Qbv];rw[c2];rfl,c3,c',e',d4,d5,fun j y hj=>?_⟩
     obtain⟨u',hu',hr'⟩:=d6 j y hj
     exact⟨u',hu',hr'.mono (K0 _ (by simp;omega))⟩
   ·have hr2:=hru.rel (ρ:=QbJ id off) (fun _=>by simp[QbJ])
    simp only[QbJ,and_self,if_true]at hr2
    dsimp only
    cases lv'<;>simp only[RepC]at hr2<;>simp only[RepV]
    ·exact hr2.1
    ·exact hr2
  |_=>simp[tkP]at htk
end Go.Proofs.Am
namespace Go.Proofs.Am
open Go
variable {R:Type} {P:Program} {nt:Nat} {o:Oper} {st:St} {a:Act} {w:World} {g:Gh} {lm:Nat→Nat} {K:LV→St→Option R} {r:R}
theorem QcY {α:Type}{n:Nat}:∀(xs:List (List α)) (j:Nat) (y:α),(∀(k:Nat) (x:List α),xs[k]? =some x→x.length=n)→xs.flatten[j]? =some y→
 ∃(k:Nat) (x:List α) (i:Nat),xs[k]? =some x∧x[i]? =some y∧j=k*n+i
 |[],j,y,_,h=>by simp at h
 |x::xs,j,y,hn,h=>by
  have hx:x.length=n:=hn 0 x rfl
  rw[List.flatten_cons]at h
  by_cases hj:j<x.length
  ·rw[List.getElem?_append_left hj]at h
   exact⟨0,x,j,rfl,h,by omega⟩
  ·rw[List.getElem?_append_right (by omega)]at h
   obtain⟨k,x',i,h1,h2,h3⟩:=QcY xs (j-x.length) y (fun k x' hk=>hn (k+1) x' (by simpa using hk)) h
   exact⟨k+1,x',i,by simpa using h1,h2,by rw[Nat.add_mul,Nat.one_mul];omega⟩
theorem Qed {t:TypeId}{l c:Operand}(ho:o.op=.makeSlice t l c)(hs:SR nt st a w g lm)
 (h:((QaA P t).bind fun e=>(P.info? e).bind fun ti=>(tyz P e).bind fun z=>(Qbq P e).bind fun zc=>
  (st.rv l).bind fun p=>(st.rv c).bind fun q=>p.toI.bind fun n=>q.toI.bind fun m=>
  bif Nat.beq zc.length z.1&&Nat.blt 0 z.1&&decide (n=m)&&decide (0≤n)&&room n.toNat ti.bytes then
   K (.v (.arr z.1 st.h.bx.length 0 n.toNat)) {st with h:=Qdi st.h (Qal (List.replicate n.toNat zc))}else none)=some r):Good P nt o a w g K r:=by
 simp only[Option.bind_eq_some_iff]at h
 obtain⟨e,he,i,hi,z,hz,zc,hzc,p,hp,q,hq,n,hn,m,hm,h⟩:=h
 have hu:=QaD he
 obtain⟨i0,d,hi0,hsz,_,_⟩:=QaL hz
 rw[hi]at hi0
 simp only[Option.some.injEq]at hi0
 subst hi0
 obtain⟨i',zv,hi',hzv,hzl,_⟩:=Qbb hzc
 rw[hi]at hi'
 simp only[Option.some.injEq]at hi'
 subst hi'
 obtain⟨g1,s1,t1,r1⟩:=QaO hs hp
 obtain⟨g2,s2,t2,r2⟩:=QaO s1 hq
 obtain⟨k1,e1⟩:=QbX r1 hn
 obtain⟨k2,e2⟩:=QbX r2 hm
 by_cases hc:(Nat.beq zc.length z.1&&Nat.blt 0 z.1&&decide (n=m)&&decide (0≤n)&&room n.toNat i.bytes)=true
 ·rw[hc,cond_true]at h
  simp only[Bool.and_eq_true,decide_eq_true_eq]at hc
  obtain⟨⟨⟨⟨c1,c2⟩,rfl⟩,c4⟩,c5⟩:=hc
  have c1:=Nat.eq_of_beq_eq_true c1
  have c2:0<z.1:=Nat.le_of_ble_eq_true c2
  obtain⟨c6,c7⟩:=QdX c5
  have c8:=QhS c5
  have hE:Elems w g2 z.1 (List.replicate n.toNat zc) (madeCells zv.cells (n.toNat*z.1)):=Qbp (w:=w) (g:=g2) hzc hi hzv c1 n.toNat
  have hsize:(madeCells zv.cells (n.toNat*z.1)).size=n.toNat*z.1:=size_madeCells _ _
  have hfl:∀(j:Nat) (x:LV),(Qal (List.replicate n.toNat zc))[j]? =some x→∃u,(madeCells zv.cells (n.toNat*z.1))[j]? =some u∧RepZ w g2 x u:=by
   intro j x hj
   simp only[Qal,List.getElem?_map]at hj
   cases hy:(List.replicate n.toNat zc).flatten[j]? with
   |none=>rw[hy]at hj;cases hj
   |some y=>
    rw[hy]at hj
    simp only[Option.map_some,Option.some.injEq]at hj
    subst hj
    obtain⟨k,x',i',h1,h2,rfl⟩:=QcY _ _ _ hE.1 hy
    obtain⟨u,hu',hr,ho'⟩:=hE.2 k x' i' y h1 h2
    exact⟨u,hu',hr,ho'⟩
  have hlen:(Qal (List.replicate n.toNat zc)).length≤(madeCells zv.cells (n.toNat*z.1)).size:=by
   rw[hsize];simp[Qal,c1]
  obtain⟨s3,t3,r3⟩:=s2.new_heap (madeCells zv.cells (n.toNat*z.1)) e (Qal (List.replicate n.toNat zc)) hlen hfl
  refine Good.pre (t1.trans t2) ⟨_,_,h,OpOk.value (v:=.slice (some ⟨w.heap.size,0,none⟩) n.toNat n.toNat) (w':=w.alloc (.cells (madeCells zv.cells (n.toNat*z.1)) e)) ?_ s3 t3 ?_⟩
  ·simp only[execOp,ho,e1,e2]
   refine Qad ?_
   have hb:(i.bytes:Int)*n≤281474976710656:=by
    have e:n=(n.toNat:Int):=by omega
    have:((n.toNat*i.bytes:Nat):Int)≤140737488355328:=by omega
    rw[Nat.mul_comm,Int.natCast_mul]at this
    rw[←e]at this;omega
   have:=run_make (P:=P) w t e i zv hu hi hzv k1 k2 n n c4 (Int.le_refl _) hb (by omega)
   rw[hsz]at this
   exact this
  ·have hnb:st.h.bx.length=g2.nb:=s2.hp.1.symm
   have hbm:(QaV w g2).bm st.h.bx.length=w.heap.size:=by simp only[QaV];rw[hnb,Qai]
   have:=Rep.arr (w:=w.alloc (.cells (madeCells zv.cells (n.toNat*z.1)) e)) (g:=QaV w g2) z.1 st.h.bx.length 0 n.toNat n.toNat (by simp[QaV,hnb]) (Nat.le_refl _) (by
    rw[hbm,Qba (QaF w _),hsize,Nat.zero_add])
   rw[hbm]at this
   exact this
 ·rw[Bool.eq_false_iff.2 hc]at h;cases h
theorem QfB {α:Type}{n:Nat}:∀(xs:List (List α)),(∀(k:Nat) (x:List α),xs[k]? =some x→x.length=n)→xs.flatten.length=xs.length*n
 |[],_=>by simp
 |x::xs,h=>by
  rw[List.flatten_cons,List.length_append,h 0 x rfl,QfB xs fun k y hk=>h (k+1) y (by simpa using hk),List.length_cons,Nat.add_mul,Nat.one_mul,Nat.add_comm]
theorem QdF {t:TypeId}{len:Nat}{parts:Array (Nat×Operand)}(ho:o.op=.buildSlice t len parts)(hs:SR nt st a w g lm)
 (h:((QaA P t).bind fun e=>(tyz P e).bind fun z=>(Qbq P e).bind fun zc=>rvp st parts.toList fun ps=>
  bif Nat.beq zc.length z.1&&Nat.ble (len*z.1) 16777216&&Nat.blt 0 z.1 then
  (Qmb z.1 (List.replicate len zc) ps).bind fun xs=>(bif Nat.blt 0 len then K (.v (.arr z.1 st.h.bx.length 0 len)) {st with h:=Qdi st.h (Qal xs)}else K (.v .nilE) st)else none)=some r):Good P nt o a w g K r:=by
 simp only[Option.bind_eq_some_iff]at h
 obtain⟨e,he,z,hz,zc,hzc,h⟩:=h
 have hu:=QaD he
 obtain⟨i,d,hi,hsz,_,_⟩:=QaL hz
 obtain⟨i',zv,hi',hzv,hzl,_⟩:=Qbb hzc
 rw[hi]at hi'
 simp only[Option.some.injEq]at hi'
 subst hi'
 obtain⟨ps,h,hl,g1,s1,t1,r1⟩:=Qj1 _ _ _ hs h
 by_cases hc:(Nat.beq zc.length z.1&&Nat.ble (len*z.1) 16777216&&Nat.blt 0 z.1)=true
 ·rw[hc,cond_true]at h
  simp only[Bool.and_eq_true]at hc
  obtain⟨⟨c1,c2⟩,c3⟩:=hc
  have c1:=Nat.eq_of_beq_eq_true c1
  have c2:=Nat.le_of_ble_eq_true c2
  have c3:0<z.1:=Nat.le_of_ble_eq_true c3
  simp only[Option.bind_eq_some_iff]at h
  obtain⟨xs,hxs,h⟩:=h
  by_cases hlen:Nat.blt 0 len=true
  ·rw[hlen,cond_true]at h
   have hlen:0<len:=Nat.le_of_ble_eq_true hlen
   obtain⟨c',hf,hz',hl',he'⟩:=QfJ (w:=w) (g:=g1) c3 ps (parts.toList.map fun(i,x)=>(i,a.eval x)) (List.replicate len zc) xs ((Array.range (len*z.1)).map (zv.cells[·%zv.cells.size]!)) (by simpa using hl) (by simp)
    (Qbp hzc hi hzv c1 len) (fun j x v hj hv=>by
     rw[List.getElem?_map]at hv
     cases hp:parts.toList[j]? with
     |none=>rw[hp]at hv;cases hv
     |some q=>
      rw[hp]at hv
      simp only[Option.map_some,Option.some.injEq]at hv
      subst hv
      exact r1 j x q hj hp) hxs
   have hxl:xs.length=len:=by simpa using hl'
   have hcs:c'.size=len*z.1:=by rw[hz'];simp
   have hfl:∀(j:Nat) (x:LV),(Qal xs)[j]? =some x→∃u,c'[j]? =some u∧RepZ w g1 x u:=by
    intro j x hj
    simp only[Qal,List.getElem?_map]at hj
    cases hy:xs.flatten[j]? with
    |none=>rw[hy]at hj;cases hj
    |some y=>
     rw[hy]at hj
     simp only[Option.map_some,Option.some.injEq]at hj
     subst hj
     obtain⟨k,x',i',h1,h2,rfl⟩:=QcY _ _ _ he'.1 hy
     obtain⟨u,hu',hr,ho'⟩:=he'.2 k x' i' y h1 h2
     exact⟨u,hu',hr,ho'⟩
   obtain⟨s3,t3,r3⟩:=s1.new_heap c' e (Qal xs) (by rw[hcs];simp only[Qal,List.length_map];rw[QfB xs he'.1,hxl];exact Nat.le_refl _) hfl
   refine Good.pre t1 ⟨_,_,h,OpOk.value (v:=.slice (some ⟨w.heap.size,0,none⟩) len len) (w':=w.alloc (.cells c' e)) ?_ s3 t3 ?_⟩
   ·have hpos:¬len*i.size=0:=by rw[hsz];exact Nat.mul_ne_zero (by omega) (by omega)
    simp only[execOp,ho]
    refine Qad (run_buildSlice w t e len _ c' i zv hu hi hzv (by rw[hsz];omega) hpos ?_)
    rw[hsz];simpa using hf
   ·have hnb:st.h.bx.length=g1.nb:=s1.hp.1.symm
    have hbm:(QaV w g1).bm st.h.bx.length=w.heap.size:=by simp only[QaV];rw[hnb,Qai]
    have:=Rep.arr (w:=w.alloc (.cells c' e)) (g:=QaV w g1) z.1 st.h.bx.length 0 len len (by simp[QaV,hnb]) (Nat.le_refl _) (by
     rw[hbm,Qba (QaF w _),hcs,Nat.zero_add])
    rw[hbm]at this
    exact this
  ·rw[Bool.eq_false_iff.2 hlen,cond_false]at h
   have hK:=h
   have hlen0:len=0:=by
    cases len with
    |zero=>rfl
    |succ k=>exact absurd rfl hlen
   subst hlen0
   obtain⟨c',hf,hz',hl',he'⟩:=QfJ (w:=w) (g:=g1) c3 ps (parts.toList.map fun(i,x)=>(i,a.eval x)) (List.replicate 0 zc) xs ((Array.range (0*z.1)).map (zv.cells[·%zv.cells.size]!)) (by simpa using hl) (by simp)
    (Qbp hzc hi hzv c1 0) (fun j x v hj hv=>by
     rw[List.getElem?_map]at hv
     cases hp:parts.toList[j]? with
     |none=>rw[hp]at hv;cases hv
     |some q=>
      rw[hp]at hv
      simp only[Option.map_some,Option.some.injEq]at hv
      subst hv
      exact r1 j x q hj hp) hxs
   refine Good.pre t1 ⟨_,st,hK,OpOk.value (v:=.slice (some ⟨w.heap.size,0,none⟩) 0 0) (w':=w.alloc (.cells c' e)) ?_ (s1.new c' e (.res 0)) (Qgb s1.wf _ _) (Rep.nilE _)⟩
   simp only[execOp,ho]
   refine Qad ?_
   have hf':Instr.fill (fun i_1=>some (i_1*i.size,i.size)) #[] (parts.toList.map fun(i,x)=>(i,a.eval x))=some c':=by
    rw[hsz];simpa[Array.range_zero']using hf
   have hf2:Instr.fill (fun i_1=>some (i_1*i.size,i.size)) #[] ((parts.map fun(i,x)=>(i,a.eval x)).toList)=some c':=by
    rw[Array.toList_map];exact hf'
   simp only[Instr.buildSlice,Sem.run_bind,run_underlying hu,Result.andThen_ok,run_sizeOf hi,Nat.zero_mul]
   simp only[Nat.not_lt_zero,gt_iff_lt,if_false,if_true,Sem.run_pure,Sem.run_bind,Result.andThen_ok,Array.range_zero',Array.map_empty,hf2]
   simp[newRow]
 ·rw[Bool.eq_false_iff.2 hc]at h;cases h
theorem Qca (n:Nat):∀(k:Nat) (l:List AV) (i:Nat) (x:List AV),(chunk n k l)[i]? =some x→i<k∧x=(l.drop (i*n)).take n
 |0,l,i,x,h=>by simp[chunk]at h
 |k+1,l,0,x,h=>by simp[chunk]at h;simp[h]
 |k+1,l,i+1,x,h=>by
  simp only[chunk,List.getElem?_cons_succ]at h
  obtain⟨h1,h2⟩:=Qca n k _ i x h
  refine⟨by omega,?_⟩
  rw[h2,List.drop_drop,show n+i*n=(i+1)*n by rw[Nat.add_mul,Nat.one_mul,Nat.add_comm]]
theorem Qc2 (n:Nat):∀(k:Nat) (l:List AV),(chunk n k l).length=k
 |0,_=>rfl
 |k+1,l=>by simp[chunk,Qc2 n k]
theorem QwP {p x:AV}{h':Heap}{v:Value}(hs:SR nt st a w g lm)(hr:Rep w g p v)(h:frz st.h p=some (x,h')):
 ∃g',SR nt {st with h:=h'} a w g' lm∧Tr w g w g'∧Rep w g' x v:=by
 cases p<;>simp only[frz,reduceCtorEq]at h
 rename_i n id off len
 cases hn:Nat.blt 0 n with
 |false=>rw[hn]at h;cases h
 |true=>
 rw[hn,cond_true]at h
 simp only[Option.bind_eq_some_iff]at h
 obtain⟨bx,hb,cs,hcs,h⟩:=h
 cases hl:Nat.beq cs.length (len*n)with
 |false=>rw[hl]at h;cases h
 |true=>
 rw[hl,cond_true]at h
 simp only[Option.some.injEq,Prod.mk.injEq]at h
 obtain⟨rfl,rfl⟩:=h
 have hl:=Nat.eq_of_beq_eq_true hl
 have hn0:0<n:=Nat.le_of_ble_eq_true hn
 obtain⟨g1,s1,t1,hbm,hcell⟩:=QcT hs hb hcs
 have hset:∀(g2:Gh),HeapOk w g1 st.h→g2.nb=g1.nb→(∀i,i≠id→Kp w g1 w g2 (.hbox i))→(∀i c,Kp w g1 w g2 (.hcell i c))→HeapOk w g2 {st.h with bx:=st.h.bx.set id []}:=by
  intro g2 hh hnb k1 k2
  refine⟨by simp[hnb,hh.1],fun i b hi hne=>?_⟩
  have hid:i≠id:=by
   rintro rfl
   simp only at hi
   rw[List.getElem?_set_self (List.getElem?_eq_some_iff.1 hb).1]at hi
   cases hi;exact hne rfl
  simp only[List.getElem?_set_ne (Ne.symm hid)]at hi
  obtain⟨h2,h3,c,e,h4,h5,h6⟩:=hh.2 i b hi hne
  have hlt:i<g1.nb:=by rw[hh.1];exact(List.getElem?_eq_some_iff.1 hi).1
  have hbm2:g2.bm i=g1.bm i:=(k1 i hid).le.bm i hlt
  obtain⟨a1,a2,a3⟩:=(k1 i hid).blk _ (QaP h4) h2
  rw[hbm2]
  exact⟨a2,a3.trans h3,c,e,a1.trans h4,h5,fun j y hj=>by
   obtain⟨u,hu,hr⟩:=h6 j y hj
   exact⟨u,hu,hr.mono (k2 i j)⟩⟩
 have hr1:=hr.mono t1.le
 cases hr1 with
 |arr _ _ _ _ cap hid hlc hsz=>
 by_cases hlen:len=0
 ·subst hlen
  exact⟨g1,⟨s1.wf,s1.nt,s1.df,s1.tm,s1.bx,hset g1 s1.hp rfl (fun _ _=>Kp.refl _ _ _) (fun _ _=>Kp.refl _ _ _)⟩,t1.toTr,.imm0 _ _⟩
 ·have hpos:0<len*n:=Nat.mul_pos (by omega) hn0
  have hcl:cs.length=((bx.drop off).take (len*n)).length:=by
   have F:∀(l:List LV) (cs:List AV),cpyL l=some cs→cs.length=l.length:=by
    intro l
    induction l with
    |nil=>intro cs h;simp only[cpyL,Option.some.injEq]at h;subst h;rfl
    |cons z l ih=>
     intro cs h
     simp only[cpyL,Option.bind_eq_some_iff,Option.some.injEq]at h
     obtain⟨y,_,ys,hys,rfl⟩:=h
     simp[ih ys hys]
   exact F _ _ hcs
  rw[hl]at hcl
  simp only[List.length_take,List.length_drop]at hcl
  have hne:bx≠[]:=by rintro rfl;simp at hcl;omega
  obtain⟨h2,h3,c,e,h4,h5,_⟩:=s1.hp.2 id bx hb hne
  have hbl:off+len*n≤c.size:=by omega
  have hno:g1.own (g1.bm id)≠.oth:=by rw[h2];simp
  have K:∀hd,hd≠.hbox id→Kp w g1 w (QbS g1 (g1.bm id) (off+len*n)) hd:=fun hd hne=>QoQ w g1 _ _ (by rw[h2];exact hne)
  refine⟨QbS g1 (g1.bm id) (off+len*n),⟨QoO s1.wf _ _ hno c.size (Qba h4) hbl,s1.nt,s1.df,fun j=>(s1.tm j).mono (fun c=>K _ (by simp)),s1.bx.keep (fun _=>K _ (by simp)) (fun _ _=>K _ (by simp)),
   hset _ s1.hp rfl (fun i hi=>K _ (by simpa using hi)) (fun _ _=>K _ (by simp))⟩,t1.toTr.trans (QoP w g1 _ _ hno),?_⟩
  have hsl:(QbS g1 (g1.bm id) (off+len*n)).sl (g1.bm id)≥off+len*n:=by simp only[QbS,Qai];omega
  have hcell':∀(k:Nat) (y:List AV) (j:Nat) (q:AV),(chunk n len cs)[k]? =some y→y[j]? =some q→k<len∧j<n∧∃u,Cl w (g1.bm id) (off+k*n+j)=some u∧Rep w g1 q u∧q.one=true:=by
   intro k y j q hk hj
   obtain⟨hk1,rfl⟩:=Qca n len cs k y hk
   rw[List.getElem?_take]at hj
   split at hj
   ·rename_i hjn
    rw[List.getElem?_drop]at hj
    obtain⟨u,hu,hr,ho⟩:=hcell _ q hj
    rw[←hbm]at hu
    exact⟨hk1,hjn,u,by rw[show off+k*n+j=off+(k*n+j) by omega];exact hu,hr,ho⟩
   ·cases hj
  have hlen2:(chunk n len cs).length=len:=Qc2 n len cs
  have:=Rep.imm (w:=w) (g:=QbS g1 (g1.bm id) (off+len*n)) (chunk n len cs) n (g1.bm id) off cap (fun k j=>(Cl w (g1.bm id) (off+k*n+j)).getD undef) (by omega)
   (fun k y hk=>by
    obtain⟨hk1,rfl⟩:=Qca n len cs k y hk
    have:(k+1)*n≤len*n:=Nat.mul_le_mul_right n hk1
    rw[Nat.add_mul,Nat.one_mul]at this
    simp only[List.length_take,List.length_drop];omega)
   (fun k y j q hk hj=>by
    obtain⟨hk1,hj1,u,hu,_,ho⟩:=hcell' k y j q hk hj
    have:(k+1)*n≤len*n:=Nat.mul_le_mul_right n hk1
    rw[Nat.add_mul,Nat.one_mul]at this
    exact⟨by omega,by rw[hu];rfl,ho⟩)
   (fun k y j q hk hj=>by
    obtain⟨_,_,u,hu,hr,_⟩:=hcell' k y j q hk hj
    rw[hu];exact hr.mono (QhQ w g1 _ _))
  rw[hlen2]at this
  exact this
theorem Qim {j:Nat}(hs:SR nt st a w g lm)(hrun:(execOp a.eval o).run P w=.ok (.value (a.eval (.tmp j))) w)
 (h:(match st.t j with|.v p=>(frz st.h p).bind fun q=>K (.v q.1) {st with t:=upd st.t j .un,h:=q.2}|_=>none)=some r):Good P nt o a w g K r:=by
 have hj:=hs.tm j
 cases hx:st.t j<;>rw[hx]at h hj<;>simp only[reduceCtorEq,Option.bind_eq_some_iff]at h
 obtain⟨q,hq,h⟩:=h
 obtain⟨g1,s1,t1,r1⟩:=QwP hs hj hq
 exact⟨_,_,h,OpOk.value hrun (s1.drop j) t1 r1⟩
end Go.Proofs.Am
namespace Go.Proofs.Am
open Go
variable {R:Type} {P:Program} {nt:Nat} {o:Oper} {st:St} {a:Act} {w:World} {g:Gh} {lm:Nat→Nat} {K:LV→St→Option R} {r:R}
theorem QdU {p:AV}{v:Value}{cs:List AV}(hs:SR nt st a w g lm)(hr:Rep w g p v)(h:Qtk st.h p=some cs)(hpos:0<cs.length):
 ∃g',SR nt st a w g' lm∧Qt w g w g'∧∃b off cap,v=.slice (some ⟨b,off,none⟩) cs.length cap∧∀(j:Nat) (c:AV),cs[j]? =some c→∃u,Cl w b (off+j)=some u∧Rep w g' c u∧c.one=true:=by
 cases p<;>simp only[Qtk,reduceCtorEq]at h
 case imm xs=>
  cases hf:QbW 1 xs with
  |false=>rw[hf]at h;cases h
  |true=>
   rw[hf,cond_true,Option.some.injEq]at h
   subst h
   cases hr with
   |imm0=>simp at hpos
   |imm _ n b off cap f hl hn hc hr=>
    have h1:∀(k:Nat) (x:List AV),xs[k]? =some x→x.length=1:=by
     intro k x hk
     cases xs with
     |nil=>simp at hk
     |cons y ys=>
      have e1:n=1:=by
       rw[←hn 0 y rfl]
       exact Nat.eq_of_beq_eq_true hf
      rw[hn k x hk,e1]
    have hlen:xs.flatten.length=xs.length:=by
     have:∀(l:List (List AV)),(∀(k:Nat) (x:List AV),l[k]? =some x→x.length=1)→l.flatten.length=l.length:=by
      intro l
      induction l with
      |nil=>intro _;rfl
      |cons y l ih=>
       intro hh
       rw[List.flatten_cons,List.length_append,hh 0 y rfl,ih (fun k x hk=>hh (k+1) x (by simpa using hk)),List.length_cons,Nat.add_comm]
     exact this xs h1
    refine⟨g,hs,Qt.refl w g,b,off,cap,by rw[hlen],fun j c hj=>?_⟩
    obtain⟨k,x,i,h2,h3,rfl⟩:=QcY xs j c h1 hj
    have hx1:=h1 k x h2
    have hi0:i=0:=by have:=(List.getElem?_eq_some_iff.1 h3).1;omega
    subst hi0
    obtain⟨h4,h5,h6⟩:=hc k x 0 c h2 h3
    have en:n=1:=by rw[←hn k x h2,hx1]
    subst en
    exact⟨f k 0,by rw[←Nat.add_assoc];exact h5,hr k x 0 c h2 h3,h6⟩
 case arr n id off len=>
  cases hn:Nat.beq n 1 with
  |false=>rw[hn]at h;cases h
  |true=>
   rw[hn,cond_true]at h
   simp only[Option.bind_eq_some_iff]at h
   obtain⟨bx,hb,ds,hds,h⟩:=h
   cases hl:Nat.beq ds.length len with
   |false=>rw[hl]at h;cases h
   |true=>
    rw[hl,cond_true,Option.some.injEq]at h
    subst h
    have hl:=Nat.eq_of_beq_eq_true hl
    obtain⟨g1,s1,t1,hbm,hcell⟩:=QcT hs hb hds
    cases hr with
    |arr _ _ _ _ cap hid hlc hsz=>
     exact⟨g1,s1,t1,g.bm id,off,cap,by rw[hl],hcell⟩
theorem Qnm {tx:TypeId}{e:TypeId}{n:Nat}{p:AV}{v:Value}{ys:List (List AV)}(hs:SR nt st a w g lm)(hr:Rep w g p v)(hu:P.underlying tx=some (.slice e))(h:QAr st.h n p=some ys):
 ∃g',SR nt st a w g' lm∧Qt w g w g'∧∃news,Src P n tx v ys.length news w∧news.length=ys.length*n∧Elems w g' n ys news.toArray:=by
 have no:∀(ad:Option Addr),v=.slice ad 0 0→ys=[]→∃g',SR nt st a w g' lm∧Qt w g w g'∧∃news,Src P n tx v ys.length news w∧news.length=ys.length*n∧Elems w g' n ys news.toArray:=by
  rintro ad rfl rfl
  refine⟨g,hs,Qt.refl w g,[],?_,by simp,fun k x hk=>by simp at hk,fun k x j y hk hj=>by simp at hk⟩
  cases ad with
  |none=>exact Src.ofNil w hu 0
  |some ad=>exact Src.ofSlice w hu ad 0 0 [] (by simp) (by simp) (by simp)
 cases p<;>simp only[QAr,reduceCtorEq]at h
 case imm xs=>
  cases hf:QbW n xs with
  |false=>rw[hf]at h;cases h
  |true=>
   rw[hf,cond_true,Option.some.injEq]at h
   subst h
   obtain⟨news,h1,h2,h3⟩:=QjS (P:=P) (tx:=tx) (n:=n) hr (by simp only[hu,elA]) hf
   exact⟨g,hs,Qt.refl w g,news,h1,h2,h3⟩
 case nilS=>
  cases hr
  exact no _ rfl (Option.some.inj h).symm
 case nilE=>
  cases hr
  exact no _ rfl (Option.some.inj h).symm
 case arr m id off len=>
 cases hn:(Nat.beq m n&&Nat.blt 0 n)with
 |false=>rw[hn]at h;cases h
 |true=>
 rw[hn,cond_true]at h
 simp only[Bool.and_eq_true]at hn
 have hm:=Nat.eq_of_beq_eq_true hn.1
 subst hm
 have hn0:0<m:=Nat.le_of_ble_eq_true hn.2
 simp only[Option.bind_eq_some_iff]at h
 obtain⟨bx,hb,cs,hcs,h⟩:=h
 cases hl:Nat.beq cs.length (len*m)with
 |false=>rw[hl]at h;cases h
 |true=>
 rw[hl,cond_true,Option.some.injEq]at h
 subst h
 have hl:=Nat.eq_of_beq_eq_true hl
 obtain⟨g',s',t',hbm,hc⟩:=QcT hs hb hcs
 cases hr with
 |arr _ _ _ _ cap hid hlc hsz=>
 let news:List Value:=(List.range cs.length).map fun j=>(Cl w (g.bm id) (off+j)).getD undef
 have hget:∀(j:Nat) (c:AV),cs[j]? =some c→∃u,news[j]? =some u∧Cl w (g.bm id) (off+j)=some u∧Rep w g' c u∧c.one=true:=by
  intro j c hj
  obtain⟨u,h1,h2,h3⟩:=hc j c hj
  have hlt:=(List.getElem?_eq_some_iff.1 hj).1
  refine⟨u,?_,h1,h2,h3⟩
  simp only[news,List.getElem?_map,List.getElem?_range hlt,Option.map_some,h1,Option.getD_some]
 have hnl:news.length=cs.length:=by simp[news]
 have hnew:∀(j:Nat) (u:Value),news[j]? =some u→∃c,cs[j]? =some c∧Cl w (g.bm id) (off+j)=some u∧Rep w g' c u∧c.one=true:=by
  intro j u hj
  have hlt:=(List.getElem?_eq_some_iff.1 hj).1
  rw[hnl]at hlt
  obtain⟨u',h1,h2,h3,h4⟩:=hget j _ (List.getElem?_eq_getElem hlt)
  rw[h1]at hj
  cases hj
  exact⟨_,List.getElem?_eq_getElem hlt,h2,h3,h4⟩
 refine⟨g',s',t',news,?_,by rw[hnl,Qc2];exact hl,fun k x hk=>?_,fun k x j y hk hj=>?_⟩
 ·rw[Qc2]
  refine Src.ofSlice w hu ⟨g.bm id,off,none⟩ len cap news (by rw[hnl];exact hl) (fun j u hj=>?_) (fun u hu=>?_)
  ·obtain⟨c,_,h1,_⟩:=hnew j u hj
   rw[Addr.add_mid]
   show Cl w (g.bm id) (off+j)=_
   exact h1
  ·obtain⟨j,hj⟩:=List.mem_iff_getElem?.1 hu
   obtain⟨c,_,_,h2,h3⟩:=hnew j u hj
   exact QcL (h2.oneCell h3).2
 ·obtain⟨hk1,rfl⟩:=Qca m len cs k x hk
  have:(k+1)*m≤len*m:=Nat.mul_le_mul_right m hk1
  rw[Nat.add_mul,Nat.one_mul]at this
  simp only[List.length_take,List.length_drop];omega
 ·obtain⟨hk1,rfl⟩:=Qca m len cs k x hk
  rw[List.getElem?_take]at hj
  split at hj
  ·rw[List.getElem?_drop]at hj
   obtain⟨u,h1,_,h3,h4⟩:=hget _ y hj
   exact⟨u,by simpa using h1,h3,h4⟩
  ·cases hj
theorem QjR {tx:TypeId}{e:TypeId}{n:Nat}{p:AV}{v:Value}{ys:List (List AV)}(hs:SR nt st a w g lm)(hr:Rep w g p v)(hu:P.underlying tx=some (.slice e))(h:QAs st.h n p=some ys):
 ∃g',SR nt st a w g' lm∧Qt w g w g'∧∃news,Src P n tx v ys.length news w∧news.length=ys.length*n∧Elems w g' n ys news.toArray:=by
 unfold QAs at h
 cases h1:Nat.beq n 1 with
 |false=>rw[h1,cond_false]at h;exact Qnm hs hr hu h
 |true=>
  rw[h1,cond_true]at h
  have:=Nat.eq_of_beq_eq_true h1
  subst this
  simp only[Option.bind_eq_some_iff,Option.some.injEq]at h
  obtain⟨cs,hcs,rfl⟩:=h
  rcases Nat.eq_zero_or_pos cs.length with h0|hpos
  ·have:cs=[]:=List.length_eq_zero_iff.1 h0
   subst this
   refine⟨g,hs,Qt.refl w g,[],?_,by simp,fun k x hk=>by simp at hk,fun k x j y hk hj=>by simp at hk⟩
   have hv:∃ad cap,v=.slice ad 0 cap:=by
    cases p<;>simp only[Qtk,reduceCtorEq]at hcs
    ·rename_i xs
     cases hf:QbW 1 xs with
     |false=>rw[hf]at hcs;cases hcs
     |true=>
      rw[hf,cond_true,Option.some.injEq]at hcs
      have hx:xs=[]:=by
       cases xs with
       |nil=>rfl
       |cons x xs=>
        have h2:x.length=1:=Nat.eq_of_beq_eq_true hf
        rw[List.flatten_cons]at hcs
        have h3:=congrArg List.length hcs
        rw[List.length_append,List.length_nil]at h3
        omega
      subst hx
      cases hr with
      |imm0 ad cap=>exact⟨ad,cap,rfl⟩
      |imm _ n b o cap f=>exact⟨_,cap,rfl⟩
    ·rename_i m id off len
     cases hn:Nat.beq m 1 with
     |false=>rw[hn]at hcs;cases hcs
     |true=>
      rw[hn,cond_true]at hcs
      simp only[Option.bind_eq_some_iff]at hcs
      obtain⟨bx,hb,ds,hds,hcs⟩:=hcs
      cases hl:Nat.beq ds.length len with
      |false=>rw[hl]at hcs;cases hcs
      |true=>
       rw[hl,cond_true,Option.some.injEq]at hcs
       subst hcs
       have:=Nat.eq_of_beq_eq_true hl
       simp only[List.length_nil]at this
       subst this
       cases hr with
       |arr _ _ _ _ cap=>exact⟨_,cap,rfl⟩
   obtain⟨ad,cap,rfl⟩:=hv
   cases ad with
   |none=>exact Src.ofNil w hu cap
   |some ad=>exact Src.ofSlice w hu ad 0 cap [] (by simp) (by simp) (by simp)
  ·obtain⟨g',s',t',b,off,cap,rfl,hc⟩:=QdU hs hr hcs hpos
   let news:List Value:=(List.range cs.length).map fun j=>(Cl w b (off+j)).getD undef
   have hget:∀(j:Nat) (c:AV),cs[j]? =some c→∃u,news[j]? =some u∧Cl w b (off+j)=some u∧Rep w g' c u∧c.one=true:=by
    intro j c hj
    obtain⟨u,h1,h2,h3⟩:=hc j c hj
    have hlt:=(List.getElem?_eq_some_iff.1 hj).1
    refine⟨u,?_,h1,h2,h3⟩
    simp only[news,List.getElem?_map,List.getElem?_range hlt,Option.map_some,h1,Option.getD_some]
   have hnl:news.length=cs.length:=by simp[news]
   have hnew:∀(j:Nat) (u:Value),news[j]? =some u→∃c,cs[j]? =some c∧Cl w b (off+j)=some u∧Rep w g' c u∧c.one=true:=by
    intro j u hj
    have hlt:=(List.getElem?_eq_some_iff.1 hj).1
    rw[hnl]at hlt
    obtain⟨u',h1,h2,h3,h4⟩:=hget j _ (List.getElem?_eq_getElem hlt)
    rw[h1]at hj
    cases hj
    exact⟨_,List.getElem?_eq_getElem hlt,h2,h3,h4⟩
   refine⟨g',s',t',news,?_,by rw[hnl];simp,fun k x hk=>?_,fun k x j y hk hj=>?_⟩
   ·rw[List.length_map]
    refine Src.ofSlice w hu ⟨b,off,none⟩ cs.length cap news (by rw[hnl];simp) (fun j u hj=>?_) (fun u hu=>?_)
    ·obtain⟨c,_,h1,_⟩:=hnew j u hj
     rw[Addr.add_mid]
     show Cl w b (off+j)=_
     exact h1
    ·obtain⟨j,hj⟩:=List.mem_iff_getElem?.1 hu
     obtain⟨c,_,_,h2,h3⟩:=hnew j u hj
     exact QcL (h2.oneCell h3).2
   ·rw[List.getElem?_map]at hk
    cases hc':cs[k]? with
    |none=>rw[hc']at hk;cases hk
    |some c=>rw[hc']at hk;simp only[Option.map_some,Option.some.injEq]at hk;subst hk;rfl
   ·rw[List.getElem?_map]at hk
    cases hc':cs[k]? with
    |none=>rw[hc']at hk;cases hk
    |some c=>
     rw[hc']at hk
     simp only[Option.map_some,Option.some.injEq]at hk
     subst hk
     cases j with
     |succ j=>simp at hj
     |zero=>
      simp at hj
      subst hj
      obtain⟨u,h1,_,h3,h4⟩:=hget k c hc'
      exact⟨u,by simpa using h1,h3,h4⟩
theorem Qgs {c:Call}{x y:Operand}(ho:o.op=.call c)(hc:c.callee=.builtin .append)(hx:c.args.toList=[x,y])(hs:SR nt st a w g lm)
 (h:((c.argTypes.toList.head?.bind (QaA P)).bind fun e=>(P.info? e).bind fun ti=>(Qbq P e).bind fun zc=>
  (st.rv y).bind fun p=>(elX P st.h true c.argTypes.toList[1]? ti.size p).bind fun ys=>
  bif Nat.beq zc.length ti.size&&Nat.blt 0 ti.size then
  match x with
  |.tmp j=>(apL (st.t j) ti.size ti.bytes ys).bind fun r=>K r {st with t:=upd st.t j .un}
  |.const (.slice none 0 0)=>(apL (.ow ti.size []) ti.size ti.bytes ys).bind fun r=>K r st
  |_=>none
  else none)=some r):Good P nt o a w g K r:=by
 simp only[elX,cond_true,Option.bind_eq_some_iff]at h
 obtain⟨e,⟨t,ht,he⟩,ti,hti,zc,hzc,p,hp,ys,⟨e2,⟨tx,htx,he2⟩,hys⟩,h⟩:=h
 by_cases hcond:(Nat.beq zc.length ti.size&&Nat.blt 0 ti.size)=true
 case neg=>rw[Bool.eq_false_iff.2 hcond]at h;cases h
 rw[hcond,cond_true]at h
 simp only[Bool.and_eq_true]at hcond
 have hzl:=Nat.eq_of_beq_eq_true hcond.1
 have hpos:0<ti.size:=Nat.le_of_ble_eq_true hcond.2
 have hut:=QaD he
 have hutx:=QaD he2
 have hargs:c.args= #[x,y]:=by rw[←Array.toArray_toList (xs:=c.args),hx]
 have t0:c.argTypes[0]? =some t:=by rw[List.head?_eq_getElem?]at ht;simpa using ht
 have t1:c.argTypes[1]? =some tx:=by simpa using htx
 obtain⟨g0,s0,q0,r0⟩:=QaO hs hp
 obtain⟨g1,s1,q1,news,hsrc,hnl,hE⟩:=QjR (P:=P) s0 r0 hutx hys
 have run:∀(st1:St) (g2:Gh) (s:Value) (lv:LV) (xs:List (List AV)),SR nt st1 a w g2 lm→Tr w g1 w g2→a.eval x=s→Own w g2 (.res 0) ti.size xs s→
  QaU (xs.length+ys.length) ti.bytes=true→lv=.ow ti.size (xs++ys)→K lv st1=some r→Good P nt o a w g K r:=by
  intro st1 g2 s lv xs s2 q2 hsx hown hroom hlv hK
  obtain⟨v',w',g',hrun,s3,q3,hown'⟩:=Qxr (P:=P) s2 (t:=t) (tx:=tx) (ty:=o.type) hut hti hzc hzl hpos hown hsrc hnl (hE.mono q2.le) hroom
  subst hlv
  refine⟨_,st1,hK,OpOk.value (v:=v') (w':=w') ?_ s3 (((q0.trans q1).toTr.trans q2).trans q3) ⟨by simp,hown'⟩⟩
  rw[QaM ho hc]
  simp only[builtin]
  refine Qad ?_
  have heq:(Builtin.append_ c.argTypes o.type (c.args.map a.eval)).run P w=(Builtin.append_ #[t,tx] o.type #[s,a.eval y]).run P w:=by
   simp[Builtin.append_,hargs,t0,t1,hsx]
  rw[heq];exact hrun
 cases x with
 |tmp j=>
  simp only[Option.bind_eq_some_iff]at h
  obtain⟨lv,hap,h⟩:=h
  obtain⟨xs,hj,hlv,hfit,hroom⟩:=QdN hap
  obtain⟨s2,r2⟩:=s1.take j
  exact run _ _ _ lv xs s2 (Qb5 w g1 rfl) rfl (QvW hj r2) hroom hlv h
 |const cv=>
  split at h
  ·rename_i heq;cases heq
  ·rename_i heq
   simp only[Option.bind_eq_some_iff]at h
   obtain⟨lv,hap,h⟩:=h
   obtain⟨xs,hj,hlv,hfit,hroom⟩:=QdN hap
   simp only[LV.ow.injEq,true_and,reduceCtorEq,false_and,or_false]at hj
   subst hj
   injection heq with heq
   subst heq
   exact run st g1 (.slice none 0 0) lv [] s1 (Tr.refl w g1) rfl (.emp _) hroom hlv h
  ·cases h
 |_=>cases h
theorem Qnl {h h':Heap}{id off:Nat}{l:List LV}(hh:stP h (.ptr id off) l=some h'):∃bx,h.bx[id]? =some bx∧off+l.length≤bx.length∧h'={h with bx:=h.bx.set id (QgU bx off l)}:=by
 simp only[stP,Option.bind_eq_some_iff]at hh
 obtain⟨bx,hb,hh⟩:=hh
 cases hc:Nat.ble (off+l.length) bx.length with
 |false=>rw[hc]at hh;cases hh
 |true=>
  rw[hc,cond_true,Option.some.injEq]at hh
  exact⟨bx,hb,Nat.le_of_ble_eq_true hc,hh.symm⟩
theorem Qi6 {c:Call}{x y:Operand}(ho:o.op=.call c)(hc:c.callee=.builtin .copy)(hx:c.args.toList=[x,y])(hs:SR nt st a w g lm)
 (h:((c.argTypes.toList.head?.bind (QaA P)).bind fun e=>(P.info? e).bind fun ti=>bif Nat.beq ti.size 1 then
  (st.rv x).bind fun d=>(st.rv y).bind fun s=>(cpH st.h d s).bind fun r=>K (.v r.1) {st with h:=r.2}else none)=some r):Good P nt o a w g K r:=by
 simp only[Option.bind_eq_some_iff]at h
 obtain⟨e,⟨t,ht,he⟩,ti,hti,h⟩:=h
 cases h1:Nat.beq ti.size 1 with
 |false=>rw[h1]at h;cases h
 |true=>
 rw[h1,cond_true]at h
 have h1:=Nat.eq_of_beq_eq_true h1
 simp only[Option.bind_eq_some_iff]at h
 obtain⟨d,hd,s,hsv,q,hq,h⟩:=h
 have hu:=QaD he
 obtain⟨g1,s1,t1,r1⟩:=QaO hs hd
 obtain⟨g2,s2,t2,r2⟩:=QaO s1 hsv
 cases d<;>simp only[cpH,reduceCtorEq]at hq
 rename_i n id off len
 cases hn:Nat.beq n 1 with
 |false=>rw[hn]at hq;cases hq
 |true=>
 rw[hn,cond_true]at hq
 have hn:=Nat.eq_of_beq_eq_true hn
 subst hn
 simp only[Option.bind_eq_some_iff]at hq
 obtain⟨cs,hcs,hq⟩:=hq
 cases hp:Nat.blt 0 (Nat.min cs.length len)with
 |false=>rw[hp]at hq;cases hq
 |true=>
 rw[hp,cond_true]at hq
 have hp:0<Nat.min cs.length len:=Nat.le_of_ble_eq_true hp
 simp only[Option.bind_eq_some_iff,Option.some.injEq]at hq
 obtain⟨h',hst,rfl⟩:=hq
 obtain⟨g3,s3,t3,b,soff,scap,hv,hcell⟩:=QdU s2 r2 hcs (by have:=Nat.min_le_left cs.length len;change 0<min cs.length len at hp;omega)
 obtain⟨bx,hbx,hroom,rfl⟩:=Qnl hst
 have r1':=(r1.mono t2.le).mono t3.le
 generalize hdv:a.eval x=dv at r1'
 cases r1' with
 |arr _ _ _ _ cap hid hlc hsz=>
 have hk:Nat.min cs.length len=min cs.length len:=rfl
 rw[hk]at hp hroom h hst
 have htl:(cs.take (min cs.length len)).length=min cs.length len:=by rw[List.length_take];omega
 have hml:((cs.take (min cs.length len)).map LV.v).length=min cs.length len:=by rw[List.length_map,htl]
 rw[hml]at hroom
 have hne:bx≠[]:=by
  intro hb0
  rw[hb0,List.length_nil]at hroom
  omega
 obtain⟨h2,h3,ca,ea,h4,h5,_⟩:=s3.hp.2 id bx hbx hne
 let vs:List Value:=(List.range (min cs.length len)).map fun j=>(Cl w b (soff+j)).getD undef
 have hvl:vs.length=min cs.length len:=by simp[vs]
 have hvs:∀(j:Nat) (u:Value),vs[j]? =some u→j<min cs.length len∧u=(Cl w b (soff+j)).getD undef:=by
  intro j u hj
  have hlt:j<min cs.length len:=by have:=(List.getElem?_eq_some_iff.1 hj).1;rw[hvl]at this;exact this
  simp only[vs,List.getElem?_map,List.getElem?_eq_getElem (show j<(List.range (min cs.length len)).length by simpa using hlt),List.getElem_range,Option.map_some,Option.some.injEq]at hj
  exact⟨hlt,hj.symm⟩
 have hget:∀j,j<min cs.length len→∃c u,cs[j]? =some c∧Cl w b (soff+j)=some u∧vs[j]? =some u∧Rep w g3 c u∧c.one=true:=by
  intro j hj
  have hjc:j<cs.length:=by omega
  obtain⟨u,hu,hr,ho1⟩:=hcell j cs[j] (List.getElem?_eq_getElem hjc)
  refine⟨cs[j],u,List.getElem?_eq_getElem hjc,hu,?_,hr,ho1⟩
  simp only[vs,List.getElem?_map,List.getElem?_eq_getElem (show j<(List.range (min cs.length len)).length by simpa using hj),List.getElem_range,Option.map_some,hu,Option.getD_some]
 obtain⟨s4,t4⟩:=s3.write_heap (l:=(cs.take (min cs.length len)).map LV.v) hbx (by rw[hml];exact hp) h4 (by rw[hml];exact hroom) (vs:=vs) (by rw[hml,hvl]) (fun j z hj=>by
  rw[List.getElem?_map,List.getElem?_take]at hj
  split at hj
  ·rename_i hjl
   obtain⟨c1,u,h6,_,h8,h9,h10⟩:=hget j hjl
   rw[h6]at hj
   simp only[Option.map_some,Option.some.injEq]at hj
   subst hj
   exact⟨u,h8,h9,h10⟩
  ·simp at hj)
 have hargs:c.args= #[x,y]:=by rw[←Array.toArray_toList (xs:=c.args),hx]
 have t0:c.argTypes[0]? =some t:=by rw[List.head?_eq_getElem?]at ht;simpa using ht
 have hrun:(Builtin.copy_ c.argTypes o.type (c.args.map a.eval)).run P w=.ok (goInt (min cs.length len:Nat)) (w.setRow (g3.bm id) (QaI ca off vs)):=by
  have:=run_copy_row P w t 0 o.type e (g3.bm id) off len cap ⟨b,soff,none⟩ cs.length scap ca ea vs hu (by rw[hti];simp[h1]) h4 (by rw[hvl]) (fun j u hj=>by
   obtain⟨hlt,rfl⟩:=hvs j u hj
   obtain⟨_,u,_,h7,_⟩:=hget j hlt
   rw[Addr.add_mid]
   show Cl w b (soff+j)=_
   rw[h7];rfl) (by rw[hvl];omega) (fun u hu=>by
   obtain⟨j,hj⟩:=List.mem_iff_getElem?.1 hu
   obtain⟨hlt,rfl⟩:=hvs j u hj
   obtain⟨c1,u,_,h7,_,h9,h10⟩:=hget j hlt
   rw[h7]
   exact QcL (h9.oneCell h10).2)
  rw[hvl]at this
  have heq:(Builtin.copy_ c.argTypes o.type (c.args.map a.eval)).run P w=(Builtin.copy_ #[t,0] o.type #[.slice (some ⟨g3.bm id,off,none⟩) len cap,.slice (some ⟨b,soff,none⟩) cs.length scap]).run P w:=by
   simp[Builtin.copy_,hargs,t0,hdv,hv]
  rw[heq,this]
  simp[QaI,hvl]
 refine⟨_,_,h,OpOk.value (v:=.int .i64 (min cs.length len:Nat)) ?_ s4 (((t1.toTr.trans t2.toTr).trans t3.toTr).trans t4) (.int _ _)⟩
 rw[QaM ho hc]
 simp only[builtin]
 exact Qad hrun
theorem Qki:∀{cs:List AV} {ns:List Int},cs.map (fun c=>[c])=ns.map (fun n=>[AV.int .u8 n])→cs=ns.map (AV.int .u8)
 |[],[],_=>rfl
 |[],_::_,h=>by cases h
 |_::_,[],h=>by cases h
 |c::cs,n::ns,h=>by
  simp only[List.map_cons,List.cons.injEq,and_true]at h
  rw[h.1,Qki h.2];rfl
theorem Qfz {s d:TypeId}{x:Operand}(ho:o.op=.convert s d x)(hs:SR nt st a w g lm)
 (h:((st.rv x).bind fun p=>(cvH P st.h s d p).bind fun c=>K c st)=some r):Good P nt o a w g K r:=by
 have h0:=h
 simp only[Option.bind_eq_some_iff]at h
 obtain⟨p,hp,c,hc,h⟩:=h
 cases p with
 |arr n id off len=>
  obtain⟨g1,s1,t1,r1⟩:=QaO hs hp
  refine Good.pre t1 ?_
  have he:(execOp a.eval o)=(do pure (Next.value (←Go.convert s d (a.eval x))):Sem Next):=by simp only[execOp,ho]
  unfold cvH at hc
  simp only[Option.bind_eq_some_iff]at hc
  obtain⟨ds,hds,dd,hdd,hc⟩:=hc
  cases ds with
  |slice e=>
   cases dd with
   |string=>
    simp only at hc
    split at hc
    ·rename_i hue
     simp only[Option.bind_eq_some_iff]at hc
     obtain⟨cs,hcs,hc⟩:=hc
     cases hpos:Nat.blt 0 cs.length with
     |false=>rw[hpos]at hc;cases hc
     |true=>
      rw[hpos,cond_true]at hc
      simp only[Option.bind_eq_some_iff,Option.some.injEq]at hc
      obtain⟨l,hl,rfl⟩:=hc
      obtain⟨ns,hxs,hf⟩:=Qcd _ l hl
      obtain⟨g2,s2,t2,b,off',cap,hv,hcell⟩:=QdU s1 r1 hcs (by rw[Nat.blt_eq]at hpos;exact hpos)
      refine Good.pre t2 ?_
      have hfold:=hf ByteArray.empty
      have hemp:ByteArray.empty.data= #[]:=rfl
      refine Good.pure s2 h (v:=.string ⟨l.toArray⟩) ?_ (.str _)
      rw[he]
      refine Qad ?_
      rw[hv,run_convert_bytes_string w s d e _ _ _ hds hue hdd]
      have hcs':cs=ns.map (AV.int .u8):=by
       exact Qki hxs
      have hlen:(ns.map (Value.int .u8)).length=cs.length:=by rw[hcs'];simp
      have hld:(loadCells ⟨b,off',none⟩ cs.length).run P w=.ok (ns.map (Value.int .u8)).toArray w:=by
       rw[←hlen]
       refine run_loadCells_list w _ _ (fun j u hj=>?_)
       rw[List.getElem?_map]at hj
       cases hnj:ns[j]? with
       |none=>rw[hnj]at hj;cases hj
       |some m=>
        rw[hnj]at hj
        simp only[Option.map_some,Option.some.injEq]at hj
        subst hj
        obtain⟨u,hu,hr,_⟩:=hcell j (.int .u8 m) (by rw[hcs',List.getElem?_map,hnj];rfl)
        cases hr
        rw[Addr.add_mid]
        exact hu
      rw[run_bytesToString w _ _ cap ns hld,hfold,hemp]
      simp
    ·cases hc
   |_=>cases hc
  |_=>cases dd<;>cases hc
 |_=>
  refine Qdy ho hs ?_
  rw[hp]at h0⊢
  exact h0
end Go.Proofs.Am
