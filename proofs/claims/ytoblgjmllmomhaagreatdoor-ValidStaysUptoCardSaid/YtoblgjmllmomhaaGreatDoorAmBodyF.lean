/-
  Code that fits: the blocks around it stand as they stood.
-/
import Derived.Test.YtoblgjmllmomhaaGreatDoorAmEq
import Derived.Laws.BitsLemmas
import Derived.Test.YtoblgjmllmomhaaGreatDoorAmSym
namespace Go.Proofs.Am
open Go Go.RowKit
theorem Qae {a b:Int}(h:a<b):ltZ a b=true:=by rw[Qgc];exact decide_eq_true h
theorem Qaf {a b:Int}(h:b≤a):ltZ a b=false:=by rw[Qgc];exact decide_eq_false (by omega)
theorem Qbi {a b:Int}(h:a≤b):leZ a b=true:=by rw[Qcp];exact decide_eq_true h
theorem Qcy {a b:Int}(h:b<a):leZ a b=false:=by rw[Qcp];exact decide_eq_false (by omega)
theorem QaC {a b:Int}(h:a=b):eqZ a b=true:=by rw[QgC,h];exact beq_self_eq_true b
theorem Qaw {a b:Int}(h:a≠b):eqZ a b=false:=by rw[QgC];exact beq_false_of_ne h
theorem QnQ {a b:Int}{q:Bool}(h:ltZ a b=q):(a<b↔q=true):=by rw[←h,Qgc,decide_eq_true_eq]
theorem Qft {a b:Int}{q:Bool}(h:leZ a b=q):(a≤b↔q=true):=by rw[←h,Qcp,decide_eq_true_eq]
theorem QsD {a b:Int}{q:Bool}(h:eqZ a b=q):(a=b↔q=true):=by rw[←h,QgC,beq_iff_eq]
theorem ofN (n:Nat):(Int.ofNat n)=(n:Int):=rfl
theorem Qcl {i:Int}(h:InZ i):IntKind.wrap .i64 i=i:=by
 rw[IntKind.wrap_i64]
 unfold InZ at h
 omega
theorem Qas {n:Nat}(h:n+1<9223372036854775808):IntKind.wrap .i64 (Int.ofNat (Nat.succ n))=Int.ofNat (n+1):=
 Qcl (by unfold InZ;rw[ofN];omega)
theorem Qaj {A:Type}{f:A→List AV}{l:List A}{i n:Nat}{x:A}(h:l[i]? =some x)(hn:(f x).length=n):ixA (.imm (l.map f)) (Int.ofNat i) n=some (f x):=by
 have h0:(0:Int)≤Int.ofNat i:=Int.natCast_nonneg i
 simp only[ixA,decide_eq_true h0,cond_true,List.getElem?_map]
 rw[show(Int.ofNat i).toNat=i from rfl,h]
 simp only[Option.map_some,Option.bind_some,hn,Nat.beq_refl,cond_true]
theorem Qa3 {A:Type}{f:A→List AV}{l:List A}{i:Int}{n:Nat}{x:A}(h0:0≤i)(h:l[i.toNat]? =some x)(hn:(f x).length=n):ixA (.imm (l.map f)) i n=some (f x):=by
 have:=Qaj (f:=f) h hn
 rwa[ofN,Int.toNat_of_nonneg h0]at this
theorem Qbn {n b:Nat}{out ys:List (List AV)}(hf:QbW n ys=true)(hr:(out.length+ys.length)*b≤140737488355328)(hb:0<b):apL (.ow n out) n b ys=some (.ow n (out++ys)):=by
 have h1:QaU (out.length+ys.length) b=true:=by
  unfold QaU
  rw[Bool.and_eq_true,Bool.or_eq_true]
  exact⟨.inl (Nat.ble_eq_true_of_le hr),Nat.ble_eq_true_of_le hb⟩
 simp only[apL,Nat.beq_refl,hf,h1,Bool.and_self,cond_true]
theorem QcA {n:Nat}{y:List AV}(h:y.length=n):QbW n [y]=true:=by
 show Nat.beq y.length n=true
 rw[h]
 exact Nat.beq_refl n
theorem QfE (a b:List Int):Qah (a++b)=Qah a++Qah b:=by simp[Qah]
theorem Qxs {out:List Int}{z:Int}(h:(out.length+1)*8≤140737488355328):apL (.ow 1 (Qah out)) 1 8 [[.int .i64 z]]=some (.ow 1 (Qah (out++[z]))):=by
 have e:=Qbn (n:=1) (b:=8) (out:=Qah out) (ys:=[[.int .i64 z]]) rfl (by rw[Qac];exact h) (by decide)
 rw[e,QfE]
 rfl
theorem Qbh:reachBytes=140737488351232:=rfl
theorem FitL.lt {A:Type}{n:Nat}{F:A→Prop}{l:List A}(h:FitL n F l)(hn:0<n):l.length<9223372036854775807:=by
 have:=Nat.le_trans (Nat.le_mul_of_pos_right l.length hn) h.1
 rw[Qbh]at this
 omega
theorem QaJ {A:Type}(xs:List A)(x:A)(ys:List A):(xs++[x])++ys=xs++x::ys:=by simp
theorem Qag {A:Type}{l:List A}{i:Nat}{x:A}(h:l[i]? =some x):l.drop i=x::l.drop (i+1):=by
 obtain⟨hi,he⟩:=List.getElem?_eq_some_iff.1 h
 rw[List.drop_eq_getElem_cons hi,he]
end Go.Proofs.Am
namespace Go.Proofs.Am
open Go
def Heap.put (h:Heap)(L:Nat)(bx:List LV):Heap:={h with bx:=h.bx.set L bx}
theorem Qbd {h:Heap}{L:Nat}{b bx:List LV}(hb:h.bx[L]? =some b):(h.put L bx).bx[L]? =some bx:=by
 have hl:=(List.getElem?_eq_some_iff.1 hb).1
 simp[Heap.put,hl]
theorem QdZ {h:Heap}{L M:Nat}{bx:List LV}(hn:L≠M):(h.put L bx).bx[M]? =h.bx[M]?:=by simp[Heap.put,hn]
theorem Qg7 (h:Heap)(L:Nat)(a:List LV):(h.put L a).bx.length=h.bx.length:=by simp[Heap.put]
theorem QcQ {h:Heap}{L k:Nat}{bx:List LV}{a:AV}(hb:h.bx[L]? =some bx)(hk:bx[k]? =some (.v a)):ldP h (.ptr L k) 1 false=some a:=by
 have h1:(bx.drop k).take 1=[.v a]:=by
  have:=Qag hk
  rw[this];rfl
 simp only[ldP,hb,Option.bind_some,h1,cpyL,LV.cpy1]
 rfl
theorem QbY {h:Heap}{L k:Nat}{bx:List LV}{x:LV}(hb:h.bx[L]? =some bx)(hk:k<bx.length):stP h (.ptr L k) [x]=some (h.put L (bx.set k x)):=by
 have h1:Nat.ble (k+([x]:List LV).length) bx.length=true:=Nat.ble_eq_true_of_le (by simp;omega)
 simp only[stP,hb,Option.bind_some,h1,cond_true,QgU,Heap.put]
def Sl (h:Heap)(n:Nat)(xs:List (List AV)):Option Nat→AV→Prop
 |none,a=>a=.nilS∧xs=[]
 |some id,a=>a=.arr n id 0 xs.length∧∃junk,h.bx[id]? =some (Qal xs++junk)∧0<(Qal xs++junk).length
theorem Sl.ln {h:Heap}{n:Nat}{xs:List (List AV)}{r:Option Nat}{a:AV}(hs:Sl h n xs r a):lnS a=some (xs.length:Int):=by
 cases r with
 |none=>obtain⟨rfl,rfl⟩:=hs;rfl
 |some id=>obtain⟨rfl,_⟩:=hs;rfl
theorem Sl.put {h:Heap}{n:Nat}{xs:List (List AV)}{r:Option Nat}{a:AV}{L:Nat}{bx:List LV}(hs:Sl h n xs r a)(hn:r≠some L):Sl (h.put L bx) n xs r a:=by
 cases r with
 |none=>exact hs
 |some id=>
  obtain⟨e,j,hj,hl⟩:=hs
  exact⟨e,j,by rw[QdZ (by rintro rfl;exact hn rfl)];exact hj,hl⟩
theorem Sl.same {h h':Heap}{n:Nat}{xs:List (List AV)}{r:Option Nat}{a:AV}(hs:Sl h n xs r a)(hn:∀id,r=some id→h'.bx[id]? =h.bx[id]?):Sl h' n xs r a:=by
 cases r with
 |none=>exact hs
 |some id=>
  obtain⟨e,j,hj,hl⟩:=hs
  exact⟨e,j,by rw[hn id rfl];exact hj,hl⟩
theorem Sl.lt {h:Heap}{n:Nat}{xs:List (List AV)}{id:Nat}{a:AV}(hs:Sl h n xs (some id) a):id<h.bx.length:=by
 obtain⟨_,j,hj,_⟩:=hs
 exact(List.getElem?_eq_some_iff.1 hj).1
theorem QaZ (xs ys:List (List AV)):Qal (xs++ys)=Qal xs++Qal ys:=by simp[Qal]
theorem QcZ {n:Nat}:∀{xs:List (List AV)},(∀x,x∈xs→x.length=n)→(Qal xs).length=xs.length*n
 |[],_=>by simp[Qal]
 |x::xs,h=>by
  have h1:=QcZ (xs:=xs) (fun y hy=>h y (List.mem_cons_of_mem _ hy))
  rw[show x::xs=[x]++xs from rfl,QaZ,List.length_append,List.length_append,h1,Nat.add_mul]
  have h2:=h x (by simp)
  simp[Qal,h2]
theorem Sl.takeN {h:Heap}{n:Nat}{xs:List (List AV)}{id:Nat}{a:AV}(hs:Sl h n xs (some id) a){k:Nat}(hk:k≤xs.length):Sl h n (xs.take k) (some id) (.arr n id 0 k):=by
 obtain⟨rfl,j,hj,hl⟩:=hs
 have e:Qal xs++j=Qal (xs.take k)++(Qal (xs.drop k)++j):=by
  rw[←List.append_assoc,←QaZ,List.take_append_drop]
 exact⟨by rw[List.length_take,Nat.min_eq_left hk],_,by rw[hj,e],by rw[←e];exact hl⟩
theorem Sl.get {h:Heap}{n:Nat}{xs:List (List AV)}{id:Nat}{a:AV}(hs:Sl h n xs (some id) a)(hall:∀x,x∈xs→x.length=n){k j:Nat}{x:List AV}{c:AV}(hx:xs[k]? =some x)(hc:x[j]? =some c):
 ldP h (.ptr id (k*n+j)) 1 false=some c:=by
 obtain⟨rfl,jk,hj,hl⟩:=hs
 obtain⟨hk,e⟩:=List.getElem?_eq_some_iff.1 hx
 subst e
 refine QcQ hj ?_
 have e:xs=xs.take k++([xs[k]]++xs.drop (k+1)):=by
  rw[List.singleton_append,←List.drop_eq_getElem_cons hk,List.take_append_drop]
 have h1:(Qal (xs.take k)).length=k*n:=by
  rw[QcZ (n:=n) (fun y hy=>hall y (List.mem_of_mem_take hy)),List.length_take,Nat.min_eq_left (Nat.le_of_lt hk)]
 have hj':j<(xs[k]).length:=(List.getElem?_eq_some_iff.1 hc).1
 rw[e]
 have hm:xs[k]∈xs:=List.getElem_mem hk
 generalize xs[k]=y at*
 rw[QaZ,QaZ,List.append_assoc,List.getElem?_append_right (by rw[h1];omega),h1,Nat.add_sub_cancel_left]
 have h2:Qal [y]=y.map .v:=by simp[Qal]
 rw[h2,List.append_assoc,List.getElem?_append_left (by rw[List.length_map];exact hj'),List.getElem?_map,hc]
 rfl
theorem Qd6 {n id len:Nat}{i:Int}{k:Nat}(hi:i=k)(hk:k<len):ixP (.arr n id 0 len) i n=some (.ptr id (k*n)):=by
 subst hi
 have h1:decide ((0:Int)≤(k:Int))=true:=decide_eq_true (by omega)
 have h2:decide ((k:Int)<(len:Int))=true:=decide_eq_true (by omega)
 simp only[ixP,Nat.beq_refl,h1,h2,Bool.and_self,cond_true,Int.toNat_natCast,Nat.zero_add]
theorem QjU {P:Program}{t e:TypeId}{i:TypeInfo}(ht:P.underlying t=some (.slice e))(hi:P.info? e=some i){n id len k:Nat}(hn:i.size=n)(hk:k≤len){z:Int}(hz:z=k):slA P t (.arr n id 0 len) none (some z)=some (.arr n id 0 k):=by
 subst hz
 have h1:decide ((0:Int)≤0)=true:=by decide
 have h2:decide ((0:Int)≤(k:Int))=true:=decide_eq_true (by omega)
 have h3:decide ((k:Int)≤(len:Int))=true:=decide_eq_true (by omega)
 unfold slA
 rw[ht]
 simp only[hi,Option.bind_some,Option.getD_none,Option.getD_some,h1,h2,h3,hn,Nat.beq_refl,Bool.and_self,cond_true,decide_true,Bool.true_or,Int.toNat_zero,Nat.zero_mul,Nat.add_zero,Int.toNat_natCast,Nat.sub_zero]
theorem Qq3 {P:Program}{t e:TypeId}{i:TypeInfo}(ht:P.underlying t=some (.slice e))(hi:P.info? e=some i){z:Int}(hz:z=0):slA P t .nilS none (some z)=some .nilS:=by
 subst hz
 unfold slA
 rw[ht]
 simp only[hi,Option.bind_some]
 rfl
theorem QhP:∀(ys J A:List LV),ys.length≤J.length→QgU (A++J) A.length ys=A++ys++J.drop ys.length
 |[],J,A,_=>by simp[QgU]
 |y::ys,[],A,h=>by simp at h
 |y::ys,j::J,A,h=>by
  have h1:=QhP ys J (A++[y]) (by simpa using h)
  have e:(A++j::J).set A.length y=(A++[y])++J:=by simp
  rw[QgU,e,show A.length+1=(A++[y]).length by simp,h1]
  simp
theorem QlY {h:Heap}{n bytes:Nat}{y:List AV}{xs:List (List AV)}{r:Option Nat}{a:AV}(hs:Sl h n xs r a)(hall:∀x,x∈xs→x.length=n)(hy:y.length=n)(hn:0<n)(hroom:QaU (xs.length+1) bytes=true):
 ∃id h',apH h a n bytes [y]=some (.arr n id 0 (xs.length+1),h')∧Sl h' n (xs++[y]) (some id) (.arr n id 0 (xs.length+1))∧(∀j,r≠some j→j<h.bx.length→h'.bx[j]? =h.bx[j]?)∧(r=some id∨h.bx.length≤id)∧h.bx.length≤h'.bx.length:=by
 have hf:QbW n [y]=true:=QcA hy
 have hy1:(Qal [y]).length=n:=by simp[Qal,hy]
 have hlen:(xs++[y]).length=xs.length+1:=by simp
 cases r with
 |none=>
  obtain⟨rfl,rfl⟩:=hs
  refine⟨h.bx.length,{h with bx:=h.bx++[Qal [y]]},?_,⟨rfl,[],by simp,by simp[hy1,hn]⟩,fun j _ hj=>by simp[List.getElem?_append_left hj],.inr (Nat.le_refl _),by simp⟩
  simp only[List.length_nil,Nat.zero_add]at hroom
  simp only[apH,hf,List.length_singleton,hroom,Bool.and_self,cond_true,Nat.zero_add,List.length_nil,show Nat.blt 0 1=true from rfl]
 |some id=>
  obtain⟨rfl,J,hJ,hl⟩:=hs
  have hxl:=QcZ hall
  have hb1:Nat.blt 0 1=true:=rfl
  cases hfit:Nat.ble (0+(xs.length+1)*n) (Qal xs++J).length with
  |true=>
   have hle:=Nat.le_of_ble_eq_true hfit
   rw[List.length_append,hxl,Nat.add_mul]at hle
   have hset:QgU (Qal xs++J) (0+xs.length*n) (Qal [y])=Qal (xs++[y])++J.drop n:=by
    have:=QhP (Qal [y]) J (Qal xs) (by rw[hy1];omega)
    rw[Nat.zero_add,←hxl,this,hy1,QaZ]
   have hid:id<h.bx.length:=(List.getElem?_eq_some_iff.1 hJ).1
   refine⟨id,h.put id (Qal (xs++[y])++J.drop n),?_,⟨by rw[hlen],_,Qbd hJ,by simp[QaZ,hy1];omega⟩,fun j hj _=>QdZ (by rintro rfl;exact hj rfl),.inl rfl,by rw[Qg7];exact Nat.le_refl _⟩
   simp only[apH,Nat.beq_refl,hf,List.length_singleton,hroom,hb1,Bool.and_self,cond_true,hJ,Option.bind_some,hfit,hset,Heap.put]
  |false=>
   have htk:(Qal xs++J).take (xs.length*n)=Qal xs:=by rw[←hxl,List.take_left]
   have hc1:Nat.ble (xs.length*n) (Qal xs++J).length=true:=Nat.ble_eq_true_of_le (by rw[List.length_append,hxl];omega)
   have hc2:Nat.blt 0 (Qal xs++J).length=true:=Nat.ble_eq_true_of_le hl
   have hid:id<h.bx.length:=(List.getElem?_eq_some_iff.1 hJ).1
   refine⟨h.bx.length,{h with bx:=h.bx.set id []++[Qal xs++Qal [y]]},?_,⟨by rw[hlen],[],?_,by simp[QaZ,hy1];omega⟩,fun j hj hjl=>?_,.inr (Nat.le_refl _),by simp⟩
   ·simp only[apH,Nat.beq_refl,hf,List.length_singleton,hroom,hb1,Bool.and_self,cond_true,hJ,Option.bind_some,hfit,cond_false,hc1,hc2,htk]
   ·rw[List.getElem?_append_right (by simp)]
    simp[QaZ]
   ·rw[List.getElem?_append_left (by simpa using hjl)]
    rw[List.getElem?_set_ne (by rintro rfl;exact hj rfl)]
theorem Sl.setN {h:Heap}{n:Nat}{xs:List (List AV)}{id:Nat}{a:AV}(hs:Sl h n xs (some id) a)(hall:∀x,x∈xs→x.length=n){k j:Nat}{x:List AV}(hx:xs[k]? =some x)(hj:j<n)(c:AV):
 ∃h',stP h (.ptr id (k*n+j)) [.v c]=some h'∧Sl h' n (xs.set k (x.set j c)) (some id) a∧(∀q,q≠id→h'.bx[q]? =h.bx[q]?)∧h'.bx.length=h.bx.length:=by
 obtain⟨rfl,J,hJ,hl⟩:=hs
 obtain⟨hk,e⟩:=List.getElem?_eq_some_iff.1 hx
 have hxn:x.length=n:=by rw[←e];exact hall _ (List.getElem_mem hk)
 have h1:(Qal (xs.take k)).length=k*n:=by
  rw[QcZ (n:=n) (fun y hy=>hall y (List.mem_of_mem_take hy)),List.length_take,Nat.min_eq_left (Nat.le_of_lt hk)]
 have e1:xs=xs.take k++([x]++xs.drop (k+1)):=by
  rw[←e,List.singleton_append,←List.drop_eq_getElem_cons hk,List.take_append_drop]
 have e2:xs.set k (x.set j c)=xs.take k++([x.set j c]++xs.drop (k+1)):=by
  rw[List.set_eq_take_append_cons_drop,if_pos hk];rfl
 have h2:∀y:List AV,Qal [y]=y.map .v:=fun y=>by simp[Qal]
 have hlt:k*n+j<(Qal xs++J).length:=by
  rw[List.length_append,QcZ hall]
  have:(k+1)*n≤xs.length*n:=Nat.mul_le_mul_right n hk
  rw[Nat.add_mul]at this
  omega
 have hset:(Qal xs++J).set (k*n+j) (.v c)=Qal (xs.set k (x.set j c))++J:=by
  rw[e2]
  conv=>lhs;rw[e1]
  rw[QaZ,QaZ,QaZ,QaZ,h2,h2,List.append_assoc,List.append_assoc,List.append_assoc,List.append_assoc,
   List.set_append_right _ _ (by rw[h1];omega),h1,Nat.add_sub_cancel_left,List.set_append_left _ _ (by rw[List.length_map,hxn];exact hj),List.map_set]
 refine⟨_,QbY hJ hlt,⟨by rw[List.length_set],J,by rw[Qbd hJ,hset],by rw[←hset,List.length_set];exact hl⟩,fun q hq=>QdZ (Ne.symm hq),Qg7 _ _ _⟩
end Go.Proofs.Am
namespace Go.Proofs.Am
open Go
structure Scp where
 ty:List FTy
 fn:List Int
 gl:List Glo
 tb:Bool
 mm:Bool
 lo:List Int
 re:Int
def Scp.enc (s:Scp):List AV:=[.imm (s.ty.map FTy.enc),.imm (Qah s.fn),.imm (s.gl.map Glo.enc),.bool s.tb,.bool s.mm,.imm (Qah s.lo),.int .i64 s.re]
structure Blk where
 lab:List Int
 res:List Int
 ht:Nat
 nv:Bool
structure LS where
 row:List Int
 blk:List Blk
 err:Option Int
structure OpR where
 byte:Int
 nm:ByteArray
 kind:Int
 takes:List Int
 gives:Int
 bytes:Int
 sg:Bool
def rsl (t:Int):List Int:=if t=0 then[]else[t]
def LS.fail (c:Int)(σ:LS):LS:=if σ.err=none then{σ with err:=some c}else σ
def LS.take (w:Int)(σ:LS):LS×Int:=
 match σ.blk.getLast? with
 |none=>(σ,w)
 |some b=>
  if σ.row.length=b.ht then(if b.nv then(σ,w)else(σ.fail 4,w))
  else match σ.row.getLast? with
   |none=>(σ,w)
   |some got=>
    (if got≠w∧got≠-1∧w≠-1 then({σ with row:=σ.row.dropLast}:LS).fail 4 else{σ with row:=σ.row.dropLast},if got= -1 then w else got)
def LS.all:List Int→LS→LS
 |[],σ=>σ
 |t::ts,σ=>((LS.all ts σ).take t).1
def LS.give (ts:List Int)(σ:LS):LS:={σ with row:=σ.row++ts.filter (·≠0)}
def Qct:List Blk→List Blk
 |[]=>[]
 |[b]=>[{b with nv:=true}]
 |b::c::bs=>b::Qct (c::bs)
def LS.stop (σ:LS):LS:=
 match σ.blk.getLast? with
 |none=>σ
 |some b=>{σ with row:=σ.row.take b.ht,blk:=Qct σ.blk}
def LS.lbl (n:Int)(σ:LS):Option (List Int):=if n<σ.blk.length then(σ.blk[σ.blk.length-1-n.toNat]?).map (·.lab)else none
def LS.push (lab res:List Int)(σ:LS):LS:={σ with blk:=σ.blk++[⟨lab,res,σ.row.length,false⟩]}
def LS.fin2 (res:List Int)(b:Blk)(σ:LS):LS:=LS.give res {σ with row:=σ.row.take (min b.ht σ.row.length),blk:=σ.blk.dropLast}
def LS.fin1 (res:List Int)(σ:LS):LS:=
 match σ.blk.getLast? with
 |none=>σ
 |some b=>LS.fin2 res b (if σ.row.length=b.ht then σ else σ.fail 4)
def LS.fin (res:List Int)(σ:LS):LS:=LS.fin1 res (σ.all res)
def LS.tbl:List Int→List (List Int)→LS→Option (List (List Int))
 |[],acc,_=>some acc
 |n::ns,acc,σ=>match σ.lbl n with
  |none=>none
  |some t=>LS.tbl ns (acc++[t]) σ
def LS.table (l:List Int)(σ:LS):LS:=
 match σ.tbl l []with
 |none=>σ.fail 5
 |some ts=>(((if ts.any (·≠ts.getLastD [])then σ.fail 4 else σ).take 1).1.all (ts.getLastD [])).stop
def LS.jump (s:Scp)(o a:Int)(l:List Int)(σ:LS):LS:=
 if o=15 then(σ.all (rsl s.re)).stop
 else if o=14 then σ.table l
 else match σ.lbl a with
  |none=>σ.fail 5
  |some t=>if o=13 then((σ.take 1).1.all t).give t else(σ.all t).stop
def LS.thr (q:Bool)(σ:LS):LS:=if q then(σ.take 1).1 else σ
def LS.callT (s:Scp)(thr:Bool)(n:Int)(σ:LS):LS:=
 if n<0∨(s.ty.length:Int)≤n∨(thr=true∧s.tb=false)then σ.fail 5
 else match s.ty[n.toNat]? with
  |none=>σ
  |some t=>LS.give t.r (LS.all t.p (LS.thr thr (if 1<t.r.length then σ.fail 4 else σ)))
def LS.call (s:Scp)(o a:Int)(σ:LS):LS:=
 if o=16 then(if(s.fn.length:Int)≤a then σ.fail 5 else match s.fn[a.toNat]? with|none=>σ|some n=>σ.callT s false n)
 else σ.callT s true a
def LS.sel (p:LS×Int):LS:=(p.1.take p.2).1.give [(p.1.take p.2).2]
def LS.any (o:Int)(σ:LS):LS:=
 if o=26 then(σ.take (-1)).1
 else LS.sel ((σ.take 1).1.take (-1))
def LS.varT (o t:Int)(may:Bool)(σ:LS):LS:=
 if o=32∨o=35 then σ.give [t]
 else if o=34 then(σ.take t).1.give [t]
 else((if may=false∧o=36 then σ.fail 4 else σ).take t).1
def LS.var (s:Scp)(o a:Int)(σ:LS):LS:=
 if o<35 then(if a<s.lo.length then match s.lo[a.toNat]? with|none=>σ|some t=>σ.varT o t true else σ.fail 5)
 else if a<s.gl.length then match s.gl[a.toNat]? with|none=>σ|some g=>σ.varT o g.t g.mu else σ.fail 5
def LS.plain (s:Scp)(r:OpR)(a:Int)(σ:LS):LS:=
 if(r.kind=7∨r.kind=8∨r.kind=9)∧s.mm=false then σ.fail 5
 else((if(r.kind=7∨r.kind=8)∧(3<a∨r.bytes<(2:Int)^a.toNat)then σ.fail 4 else σ).all r.takes).give [r.gives]
def LS.cond (o t:Int)(q:Bool)(σ:LS):LS:=if o=4 then(if q=false∧t≠0 then(σ.take 1).1.fail 4 else(σ.take 1).1)else σ
section
variable (OP:Int→Option OpR) (s:Scp)
mutual
def LS.instr:Ins→LS→LS
 |.mk o a _ _ t l bd el q,σ=>
  match OP o with
  |none=>σ.fail 1
  |some r=>
   if r.kind=2 then
    (if o=3 then(if σ.err.isSome then σ else LS.runL bd (rsl t) (σ.push [] (rsl t)))
     else
     let σ1:=LS.cond o t q σ
     let σ2:=if σ1.err.isSome then σ1 else LS.runL bd (rsl t) (σ1.push (rsl t) (rsl t))
     if q=true∧σ2.err=none then
      (if(σ2.all (rsl t)).err.isSome then σ2.all (rsl t)else LS.runL el (rsl t) ((σ2.all (rsl t)).push (rsl t) (rsl t)))
     else σ2)
   else if r.kind=3 then σ.jump s o a l
   else if r.kind=4 then σ.call s o a
   else if r.kind=5 then σ.any o
   else if r.kind=6 then σ.var s o a
   else if o=0 then σ.stop
   else σ.plain s r a
def LS.runL:List Ins→List Int→LS→LS
 |[],res,σ=>σ.fin res
 |x::xs,res,σ=>if σ.err.isSome then σ else LS.runL xs res (LS.instr x σ)
end
def LS.code (l:List Ins)(lab res:List Int)(σ:LS):LS:=if σ.err.isSome then σ else LS.runL OP s l res (σ.push lab res)
end
end Go.Proofs.Am
namespace Go.Proofs.Am
open Go
structure WF (σ:LS):Prop where
 ne:σ.blk≠[]
 le:∀b,b∈σ.blk→b.ht≤σ.row.length
 srt:σ.blk.Pairwise fun a b=>a.ht≤b.ht
theorem QbP {l:List Blk}(h:l≠[]):∃b,l.getLast? =some b∧l=l.dropLast++[b]:=by
 refine⟨l.getLast h,List.getLast?_eq_some_getLast h,?_⟩
 exact(List.dropLast_concat_getLast h).symm
theorem Qfd {l:List Blk}(hs:l.Pairwise fun a b=>a.ht≤b.ht){b:Blk}(hb:l.getLast? =some b):∀c,c∈l→c.ht≤b.ht:=by
 intro c hc
 have hne:l≠[]:=by rintro rfl;cases hc
 obtain⟨b',h1,h2⟩:=QbP hne
 rw[hb]at h1
 cases h1
 rw[h2]at hs hc
 rw[List.pairwise_append]at hs
 rcases List.mem_append.1 hc with h|h
 ·exact hs.2.2 c h b (by simp)
 ·simp at h;subst h;exact Nat.le_refl _
theorem Qbl (c:Int)(σ:LS):(σ.fail c).row=σ.row:=by unfold LS.fail;split<;>rfl
theorem Qa0 (c:Int)(σ:LS):(σ.fail c).blk=σ.blk:=by unfold LS.fail;split<;>rfl
theorem WF.fail {σ:LS}(h:WF σ)(c:Int):WF (σ.fail c):=⟨by rw[Qa0];exact h.ne,by rw[Qa0,Qbl];exact h.le,by rw[Qa0];exact h.srt⟩
theorem Qbz (w:Int)(σ:LS):(σ.take w).1.blk=σ.blk:=by
 unfold LS.take
 split
 ·rfl
 ·split
  ·split<;>simp[Qa0]
  ·split
   ·rfl
   ·simp only;split<;>simp[Qa0]
theorem WF.take {σ:LS}(h:WF σ)(w:Int):WF (σ.take w).1:=by
 obtain⟨b,hb,hl⟩:=QbP h.ne
 have hlt:∀c,c∈σ.blk→c.ht≤b.ht:=Qfd h.srt hb
 have hbm:b∈σ.blk:=List.mem_of_getLast? hb
 refine⟨by rw[Qbz];exact h.ne,fun c hc=>?_,by rw[Qbz];exact h.srt⟩
 rw[Qbz]at hc
 have h1:=h.le c hc
 have h2:=hlt c hc
 have h3:=h.le b hbm
 unfold LS.take
 rw[hb]
 simp only
 split
 ·split
  ·exact h1
  ·rw[Qbl];exact h1
 ·split
  ·exact h1
  ·simp only
   split
   ·rw[Qbl,List.length_dropLast];omega
   ·simp only[List.length_dropLast];omega
theorem QcD:∀(ts:List Int) (σ:LS),(σ.all ts).blk=σ.blk
 |[],_=>rfl
 |t::ts,σ=>by rw[LS.all,Qbz,QcD ts]
theorem WF.all {σ:LS}(h:WF σ):∀ts:List Int,WF (σ.all ts)
 |[]=>h
 |t::ts=>(WF.all h ts).take t
theorem QdM (ts:List Int)(σ:LS):(σ.give ts).row=σ.row++ts.filter (·≠0):=rfl
theorem WF.give {σ:LS}(h:WF σ)(ts:List Int):WF (σ.give ts):=⟨h.ne,fun b hb=>by have:=h.le b hb;rw[QdM,List.length_append];omega,h.srt⟩
theorem QcI:∀l:List Blk,(Qct l).map (·.ht)=l.map (·.ht)
 |[]=>rfl
 |[_]=>rfl
 |b::c::l=>by rw[Qct,List.map_cons,QcI (c::l)];rfl
theorem Qq0 {l k:List Blk}(h:l.map (·.ht)=k.map (·.ht))(hs:k.Pairwise fun a b=>a.ht≤b.ht):l.Pairwise fun a b=>a.ht≤b.ht:=by
 have h1:(k.map (·.ht)).Pairwise (·≤·):=List.pairwise_map.2 hs
 rw[←h]at h1
 exact List.pairwise_map.1 h1
theorem QjW (l:List Blk):(Qct l).length=l.length:=by
 have:=congrArg List.length (QcI l)
 simpa using this
theorem WF.stop {σ:LS}(h:WF σ):WF σ.stop:=by
 obtain⟨b,hb,hl⟩:=QbP h.ne
 have hlt:∀c,c∈σ.blk→c.ht≤b.ht:=Qfd h.srt hb
 have hbm:b∈σ.blk:=List.mem_of_getLast? hb
 have h3:=h.le b hbm
 unfold LS.stop
 rw[hb]
 refine⟨?_,fun c hc=>?_,Qq0 (QcI _) h.srt⟩
 ·intro e
  have:=congrArg List.length e
  simp only[QjW,List.length_nil,List.length_eq_zero_iff]at this
  exact h.ne this
 ·have h4:c.ht∈(Qct σ.blk).map (·.ht):=List.mem_map.2 ⟨c,hc,rfl⟩
  rw[QcI]at h4
  obtain⟨d,hd,e⟩:=List.mem_map.1 h4
  have:=hlt d hd
  simp only[List.length_take];omega
theorem WF.push {σ:LS}(h:WF σ)(lab res:List Int):WF (σ.push lab res):=by
 refine⟨by simp[LS.push],fun b hb=>?_,?_⟩
 ·simp only[LS.push,List.mem_append,List.mem_singleton]at hb
  rcases hb with hb|rfl
  ·exact h.le b hb
  ·exact Nat.le_refl _
 ·simp only[LS.push,List.pairwise_append]
  exact⟨h.srt,by simp,fun a ha b hb=>by simp at hb;subst hb;exact h.le a ha⟩
theorem WF.push0 {σ:LS}(h:σ.blk=[])(lab res:List Int):WF (σ.push lab res):=
 ⟨by simp[LS.push],fun b hb=>by simp only[LS.push,h,List.nil_append,List.mem_singleton]at hb;subst hb;exact Nat.le_refl _,by simp[LS.push,h]⟩
structure WF0 (σ:LS):Prop where
 le:∀b,b∈σ.blk→b.ht≤σ.row.length
 srt:σ.blk.Pairwise fun a b=>a.ht≤b.ht
theorem Qod (res:List Int){σ:LS}(h:σ.blk≠[]):(σ.fin1 res).blk=σ.blk.dropLast:=by
 obtain⟨b,hb,_⟩:=QbP h
 unfold LS.fin1
 rw[hb]
 simp only[LS.fin2,LS.give]
 split
 ·rfl
 ·rw[Qa0]
theorem Qek (res:List Int){σ:LS}(h:σ.blk≠[]):(σ.fin res).blk=σ.blk.dropLast:=by
 unfold LS.fin
 rw[Qod res (by rw[QcD];exact h),QcD]
theorem WF.fin {σ:LS}(h:WF σ)(res:List Int):WF0 (σ.fin res):=by
 have h1:=h.all res
 refine⟨fun c hc=>?_,by rw[Qek res h.ne];exact h.srt.sublist (List.dropLast_sublist _)⟩
 rw[Qek res h.ne]at hc
 have hcm:c∈(σ.all res).blk:=by rw[QcD];exact List.dropLast_subset _ hc
 obtain⟨b,hb,hl⟩:=QbP h1.ne
 have h4:=Qfd h1.srt hb c hcm
 have h3:=h1.le b (List.mem_of_getLast? hb)
 unfold LS.fin LS.fin1
 rw[hb]
 simp only[LS.fin2,QdM,List.length_append,List.length_take]
 split
 ·omega
 ·rw[Qbl];omega
theorem Qk4 {c e:Int}{σ:LS}(h:σ.err=some e):σ.fail c=σ:=by unfold LS.fail;rw[h];simp
end Go.Proofs.Am
namespace Go.Proofs.Am
open Go
structure Inv (N:Nat) (σ:LS):Prop where
 wf:WF σ
 lab:∀b,b∈σ.blk→b.lab.length≤1
 sz:σ.row.length+σ.blk.length≤N
variable {N:Nat} {σ:LS}
theorem Inv.mono (h:Inv N σ){M:Nat}(hM:N≤M):Inv M σ:=⟨h.wf,h.lab,Nat.le_trans h.sz hM⟩
theorem Inv.fail (h:Inv N σ)(c:Int):Inv N (σ.fail c):=⟨h.wf.fail c,by rw[Qa0];exact h.lab,by rw[Qa0,Qbl];exact h.sz⟩
theorem Qfb (w:Int)(σ:LS):(σ.take w).1.row.length≤σ.row.length:=by
 unfold LS.take
 split
 ·exact Nat.le_refl _
 ·split
  ·split
   ·exact Nat.le_refl _
   ·rw[Qbl];exact Nat.le_refl _
  ·split
   ·exact Nat.le_refl _
   ·simp only
    split
    ·rw[Qbl,List.length_dropLast];omega
    ·simp only[List.length_dropLast];omega
theorem QhC:∀(ts:List Int) (σ:LS),(σ.all ts).row.length≤σ.row.length
 |[],_=>Nat.le_refl _
 |t::ts,σ=>Nat.le_trans (Qfb t _) (QhC ts σ)
theorem Inv.take (h:Inv N σ)(w:Int):Inv N (σ.take w).1:=⟨h.wf.take w,by rw[Qbz];exact h.lab,by rw[Qbz];exact Nat.le_trans (Nat.add_le_add_right (Qfb w σ) _) h.sz⟩
theorem Inv.all (h:Inv N σ)(ts:List Int):Inv N (σ.all ts):=⟨h.wf.all ts,by rw[QcD];exact h.lab,by rw[QcD];exact Nat.le_trans (Nat.add_le_add_right (QhC ts σ) _) h.sz⟩
theorem Qn9 (ts:List Int)(σ:LS):(σ.give ts).blk=σ.blk:=rfl
theorem Inv.give (h:Inv N σ)(ts:List Int):Inv (N+ts.length) (σ.give ts):=⟨h.wf.give ts,h.lab,by
 have:=List.length_filter_le (·≠0) ts
 have:=h.sz
 rw[QdM,Qn9,List.length_append]
 omega⟩
theorem Qf4:∀l:List Blk,(Qct l).map (·.lab)=l.map (·.lab)
 |[]=>rfl
 |[_]=>rfl
 |b::c::l=>by rw[Qct,List.map_cons,Qf4 (c::l)];rfl
theorem Qfc (σ:LS):σ.stop.blk.map (·.lab)=σ.blk.map (·.lab):=by
 unfold LS.stop
 split
 ·rfl
 ·exact Qf4 _
theorem Inv.stop (h:Inv N σ):Inv N σ.stop:=by
 refine⟨h.wf.stop,fun b hb=>?_,?_⟩
 ·have h1:b.lab∈σ.stop.blk.map (·.lab):=List.mem_map.2 ⟨b,hb,rfl⟩
  rw[Qfc]at h1
  obtain⟨c,hc,e⟩:=List.mem_map.1 h1
  rw[←e];exact h.lab c hc
 ·have h1:=congrArg List.length (Qfc σ)
  rw[List.length_map,List.length_map]at h1
  have h2:σ.stop.row.length≤σ.row.length:=by
   unfold LS.stop
   split
   ·exact Nat.le_refl _
   ·simp only[List.length_take];omega
  have:=h.sz
  omega
theorem Inv.push (h:Inv N σ){lab:List Int}(hl:lab.length≤1)(res:List Int):Inv (N+1) (σ.push lab res):=by
 refine⟨h.wf.push lab res,fun b hb=>?_,?_⟩
 ·simp only[LS.push,List.mem_append,List.mem_singleton]at hb
  rcases hb with hb|rfl
  ·exact h.lab b hb
  ·exact hl
 ·have:=h.sz
  simp only[LS.push,List.length_append,List.length_singleton]
  omega
theorem Qb4 (t:Int):(rsl t).length≤1:=by unfold rsl;split<;>simp
theorem Qr0 {n:Int}{t:List Int}(h:σ.lbl n=some t):∃b,b∈σ.blk∧b.lab=t:=by
 unfold LS.lbl at h
 split at h
 ·obtain⟨b,hb,e⟩:=Option.map_eq_some_iff.1 h
  exact⟨b,List.mem_of_getElem? hb,e⟩
 ·cases h
theorem Inv.lbl (h:Inv N σ){n:Int}{t:List Int}(hl:σ.lbl n=some t):t.length≤1:=by
 obtain⟨b,hb,e⟩:=Qr0 hl
 rw[←e];exact h.lab b hb
structure Inv0 (N:Nat) (σ:LS):Prop where
 wf:WF0 σ
 lab:∀b,b∈σ.blk→b.lab.length≤1
 sz:σ.row.length+σ.blk.length≤N
theorem Qsq (res:List Int)(h:Inv N σ):(σ.fin res).row.length≤σ.row.length+res.length:=by
 have h1:=h.all res
 obtain⟨b,hb,_⟩:=QbP h1.wf.ne
 have h2:=QhC res σ
 unfold LS.fin LS.fin1
 rw[hb]
 have h3:=List.length_filter_le (·≠0) res
 simp only[LS.fin2,QdM,List.length_append,List.length_take]
 have h4:(if(σ.all res).row.length=b.ht then σ.all res else(σ.all res).fail 4).row=(σ.all res).row:=by
  split
  ·rfl
  ·rw[Qbl]
 rw[h4]
 omega
theorem Inv.fin (h:Inv N σ)(res:List Int):Inv0 (N+res.length) (σ.fin res):=by
 refine⟨h.wf.fin res,fun b hb=>?_,?_⟩
 ·rw[Qek res h.wf.ne]at hb
  exact h.lab b (List.dropLast_subset _ hb)
 ·have h1:=Qsq res h
  have h2:=h.sz
  rw[Qek res h.wf.ne,List.length_dropLast]
  omega
end Go.Proofs.Am
namespace Go.Proofs.Am
open Go
mutual
def cI:Ins→Nat
 |.mk _ _ _ _ _ l bd el _=>1+l.length+cL bd+cL el
def cL:List Ins→Nat
 |[]=>0
 |x::xs=>cI x+cL xs
end
def QeB (n:Int):Bool:=decide (0≤n)&&decide (n≤4294967295)
section
variable (OP:Int→Option OpR)
def Qwc (r:OpR)(o a b v:Int)(l:List Int):Bool:=
 if r.kind=10 then !(decide (r.gives=1)&&decide (4294967295<v))&&(decide (a=0)&&decide (b=0)&&l.isEmpty)
 else if r.kind=7∨r.kind=8 then QeB a&&QeB b&&(decide (v=0)&&l.isEmpty)
 else if o=14 then !l.isEmpty&&l.all QeB&&(decide (a=0)&&decide (b=0)&&decide (v=0))
 else if r.kind=4∨r.kind=6∨(r.kind=3∧o≠15)then QeB a&&(decide (b=0)&&decide (v=0)&&l.isEmpty)
 else decide (a=0)&&decide (b=0)&&decide (v=0)&&l.isEmpty
mutual
def QnM:Ins→Bool
 |.mk o a b v t l bd el q=>
  match OP o with
  |none=>false
  |some r=>
   if r.kind=2 then decide (0≤t)&&decide (t≤2)&&Qfq bd&&Qfq el&&!(decide (o≠4)&&q)&&!(!q&&!el.isEmpty)&&(decide (a=0)&&decide (b=0)&&decide (v=0)&&l.isEmpty)
   else Qwc r o a b v l&&(decide (t=0)&&bd.isEmpty&&el.isEmpty&&!q)
def Qfq:List Ins→Bool
 |[]=>true
 |x::xs=>QnM x&&Qfq xs
end
end
theorem Qh6 {OP:Int→Option OpR}:∀{xs:List Ins},Qfq OP xs=xs.all (QnM OP)
 |[]=>rfl
 |x::xs=>by rw[Qfq,List.all_cons,Qh6]
section
variable {OP:Int→Option OpR} {s:Scp} {R:Nat}
theorem Inv0.inv {N:Nat}{σ:LS}(h:Inv0 N σ)(hp:0<σ.blk.length):Inv N σ:=⟨⟨List.length_pos_iff.1 hp,h.wf.le,h.wf.srt⟩,h.lab,h.sz⟩
theorem Inv.inv0 {N:Nat}{σ:LS}(h:Inv N σ):Inv0 N σ:=⟨⟨h.wf.le,h.wf.srt⟩,h.lab,h.sz⟩
theorem Inv0.mono {N M:Nat}{σ:LS}(h:Inv0 N σ)(hM:N≤M):Inv0 M σ:=⟨h.wf,h.lab,Nat.le_trans h.sz hM⟩
theorem Inv.pos {N:Nat}{σ:LS}(h:Inv N σ):0<σ.blk.length:=List.length_pos_iff.2 h.wf.ne
theorem QjO (σ:LS):σ.stop.blk.length=σ.blk.length:=by
 have h1:=congrArg List.length (Qfc σ)
 rwa[List.length_map,List.length_map]at h1
def Grows (c:Nat)(F:LS→LS):Prop:=∀(N:Nat) (σ:LS),Inv N σ→Inv (N+c) (F σ)∧σ.blk.length≤(F σ).blk.length
theorem Grows.mono {c d:Nat}{F:LS→LS}(h:Grows c F)(hd:c≤d):Grows d F:=fun N σ I=>⟨(h N σ I).1.mono (by omega),(h N σ I).2⟩
theorem Grows.comp {c d:Nat}{F G:LS→LS}(h:Grows c F)(k:Grows d G):Grows (c+d) fun σ=>G (F σ):=fun N σ I=>by
 obtain⟨h1,h2⟩:=h N σ I
 obtain⟨h3,h4⟩:=k _ _ h1
 exact⟨h3.mono (by omega),Nat.le_trans h2 h4⟩
theorem g_id:Grows 0 fun σ=>σ:=fun _ _ I=>⟨I,Nat.le_refl _⟩
theorem QbI (c:Int):Grows 0 (LS.fail c):=fun _ σ I=>⟨I.fail c,by rw[Qa0];exact Nat.le_refl _⟩
theorem Qb9 (w:Int):Grows 0 fun σ=>(σ.take w).1:=fun _ σ I=>⟨I.take w,by rw[Qbz];exact Nat.le_refl _⟩
theorem Qhn (ts:List Int):Grows 0 (LS.all ts):=fun _ σ I=>⟨I.all ts,by rw[QcD];exact Nat.le_refl _⟩
theorem QeY (ts:List Int):Grows ts.length (LS.give ts):=fun _ _ I=>⟨I.give ts,Nat.le_refl _⟩
theorem g_stop:Grows 0 LS.stop:=fun _ σ I=>⟨I.stop,by rw[QjO];exact Nat.le_refl _⟩
theorem QkU {c:Nat}{F G:LS→LS}(p:LS→Prop)[∀σ,Decidable (p σ)](h:Grows c F)(k:Grows c G):Grows c fun σ=>if p σ then F σ else G σ:=fun N σ I=>by
 by_cases hp:p σ
 ·simp only[if_pos hp];exact h N σ I
 ·simp only[if_neg hp];exact k N σ I
theorem Qsn (l:List Int):Grows 0 (LS.table l):=fun N σ I=>by
 unfold LS.table
 split
 ·exact QbI 5 N σ I
 ·rename_i ts hts
  exact(((QkU (fun _=>ts.any (·≠ts.getLastD [])=true) (QbI 4) g_id).comp (Qb9 1)).comp (Qhn _)).comp g_stop N σ I
theorem QwL (o a:Int)(l:List Int):Grows 1 (LS.jump s o a l):=fun N σ I=>by
 unfold LS.jump
 split
 ·exact(((Qhn _).comp g_stop).mono (by omega)) N σ I
 ·split
  ·exact((Qsn l).mono (by omega)) N σ I
  ·split
   ·exact((QbI 5).mono (by omega)) N σ I
   ·rename_i t ht
    split
    ·exact((((Qb9 1).comp (Qhn t)).comp (QeY t)).mono (by have:=I.lbl ht;omega)) N σ I
    ·exact(((Qhn t).comp g_stop).mono (by omega)) N σ I
theorem QkX (hR:∀x,x∈s.ty→x.p.length≤R∧x.r.length≤R)(thr:Bool)(n:Int):Grows R (LS.callT s thr n):=fun N σ I=>by
 unfold LS.callT
 split
 ·exact((QbI 5).mono (by omega)) N σ I
 ·split
  ·exact(g_id.mono (by omega)) N σ I
  ·rename_i t ht
   have hr:=(hR t (List.mem_of_getElem? ht)).2
   have g1:Grows 0 (LS.thr thr):=by
    cases thr with
    |false=>exact g_id
    |true=>exact Qb9 1
   exact(((((QkU (fun _=>1<t.r.length) (QbI 4) g_id).comp g1).comp (Qhn t.p)).comp (QeY t.r)).mono (by omega)) N σ I
theorem QwN (hR:∀x,x∈s.ty→x.p.length≤R∧x.r.length≤R)(o a:Int):Grows R (LS.call s o a):=fun N σ I=>by
 unfold LS.call
 split
 ·split
  ·exact((QbI 5).mono (by omega)) N σ I
  ·split
   ·exact(g_id.mono (by omega)) N σ I
   ·exact QkX hR _ _ N σ I
 ·exact QkX hR _ _ N σ I
theorem QBB (o:Int):Grows 1 (LS.any o):=fun N σ I=>by
 unfold LS.any
 split
 ·exact((Qb9 (-1)).mono (by omega)) N σ I
 ·unfold LS.sel
  obtain⟨h1,h2⟩:=((Qb9 1).comp (Qb9 (-1))) N σ I
  obtain⟨h3,h4⟩:=Qb9 (((σ.take 1).1.take (-1)).2) _ _ h1
  obtain⟨h5,h6⟩:=QeY [((((σ.take 1).1.take (-1)).1).take (((σ.take 1).1.take (-1)).2)).2] _ _ h3
  exact⟨h5.mono (by simp),Nat.le_trans h2 (Nat.le_trans h4 h6)⟩
theorem Qpd (o t:Int)(q:Bool):Grows 1 (LS.varT o t q):=fun N σ I=>by
 unfold LS.varT
 split
 ·exact QeY [t] N σ I
 ·split
  ·exact(((Qb9 t).comp (QeY [t])).mono (by simp)) N σ I
  ·exact(((QkU (fun _=>q=false∧o=36) (QbI 4) g_id).comp (Qb9 t)).mono (by omega)) N σ I
theorem QBA (o a:Int):Grows 1 (LS.var s o a):=fun N σ I=>by
 unfold LS.var
 split
 ·split
  ·split
   ·exact(g_id.mono (by omega)) N σ I
   ·exact Qpd _ _ _ N σ I
  ·exact((QbI 5).mono (by omega)) N σ I
 ·split
  ·split
   ·exact(g_id.mono (by omega)) N σ I
   ·exact Qpd _ _ _ N σ I
  ·exact((QbI 5).mono (by omega)) N σ I
theorem Qso (r:OpR)(a:Int):Grows 1 (LS.plain s r a):=fun N σ I=>by
 unfold LS.plain
 split
 ·exact((QbI 5).mono (by omega)) N σ I
 ·exact(((QkU (fun _=>(r.kind=7∨r.kind=8)∧(3<a∨r.bytes<(2:Int)^a.toNat)) (QbI 4) g_id).comp (Qhn r.takes)).comp (QeY [r.gives])).mono (by simp) N σ I
theorem QwM (o t:Int)(q:Bool):Grows 0 (LS.cond o t q):=fun N σ I=>by
 unfold LS.cond
 split
 ·split
  ·exact((Qb9 1).comp (QbI 4)) N σ I
  ·exact Qb9 1 N σ I
 ·exact g_id N σ I
def Qxy (OP:Int→Option OpR)(s:Scp)(c:Nat)(xs:List Ins):Prop:=∀(res:List Int),res.length≤1→∀(N:Nat) (σ:LS),Inv N σ→Inv0 (N+c) (LS.runL OP s xs res σ)∧σ.blk.length≤(LS.runL OP s xs res σ).blk.length+1
theorem Qio {c:Nat}{xs:List Ins}(h:Qxy OP s c xs){lab res:List Int}(hl:lab.length≤1)(hr:res.length≤1):Grows (c+1) fun σ=>if σ.err.isSome then σ else LS.runL OP s xs res (σ.push lab res):=fun N σ I=>by
 by_cases he:σ.err.isSome=true
 ·simp only[if_pos he]
  exact⟨I.mono (by omega),Nat.le_refl _⟩
 ·simp only[if_neg he]
  obtain⟨h1,h2⟩:=h res hr (N+1) (σ.push lab res) (I.push hl res)
  have h3:(σ.push lab res).blk.length=σ.blk.length+1:=by simp[LS.push]
  have:=I.pos
  exact⟨(h1.inv (by omega)).mono (by omega),by omega⟩
mutual
theorem QkV (hR:∀x,x∈s.ty→x.p.length≤R∧x.r.length≤R):∀x:Ins,Grows ((R+6)*cI x) (LS.instr OP s x)
 |.mk o a b v t l bd el q=>by
  have hb:=Qin hR bd
  have hl:=Qin hR el
  have hc:cI (.mk o a b v t l bd el q)=1+l.length+cL bd+cL el:=rfl
  have hc2:(R+6)*cI (.mk o a b v t l bd el q)=(R+6)+(R+6)*l.length+(R+6)*cL bd+(R+6)*cL el:=by rw[hc,Nat.mul_add,Nat.mul_add,Nat.mul_add,Nat.mul_one]
  intro N σ I
  have hr:=Qb4 t
  unfold LS.instr
  split
  ·exact((QbI 1).mono (by omega)) N σ I
  ·rename_i r hop
   split
   ·split
    ·exact(Qio hb (lab:=[]) (by simp) hr).mono (by omega) N σ I
    ·have g2:=(QwM o t q).comp (Qio hb hr hr)
     exact(g2.comp (QkU (fun τ=>q=true∧τ.err=none) ((Qhn (rsl t)).comp (Qio hl hr hr)) (g_id.mono (Nat.zero_le _)))).mono (by omega) N σ I
   ·split
    ·exact(QwL o a l).mono (by omega) N σ I
    ·split
     ·exact(QwN hR o a).mono (by omega) N σ I
     ·split
      ·exact(QBB o).mono (by omega) N σ I
      ·split
       ·exact(QBA o a).mono (by omega) N σ I
       ·split
        ·exact g_stop.mono (by omega) N σ I
        ·exact(Qso r a).mono (by omega) N σ I
theorem Qin (hR:∀x,x∈s.ty→x.p.length≤R∧x.r.length≤R):∀xs:List Ins,Qxy OP s ((R+6)*cL xs+1) xs
 |[]=>by
  intro res hr N σ I
  rw[LS.runL]
  have h1:=I.fin res
  refine⟨h1.mono (by omega),?_⟩
  rw[Qek res I.wf.ne,List.length_dropLast]
  omega
 |x::xs=>by
  intro res hr N σ I
  rw[LS.runL]
  have hc:(R+6)*cL (x::xs)=(R+6)*cI x+(R+6)*cL xs:=by rw[cL,Nat.mul_add]
  split
  ·exact⟨I.inv0.mono (by omega),by omega⟩
  ·obtain⟨h1,h2⟩:=QkV hR x N σ I
   obtain⟨h3,h4⟩:=Qin hR xs res hr _ _ h1
   exact⟨h3.mono (by omega),by omega⟩
end
end
end Go.Proofs.Am
namespace Go.Proofs.Am
open Go
def Keeps (F:LS→LS):Prop:=∀(σ:LS) (c:Int),σ.err=some c→(F σ).err=some c
theorem Keeps.none {F:LS→LS}(h:Keeps F){σ:LS}(he:(F σ).err=none):σ.err=none:=by
 cases hc:σ.err with
 |none=>rfl
 |some c=>rw[h σ c hc]at he;cases he
theorem Keeps.comp {F G:LS→LS}(h:Keeps F)(k:Keeps G):Keeps fun σ=>G (F σ):=fun σ c hc=>k _ c (h σ c hc)
section
variable {s:Scp}
variable {OP:Int→Option OpR}
def QBU (OP:Int→Option OpR)(s:Scp)(xs:List Ins)(la re:List Int)(σ:LS):LS:=if σ.err.isSome then σ else LS.runL OP s xs re (σ.push la re)
def QDq (OP:Int→Option OpR)(s:Scp)(t:Int)(q:Bool)(el:List Ins)(σ:LS):LS:=if q=true∧σ.err=none then QBU OP s el (rsl t) (rsl t) (σ.all (rsl t))else σ
end
structure Sim (U:List Blk→List Blk):Prop where
 last:∀(l:List Blk) (b:Blk),l.getLast? =some b→∃b',(U l).getLast? =some b'∧b'.ht=b.ht∧(b.nv=true→b'.nv=true)
 snoc:∀(l:List Blk) (b:Blk),l≠[]→U (l++[b])=U l++[b]
 nv:∀l:List Blk,l≠[]→U (Qct l)=Qct (U l)
 drop:∀l:List Blk,l≠[]→(U l).dropLast=U l.dropLast
 lbl:∀(l:List Blk) (n:Nat),n<l.length→n<(U l).length∧((U l)[(U l).length-1-n]?).map (·.lab)=(l[l.length-1-n]?).map (·.lab)
def tr (U:List Blk→List Blk)(σ:LS):LS:={σ with blk:=U σ.blk}
structure Wider (s s':Scp):Prop where
 ty:∀(n:Nat) t,s.ty[n]? =some t→s'.ty[n]? =some t
 fn:∀(n:Nat) t,s.fn[n]? =some t→s'.fn[n]? =some t
 gl:∀(n:Nat) t,s.gl[n]? =some t→s'.gl[n]? =some t
 lo:∀(n:Nat) t,s.lo[n]? =some t→s'.lo[n]? =some t
 tb:s.tb=true→s'.tb=true
 mm:s.mm=true→s'.mm=true
 re:s'.re=s.re
theorem Wider.refl (s:Scp):Wider s s:=⟨fun _ _ h=>h,fun _ _ h=>h,fun _ _ h=>h,fun _ _ h=>h,fun h=>h,fun h=>h,rfl⟩
section
variable {U:List Blk→List Blk}
def Sims (U:List Blk→List Blk)(F F':LS→LS):Prop:=∀(N:Nat) (σ:LS),Inv N σ→(F σ).err=none→F' (tr U σ)=tr U (F σ)
theorem Sims.comp {F F' G G':LS→LS}{c:Nat}(h:Sims U F F')(k:Sims U G G')(hg:Grows c F)(hk:Keeps G):Sims U (fun σ=>G (F σ)) (fun σ=>G' (F' σ)):=fun N σ I he=>by
 have h1:=h N σ I (hk.none he)
 simp only[h1]
 exact k _ _ (hg N σ I).1 he
variable {s s':Scp} {R:Nat}
end
end Go.Proofs.Am
namespace Go.Proofs.Am
open Go
section
variable {U:List Blk→List Blk} {s s':Scp} {R:Nat}
variable {OP:Int→Option OpR}
def QDs (U:List Blk→List Blk)(OP:Int→Option OpR)(s s':Scp)(xs:List Ins):Prop:=∀re:List Int,re.length≤1→Sims U (LS.runL OP s xs re) (LS.runL OP s' xs re)
end
def nv0:List Blk→List Blk
 |[]=>[]
 |b::l=>{b with nv:=true}::l
end Go.Proofs.Am
namespace Go.Proofs.Am
open Go
def hts (σ:LS):List Nat:=σ.blk.map (·.ht)
def Same (F:LS→LS):Prop:=∀σ:LS,(F σ).err=none→hts (F σ)=hts σ
theorem Same.comp {F G:LS→LS}(h:Same F)(k:Same G)(hk:Keeps G):Same fun σ=>G (F σ):=fun σ he=>(k _ he).trans (h σ (hk.none he))
section
variable {s:Scp}
variable {OP:Int→Option OpR}
def QDt (OP:Int→Option OpR)(s:Scp)(xs:List Ins):Prop:=∀(re:List Int) (σ:LS),σ.blk≠[]→(LS.runL OP s xs re σ).err=none→∃σ',LS.runL OP s xs re σ=σ'.fin re∧hts σ'=hts σ
end
end Go.Proofs.Am
