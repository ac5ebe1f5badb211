/-
  Ways through texts, one by one (printed by a program of this repo).
-/
import Derived.Test.YtoblgjmllmomhaaGreatDoorAmBodyF
import Derived.Test.YtoblgjmllmomhaaGreatDoorAmSVe7
import Derived.Test.YtoblgjmllmomhaaGreatDoorAmSVwI
import Derived.Test.YtoblgjmllmomhaaGreatDoorAmCloneH
import Derived.Test.YtoblgjmllmomhaaGreatDoorAmEq
import Derived.Test.YtoblgjmllmomhaaGreatDoorAmSVwM
import Derived.Test.YtoblgjmllmomhaaGreatDoorAmExtH
import Derived.KernelRfl
namespace Go.Proofs.YtoblgjmllmomhaaGreatDoor
set_option maxRecDepth 100000
open Go Go.RowKit Go.Proofs.Am
abbrev eM (M:Mdl):LV:=.v (.agg M.enc)
noncomputable abbrev QbM (m:Int)(f:Nat)(xs:List LV)(h:Heap):=Qab (cxZ m) (blk (cxZ m)) f xs h
def Qbt (k:Int)(x:Imp):Bool:=eqZ x.k k&&leZ (Int.ofNat 0) k&&leZ k (Int.ofNat 3)
def QcE (M:Mdl)(k:Int):List Imp:=M.im.filter (Qbt k)
def Qkc (M:Mdl)(k:Int):Nat:=
 if k=0 then M.fu.length else if k=1 then M.ta.length else if k=2 then M.me.length else if k=3 then M.gl.length else 0
structure Small (M:Mdl):Prop where
 fit:M.Fit
 ty:M.ty.length≤200
 im:M.im.length≤200
 fu:M.fu.length≤200
 gl:M.gl.length≤200
theorem Small.ta {M:Mdl}(h:Small M):M.ta.length*24≤140737488351232:=h.fit.2.2.2.1.1
theorem Small.me {M:Mdl}(h:Small M):M.me.length*24≤140737488351232:=h.fit.2.2.2.2.1.1
theorem Small.own {M:Mdl}(h:Small M)(k:Int):Qkc M k*24≤140737488351232:=by
 have:=h.ta;have:=h.me;have:=h.fu;have:=h.gl
 unfold Qkc
 repeat' split
 all_goals omega
theorem Qgd (m:Int)(k:Int)(im:List Imp)(hi:im.length≤200)(h:Heap):∀(d i:Nat),i+d=im.length→∀out:List Imp,out.length≤i→
 blk (cxZ m) 76 (at_ Tryz.prog 76 3) [.v (.int .i64 k),.ow 8 (out.map Imp.enc),.v (.imm (im.map Imp.enc)),.v (.int .i64 (Int.ofNat im.length)),.v (.int .i64 (Int.ofNat i))] h
  =some (.v (.imm ((out++(im.drop i).filter (Qbt k)).map Imp.enc)),h)
 |0,i,hd,out,ho=>by
  obtain rfl:i=im.length:=by omega
  rw[List.drop_length,List.filter_nil,List.append_nil]
  exact Qre (k0:=Qaf (Int.le_refl _))
 |d+1,i,hd,out,ho=>by
  have hlt:i<im.length:=by omega
  have hx:im[i]? =some im[i]:=List.getElem?_eq_getElem hlt
  generalize im[i]=x at hx
  have k0:ltZ (Int.ofNat i) (Int.ofNat im.length)=true:=Qae (by rw[ofN,ofN];omega)
  have k1:ixA (.imm (im.map Imp.enc)) (Int.ofNat i) 8=some (Imp.enc x):=Qaj hx x.enc_len
  have hw:=Qas (n:=i) (by omega)
  rw[Qag hx]
  cases e1:eqZ x.k k with
  |false=>
   have hb:Qbt k x=false:=by simp only[Qbt,e1,Bool.false_and]
   rw[List.filter_cons_of_neg (by rw[hb];simp)]
   refine Qrf (k0:=k0) (k1:=k1) (k2:=e1) (k3:=?_) ..
   rw[hw]
   exact Qgd m k im hi h d (i+1) (by omega) out (by omega)
  |true=>
   cases e2:leZ (Int.ofNat 0) k with
   |false=>
    have hb:Qbt k x=false:=by simp only[Qbt,e2,Bool.and_false,Bool.false_and]
    rw[List.filter_cons_of_neg (by rw[hb];simp)]
    refine Qrg (k0:=k0) (k1:=k1) (k2:=e1) (k3:=e2) (k4:=?_) ..
    rw[hw]
    exact Qgd m k im hi h d (i+1) (by omega) out (by omega)
   |true=>
    cases e3:leZ k (Int.ofNat 3)with
    |false=>
     have hb:Qbt k x=false:=by simp only[Qbt,e3,Bool.and_false]
     rw[List.filter_cons_of_neg (by rw[hb];simp)]
     refine Qrh (k0:=k0) (k1:=k1) (k2:=e1) (k3:=e2) (k4:=e3) (k5:=?_) ..
     rw[hw]
     exact Qgd m k im hi h d (i+1) (by omega) out (by omega)
    |true=>
     have hb:Qbt k x=true:=by simp only[Qbt,e1,e2,e3,Bool.and_self]
     rw[List.filter_cons_of_pos hb]
     have k5:apL (.ow 8 (out.map Imp.enc)) 8 80 [Imp.enc x]=some (.ow 8 ((out++[x]).map Imp.enc)):=by
      rw[Qbn (QcA x.enc_len) (by simp;omega) (by decide),List.map_append]
      rfl
     refine Qri (k0:=k0) (k1:=k1) (k2:=e1) (k3:=e2) (k4:=e3) (k5:=k5) (k6:=?_) ..
     rw[hw,←QaJ out x ((im.drop (i+1)).filter (Qbt k))]
     exact Qgd m k im hi h d (i+1) (by omega) (out++[x]) (by simp;omega)
theorem t26 (m:Int){M:Mdl}(hM:Small M)(k:Int)(h:Heap):QbM m 76 [eM M,.v (.int .i64 k)] h=some (.v (.imm ((QcE M k).map Imp.enc)),h):=by
 refine Qcb rfl (by kernel_rfl) (by kernel_rfl) (QAG (k0:=?_) ..)
 have:=Qgd m k M.im hM.im h M.im.length 0 (by omega) [] (Nat.le_refl _)
 rw[List.drop_zero,List.nil_append]at this
 rw[List.length_map]
 exact this
theorem QcS {M:Mdl}(hM:Small M)(k:Int):(QcE M k).length≤200:=Nat.le_trans (List.length_filter_le _ _) hM.im
theorem t27 (m:Int)(M:Mdl)(k:Int)(h:Heap):QbM m 77 [eM M,.v (.int .i64 k)] h=some (.v (.int .i64 (Int.ofNat (Qkc M k))),h):=by
 refine Qcb rfl (by kernel_rfl) (by kernel_rfl) ?_
 unfold Qkc
 by_cases h0:k=0
 ·rw[if_pos h0]
  refine(QAF (k0:=QaC h0) ..).trans ?_
  rw[List.length_map]
 rw[if_neg h0]
 by_cases h1:k=1
 ·rw[if_pos h1]
  refine(QAE (k0:=Qaw h0) (k1:=QaC h1) ..).trans ?_
  rw[List.length_map]
 rw[if_neg h1]
 by_cases h2:k=2
 ·rw[if_pos h2]
  refine(QAD (k0:=Qaw h0) (k1:=Qaw h1) (k2:=QaC h2) ..).trans ?_
  rw[List.length_map]
 rw[if_neg h2]
 by_cases h3:k=3
 ·rw[if_pos h3]
  refine(QAC (k0:=Qaw h0) (k1:=Qaw h1) (k2:=Qaw h2) (k3:=QaC h3) ..).trans ?_
  rw[List.length_map]
 rw[if_neg h3]
 exact QAB (k0:=Qaw h0) (k1:=Qaw h1) (k2:=Qaw h2) (k3:=Qaw h3) ..
theorem t11 (m:Int){M:Mdl}(hM:Small M)(k:Int)(h:Heap):QbM m 36 [eM M,.v (.int .i64 k)] h=some (.v (.int .i64 (Int.ofNat ((QcE M k).length+Qkc M k))),h):=by
 refine Qcb rfl (by kernel_rfl) (by kernel_rfl) ((QAW (k0:=t26 m hM k h) (k1:=t27 m M k h) ..).trans ?_)
 have h1:=QcS hM k
 have h2:=hM.own k
 rw[List.length_map,Qcl (by unfold InZ;simp only[ofN];omega)]
 rfl
end Go.Proofs.YtoblgjmllmomhaaGreatDoor
namespace Go.Proofs.YtoblgjmllmomhaaGreatDoor
set_option maxRecDepth 100000
open Go Go.RowKit Go.Proofs.Am
theorem Qwl {l:List Int}{i:Nat}{z:Int}(h:l[i]? =some z):ixA (.imm (Qah l)) (Int.ofNat i) 1=some [.int .i64 z]:=Qaj (f:=fun x=>[AV.int .i64 x]) h rfl
theorem Qo6 (m:Int)(l:List Int)(hl:l.length<9223372036854775807)(h:Heap):∀(d i:Nat),i+d=l.length→
 blk (cxZ m) 40 (at_ Tryz.prog 40 4) [.v (.imm (Qah l)),.v (.imm (Qah l)),.v (.int .i64 (Int.ofNat i))] h=some (.v (.bool true),h)
 |0,i,hd=>Qrn (k0:=Qaf (by rw[Qac,ofN,ofN];omega)) ..
 |d+1,i,hd=>by
  have hlt:i<l.length:=by omega
  have k1:=Qwl (List.getElem?_eq_getElem hlt)
  refine Qro (k0:=Qae (by rw[Qac,ofN,ofN];omega)) (k1:=k1) (k2:=k1) (k3:=by rw[QaC rfl];rfl) (k4:=?_) ..
  rw[Qas (by omega)]
  exact Qo6 m l hl h d (i+1) (by omega)
def Qtq (M:Mdl):List Int:=(QcE M 0).map Imp.t++M.fu.map MFn.t
def Qex (M:Mdl)(t:Int):Option FTy:=bif ltZ t (Int.ofNat 0)then none else M.ty[t.toNat]?
def fT (M:Mdl)(i:Int):Option Int:=bif ltZ i (Int.ofNat 0)then none else(Qtq M)[i.toNat]?
def QhZ (M:Mdl)(t:Int):Int:=match Qex M t with|some _=>t|none=> -1
theorem Qkl {M:Mdl}{t:Int}(h:Qex M t=none):QhZ M t= -1:=by unfold QhZ;rw[h]
theorem Qkk {M:Mdl}{t:Int}{y:FTy}(h:Qex M t=some y):QhZ M t=t:=by unfold QhZ;rw[h]
def numOf (M:Mdl)(i:Int):Int:=match fT M i with|some t=>QhZ M t|none=> -1
theorem QkT {A:Type}{l:List A}{i:Int}{n:Nat}(hn:l.length=n)(h:leZ (Int.ofNat n) i=true):l[i.toNat]? =none:=by
 have:=(Qft h).2 rfl
 rw[ofN]at this
 rw[List.getElem?_eq_none]
 omega
theorem Qku {A:Type}{l:List A}{i:Int}{n:Nat}(hn:l.length=n)(h0:ltZ i (Int.ofNat 0)=false)(h:leZ (Int.ofNat n) i=false):∃x,l[i.toNat]? =some x∧0≤i:=by
 have h1:=Qft h
 have h2:=QnQ h0
 simp only[ofN,Bool.false_eq_true,iff_false]at h1 h2
 exact⟨_,List.getElem?_eq_getElem (by omega),by omega⟩
theorem Qco {M:Mdl}(hM:Small M){t:Int}{y:FTy}(h:Qex M t=some y):ltZ t (Int.ofNat 0)=false∧leZ (Int.ofNat (M.ty.map FTy.enc).length) t=false∧ixA (.imm (M.ty.map FTy.enc)) t 2=some y.enc∧y.Fit:=by
 unfold Qex at h
 cases h0:ltZ t (Int.ofNat 0)with
 |true=>rw[h0]at h;cases h
 |false=>
  rw[h0,cond_false]at h
  have h2:=QnQ h0
  simp only[ofN,Bool.false_eq_true,iff_false]at h2
  refine⟨rfl,?_,Qa3 (by omega) h y.enc_len,hM.fit.1.2 _ (List.mem_of_getElem? h)⟩
  have:=(List.getElem?_eq_some_iff.1 h).1
  exact Qcy (by rw[List.length_map,ofN];omega)
theorem QdR {M:Mdl}{t:Int}(h:Qex M t=none):ltZ t (Int.ofNat 0)=true∨(ltZ t (Int.ofNat 0)=false∧leZ (Int.ofNat (M.ty.map FTy.enc).length) t=true):=by
 unfold Qex at h
 cases h0:ltZ t (Int.ofNat 0)with
 |true=>exact .inl rfl
 |false=>
  refine .inr ⟨rfl,?_⟩
  rw[h0,cond_false,List.getElem?_eq_none_iff]at h
  have h2:=QnQ h0
  simp only[ofN,Bool.false_eq_true,iff_false]at h2
  exact Qbi (by rw[List.length_map,ofN];omega)
end Go.Proofs.YtoblgjmllmomhaaGreatDoor
namespace Go.Proofs.YtoblgjmllmomhaaGreatDoor
set_option maxRecDepth 100000
open Go Go.RowKit Go.Proofs.Am
theorem QwU (m:Int)(l:List Ins)(hl:FitL 120 FitZ l):∃q:Bool,∀h,QbM m 26 [.v (.imm (Qam l))] h=some (.v (.bool q),h):=by
 obtain⟨n,d,hc⟩:=Qw7 m l (hl.len (by decide)) fun x hx=>(hl.2 x hx).fit
 exact⟨_,fun h=>Qcb rfl (by kernel_rfl) (by kernel_rfl) (QAI (k0:=hc h) ..)⟩
theorem Qfm (m:Int)(x:Ins)(h:Heap):QbM m 27 [.v (.agg (Qbx x))] h=some (.v (.imm (Qam [x])),h):=by
 obtain⟨o,a,b,v,t,l,bd,el,q⟩:=x
 exact Qcb rfl (by kernel_rfl) (by kernel_rfl) (QAH ..)
theorem Qsr (m:Int){x:Ins}(hx:FitZ x):∃q:Bool,∀h,QbM m 26 [.v (.imm (Qam [x]))] h=some (.v (.bool q),h):=
 QwU m [x] ⟨Nat.le_of_ble_eq_true (show Nat.ble (1*120) reachBytes=true from rfl),fun y hy=>by rw[List.mem_singleton]at hy;rw[hy];exact hx⟩
abbrev S10 (M:Mdl)(q:Bool)(i:Nat):List LV:=[.lp 0 0,.v (.bool q),.v (.int .i64 (Int.ofNat i)),.v (.imm (M.ty.map FTy.enc)),.v (.imm (M.im.map Imp.enc)),.v (.imm (M.fu.map MFn.enc)),.v (.imm (M.ta.map Lim.enc)),.v (.imm (M.me.map Lim.enc)),.v (.imm (M.gl.map Glo.enc)),.v (.imm (M.ex.map Exq.enc)),.v (.int .i64 M.st),.v (.imm (M.el.map Ele.enc)),.v (.imm (M.da.map Dat.enc)),.v (.imm (M.cu.map Cus.enc))]
noncomputable abbrev B10 (m:Int)(r:Nat)(M:Mdl)(q:Bool)(i:Nat)(h:Heap):=blk (cxZ m) 14 (at_ Tryz.prog 14 r) (S10 M q i) h
def L10 (m:Int)(r:Nat)(M:Mdl)(q:Bool)(i:Nat):Prop:=∃q':Bool,(q=false→q'=false)∧∀h,B10 m r M q i h=some (.v (.bool q'),h)
theorem L10.le {m:Int}{r r':Nat}{M:Mdl}{q q1:Bool}{i i':Nat}(h:L10 m r M q i)(hq:q1=false→q=false)(hb:∀h x,B10 m r M q i h=some x→B10 m r' M q1 i' h=some x):L10 m r' M q1 i':=by
 obtain⟨q',h1,h2⟩:=h
 exact⟨q',fun e=>h1 (hq e),fun h=>hb h _ (h2 h)⟩
theorem QcN (m:Int){M:Mdl}(hM:M.Fit):∀(d i:Nat),i+d=M.da.length→∀q:Bool,L10 m 15 M q i
 |0,i,hd,q=>⟨q,id,fun h=>Qnx (k0:=Qaf (by rw[List.length_map,ofN,ofN];omega)) ..⟩
 |d+1,i,hd,false=>⟨false,id,fun h=>Qny (k0:=Qae (by rw[List.length_map,ofN,ofN];omega)) (k1:=rfl) ..⟩
 |d+1,i,hd,true=>by
  have hlt:i<M.da.length:=by omega
  have hx:M.da[i]? =some M.da[i]:=List.getElem?_eq_getElem hlt
  generalize M.da[i]=x at hx
  have hf:=hM.2.2.2.2.2.2.2.2.2.1.2 x (List.mem_of_getElem? hx)
  have hb:=hM.2.2.2.2.2.2.2.2.2.1.1
  have hr:reachBytes=140737488351232:=rfl
  have k0:ltZ (Int.ofNat i) (Int.ofNat (M.da.map Dat.enc).length)=true:=Qae (by rw[List.length_map,ofN,ofN];omega)
  have kx:ixA (.imm (M.da.map Dat.enc)) (Int.ofNat i) 10=some x.enc:=Qaj hx x.enc_len
  have hw:=Qas (n:=i) (by omega)
  obtain⟨gi,gf⟩:=x
  obtain⟨q2,hq2⟩:=Qsr m hf.1
  have c25:=Qfm m gi
  obtain⟨o,a,b,v,t,l,bd,el,qq⟩:=gi
  cases q2 with
  |true=>exact(QcN m hM d (i+1) (by omega) _).le (fun e=>by cases e) fun h y hy=>QnA (k0:=k0) (k1:=rfl) (k2:=kx) (k3:=c25 h) (k4:=hq2 h) (k5:=rfl) (k6:=kx) (k7:=by rw[hw];exact hy) ..
  |false=>exact(QcN m hM d (i+1) (by omega) _).le (fun e=>by cases e) fun h y hy=>Qnz (k0:=k0) (k1:=rfl) (k2:=kx) (k3:=c25 h) (k4:=hq2 h) (k5:=rfl) (k6:=by rw[hw];exact hy) ..
theorem QcO (m:Int){M:Mdl}(hM:M.Fit):∀(d i:Nat),i+d=M.el.length→∀q:Bool,L10 m 11 M q i
 |0,i,hd,q=>(QcN m hM M.da.length 0 (by omega) q).le id fun h x hx=>QnB (k0:=Qaf (by rw[List.length_map,ofN,ofN];omega)) (k1:=hx) ..
 |d+1,i,hd,false=>(QcN m hM M.da.length 0 (by omega) false).le id fun h x hx=>QnC (k0:=Qae (by rw[List.length_map,ofN,ofN];omega)) (k1:=rfl) (k2:=hx) ..
 |d+1,i,hd,true=>by
  have hlt:i<M.el.length:=by omega
  have hx:M.el[i]? =some M.el[i]:=List.getElem?_eq_getElem hlt
  generalize M.el[i]=x at hx
  have hf:=hM.2.2.2.2.2.2.2.2.1.2 x (List.mem_of_getElem? hx)
  have hb:=hM.2.2.2.2.2.2.2.2.1.1
  have hr:reachBytes=140737488351232:=rfl
  have k0:ltZ (Int.ofNat i) (Int.ofNat (M.el.map Ele.enc).length)=true:=Qae (by rw[List.length_map,ofN,ofN];omega)
  have kx:ixA (.imm (M.el.map Ele.enc)) (Int.ofNat i) 10=some x.enc:=Qaj hx x.enc_len
  have hw:=Qas (n:=i) (by omega)
  obtain⟨gi,gf⟩:=x
  obtain⟨q2,hq2⟩:=Qsr m hf.1
  have c25:=Qfm m gi
  obtain⟨o,a,b,v,t,l,bd,el,qq⟩:=gi
  cases q2 with
  |true=>exact(QcO m hM d (i+1) (by omega) _).le (fun e=>by cases e) fun h y hy=>QnE (k0:=k0) (k1:=rfl) (k2:=kx) (k3:=c25 h) (k4:=hq2 h) (k5:=rfl) (k6:=kx) (k7:=by rw[hw];exact hy) ..
  |false=>exact(QcO m hM d (i+1) (by omega) _).le (fun e=>by cases e) fun h y hy=>QnD (k0:=k0) (k1:=rfl) (k2:=kx) (k3:=c25 h) (k4:=hq2 h) (k5:=rfl) (k6:=by rw[hw];exact hy) ..
theorem Qfr (m:Int){M:Mdl}(hM:M.Fit):∀(d i:Nat),i+d=M.gl.length→∀q:Bool,L10 m 7 M q i
 |0,i,hd,q=>(QcO m hM M.el.length 0 (by omega) q).le id fun h x hx=>Qrp (k0:=Qaf (by rw[List.length_map,ofN,ofN];omega)) (k1:=hx) ..
 |d+1,i,hd,false=>(QcO m hM M.el.length 0 (by omega) false).le id fun h x hx=>Qrq (k0:=Qae (by rw[List.length_map,ofN,ofN];omega)) (k1:=rfl) (k2:=hx) ..
 |d+1,i,hd,true=>by
  have hlt:i<M.gl.length:=by omega
  have hx:M.gl[i]? =some M.gl[i]:=List.getElem?_eq_getElem hlt
  generalize M.gl[i]=x at hx
  have hf:=hM.2.2.2.2.2.1.2 x (List.mem_of_getElem? hx)
  have hb:=hM.2.2.2.2.2.1.1
  have hr:reachBytes=140737488351232:=rfl
  have k0:ltZ (Int.ofNat i) (Int.ofNat (M.gl.map Glo.enc).length)=true:=Qae (by rw[List.length_map,ofN,ofN];omega)
  have kx:ixA (.imm (M.gl.map Glo.enc)) (Int.ofNat i) 11=some x.enc:=Qaj hx x.enc_len
  have hw:=Qas (n:=i) (by omega)
  obtain⟨gt,gm,gi⟩:=x
  obtain⟨q2,hq2⟩:=Qsr m hf.2
  have c25:=Qfm m gi
  obtain⟨o,a,b,v,t,l,bd,el,qq⟩:=gi
  exact(Qfr m hM d (i+1) (by omega) q2).le (fun e=>by cases e) fun h y hy=>Qrr (k0:=k0) (k1:=rfl) (k2:=kx) (k3:=c25 h) (k4:=hq2 h) (k5:=by rw[hw];exact hy) ..
def Qmd (M:Mdl):Prop:=∀x,x∈M.fu→x.l.length≤1000
theorem Qfs (m:Int){M:Mdl}(hM:M.Fit):∀(d i:Nat),i+d=M.fu.length→∀q:Bool,∃q':Bool,(q=false→q'=false)∧(q'=true→∀x,x∈M.fu.drop i→x.l.length≤1000)∧∀h,B10 m 3 M q i h=some (.v (.bool q'),h)
 |0,i,hd,q=>by
  obtain⟨q',h1,h2⟩:=Qfr m hM M.gl.length 0 (by omega) q
  refine⟨q',h1,fun _ x hx=>?_,fun h=>Qrs (k0:=Qaf (by rw[List.length_map,ofN,ofN];omega)) (k1:=h2 h) ..⟩
  rw[List.drop_eq_nil_of_le (by omega)]at hx
  cases hx
 |d+1,i,hd,false=>by
  obtain⟨q',h1,h2⟩:=Qfr m hM M.gl.length 0 (by omega) false
  exact⟨q',h1,fun e=>(by rw[h1 rfl]at e;cases e),fun h=>Qrt (k0:=Qae (by rw[List.length_map,ofN,ofN];omega)) (k1:=rfl) (k2:=h2 h) ..⟩
 |d+1,i,hd,true=>by
  have hlt:i<M.fu.length:=by omega
  have hx:M.fu[i]? =some M.fu[i]:=List.getElem?_eq_getElem hlt
  have hdr:=Qag hx
  generalize M.fu[i]=x at hx hdr
  have hf:=hM.2.2.1.2 x (List.mem_of_getElem? hx)
  have hb:=hM.2.2.1.1
  have hr:reachBytes=140737488351232:=rfl
  have k0:ltZ (Int.ofNat i) (Int.ofNat (M.fu.map MFn.enc).length)=true:=Qae (by rw[List.length_map,ofN,ofN];omega)
  have kx:ixA (.imm (M.fu.map MFn.enc)) (Int.ofNat i) 3=some x.enc:=Qaj hx x.enc_len
  have hw:=Qas (n:=i) (by omega)
  obtain⟨q2,hq2⟩:=QwU m x.b hf.2.2
  cases q2 with
  |true=>
   obtain⟨q',h1,h3,h2⟩:=Qfs m hM d (i+1) (by omega) (leZ (Int.ofNat (Qah x.l).length) (Int.ofNat 1000))
   refine⟨q',fun e=>(by cases e),fun e y hy=>?_,fun h=>Qrv (k0:=k0) (k1:=rfl) (k2:=kx) (k3:=hq2 h) (k4:=rfl) (k5:=kx) (k6:=by rw[hw];exact h2 h) ..⟩
   rw[hdr,List.mem_cons]at hy
   rcases hy with rfl|hy
   ·cases e1:leZ (Int.ofNat (Qah y.l).length) (Int.ofNat 1000)with
    |false=>rw[h1 e1]at e;cases e
    |true=>
     have:=(Qft e1).2 rfl
     rw[Qac,ofN,ofN]at this
     omega
   ·exact h3 e y hy
  |false=>
   obtain⟨q',h1,h3,h2⟩:=Qfs m hM d (i+1) (by omega) false
   exact⟨q',fun e=>(by cases e),fun e=>(by rw[h1 rfl]at e;cases e),fun h=>Qru (k0:=k0) (k1:=rfl) (k2:=kx) (k3:=hq2 h) (k4:=rfl) (k5:=by rw[hw];exact h2 h) ..⟩
theorem t10 (m:Int){M:Mdl}(hM:M.Fit):∃q:Bool,(q=true→Small M∧Qmd M)∧∀h,QbM m 14 [eM M] h=some (.v (.bool q),h):=by
 have lp:=fun q=>Qfs m hM M.fu.length 0 (by omega) q
 have fin:∀(q0:Bool),(q0=true→Small M)→(∀h x,B10 m 3 M q0 0 h=some x→blk (cxZ m) 14 (QaE Tryz.prog 14) [eM M] h=some x)→∃q:Bool,(q=true→Small M∧Qmd M)∧∀h,QbM m 14 [eM M] h=some (.v (.bool q),h):=by
  intro q0 h0 hb
  obtain⟨q',h1,h3,h2⟩:=lp q0
  refine⟨q',fun e=>?_,fun h=>Qcb rfl (by kernel_rfl) (by kernel_rfl) (hb h _ (h2 h))⟩
  cases q0 with
  |true=>exact⟨h0 rfl,fun x hx=>h3 e x hx⟩
  |false=>rw[h1 rfl]at e;cases e
 cases e0:leZ (Int.ofNat (M.ty.map FTy.enc).length) (Int.ofNat 200)with
 |false=>exact fin false (fun e=>by cases e) fun h x hx=>QAX (k0:=e0) (k1:=hx) ..
 |true=>
  cases e1:leZ (Int.ofNat (M.im.map Imp.enc).length) (Int.ofNat 200)with
  |false=>exact fin false (fun e=>by cases e) fun h x hx=>QAY (k0:=e0) (k1:=e1) (k2:=hx) ..
  |true=>
   cases e2:leZ (Int.ofNat (M.fu.map MFn.enc).length) (Int.ofNat 200)with
   |false=>exact fin false (fun e=>by cases e) fun h x hx=>QAZ (k0:=e0) (k1:=e1) (k2:=e2) (k3:=hx) ..
   |true=>
    cases e3:leZ (Int.ofNat (M.gl.map Glo.enc).length) (Int.ofNat 200)with
    |false=>exact fin false (fun e=>by cases e) fun h x hx=>QA0 (k0:=e0) (k1:=e1) (k2:=e2) (k3:=e3) (k4:=hx) ..
    |true=>
     cases e4:leZ (Int.ofNat (M.ex.map Exq.enc).length) (Int.ofNat 200)with
     |false=>exact fin false (fun e=>by cases e) fun h x hx=>QA1 (k0:=e0) (k1:=e1) (k2:=e2) (k3:=e3) (k4:=e4) (k5:=hx) ..
     |true=>
      cases e5:leZ (Int.ofNat (M.el.map Ele.enc).length) (Int.ofNat 200)with
      |false=>exact fin false (fun e=>by cases e) fun h x hx=>QA2 (k0:=e0) (k1:=e1) (k2:=e2) (k3:=e3) (k4:=e4) (k5:=e5) (k6:=hx) ..
      |true=>
       cases e6:leZ (Int.ofNat (M.da.map Dat.enc).length) (Int.ofNat 200)with
       |false=>exact fin false (fun e=>by cases e) fun h x hx=>QA3 (k0:=e0) (k1:=e1) (k2:=e2) (k3:=e3) (k4:=e4) (k5:=e5) (k6:=e6) (k7:=hx) ..
       |true=>
        refine fin (leZ (Int.ofNat (M.cu.map Cus.enc).length) (Int.ofNat 200)) (fun e=>?_) fun h x hx=>QA4 (k0:=e0) (k1:=e1) (k2:=e2) (k3:=e3) (k4:=e4) (k5:=e5) (k6:=e6) (k7:=hx) ..
        have a:=(Qft e0).2 rfl
        have b:=(Qft e1).2 rfl
        have c:=(Qft e2).2 rfl
        have d:=(Qft e3).2 rfl
        simp only[List.length_map,ofN]at a b c d
        exact⟨hM,by omega,by omega,by omega,by omega⟩
end Go.Proofs.YtoblgjmllmomhaaGreatDoor
namespace Go.Proofs.YtoblgjmllmomhaaGreatDoor
set_option maxRecDepth 100000
open Go Go.RowKit Go.Proofs.Am
theorem QwT (l:List Int):QbW 1 (Qah l)=true:=by cases l<;>rfl
theorem QlX {out ys:List Int}(h:(out.length+ys.length)*8≤140737488359232):apL (.ow 1 (Qah out)) 1 8 (Qah ys)=some (.ow 1 (Qah (out++ys))):=by
 have h1:QaU ((Qah out).length+(Qah ys).length) 8=true:=by
  unfold QaU
  rw[Qac,Qac,Bool.and_eq_true,Bool.or_eq_true]
  exact⟨.inr (Nat.ble_eq_true_of_le (by omega)),rfl⟩
 simp only[apL,Nat.beq_refl,QwT,h1,Bool.and_self,cond_true,QfE]
theorem QkG (m:Int)(n:Nat)(hn:n*8≤281474976710656)(h:Heap):Qab (cxZ m) (blk (cxZ m)) 78 [.v .nilS,.v (.int .i64 (Int.ofNat n))] h=some (.ow 1 (Qah []),h):=by
 refine Qcc (e:=Qi1) rfl rfl (x:=.ow 1 []) ?_
 have h0:(0:Int)≤Int.ofNat n:=Int.natCast_nonneg n
 have h1:Nat.ble ((Int.ofNat n).toNat*8) 281474976710656=true:=Nat.ble_eq_true_of_le hn
 simp only[Qi1,decide_eq_true h0,h1,Bool.and_self,cond_true]
theorem QCS (m:Int)(p l:List Int)(hp:p.length*8≤140737488351232)(hl:l.length≤1000)(h:Heap):QbM m 39 [.v (.imm [[.imm (Qah p)],[.imm (Qah l)]])] h=some (.v (.imm (Qah (p++l))),h):=by
 have e1:IntKind.wrap .i64 (Int.ofNat 0+Int.ofNat (Qah p).length)=Int.ofNat p.length:=by
  rw[Qac,Qcl (by unfold InZ;simp only[ofN];omega)]
  simp only[ofN];omega
 have e2:IntKind.wrap .i64 (Int.ofNat p.length+Int.ofNat (Qah l).length)=Int.ofNat (p.length+l.length):=by
  rw[Qac,Qcl (by unfold InZ;simp only[ofN];omega)]
  simp only[ofN];omega
 have a1:apL (.ow 1 (Qah [])) 1 8 (Qah p)=some (.ow 1 (Qah p)):=QlX (out:=[]) (by simp only[List.length_nil];omega)
 have a2:apL (.ow 1 (Qah p)) 1 8 (Qah l)=some (.ow 1 (Qah (p++l))):=QlX (by omega)
 refine Qcb rfl (by kernel_rfl) (by kernel_rfl) (Qx5 (k0:=Qjz (k0:=?_) (k1:=?_) ..) ..)
 ·rw[e1];exact Qaf (Int.natCast_nonneg _)
 ·rw[e1]
  refine Qjy (k0:=?_) (k1:=?_) ..
  ·rw[e2];exact Qaf (Int.natCast_nonneg _)
  ·rw[e2]
   exact Qjx (k0:=QkG m _ (by omega) h) (k1:=QiO (k0:=a1) (k1:=QiN (k0:=a2) (k1:=QiM ..) ..) ..) ..
def gv (x:Int×Bool):List AV:=
 [.int .i64 x.1,.bool x.2,.int .i64 (Int.ofNat 0),.int .i64 (Int.ofNat 0),.int .i64 (Int.ofNat 0),.int .u64 (Int.ofNat 0),.int .i64 (Int.ofNat 0),.imm [],.imm [],.imm [],.bool false]
theorem Qpb (x:Int×Bool):(gv x).length=11:=rfl
def gI (x:Imp):Int×Bool:=(x.t,x.mu)
def gG (x:Glo):Int×Bool:=(x.t,x.mu)
def gS (M:Mdl):List (Int×Bool):=(QcE M 3).map gI++M.gl.map gG
def fS (M:Mdl):List Int:=(Qtq M).map (QhZ M)
def bT (M:Mdl)(k:Int):Bool:=ltZ (Int.ofNat 0) (Int.ofNat ((QcE M k).length+Qkc M k))
def QA7 (y:FTy):Int:=match y.r with|[]=>Int.ofNat 0|z::_=>z
abbrev scL (M:Mdl)(tys fns gls:List (List AV))(lo:List Int)(r:Int):List AV:=[.imm tys,.imm fns,.imm gls,.bool (bT M 1),.bool (bT M 2),.imm (Qah lo),.int .i64 r]
def scM (M:Mdl)(g:MFn)(y:FTy):List AV:=scL M (M.ty.map FTy.enc) (Qah (fS M)) ((gS M).map gv) (y.p++g.l) (QA7 y)
theorem Qxt {out:List (Int×Bool)}{x:Int×Bool}(h:out.length≤1000):apL (.ow 11 (out.map gv)) 11 136 [gv x]=some (.ow 11 ((out++[x]).map gv)):=by
 rw[Qbn (QcA (Qpb x)) (by simp;omega) (by decide),List.map_append]
 rfl
end Go.Proofs.YtoblgjmllmomhaaGreatDoor
namespace Go.Proofs.YtoblgjmllmomhaaGreatDoor
set_option maxRecDepth 100000
open Go Go.RowKit Go.Proofs.Am
abbrev mC (M:Mdl):List LV:=[.v (.imm (M.ty.map FTy.enc)),.v (.imm (M.im.map Imp.enc)),.v (.imm (M.fu.map MFn.enc)),.v (.imm (M.ta.map Lim.enc)),.v (.imm (M.me.map Lim.enc)),.v (.imm (M.gl.map Glo.enc)),.v (.imm (M.ex.map Exq.enc)),.v (.int .i64 M.st),.v (.imm (M.el.map Ele.enc)),.v (.imm (M.da.map Dat.enc)),.v (.imm (M.cu.map Cus.enc))]
abbrev HP (M:Mdl)(tys:List FTy)(fns:List Int)(gls:List (Int×Bool)):Heap:=
 Heap.mk [mC M,[.ow 2 (tys.map FTy.enc),.ow 1 (Qah fns),.ow 11 (gls.map gv),.v (.bool (bT M 1)),.v (.bool (bT M 2)),.ow 1 [],.v (.int .i64 (Int.ofNat 0))]] []
abbrev Z7:List LV:=[.ow 2 [],.ow 1 [],.ow 11 [],.v (.bool false),.v (.bool false),.ow 1 [],.v (.int .i64 (Int.ofNat 0))]
abbrev K6 (f:Int):List LV:=[.v (.int .i64 f),.v (.ptr 0 0),.lp 0 0,.v (.ptr 1 0)]
abbrev FN:LV:=.v (.fn 38 [] [.ptr 0 0,.ptr 1 0])
abbrev L6 (xs:List (List AV))(i:Nat):List LV:=[.v (.imm xs),.v (.int .i64 (Int.ofNat xs.length)),.v (.int .i64 (Int.ofNat i))]++Z7
abbrev scT (M:Mdl)(g:MFn)(y:FTy)(tys:List FTy)(fns:List Int)(gls:List (Int×Bool)):LV:=
 .tup [.agg (scL M (tys.map FTy.enc) (Qah fns) (gls.map gv) (y.p++g.l) (QA7 y)),.nilI]
structure Fn (M:Mdl) (f:Int) (g:MFn) (y:FTy):Prop where
 sm:Small M
 loc:Qmd M
 nn:0≤f
 get:M.fu[f.toNat]? =some g
 ty:Qex M g.t=some y
section
variable {M:Mdl} {f:Int} {g:MFn} {y:FTy}
theorem Fn.ixg (h:Fn M f g y):ixA (.imm (M.fu.map MFn.enc)) f 3=some g.enc:=Qa3 h.nn h.get g.enc_len
theorem Fn.hl (h:Fn M f g y):g.l.length≤1000:=h.loc g (List.mem_of_getElem? h.get)
theorem Fn.hp (h:Fn M f g y):y.p.length*8≤140737488351232:=(Qco h.sm h.ty).2.2.2.1.1
theorem Fn.hr (h:Fn M f g y):y.r.length*8≤140737488351232:=(Qco h.sm h.ty).2.2.2.2.1
theorem Qh9 (m:Int)(hF:Fn M f g y)(tys:List FTy)(fns:List Int):∀(d i:Nat),i+d=M.gl.length→∀out:List (Int×Bool),out.length≤200+i→
 ∃h',blk (cxZ m) 17 (at_ Tryz.prog 17 25) (K6 f++L6 (M.gl.map Glo.enc) i) (HP M tys fns out)=some (scT M g y tys fns (out++(M.gl.drop i).map gG),h')
 |0,i,hd,out,ho=>by
  rw[List.drop_eq_nil_of_le (by omega),List.map_nil,List.append_nil]
  have k0:ltZ (Int.ofNat i) (Int.ofNat (M.gl.map Glo.enc).length)=false:=Qaf (by rw[List.length_map,ofN,ofN];omega)
  have kg:=hF.ixg
  have ky:=(Qco hF.sm hF.ty).2.2.1
  have kc:=QCS m y.p g.l hF.hp hF.hl Heap.nil
  have kn:Qbw [LV.v (AV.imm [[AV.imm (Qah y.p)],[AV.imm (Qah g.l)]])]=true:=by
   simp only[Qbw,LV.np,AV.np,Qh1,npL,Qa6,Bool.and_self]
  have kr:LV.np (LV.v (AV.imm (Qah (y.p++g.l))))=true:=by simp only[LV.np,AV.np,Qa6]
  obtain⟨p,r⟩:=y
  cases r with
  |nil=>exact⟨_,Qpz (k0:=k0) (k1:=kg) (k2:=ky) (k3:=kg) (k4:=kn) (k5:=kc) (k6:=kr) (k7:=rfl) ..⟩
  |cons z r=>exact⟨_,QpA (k0:=k0) (k1:=kg) (k2:=ky) (k3:=kg) (k4:=kn) (k5:=kc) (k6:=kr) (k7:=rfl) (k8:=rfl) ..⟩
 |d+1,i,hd,out,ho=>by
  have hgl:=hF.sm.gl
  have hlt:i<M.gl.length:=by omega
  have hx:M.gl[i]? =some M.gl[i]:=List.getElem?_eq_getElem hlt
  generalize M.gl[i]=x at hx
  have k0:ltZ (Int.ofNat i) (Int.ofNat (M.gl.map Glo.enc).length)=true:=Qae (by rw[List.length_map,ofN,ofN];omega)
  have k1:ixA (.imm (M.gl.map Glo.enc)) (Int.ofNat i) 11=some x.enc:=Qaj hx x.enc_len
  have k2:=Qxt (out:=out) (x:=gG x) (by omega)
  have hw:=Qas (n:=i) (by omega)
  obtain⟨h',ih⟩:=Qh9 m hF tys fns d (i+1) (by omega) (out++[gG x]) (by simp;omega)
  rw[Qag hx,List.map_cons,←QaJ out (gG x) ((M.gl.drop (i+1)).map gG)]
  obtain⟨t,q,⟨o,a,b,v,tt,l,bd,el,qq⟩⟩:=x
  exact⟨h',QpB (k0:=k0) (k1:=k1) (k2:=k2) (k3:=by rw[hw];exact ih) ..⟩
theorem QCA (m:Int){M:Mdl}(hM:Small M)(tys:List FTy)(fns:List Int)(gls:List (Int×Bool))(t:Int)(hl:fns.length≤1000):
 QaK (cxZ m) (blk (cxZ m)) (.fn 38 [] [.ptr 0 0,.ptr 1 0]) [.v (.int .i64 t)] (HP M tys fns gls)=some (.tup [],HP M tys (fns++[QhZ M t]) gls):=by
 have e:QaK (cxZ m) (blk (cxZ m)) (.fn 38 [] [.ptr 0 0,.ptr 1 0]) [.v (.int .i64 t)] (HP M tys fns gls)=Qab (cxZ m) (blk (cxZ m)) 38 [.v (.int .i64 t),.v (.ptr 0 0),.v (.ptr 1 0)] (HP M tys fns gls):=rfl
 rw[e]
 refine Qcb rfl (by kernel_rfl) (by kernel_rfl) ?_
 have ka:∀z:Int,apL (.ow 1 (Qah fns)) 1 8 [[.int .i64 z]]=some (.ow 1 (Qah (fns++[z]))):=fun z=>Qxs (by omega)
 cases hy:Qex M t with
 |none=>
  rw[Qkl hy]
  rcases QdR hy with e1|⟨e1,e2⟩
  ·exact Qx8 (k0:=e1) (k1:=ka (Int.negSucc 0)) ..
  ·exact Qx7 (k0:=e1) (k1:=e2) (k2:=ka (Int.negSucc 0)) ..
 |some y=>
  rw[Qkk hy]
  obtain⟨e1,e2,_⟩:=Qco hM hy
  exact Qx6 (k0:=e1) (k1:=e2) (k2:=ka t) ..
theorem Qia (m:Int)(hF:Fn M f g y)(tys:List FTy)(gls:List (Int×Bool))(hg:gls.length≤200):∀(d i:Nat),i+d=M.fu.length→∀out:List Int,out.length≤200+i→
 ∃h',blk (cxZ m) 17 (at_ Tryz.prog 17 20) (K6 f++FN::L6 (M.fu.map MFn.enc) i) (HP M tys out gls)=some (scT M g y tys (out++((M.fu.drop i).map MFn.t).map (QhZ M)) (gls++M.gl.map gG),h')
 |0,i,hd,out,ho=>by
  rw[List.drop_eq_nil_of_le (by omega),List.map_nil,List.map_nil,List.append_nil]
  obtain⟨h',ih⟩:=Qh9 m hF tys out M.gl.length 0 (by omega) gls (by omega)
  rw[List.drop_zero]at ih
  exact⟨h',QpC (k0:=Qaf (by rw[List.length_map,ofN,ofN];omega)) (k1:=ih) ..⟩
 |d+1,i,hd,out,ho=>by
  have hfu:=hF.sm.fu
  have hlt:i<M.fu.length:=by omega
  have hx:M.fu[i]? =some M.fu[i]:=List.getElem?_eq_getElem hlt
  generalize M.fu[i]=x at hx
  have k0:ltZ (Int.ofNat i) (Int.ofNat (M.fu.map MFn.enc).length)=true:=Qae (by rw[List.length_map,ofN,ofN];omega)
  have k1:ixA (.imm (M.fu.map MFn.enc)) (Int.ofNat i) 3=some x.enc:=Qaj hx x.enc_len
  have k2:=QCA m hF.sm tys out gls x.t (by omega)
  have hw:=Qas (n:=i) (by omega)
  obtain⟨h',ih⟩:=Qia m hF tys gls hg d (i+1) (by omega) (out++[QhZ M x.t]) (by simp;omega)
  rw[Qag hx,List.map_cons,List.map_cons,←QaJ out (QhZ M x.t) (((M.fu.drop (i+1)).map MFn.t).map (QhZ M))]
  exact⟨h',QpD (k0:=k0) (k1:=k1) (k2:=k2) (k3:=by rw[hw];exact ih) ..⟩
end
end Go.Proofs.YtoblgjmllmomhaaGreatDoor
namespace Go.Proofs.YtoblgjmllmomhaaGreatDoor
set_option maxRecDepth 100000
open Go Go.RowKit Go.Proofs.Am
section
variable {M:Mdl} {f:Int} {g:MFn} {y:FTy}
theorem Qlp (a:Int)(l r:List Int):a::l++r=a::(l++r):=rfl
theorem Qlq (a:Int×Bool)(l r:List (Int×Bool)):a::l++r=a::(l++r):=rfl
theorem Qib (m:Int)(hF:Fn M f g y)(tys:List FTy):∀(d i:Nat),i+d=M.im.length→∀(oF:List Int) (oG:List (Int×Bool)),oF.length≤i→oG.length≤i→
 ∃h',blk (cxZ m) 17 (at_ Tryz.prog 17 11) (K6 f++FN::L6 (M.im.map Imp.enc) i) (HP M tys oF oG)=
  some (scT M g y tys (oF++(((M.im.drop i).filter (Qbt 0)).map Imp.t++M.fu.map MFn.t).map (QhZ M)) (oG++(((M.im.drop i).filter (Qbt 3)).map gI++M.gl.map gG)),h')
 |0,i,hd,oF,oG,h1,h2=>by
  have him:=hF.sm.im
  rw[List.drop_eq_nil_of_le (by omega),List.filter_nil,List.filter_nil,List.map_nil,List.map_nil,List.nil_append,List.nil_append]
  obtain⟨h',ih⟩:=Qia m hF tys oG (by omega) M.fu.length 0 (by omega) oF (by omega)
  rw[List.drop_zero]at ih
  exact⟨h',QpE (k0:=Qaf (by rw[List.length_map,ofN,ofN];omega)) (k1:=ih) ..⟩
 |d+1,i,hd,oF,oG,h1,h2=>by
  have him:=hF.sm.im
  have hlt:i<M.im.length:=by omega
  have hx:M.im[i]? =some M.im[i]:=List.getElem?_eq_getElem hlt
  generalize M.im[i]=x at hx
  have k0:ltZ (Int.ofNat i) (Int.ofNat (M.im.map Imp.enc).length)=true:=Qae (by rw[List.length_map,ofN,ofN];omega)
  have k1:ixA (.imm (M.im.map Imp.enc)) (Int.ofNat i) 8=some x.enc:=Qaj hx x.enc_len
  have hw:=Qas (n:=i) (by omega)
  have ih:=Qib m hF tys d (i+1) (by omega)
  rw[Qag hx]
  cases e0:eqZ x.k (Int.ofNat 0)with
  |true=>
   have hk:x.k=0:=(QsD e0).2 rfl
   have b0:Qbt 0 x=true:=by simp only[Qbt,QaC hk];rfl
   have b3:Qbt 3 x=false:=by simp only[Qbt,Qaw (show x.k≠3 by omega),Bool.false_and]
   rw[List.filter_cons_of_pos b0,List.filter_cons_of_neg (by rw[b3];simp),List.map_cons,Qlp,List.map_cons,←QaJ oF (QhZ M x.t)]
   obtain⟨h',ih⟩:=ih (oF++[QhZ M x.t]) oG (by simp;omega) (by omega)
   exact⟨h',QpH (k0:=k0) (k1:=k1) (k2:=e0) (k3:=QCA m hF.sm tys oF oG x.t (by omega)) (k4:=by rw[hw];exact ih) ..⟩
  |false=>
   have hk:x.k≠0:=fun h=>by rw[QaC (show x.k=Int.ofNat 0 from h)]at e0;cases e0
   have b0:Qbt 0 x=false:=by simp only[Qbt,Qaw hk,Bool.false_and]
   rw[List.filter_cons_of_neg (by rw[b0];simp)]
   cases e3:eqZ x.k (Int.ofNat 3)with
   |true=>
    have hk3:x.k=3:=(QsD e3).2 rfl
    have b3:Qbt 3 x=true:=by simp only[Qbt,QaC hk3];rfl
    rw[List.filter_cons_of_pos b3,List.map_cons,Qlq,←QaJ oG (gI x)]
    obtain⟨h',ih⟩:=ih oF (oG++[gI x]) (by omega) (by simp;omega)
    exact⟨h',QpG (k0:=k0) (k1:=k1) (k2:=e0) (k3:=e3) (k4:=Qxt (out:=oG) (x:=gI x) (by omega)) (k5:=by rw[hw];exact ih) ..⟩
   |false=>
    have b3:Qbt 3 x=false:=by simp only[Qbt,show eqZ x.k 3=false from e3,Bool.false_and]
    rw[List.filter_cons_of_neg (by rw[b3];simp)]
    obtain⟨h',ih⟩:=ih oF oG (by omega) (by omega)
    exact⟨h',QpF (k0:=k0) (k1:=k1) (k2:=e0) (k3:=e3) (k4:=by rw[hw];exact ih) ..⟩
theorem QCi (m:Int)(l:List Int)(hl:l.length*8≤140737488351232)(h:Heap):QbM m 37 [.v (.imm (Qah l))] h=some (.v (.imm (Qah l)),h):=by
 have hb:(Qcz (Qah l)&&Nat.ble ((Qah l).length*8) 140737488355328)=true:=by
  rw[Bool.and_eq_true]
  refine⟨?_,Nat.ble_eq_true_of_le (by rw[Qac];omega)⟩
  unfold Qcz Qah
  rw[List.all_map]
  exact List.all_eq_true.2 fun _ _=>rfl
 refine(Qcc (e:=QdB) rfl rfl (x:=.v (.imm (Qah l))) ?_)
 simp only[QdB,hb,cond_true]
theorem QCq (l:List Int):Qbw [LV.v (AV.imm (Qah l))]=true:=by simp only[Qbw,LV.np,AV.np,Qa6,Bool.and_self]
theorem Qv5 (l:List Int):LV.np (LV.v (AV.imm (Qah l)))=true:=by simp only[LV.np,AV.np,Qa6]
theorem QrT (M:Mdl)(z:Int):Qbw [eM M,.v (.int .i64 z)]=true:=by simp only[Qbw,LV.np,AV.np,Mdl.np,Bool.and_self]
theorem Qkz (m:Int)(hF:Fn M f g y):∀(d i:Nat),i+d=M.ty.length→∀(out:List FTy),out.length≤i→
 ∃h',blk (cxZ m) 17 (at_ Tryz.prog 17 5) (K6 f++L6 (M.ty.map FTy.enc) i) (HP M out [] [])=some (scT M g y (out++M.ty.drop i) (fS M) (gS M),h')
 |0,i,hd,out,ho=>by
  rw[List.drop_eq_nil_of_le (by omega),List.append_nil]
  obtain⟨h',ih⟩:=Qib m hF out M.im.length 0 (by omega) [] [] (Nat.le_refl _) (Nat.le_refl _)
  rw[List.drop_zero,List.nil_append,List.nil_append]at ih
  exact⟨h',Qtz (k0:=Qaf (by rw[List.length_map,ofN,ofN];omega)) (k1:=ih) ..⟩
 |d+1,i,hd,out,ho=>by
  have hty:=hF.sm.ty
  have hlt:i<M.ty.length:=by omega
  have hx:M.ty[i]? =some M.ty[i]:=List.getElem?_eq_getElem hlt
  generalize M.ty[i]=x at hx
  have hf:=hF.sm.fit.1.2 x (List.mem_of_getElem? hx)
  have k0:ltZ (Int.ofNat i) (Int.ofNat (M.ty.map FTy.enc).length)=true:=Qae (by rw[List.length_map,ofN,ofN];omega)
  have k1:ixA (.imm (M.ty.map FTy.enc)) (Int.ofNat i) 2=some x.enc:=Qaj hx x.enc_len
  have k8:apL (.ow 2 (out.map FTy.enc)) 2 48 [x.enc]=some (.ow 2 ((out++[x]).map FTy.enc)):=by
   rw[Qbn (QcA x.enc_len) (by simp;omega) (by decide),List.map_append]
   rfl
  have hw:=Qas (n:=i) (by omega)
  obtain⟨h',ih⟩:=Qkz m hF d (i+1) (by omega) (out++[x]) (by simp;omega)
  rw[Qag hx,←QaJ out x (M.ty.drop (i+1))]
  exact⟨h',QtA (k0:=k0) (k1:=k1) (k2:=QCq x.p) (k3:=QCi m x.p hf.1.1 Heap.nil) (k4:=Qv5 x.p) (k5:=QCq x.r) (k6:=QCi m x.r hf.2.1 Heap.nil) (k7:=Qv5 x.r) (k8:=k8) (k9:=by rw[hw];exact ih) ..⟩
theorem QjL (m:Int)(hF:Fn M f g y):∃h',QbM m 17 [eM M,.v (.int .i64 f)] Heap.nil=some (.tup [.agg (scM M g y),.nilI],h'):=by
 have hu:=(List.getElem?_eq_some_iff.1 hF.get).1
 have hfu:f<M.fu.length:=by have:=hF.nn;omega
 obtain⟨e1,e2,_⟩:=Qco hF.sm hF.ty
 obtain⟨h',ih⟩:=Qkz m hF M.ty.length 0 (by omega) [] (Nat.le_refl _)
 rw[List.drop_zero,List.nil_append]at ih
 refine⟨h',Qcb rfl (by kernel_rfl) (by kernel_rfl) (QCH (k0:=Qaf (by have:=hF.nn;rw[ofN];exact this)) (k1:=Qcy (by rw[List.length_map,ofN];omega)) (k2:=hF.ixg) (k3:=e1) (k4:=hF.ixg) (k5:=e2)
  (k6:=QrT M (Int.ofNat 1)) (k7:=t11 m hF.sm (Int.ofNat 1) Heap.nil) (k8:=QrT M (Int.ofNat 2)) (k9:=t11 m hF.sm (Int.ofNat 2) Heap.nil) (k10:=ih) ..)⟩
end
end Go.Proofs.YtoblgjmllmomhaaGreatDoor
namespace Go.Proofs.YtoblgjmllmomhaaGreatDoor
open Go Go.Proofs.Am
theorem QgI {cx:Cx}{orc:Orc}{f:FuncId}{xs:List LV}{h:Heap}{y:LV×Heap}{fn:Func}{c:Code}(hf:cx.P.funcs[f]? =some fn)(hb:fn.body=some c)(he:cx.ext f=none)(hh:cx.exh f=none)(hr:cx.exr f=none)(hy:Qab cx orc f xs h=some y)(hxn:cx.exn f=none:=by rfl):orc f [.code c] xs h=some y:=by
 unfold Qab at hy
 rw[he,hh,hr,hxn]at hy
 simp only[hf,hb,Option.bind_some]at hy
 cases hc:(cutAt cx f [.code c]).isNone with
 |true=>rw[hc,cond_true]at hy;exact hy
 |false=>rw[hc,cond_false]at hy;cases hy
noncomputable def QfT (cx:Cx)(f:FuncId)(xs:List LV)(h:Heap):Option (LV×Heap):=blk cx f (QaE cx.P f) xs h
theorem Qdg {cx cx':Cx}(hC:CxOk cx)(hP:cx'.P=cx.P)(hg:cx'.glob=cx.glob){f:FuncId}{fn:Func}(hf:cx.P.funcs[f]? =some fn)(hs:fn.body.isSome=true)(hcut:(cutAt cx f (QaE cx.P f)).isNone=true)
 (hraw:∀(i:Nat) (v:Value),cx.raw i=some v→cx'.raw i=some v):Qce cx' f (QfT cx f)∧∃fn c,cx'.P.funcs[f]? =some fn∧fn.body=some c:=by
 obtain⟨c,hc⟩:=Option.isSome_iff_exists.1 hs
 have e:QaE cx.P f=[.code c]:=Qdq hf hc
 rw[e,Option.isNone_iff_eq_none]at hcut
 refine⟨Qlf hC hP hg hf hc hcut (fun xs h y hy=>?_) hraw,fn,c,by rw[hP];exact hf,hc⟩
 unfold QfT at hy
 rw[e]at hy
 exact hy
theorem run_eq {cx:Cx}{f:FuncId}{xs:List LV}{h:Heap}{y:LV×Heap}{fn:Func}(hf:cx.P.funcs[f]? =some fn)(hs:fn.body.isSome=true)(he:cx.ext f=none)(hh:cx.exh f=none)(hr:cx.exr f=none)(hy:Qab cx (blk cx) f xs h=some y)(hxn:cx.exn f=none:=by rfl):QfT cx f xs h=some y:=by
 obtain⟨c,hc⟩:=Option.isSome_iff_exists.1 hs
 have:=QgI (cx:=cx) hf hc he hh hr hy hxn
 unfold QfT
 rw[Qdq hf hc]
 exact this
theorem Qjg {cx:Cx}(hP:cx.P=Tryz.prog):Qce cx 37 Qe1:=
 Qlt (t:=3) (by rw[hP];exact Any.slices_Clone_int Tryz.laysC) (by rw[hP];exact Any.slices_Clone_int_nil Tryz.laysC) (by rw[hP];exact Any.slices_Clone_int_zero Tryz.laysC)
theorem grow_heap {cx:Cx}(hP:cx.P=Tryz.prog):Qce cx 78 Qhl:=by
 have hi:=Tryz.laysC.i3
 rw[Option.map_eq_some_iff]at hi
 obtain⟨i,h1,h2⟩:=hi
 simp only[Prod.mk.injEq]at h2
 obtain⟨hz,hs,hb⟩:=h2
 refine Qn3 (t:=3) (by rw[hP];exact fun w=>Qgq Tryz.laysG w) ?_
 rw[hP]
 intro n w hn hbig
 refine(Qil Tryz.laysG i _ h1 hz (by omega) (by omega) n w hn (by rw[hb];exact hbig)).mono ?_
 rintro e w' ⟨rfl,rfl⟩
 have hge:n≤grownCap w n 0 3:=grownCap_ge w _ _ _
 have hsz:(Builtin.zeroCells (Value.int IntKind.i64 0).cells n++Builtin.zeroCells (Value.int IntKind.i64 0).cells (grownCap w n 0 (Tryz.laysG_ren.t 25)-n)).size=grownCap w n 0 3:=by
  simp only[Array.size_append,Builtin.zeroCells,Array.size_map,Array.size_range,Value.cells,List.size_toArray,List.length_cons,List.length_nil,Nat.zero_add,Nat.mul_one]
  show n+(grownCap w n 0 3-n)=_
  omega
 refine⟨_,?_,rfl,?_⟩
 ·rw[hsz];rfl
 ·rw[hsz];exact hge
def Qc1:List LV→Nat→Option (LV×List (List LV))
 |[.v (.imm xs)],n=>bif Qcz xs&&Nat.ble (xs.length*8) 140737488355328 then
  (match xs with
   |[]=>some (.v (.imm []),[])
   |x::xs=>some (.v (.arr 1 n 0 (xs.length+1)),[Qal (x::xs)]))else none
 |_,_=>none
theorem Qoo (xs:List LV)(h:Heap):Qo1 Qc1 xs h=Qe1 xs h:=by
 unfold Qo1 Qc1 Qe1
 split
 ·rename_i ys
  simp only
  cases(Qcz ys&&Nat.ble (ys.length*8) 140737488355328)with
  |false=>rfl
  |true=>
   cases ys with
   |nil=>
    show some (_,Heap.mk (h.bx++[]) h.mp)=_
    rw[List.append_nil]
    rfl
   |cons y ys=>rfl
 ·rename_i hne
  split
  ·exact absurd rfl (hne _)
  ·rfl
theorem Qlr {cx:Cx}(hP:cx.P=Tryz.prog):Qce cx 37 (Qo1 Qc1):=by
 have e:Qo1 Qc1=Qe1:=funext fun xs=>funext fun h=>Qoo xs h
 rw[e]
 exact Qjg hP
namespace H
def QBd (f r i:Nat):Bool:=bif Nat.beq f 17 then inP [(3,1),(3,4)] r i else bif Nat.beq f 39 then false else QrD f r i
def QAp (f r i:Nat):Bool:=bif Nat.beq f 17 then inP [(17,1),(17,10),(27,1),(27,10)] r i else bif Nat.beq f 39 then false else Qvs f r i
def QDl (f r i:Nat):Bool:=QCE f r i||(Nat.beq f 17&&Nat.beq r 3&&Nat.beq i 6)
def QBu (f r i:Nat):Bool:=bif Nat.beq f 39 then inP [(13,2)] r i else Qr7 f r i||(Nat.beq f 17&&Nat.beq r 7&&Nat.beq i 10)
noncomputable def QBJ (m:Int)(f:Nat):Option (List LV→Option LV):=bif Nat.beq f 37||Nat.beq f 78 then none else QwW m f
noncomputable def QBO (m:Int)(f:Nat):Option (List LV→Heap→Option (LV×Heap)):=bif Nat.beq f 78 then some Qhl else bif Nat.beq f 36 then some (QfT (cxZ m) 36)else none
def QBM (f:Nat):Option (List LV→Nat→Option (LV×List (List LV))):=bif Nat.beq f 37 then some Qc1 else none
def QC1 (f:Nat):Bool:=Nat.beq f 146
noncomputable def cxZ (m:Int):Cx:={YtoblgjmllmomhaaGreatDoor.cxZ m with take:=QAp,heap:=QBu,arr:=QDl,pure:=QBd,retOw:=QC1,ext:=QBJ m,exh:=QBO m,exn:=QBM}
theorem cxZ_ok (m:Int):CxOk (cxZ m) where
 names:=QcM
 ext:=fun f e h=>by
  have h:QBJ m f=some e:=h
  unfold QBJ at h
  cases hb:(Nat.beq f 37||Nat.beq f 78)with
  |true=>rw[hb]at h;cases h
  |false=>rw[hb]at h;exact(YtoblgjmllmomhaaGreatDoor.cxZ_ok m).ext f e h
 mixed:=by kernel_rfl
 globs:=QcV m
 exr:=fun f e h=>(YtoblgjmllmomhaaGreatDoor.cxZ_ok m).exr f e h
 exn:=fun f e h=>by
  have h:QBM f=some e:=h
  unfold QBM at h
  cases hb:Nat.beq f 37 with
  |false=>rw[hb]at h;cases h
  |true=>
   rw[hb]at h
   cases h
   have:=Nat.eq_of_beq_eq_true hb
   subst this
   exact⟨Qlr rfl,QkZ Tryz.func37 (by kernel_rfl)⟩
 exh:=fun f e h=>by
  have h:QBO m f=some e:=h
  unfold QBO at h
  cases hb:Nat.beq f 78 with
  |true=>
   rw[hb]at h
   cases h
   have:=Nat.eq_of_beq_eq_true hb
   subst this
   exact⟨grow_heap rfl,QkZ Tryz.func78 (by kernel_rfl)⟩
  |false=>
  rw[hb,cond_false]at h
  cases hb:Nat.beq f 36 with
  |false=>rw[hb]at h;cases h
  |true=>
   rw[hb]at h
   cases h
   have:=Nat.eq_of_beq_eq_true hb
   subst this
   exact Qdg (YtoblgjmllmomhaaGreatDoor.cxZ_ok m) rfl rfl Tryz.func36 (by kernel_rfl) (by kernel_rfl) (fun _ _ h=>h)
noncomputable abbrev cA (m:Int):=Qab (cxZ m) (blk (cxZ m))
noncomputable abbrev cV (m:Int):=QaK (cxZ m) (blk (cxZ m))
noncomputable abbrev bA (m:Int)(f r:Nat):=blk (cxZ m) f (at_ Tryz.prog f r)
noncomputable abbrev bB (m:Int)(f:Nat):=blk (cxZ m) f (QaE Tryz.prog f)
abbrev nE (m:Int)(x:AV)(b:Bool):Prop:=QcF (Cx.P (cxZ m)) BinOp.neq 33 true x .nilI=some (.bool b)
abbrev qE (m:Int)(x:AV)(b:Bool):Prop:=QcF (Cx.P (cxZ m)) BinOp.eql 33 true x .nilI=some (.bool b)
end H
end Go.Proofs.YtoblgjmllmomhaaGreatDoor
namespace Go.Proofs.YtoblgjmllmomhaaGreatDoor
set_option maxRecDepth 100000
open Go Go.RowKit Go.Proofs.Am
theorem t28 (m:Int)(l:List Int)(hl:FitL 8 InZ l)(h:Heap):QbM m 37 [.v (.imm (Qah l))] h=some (.v (.imm (Qah l)),h):=by
 have hb:(Qcz (Qah l)&&Nat.ble ((Qah l).length*8) 140737488355328)=true:=by
  rw[Bool.and_eq_true]
  refine⟨?_,Nat.ble_eq_true_of_le ?_⟩
  ·unfold Qcz Qah
   rw[List.all_map]
   exact List.all_eq_true.2 fun _ _=>rfl
  ·have:=hl.1
   have e:reachBytes=140737488351232:=rfl
   rw[Qac];omega
 refine(Qcc (e:=QdB) rfl rfl (x:=.v (.imm (Qah l))) ?_)
 simp only[QdB,hb,cond_true]
def QCw:AV:=.ifc 56 (.int .i64 (Int.ofNat 5))
def QqS (M:Mdl)(i:Int):LV:=
 match(fT M i).bind (Qex M)with
 |some y=>.tup [.agg y.enc,.nilI]
 |none=>.tup [.agg [.imm [],.imm []],QCw]
theorem t13 (m:Int){M:Mdl}(hM:Small M)(i:Int)(h:Heap):QbM m 73 [eM M,.v (.int .i64 i)] h=some (QqS M i,h):=by
 refine Qcb rfl (by kernel_rfl) (by kernel_rfl) ?_
 have c11:=t11 m hM 0 h
 have c26:=t26 m hM 0 h
 have l1:=QcS hM 0
 have l2:=hM.fu
 have hlen:(Qtq M).length=(QcE M 0).length+Qkc M 0:=by simp[Qtq,Qkc]
 unfold QqS fT
 cases h0:ltZ i (Int.ofNat 0)with
 |true=>exact QAV (k0:=h0) ..
 |false=>
  rw[cond_false]
  cases h1:leZ (Int.ofNat ((QcE M 0).length+Qkc M 0)) i with
  |true=>
   rw[QkT hlen h1]
   exact QAU (k0:=h0) (k1:=c11) (k2:=h1) ..
  |false=>
   obtain⟨t,ht,hi⟩:=Qku hlen h0 h1
   have hu:i.toNat<(QcE M 0).length+M.fu.length:=by
    have:=(List.getElem?_eq_some_iff.1 ht).1
    rw[hlen]at this
    exact this
   rw[ht,Option.bind_some]
   unfold Qtq at ht
   by_cases hlt:i.toNat<(QcE M 0).length
   ·have k4:ltZ i (Int.ofNat ((QcE M 0).map Imp.enc).length)=true:=Qae (by rw[List.length_map,ofN];omega)
    rw[List.getElem?_append_left (by simpa using hlt),List.getElem?_map,Option.map_eq_some_iff]at ht
    obtain⟨x,hx,rfl⟩:=ht
    have k5:ixA (.imm ((QcE M 0).map Imp.enc)) i 8=some x.enc:=Qa3 hi hx x.enc_len
    cases hy:Qex M x.t with
    |none=>
     rcases QdR hy with e1|⟨e1,e2⟩
     ·exact QAT (k0:=h0) (k1:=c11) (k2:=h1) (k3:=c26) (k4:=k4) (k5:=k5) (k6:=e1) ..
     ·exact QAS (k0:=h0) (k1:=c11) (k2:=h1) (k3:=c26) (k4:=k4) (k5:=k5) (k6:=e1) (k7:=e2) ..
    |some y=>
     obtain⟨e1,e2,e3,e4⟩:=Qco hM hy
     exact QAR (k0:=h0) (k1:=c11) (k2:=h1) (k3:=c26) (k4:=k4) (k5:=k5) (k6:=e1) (k7:=e2) (k8:=e3) (k9:=t28 m _ e4.1 h) (k10:=e3) (k11:=t28 m _ e4.2 h) ..
   ·have k4:ltZ i (Int.ofNat ((QcE M 0).map Imp.enc).length)=false:=Qaf (by rw[List.length_map,ofN];omega)
    rw[List.getElem?_append_right (by simpa using hlt),List.getElem?_map,Option.map_eq_some_iff,List.length_map]at ht
    obtain⟨x,hx,rfl⟩:=ht
    have e:IntKind.wrap .i64 (i-Int.ofNat ((QcE M 0).map Imp.enc).length)=((i.toNat-(QcE M 0).length:Nat):Int):=by
     rw[List.length_map,ofN,Qcl (by unfold InZ;omega)];omega
    have k5:ixA (.imm (M.fu.map MFn.enc)) (IntKind.wrap .i64 (i-Int.ofNat ((QcE M 0).map Imp.enc).length)) 3=some x.enc:=by
     rw[e]
     exact Qa3 (by omega) (by rw[Int.toNat_natCast];exact hx) x.enc_len
    cases hy:Qex M x.t with
    |none=>
     rcases QdR hy with e1|⟨e1,e2⟩
     ·exact QAQ (k0:=h0) (k1:=c11) (k2:=h1) (k3:=c26) (k4:=k4) (k5:=k5) (k6:=e1) ..
     ·exact QAP (k0:=h0) (k1:=c11) (k2:=h1) (k3:=c26) (k4:=k4) (k5:=k5) (k6:=e1) (k7:=e2) ..
    |some y=>
     obtain⟨e1,e2,e3,e4⟩:=Qco hM hy
     exact QAO (k0:=h0) (k1:=c11) (k2:=h1) (k3:=c26) (k4:=k4) (k5:=k5) (k6:=e1) (k7:=e2) (k8:=e3) (k9:=t28 m _ e4.1 h) (k10:=e3) (k11:=t28 m _ e4.2 h) ..
def gL (M:Mdl):List (Int×Bool×Bool):=(QcE M 3).map (fun x=>(x.t,x.mu,true))++M.gl.map (fun x=>(x.t,x.mu,false))
def gT (M:Mdl)(i:Int):Option (Int×Bool×Bool):=bif ltZ i (Int.ofNat 0)then none else(gL M)[i.toNat]?
def QBC (M:Mdl)(i:Int):LV:=
 match gT M i with
 |some (t,q,far)=>.tup [.int .i64 t,.bool q,.bool far,.nilI]
 |none=>.tup [.int .i64 (Int.ofNat 0),.bool false,.bool false,QCw]
theorem t16 (m:Int){M:Mdl}(hM:Small M)(i:Int)(h:Heap):QbM m 112 [eM M,.v (.int .i64 i)] h=some (QBC M i,h):=by
 refine Qcb rfl (by kernel_rfl) (by kernel_rfl) ?_
 have c26:=t26 m hM 3 h
 have l1:=QcS hM 3
 have l2:=hM.gl
 have hlen:(gL M).length=(QcE M 3).length+M.gl.length:=by simp[gL]
 have hw:IntKind.wrap .i64 (Int.ofNat (((QcE M 3).map Imp.enc).length+(M.gl.map Glo.enc).length))=Int.ofNat ((QcE M 3).length+M.gl.length):=by
  rw[List.length_map,List.length_map]
  exact Qcl (by unfold InZ;rw[ofN];omega)
 unfold QBC gT
 cases h0:ltZ i (Int.ofNat 0)with
 |true=>exact QAN (k0:=c26) (k1:=h0) ..
 |false=>
  rw[cond_false]
  cases h1:leZ (Int.ofNat ((QcE M 3).length+M.gl.length)) i with
  |true=>
   rw[QkT hlen h1]
   exact QAM (k0:=c26) (k1:=h0) (k2:=by rw[hw];exact h1) ..
  |false=>
   obtain⟨t,ht,hi⟩:=Qku hlen h0 h1
   rw[ht]
   have hu:=(List.getElem?_eq_some_iff.1 ht).1
   rw[hlen]at hu
   unfold gL at ht
   by_cases hlt:i.toNat<(QcE M 3).length
   ·have k4:ltZ i (Int.ofNat ((QcE M 3).map Imp.enc).length)=true:=Qae (by rw[List.length_map,ofN];omega)
    rw[List.getElem?_append_left (by simpa using hlt),List.getElem?_map,Option.map_eq_some_iff]at ht
    obtain⟨x,hx,rfl⟩:=ht
    have k5:ixA (.imm ((QcE M 3).map Imp.enc)) i 8=some x.enc:=Qa3 hi hx x.enc_len
    exact QAL (k0:=c26) (k1:=h0) (k2:=by rw[hw];exact h1) (k3:=k4) (k4:=k5) (k5:=k5) ..
   ·have k4:ltZ i (Int.ofNat ((QcE M 3).map Imp.enc).length)=false:=Qaf (by rw[List.length_map,ofN];omega)
    rw[List.getElem?_append_right (by simpa using hlt),List.getElem?_map,Option.map_eq_some_iff,List.length_map]at ht
    obtain⟨x,hx,rfl⟩:=ht
    have e:IntKind.wrap .i64 (i-Int.ofNat ((QcE M 3).map Imp.enc).length)=((i.toNat-(QcE M 3).length:Nat):Int):=by
     rw[List.length_map,ofN,Qcl (by unfold InZ;omega)];omega
    have k5:ixA (.imm (M.gl.map Glo.enc)) (IntKind.wrap .i64 (i-Int.ofNat ((QcE M 3).map Imp.enc).length)) 11=some x.enc:=by
     rw[e]
     exact Qa3 (by omega) (by rw[Int.toNat_natCast];exact hx) x.enc_len
    obtain⟨t,q,⟨o,a,b,v,tt,l,bd,el,qq⟩⟩:=x
    exact QAK (k0:=c26) (k1:=h0) (k2:=by rw[hw];exact h1) (k3:=k4) (k4:=k5) ..
end Go.Proofs.YtoblgjmllmomhaaGreatDoor
namespace Go.Proofs.YtoblgjmllmomhaaGreatDoor
set_option maxRecDepth 100000
open Go Go.Proofs.Am
def SlR (rest:List (List LV))(a:AV)(n:Nat):Prop:=(n=0∧lnS a=some 0)∨∃j bx,a=.arr 1 (j+2) 0 n∧rest[j]? =some bx∧n≤bx.length
theorem SlR.more {rest:List (List LV)}{a:AV}{n:Nat}(H:SlR rest a n)(l:List (List LV)):SlR (rest++l) a n:=by
 rcases H with H|⟨j,bx,e1,e2,e3⟩
 ·exact .inl H
 ·exact .inr ⟨j,bx,e1,by rw[List.getElem?_append_left (List.getElem?_eq_some_iff.1 e2).1];exact e2,e3⟩
def SlK (k:Nat)(rest:List (List LV))(a:AV)(n:Nat):Prop:=(n=0∧lnS a=some 0)∨∃j bx,k≤j∧a=.arr 1 (j+2) 0 n∧rest[j]? =some bx∧n≤bx.length
def SlN (t:Nat)(rest:List (List LV))(a:AV)(n:Nat):Prop:=(n=0∧lnS a=some 0)∨∃j bx,j≠t∧a=.arr 1 (j+2) 0 n∧rest[j]? =some bx∧n≤bx.length
theorem SlK.ne {k t:Nat}{rest:List (List LV)}{a:AV}{n:Nat}(H:SlK k rest a n)(h:t<k):SlN t rest a n:=by
 rcases H with H|⟨j,bx,e0,e1,e2,e3⟩
 ·exact .inl H
 ·exact .inr ⟨j,bx,by omega,e1,e2,e3⟩
theorem SlK.more {k:Nat}{rest:List (List LV)}{a:AV}{n:Nat}(H:SlK k rest a n)(l:List (List LV)):SlK k (rest++l) a n:=by
 rcases H with H|⟨j,bx,e0,e1,e2,e3⟩
 ·exact .inl H
 ·exact .inr ⟨j,bx,e0,e1,by rw[List.getElem?_append_left (List.getElem?_eq_some_iff.1 e2).1];exact e2,e3⟩
theorem SlN.moved {t:Nat}{rest:List (List LV)}{a:AV}{n:Nat}(H:SlN t rest a n)(b:List LV)(l:List (List LV)):SlN rest.length (rest.set t b++l) a n:=by
 rcases H with H|⟨j,bx,e0,e1,e2,e3⟩
 ·exact .inl H
 ·have hj:=(List.getElem?_eq_some_iff.1 e2).1
  exact .inr ⟨j,bx,by omega,e1,by rw[List.getElem?_append_left (by rw[List.length_set];exact hj),List.getElem?_set_ne (Ne.symm e0)];exact e2,e3⟩
theorem SlN.more {t:Nat}{rest:List (List LV)}{a:AV}{n:Nat}(H:SlN t rest a n)(l:List (List LV)):SlN t (rest++l) a n:=by
 rcases H with H|⟨j,bx,e0,e1,e2,e3⟩
 ·exact .inl H
 ·exact .inr ⟨j,bx,e0,e1,by rw[List.getElem?_append_left (List.getElem?_eq_some_iff.1 e2).1];exact e2,e3⟩
def TyOk (rest:List (List LV))(T:AV)(i:Nat):Prop:=(i=0∧T=.nilS)∨∃t rows,0<i∧T=.arr 2 (t+2) 0 i∧rest[t]? =some (Qal rows)∧rows.length=i∧∀row,row∈rows→∃p r n,row=[p,r]∧n*8≤140737488351232∧SlN t rest p n
theorem TyOk.more {rest:List (List LV)}{T:AV}{i:Nat}(H:TyOk rest T i)(l:List (List LV)):TyOk (rest++l) T i:=by
 rcases H with H|⟨t,rows,h0,e1,e2,e3,e4⟩
 ·exact .inl H
 ·refine .inr ⟨t,rows,h0,e1,by rw[List.getElem?_append_left (List.getElem?_eq_some_iff.1 e2).1];exact e2,e3,fun row hr=>?_⟩
  obtain⟨p,r,n,h1,hn,h2⟩:=e4 row hr
  exact⟨p,r,n,h1,hn,h2.more l⟩
def Ge (rest rest':List (List LV)):Prop:=∀(j:Nat) (b:List LV),rest[j]? =some b→rest'[j]? =some b
theorem SlN.keep {t:Nat}{rest rest':List (List LV)}{a:AV}{n:Nat}(H:SlN t rest a n)(h:Ge rest rest'):SlN t rest' a n:=by
 rcases H with H|⟨j,bx,e0,e1,e2,e3⟩
 ·exact .inl H
 ·exact .inr ⟨j,bx,e0,e1,h _ _ e2,e3⟩
theorem TyOk.keep {rest rest':List (List LV)}{T:AV}{i:Nat}(H:TyOk rest T i)(h:Ge rest rest'):TyOk rest' T i:=by
 rcases H with H|⟨t,rows,h0,e1,e2,e3,e4⟩
 ·exact .inl H
 ·refine .inr ⟨t,rows,h0,e1,h _ _ e2,e3,fun row hr=>?_⟩
  obtain⟨p,r,n,h1,hn,h2⟩:=e4 row hr
  exact⟨p,r,n,h1,hn,h2.keep h⟩
theorem Qgx:∀{rows:List (List AV)},(∀row,row∈rows→∃p r:AV,row=[p,r])→(Qal rows).length=rows.length*2
 |[],_=>rfl
 |x::rows,h=>by
  obtain⟨p,r,rfl⟩:=h x (List.mem_cons_self ..)
  have ih:=Qgx (rows:=rows) fun row hr=>h row (List.mem_cons_of_mem _ hr)
  show(LV.v p::LV.v r::Qal rows).length=_
  simp only[List.length_cons,ih]
  omega
theorem Qk2 (a b:List (List AV)):Qal a++Qal b=Qal (a++b):=by
 unfold Qal
 rw[List.flatten_append,List.map_append]
theorem Qvn {b0 b1:List LV}{rest l:List (List LV)}{T p r:AV}{i n:Nat}(H:TyOk rest T i)(hp:SlK rest.length (rest++l) p n)(hn:n*8≤140737488351232)(hi:i≤1000):
 ∃rest' id,apG ⟨b0::b1::(rest++l),[]⟩ T 2 48 [[p,r]]=some (.arr 2 id 0 (i+1),⟨b0::b1::rest',[]⟩)∧TyOk rest' (.arr 2 id 0 (i+1)) (i+1):=by
 have hroom:QaU (i+1) 48=true:=by
  unfold QaU
  rw[Bool.and_eq_true,Bool.or_eq_true]
  exact⟨.inl (Nat.ble_eq_true_of_le (by omega)),rfl⟩
 rcases H with⟨rfl,rfl⟩|⟨t,rows,h0,rfl,e2,e3,e4⟩
 ·refine⟨rest++l++[[.v p,.v r]],(rest++l).length+2,rfl,.inr ⟨(rest++l).length,[[p,r]],Nat.succ_pos _,rfl,by rw[List.getElem?_append_right (Nat.le_refl _),Nat.sub_self];rfl,rfl,fun row hr=>?_⟩⟩
  rcases List.mem_singleton.1 hr with rfl
  refine⟨p,r,n,rfl,hn,?_⟩
  rcases hp with hp|⟨j,bx,k0,k1,k2,k3⟩
  ·exact .inl hp
  ·have hj:=(List.getElem?_eq_some_iff.1 k2).1
   exact .inr ⟨j,bx,by omega,k1,by rw[List.getElem?_append_left hj];exact k2,k3⟩
 ·have ht:=(List.getElem?_eq_some_iff.1 e2).1
  have hlen:(Qal rows).length=i*2:=by rw[Qgx (fun row hr=>by obtain⟨p,r,_,h,_⟩:=e4 row hr;exact⟨p,r,h⟩),e3]
  have e2':(rest++l)[t]? =some (Qal rows):=by rw[List.getElem?_append_left ht];exact e2
  refine⟨(rest++l).set t []++[Qal (rows++[[p,r]])],(rest++l).length+2,?_,.inr ⟨(rest++l).length,rows++[[p,r]],Nat.succ_pos _,rfl,by rw[List.getElem?_append_right (by rw[List.length_set];exact Nat.le_refl _),List.length_set,Nat.sub_self];rfl,by rw[List.length_append,e3];rfl,fun row hr=>?_⟩⟩
  ·have h1:apG ⟨b0::b1::(rest++l),[]⟩ (.arr 2 (t+2) 0 i) 2 48 [[p,r]]=apH ⟨b0::b1::(rest++l),[]⟩ (.arr 2 (t+2) 0 i) 2 48 [[p,r]]:=rfl
   rw[h1]
   unfold apH
   have hget:(Heap.mk (b0::b1::(rest++l)) []).bx[t+2]? =some (Qal rows):=e2'
   simp only[Nat.beq_refl,List.length_singleton,hroom,hget,Option.bind_some,hlen]
   rw[show(true&&QbW 2 [[p,r]]&&true&&Nat.blt 0 1)=true from rfl,cond_true,show Nat.ble (0+(i+1)*2) (i*2)=false from by
    rw[Bool.eq_false_iff]
    intro hh
    have:=Nat.le_of_ble_eq_true hh
    omega,cond_false,show(true&&Nat.ble (i*2) (i*2)&&Nat.blt 0 (i*2))=true from by
    rw[Bool.and_eq_true,Bool.and_eq_true]
    exact⟨⟨rfl,Nat.ble_eq_true_of_le (Nat.le_refl _)⟩,by rw[Nat.blt_eq];omega⟩,cond_true,List.take_of_length_le (by rw[hlen];exact Nat.le_refl _),Qk2]
   rfl
  ·rcases List.mem_append.1 hr with hr|hr
   ·obtain⟨p',r',n',h1,hn',h2⟩:=e4 row hr
    exact⟨p',r',n',h1,hn',(h2.more l).moved [] _⟩
   ·rcases List.mem_singleton.1 hr with rfl
    exact⟨p,r,n,rfl,hn,(hp.ne ht).moved [] _⟩
theorem SlR.lnS {rest:List (List LV)}{a:AV}{n:Nat}(H:SlR rest a n):lnS a=some (n:Int):=by
 rcases H with⟨rfl,e⟩|⟨j,bx,rfl,_,_⟩
 ·exact e
 ·rfl
theorem Qwq (l:List Int):Qcz (Qah l)=true:=by
 unfold Qcz Qah
 rw[List.all_map]
 exact List.all_eq_true.2 fun _ _=>rfl
theorem QwS (l:List Int):Qal (Qah l)=l.map fun z=>LV.v (.int .i64 z):=by
 rw[show Qah l=l.map fun z=>[AV.int .i64 z]from rfl]
 exact Qgw l
namespace H
section
variable {m:Int} {b0 b1:List LV} {rest:List (List LV)}
theorem Qls (x:List Int)(hx:x.length*8≤140737488351232):∃q l,((q=.imm [])∨∃id n,q=.arr 1 id 0 n)∧SlK rest.length (rest++l) q x.length∧Qab (cxZ m) (blk (cxZ m)) 37 [.v (.imm (Qah x))] ⟨b0::b1::rest,[]⟩=some (.v q,⟨b0::b1::(rest++l),[]⟩):=by
 have hb:(Qcz (Qah x)&&Nat.ble ((Qah x).length*8) 140737488355328)=true:=by
  rw[Bool.and_eq_true]
  exact⟨Qwq x,Nat.ble_eq_true_of_le (by rw[Qac];omega)⟩
 cases x with
 |nil=>
  refine⟨.imm [],[],.inl rfl,.inl ⟨rfl,rfl⟩,QgJ (e:=Qc1) (l:=[]) rfl rfl rfl rfl rfl ?_⟩
  simp only[Qc1,hb,cond_true]
  rfl
 |cons z x=>
  refine⟨.arr 1 (rest.length+2) 0 (z::x).length,[Qal (Qah (z::x))],.inr ⟨_,_,rfl⟩,.inr ⟨rest.length,_,Nat.le_refl _,rfl,by rw[List.getElem?_append_right (Nat.le_refl _),Nat.sub_self];rfl,by rw[QwS,List.length_map];exact Nat.le_refl _⟩,QgJ (e:=Qc1) (l:=[Qal (Qah (z::x))]) rfl rfl rfl rfl rfl ?_⟩
  simp only[Qc1,hb,cond_true]
  show some (LV.v (AV.arr 1 (rest.length+2) 0 ((Qah x).length+1)),_)=_
  rw[Qac]
  rfl
theorem QwI (h:Heap):Qab (cxZ m) (blk (cxZ m)) 78 [.v .nilS,.v (.int .i64 (Int.ofNat 0))] h=some (.v .nilS,h):=QaX (e:=Qhl) rfl rfl rfl rfl
theorem QwH (n:Nat)(h0:0<n)(hn:n*8≤281474976710656):Qab (cxZ m) (blk (cxZ m)) 78 [.v .nilS,.v (.int .i64 (Int.ofNat n))] ⟨b0::b1::rest,[]⟩=some (.v (.arr 1 (rest.length+2) 0 0),⟨b0::b1::(rest++[List.replicate n .un]),[]⟩):=by
 have h0':(0:Int)≤Int.ofNat n:=Int.natCast_nonneg n
 have h1:Nat.ble ((Int.ofNat n).toNat*8) 281474976710656=true:=Nat.ble_eq_true_of_le hn
 have hc:(decide (0≤Int.ofNat n)&&Nat.ble ((Int.ofNat n).toNat*8) 281474976710656)=true:=by rw[decide_eq_true h0',h1];rfl
 cases n with
 |zero=>exact absurd h0 (by omega)
 |succ n=>
  refine QaX (e:=Qhl) rfl rfl rfl ?_
  simp only[Qhl,hc,cond_true]
  rfl
theorem Qxq {j k n:Nat}{bx:List LV}(e2:rest[j]? =some bx)(e3:bx.length=n)(x:List Int)(hk:k+x.length≤n)(hn:n*8≤140737488359232):∃rest' bx',rest'[j]? =some bx'∧bx'.length=n∧(∀i,i≠j→rest'[i]? =rest[i]?)∧
 apG ⟨b0::b1::rest,[]⟩ (.arr 1 (j+2) 0 k) 1 8 (Qah x)=some (.arr 1 (j+2) 0 (k+x.length),⟨b0::b1::rest',[]⟩):=by
 cases x with
 |nil=>exact⟨rest,bx,e2,e3,fun _ _=>rfl,rfl⟩
 |cons z x=>
  have hj:=(List.getElem?_eq_some_iff.1 e2).1
  refine⟨rest.set j (QgU bx k (Qal (Qah (z::x)))),_,by rw[List.getElem?_set_self hj],by rw[Qff];exact e3,fun i hi=>by rw[List.getElem?_set_ne (Ne.symm hi)],?_⟩
  have h1:apG ⟨b0::b1::rest,[]⟩ (.arr 1 (j+2) 0 k) 1 8 (Qah (z::x))=apH ⟨b0::b1::rest,[]⟩ (.arr 1 (j+2) 0 k) 1 8 (Qah (z::x)):=rfl
  rw[h1]
  unfold apH
  have hroom:QaU (k+(Qah (z::x)).length) 8=true:=by
   unfold QaU
   rw[Qac,Bool.and_eq_true,Bool.or_eq_true]
   exact⟨.inr (Nat.ble_eq_true_of_le (by omega)),rfl⟩
  have hget:(Heap.mk (b0::b1::rest) []).bx[j+2]? =some bx:=e2
  simp only[Nat.beq_refl,QwT,hroom,Bool.and_self,Bool.true_and]
  rw[show Nat.blt 0 (Qah (z::x)).length=true from rfl,cond_true,hget,Option.bind_some,show Nat.ble (0+(k+(Qah (z::x)).length)*1) bx.length=true from Nat.ble_eq_true_of_le (by rw[Qac];omega),cond_true,Qac,Nat.mul_one,Nat.zero_add]
  rfl
end
end H
end Go.Proofs.YtoblgjmllmomhaaGreatDoor
namespace Go.Proofs.YtoblgjmllmomhaaGreatDoor.H
set_option maxRecDepth 100000
open Go Go.Proofs.Am
variable {m st f n i0 i1 i2 i3:Int} {ty im fu ta me gl ex el da cu l0 l1 l2 l3:LL} {r:LV×Heap} {T:AV} {F G:LV} {bt bm:Bool} {rest:List (List LV)} {h0 h1:Heap}
theorem h6_0 (k0:ltZ f (.ofNat 0)=true):
 bB m 17 [mV ty im fu ta me gl ex st el da cu,vI f] Heap.nil=some ((LV.tup [AV.agg [aM [],aM [],aM [],aB false,aB false,aM [],aI (.ofNat 0)],AV.ifc 56 (aI (.ofNat 5))],(Heap.mk [mL ty im fu ta me gl ex st el da cu] []))):=
 bY (qS [19] [] [] []) (tZ k0 (uT5 (tR ((LV.tup [AV.agg [aM [],aM [],aM [],aB false,aB false,aM [],aI (.ofNat 0)],AV.ifc 56 (aI (.ofNat 5))],(Heap.mk [mL ty im fu ta me gl ex st el da cu] [])))))) (by kernel_rfl)
theorem h6_1 (k0:ltZ f (.ofNat 0)=false)(k1:leZ (.ofNat fu.length) f=true):
 bB m 17 [mV ty im fu ta me gl ex st el da cu,vI f] Heap.nil=some ((LV.tup [AV.agg [aM [],aM [],aM [],aB false,aB false,aM [],aI (.ofNat 0)],AV.ifc 56 (aI (.ofNat 5))],(Heap.mk [mL ty im fu ta me gl ex st el da cu] []))):=
 bY (qS [26] [19] [] []) (tZ k0 (uF5 (tZ k1 (uT7 (tR ((LV.tup [AV.agg [aM [],aM [],aM [],aB false,aB false,aM [],aI (.ofNat 0)],AV.ifc 56 (aI (.ofNat 5))],(Heap.mk [mL ty im fu ta me gl ex st el da cu] [])))))))) (by kernel_rfl)
theorem h6_2 (k0:ltZ f (.ofNat 0)=false)(k1:leZ (.ofNat fu.length) f=false)(k2:ixA (aM fu) f 3=some [aI i0,aM l0,aM l1])(k3:ltZ i0 (.ofNat 0)=true):
 bB m 17 [mV ty im fu ta me gl ex st el da cu,vI f] Heap.nil=some ((LV.tup [AV.agg [aM [],aM [],aM [],aB false,aB false,aM [],aI (.ofNat 0)],AV.ifc 56 (aI (.ofNat 5))],(Heap.mk [mL ty im fu ta me gl ex st el da cu] []))):=
 bY (qS [35] [19,26] [(1,13,(LV.v (AV.snap [aI i0,aM l0,aM l1])))] []) (tZ k0 (uF5 (tZ k1 (uF3 (tA (tA t0 (tA tN (k2))) (uF4 (tZ k3 (uT9 (tA tT (tR ((LV.tup [AV.agg [aM [],aM [],aM [],aB false,aB false,aM [],aI (.ofNat 0)],AV.ifc 56 (aI (.ofNat 5))],(Heap.mk [mL ty im fu ta me gl ex st el da cu] []))))))))))))) (by kernel_rfl)
theorem h6_3 (k0:ltZ f (.ofNat 0)=false)(k1:leZ (.ofNat fu.length) f=false)(k2:ixA (aM fu) f 3=some [aI i0,aM l0,aM l1])(k3:ltZ i0 (.ofNat 0)=false)(k4:ixA (aM fu) f 3=some [aI i1,aM l2,aM l3])(k5:leZ (.ofNat ty.length) i1=true):
 bB m 17 [mV ty im fu ta me gl ex st el da cu,vI f] Heap.nil=some ((LV.tup [AV.agg [aM [],aM [],aM [],aB false,aB false,aM [],aI (.ofNat 0)],AV.ifc 56 (aI (.ofNat 5))],(Heap.mk [mL ty im fu ta me gl ex st el da cu] []))):=
 bY (qS [1099994] [19,26,35] [(1,13,(LV.v (AV.snap [aI i0,aM l0,aM l1]))),(1,22,(LV.v (AV.snap [aI i1,aM l2,aM l3])))] []) (tZ k0 (uF5 (tZ k1 (uF3 (tA (tA t0 (tA tN (k2))) (uF4 (tZ k3 (uF3 (tA (tA t0 (tA tN (k4))) (uF7 (tZ k5 (tR ((LV.tup [AV.agg [aM [],aM [],aM [],aB false,aB false,aM [],aI (.ofNat 0)],AV.ifc 56 (aI (.ofNat 5))],(Heap.mk [mL ty im fu ta me gl ex st el da cu] []))))))))))))))) (by kernel_rfl)
theorem QDb (k0:ltZ f (.ofNat 0)=false)(k1:leZ (.ofNat fu.length) f=false)(k2:ixA (aM fu) f 3=some [aI i2,aM l0,aM l1])(k3:ltZ i2 (.ofNat 0)=false)(k4:ixA (aM fu) f 3=some [aI i3,aM l2,aM l3])(k5:leZ (.ofNat ty.length) i3=false)(k6:Qbw [mV ty im fu ta me gl ex st el da cu,vI (.ofNat 1)]=true)(k7:cA m 36 [mV ty im fu ta me gl ex st el da cu,vI (.ofNat 1)] Heap.nil=some (vI i0,h0))(k8:Qbw [mV ty im fu ta me gl ex st el da cu,vI (.ofNat 2)]=true)(k9:cA m 36 [mV ty im fu ta me gl ex st el da cu,vI (.ofNat 2)] Heap.nil=some (vI i1,h1))(k10:bA m 17 5 [vI f,vP 0 0,LV.lp 0 0,vP 1 0,vM ty,vI (.ofNat ty.length),vI (.ofNat 0),LV.ow 2 [],LV.ow 1 [],LV.ow 11 [],vB false,vB false,LV.ow 1 [],vI (.ofNat 0)] (Heap.mk [mL ty im fu ta me gl ex st el da cu,[LV.v AV.nilS,LV.v AV.nilS,LV.v AV.nilS,vB (ltZ (.ofNat 0) i0),vB (ltZ (.ofNat 0) i1),LV.v AV.nilS,vI (.ofNat 0)]] [])=some r):
 bB m 17 [mV ty im fu ta me gl ex st el da cu,vI f] Heap.nil=some r:=
 bY (qS [] [19,26,35,1099994] [(1,13,(LV.v (AV.snap [aI i2,aM l0,aM l1]))),(1,22,(LV.v (AV.snap [aI i3,aM l2,aM l3])))] [(3,1,vI i0,h0),(3,4,vI i1,h1)]) (tZ k0 (uF5 (tZ k1 (uF3 (tA (tA t0 (tA tN (k2))) (uF4 (tZ k3 (uF3 (tA (tA t0 (tA tN (k4))) (uF7 (tZ k5 (tA k6 (tA k7 (tA t1 (tA k8 (tA k9 (u12 (k10)))))))))))))))))) (by kernel_rfl)
theorem QBz (k0:ltZ n (.ofNat 0)=true)(k1:apL F 1 8 [[aI (Int.negSucc 0)]]=some (LV.ow 1 l0)):
 bB m 38 [vI n,vP 0 0,vP 1 0] ⟨(mL ty im fu ta me gl ex st el da cu)::[.v T,F,G,vB bt,vB bm,.v .nilS,vI (.ofNat 0)]::rest,[]⟩=some ((LV.tup [],(Heap.mk ((mL ty im fu ta me gl ex st el da cu)::[LV.v T,LV.ow 1 l0,G,vB bt,vB bm,LV.v AV.nilS,vI (.ofNat 0)]::rest) []))):=
 bY (qS [6] [] [(2,4,(LV.ow 1 l0))] []) (tZ k0 (uT5 (u02 (tA t1 (tA k1 (tR ((LV.tup [],(Heap.mk ((mL ty im fu ta me gl ex st el da cu)::[LV.v T,LV.ow 1 l0,G,vB bt,vB bm,LV.v AV.nilS,vI (.ofNat 0)]::rest) []))))))))) (by kernel_rfl)
theorem QBy (k0:ltZ n (.ofNat 0)=false)(k1:leZ (.ofNat ty.length) n=true)(k2:apL F 1 8 [[aI (Int.negSucc 0)]]=some (LV.ow 1 l0)):
 bB m 38 [vI n,vP 0 0,vP 1 0] ⟨(mL ty im fu ta me gl ex st el da cu)::[.v T,F,G,vB bt,vB bm,.v .nilS,vI (.ofNat 0)]::rest,[]⟩=some ((LV.tup [],(Heap.mk ((mL ty im fu ta me gl ex st el da cu)::[LV.v T,LV.ow 1 l0,G,vB bt,vB bm,LV.v AV.nilS,vI (.ofNat 0)]::rest) []))):=
 bY (qS [1099996] [6] [(2,4,(LV.ow 1 l0))] []) (tZ k0 (uF5 (tZ k1 (u02 (tA t1 (tA k2 (tR ((LV.tup [],(Heap.mk ((mL ty im fu ta me gl ex st el da cu)::[LV.v T,LV.ow 1 l0,G,vB bt,vB bm,LV.v AV.nilS,vI (.ofNat 0)]::rest) [])))))))))) (by kernel_rfl)
theorem QBx (k0:ltZ n (.ofNat 0)=false)(k1:leZ (.ofNat ty.length) n=false)(k2:apL F 1 8 [[aI n]]=some (LV.ow 1 l0)):
 bB m 38 [vI n,vP 0 0,vP 1 0] ⟨(mL ty im fu ta me gl ex st el da cu)::[.v T,F,G,vB bt,vB bm,.v .nilS,vI (.ofNat 0)]::rest,[]⟩=some ((LV.tup [],(Heap.mk ((mL ty im fu ta me gl ex st el da cu)::[LV.v T,LV.ow 1 l0,G,vB bt,vB bm,LV.v AV.nilS,vI (.ofNat 0)]::rest) []))):=
 bY (qS [] [6,1099996] [(2,4,(LV.ow 1 l0))] []) (tZ k0 (uF5 (tZ k1 (u02 (tA t1 (tA k2 (tR ((LV.tup [],(Heap.mk ((mL ty im fu ta me gl ex st el da cu)::[LV.v T,LV.ow 1 l0,G,vB bt,vB bm,LV.v AV.nilS,vI (.ofNat 0)]::rest) [])))))))))) (by kernel_rfl)
end Go.Proofs.YtoblgjmllmomhaaGreatDoor.H
namespace Go.Proofs.YtoblgjmllmomhaaGreatDoor.H
set_option maxRecDepth 100000
open Go Go.Proofs.Am
variable {m f n st:Int} {i n0 n1 n2 n3 n4 n5:Nat} {xs ty im fu ta me gl ex el da cu l0 l1 l2 l3:LL} {T:AV} {F G:LV} {bt bm:Bool} {rest:List (List LV)} {r:LV×Heap} {h0 h1 h2 h3:Heap}
theorem QwE (k0:ltZ (.ofNat i) n=true)(k1:ixA (aM xs) (.ofNat i) 2=some [aM l0,aM l1])(k2:cA m 37 [vM l0] (Heap.mk ((mL ty im fu ta me gl ex st el da cu)::[LV.v T,F,G,vB bt,vB bm,LV.v AV.nilS,vI (.ofNat 0)]::rest) [])=some (LV.v (AV.arr 1 n0 0 n1),h0))(k3:cA m 37 [vM l1] h0=some (LV.v (AV.arr 1 n2 0 n3),h1))(k4:apG h1 T 2 48 [[AV.arr 1 n0 0 n1,AV.arr 1 n2 0 n3]]=some (AV.arr 2 n4 0 n5,h2))(k5:stP h2 (AV.ptr 1 0) [LV.v (AV.arr 2 n4 0 n5)]=some h3)(k6:bA m 17 5 [vI f,vP 0 0,LV.lp 0 0,vP 1 0,vM xs,vI n,vI (IntKind.wrap .i64 (.ofNat (Nat.succ i))),LV.ow 2 [],LV.ow 1 [],LV.ow 11 [],vB false,vB false,LV.ow 1 [],vI (.ofNat 0)] h3=some r):
 bA m 17 5 [vI f,vP 0 0,.lp 0 0,vP 1 0,vM xs,vI n,vI (.ofNat i),.ow 2 [],.ow 1 [],.ow 11 [],vB false,vB false,.ow 1 [],vI (.ofNat 0)] ⟨(mL ty im fu ta me gl ex st el da cu)::[.v T,F,G,vB bt,vB bm,.v .nilS,vI (.ofNat 0)]::rest,[]⟩=some r:=
 bY (qS [1099997] [] [(6,0,(LV.v (AV.snap [aM l0,aM l1])))] [(7,4,LV.v (AV.arr 1 n0 0 n1),h0),(7,7,LV.v (AV.arr 1 n2 0 n3),h1),(7,10,LV.v (AV.arr 2 n4 0 n5),h2),(7,12,LV.ud,h3)]) (tZ k0 (tA (tA t0 (tA tN (k1))) (tA k2 (tA k3 (u12 (tA k4 (tA t1 (tA t0 (tA tU (tA t1 (tA k5 (tA t1 (k6))))))))))))) (by kernel_rfl)
theorem QwD (k0:ltZ (.ofNat i) n=true)(k1:ixA (aM xs) (.ofNat i) 2=some [aM l1,aM l2])(k2:cA m 37 [vM l1] (Heap.mk ((mL ty im fu ta me gl ex st el da cu)::[LV.v T,F,G,vB bt,vB bm,LV.v AV.nilS,vI (.ofNat 0)]::rest) [])=some (LV.v (AV.arr 1 n0 0 n1),h0))(k3:cA m 37 [vM l2] h0=some (vM l0,h1))(k4:apG h1 T 2 48 [[AV.arr 1 n0 0 n1,aM l0]]=some (AV.arr 2 n2 0 n3,h2))(k5:stP h2 (AV.ptr 1 0) [LV.v (AV.arr 2 n2 0 n3)]=some h3)(k6:bA m 17 5 [vI f,vP 0 0,LV.lp 0 0,vP 1 0,vM xs,vI n,vI (IntKind.wrap .i64 (.ofNat (Nat.succ i))),LV.ow 2 [],LV.ow 1 [],LV.ow 11 [],vB false,vB false,LV.ow 1 [],vI (.ofNat 0)] h3=some r):
 bA m 17 5 [vI f,vP 0 0,.lp 0 0,vP 1 0,vM xs,vI n,vI (.ofNat i),.ow 2 [],.ow 1 [],.ow 11 [],vB false,vB false,.ow 1 [],vI (.ofNat 0)] ⟨(mL ty im fu ta me gl ex st el da cu)::[.v T,F,G,vB bt,vB bm,.v .nilS,vI (.ofNat 0)]::rest,[]⟩=some r:=
 bY (qS [1099997] [] [(6,0,(LV.v (AV.snap [aM l1,aM l2])))] [(7,4,LV.v (AV.arr 1 n0 0 n1),h0),(7,7,vM l0,h1),(7,10,LV.v (AV.arr 2 n2 0 n3),h2),(7,12,LV.ud,h3)]) (tZ k0 (tA (tA t0 (tA tN (k1))) (tA k2 (tA k3 (u12 (tA k4 (tA t1 (tA t0 (tA tU (tA t1 (tA k5 (tA t1 (k6))))))))))))) (by kernel_rfl)
theorem QwC (k0:ltZ (.ofNat i) n=true)(k1:ixA (aM xs) (.ofNat i) 2=some [aM l1,aM l2])(k2:cA m 37 [vM l1] (Heap.mk ((mL ty im fu ta me gl ex st el da cu)::[LV.v T,F,G,vB bt,vB bm,LV.v AV.nilS,vI (.ofNat 0)]::rest) [])=some (vM l0,h0))(k3:cA m 37 [vM l2] h0=some (LV.v (AV.arr 1 n0 0 n1),h1))(k4:apG h1 T 2 48 [[aM l0,AV.arr 1 n0 0 n1]]=some (AV.arr 2 n2 0 n3,h2))(k5:stP h2 (AV.ptr 1 0) [LV.v (AV.arr 2 n2 0 n3)]=some h3)(k6:bA m 17 5 [vI f,vP 0 0,LV.lp 0 0,vP 1 0,vM xs,vI n,vI (IntKind.wrap .i64 (.ofNat (Nat.succ i))),LV.ow 2 [],LV.ow 1 [],LV.ow 11 [],vB false,vB false,LV.ow 1 [],vI (.ofNat 0)] h3=some r):
 bA m 17 5 [vI f,vP 0 0,.lp 0 0,vP 1 0,vM xs,vI n,vI (.ofNat i),.ow 2 [],.ow 1 [],.ow 11 [],vB false,vB false,.ow 1 [],vI (.ofNat 0)] ⟨(mL ty im fu ta me gl ex st el da cu)::[.v T,F,G,vB bt,vB bm,.v .nilS,vI (.ofNat 0)]::rest,[]⟩=some r:=
 bY (qS [1099997] [] [(6,0,(LV.v (AV.snap [aM l1,aM l2])))] [(7,4,vM l0,h0),(7,7,LV.v (AV.arr 1 n0 0 n1),h1),(7,10,LV.v (AV.arr 2 n2 0 n3),h2),(7,12,LV.ud,h3)]) (tZ k0 (tA (tA t0 (tA tN (k1))) (tA k2 (tA k3 (u12 (tA k4 (tA t1 (tA t0 (tA tU (tA t1 (tA k5 (tA t1 (k6))))))))))))) (by kernel_rfl)
theorem QwB (k0:ltZ (.ofNat i) n=true)(k1:ixA (aM xs) (.ofNat i) 2=some [aM l2,aM l3])(k2:cA m 37 [vM l2] (Heap.mk ((mL ty im fu ta me gl ex st el da cu)::[LV.v T,F,G,vB bt,vB bm,LV.v AV.nilS,vI (.ofNat 0)]::rest) [])=some (vM l0,h0))(k3:cA m 37 [vM l3] h0=some (vM l1,h1))(k4:apG h1 T 2 48 [[aM l0,aM l1]]=some (AV.arr 2 n0 0 n1,h2))(k5:stP h2 (AV.ptr 1 0) [LV.v (AV.arr 2 n0 0 n1)]=some h3)(k6:bA m 17 5 [vI f,vP 0 0,LV.lp 0 0,vP 1 0,vM xs,vI n,vI (IntKind.wrap .i64 (.ofNat (Nat.succ i))),LV.ow 2 [],LV.ow 1 [],LV.ow 11 [],vB false,vB false,LV.ow 1 [],vI (.ofNat 0)] h3=some r):
 bA m 17 5 [vI f,vP 0 0,.lp 0 0,vP 1 0,vM xs,vI n,vI (.ofNat i),.ow 2 [],.ow 1 [],.ow 11 [],vB false,vB false,.ow 1 [],vI (.ofNat 0)] ⟨(mL ty im fu ta me gl ex st el da cu)::[.v T,F,G,vB bt,vB bm,.v .nilS,vI (.ofNat 0)]::rest,[]⟩=some r:=
 bY (qS [1099997] [] [(6,0,(LV.v (AV.snap [aM l2,aM l3])))] [(7,4,vM l0,h0),(7,7,vM l1,h1),(7,10,LV.v (AV.arr 2 n0 0 n1),h2),(7,12,LV.ud,h3)]) (tZ k0 (tA (tA t0 (tA tN (k1))) (tA k2 (tA k3 (u12 (tA k4 (tA t1 (tA t0 (tA tU (tA t1 (tA k5 (tA t1 (k6))))))))))))) (by kernel_rfl)
theorem QwA (k0:ltZ (.ofNat i) n=false)(k1:bA m 17 11 [vI f,vP 0 0,LV.lp 0 0,vP 1 0,LV.v (AV.fn 38 [] [AV.ptr 0 0,AV.ptr 1 0]),vM im,vI (.ofNat im.length),vI (.ofNat 0),LV.ow 2 [],LV.ow 1 [],LV.ow 11 [],vB false,vB false,LV.ow 1 [],vI (.ofNat 0)] (Heap.mk ((mL ty im fu ta me gl ex st el da cu)::[LV.v T,F,G,vB bt,vB bm,LV.v AV.nilS,vI (.ofNat 0)]::rest) [])=some r):
 bA m 17 5 [vI f,vP 0 0,.lp 0 0,vP 1 0,vM xs,vI n,vI (.ofNat i),.ow 2 [],.ow 1 [],.ow 11 [],vB false,vB false,.ow 1 [],vI (.ofNat 0)] ⟨(mL ty im fu ta me gl ex st el da cu)::[.v T,F,G,vB bt,vB bm,.v .nilS,vI (.ofNat 0)]::rest,[]⟩=some r:=
 bY (qS [] [1099997] [] []) (tZ k0 (tA t1 (k1))) (by kernel_rfl)
end Go.Proofs.YtoblgjmllmomhaaGreatDoor.H
namespace Go.Proofs.YtoblgjmllmomhaaGreatDoor.H
set_option maxRecDepth 100000
open Go Go.Proofs.Am
variable {m f n st i0:Int} {i:Nat} {xs ty im fu ta me gl ex el da cu l0 l1:LL} {T:AV} {F G:LV} {bt bm:Bool} {rest:List (List LV)} {r:LV×Heap} {h0:Heap}
theorem Qsf (k0:ltZ (.ofNat i) n=true)(k1:ixA (aM xs) (.ofNat i) 3=some [aI i0,aM l0,aM l1])(k2:cV m (AV.fn 38 [] [AV.ptr 0 0,AV.ptr 1 0]) [vI i0] (Heap.mk ((mL ty im fu ta me gl ex st el da cu)::[LV.v T,F,G,vB bt,vB bm,LV.v AV.nilS,vI (.ofNat 0)]::rest) [])=some (LV.tup [],h0))(k3:bA m 17 20 [vI f,vP 0 0,LV.lp 0 0,vP 1 0,LV.v (AV.fn 38 [] [AV.ptr 0 0,AV.ptr 1 0]),vM xs,vI n,vI (IntKind.wrap .i64 (.ofNat (Nat.succ i))),LV.ow 2 [],LV.ow 1 [],LV.ow 11 [],vB false,vB false,LV.ow 1 [],vI (.ofNat 0)] h0=some r):
 bA m 17 20 [vI f,vP 0 0,.lp 0 0,vP 1 0,.v (.fn 38 [] [.ptr 0 0,.ptr 1 0]),vM xs,vI n,vI (.ofNat i),.ow 2 [],.ow 1 [],.ow 11 [],vB false,vB false,.ow 1 [],vI (.ofNat 0)] ⟨(mL ty im fu ta me gl ex st el da cu)::[.v T,F,G,vB bt,vB bm,.v .nilS,vI (.ofNat 0)]::rest,[]⟩=some r:=
 bY (qS [1099997] [] [(21,0,(LV.v (AV.snap [aI i0,aM l0,aM l1])))] [(22,3,LV.tup [],h0)]) (tZ k0 (tA (tA t0 (tA tN (k1))) (tA k2 (tA t1 (k3))))) (by kernel_rfl)
theorem Qse (k0:ltZ (.ofNat i) n=false)(k1:bA m 17 25 [vI f,vP 0 0,LV.lp 0 0,vP 1 0,vM gl,vI (.ofNat gl.length),vI (.ofNat 0),LV.ow 2 [],LV.ow 1 [],LV.ow 11 [],vB false,vB false,LV.ow 1 [],vI (.ofNat 0)] (Heap.mk ((mL ty im fu ta me gl ex st el da cu)::[LV.v T,F,G,vB bt,vB bm,LV.v AV.nilS,vI (.ofNat 0)]::rest) [])=some r):
 bA m 17 20 [vI f,vP 0 0,.lp 0 0,vP 1 0,.v (.fn 38 [] [.ptr 0 0,.ptr 1 0]),vM xs,vI n,vI (.ofNat i),.ow 2 [],.ow 1 [],.ow 11 [],vB false,vB false,.ow 1 [],vI (.ofNat 0)] ⟨(mL ty im fu ta me gl ex st el da cu)::[.v T,F,G,vB bt,vB bm,.v .nilS,vI (.ofNat 0)]::rest,[]⟩=some r:=
 bY (qS [] [1099997] [] []) (tZ k0 (tA t1 (k1))) (by kernel_rfl)
end Go.Proofs.YtoblgjmllmomhaaGreatDoor.H
namespace Go.Proofs.YtoblgjmllmomhaaGreatDoor.H
set_option maxRecDepth 100000
open Go Go.Proofs.Am
variable {m f n st i0 i1 i2 i3:Int} {i:Nat} {xs ty im fu ta me gl ex el da cu l0:LL} {T:AV} {F G:LV} {bt bm b0 b1:Bool} {rest:List (List LV)} {r:LV×Heap} {h0:Heap} {s0 s1:ByteArray}
theorem Qsj (k0:ltZ (.ofNat i) n=true)(k1:ixA (aM xs) (.ofNat i) 8=some [aS s0,aS s1,aI i0,aI i1,aB b0,aI i2,aI i3,aB b1])(k2:eqZ i0 (.ofNat 0)=true)(k3:cV m (AV.fn 38 [] [AV.ptr 0 0,AV.ptr 1 0]) [vI i1] (Heap.mk ((mL ty im fu ta me gl ex st el da cu)::[LV.v T,F,G,vB bt,vB bm,LV.v AV.nilS,vI (.ofNat 0)]::rest) [])=some (LV.tup [],h0))(k4:bA m 17 11 [vI f,vP 0 0,LV.lp 0 0,vP 1 0,LV.v (AV.fn 38 [] [AV.ptr 0 0,AV.ptr 1 0]),vM xs,vI n,vI (IntKind.wrap .i64 (.ofNat (Nat.succ i))),LV.ow 2 [],LV.ow 1 [],LV.ow 11 [],vB false,vB false,LV.ow 1 [],vI (.ofNat 0)] h0=some r):
 bA m 17 11 [vI f,vP 0 0,.lp 0 0,vP 1 0,.v (.fn 38 [] [.ptr 0 0,.ptr 1 0]),vM xs,vI n,vI (.ofNat i),.ow 2 [],.ow 1 [],.ow 11 [],vB false,vB false,.ow 1 [],vI (.ofNat 0)] ⟨(mL ty im fu ta me gl ex st el da cu)::[.v T,F,G,vB bt,vB bm,.v .nilS,vI (.ofNat 0)]::rest,[]⟩=some r:=
 bY (qS [1099997,1099986] [] [(12,0,(LV.v (AV.snap [aS s0,aS s1,aI i0,aI i1,aB b0,aI i2,aI i3,aB b1])))] [(15,3,LV.tup [],h0)]) (tZ k0 (tA (tA t0 (tA tN (k1))) (tZ k2 (tA k3 (tA t1 (k4)))))) (by kernel_rfl)
theorem Qsi (k0:ltZ (.ofNat i) n=true)(k1:ixA (aM xs) (.ofNat i) 8=some [aS s0,aS s1,aI i0,aI i1,aB b0,aI i2,aI i3,aB b1])(k2:eqZ i0 (.ofNat 0)=false)(k3:eqZ i0 (.ofNat 3)=true)(k4:apL G 11 136 [[aI i1,aB b0,aI (.ofNat 0),aI (.ofNat 0),aI (.ofNat 0),AV.int IntKind.u64 (.ofNat 0),aI (.ofNat 0),aM [],aM [],aM [],aB false]]=some (LV.ow 11 l0))(k5:bA m 17 11 [vI f,vP 0 0,LV.lp 0 0,vP 1 0,LV.v (AV.fn 38 [] [AV.ptr 0 0,AV.ptr 1 0]),vM xs,vI n,vI (IntKind.wrap .i64 (.ofNat (Nat.succ i))),LV.ow 2 [],LV.ow 1 [],LV.ow 11 [],vB false,vB false,LV.ow 1 [],vI (.ofNat 0)] (Heap.mk ((mL ty im fu ta me gl ex st el da cu)::[LV.v T,F,LV.ow 11 l0,vB bt,vB bm,LV.v AV.nilS,vI (.ofNat 0)]::rest) [])=some r):
 bA m 17 11 [vI f,vP 0 0,.lp 0 0,vP 1 0,.v (.fn 38 [] [.ptr 0 0,.ptr 1 0]),vM xs,vI n,vI (.ofNat i),.ow 2 [],.ow 1 [],.ow 11 [],vB false,vB false,.ow 1 [],vI (.ofNat 0)] ⟨(mL ty im fu ta me gl ex st el da cu)::[.v T,F,G,vB bt,vB bm,.v .nilS,vI (.ofNat 0)]::rest,[]⟩=some r:=
 bY (qS [1099997,1099983] [1099986] [(12,0,(LV.v (AV.snap [aS s0,aS s1,aI i0,aI i1,aB b0,aI i2,aI i3,aB b1]))),(17,8,(LV.ow 11 l0))] []) (tZ k0 (tA (tA t0 (tA tN (k1))) (tZ k2 (tZ k3 (u02 (tA t1 (tA k4 (tA t1 (k5))))))))) (by kernel_rfl)
theorem Qsh (k0:ltZ (.ofNat i) n=true)(k1:ixA (aM xs) (.ofNat i) 8=some [aS s0,aS s1,aI i0,aI i1,aB b0,aI i2,aI i3,aB b1])(k2:eqZ i0 (.ofNat 0)=false)(k3:eqZ i0 (.ofNat 3)=false)(k4:bA m 17 11 [vI f,vP 0 0,LV.lp 0 0,vP 1 0,LV.v (AV.fn 38 [] [AV.ptr 0 0,AV.ptr 1 0]),vM xs,vI n,vI (IntKind.wrap .i64 (.ofNat (Nat.succ i))),LV.ow 2 [],LV.ow 1 [],LV.ow 11 [],vB false,vB false,LV.ow 1 [],vI (.ofNat 0)] (Heap.mk ((mL ty im fu ta me gl ex st el da cu)::[LV.v T,F,G,vB bt,vB bm,LV.v AV.nilS,vI (.ofNat 0)]::rest) [])=some r):
 bA m 17 11 [vI f,vP 0 0,.lp 0 0,vP 1 0,.v (.fn 38 [] [.ptr 0 0,.ptr 1 0]),vM xs,vI n,vI (.ofNat i),.ow 2 [],.ow 1 [],.ow 11 [],vB false,vB false,.ow 1 [],vI (.ofNat 0)] ⟨(mL ty im fu ta me gl ex st el da cu)::[.v T,F,G,vB bt,vB bm,.v .nilS,vI (.ofNat 0)]::rest,[]⟩=some r:=
 bY (qS [1099997] [1099986,1099983] [(12,0,(LV.v (AV.snap [aS s0,aS s1,aI i0,aI i1,aB b0,aI i2,aI i3,aB b1])))] []) (tZ k0 (tA (tA t0 (tA tN (k1))) (tZ k2 (tZ k3 (tA t1 (k4)))))) (by kernel_rfl)
theorem Qsg (k0:ltZ (.ofNat i) n=false)(k1:bA m 17 20 [vI f,vP 0 0,LV.lp 0 0,vP 1 0,LV.v (AV.fn 38 [] [AV.ptr 0 0,AV.ptr 1 0]),vM fu,vI (.ofNat fu.length),vI (.ofNat 0),LV.ow 2 [],LV.ow 1 [],LV.ow 11 [],vB false,vB false,LV.ow 1 [],vI (.ofNat 0)] (Heap.mk ((mL ty im fu ta me gl ex st el da cu)::[LV.v T,F,G,vB bt,vB bm,LV.v AV.nilS,vI (.ofNat 0)]::rest) [])=some r):
 bA m 17 11 [vI f,vP 0 0,.lp 0 0,vP 1 0,.v (.fn 38 [] [.ptr 0 0,.ptr 1 0]),vM xs,vI n,vI (.ofNat i),.ow 2 [],.ow 1 [],.ow 11 [],vB false,vB false,.ow 1 [],vI (.ofNat 0)] ⟨(mL ty im fu ta me gl ex st el da cu)::[.v T,F,G,vB bt,vB bm,.v .nilS,vI (.ofNat 0)]::rest,[]⟩=some r:=
 bY (qS [] [1099997] [] []) (tZ k0 (tA t1 (k1))) (by kernel_rfl)
end Go.Proofs.YtoblgjmllmomhaaGreatDoor.H
namespace Go.Proofs.YtoblgjmllmomhaaGreatDoor.H
set_option maxRecDepth 100000
open Go Go.Proofs.Am
variable {m:Int} {h:Heap} {r:LV×Heap}
theorem Qhk (k0:bA m 39 11 [LV.v AV.nilS,vM [[aM []],[aM []]],vI (.ofNat 2),vI (.ofNat 1)] h=some r):
 bA m 39 11 [.v .nilS,vM [[aM []],[aM []]],vI (.ofNat 2),vI (.ofNat 0)] h=some r:=
 bY (qS [] [] [] []) (tA t1 (k0)) (by kernel_rfl)
theorem Qhj (k0:bA m 39 11 [LV.v AV.nilS,vM [[aM []],[aM []]],vI (.ofNat 2),vI (.ofNat 2)] h=some r):
 bA m 39 11 [.v .nilS,vM [[aM []],[aM []]],vI (.ofNat 2),vI (.ofNat 1)] h=some r:=
 bY (qS [] [] [] []) (tA t1 (k0)) (by kernel_rfl)
theorem Qhi:
 bA m 39 11 [.v .nilS,vM [[aM []],[aM []]],vI (.ofNat 2),vI (.ofNat 2)] h=some ((LV.v AV.nilS,h)):=
 bY (qS [] [] [] []) (tR ((LV.v AV.nilS,h))) (by kernel_rfl)
end Go.Proofs.YtoblgjmllmomhaaGreatDoor.H
