/-
  CopyModule: a module in new memory is the same.
-/
import Derived.Test.YtoblgjmllmomhaaGreatDoorAmS15wJ
import Derived.Test.YtoblgjmllmomhaaGreatDoorAmPYHwG
import Derived.Test.YtoblgjmllmomhaaGreatDoorAmPYd
import Derived.Test.YtoblgjmllmomhaaGreatDoorAmEq
import Derived.Test.YtoblgjmllmomhaaGreatDoorAmSVwI
import Derived.Test.YtoblgjmllmomhaaGreatDoorAmBodyF
import Derived.Test.YtoblgjmllmomhaaGreatDoorAmPYwC
import Derived.Test.YtoblgjmllmomhaaGreatDoorAmSVwM
namespace Go.Proofs.YtoblgjmllmomhaaGreatDoor
set_option maxRecDepth 100000
open Go Go.RowKit Go.Proofs.Am
section
variable {m:Int} {h:Heap}
def Qts (M:Mdl)(x:Imp):Option Int:=
 if x.k<0 then some 4 else if 3<x.k then some 4
 else if x.k=0 then(if Qjp M x.t=true then none else some 5)
 else if x.k=3 then(if odd x.t=true then some 4 else if x.mu=true then some 4 else none)
 else if x.k=1 then(if Qif x.l 64=true then none else some 7)
 else if Qif x.l 16=true then none else some 7
theorem QBr (M:Mdl)(x:Imp):Qab (cxZ m) (blk (cxZ m)) 64 [eM M,.v (.agg x.enc)] h=some (.v (Qcm (Qts M x)),h):=by
 have c1:=Qvl (m:=m) (h:=h) M x.t
 have c2:=Qha (m:=m) (h:=h) x.t
 have c3:=QnU (m:=m) (h:=h) x.l 64
 have c4:=QnU (m:=m) (h:=h) x.l 16
 obtain⟨mo,na,k,t,mu,⟨lo,hi,hs⟩⟩:=x
 unfold Qts
 simp only at c1 c2 c3 c4⊢
 by_cases h0:k<0
 ·rw[if_pos h0]
  exact Qaa rfl rfl (by kernel_rfl) (QzX (k0:=Qae (b:=Int.ofNat 0) h0))
 rw[if_neg h0]
 have k0:ltZ k (Int.ofNat 0)=false:=Qaf (b:=Int.ofNat 0) (Int.not_lt.1 h0)
 by_cases h3:3<k
 ·rw[if_pos h3]
  exact Qaa rfl rfl (by kernel_rfl) (QzW (k0:=k0) (k1:=Qae (a:=Int.ofNat 3) h3))
 rw[if_neg h3]
 have k1:ltZ (Int.ofNat 3) k=false:=Qaf (a:=Int.ofNat 3) (Int.not_lt.1 h3)
 by_cases e0:k=0
 ·rw[if_pos e0]
  subst e0
  cases q:Qjp M t with
  |false=>
   rw[q]at c1
   exact Qaa rfl rfl (by kernel_rfl) (QzV (k0:=k0) (k1:=k1) (k2:=rfl) (k3:=c1) (k4:=rfl))
  |true=>
   rw[q]at c1
   exact Qaa rfl rfl (by kernel_rfl) (QuI (k0:=k0) (k1:=k1) (k2:=rfl) (k3:=c1) (k4:=rfl) (k5:=rfl) (k6:=rfl) (k7:=rfl))
 rw[if_neg e0]
 have k2:eqZ k (Int.ofNat 0)=false:=Qaw (b:=Int.ofNat 0) e0
 by_cases e3:k=3
 ·rw[if_pos e3]
  subst e3
  cases q:odd t with
  |true=>
   rw[q]at c2
   exact Qaa rfl rfl (by kernel_rfl) (QuH (k0:=k0) (k1:=k1) (k2:=k2) (k3:=rfl) (k4:=c2) (k5:=rfl))
  |false=>
   rw[q]at c2
   cases mu with
   |true=>exact Qaa rfl rfl (by kernel_rfl) (QuG (k0:=k0) (k1:=k1) (k2:=k2) (k3:=rfl) (k4:=c2) (k5:=rfl) (k6:=rfl))
   |false=>exact Qaa rfl rfl (by kernel_rfl) (QuF (k0:=k0) (k1:=k1) (k2:=k2) (k3:=rfl) (k4:=c2) (k5:=rfl) (k6:=rfl) (k7:=rfl) (k8:=rfl))
 rw[if_neg e3]
 have k3:eqZ k (Int.ofNat 3)=false:=Qaw (b:=Int.ofNat 3) e3
 by_cases e1:k=1
 ·rw[if_pos e1]
  subst e1
  cases q:Qif ⟨lo,hi,hs⟩ 64 with
  |false=>
   rw[q]at c3
   exact Qaa rfl rfl (by kernel_rfl) (QuE (k0:=k0) (k1:=k1) (k2:=k2) (k3:=k3) (k4:=rfl) (k5:=c3) (k6:=rfl))
  |true=>
   rw[q]at c3
   exact Qaa rfl rfl (by kernel_rfl) (QuD (k0:=k0) (k1:=k1) (k2:=k2) (k3:=k3) (k4:=rfl) (k5:=c3) (k6:=rfl) (k7:=rfl))
 rw[if_neg e1]
 have e2:k=2:=by omega
 subst e2
 cases q:Qif ⟨lo,hi,hs⟩ 16 with
 |false=>
  rw[q]at c4
  exact Qaa rfl rfl (by kernel_rfl) (QuC (k0:=k0) (k1:=k1) (k2:=k2) (k3:=k3) (k4:=rfl) (k5:=rfl) (k6:=c4) (k7:=rfl))
 |true=>
  rw[q]at c4
  exact Qaa rfl rfl (by kernel_rfl) (QuB (k0:=k0) (k1:=k1) (k2:=k2) (k3:=k3) (k4:=rfl) (k5:=rfl) (k6:=c4) (k7:=rfl))
def spN (M:Mdl)(k:Int):Nat:=(QcE M k).length+Qkc M k
theorem Qtl {M:Mdl}(hS:Small M)(k:Int)(h:Heap):Qab (cxZ m) (blk (cxZ m)) 36 [eM M,.v (.int .i64 k)] h=some (.v (.int .i64 (Int.ofNat (spN M k))),h):=t11 m hS k h
def QxJ (M:Mdl)(x:MFn):Option Int:=if Qjp M x.t=true then(if x.l.any odd=true then some 4 else none)else some 5
theorem Qvx {M:Mdl}(hM:Bk M):∀(d i:Nat),i+d=M.fu.length→
 blk (cxZ m) 29 (at_ Tryz.prog 29 14) ([.lp 0 0,.v (.imm (M.fu.map MFn.enc)),.v (.int .i64 (Int.ofNat M.fu.length)),.v (.int .i64 (Int.ofNat i))]++mC M) h=some (.v (Qcm (Qax (QxJ M) (M.fu.drop i))),h)
 |0,i,hi=>by
  rw[List.drop_of_length_le (by omega)]
  exact QmT (k0:=Qaf (by rw[ofN,ofN];omega))
 |d+1,i,hi=>by
  have hx:M.fu[i]? =some M.fu[i]:=List.getElem?_eq_getElem (by omega)
  have hm:=hM.fl M.fu[i] (List.getElem_mem _)
  have hfu:=hM.fu
  have k0:ltZ (Int.ofNat i) (Int.ofNat M.fu.length)=true:=Qae (by rw[ofN,ofN];omega)
  rw[Qag hx]
  have ih:=Qvx hM d (i+1) (by omega)
  generalize M.fu[i]=x at hx hm⊢
  have k1:ixA (.imm (M.fu.map MFn.enc)) (Int.ofNat i) 3=some x.enc:=Qaj hx x.enc_len
  have c1:=Qvl (m:=m) (h:=h) M x.t
  have c2:=Qfn (m:=m) (h:=h) (l:=x.l) (by omega)
  unfold Qax QxJ
  cases q:Qjp M x.t with
  |false=>
   rw[q]at c1
   exact QmW (k0:=k0) (k1:=k1) (k2:=c1) (k3:=rfl)
  |true=>
   rw[q]at c1
   cases q2:x.l.any odd with
   |true=>
    rw[q2]at c2
    exact QmV (k0:=k0) (k1:=k1) (k2:=c1) (k3:=rfl) (k4:=c2) (k5:=rfl)
   |false=>
    rw[q2]at c2
    exact QmU (k0:=k0) (k1:=k1) (k2:=c1) (k3:=rfl) (k4:=c2) (k5:=rfl) (k6:=by rw[Qas (by omega)];exact ih)
def QxB (M:Mdl):Option Int:=
 if(M.ta.any fun x=>!Qif x 64)=true then some 7 else if(M.me.any fun x=>!Qif x 16)=true then some 7
 else if 1<spN M 1 then some 6 else if 1<spN M 2 then some 6 else Qax (QxJ M) M.fu
theorem QCj {M:Mdl}(hM:Bk M)(hS:Small M):∀(d i:Nat),i+d=M.im.length→
 blk (cxZ m) 29 (at_ Tryz.prog 29 2) ([.lp 0 0,.v (.imm (M.im.map Imp.enc)),.v (.int .i64 (Int.ofNat M.im.length)),.v (.int .i64 (Int.ofNat i))]++mC M) h=some (.v (Qcm (orE (Qax (Qts M) (M.im.drop i)) (QxB M))),h)
 |0,i,hi=>by
  rw[List.drop_of_length_le (by omega)]
  have k0:ltZ (Int.ofNat i) (Int.ofNat M.im.length)=false:=Qaf (by rw[ofN,ofN];omega)
  have c1:=Qvt (m:=m) (h:=h) (l:=M.ta) (by have:=hM.ta;omega)
  have c2:=Qv9 (m:=m) (h:=h) (l:=M.me) (by have:=hM.me;omega)
  have c3:=Qtl (m:=m) hS 1 h
  have c4:=Qtl (m:=m) hS 2 h
  have c5:=Qvx (m:=m) (h:=h) hM M.fu.length 0 (by omega)
  unfold Qax orE QxB
  simp only
  cases q1:M.ta.any fun x=>!Qif x 64 with
  |true=>rw[q1]at c1;exact QqI (k0:=k0) (k1:=c1) (k2:=rfl)
  |false=>
   rw[q1]at c1
   cases q2:M.me.any fun x=>!Qif x 16 with
   |true=>rw[q2]at c2;exact QqH (k0:=k0) (k1:=c1) (k2:=rfl) (k3:=c2) (k4:=rfl)
   |false=>
    rw[q2]at c2
    rw[if_neg (by decide),if_neg (by decide)]
    by_cases q3:1<spN M 1
    ·rw[if_pos q3]
     exact QqG (k0:=k0) (k1:=c1) (k2:=rfl) (k3:=c2) (k4:=rfl) (k5:=c3) (k6:=Qae (by rw[ofN,ofN];omega))
    ·rw[if_neg q3]
     by_cases q4:1<spN M 2
     ·rw[if_pos q4]
      exact QqF (k0:=k0) (k1:=c1) (k2:=rfl) (k3:=c2) (k4:=rfl) (k5:=c3) (k6:=Qaf (by rw[ofN,ofN];omega)) (k7:=c4) (k8:=Qae (by rw[ofN,ofN];omega))
     ·rw[if_neg q4]
      exact QqE (k0:=k0) (k1:=c1) (k2:=rfl) (k3:=c2) (k4:=rfl) (k5:=c3) (k6:=Qaf (by rw[ofN,ofN];omega)) (k7:=c4) (k8:=Qaf (by rw[ofN,ofN];omega)) (k9:=by rw[List.length_map];exact c5)
 |d+1,i,hi=>by
  have hx:M.im[i]? =some M.im[i]:=List.getElem?_eq_getElem (by omega)
  have him:=hM.im
  have k0:ltZ (Int.ofNat i) (Int.ofNat M.im.length)=true:=Qae (by rw[ofN,ofN];omega)
  rw[Qag hx]
  have ih:=QCj hM hS d (i+1) (by omega)
  generalize M.im[i]=x at hx⊢
  have k1:ixA (.imm (M.im.map Imp.enc)) (Int.ofNat i) 8=some x.enc:=Qaj hx x.enc_len
  have c1:=QBr (m:=m) (h:=h) M x
  have hq:=Qaz (Qts M x)
  rw[Qax]
  cases q:Qts M x with
  |some c=>
   rw[q]at c1 hq
   obtain⟨mo,na,k,t,mu,⟨lo,hi,hs⟩⟩:=x
   exact QqK (k0:=k0) (k1:=k1) (k2:=c1) (k3:=hq) (k4:=rfl)
  |none=>
   rw[q]at c1 hq
   obtain⟨mo,na,k,t,mu,⟨lo,hi,hs⟩⟩:=x
   exact QqJ (k0:=k0) (k1:=k1) (k2:=c1) (k3:=hq) (k4:=rfl) (k5:=by rw[Qas (by omega)];exact ih)
def spE (M:Mdl):Option Int:=orE (Qax (Qts M) M.im) (QxB M)
theorem Qnn {M:Mdl}(hM:Bk M)(hS:Small M)(h:Heap):Qab (cxZ m) (blk (cxZ m)) 29 [eM M] h=some (.v (Qcm (spE M)),h):=by
 have:=QCj (m:=m) (h:=h) hM hS M.im.length 0 (by omega)
 exact Qaa rfl rfl (by kernel_rfl) (QAb (k0:=by rw[List.length_map];exact this))
def ggB (r:OpR):Bool:=r.nm.toList==(ByteArray.mk #[103,108,111,98,97,108,46,103,101,116]).toList
def QBT (M:Mdl)(a w:Int):Option Int:=
 match gT M a with
 |some (k,_,far)=>if far=true then(if k=w then none else some 4)else some 5
 |none=>some 5
def QCx (M:Mdl)(o a:Int)(x:Ins)(w:Int):Option Int:=
 match opI o with
 |none=>some 4
 |some r=>if Qfq opI [x]=true then(if r.kind=10∧r.gives=w then none else if ggB r=true then QBT M a w else some 4)else some 4
def Qjq (M:Mdl):Ins→Int→Option Int
 |.mk o a b v t l bd el q,w=>QCx M o a (.mk o a b v t l bd el q) w
theorem QsR {M:Mdl}(hS:Small M){x:Ins}(hx:cL [x]<2^62)(w:Int):Qab (cxZ m) (blk (cxZ m)) 70 [eM M,.v (.agg (Qbx x)),.v (.int .i64 w)] h=some (.v (Qcm (Qjq M x w)),h):=by
 have cm:=Qo2 (m:=m) hx h
 obtain⟨o,a,b,v,t,l,bd,el,q⟩:=x
 unfold Qjq QCx
 simp only
 cases hop:opI o with
 |none=>
  rcases Qcg o with⟨_,_,_,hr,_⟩|⟨_,hno⟩
  ·rw[hop]at hr;cases hr
  obtain⟨ob,nm,k,tk,gv,bz,sg,c,hlk⟩:=Qhh hno
  have hlk2:(Qav o,h)=(LV.tup [opA ob nm k tk gv bz sg,Qcm (some c)],h):=by rw[hlk];rfl
  exact Qaa rfl rfl (by kernel_rfl) (QzK (k0:=hlk2) (k1:=Qaz (some c)) (k2:=rfl))
 |some r=>
  have k0:(Qav o,h)=(LV.tup [opA r.byte r.nm r.kind (Qah r.takes) r.gives r.bytes r.sg,.nilI],h):=by
   have:=Qfl hop
   unfold opI at*
   rw[this]
  have k1:=Qaz none
  simp only
  cases qm:Qfq opI [.mk o a b v t l bd el q]with
  |false=>
   rw[qm]at cm
   exact Qaa rfl rfl (by kernel_rfl) (QzJ (k0:=k0) (k1:=k1) (k2:=rfl) (k3:=cm) (k4:=rfl))
  |true=>
   rw[qm]at cm
   rw[if_pos rfl]
   have cg:=t16 m hS a h
   unfold QBC at cg
   have hgg:(!ByteArray.toList r.nm==ByteArray.toList {data:= #[103,108,111,98,97,108,46,103,101,116]})=!ggB r:=rfl
   by_cases h10:r.kind=10
   ·have e10:=QaC (b:=Int.ofNat 10) h10
    by_cases hg:r.gives=w
    ·rw[if_pos ⟨h10,hg⟩]
     exact Qaa rfl rfl (by kernel_rfl) (QzI (k0:=k0) (k1:=k1) (k2:=rfl) (k3:=cm) (k4:=rfl) (k5:=e10) (k6:=QaC hg))
    ·rw[if_neg (fun hh=>hg hh.2)]
     have eg:=Qaw hg
     cases qg:ggB r with
     |false=>
      rw[qg]at hgg
      exact Qaa rfl rfl (by kernel_rfl) (QzH (k0:=k0) (k1:=k1) (k2:=rfl) (k3:=cm) (k4:=rfl) (k5:=e10) (k6:=eg) (k7:=hgg))
     |true=>
      rw[qg]at hgg
      rw[if_pos rfl]
      unfold QBT
      cases hgt:gT M a with
      |none=>
       rw[hgt]at cg
       exact Qaa rfl rfl (by kernel_rfl) (QzG (k0:=k0) (k1:=k1) (k2:=rfl) (k3:=cm) (k4:=rfl) (k5:=e10) (k6:=eg) (k7:=hgg) (k8:=cg) (k9:=Qaz (some 5)) (k10:=rfl))
      |some y=>
       obtain⟨gk,gq,far⟩:=y
       rw[hgt]at cg
       simp only at cg⊢
       cases far with
       |false=>exact Qaa rfl rfl (by kernel_rfl) (QzF (k0:=k0) (k1:=k1) (k2:=rfl) (k3:=cm) (k4:=rfl) (k5:=e10) (k6:=eg) (k7:=hgg) (k8:=cg) (k9:=k1) (k10:=rfl) (k11:=rfl))
       |true=>
        rw[if_pos rfl]
        by_cases hk:gk=w
        ·rw[if_pos hk]
         exact Qaa rfl rfl (by kernel_rfl) (QzD (k0:=k0) (k1:=k1) (k2:=rfl) (k3:=cm) (k4:=rfl) (k5:=e10) (k6:=eg) (k7:=hgg) (k8:=cg) (k9:=k1) (k10:=rfl) (k11:=rfl) (k12:=congrArg not (QaC hk)))
        ·rw[if_neg hk]
         exact Qaa rfl rfl (by kernel_rfl) (QzE (k0:=k0) (k1:=k1) (k2:=rfl) (k3:=cm) (k4:=rfl) (k5:=e10) (k6:=eg) (k7:=hgg) (k8:=cg) (k9:=k1) (k10:=rfl) (k11:=rfl) (k12:=congrArg not (Qaw hk)))
   ·have e10:=Qaw (b:=Int.ofNat 10) h10
    rw[if_neg (fun hh=>h10 hh.1)]
    cases qg:ggB r with
    |false=>
     rw[qg]at hgg
     exact Qaa rfl rfl (by kernel_rfl) (QzC (k0:=k0) (k1:=k1) (k2:=rfl) (k3:=cm) (k4:=rfl) (k5:=e10) (k6:=hgg))
    |true=>
     rw[qg]at hgg
     rw[if_pos rfl]
     unfold QBT
     cases hgt:gT M a with
     |none=>
      rw[hgt]at cg
      exact Qaa rfl rfl (by kernel_rfl) (QzB (k0:=k0) (k1:=k1) (k2:=rfl) (k3:=cm) (k4:=rfl) (k5:=e10) (k6:=hgg) (k7:=cg) (k8:=Qaz (some 5)) (k9:=rfl))
     |some y=>
      obtain⟨gk,gq,far⟩:=y
      rw[hgt]at cg
      simp only at cg⊢
      cases far with
      |false=>exact Qaa rfl rfl (by kernel_rfl) (QuA (k0:=k0) (k1:=k1) (k2:=rfl) (k3:=cm) (k4:=rfl) (k5:=e10) (k6:=hgg) (k7:=cg) (k8:=k1) (k9:=rfl) (k10:=rfl))
      |true=>
       rw[if_pos rfl]
       by_cases hk:gk=w
       ·rw[if_pos hk]
        exact Qaa rfl rfl (by kernel_rfl) (Quy (k0:=k0) (k1:=k1) (k2:=rfl) (k3:=cm) (k4:=rfl) (k5:=e10) (k6:=hgg) (k7:=cg) (k8:=k1) (k9:=rfl) (k10:=rfl) (k11:=congrArg not (QaC hk)))
       ·rw[if_neg hk]
        exact Qaa rfl rfl (by kernel_rfl) (Quz (k0:=k0) (k1:=k1) (k2:=rfl) (k3:=cm) (k4:=rfl) (k5:=e10) (k6:=hgg) (k7:=cg) (k8:=k1) (k9:=rfl) (k10:=rfl) (k11:=congrArg not (Qaw hk)))
end
end Go.Proofs.YtoblgjmllmomhaaGreatDoor
namespace Go.Proofs.YtoblgjmllmomhaaGreatDoor
set_option maxRecDepth 100000
open Go Go.RowKit Go.Proofs.Am
section
variable {m:Int} {h:Heap}
theorem Qgm {xs:List Int}{fv:AV}{F:Int→Bool}(hf:∀x,x∈xs→QaK (cxZ m) (blk (cxZ m)) fv [.v (.int .i64 x)] h=some (.v (.bool (F x)),h))(hl:xs.length<2^62):∀(k i:Nat),i+k=xs.length→
 ∃z:Int,blk (cxZ m) 86 (at_ Tryz.prog 86 2) [.v (.imm (xs.map (fun x=>[AV.int .i64 x]))),.v fv,.v (.int .i64 (Int.ofNat xs.length)),.v (.int .i64 (Int.ofNat i))] h=some (.v (.int .i64 z),h)∧leZ (Int.ofNat 0) z=(xs.drop i).any F
 |0,i,hi=>by
  rw[List.drop_of_length_le (by omega)]
  exact⟨_,QjB (k0:=Qaf (by rw[ofN,ofN];omega)),rfl⟩
 |k+1,i,hi=>by
  have h1:xs[i]? =some xs[i]:=List.getElem?_eq_getElem (by omega)
  have e1:ixA (.imm (xs.map (fun x=>[AV.int .i64 x]))) (Int.ofNat i) 1=some ((fun x=>[AV.int .i64 x]) xs[i]):=Qaj (f:=(fun x=>[AV.int .i64 x])) h1 rfl
  have hv:=hf xs[i] (List.getElem_mem _)
  rw[Qag h1,List.any_cons]
  obtain⟨z,hz,he⟩:=Qgm hf hl k (i+1) (by omega)
  generalize xs[i]=x at e1 hv⊢
  cases hq:F x with
  |true=>
   rw[hq]at hv
   exact⟨_,QjD (k0:=Qae (by rw[ofN,ofN];omega)) (k1:=e1) (k2:=hv) (k3:=rfl),by rw[Bool.true_or];exact Qbi (by rw[ofN,ofN];omega)⟩
  |false=>
   rw[hq]at hv
   exact⟨z,QjC (k0:=Qae (by rw[ofN,ofN];omega)) (k1:=e1) (k2:=hv) (k3:=rfl) (k4:=by rw[Qas (by omega)];exact hz),by rw[Bool.false_or];exact he⟩
theorem QDa {xs:List Int}{fv:AV}{F:Int→Bool}(hf:∀x,x∈xs→QaK (cxZ m) (blk (cxZ m)) fv [.v (.int .i64 x)] h=some (.v (.bool (F x)),h))(hl:xs.length<2^62):
 Qab (cxZ m) (blk (cxZ m)) 47 [.v (.imm (xs.map (fun x=>[AV.int .i64 x]))),.v fv] h=some (.v (.bool (xs.any F)),h):=by
 obtain⟨z,hz,he⟩:=Qgm (m:=m) (h:=h) hf hl xs.length 0 (by omega)
 rw[List.drop_zero]at he
 rw[←he]
 refine Qaa rfl rfl (by kernel_rfl) (Qui (k0:=Qaa rfl rfl (by kernel_rfl) (Qug (k0:=?_))))
 rw[List.length_map]
 exact hz
theorem Qgl {xs:List Exq}{fv:AV}{F:Exq→Bool}(hf:∀x,x∈xs→QaK (cxZ m) (blk (cxZ m)) fv [.v (.agg x.enc)] h=some (.v (.bool (F x)),h))(hl:xs.length<2^62):∀(k i:Nat),i+k=xs.length→
 ∃z:Int,blk (cxZ m) 115 (at_ Tryz.prog 115 2) [.v (.imm (xs.map Exq.enc)),.v fv,.v (.int .i64 (Int.ofNat xs.length)),.v (.int .i64 (Int.ofNat i))] h=some (.v (.int .i64 z),h)∧leZ (Int.ofNat 0) z=(xs.drop i).any F
 |0,i,hi=>by
  rw[List.drop_of_length_le (by omega)]
  exact⟨_,QhH (k0:=Qaf (by rw[ofN,ofN];omega)),rfl⟩
 |k+1,i,hi=>by
  have h1:xs[i]? =some xs[i]:=List.getElem?_eq_getElem (by omega)
  have e1:ixA (.imm (xs.map Exq.enc)) (Int.ofNat i) 3=some (Exq.enc xs[i]):=Qaj (f:=Exq.enc) h1 (Exq.enc_len _)
  have hv:=hf xs[i] (List.getElem_mem _)
  rw[Qag h1,List.any_cons]
  obtain⟨z,hz,he⟩:=Qgl hf hl k (i+1) (by omega)
  generalize xs[i]=x at e1 hv⊢
  obtain⟨na,kk,ii⟩:=x
  cases hq:F ⟨na,kk,ii⟩with
  |true=>
   rw[hq]at hv
   exact⟨_,QhJ (k0:=Qae (by rw[ofN,ofN];omega)) (k1:=e1) (k2:=hv) (k3:=rfl),by rw[Bool.true_or];exact Qbi (by rw[ofN,ofN];omega)⟩
  |false=>
   rw[hq]at hv
   exact⟨z,QhI (k0:=Qae (by rw[ofN,ofN];omega)) (k1:=e1) (k2:=hv) (k3:=rfl) (k4:=by rw[Qas (by omega)];exact hz),by rw[Bool.false_or];exact he⟩
theorem QC9 {xs:List Exq}{fv:AV}{F:Exq→Bool}(hf:∀x,x∈xs→QaK (cxZ m) (blk (cxZ m)) fv [.v (.agg x.enc)] h=some (.v (.bool (F x)),h))(hl:xs.length<2^62):
 Qab (cxZ m) (blk (cxZ m)) 74 [.v (.imm (xs.map Exq.enc)),.v fv] h=some (.v (.bool (xs.any F)),h):=by
 obtain⟨z,hz,he⟩:=Qgl (m:=m) (h:=h) hf hl xs.length 0 (by omega)
 rw[List.drop_zero]at he
 rw[←he]
 refine Qaa rfl rfl (by kernel_rfl) (Qux (k0:=Qaa rfl rfl (by kernel_rfl) (QoG (k0:=?_))))
 rw[List.length_map]
 exact hz
def Qsm (M:Mdl)(x:Glo):Option Int:=if odd x.t=true then some 4 else Qjq M x.i x.t
theorem Qdz {M:Mdl}(hM:Bk M)(hS:Small M):∀(d i:Nat),i+d=M.gl.length→
 blk (cxZ m) 30 (at_ Tryz.prog 30 2) ([.lp 0 0,.v (.imm (M.gl.map Glo.enc)),.v (.int .i64 (Int.ofNat M.gl.length)),.v (.int .i64 (Int.ofNat i))]++mC M) h=some (.v (Qcm (Qax (Qsm M) (M.gl.drop i))),h)
 |0,i,hi=>by
  rw[List.drop_of_length_le (by omega)]
  exact QqA (k0:=Qaf (by rw[ofN,ofN];omega))
 |d+1,i,hi=>by
  have hx:M.gl[i]? =some M.gl[i]:=List.getElem?_eq_getElem (by omega)
  have hm:=hM.gi M.gl[i] (List.getElem_mem _)
  have hl:=hM.gl
  have k0:ltZ (Int.ofNat i) (Int.ofNat M.gl.length)=true:=Qae (by rw[ofN,ofN];omega)
  rw[Qag hx]
  have ih:=Qdz hM hS d (i+1) (by omega)
  generalize M.gl[i]=x at hx hm⊢
  have k1:ixA (.imm (M.gl.map Glo.enc)) (Int.ofNat i) 11=some x.enc:=Qaj hx x.enc_len
  have c1:=Qha (m:=m) (h:=h) x.t
  have c2:=QsR (m:=m) (h:=h) hS (x:=x.i) (by omega) x.t
  have hq:=Qaz (Qjq M x.i x.t)
  unfold Qax Qsm
  cases q:odd x.t with
  |true=>
   rw[q]at c1
   obtain⟨t,mu,⟨o,a,b,v,tt,l,bd,el,qq⟩⟩:=x
   exact QqD (k0:=k0) (k1:=k1) (k2:=c1) (k3:=rfl)
  |false=>
   rw[q]at c1
   rw[if_neg (by decide)]
   cases q2:Qjq M x.i x.t with
   |some c=>
    rw[q2]at c2 hq
    obtain⟨t,mu,⟨o,a,b,v,tt,l,bd,el,qq⟩⟩:=x
    exact QqC (k0:=k0) (k1:=k1) (k2:=c1) (k3:=rfl) (k4:=c2) (k5:=hq) (k6:=rfl)
   |none=>
    rw[q2]at c2 hq
    obtain⟨t,mu,⟨o,a,b,v,tt,l,bd,el,qq⟩⟩:=x
    exact QqB (k0:=k0) (k1:=k1) (k2:=c1) (k3:=rfl) (k4:=c2) (k5:=hq) (k6:=rfl) (k7:=by rw[Qas (by omega)];exact ih)
theorem QkP {M:Mdl}(hM:Bk M)(hS:Small M)(h:Heap):Qab (cxZ m) (blk (cxZ m)) 30 [eM M] h=some (.v (Qcm (Qax (Qsm M) M.gl)),h):=by
 have:=Qdz (m:=m) (h:=h) hM hS M.gl.length 0 (by omega)
 exact Qaa rfl rfl (by kernel_rfl) (QAa (k0:=by rw[List.length_map];exact this))
def zI:Ins:=.mk 0 0 0 0 0 [] [] [] false
def QjY (M:Mdl)(g:MFn)(y:FTy):Scp:={ty:=M.ty,fn:=fS M,gl:=(gS M).map fun x=>⟨x.1,x.2,zI⟩,tb:=bT M 1,mm:=bT M 2,lo:=y.p++g.l,re:=QA7 y}
theorem QjX (M:Mdl)(g:MFn)(y:FTy):scM M g y=(QjY M g y).enc:=by
 unfold scM QjY Scp.enc
 rw[List.map_map]
 rfl
theorem Qo0 (s:Scp):npL s.enc=true:=by
 have h1:∀x:Glo,npL x.enc=true:=fun x=>by
  unfold Glo.enc
  rw[Qd2,Qf8]
  rfl
 simp only[Scp.enc,npL,AV.np,QaQ FTy.np,QaQ h1,Qa6,Bool.and_self]
theorem Qkm (e:Option Int):LV.np (.v (Qcm e))=true:=by cases e<;>rfl
theorem QrS (s:Scp)(xs:List Ins):Qbw [.v (.agg s.enc),.v (.imm (Qam xs))]=true:=by
 simp only[Qbw,LV.np,AV.np,Qo0,Qd1,Bool.and_self]
theorem Qv4 (s:Scp):LV.np (.tup [.agg s.enc,.nilI])=true:=by
 simp only[LV.np,AV.np,npL,Qo0,Bool.and_self]
theorem QC7 (e:Option Int):Qab (cxZ m) (blk (cxZ m)) 71 [.v (Qcm e),.v (.ifc 56 (.int .i64 (Int.ofNat 1)))] h=some (.v (.bool (e==some 1)),h):=by
 cases e with
 |none=>exact Qcc (e:=isE) rfl rfl rfl
 |some c=>exact Qcc (e:=isE) rfl rfl rfl
def QCy (e:Option Int):Option Int:=if e=some 1 then some 4 else e
def QsT (M:Mdl)(x:MFn):Option Int:=
 match Qex M x.t with
 |some y=>QCy (QdC (QjY M x y) x.b)
 |none=>some 5
theorem Qvm {M:Mdl}{t:Int}{y:FTy}(h:Qex M t=some y):y∈M.ty:=by
 unfold Qex at h
 cases e:ltZ t (Int.ofNat 0)with
 |true=>rw[e]at h;cases h
 |false=>rw[e]at h;exact List.mem_of_getElem? h
theorem Qs1 {M:Mdl}(hM:Bk M)(hS:Small M)(hL:Qmd M){g:MFn}(hg:g∈M.fu){y:FTy}(hy:y∈M.ty)(h:Heap):∃h',Qab (cxZ m) (blk (cxZ m)) 10 [.v (.agg (QjY M g y).enc),.v (.imm (Qam g.b))] h=some (.v (Qcm (QdC (QjY M g y) g.b)),h'):=by
 have h1:=(hM.fl g hg).2
 have h2:=hL g hg
 have h3:=hM.tl y hy
 have e1:(fS M).length≤1048776:=by
  unfold fS Qtq
  rw[List.length_map,List.length_append,List.length_map,List.length_map]
  have:=QcS hS 0;have:=hM.fu;omega
 have e2:(gS M).length≤1048776:=by
  unfold gS
  rw[List.length_append,List.length_map,List.length_map]
  have:=QcS hS 3;have:=hM.gl;omega
 refine Qs0 (R:=1048576) (fun x hx=>hM.tl x hx) ⟨by have:=hM.ty;show M.ty.length<_;omega,fun x hx=>?_,by show(fS M).length<_;omega,by show((gS M).map _).length<_;rw[List.length_map];omega,by show(y.p++g.l).length<_;rw[List.length_append];omega⟩ ?_ h
 ·have:=hM.tl x hx;omega
 ·have:=Nat.mul_le_mul_left (1048576+6) h1;omega
theorem QgF {M:Mdl}(hM:Bk M)(hS:Small M)(hL:Qmd M)(hT:∀x,x∈M.fu→Qjp M x.t=true):∀(d i:Nat),i+d=M.fu.length→
 blk (cxZ m) 31 (at_ Tryz.prog 31 2) ([.lp 0 0,.v (.imm (M.fu.map MFn.enc)),.v (.int .i64 (Int.ofNat M.fu.length)),.v (.int .i64 (Int.ofNat i))]++mC M) h=some (.v (Qcm (Qax (QsT M) (M.fu.drop i))),h)
 |0,i,hi=>by
  rw[List.drop_of_length_le (by omega)]
  exact Qqw (k0:=Qaf (by rw[ofN,ofN];omega))
 |d+1,i,hi=>by
  have hx:M.fu[i]? =some M.fu[i]:=List.getElem?_eq_getElem (by omega)
  have hm:M.fu[i]∈M.fu:=List.getElem_mem _
  have hl:=hM.fu
  have k0:ltZ (Int.ofNat i) (Int.ofNat M.fu.length)=true:=Qae (by rw[ofN,ofN];omega)
  rw[Qag hx]
  have ih:=QgF hM hS hL hT d (i+1) (by omega)
  generalize M.fu[i]=x at hx hm⊢
  have k1:ixA (.imm (M.fu.map MFn.enc)) (Int.ofNat i) 3=some x.enc:=Qaj hx x.enc_len
  obtain⟨y,hy⟩:=Qvk (hT x hm)
  have hF:Fn M (Int.ofNat i) x y:=⟨hS,hL,Int.natCast_nonneg _,hx,hy⟩
  obtain⟨h1,c3⟩:=QjL m hF
  rw[QjX]at c3
  obtain⟨h2,c8⟩:=Qs1 (m:=m) hM hS hL hm (Qvm hy) Heap.nil
  have hn:=Qkm (QdC (QjY M x y) x.b)
  have hi1:=QC7 (m:=m) (h:=h) (QdC (QjY M x y) x.b)
  have hq:=Qaz (QdC (QjY M x y) x.b)
  rw[Qax,QsT,hy]
  simp only
  generalize QdC (QjY M x y) x.b=e at c8 hn hi1 hq⊢
  have n1:=QrT M (Int.ofNat i)
  have n2:=Qv4 (QjY M x y)
  have n3:=QrS (QjY M x y) x.b
  have k5:=Qem none
  by_cases e1:e=some 1
  ·subst e1
   exact Qqz (k0:=k0) (k1:=k1) (k2:=n1) (k3:=c3) (k4:=n2) (k5:=k5) (k6:=rfl) (k7:=n3) (k8:=c8) (k9:=hn) (k10:=hi1) (k11:=rfl)
  ·have hb:(e==some 1)=false:=by simp[e1]
   rw[hb]at hi1
   have hc:QCy e=e:=if_neg e1
   rw[hc]
   cases e with
   |some c=>exact Qqy (k0:=k0) (k1:=k1) (k2:=n1) (k3:=c3) (k4:=n2) (k5:=k5) (k6:=rfl) (k7:=n3) (k8:=c8) (k9:=hn) (k10:=hi1) (k11:=rfl) (k12:=hq) (k13:=rfl)
   |none=>exact Qqx (k0:=k0) (k1:=k1) (k2:=n1) (k3:=c3) (k4:=n2) (k5:=k5) (k6:=rfl) (k7:=n3) (k8:=c8) (k9:=hn) (k10:=hi1) (k11:=rfl) (k12:=hq) (k13:=rfl) (k14:=by rw[Qas (by omega)];exact ih)
theorem QsS {M:Mdl}(hM:Bk M)(hS:Small M)(hL:Qmd M)(hT:∀x,x∈M.fu→Qjp M x.t=true)(h:Heap):Qab (cxZ m) (blk (cxZ m)) 31 [eM M] h=some (.v (Qcm (Qax (QsT M) M.fu)),h):=by
 have:=QgF (m:=m) (h:=h) hM hS hL hT M.fu.length 0 (by omega)
 exact Qaa rfl rfl (by kernel_rfl) (Qz9 (k0:=by rw[List.length_map];exact this))
theorem QoK (h:Heap){zs vs:List LV}(hl:QgU zs 0 vs=vs)(hn:vs.length≤zs.length):stP {bx:=h.bx++[zs],mp:=h.mp} (.ptr h.bx.length 0) vs=some {bx:=h.bx++[vs],mp:=h.mp}:=by
 have h1:Nat.ble (0+vs.length) zs.length=true:=Nat.ble_eq_true_of_le (by omega)
 simp only[stP]
 rw[List.getElem?_append_right (Nat.le_refl _),Nat.sub_self]
 simp only[List.getElem?_cons_zero,Option.bind_some,h1,cond_true,hl]
 rw[List.set_append_right _ _ (Nat.le_refl _),Nat.sub_self]
 rfl
theorem Qpk (h:Heap)(vs:List LV):({bx:=h.bx++[vs],mp:=h.mp}:Heap).bx[h.bx.length]? =some vs:=by simp
def QBQ (M:Mdl)(x:Ele):Option Int:=
 if spN M 1=0 then some 5 else orE (Qjq M x.o 1) (if(x.f.any fun z=>decide (z<0)||decide ((spN M 0:Int)≤z))=true then some 5 else none)
def QxQ (M:Mdl)(x:Dat):Option Int:=if spN M 2=0 then some 5 else Qjq M x.o 1
theorem QDh {F:Nat}{n:Int}(hF:ldP h (.ptr F 0) 1 false=some (.int .i64 n))(z:Int):QaK (cxZ m) (blk (cxZ m)) (.fn 72 [] [.ptr F 0]) [.v (.int .i64 z)] h=some (.v (.bool (decide (z<0)||decide (n≤z))),h):=by
 show Qab (cxZ m) (blk (cxZ m)) 72 [.v (.int .i64 z),.v (.ptr F 0)] h=_
 by_cases h0:z<0
 ·rw[decide_eq_true h0]
  exact Qaa rfl rfl (by kernel_rfl) (QzA (k0:=Qae (b:=Int.ofNat 0) h0))
 ·rw[decide_eq_false h0,Bool.false_or,←Qcp]
  exact Qaa rfl rfl (by kernel_rfl) (Qzz (k0:=Qaf (b:=Int.ofNat 0) (Int.not_lt.1 h0)) (k1:=hF))
theorem QvF {M:Mdl}(hM:Bk M)(hS:Small M):∀(d i:Nat),i+d=M.da.length→
 blk (cxZ m) 32 (at_ Tryz.prog 32 14) ([.lp 0 0,.v (.imm (M.da.map Dat.enc)),.v (.int .i64 (Int.ofNat M.da.length)),.v (.int .i64 (Int.ofNat i))]++mC M) h=some (.v (Qcm (Qax (QxQ M) (M.da.drop i))),h)
 |0,i,hi=>by
  rw[List.drop_of_length_le (by omega)]
  exact QmP (k0:=Qaf (by rw[ofN,ofN];omega))
 |d+1,i,hi=>by
  have hx:M.da[i]? =some M.da[i]:=List.getElem?_eq_getElem (by omega)
  have hm:=hM.dl M.da[i] (List.getElem_mem _)
  have hl:=hM.da
  have k0:ltZ (Int.ofNat i) (Int.ofNat M.da.length)=true:=Qae (by rw[ofN,ofN];omega)
  rw[Qag hx]
  have ih:=QvF hM hS d (i+1) (by omega)
  generalize M.da[i]=x at hx hm⊢
  have k1:ixA (.imm (M.da.map Dat.enc)) (Int.ofNat i) 10=some x.enc:=Qaj hx x.enc_len
  have c1:=Qtl (m:=m) hS 2 h
  have c2:=QsR (m:=m) (h:=h) hS (x:=x.o) (by omega) 1
  have hq:=Qaz (Qjq M x.o 1)
  unfold Qax QxQ
  by_cases q:spN M 2=0
  ·rw[if_pos q]
   rw[q]at c1
   obtain⟨⟨o,a,b,v,tt,l,bd,el,qq⟩,f⟩:=x
   exact QmS (k0:=k0) (k1:=k1) (k2:=c1) (k3:=rfl)
  ·rw[if_neg q]
   have q':eqZ (Int.ofNat (spN M 2)) (Int.ofNat 0)=false:=Qaw (by rw[ofN,ofN];omega)
   cases q2:Qjq M x.o 1 with
   |some c=>
    rw[q2]at c2 hq
    obtain⟨⟨o,a,b,v,tt,l,bd,el,qq⟩,f⟩:=x
    exact QmR (k0:=k0) (k1:=k1) (k2:=c1) (k3:=q') (k4:=c2) (k5:=hq) (k6:=rfl)
   |none=>
    rw[q2]at c2 hq
    obtain⟨⟨o,a,b,v,tt,l,bd,el,qq⟩,f⟩:=x
    exact QmQ (k0:=k0) (k1:=k1) (k2:=c1) (k3:=q') (k4:=c2) (k5:=hq) (k6:=rfl) (k7:=by rw[Qas (by omega)];exact ih)
theorem QCm {M:Mdl}(hM:Bk M)(hS:Small M){F:Nat}(hF:ldP h (.ptr F 0) 1 false=some (.int .i64 (Int.ofNat (spN M 0)))):∀(d i:Nat),i+d=M.el.length→
 blk (cxZ m) 32 (at_ Tryz.prog 32 3) ([.lp 0 0,.v (.ptr F 0),.v (.imm (M.el.map Ele.enc)),.v (.int .i64 (Int.ofNat M.el.length)),.v (.int .i64 (Int.ofNat i))]++mC M) h=some (.v (Qcm (orE (Qax (QBQ M) (M.el.drop i)) (Qax (QxQ M) M.da))),h)
 |0,i,hi=>by
  rw[List.drop_of_length_le (by omega)]
  have:=QvF (m:=m) (h:=h) hM hS M.da.length 0 (by omega)
  exact Qqr (k0:=Qaf (by rw[ofN,ofN];omega)) (k1:=by rw[List.length_map];exact this)
 |d+1,i,hi=>by
  have hx:M.el[i]? =some M.el[i]:=List.getElem?_eq_getElem (by omega)
  have hm:=hM.eo M.el[i] (List.getElem_mem _)
  have hl:=hM.el
  have k0:ltZ (Int.ofNat i) (Int.ofNat M.el.length)=true:=Qae (by rw[ofN,ofN];omega)
  rw[Qag hx]
  have ih:=QCm hM hS hF d (i+1) (by omega)
  generalize M.el[i]=x at hx hm⊢
  have k1:ixA (.imm (M.el.map Ele.enc)) (Int.ofNat i) 10=some x.enc:=Qaj hx x.enc_len
  have c1:=Qtl (m:=m) hS 1 h
  have c2:=QsR (m:=m) (h:=h) hS (x:=x.o) (by omega) 1
  have hq:=Qaz (Qjq M x.o 1)
  have c7:=QDa (m:=m) (h:=h) (xs:=x.f) (F:=fun z=>decide (z<0)||decide ((Int.ofNat (spN M 0))≤z)) (fun z _=>QDh hF z) (by omega)
  have hE:QBQ M x=(if spN M 1=0 then some 5 else orE (Qjq M x.o 1) (if(x.f.any fun z=>decide (z<0)||decide ((spN M 0:Int)≤z))=true then some 5 else none)):=rfl
  rw[Qax,hE]
  by_cases q:spN M 1=0
  ·rw[if_pos q]
   rw[q]at c1
   obtain⟨⟨o,a,b,v,tt,l,bd,el,qq⟩,f⟩:=x
   exact Qqv (k0:=k0) (k1:=k1) (k2:=c1) (k3:=rfl)
  ·rw[if_neg q]
   have q':eqZ (Int.ofNat (spN M 1)) (Int.ofNat 0)=false:=Qaw (by rw[ofN,ofN];omega)
   cases q2:Qjq M x.o 1 with
   |some c=>
    rw[q2]at c2 hq
    obtain⟨⟨o,a,b,v,tt,l,bd,el,qq⟩,f⟩:=x
    exact Qqu (k0:=k0) (k1:=k1) (k2:=c1) (k3:=q') (k4:=c2) (k5:=hq) (k6:=rfl)
   |none=>
    rw[q2]at c2 hq
    have e7:(x.f.any fun z=>decide (z<0)||decide ((spN M 0:Int)≤z))=(x.f.any fun z=>decide (z<0)||decide ((Int.ofNat (spN M 0))≤z)):=rfl
    rw[e7]
    cases q3:x.f.any fun z=>decide (z<0)||decide ((Int.ofNat (spN M 0))≤z)with
    |true=>
     rw[q3]at c7
     obtain⟨⟨o,a,b,v,tt,l,bd,el,qq⟩,f⟩:=x
     exact Qqt (k0:=k0) (k1:=k1) (k2:=c1) (k3:=q') (k4:=c2) (k5:=hq) (k6:=rfl) (k7:=c7) (k8:=rfl)
    |false=>
     rw[q3]at c7
     obtain⟨⟨o,a,b,v,tt,l,bd,el,qq⟩,f⟩:=x
     exact Qqs (k0:=k0) (k1:=k1) (k2:=c1) (k3:=q') (k4:=c2) (k5:=hq) (k6:=rfl) (k7:=c7) (k8:=rfl) (k9:=by rw[Qas (by omega)];exact ih)
def Qtn (M:Mdl):Option Int:=orE (Qax (QBQ M) M.el) (Qax (QxQ M) M.da)
theorem QvE {M:Mdl}(hM:Bk M)(hS:Small M)(h:Heap):∃h',Qab (cxZ m) (blk (cxZ m)) 32 [eM M] h=some (.v (Qcm (Qtn M)),h'):=by
 have hst:=QoK h (zs:=[.v (.int .i64 (Int.ofNat 0))]) (vs:=[.v (.int .i64 (Int.ofNat (spN M 0)))]) rfl (Nat.le_refl _)
 have hld:=QcQ (Qpk h [.v (.int .i64 (Int.ofNat (spN M 0)))]) (k:=0) rfl
 have:=QCm (m:=m) hM hS hld M.el.length 0 (by omega)
 exact⟨_,Qaa rfl rfl (by kernel_rfl) (Qz8 (k0:=Qtl hS 0 h) (k1:=hst) (k2:=by rw[List.length_map];exact this))⟩
def Qtj (M:Mdl):Option Int:=
 if M.st= -1 then none else
 match(fT M M.st).bind (Qex M)with
 |some y=>if 0<y.p.length then some 4 else if 0<y.r.length then some 4 else none
 |none=>some 5
theorem QqX {M:Mdl}(hS:Small M)(h:Heap):Qab (cxZ m) (blk (cxZ m)) 33 [eM M] h=some (.v (Qcm (Qtj M)),h):=by
 have c:=t13 m hS M.st h
 unfold QqS at c
 unfold Qtj
 by_cases h1:M.st= -1
 ·rw[if_pos h1]
  exact Qaa rfl rfl (by kernel_rfl) (Qz7 (k0:=QaC (b:=Int.negSucc 0) h1))
 ·rw[if_neg h1]
  have k0:eqZ M.st (Int.negSucc 0)=false:=Qaw (b:=Int.negSucc 0) h1
  cases hy:(fT M M.st).bind (Qex M)with
  |none=>
   rw[hy]at c
   exact Qaa rfl rfl (by kernel_rfl) (Qz6 (k0:=k0) (k1:=c) (k2:=Qaz (some 5)) (k3:=rfl))
  |some y=>
   rw[hy]at c
   simp only at c⊢
   by_cases h2:0<y.p.length
   ·rw[if_pos h2]
    exact Qaa rfl rfl (by kernel_rfl) (Qz5 (k0:=k0) (k1:=c) (k2:=Qaz none) (k3:=rfl) (k4:=Qae (by rw[Qac,ofN,ofN];omega)))
   ·rw[if_neg h2]
    have k4:ltZ (Int.ofNat 0) (Int.ofNat (Qah y.p).length)=false:=Qaf (by rw[Qac,ofN,ofN];omega)
    by_cases h3:0<y.r.length
    ·rw[if_pos h3]
     exact Qaa rfl rfl (by kernel_rfl) (Qz4 (k0:=k0) (k1:=c) (k2:=Qaz none) (k3:=rfl) (k4:=k4) (k5:=Qae (by rw[Qac,ofN,ofN];omega)))
    ·rw[if_neg h3]
     exact Qaa rfl rfl (by kernel_rfl) (Qz3 (k0:=k0) (k1:=c) (k2:=Qaz none) (k3:=rfl) (k4:=k4) (k5:=Qaf (by rw[Qac,ofN,ofN];omega)))
def Qno (e x:Exq):Bool:=x.n.toList==e.n.toList
def QCv (M:Mdl)(e:Exq)(pre:List Exq):Option Int:=
 if e.i<0 then some 5 else if(spN M e.k:Int)≤e.i then some 5 else if pre.any (Qno e)=true then some 6 else none
def Qhv (M:Mdl):List Exq→List Exq→Option Int
 |_,[]=>none
 |pre,e::r=>orE (QCv M e pre) (Qhv M (pre++[e]) r)
theorem QDg {F:Nat}{e:Exq}(hF:ldP h (.ptr F 0) 1 false=some (.str e.n))(x:Exq):QaK (cxZ m) (blk (cxZ m)) (.fn 75 [] [.ptr F 0]) [.v (.agg x.enc)] h=some (.v (.bool (Qno e x)),h):=by
 show Qab (cxZ m) (blk (cxZ m)) 75 [.v (.agg x.enc),.v (.ptr F 0)] h=_
 obtain⟨na,k,i⟩:=x
 exact Qaa rfl rfl (by kernel_rfl) (Qzy (k0:=hF))
theorem QAo:Tryz.prog.underlying 41=some (.slice 100):=by kernel_rfl
theorem Qq4:(Tryz.prog.info? 100).map (·.size)=some 3:=by kernel_rfl
theorem QAu (l:List Exq){i:Nat}(hi:i≤l.length):slA (Cx.P (cxZ m)) 41 (.imm (l.map Exq.enc)) none (some (Int.ofNat i))=some (.imm ((l.take i).map Exq.enc)):=by
 obtain⟨t,h1,h2⟩:=Option.map_eq_some_iff.1 Qq4
 have hf:QbW 3 (l.map Exq.enc)=true:=by cases l<;>rfl
 have e1:Cx.P (cxZ m)=Tryz.prog:=rfl
 have h3:(0:Int)≤Int.ofNat i:=Int.natCast_nonneg i
 have h4:(Int.ofNat i)≤(((l.map Exq.enc).length:Nat):Int):=by rw[List.length_map,ofN];omega
 unfold slA
 rw[e1,QAo]
 simp only[h1,Option.bind_some,h2,hf,Option.getD_none,Option.getD_some,decide_eq_true h3,decide_eq_true h4]
 rw[List.map_take]
 rfl
theorem QgB {M:Mdl}(hM:Bk M)(hS:Small M):∀(d i:Nat),i+d=M.ex.length→∀h:Heap,
 ∃h',blk (cxZ m) 34 (at_ Tryz.prog 34 2) ([.lp 0 0,.v (.imm (M.ex.map Exq.enc)),.v (.int .i64 (Int.ofNat M.ex.length)),.v (.int .i64 (Int.ofNat i))]++mC M) h=some (.v (Qcm (Qhv M (M.ex.take i) (M.ex.drop i))),h')
 |0,i,hi,h=>by
  rw[List.drop_of_length_le (by omega)]
  exact⟨_,Qqm (k0:=Qaf (by rw[ofN,ofN];omega))⟩
 |d+1,i,hi,h=>by
  have hx:M.ex[i]? =some M.ex[i]:=List.getElem?_eq_getElem (by omega)
  have hl:=hM.ex
  have k0:ltZ (Int.ofNat i) (Int.ofNat M.ex.length)=true:=Qae (by rw[ofN,ofN];omega)
  have ht:M.ex.take (i+1)=M.ex.take i++[M.ex[i]]:=by rw[List.take_add_one,hx];rfl
  rw[Qag hx]
  have ih:=QgB hM hS d (i+1) (by omega)
  rw[ht]at ih
  generalize M.ex[i]=x at hx ih⊢
  have k1:ixA (.imm (M.ex.map Exq.enc)) (Int.ofNat i) 3=some x.enc:=Qaj hx x.enc_len
  have hst:=QoK h (zs:=[.v (.str (ByteArray.mk #[])),.v (.int .i64 (Int.ofNat 0)),.v (.int .i64 (Int.ofNat 0))]) (vs:=[.v (.str x.n),.v (.int .i64 x.k),.v (.int .i64 x.i)]) rfl (Nat.le_refl _)
  have hb:=Qpk h [.v (.str x.n),.v (.int .i64 x.k),.v (.int .i64 x.i)]
  have l0:=QcQ hb (k:=0) rfl
  have l1:=QcQ hb (k:=1) rfl
  have l2:=QcQ hb (k:=2) rfl
  have c8:=Qtl (m:=m) hS x.k Heap.nil
  have n7:=QrT M x.k
  have hl0:(M.ex.take i).length<2^62:=by rw[List.length_take];omega
  have c11:=QC9 (m:=m) (xs:=M.ex.take i) (F:=Qno x) (fun y _=>QDg l0 y) hl0
  obtain⟨h',ih⟩:=ih {bx:=h.bx++[[.v (.str x.n),.v (.int .i64 x.k),.v (.int .i64 x.i)]],mp:=h.mp}
  unfold Qhv QCv
  by_cases q0:x.i<0
  ·rw[if_pos q0]
   obtain⟨na,k,j⟩:=x
   exact⟨_,Qqq (k0:=k0) (k1:=k1) (k2:=hst) (k3:=l2) (k4:=Qae (b:=Int.ofNat 0) q0)⟩
  ·rw[if_neg q0]
   have k4:ltZ x.i (Int.ofNat 0)=false:=Qaf (b:=Int.ofNat 0) (Int.not_lt.1 q0)
   by_cases q1:(spN M x.k:Int)≤x.i
   ·rw[if_pos q1]
    obtain⟨na,k,j⟩:=x
    exact⟨_,Qqp (k0:=k0) (k1:=k1) (k2:=hst) (k3:=l2) (k4:=k4) (k5:=l2) (k6:=l1) (k7:=n7) (k8:=c8) (k9:=Qbi q1)⟩
   ·rw[if_neg q1]
    have k9:leZ (Int.ofNat (spN M x.k)) x.i=false:=Qcy (by rw[ofN];omega)
    have k10:=QAu (m:=m) M.ex (i:=i) (by omega)
    cases q2:(M.ex.take i).any (Qno x)with
    |true=>
     rw[q2]at c11
     obtain⟨na,k,j⟩:=x
     exact⟨_,Qqo (k0:=k0) (k1:=k1) (k2:=hst) (k3:=l2) (k4:=k4) (k5:=l2) (k6:=l1) (k7:=n7) (k8:=c8) (k9:=k9) (k10:=k10) (k11:=c11) (k12:=rfl)⟩
    |false=>
     rw[q2]at c11
     obtain⟨na,k,j⟩:=x
     exact⟨h',Qqn (k0:=k0) (k1:=k1) (k2:=hst) (k3:=l2) (k4:=k4) (k5:=l2) (k6:=l1) (k7:=n7) (k8:=c8) (k9:=k9) (k10:=k10) (k11:=c11) (k12:=rfl) (k13:=by rw[Qas (by omega)];exact ih)⟩
theorem QwY {M:Mdl}(hM:Bk M)(hS:Small M)(h:Heap):∃h',Qab (cxZ m) (blk (cxZ m)) 34 [eM M] h=some (.v (Qcm (Qhv M [] M.ex)),h'):=by
 obtain⟨h',this⟩:=QgB (m:=m) hM hS M.ex.length 0 (by omega) h
 exact⟨h',Qaa rfl rfl (by kernel_rfl) (Qz2 (k0:=by rw[List.length_map];exact this))⟩
theorem Qcj {A:Type}{f:A→Option Int}:∀{l:List A},Qax f l=none→∀x,x∈l→f x=none
 |[],_,x,hx=>by cases hx
 |y::ys,h,x,hx=>by
  unfold Qax orE at h
  cases e:f y with
  |some c=>rw[e]at h;cases h
  |none=>
   rw[e]at h
   rcases List.mem_cons.1 hx with rfl|hx
   ·exact e
   ·exact Qcj h x hx
theorem or_none {a b:Option Int}(h:orE a b=none):a=none∧b=none:=by
 cases a with
 |some c=>cases h
 |none=>exact⟨rfl,h⟩
theorem Qnh {M:Mdl}(h:spE M=none):∀x,x∈M.fu→Qjp M x.t=true:=by
 have h2:=(or_none h).2
 unfold QxB at h2
 split at h2
 ·cases h2
 split at h2
 ·cases h2
 split at h2
 ·cases h2
 split at h2
 ·cases h2
 intro x hx
 have:=Qcj h2 x hx
 unfold QxJ at this
 cases e:Qjp M x.t with
 |true=>rfl
 |false=>rw[e]at this;cases this
noncomputable def vk1 (m:Int)(M:Mdl):Option Int:=if Qtm m M=true then Qax QgY M.ty else some 7
noncomputable def Qpj (m:Int)(M:Mdl):Option Int:=orE (vk1 m M) (orE (spE M) (orE (Qax (Qsm M) M.gl) (orE (Qax (QsT M) M.fu) (orE (Qtn M) (orE (Qtj M) (Qhv M [] M.ex))))))
theorem npM (M:Mdl):Qbw [eM M]=true:=by simp only[Qbw,LV.np,AV.np,Mdl.np,Bool.and_self]
theorem QgX {M:Mdl}(hM:Bk M)(hS:Small M)(hL:Qmd M)(h:Heap):Qab (cxZ m) (blk (cxZ m)) 15 [eM M] h=some (.v (Qcm (Qpj m M)),h):=by
 have c0:=QqR (m:=m) (h:=h) (M:=M) (fun x hx=>by have:=hM.tl x hx;omega) (by have:=hM.ty;omega) (QAt hM h)
 have q0:=Qaz (vk1 m M)
 unfold Qpj
 unfold vk1 at q0⊢
 cases e0:(if Qtm m M=true then Qax QgY M.ty else some 7)with
 |some c=>
  rw[e0]at c0 q0
  exact Qaa rfl rfl (by kernel_rfl) (QAk (k0:=c0) (k1:=q0) (k2:=rfl))
 |none=>
 rw[e0]at c0 q0
 have c1:=Qnn (m:=m) hM hS h
 have q1:=Qaz (spE M)
 cases e1:spE M with
 |some c=>
  rw[e1]at c1 q1
  exact Qaa rfl rfl (by kernel_rfl) (QAj (k0:=c0) (k1:=q0) (k2:=rfl) (k3:=c1) (k4:=q1) (k5:=rfl))
 |none=>
 have hT:=Qnh e1
 rw[e1]at c1 q1
 have c2:=QkP (m:=m) hM hS h
 have q2:=Qaz (Qax (Qsm M) M.gl)
 cases e2:Qax (Qsm M) M.gl with
 |some c=>
  rw[e2]at c2 q2
  exact Qaa rfl rfl (by kernel_rfl) (QAi (k0:=c0) (k1:=q0) (k2:=rfl) (k3:=c1) (k4:=q1) (k5:=rfl) (k6:=c2) (k7:=q2) (k8:=rfl))
 |none=>
 rw[e2]at c2 q2
 have c3:=QsS (m:=m) hM hS hL hT h
 have q3:=Qaz (Qax (QsT M) M.fu)
 cases e3:Qax (QsT M) M.fu with
 |some c=>
  rw[e3]at c3 q3
  exact Qaa rfl rfl (by kernel_rfl) (QAh (k0:=c0) (k1:=q0) (k2:=rfl) (k3:=c1) (k4:=q1) (k5:=rfl) (k6:=c2) (k7:=q2) (k8:=rfl) (k9:=c3) (k10:=q3) (k11:=rfl))
 |none=>
 rw[e3]at c3 q3
 obtain⟨h4,c4⟩:=QvE (m:=m) hM hS Heap.nil
 have n4:=Qkm (Qtn M)
 have q4:=Qaz (Qtn M)
 have n0:=npM M
 cases e4:Qtn M with
 |some c=>
  rw[e4]at c4 q4 n4
  exact Qaa rfl rfl (by kernel_rfl) (QAg (k0:=c0) (k1:=q0) (k2:=rfl) (k3:=c1) (k4:=q1) (k5:=rfl) (k6:=c2) (k7:=q2) (k8:=rfl) (k9:=c3) (k10:=q3) (k11:=rfl) (k12:=n0) (k13:=c4) (k14:=n4) (k15:=q4) (k16:=rfl))
 |none=>
 rw[e4]at c4 q4 n4
 have c5:=QqX (m:=m) hS h
 have q5:=Qaz (Qtj M)
 cases e5:Qtj M with
 |some c=>
  rw[e5]at c5 q5
  exact Qaa rfl rfl (by kernel_rfl) (QAf (k0:=c0) (k1:=q0) (k2:=rfl) (k3:=c1) (k4:=q1) (k5:=rfl) (k6:=c2) (k7:=q2) (k8:=rfl) (k9:=c3) (k10:=q3) (k11:=rfl) (k12:=n0) (k13:=c4) (k14:=n4) (k15:=q4) (k16:=rfl) (k17:=c5) (k18:=q5) (k19:=rfl))
 |none=>
 rw[e5]at c5 q5
 obtain⟨h6,c6⟩:=QwY (m:=m) hM hS Heap.nil
 have n6:=Qkm (Qhv M [] M.ex)
 exact Qaa rfl rfl (by kernel_rfl) (QAe (k0:=c0) (k1:=q0) (k2:=rfl) (k3:=c1) (k4:=q1) (k5:=rfl) (k6:=c2) (k7:=q2) (k8:=rfl) (k9:=c3) (k10:=q3) (k11:=rfl) (k12:=n0) (k13:=c4) (k14:=n4) (k15:=q4) (k16:=rfl) (k17:=c5) (k18:=q5) (k19:=rfl) (k20:=c6) (k21:=n6))
end
end Go.Proofs.YtoblgjmllmomhaaGreatDoor
namespace Go.Proofs.YtoblgjmllmomhaaGreatDoor
set_option maxRecDepth 100000
open Go Go.RowKit Go.Proofs.Am
theorem inv0 (re:Int):Inv 1 (ls0.push (rsl re) (rsl re)):=by
 refine⟨WF.push0 rfl _ _,fun b hb=>?_,by simp[LS.push,ls0]⟩
 simp only[LS.push,ls0,List.nil_append,List.mem_singleton]at hb
 rw[hb];exact Qb4 re
section
variable {m:Int}
theorem Qxc {M:Mdl}(h1:Qtm m M=true)(h2:Qax QgY M.ty=none)(h3:spE M=none)(h4:Qax (Qsm M) M.gl=none)(h5:Qax (QsT M) M.fu=none)(h6:Qtn M=none)(h7:Qtj M=none)(h8:Qhv M [] M.ex=none):Qpj m M=none:=by
 unfold Qpj vk1
 rw[if_pos h1,h2,h3,h4,h5,h6,h7,h8]
 rfl
def QDr (M:Mdl)(t:FTy):Mdl:={M with ty:=M.ty++[t]}
def okT (t:FTy):Prop:=QgY t=none
end
end Go.Proofs.YtoblgjmllmomhaaGreatDoor
namespace Go.Proofs.YtoblgjmllmomhaaGreatDoor
set_option maxRecDepth 100000
open Go Go.RowKit Go.Proofs.Am
section
variable {m:Int}
def M0 (s:Int):Mdl:=⟨[],[],[],[],[],[],[],s,[],[],[]⟩
theorem bk0 (s:Int):Bk (M0 s):=by
 constructor<;>first|(intro x hx;cases hx)|exact Nat.zero_le _
theorem Qma {A:Type}(n:Nat)(F:A→Prop):FitL n F ([]:List A):=⟨by simp,fun x hx=>by cases hx⟩
theorem sm0 {s:Int}(hs:InZ s):Small (M0 s):=⟨⟨Qma _ _,Qma _ _,Qma _ _,Qma _ _,Qma _ _,Qma _ _,Qma _ _,hs,Qma _ _,Qma _ _,Qma _ _⟩,Nat.zero_le _,Nat.zero_le _,Nat.zero_le _,Nat.zero_le _⟩
theorem QCr (s:Int):Qmd (M0 s):=fun x hx=>by cases hx
theorem QCl (s:Int):Qtm m (M0 s)=true:=rfl
theorem Qxd:Qpj m (M0 (-1))=none:=Qxc (QCl _) rfl rfl rfl rfl rfl rfl rfl
theorem QBV:Qpj m (M0 0)=some 5:=by
 unfold Qpj vk1
 rw[QCl]
 rfl
theorem eqE (a:Option Int)(c:Int):QcF (Cx.P (cxZ m)) BinOp.eql 33 false (Qcm a) (.ifc 56 (.int .i64 c))=some (.bool (a==some c)):=by
 cases a with
 |none=>kernel_rfl
 |some b=>
  have e:QcF (Cx.P (cxZ m)) BinOp.eql 33 false (Qcm (some b)) (.ifc 56 (.int .i64 c))=some (.bool (b==c)):=by kernel_rfl
  rw[e]
  rfl
theorem QCQ (h:Heap):Qab (cxZ m) (blk (cxZ m)) 13 [] h=some (.v (.bool true),h):=by
 have c1:=QgX (m:=m) (bk0 (-1)) (sm0 (by unfold InZ;omega)) (QCr _) h
 have c2:=QgX (m:=m) (bk0 0) (sm0 (by unfold InZ;omega)) (QCr _) h
 rw[Qxd]at c1
 rw[QBV]at c2
 have k4:=eqE (m:=m) (some 5) 5
 exact Qaa rfl rfl (by kernel_rfl) (QAl (k0:=c1) (k1:=c2) (k2:=Qem none) (k3:=rfl) (k4:=k4))
def tK (kd:Bool):FTy:=⟨[1,2],if kd=true then[2]else[]⟩
end
end Go.Proofs.YtoblgjmllmomhaaGreatDoor
namespace Go.Proofs.YtoblgjmllmomhaaGreatDoor
open Go Go.RowKit Go.Proofs.Am
abbrev S17 (M:Mdl)(i:Nat)(ty:List FTy)(fu:List MFn)(gl:List Glo)(el:List Ele)(da:List Dat)(cu:List Cus):List LV:=
 [.lp 0 0,.lp 1 0,.lp 2 0,.v (.int .i64 (Int.ofNat i)),.v (.imm (M.ty.map FTy.enc)),.v (.imm (M.im.map Imp.enc)),.v (.imm (M.fu.map MFn.enc)),.v (.imm (M.ta.map Lim.enc)),.v (.imm (M.me.map Lim.enc)),.v (.imm (M.gl.map Glo.enc)),.v (.imm (M.ex.map Exq.enc)),.v (.int .i64 M.st),.v (.imm (M.el.map Ele.enc)),.v (.imm (M.da.map Dat.enc)),.v (.imm (M.cu.map Cus.enc)),.ow 2 [],.ow 8 [],.ow 3 [],.ow 3 [],.ow 3 [],.ow 11 [],.ow 3 [],.v (.int .i64 (Int.ofNat 0)),.ow 10 [],.ow 10 [],.ow 2 [],.ow 2 (ty.map FTy.enc),.v (.imm (M.im.map Imp.enc)),.ow 3 (fu.map MFn.enc),.v (.imm (M.ta.map Lim.enc)),.v (.imm (M.me.map Lim.enc)),.ow 11 (gl.map Glo.enc),.v (.imm (M.ex.map Exq.enc)),.v (.int .i64 M.st),.ow 10 (el.map Ele.enc),.ow 10 (da.map Dat.enc),.ow 2 (cu.map Cus.enc)]
theorem Qhg (x:Ins):ixA (.imm [Qbx x]) (Int.ofNat 0) 9=some (Qbx x):=Qaj (f:=Qbx) (l:=[x]) (i:=0) rfl (Qbe x)
theorem Qge (m:Int){M:Mdl}(hM:M.Fit)(h:Heap):∀(d i:Nat),i+d=M.cu.length→∀out:List Cus,out.length=i→out++M.cu.drop i=M.cu→
 blk (cxZ m) 16 (at_ Tryz.prog 16 25) (S17 M i M.ty M.fu M.gl M.el M.da out) h=some (eM M,h)
 |0,i,hd,out,ho,he=>by
  have k0:ltZ (Int.ofNat i) (Int.ofNat (M.cu.map Cus.enc).length)=false:=Qaf (by rw[List.length_map,ofN,ofN];omega)
  obtain rfl:i=M.cu.length:=by omega
  rw[List.drop_length,List.append_nil]at he
  rw[he]
  exact Qnp (k0:=k0) ..
 |d+1,i,hd,out,ho,he=>by
  have hi:i<M.cu.length:=by omega
  have hx:M.cu[i]? =some M.cu[i]:=List.getElem?_eq_getElem hi
  have hm:M.cu[i]∈M.cu:=List.getElem_mem hi
  generalize M.cu[i]=x at hx hm
  have hb:=hM.2.2.2.2.2.2.2.2.2.2.1
  rw[Qbh]at hb
  have hf:=hM.2.2.2.2.2.2.2.2.2.2.2 x hm
  have k0:ltZ (Int.ofNat i) (Int.ofNat (M.cu.map Cus.enc).length)=true:=Qae (by rw[List.length_map,ofN,ofN];omega)
  have k1:ixA (.imm (M.cu.map Cus.enc)) (Int.ofNat i) 2=some (Cus.enc x):=Qaj (f:=Cus.enc) hx (Cus.enc_len _)
  have ka:apL (.ow 2 (out.map Cus.enc)) 2 40 [Cus.enc x]=some (.ow 2 ((out++[x]).map Cus.enc)):=QcC (Cus.enc_len x) (by omega) (by decide)
  have hw:=Qas (n:=i) (by omega)
  rw[Qag hx,←QaJ]at he
  have ih:=Qge m hM h d (i+1) (by omega) (out++[x]) (by simp;omega) he
  exact Qnq (k0:=k0) (k1:=k1) (k2:=k1) (k3:=QiH hf.2) (k4:=ka) (k5:=by rw[hw];exact ih) ..
theorem Qgf (m:Int){M:Mdl}(hM:M.Fit)(h:Heap):∀(d i:Nat),i+d=M.da.length→∀out:List Dat,out.length=i→out++M.da.drop i=M.da→
 blk (cxZ m) 16 (at_ Tryz.prog 16 21) (S17 M i M.ty M.fu M.gl M.el out []) h=some (eM M,h)
 |0,i,hd,out,ho,he=>by
  have k0:ltZ (Int.ofNat i) (Int.ofNat (M.da.map Dat.enc).length)=false:=Qaf (by rw[List.length_map,ofN,ofN];omega)
  obtain rfl:i=M.da.length:=by omega
  rw[List.drop_length,List.append_nil]at he
  rw[he]
  exact Qnr (k0:=k0) (k1:=Qge m hM h M.cu.length 0 (by omega) [] rfl rfl) ..
 |d+1,i,hd,out,ho,he=>by
  have hi:i<M.da.length:=by omega
  have hx:M.da[i]? =some M.da[i]:=List.getElem?_eq_getElem hi
  have hm:M.da[i]∈M.da:=List.getElem_mem hi
  generalize M.da[i]=x at hx hm
  have hb:=hM.2.2.2.2.2.2.2.2.2.1.1
  rw[Qbh]at hb
  have hf:=hM.2.2.2.2.2.2.2.2.2.1.2 x hm
  have k0:ltZ (Int.ofNat i) (Int.ofNat (M.da.map Dat.enc).length)=true:=Qae (by rw[List.length_map,ofN,ofN];omega)
  have k1:ixA (.imm (M.da.map Dat.enc)) (Int.ofNat i) 10=some (Dat.enc x):=Qaj (f:=Dat.enc) hx (Dat.enc_len _)
  have ka:apL (.ow 10 (out.map Dat.enc)) 10 144 [Dat.enc x]=some (.ow 10 ((out++[x]).map Dat.enc)):=QcC (Dat.enc_len x) (by omega) (by decide)
  have hw:=Qas (n:=i) (by omega)
  rw[Qag hx,←QaJ]at he
  have ih:=Qgf m hM h d (i+1) (by omega) (out++[x]) (by simp;omega) he
  obtain⟨gi,f⟩:=x
  have c25:=Qfm m gi h
  have c29:=Qg3 m hf.1 h
  have kz:=Qhg gi
  obtain⟨o,a,b,v,t,l,bd,el,q⟩:=gi
  exact Qns (k0:=k0) (k1:=k1) (k2:=c25) (k3:=c29) (k4:=kz) (k5:=k1) (k6:=QiH hf.2) (k7:=ka) (k8:=by rw[hw];exact ih) ..
theorem Qgg (m:Int){M:Mdl}(hM:M.Fit)(h:Heap):∀(d i:Nat),i+d=M.el.length→∀out:List Ele,out.length=i→out++M.el.drop i=M.el→
 blk (cxZ m) 16 (at_ Tryz.prog 16 17) (S17 M i M.ty M.fu M.gl out [] []) h=some (eM M,h)
 |0,i,hd,out,ho,he=>by
  have k0:ltZ (Int.ofNat i) (Int.ofNat (M.el.map Ele.enc).length)=false:=Qaf (by rw[List.length_map,ofN,ofN];omega)
  obtain rfl:i=M.el.length:=by omega
  rw[List.drop_length,List.append_nil]at he
  rw[he]
  exact Qnt (k0:=k0) (k1:=Qgf m hM h M.da.length 0 (by omega) [] rfl rfl) ..
 |d+1,i,hd,out,ho,he=>by
  have hi:i<M.el.length:=by omega
  have hx:M.el[i]? =some M.el[i]:=List.getElem?_eq_getElem hi
  have hm:M.el[i]∈M.el:=List.getElem_mem hi
  generalize M.el[i]=x at hx hm
  have hb:=hM.2.2.2.2.2.2.2.2.1.1
  rw[Qbh]at hb
  have hf:=hM.2.2.2.2.2.2.2.2.1.2 x hm
  have k0:ltZ (Int.ofNat i) (Int.ofNat (M.el.map Ele.enc).length)=true:=Qae (by rw[List.length_map,ofN,ofN];omega)
  have k1:ixA (.imm (M.el.map Ele.enc)) (Int.ofNat i) 10=some (Ele.enc x):=Qaj (f:=Ele.enc) hx (Ele.enc_len _)
  have ka:apL (.ow 10 (out.map Ele.enc)) 10 144 [Ele.enc x]=some (.ow 10 ((out++[x]).map Ele.enc)):=QcC (Ele.enc_len x) (by omega) (by decide)
  have hw:=Qas (n:=i) (by omega)
  rw[Qag hx,←QaJ]at he
  have ih:=Qgg m hM h d (i+1) (by omega) (out++[x]) (by simp;omega) he
  obtain⟨gi,f⟩:=x
  have c25:=Qfm m gi h
  have c29:=Qg3 m hf.1 h
  have kz:=Qhg gi
  obtain⟨o,a,b,v,t,l,bd,el,q⟩:=gi
  exact Qnu (k0:=k0) (k1:=k1) (k2:=c25) (k3:=c29) (k4:=kz) (k5:=k1) (k6:=Qev hf.2) (k7:=ka) (k8:=by rw[hw];exact ih) ..
theorem Qgh (m:Int){M:Mdl}(hM:M.Fit)(h:Heap):∀(d i:Nat),i+d=M.gl.length→∀out:List Glo,out.length=i→out++M.gl.drop i=M.gl→
 blk (cxZ m) 16 (at_ Tryz.prog 16 11) (S17 M i M.ty M.fu out [] [] []) h=some (eM M,h)
 |0,i,hd,out,ho,he=>by
  have k0:ltZ (Int.ofNat i) (Int.ofNat (M.gl.map Glo.enc).length)=false:=Qaf (by rw[List.length_map,ofN,ofN];omega)
  obtain rfl:i=M.gl.length:=by omega
  rw[List.drop_length,List.append_nil]at he
  rw[he]
  exact Qnv (k0:=k0) (k1:=Qgg m hM h M.el.length 0 (by omega) [] rfl rfl) ..
 |d+1,i,hd,out,ho,he=>by
  have hi:i<M.gl.length:=by omega
  have hx:M.gl[i]? =some M.gl[i]:=List.getElem?_eq_getElem hi
  have hm:M.gl[i]∈M.gl:=List.getElem_mem hi
  generalize M.gl[i]=x at hx hm
  have hb:=hM.2.2.2.2.2.1.1
  rw[Qbh]at hb
  have hf:=hM.2.2.2.2.2.1.2 x hm
  have k0:ltZ (Int.ofNat i) (Int.ofNat (M.gl.map Glo.enc).length)=true:=Qae (by rw[List.length_map,ofN,ofN];omega)
  have k1:ixA (.imm (M.gl.map Glo.enc)) (Int.ofNat i) 11=some (Glo.enc x):=Qaj (f:=Glo.enc) hx (Glo.enc_len _)
  have ka:apL (.ow 11 (out.map Glo.enc)) 11 136 [Glo.enc x]=some (.ow 11 ((out++[x]).map Glo.enc)):=QcC (Glo.enc_len x) (by omega) (by decide)
  have hw:=Qas (n:=i) (by omega)
  rw[Qag hx,←QaJ]at he
  have ih:=Qgh m hM h d (i+1) (by omega) (out++[x]) (by simp;omega) he
  obtain⟨gt,gm,gi⟩:=x
  have c25:=Qfm m gi h
  have c29:=Qg3 m hf.2 h
  have kz:=Qhg gi
  obtain⟨o,a,b,v,t,l,bd,el,q⟩:=gi
  exact Qnw (k0:=k0) (k1:=k1) (k2:=c25) (k3:=c29) (k4:=kz) (k5:=ka) (k6:=by rw[hw];exact ih) ..
theorem Qic (m:Int){M:Mdl}(hM:M.Fit)(h:Heap):∀(d i:Nat),i+d=M.fu.length→∀out:List MFn,out.length=i→out++M.fu.drop i=M.fu→
 blk (cxZ m) 16 (at_ Tryz.prog 16 7) (S17 M i M.ty out [] [] [] []) h=some (eM M,h)
 |0,i,hd,out,ho,he=>by
  have k0:ltZ (Int.ofNat i) (Int.ofNat (M.fu.map MFn.enc).length)=false:=Qaf (by rw[List.length_map,ofN,ofN];omega)
  obtain rfl:i=M.fu.length:=by omega
  rw[List.drop_length,List.append_nil]at he
  rw[he]
  exact Qrj (k0:=k0) (k1:=Qgh m hM h M.gl.length 0 (by omega) [] rfl rfl) ..
 |d+1,i,hd,out,ho,he=>by
  have hi:i<M.fu.length:=by omega
  have hx:M.fu[i]? =some M.fu[i]:=List.getElem?_eq_getElem hi
  have hm:M.fu[i]∈M.fu:=List.getElem_mem hi
  generalize M.fu[i]=x at hx hm
  have hb:=hM.2.2.1.1
  rw[Qbh]at hb
  have hf:=hM.2.2.1.2 x hm
  have k0:ltZ (Int.ofNat i) (Int.ofNat (M.fu.map MFn.enc).length)=true:=Qae (by rw[List.length_map,ofN,ofN];omega)
  have k1:ixA (.imm (M.fu.map MFn.enc)) (Int.ofNat i) 3=some (MFn.enc x):=Qaj (f:=MFn.enc) hx (MFn.enc_len _)
  have ka:apL (.ow 3 (out.map MFn.enc)) 3 56 [MFn.enc x]=some (.ow 3 ((out++[x]).map MFn.enc)):=QcC (MFn.enc_len x) (by omega) (by decide)
  have hw:=Qas (n:=i) (by omega)
  rw[Qag hx,←QaJ]at he
  have ih:=Qic m hM h d (i+1) (by omega) (out++[x]) (by simp;omega) he
  exact Qrk (k0:=k0) (k1:=k1) (k2:=k1) (k3:=Qev hf.2.1) (k4:=k1) (k5:=t29 m x.b hf.2.2 h) (k6:=ka) (k7:=by rw[hw];exact ih) ..
theorem Qid (m:Int){M:Mdl}(hM:M.Fit)(h:Heap):∀(d i:Nat),i+d=M.ty.length→∀out:List FTy,out.length=i→out++M.ty.drop i=M.ty→
 blk (cxZ m) 16 (at_ Tryz.prog 16 3) (S17 M i out [] [] [] [] []) h=some (eM M,h)
 |0,i,hd,out,ho,he=>by
  have k0:ltZ (Int.ofNat i) (Int.ofNat (M.ty.map FTy.enc).length)=false:=Qaf (by rw[List.length_map,ofN,ofN];omega)
  obtain rfl:i=M.ty.length:=by omega
  rw[List.drop_length,List.append_nil]at he
  rw[he]
  exact Qrl (k0:=k0) (k1:=Qic m hM h M.fu.length 0 (by omega) [] rfl rfl) ..
 |d+1,i,hd,out,ho,he=>by
  have hi:i<M.ty.length:=by omega
  have hx:M.ty[i]? =some M.ty[i]:=List.getElem?_eq_getElem hi
  have hm:M.ty[i]∈M.ty:=List.getElem_mem hi
  generalize M.ty[i]=x at hx hm
  have hb:=hM.1.1
  rw[Qbh]at hb
  have hf:=hM.1.2 x hm
  have k0:ltZ (Int.ofNat i) (Int.ofNat (M.ty.map FTy.enc).length)=true:=Qae (by rw[List.length_map,ofN,ofN];omega)
  have k1:ixA (.imm (M.ty.map FTy.enc)) (Int.ofNat i) 2=some (FTy.enc x):=Qaj (f:=FTy.enc) hx (FTy.enc_len _)
  have ka:apL (.ow 2 (out.map FTy.enc)) 2 48 [FTy.enc x]=some (.ow 2 ((out++[x]).map FTy.enc)):=QcC (FTy.enc_len x) (by omega) (by decide)
  have hw:=Qas (n:=i) (by omega)
  rw[Qag hx,←QaJ]at he
  have ih:=Qid m hM h d (i+1) (by omega) (out++[x]) (by simp;omega) he
  exact Qrm (k0:=k0) (k1:=k1) (k2:=Qev hf.1) (k3:=k1) (k4:=Qev hf.2) (k5:=ka) (k6:=by rw[hw];exact ih) ..
theorem t17 (m:Int){M:Mdl}(hM:M.Fit)(h:Heap):QbM m 16 [eM M] h=some (eM M,h):=
 Qcb rfl (by kernel_rfl) (by kernel_rfl) (QAJ (k0:=Qe5 Imp.enc_len hM.2.1.1 (by decide)) (k1:=Qe5 Lim.enc_len hM.2.2.2.1.1 (by decide)) (k2:=Qe5 Lim.enc_len hM.2.2.2.2.1.1 (by decide)) (k3:=Qe5 Exq.enc_len hM.2.2.2.2.2.2.1.1 (by decide))
  (k4:=Qid m hM h M.ty.length 0 (by omega) [] rfl rfl) ..)
end Go.Proofs.YtoblgjmllmomhaaGreatDoor
