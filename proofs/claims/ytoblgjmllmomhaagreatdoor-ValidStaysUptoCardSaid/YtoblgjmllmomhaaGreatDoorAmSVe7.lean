/-
  The document's Count tells something.
-/
import Derived.Test.YtoblgjmllmomhaaGreatDoorAmSVwM
import Derived.Test.YtoblgjmllmomhaaGreatDoorAmBodyF
import Derived.Test.YtoblgjmllmomhaaGreatDoorAmIns
import Derived.KernelRfl
import Derived.Laws.BitsLemmas
namespace Go.Proofs.YtoblgjmllmomhaaGreatDoor
set_option maxRecDepth 100000
open Go Go.Proofs.Am
def Qcm:Option Int→AV
 |none=>.nilI
 |some c=>.ifc 56 (.int .i64 c)
def encB (b:Blk):List AV:=[.imm (Qah b.lab),.imm (Qah b.res),.int .i64 b.ht,.bool b.nv]
def lkC (s:Scp)(pr pb:AV)(e:Option Int):List LV:=s.enc.map .v++[.v pr,.v pb,.v (Qcm e)]
structure HR (s:Scp) (L:Nat) (h:Heap) (r b:Option Nat) (pr pb:AV) (σ:LS):Prop where
 lk:h.bx[L]? =some (lkC s pr pb σ.err)
 row:Sl h 1 (Qah σ.row) r pr
 blk:Sl h 4 (σ.blk.map encB) b pb
 rL:r≠some L
 bL:b≠some L
 rb:∀i,r=some i→b≠some i
def Rel (s:Scp)(L:Nat)(h:Heap)(σ:LS):Prop:=∃r b pr pb,HR s L h r b pr pb σ
def Frm (L:Nat)(h h':Heap):Prop:=(∀q,q≠L→h'.bx[q]? =h.bx[q]?)∧h'.bx.length=h.bx.length
theorem Frm.refl (L:Nat)(h:Heap):Frm L h h:=⟨fun _ _=>rfl,rfl⟩
theorem Frm.trans {L:Nat}{h h1 h2:Heap}(a:Frm L h h1)(b:Frm L h1 h2):Frm L h h2:=⟨fun q hq=>(b.1 q hq).trans (a.1 q hq),b.2.trans a.2⟩
theorem Frm.put (h:Heap)(L:Nat)(bx:List LV):Frm L h (h.put L bx):=⟨fun _ hq=>QdZ (Ne.symm hq),Qg7 _ _ _⟩
theorem Qlj (l:List Int):∀x,x∈Qah l→x.length=1:=by
 intro x hx
 obtain⟨z,_,rfl⟩:=List.mem_map.1 hx
 rfl
theorem QfF (l:List Blk):∀x,x∈l.map encB→x.length=4:=by
 intro x hx
 obtain⟨z,_,rfl⟩:=List.mem_map.1 hx
 rfl
theorem Qem (o:Option Int):QcF Tryz.prog .eql 33 true (Qcm o) .nilI=some (.bool o.isNone):=by
 cases o with
 |none=>kernel_rfl
 |some c=>kernel_rfl
theorem Qaz (o:Option Int):QcF Tryz.prog .neq 33 true (Qcm o) .nilI=some (.bool o.isSome):=by
 cases o with
 |none=>kernel_rfl
 |some c=>kernel_rfl
theorem Qvj:Tryz.prog.underlying 23=some (.slice 3):=by kernel_rfl
theorem QAn:Tryz.prog.underlying 63=some (.slice 110):=by kernel_rfl
theorem sz3:(Tryz.prog.info? 3).map (·.size)=some 1:=by kernel_rfl
theorem QCU:(Tryz.prog.info? 110).map (·.size)=some 4:=by kernel_rfl
theorem QAv {id len k:Nat}(hk:k≤len){z:Int}(hz:z=k):slA Tryz.prog 23 (.arr 1 id 0 len) none (some z)=some (.arr 1 id 0 k):=by
 obtain⟨i,hi,hn⟩:=Option.map_eq_some_iff.1 sz3
 exact QjU Qvj hi hn hk hz
theorem QvB {z:Int}(hz:z=0):slA Tryz.prog 23 .nilS none (some z)=some .nilS:=by
 obtain⟨i,hi,hn⟩:=Option.map_eq_some_iff.1 sz3
 exact Qq3 Qvj hi hz
theorem QCV {id len k:Nat}(hk:k≤len){z:Int}(hz:z=k):slA Tryz.prog 63 (.arr 4 id 0 len) none (some z)=some (.arr 4 id 0 k):=by
 obtain⟨i,hi,hn⟩:=Option.map_eq_some_iff.1 QCU
 exact QjU QAn hi hn hk hz
section
variable {m:Int} {e:FuncId→Option (List LV→Heap→Option (LV×Heap))} {s:Scp} {L:Nat} {h:Heap} {r b:Option Nat} {pr pb:AV} {σ:LS}
theorem HR.ld (H:HR s L h r b pr pb σ){k:Nat}{a:AV}(hk:(lkC s pr pb σ.err)[k]? =some (.v a)):ldP h (.ptr L k) 1 false=some a:=QcQ H.lk hk
theorem HR.ld7 (H:HR s L h r b pr pb σ):ldP h (.ptr L 7) 1 false=some pr:=H.ld rfl
theorem HR.ld8 (H:HR s L h r b pr pb σ):ldP h (.ptr L 8) 1 false=some pb:=H.ld rfl
theorem HR.ld9 (H:HR s L h r b pr pb σ):ldP h (.ptr L 9) 1 false=some (Qcm σ.err):=H.ld rfl
theorem Qcx (s:Scp)(pr pb:AV)(er:Option Int):(lkC s pr pb er).length=10:=rfl
theorem HR.put (H:HR s L h r b pr pb σ){pr':AV}{σ':LS}(hb:σ'.blk=σ.blk)(hr:Sl h 1 (Qah σ'.row) r pr'):HR s L (h.put L (lkC s pr' pb σ'.err)) r b pr' pb σ':=
 ⟨Qbd H.lk,hr.put H.rL,by rw[hb];exact H.blk.put H.bL,H.rL,H.bL,H.rb⟩
theorem Qk6 (h29:e 54=none)(H:HR s L h r b pr pb σ)(c:Int):∃h',Qab (cxE m e) (blk (cxE m e)) 54 [.v (.ptr L 0),.v (.ifc 56 (.int .i64 c))] h=some (.tup [],h')∧HR s L h' r b pr pb (σ.fail c)∧Frm L h h':=by
 have hq:=Qem σ.err
 cases he:σ.err with
 |none=>
  rw[he]at hq
  have hld:=H.ld9
  rw[he]at hld
  have e1:σ.fail c={σ with err:=some c}:=by unfold LS.fail;rw[he];rfl
  have hst:=QbY (x:=.v (.ifc 56 (.int .i64 c))) H.lk (k:=9) (by rw[Qcx];omega)
  have hset:(lkC s pr pb σ.err).set 9 (.v (.ifc 56 (.int .i64 c)))=lkC s pr pb (some c):=rfl
  rw[hset]at hst
  refine⟨_,Qaa rfl rfl (by kernel_rfl) (QyX (c:=c) (k0:=hld) (k1:=hq) (k2:=rfl) (k3:=hst)) h29,?_,Frm.put _ _ _⟩
  rw[e1]
  exact H.put (σ':={σ with err:=some c}) rfl H.row
 |some q=>
  rw[he]at hq
  have hld:=H.ld9
  rw[he]at hld
  exact⟨h,Qaa rfl rfl (by kernel_rfl) (QyW (c:=c) (k0:=hld) (k1:=hq) (k2:=rfl)) h29,by rw[Qk4 he];exact H,Frm.refl _ _⟩
theorem HR.bid (H:HR s L h r b pr pb σ)(hne:σ.blk≠[]):∃id,b=some id∧pb=.arr 4 id 0 σ.blk.length:=by
 have hb:=H.blk
 cases b with
 |none=>
  obtain⟨_,h2⟩:=hb
  simp at h2
  exact absurd h2 hne
 |some id=>exact⟨id,rfl,by rw[hb.1,List.length_map]⟩
theorem Qvo (h28:e 53=none)(H:HR s L h r b pr pb σ)(hne:σ.blk≠[])(hB:σ.blk.length<2^41):∃id,b=some id∧Qab (cxE m e) (blk (cxE m e)) 53 [.v (.ptr L 0)] h=some (.v (.ptr id ((σ.blk.length-1)*4)),h):=by
 obtain⟨id,rfl,hpb⟩:=H.bid hne
 refine⟨id,rfl,QlM (e:=Qti) rfl h28 rfl rfl ?_⟩
 have hl:σ.blk.length=(σ.blk.length-1)+1:=by
  have:=List.length_pos_iff.2 hne
  omega
 have hld:=H.ld8
 rw[hpb,hl]at hld
 unfold Qti
 have hk:Nat.ble (σ.blk.length-1) 4611686018427387904=true:=Nat.ble_eq_true_of_le (by omega)
 simp only[hld,Nat.beq_refl,hk,Bool.and_self,cond_true,Nat.zero_add]
theorem HR.last (H:HR s L h r b pr pb σ){bl:Blk}(hb:σ.blk.getLast? =some bl){id:Nat}(hid:b=some id){j:Nat}{c:AV}(hc:(encB bl)[j]? =some c):ldP h (.ptr id ((σ.blk.length-1)*4+j)) 1 false=some c:=by
 subst hid
 refine H.blk.get (QfF _) ?_ hc
 rw[List.getElem?_map,←List.getLast?_eq_getElem?,hb]
 rfl
theorem QjA {n:Nat}(h:n<2^41)(hp:0<n):IntKind.wrap .i64 ((n:Int)-Int.ofNat 1)=((n-1:Nat):Int):=by
 have h1:InZ ((n:Int)-Int.ofNat 1):=by
  unfold InZ
  rw[ofN]
  omega
 rw[Qcl h1,ofN]
 omega
theorem QoI (h28:e 53=none)(h29:e 54=none)(h48:e 96=none)(H:HR s L h r b pr pb σ)(hw:WF σ)(hB:σ.row.length+σ.blk.length<2^41)(z:Int):
 ∃h' pr',Qab (cxE m e) (blk (cxE m e)) 96 [.v (.ptr L 0),.v (.int .i64 z)] h=some (.v (.int .i64 (σ.take z).2),h')∧HR s L h' r b pr' pb (σ.take z).1∧Frm L h h':=by
 obtain⟨bl,hbl,_⟩:=QbP hw.ne
 obtain⟨id,rfl,htop⟩:=Qvo (m:=m) h28 H hw.ne (by omega)
 have hht:ldP h (.ptr id ((σ.blk.length-1)*4+2)) 1 false=some (.int .i64 bl.ht):=H.last hbl rfl rfl
 have hnv:ldP h (.ptr id ((σ.blk.length-1)*4+3)) 1 false=some (.bool bl.nv):=H.last hbl rfl rfl
 have hln:=H.row.ln
 rw[Qac]at hln
 have hle:=hw.le bl (List.mem_of_getLast? hbl)
 unfold LS.take
 rw[hbl]
 simp only
 by_cases heq:σ.row.length=bl.ht
 ·rw[if_pos heq]
  have hz:eqZ (σ.row.length:Int) (bl.ht:Int)=true:=QaC (by omega)
  cases hn:bl.nv with
  |false=>
   rw[hn]at hnv
   obtain⟨h',hf,hR,hF⟩:=Qk6 (m:=m) h29 H 4
   rw[if_neg (by simp)]
   exact⟨h',pr,Qaa rfl rfl (by kernel_rfl) (Qym (z:=z) (k0:=htop) (k1:=H.ld7) (k2:=hln) (k3:=hht) (k4:=hz) (k5:=hnv) (k6:=rfl) (k7:=hf)) h48,hR,hF⟩
  |true=>
   rw[hn]at hnv
   rw[if_pos rfl]
   exact⟨h,pr,Qaa rfl rfl (by kernel_rfl) (Qyl (z:=z) (k0:=htop) (k1:=H.ld7) (k2:=hln) (k3:=hht) (k4:=hz) (k5:=hnv) (k6:=rfl)) h48,H,Frm.refl _ _⟩
 ·rw[if_neg heq]
  have hz:eqZ (σ.row.length:Int) (bl.ht:Int)=false:=Qaw (by omega)
  have hpos:0<σ.row.length:=by omega
  have hne:σ.row≠[]:=List.length_pos_iff.1 hpos
  obtain⟨got,hgot⟩:∃got,σ.row.getLast? =some got:=⟨_,List.getLast?_eq_some_getLast hne⟩
  rw[hgot]
  simp only
  have hrow:=H.row
  cases r with
  |none=>
   obtain⟨_,h2⟩:=hrow
   simp[Qah]at h2
   exact absurd h2 hne
  |some id7=>
   have hpr:pr=.arr 1 id7 0 σ.row.length:=by rw[hrow.1,Qac]
   have hix:=Qd6 (n:=1) (id:=id7) (len:=σ.row.length) (QjA (show σ.row.length<2^41 by omega) hpos) (show σ.row.length-1<σ.row.length by omega)
   rw[←hpr]at hix
   have hg:ldP h (.ptr id7 ((σ.row.length-1)*1)) 1 false=some (.int .i64 got):=by
    have:=hrow.get (Qlj _) (k:=σ.row.length-1) (j:=0) (x:=[.int .i64 got]) (by
     show((σ.row.map fun x=>[AV.int .i64 x]):List (List AV))[σ.row.length-1]? =_
     rw[List.getElem?_map,←List.getLast?_eq_getElem?,hgot];rfl) rfl
    exact this
   have hsl:slA Tryz.prog 23 pr none (some (IntKind.wrap .i64 ((σ.row.length:Int)-Int.ofNat 1)))=some (.arr 1 id7 0 (σ.row.length-1)):=by
    rw[hpr]
    exact QAv (Nat.sub_le _ _) (QjA (show σ.row.length<2^41 by omega) hpos)
   have hst:=QbY (x:=.v (.arr 1 id7 0 (σ.row.length-1))) H.lk (k:=7) (by rw[Qcx];omega)
   have hset:(lkC s pr pb σ.err).set 7 (.v (.arr 1 id7 0 (σ.row.length-1)))=lkC s (.arr 1 id7 0 (σ.row.length-1)) pb σ.err:=rfl
   rw[hset]at hst
   have hdl:Qah σ.row.dropLast=(Qah σ.row).take (σ.row.length-1):=by
    unfold Qah
    rw[List.dropLast_eq_take,List.map_take]
   have H1:HR s L (h.put L (lkC s (.arr 1 id7 0 (σ.row.length-1)) pb σ.err)) (some id7) (some id) (.arr 1 id7 0 (σ.row.length-1)) pb {σ with row:=σ.row.dropLast}:=by
    have:=H.put (pr':=.arr 1 id7 0 (σ.row.length-1)) (σ':={σ with row:=σ.row.dropLast}) rfl (by
     show Sl h 1 (Qah σ.row.dropLast) _ _
     rw[hdl]
     exact hrow.takeN (by rw[Qac];omega))
    exact this
   have F1:=Frm.put h L (lkC s (.arr 1 id7 0 (σ.row.length-1)) pb σ.err)
   obtain⟨h2,hf,H2,F2⟩:=Qk6 (m:=m) h29 H1 4
   have F3:=F1.trans F2
   by_cases g1:got=z
   ·rw[if_neg (show¬(got≠z∧got≠-1∧z≠-1)from fun hh=>hh.1 g1)]
    have z1:(!eqZ got z)=false:=by rw[QaC g1];rfl
    by_cases g2:got= -1
    ·rw[if_pos g2]
     exact⟨_,_,Qaa rfl rfl (by kernel_rfl) (QtK (z:=z) (k0:=htop) (k1:=H.ld7) (k2:=hln) (k3:=hht) (k4:=hz) (k5:=H.ld7) (k6:=H.ld7) (k7:=hln) (k8:=hix) (k9:=hg) (k10:=H.ld7) (k11:=H.ld7) (k12:=hln) (k13:=hsl) (k14:=hst) (k15:=z1) (k16:=QaC g2)) h48,H1,F1⟩
    ·rw[if_neg g2]
     exact⟨_,_,Qaa rfl rfl (by kernel_rfl) (QtJ (z:=z) (k0:=htop) (k1:=H.ld7) (k2:=hln) (k3:=hht) (k4:=hz) (k5:=H.ld7) (k6:=H.ld7) (k7:=hln) (k8:=hix) (k9:=hg) (k10:=H.ld7) (k11:=H.ld7) (k12:=hln) (k13:=hsl) (k14:=hst) (k15:=z1) (k16:=Qaw g2)) h48,H1,F1⟩
   ·have z1:(!eqZ got z)=true:=by rw[Qaw g1];rfl
    by_cases g2:got= -1
    ·rw[if_neg (show¬(got≠z∧got≠-1∧z≠-1)from fun hh=>hh.2.1 g2),if_pos g2]
     have z2:(!eqZ got (Int.negSucc 0))=false:=congrArg not (QaC (b:=Int.negSucc 0) g2)
     exact⟨_,_,Qaa rfl rfl (by kernel_rfl) (QtL (z:=z) (k0:=htop) (k1:=H.ld7) (k2:=hln) (k3:=hht) (k4:=hz) (k5:=H.ld7) (k6:=H.ld7) (k7:=hln) (k8:=hix) (k9:=hg) (k10:=H.ld7) (k11:=H.ld7) (k12:=hln) (k13:=hsl) (k14:=hst) (k15:=z1) (k16:=z2) (k17:=QaC g2)) h48,H1,F1⟩
    ·have z2:(!eqZ got (Int.negSucc 0))=true:=congrArg not (Qaw (b:=Int.negSucc 0) g2)
     rw[if_neg g2]
     by_cases g3:z= -1
     ·rw[if_neg (show¬(got≠z∧got≠-1∧z≠-1)from fun hh=>hh.2.2 g3)]
      have z3:(!eqZ z (Int.negSucc 0))=false:=congrArg not (QaC (b:=Int.negSucc 0) g3)
      exact⟨_,_,Qaa rfl rfl (by kernel_rfl) (QtM (z:=z) (k0:=htop) (k1:=H.ld7) (k2:=hln) (k3:=hht) (k4:=hz) (k5:=H.ld7) (k6:=H.ld7) (k7:=hln) (k8:=hix) (k9:=hg) (k10:=H.ld7) (k11:=H.ld7) (k12:=hln) (k13:=hsl) (k14:=hst) (k15:=z1) (k16:=z2) (k17:=z3) (k18:=Qaw g2)) h48,H1,F1⟩
     ·rw[if_pos (show(got≠z∧got≠-1∧z≠-1)from⟨g1,g2,g3⟩)]
      have z3:(!eqZ z (Int.negSucc 0))=true:=congrArg not (Qaw (b:=Int.negSucc 0) g3)
      exact⟨_,_,Qaa rfl rfl (by kernel_rfl) (QtN (z:=z) (k0:=htop) (k1:=H.ld7) (k2:=hln) (k3:=hht) (k4:=hz) (k5:=H.ld7) (k6:=H.ld7) (k7:=hln) (k8:=hix) (k9:=hg) (k10:=H.ld7) (k11:=H.ld7) (k12:=hln) (k13:=hsl) (k14:=hst) (k15:=z1) (k16:=z2) (k17:=z3) (k18:=hf) (k19:=Qaw g2)) h48,H2,F3⟩
end
def LS.takeL:List Int→LS→LS
 |[],σ=>σ
 |z::zs,σ=>LS.takeL zs (σ.take z).1
theorem Qf0:∀(xs ys:List Int) (σ:LS),LS.takeL (xs++ys) σ=LS.takeL ys (LS.takeL xs σ)
 |[],_,_=>rfl
 |_::xs,ys,_=>Qf0 xs ys _
theorem QgT:∀(ts:List Int) (σ:LS),σ.all ts=LS.takeL ts.reverse σ
 |[],_=>rfl
 |t::ts,σ=>by
  rw[LS.all,QgT ts σ,List.reverse_cons,Qf0]
  rfl
theorem Qg1 {m:Int}{s:Scp}{L:Nat}{r b:Option Nat}{pb:AV}:∀(zs:List Int) {h:Heap} {pr:AV} {σ:LS},HR s L h r b pr pb σ→WF σ→σ.row.length+σ.blk.length<2^41→
 ∃h' pr',QbF m (.ptr L 0) zs h=some h'∧HR s L h' r b pr' pb (LS.takeL zs σ)∧Frm L h h'
 |[],h,pr,σ,H,_,_=>⟨h,pr,rfl,H,Frm.refl _ _⟩
 |z::zs,h,pr,σ,H,hw,hB=>by
  obtain⟨h1,pr1,hc,H1,F1⟩:=QoI (m:=m) (e:=fun _=>none) rfl rfl rfl H hw hB z
  obtain⟨h2,pr2,hc2,H2,F2⟩:=Qg1 (m:=m) zs H1 (hw.take z) (by rw[Qbz];exact Nat.lt_of_le_of_lt (Nat.add_le_add_right (Qfb z σ) _) hB)
  refine⟨h2,pr2,?_,H2,F1.trans F2⟩
  simp only[QbF,Qg2,hc,Option.map_some,Option.bind_some,hc2]
theorem Qgj:∀zs:List Int,Qgk (Qah zs)=some zs
 |[]=>rfl
 |z::zs=>by
  have:=Qgj zs
  simp only[Qah,List.map_cons,Qgk]at this⊢
  rw[this];rfl
theorem QCc {m:Int}{s:Scp}{L:Nat}{h:Heap}{r b:Option Nat}{pr pb:AV}{σ:LS}(H:HR s L h r b pr pb σ)(hw:WF σ)(hB:σ.row.length+σ.blk.length<2^41){ts:List Int}(ht:ts.length<2^41):
 ∃h' pr',Qab (cxZ m) (blk (cxZ m)) 52 [.v (.ptr L 0),.v (.imm (Qah ts))] h=some (.tup [],h')∧HR s L h' r b pr' pb (σ.all ts)∧Frm L h h':=by
 obtain⟨h',pr',hc,H',F'⟩:=Qg1 (m:=m) ts.reverse H hw hB
 refine⟨h',pr',QaX (e:=Qxx m) rfl rfl rfl ?_,by rw[QgT];exact H',F'⟩
 have hf:QCe m (.ptr L 0) h:=fun zs=>by
  obtain⟨h2,_,hc2,_⟩:=Qg1 (m:=m) zs H hw hB
  exact⟨h2,hc2⟩
 have hb:Nat.ble (ts.length*8) 140737488351232=true:=Nat.ble_eq_true_of_le (by omega)
 simp only[Qxx,QnZ,Qgj,Option.bind_some,hb,cond_true,if_pos hf,hc]
end Go.Proofs.YtoblgjmllmomhaaGreatDoor
namespace Go.Proofs.YtoblgjmllmomhaaGreatDoor
set_option maxRecDepth 100000
open Go Go.Proofs.Am
variable {m:Int} {s:Scp} {L:Nat} {h:Heap} {r b:Option Nat} {pr pb:AV} {σ:LS}
theorem Qk5 (H:HR s L h r b pr pb σ)(c:Int):∃h',Qab (cxZ m) (blk (cxZ m)) 54 [.v (.ptr L 0),.v (.ifc 56 (.int .i64 c))] h=some (.tup [],h')∧HR s L h' r b pr pb (σ.fail c)∧Frm L h h':=
 Qk6 (m:=m) (e:=QwZ m) rfl H c
theorem QqT (H:HR s L h r b pr pb σ)(hne:σ.blk≠[])(hB:σ.blk.length<2^41):∃id,b=some id∧Qab (cxZ m) (blk (cxZ m)) 53 [.v (.ptr L 0)] h=some (.v (.ptr id ((σ.blk.length-1)*4)),h):=
 Qvo (m:=m) (e:=QwZ m) rfl H hne hB
theorem Qvr (H:HR s L h r b pr pb σ)(hw:WF σ)(hB:σ.row.length+σ.blk.length<2^41)(z:Int):
 ∃h' pr',Qab (cxZ m) (blk (cxZ m)) 96 [.v (.ptr L 0),.v (.int .i64 z)] h=some (.v (.int .i64 (σ.take z).2),h')∧HR s L h' r b pr' pb (σ.take z).1∧Frm L h h':=
 QoI (m:=m) (e:=QwZ m) rfl rfl rfl H hw hB z
theorem QA5 {n:Nat}(h:n<2^41):QaU (n+1) 8=true:=by
 unfold QaU
 rw[Bool.and_eq_true,Bool.or_eq_true]
 exact⟨.inl (Nat.ble_eq_true_of_le (by omega)),rfl⟩
theorem QvJ {n:Nat}(h:n<2^41):QaU (n+1) 64=true:=by
 unfold QaU
 rw[Bool.and_eq_true,Bool.or_eq_true]
 exact⟨.inl (Nat.ble_eq_true_of_le (by omega)),rfl⟩
theorem HR.more (H:HR s L h r b pr pb σ)(hB:σ.row.length<2^41)(z:Int):∃id h1 h2,apH h pr 1 8 [[.int .i64 z]]=some (.arr 1 id 0 (σ.row.length+1),h1)∧stP h1 (.ptr L 7) [.v (.arr 1 id 0 (σ.row.length+1))]=some h2∧
 HR s L h2 (some id) b (.arr 1 id 0 (σ.row.length+1)) pb {σ with row:=σ.row++[z]}:=by
 obtain⟨id,h1,ha,hs,hf,hid,hl⟩:=QlY (y:=[.int .i64 z]) (bytes:=8) H.row (Qlj _) rfl (by decide) (by rw[Qac];exact QA5 hB)
 rw[Qac]at ha hs
 have hLl:L<h.bx.length:=(List.getElem?_eq_some_iff.1 H.lk).1
 have hlk:h1.bx[L]? =some (lkC s pr pb σ.err):=(hf L H.rL hLl).trans H.lk
 have hst:=QbY (x:=.v (.arr 1 id 0 (σ.row.length+1))) hlk (k:=7) (by rw[Qcx];omega)
 have hset:(lkC s pr pb σ.err).set 7 (.v (.arr 1 id 0 (σ.row.length+1)))=lkC s (.arr 1 id 0 (σ.row.length+1)) pb σ.err:=rfl
 rw[hset]at hst
 have hbs:Sl h1 4 (σ.blk.map encB) b pb:=H.blk.same fun i hi=>by
  subst hi
  exact hf i (fun e=>H.rb i e rfl) H.blk.lt
 have hiL:some id≠some L:=by
  rcases hid with e|e
  ·rw[←e];exact H.rL
  ·intro e2;cases e2;omega
 refine⟨id,h1,_,ha,hst,Qbd hlk,?_,hbs.put H.bL,hiL,H.bL,?_⟩
 ·have:Qah (σ.row++[z])=Qah σ.row++[[.int .i64 z]]:=by rw[QfE];rfl
  rw[this]
  exact hs.put hiL
 ·intro i hi
  cases hi
  rcases hid with e|e
  ·exact H.rb _ e
  ·intro e2
   have:=H.blk
   rw[e2]at this
   have:=this.lt
   omega
theorem Qef (ts:List Int)(ht:ts.length<2^41):∀(k i:Nat) {h:Heap} {r:Option Nat} {pr:AV} {σ:LS},i+k=ts.length→HR s L h r b pr pb σ→σ.row.length+k<2^41→
 ∃h' r' pr',blk (cxZ m) 55 (at_ Tryz.prog 55 1) [.v (.ptr L 0),.v (.imm (Qah ts)),.v (.int .i64 (ts.length:Int)),.v (.int .i64 (i:Int))] h=some (.tup [],h')∧HR s L h' r' b pr' pb (σ.give (ts.drop i))
 |0,i,h,r,pr,σ,hi,H,_=>by
  refine⟨h,r,pr,Qp7 (k0:=Qaf (by omega)),?_⟩
  rw[List.drop_of_length_le (by omega)]
  simpa[LS.give]using H
 |k+1,i,h,r,pr,σ,hi,H,hB=>by
  have hlt:i<ts.length:=by omega
  have hget:ts[i]? =some ts[i]:=List.getElem?_eq_getElem hlt
  have hix:ixA (.imm (Qah ts)) (i:Int) 1=some [.int .i64 ts[i]]:=Qaj (f:=fun x=>[AV.int .i64 x]) hget rfl
  have hw:IntKind.wrap .i64 ((i:Int)+Int.ofNat 1)=((i+1:Nat):Int):=Qcl (by unfold InZ;rw[ofN];omega)
  have hd:=Qag hget
  by_cases hz:ts[i]=0
  ·obtain⟨h',r',pr',hc,H'⟩:=Qef ts ht k (i+1) (by omega) H (by omega)
   refine⟨h',r',pr',Qp8 (k0:=Qae (by omega)) (k1:=hix) (k2:=congrArg not (QaC (b:=Int.ofNat 0) hz)) (k3:=by rw[hw];exact hc),?_⟩
   have e:σ.give (ts.drop i)=σ.give (ts.drop (i+1)):=by
    unfold LS.give
    rw[hd,List.filter_cons_of_neg (by simp[hz])]
   rw[e];exact H'
  ·obtain⟨id,h1,h2,ha,hst,H2⟩:=H.more (by omega) ts[i]
   obtain⟨h',r',pr',hc,H'⟩:=Qef ts ht k (i+1) (by omega) H2 (by simp;omega)
   refine⟨h',r',pr',Qp9 (k0:=Qae (by omega)) (k1:=hix) (k2:=congrArg not (Qaw (b:=Int.ofNat 0) hz)) (k3:=H.ld7) (k4:=ha) (k5:=hst) (k6:=by rw[hw];exact hc),?_⟩
   have e:σ.give (ts.drop i)=({σ with row:=σ.row++[ts[i]]}:LS).give (ts.drop (i+1)):=by
    unfold LS.give
    rw[hd,List.filter_cons_of_pos (by simp[hz])]
    simp
   rw[e];exact H'
theorem Qpc (H:HR s L h r b pr pb σ){ts:List Int}(hB:σ.row.length+ts.length<2^41):
 ∃h' r' pr',Qab (cxZ m) (blk (cxZ m)) 55 [.v (.ptr L 0),.v (.imm (Qah ts))] h=some (.tup [],h')∧HR s L h' r' b pr' pb (σ.give ts):=by
 obtain⟨h',r',pr',hc,H'⟩:=Qef (m:=m) ts (by omega) ts.length 0 (by omega) H hB
 exact⟨h',r',pr',Qaa rfl rfl (by kernel_rfl) (QyV (k0:=by show some _=some _;rw[Qac]) (k1:=hc)),H'⟩
theorem QhN:∀(l:List Blk) (x:Blk),l.getLast? =some x→Qct l=l.set (l.length-1) {x with nv:=true}
 |[],x,h=>by simp at h
 |[y],x,h=>by simp at h;subst h;rfl
 |y::z::l,x,h=>by
  have:=QhN (z::l) x (by simpa using h)
  rw[Qct,this]
  rfl
theorem Qvv (H:HR s L h r b pr pb σ)(hw:WF σ)(hB:σ.blk.length<2^41):∃h' pr',Qab (cxZ m) (blk (cxZ m)) 93 [.v (.ptr L 0)] h=some (.tup [],h')∧HR s L h' r b pr' pb σ.stop:=by
 obtain⟨bl,hbl,_⟩:=QbP hw.ne
 obtain⟨id,rfl,htop⟩:=QqT (m:=m) H hw.ne hB
 have hht:ldP h (.ptr id ((σ.blk.length-1)*4+2)) 1 false=some (.int .i64 bl.ht):=H.last hbl rfl rfl
 have hle:=hw.le bl (List.mem_of_getLast? hbl)
 have hmem:(σ.blk.map encB)[σ.blk.length-1]? =some (encB bl):=by
  rw[List.getElem?_map,←List.getLast?_eq_getElem?,hbl];rfl
 have hstop:σ.stop={σ with row:=σ.row.take bl.ht,blk:=Qct σ.blk}:=by
  unfold LS.stop
  rw[hbl]
 have hnv:(σ.blk.map encB).set (σ.blk.length-1) ((encB bl).set 3 (.bool true))=(Qct σ.blk).map encB:=by
  rw[QhN _ _ hbl,List.map_set]
  rfl
 have key:∀(pr':AV),Sl h 1 (Qah (σ.row.take bl.ht)) r pr'→slA Tryz.prog 23 pr none (some (bl.ht:Int))=some pr'→
  ∃h1 h2,stP h (.ptr L 7) [.v pr']=some h1∧stP h1 (.ptr id ((σ.blk.length-1)*4+3)) [.v (.bool true)]=some h2∧HR s L h2 r (some id) pr' pb σ.stop:=by
  intro pr' hsl _
  have hst:=QbY (x:=.v pr') H.lk (k:=7) (by rw[Qcx];omega)
  have hset:(lkC s pr pb σ.err).set 7 (.v pr')=lkC s pr' pb σ.err:=rfl
  rw[hset]at hst
  have H1:HR s L (h.put L (lkC s pr' pb σ.err)) r (some id) pr' pb {σ with row:=σ.row.take bl.ht}:=H.put (σ':={σ with row:=σ.row.take bl.ht}) rfl hsl
  obtain⟨h2,hs2,hb2,hf2,hl2⟩:=H1.blk.setN (QfF _) (j:=3) hmem (by omega) (.bool true)
  refine⟨_,h2,hst,hs2,?_⟩
  rw[hstop]
  refine⟨(hf2 L (fun e=>H.bL (by rw[e]))).trans H1.lk,H1.row.same fun i hi=>hf2 i (fun e=>H.rb i hi (by rw[e])),?_,H.rL,H.bL,H.rb⟩
  show Sl h2 4 ((Qct σ.blk).map encB) (some id) pb
  rw[←hnv]
  exact hb2
 have htk:Qah (σ.row.take bl.ht)=(Qah σ.row).take bl.ht:=by unfold Qah;rw[List.map_take]
 cases r with
 |none=>
  obtain⟨rfl,he⟩:=H.row
  have hrow:σ.row=[]:=by simpa[Qah]using he
  rw[hrow]at hle
  have h0:bl.ht=0:=by simpa using hle
  have hs0:slA Tryz.prog 23 .nilS none (some (bl.ht:Int))=some .nilS:=QvB (by omega)
  obtain⟨h1,h2,e1,e2,H2⟩:=key .nilS ⟨rfl,by rw[htk,he];simp⟩ hs0
  exact⟨h2,_,Qaa rfl rfl (by kernel_rfl) (Qyx (k0:=htop) (k1:=H.ld7) (k2:=hht) (k3:=hs0) (k4:=e1) (k5:=e2)),H2⟩
 |some id7=>
  have hpr:pr=.arr 1 id7 0 σ.row.length:=by rw[H.row.1,Qac]
  have hs0:slA Tryz.prog 23 pr none (some (bl.ht:Int))=some (.arr 1 id7 0 bl.ht):=by rw[hpr];exact QAv hle rfl
  obtain⟨h1,h2,e1,e2,H2⟩:=key (.arr 1 id7 0 bl.ht) (by rw[htk];exact H.row.takeN (by rw[Qac];exact hle)) hs0
  exact⟨h2,_,Qaa rfl rfl (by kernel_rfl) (Qyw (k0:=htop) (k1:=H.ld7) (k2:=hht) (k3:=hs0) (k4:=e1) (k5:=e2)),H2⟩
theorem QBp (H:HR s L h r b pr pb σ)(hne:σ.blk≠[])(hB:σ.blk.length<2^41){n:Int}(h0:0≤n):
 (∃t,σ.lbl n=some t∧Qab (cxZ m) (blk (cxZ m)) 121 [.v (.ptr L 0),.v (.int .i64 n)] h=some (.tup [.imm (Qah t),.bool true],h))∨
 (σ.lbl n=none∧∃h',Qab (cxZ m) (blk (cxZ m)) 121 [.v (.ptr L 0),.v (.int .i64 n)] h=some (.tup [.imm [],.bool false],h')∧HR s L h' r b pr pb (σ.fail 5)):=by
 obtain⟨id,rfl,hpb⟩:=H.bid hne
 have hln:=H.blk.ln
 rw[List.length_map]at hln
 have hpos:=List.length_pos_iff.2 hne
 unfold LS.lbl
 by_cases hn:n<σ.blk.length
 ·left
  have hk:σ.blk.length-1-n.toNat<σ.blk.length:=by omega
  have hg:σ.blk[σ.blk.length-1-n.toNat]? =some σ.blk[σ.blk.length-1-n.toNat]:=List.getElem?_eq_getElem hk
  rw[if_pos hn,hg]
  refine⟨_,rfl,Qaa rfl rfl (by kernel_rfl) (Qyi (x4_12_i:=id) (x4_12_o:=(σ.blk.length-1-n.toNat)*4) (k0:=H.ld8) (k1:=hln) (k2:=Qcy hn) (k3:=H.ld8) (k4:=H.ld8) (k5:=hln) (k6:=?_) (k7:=?_))⟩
  ·rw[hpb,QjA hB hpos]
   refine Qd6 ?_ hk
   rw[Qcl (by unfold InZ;omega)]
   omega
  ·exact H.blk.get (QfF _) (j:=0) (by rw[List.getElem?_map,hg];rfl) rfl
 ·right
  rw[if_neg hn]
  obtain⟨h',hf,H',_⟩:=Qk5 (m:=m) H 5
  exact⟨rfl,h',Qaa rfl rfl (by kernel_rfl) (Qyj (k0:=H.ld8) (k1:=hln) (k2:=Qbi (by omega)) (k3:=hf)),H'⟩
theorem Qb6 (t:Int)(h:Heap):Qab (cxZ m) (blk (cxZ m)) 22 [.v (.int .i64 t)] h=some (.v (.imm (Qah (rsl t))),h):=by
 unfold rsl
 by_cases ht:t=0
 ·rw[if_pos ht]
  exact Qaa rfl rfl (by kernel_rfl) (Qzq (k0:=QaC ht))
 ·rw[if_neg ht]
  exact Qaa rfl rfl (by kernel_rfl) (Qzp (k0:=Qaw ht))
end Go.Proofs.YtoblgjmllmomhaaGreatDoor
namespace Go.Proofs.YtoblgjmllmomhaaGreatDoor
set_option maxRecDepth 100000
open Go Go.Proofs.Am
theorem cxZ_ok (m:Int):CxOk (cxZ m):=by
 have ht:∀(xs:List LV) (h:Heap) (y:LV),Qti xs h=some y→blk (cxB m) 53 (QaE Tryz.prog 53) xs h=some (y,h):=by
  intro xs h y hy
  unfold Qti at hy
  split at hy
  ·rename_i L
   split at hy
   ·rename_i n id o k heq
    cases hb:Nat.beq n 4&&Nat.ble k 4611686018427387904 with
    |false=>rw[hb]at hy;cases hy
    |true=>
     rw[hb]at hy
     rw[Bool.and_eq_true]at hb
     have:=Nat.eq_of_beq_eq_true hb.1
     have hk:=Nat.le_of_ble_eq_true hb.2
     subst this
     simp only[cond_true,Option.some.injEq]at hy
     subst hy
     refine QyY (k0:=heq) (k1:=heq) (k2:=rfl) (k3:=?_)
     have hw:IntKind.wrap .i64 (((k+1:Nat):Int)-Int.ofNat 1)=(k:Int):=by
      rw[Qcl (by unfold InZ;rw[ofN];omega),ofN];omega
     rw[hw]
     have h1:decide ((0:Int)≤(k:Int))=true:=decide_eq_true (by omega)
     have h2:decide ((k:Int)<((k+1:Nat):Int))=true:=decide_eq_true (by omega)
     simp only[ixP,Nat.beq_refl,h1,h2,Bool.and_self,cond_true,Int.toNat_natCast]
   ·cases hy
  ·cases hy
 exact Qph m ht (fun f x hx=>by
  unfold QwZ at hx
  cases hb:Nat.beq f 52 with
  |false=>rw[hb]at hx;cases hx
  |true=>
   rw[hb]at hx
   cases hx
   have:=Nat.eq_of_beq_eq_true hb
   subst this
   obtain⟨c,hc,_⟩:=QbC Tryz.func52 (by kernel_rfl)
   exact⟨Qxw m (Qph m ht (fun f x hx=>by cases hx)) rfl rfl,_,c,Tryz.func52,hc⟩)
section
variable {m:Int} {s:Scp} {L:Nat} {h:Heap} {σ:LS} {N:Nat}
theorem QaR (H:Rel s L h σ)(c:Int):∃h',Qab (cxZ m) (blk (cxZ m)) 54 [.v (.ptr L 0),.v (.ifc 56 (.int .i64 c))] h=some (.tup [],h')∧Rel s L h' (σ.fail c)∧Frm L h h':=by
 obtain⟨r,b,pr,pb,H⟩:=H
 obtain⟨h',hc,H',F⟩:=Qk5 (m:=m) H c
 exact⟨h',hc,⟨_,_,_,_,H'⟩,F⟩
theorem QbA (H:Rel s L h σ)(I:Inv N σ)(hN:N<2^41)(z:Int):
 ∃h',Qab (cxZ m) (blk (cxZ m)) 96 [.v (.ptr L 0),.v (.int .i64 z)] h=some (.v (.int .i64 (σ.take z).2),h')∧Rel s L h' (σ.take z).1∧Frm L h h':=by
 obtain⟨r,b,pr,pb,H⟩:=H
 obtain⟨h',_,hc,H',F⟩:=Qvr (m:=m) H I.wf (Nat.lt_of_le_of_lt I.sz hN) z
 exact⟨h',hc,⟨_,_,_,_,H'⟩,F⟩
theorem QdJ (H:Rel s L h σ)(I:Inv N σ)(hN:N<2^41){ts:List Int}(ht:ts.length<2^41):
 ∃h',Qab (cxZ m) (blk (cxZ m)) 52 [.v (.ptr L 0),.v (.imm (Qah ts))] h=some (.tup [],h')∧Rel s L h' (σ.all ts)∧Frm L h h':=by
 obtain⟨r,b,pr,pb,H⟩:=H
 obtain⟨h',_,hc,H',F⟩:=QCc (m:=m) H I.wf (Nat.lt_of_le_of_lt I.sz hN) ht
 exact⟨h',hc,⟨_,_,_,_,H'⟩,F⟩
theorem Qcq (H:Rel s L h σ)(I:Inv N σ){ts:List Int}(hN:N+ts.length<2^41):∃h',Qab (cxZ m) (blk (cxZ m)) 55 [.v (.ptr L 0),.v (.imm (Qah ts))] h=some (.tup [],h')∧Rel s L h' (σ.give ts):=by
 obtain⟨r,b,pr,pb,H⟩:=H
 have:=I.sz
 obtain⟨h',_,_,hc,H'⟩:=Qpc (m:=m) H (ts:=ts) (by omega)
 exact⟨h',hc,⟨_,_,_,_,H'⟩⟩
theorem Qf2 (H:Rel s L h σ)(I:Inv N σ)(hN:N<2^41):∃h',Qab (cxZ m) (blk (cxZ m)) 93 [.v (.ptr L 0)] h=some (.tup [],h')∧Rel s L h' σ.stop:=by
 obtain⟨r,b,pr,pb,H⟩:=H
 have:=I.sz
 obtain⟨h',_,hc,H'⟩:=Qvv (m:=m) H I.wf (by omega)
 exact⟨h',hc,⟨_,_,_,_,H'⟩⟩
theorem Qr1 (H:Rel s L h σ)(I:Inv N σ)(hN:N<2^41){n:Int}(h0:0≤n):
 (∃t,σ.lbl n=some t∧Qab (cxZ m) (blk (cxZ m)) 121 [.v (.ptr L 0),.v (.int .i64 n)] h=some (.tup [.imm (Qah t),.bool true],h))∨
 (σ.lbl n=none∧∃h',Qab (cxZ m) (blk (cxZ m)) 121 [.v (.ptr L 0),.v (.int .i64 n)] h=some (.tup [.imm [],.bool false],h')∧Rel s L h' (σ.fail 5)):=by
 obtain⟨r,b,pr,pb,H⟩:=H
 have:=I.sz
 rcases QBp (m:=m) H I.wf.ne (by omega) h0 with h1|⟨h1,h',hc,H'⟩
 ·exact .inl h1
 ·exact .inr ⟨h1,h',hc,⟨_,_,_,_,H'⟩⟩
theorem Rel.lt (H:Rel s L h σ):L<h.bx.length:=by
 obtain⟨r,b,pr,pb,H⟩:=H
 exact(List.getElem?_eq_some_iff.1 H.lk).1
theorem Rel.more (H:Rel s L h σ)(bx:List LV):Rel s L {h with bx:=h.bx++[bx]} σ:=by
 obtain⟨r,b,pr,pb,H⟩:=H
 have hl:=(List.getElem?_eq_some_iff.1 H.lk).1
 have e:∀i,i<h.bx.length→(h.bx++[bx])[i]? =h.bx[i]?:=fun i hi=>List.getElem?_append_left hi
 refine⟨r,b,pr,pb,(e L hl).trans H.lk,H.row.same fun i hi=>e i ?_,H.blk.same fun i hi=>e i ?_,H.rL,H.bL,H.rb⟩
 ·subst hi;exact H.row.lt
 ·subst hi;exact H.blk.lt
theorem Qlg {x y:List Int}(hl:x.length=y.length)(hx:x.length<2^41):∀(k i:Nat),i+k=x.length→
 blk (cxZ m) 145 (at_ Tryz.prog 145 4) [.v (.imm (Qah x)),.v (.imm (Qah y)),.v (.int .i64 (x.length:Int)),.v (.int .i64 (Int.ofNat i))] h=some (.v (.bool (decide (x.drop i=y.drop i))),h)
 |0,i,hi=>by
  rw[List.drop_of_length_le (by omega),List.drop_of_length_le (by omega)]
  exact QpR (k0:=Qaf (by rw[ofN];omega))
 |k+1,i,hi=>by
  have h1:x[i]? =some x[i]:=List.getElem?_eq_getElem (by omega)
  have h2:y[i]? =some y[i]:=List.getElem?_eq_getElem (by omega)
  have e1:ixA (.imm (Qah x)) (Int.ofNat i) 1=some [.int .i64 x[i]]:=Qaj (f:=fun x=>[AV.int .i64 x]) h1 rfl
  have e2:ixA (.imm (Qah y)) (Int.ofNat i) 1=some [.int .i64 y[i]]:=Qaj (f:=fun x=>[AV.int .i64 x]) h2 rfl
  rw[Qag h1,Qag h2]
  by_cases hq:x[i]=y[i]
  ·have:=Qlg hl hx k (i+1) (by omega)
   rw[show(decide (x[i]::x.drop (i+1)=y[i]::y.drop (i+1)))=decide (x.drop (i+1)=y.drop (i+1))from decide_eq_decide.2 (by rw[List.cons.injEq];exact⟨fun e=>e.2,fun e=>⟨hq,e⟩⟩)]
   exact QpS (k0:=Qae (by rw[ofN];omega)) (k1:=e1) (k2:=e2) (k3:=congrArg not (QaC hq)) (k4:=by rw[Qas (by omega)];exact this)
  ·rw[show(decide (x[i]::x.drop (i+1)=y[i]::y.drop (i+1)))=false from decide_eq_false (by rw[List.cons.injEq];exact fun e=>hq e.1)]
   exact QpT (k0:=Qae (by rw[ofN];omega)) (k1:=e1) (k2:=e2) (k3:=congrArg not (Qaw hq))
theorem QDc {x y:List Int}(hx:x.length<2^41):Qab (cxZ m) (blk (cxZ m)) 145 [.v (.imm (Qah x)),.v (.imm (Qah y))] h=some (.v (.bool (decide (x=y))),h):=by
 have l1:lnS (.imm (Qah x))=some (x.length:Int):=by show some _=some _;rw[Qac]
 have l2:lnS (.imm (Qah y))=some (y.length:Int):=by show some _=some _;rw[Qac]
 by_cases hl:x.length=y.length
 ·exact Qaa rfl rfl (by kernel_rfl) (Qye (k0:=l1) (k1:=l2) (k2:=congrArg not (QaC (by omega))) (k3:=l1) (k4:=Qlg hl hx x.length 0 (by omega)))
 ·rw[show decide (x=y)=false from decide_eq_false (by rintro rfl;exact hl rfl)]
  exact Qaa rfl rfl (by kernel_rfl) (Qyf (k0:=l1) (k1:=l2) (k2:=congrArg not (Qaw (by omega))))
def Qli (t:List Int):List AV:=[.imm (Qah t)]
theorem QC4 {C:Nat}{x last:List Int}(hC:ldP h (.ptr C 0) 1 false=some (.imm (Qah last)))(hx:x.length<2^41):QaK (cxZ m) (blk (cxZ m)) (.fn 144 [] [.ptr C 0]) [.v (.imm (Qah x))] h=some (.v (.bool (decide (x≠last))),h):=by
 have e:(decide (x≠last))=!decide (x=last):=by simp
 rw[e]
 exact Qaa rfl rfl (by kernel_rfl) (Qyg (k0:=hC) (k1:=QDc hx))
theorem QiI {C:Nat}{last:List Int}(hC:ldP h (.ptr C 0) 1 false=some (.imm (Qah last))){ts:List (List Int)}(hts:∀t,t∈ts→t.length≤1)(hl:ts.length<2^41):∀(k i:Nat),i+k=ts.length→
 ∃z:Int,blk (cxZ m) 161 (at_ Tryz.prog 161 2) [.v (.imm (ts.map Qli)),.v (.fn 144 [] [.ptr C 0]),.v (.int .i64 (ts.length:Int)),.v (.int .i64 (Int.ofNat i))] h=some (.v (.int .i64 z),h)∧leZ (Int.ofNat 0) z=(ts.drop i).any (·≠last)
 |0,i,hi=>by
  rw[List.drop_of_length_le (by omega)]
  exact⟨_,QpO (k0:=Qaf (by rw[ofN];omega)),rfl⟩
 |k+1,i,hi=>by
  have h1:ts[i]? =some ts[i]:=List.getElem?_eq_getElem (by omega)
  have e1:ixA (.imm (ts.map Qli)) (Int.ofNat i) 1=some [.imm (Qah ts[i])]:=Qaj (f:=Qli) h1 rfl
  have hle:=hts ts[i] (List.getElem_mem _)
  have hv:=QC4 (m:=m) hC (x:=ts[i]) (by omega)
  rw[Qag h1,List.any_cons]
  cases hq:decide (ts[i]≠last)with
  |true=>
   rw[hq]at hv
   exact⟨_,QpQ (k0:=Qae (by rw[ofN];omega)) (k1:=e1) (k2:=hv) (k3:=rfl),by rw[Bool.true_or];exact Qbi (by rw[ofN,ofN];omega)⟩
  |false=>
   rw[hq]at hv
   obtain⟨z,hz,he⟩:=QiI hC hts hl k (i+1) (by omega)
   exact⟨z,QpP (k0:=Qae (by rw[ofN];omega)) (k1:=e1) (k2:=hv) (k3:=rfl) (k4:=by rw[Qas (by omega)];exact hz),by rw[Bool.false_or];exact he⟩
theorem QCb {C:Nat}{last:List Int}(hC:ldP h (.ptr C 0) 1 false=some (.imm (Qah last))){ts:List (List Int)}(hts:∀t,t∈ts→t.length≤1)(hl:ts.length<2^41):
 Qab (cxZ m) (blk (cxZ m)) 143 [.v (.imm (ts.map Qli)),.v (.fn 144 [] [.ptr C 0])] h=some (.v (.bool (ts.any (·≠last))),h):=by
 obtain⟨z,hz,he⟩:=QiI (m:=m) hC hts hl ts.length 0 (by omega)
 rw[List.drop_zero]at he
 rw[←he]
 refine Qaa rfl rfl (by kernel_rfl) (Qyh (k0:=Qaa rfl rfl (by kernel_rfl) (Qyd (k0:=?_))))
 rw[List.length_map]
 exact hz
theorem QDm {out:List (List Int)}{t:List Int}(h:(out.length+1)*24≤140737488355328):apL (.ow 1 (out.map Qli)) 1 24 [[.imm (Qah t)]]=some (.ow 1 ((out++[t]).map Qli)):=by
 have e:=Qbn (n:=1) (b:=24) (out:=out.map Qli) (ys:=[[.imm (Qah t)]]) rfl (by simpa using h) (by decide)
 rw[e,List.map_append]
 rfl
theorem QeQ {l:List Int}(h0:∀n,n∈l→0≤n)(hl:l.length<2^40)(hne:l≠[])(hN:N<2^41)(I:Inv N σ):∀(k i:Nat) (acc:List (List Int)),i+k=l.length→acc.length=i→(∀t,t∈acc→t.length≤1)→Rel s L h σ→
 ∃h',blk (cxZ m) 120 (at_ Tryz.prog 120 3) [.v (.ptr L 0),.ow 1 (acc.map Qli),.v (.imm (Qah l)),.v (.int .i64 (l.length:Int)),.v (.int .i64 (Int.ofNat i))] h=some (.tup [],h')∧
  Rel s L h' (match σ.tbl (l.drop i) acc with
   |none=>σ.fail 5
   |some ts=>(((if ts.any (·≠ts.getLastD [])then σ.fail 4 else σ).take 1).1.all (ts.getLastD [])).stop)
 |0,i,acc,hi,ha,hacc,H=>by
  rw[List.drop_of_length_le (by omega)]
  simp only[LS.tbl]
  have hpos:=List.length_pos_iff.2 hne
  have hane:acc≠[]:=List.length_pos_iff.1 (by omega)
  obtain⟨last,hlast⟩:∃x,acc.getLast? =some x:=⟨_,List.getLast?_eq_some_getLast hane⟩
  have hD:acc.getLastD []=last:=by rw[List.getLastD_eq_getLast?,hlast];rfl
  rw[hD]
  have hla:last.length≤1:=hacc last (List.mem_of_getLast? hlast)
  have hix:ixA (.imm (acc.map Qli)) (IntKind.wrap .i64 (Int.ofNat (acc.map Qli).length-Int.ofNat 1)) 1=some [.imm (Qah last)]:=by
   rw[List.length_map,ofN,QjA (by omega) (by omega)]
   exact Qaj (f:=Qli) (by rw[←List.getLast?_eq_getElem?];exact hlast) rfl
  have hb:({bx:=h.bx++[[LV.ow 1 []]],mp:=h.mp}:Heap).bx[h.bx.length]? =some [LV.ow 1 []]:=by simp
  have hst:=QbY (x:=.v (.imm (Qah last))) hb (k:=0) (by simp)
  have hput:({bx:=h.bx++[[LV.ow 1 []]],mp:=h.mp}:Heap).put h.bx.length (([LV.ow 1 []]:List LV).set 0 (.v (.imm (Qah last))))={h with bx:=h.bx++[[.v (.imm (Qah last))]]}:=by
   simp[Heap.put]
  rw[hput]at hst
  have H1:=H.more [.v (.imm (Qah last))]
  have hLC:h.bx.length≠L:=by have:=H.lt;omega
  have hC:∀{h2:Heap},Frm L {h with bx:=h.bx++[[.v (.imm (Qah last))]]} h2→ldP h2 (.ptr h.bx.length 0) 1 false=some (.imm (Qah last)):=fun F=>
   QcQ (bx:=[.v (.imm (Qah last))]) ((F.1 _ hLC).trans (by simp)) rfl
  have hany:=QCb (m:=m) (hC (Frm.refl _ _)) hacc (ts:=acc) (by omega)
  cases hq:acc.any (·≠last)with
  |true=>
   rw[hq]at hany
   obtain⟨h2,c2,H2,F2⟩:=QaR (m:=m) H1 4
   obtain⟨h3,c3,H3,F3⟩:=QbA (m:=m) H2 (I.fail 4) hN 1
   obtain⟨h4,c4,H4,_⟩:=QdJ (m:=m) H3 ((I.fail 4).take 1) hN (ts:=last) (by omega)
   obtain⟨h5,c5,H5⟩:=Qf2 (m:=m) H4 (((I.fail 4).take 1).all last) hN
   refine⟨h5,QpV (k0:=Qaf (by rw[ofN];omega)) (k1:=hix) (k2:=hst) (k3:=hany) (k4:=rfl) (k5:=c2) (k6:=c3) (k7:=hC (F2.trans F3)) (k8:=c4) (k9:=c5),?_⟩
   rw[if_pos rfl]
   exact H5
  |false=>
   rw[hq]at hany
   obtain⟨h3,c3,H3,F3⟩:=QbA (m:=m) H1 I hN 1
   obtain⟨h4,c4,H4,_⟩:=QdJ (m:=m) H3 (I.take 1) hN (ts:=last) (by omega)
   obtain⟨h5,c5,H5⟩:=Qf2 (m:=m) H4 ((I.take 1).all last) hN
   refine⟨h5,QpU (k0:=Qaf (by rw[ofN];omega)) (k1:=hix) (k2:=hst) (k3:=hany) (k4:=rfl) (k5:=c3) (k6:=hC F3) (k7:=c4) (k8:=c5),?_⟩
   rw[if_neg (by simp)]
   exact H5
 |k+1,i,acc,hi,ha,hacc,H=>by
  have h1:l[i]? =some l[i]:=List.getElem?_eq_getElem (by omega)
  have e1:ixA (.imm (Qah l)) (Int.ofNat i) 1=some [.int .i64 l[i]]:=Qaj (f:=fun x=>[AV.int .i64 x]) h1 rfl
  rw[Qag h1]
  unfold LS.tbl
  rcases Qr1 (m:=m) H I hN (h0 l[i] (List.getElem_mem _))with⟨t,ht,hc⟩|⟨ht,h',hc,H'⟩
  ·rw[ht]
   have hle:=I.lbl ht
   obtain⟨h',hb,H'⟩:=QeQ h0 hl hne hN I k (i+1) (acc++[t]) (by omega) (by simp[ha]) (fun x hx=>by
    rcases List.mem_append.1 hx with hx|hx
    ·exact hacc x hx
    ·simp at hx;subst hx;exact hle) H
   exact⟨h',QpW (k0:=Qae (by rw[ofN];omega)) (k1:=e1) (k2:=hc) (k3:=rfl) (k4:=QDm (by omega)) (k5:=by rw[Qas (by omega)];exact hb),H'⟩
  ·rw[ht]
   exact⟨h',QpX (k0:=Qae (by rw[ofN];omega)) (k1:=e1) (k2:=hc) (k3:=rfl),H'⟩
theorem QqU {o a b' v t:Int}{l:List Int}{bd el:List (List AV)}{q:Bool}(h0:∀n,n∈l→0≤n)(hl:l.length<2^40)(hne:l≠[])(hN:N<2^41)(I:Inv N σ)(H:Rel s L h σ):
 ∃h',Qab (cxZ m) (blk (cxZ m)) 120 [.v (.ptr L 0),.v (.agg [.int .i64 o,.int .i64 a,.int .i64 b',.int .u64 v,.int .i64 t,.imm (Qah l),.imm bd,.imm el,.bool q])] h=some (.tup [],h')∧Rel s L h' (σ.table l):=by
 obtain⟨h',hb,H'⟩:=QeQ (m:=m) h0 hl hne hN I l.length 0 [] (by omega) rfl (by simp) H
 refine⟨h',Qaa rfl rfl (by kernel_rfl) (Qyk (k0:=by rw[Qac];exact hb)),?_⟩
 rw[List.drop_zero]at H'
 exact H'
end
end Go.Proofs.YtoblgjmllmomhaaGreatDoor
namespace Go.Proofs.YtoblgjmllmomhaaGreatDoor
set_option maxRecDepth 100000
open Go Go.Proofs.Am
theorem QnP {a b:Nat}(h:a<b):ltZ (Int.ofNat a) (Int.ofNat b)=true:=Nat.ble_eq_true_of_le h
theorem Qkv {a b:Nat}(h:b≤a):ltZ (Int.ofNat a) (Int.ofNat b)=false:=by
 cases hb:ltZ (Int.ofNat a) (Int.ofNat b)with
 |false=>rfl
 |true=>have:a+1≤b:=Nat.le_of_ble_eq_true hb;omega
theorem QtB {n:Nat}(h:n<9223372036854775808):IntKind.wrap .i64 (Int.ofNat n)=Int.ofNat n:=by
 rw[IntKind.wrap_i64]
 have:(Int.ofNat n)=(n:Int):=rfl
 rw[this];omega
theorem Qks:maxLen=9223372036854775807:=by kernel_rfl
theorem Qcb {m:Int}{f:Nat}{xs:List LV}{h:Heap}{y:LV×Heap}(he:QwW m f=none)(hb:(QaE (Cx.P (cxZ m)) f).isEmpty=false)(hc:(cutAt (cxZ m) f (QaE (Cx.P (cxZ m)) f)).isNone=true)(hy:blk (cxZ m) f (QaE (Cx.P (cxZ m)) f) xs h=some y)(hx:(cxZ m).exh f=none:=by rfl)(hr:(cxZ m).exr f=none:=by rfl):Qab (cxZ m) (blk (cxZ m)) f xs h=some y:=
 Qaa (cx:=cxZ m) he hb hc hy hx hr
theorem QBq {A:Type}{f:A→List AV}{l:List A}{i n:Nat}(h:i<l.length)(hn:(f l[i]).length=n):ixA (.imm (l.map f)) (Int.ofNat i) n=some (f l[i]):=by
 have h0:(0:Int)≤Int.ofNat i:=Int.natCast_nonneg i
 simp only[ixA,decide_eq_true h0,cond_true,List.getElem?_map]
 rw[show(Int.ofNat i).toNat=i from rfl,List.getElem?_eq_getElem h]
 simp only[Option.map_some,Option.bind_some,hn,Nat.beq_refl,cond_true]
theorem Qo9 {l:List Ins}{i:Nat}(h:i<l.length):ixA (.imm (Qam l)) (Int.ofNat i) 9=some (Qbx l[i]):=by
 rw[QaN];exact QBq h (Qbe _)
theorem callV_fn {m:Int}{g:Nat}{ys:List LV}{h:Heap}:QaK (cxZ m) (blk (cxZ m)) (.fn g [] []) ys h=Qab (cxZ m) (blk (cxZ m)) g ys h:=by
 simp[QaK]
def RT (m:Int)(l:List Ins):Prop:=∃n d:Int,∀h,Qab (cxZ m) (blk (cxZ m)) 8 [.v (.imm (Qam l))] h=some (.tup [.int .i64 n,.int .i64 d],h)
theorem Qwf (m:Int)(l:List Ins)(hl:l.length≤maxLen)(hc:∀o a b v t ll bd el q,Ins.mk o a b v t ll bd el q∈l→RT m bd∧RT m el):∀(k i:Nat),i+k=l.length→∀(c d:Int),∃n d':Int,∀(h:Heap),
 blk (cxZ m) 8 (at_ Tryz.prog 8 4) [.v (.imm (Qam l)),.v (.int .i64 c),.v (.int .i64 d),.v (.int .i64 (Int.ofNat i))] h=some (.tup [.int .i64 n,.int .i64 d'],h)
 |0,i,hi,c,d=>by
  obtain rfl:i=l.length:=by omega
  exact⟨c,d,fun h=>QtC (k0:=(by rw[QaW];exact Qkv (Nat.le_refl _)))⟩
 |k+1,i,hi,c,d=>by
  have hlt:i<l.length:=by omega
  have hm:l[i]∈l:=List.getElem_mem hlt
  have hix:=Qo9 hlt
  have hl1:ltZ (Int.ofNat i) (Int.ofNat (Qam l).length)=true:=by rw[QaW];exact QnP hlt
  have ih:=Qwf m l hl hc k (i+1) (by omega)
  have hw:IntKind.wrap .i64 (Int.ofNat (Nat.succ i))=Int.ofNat (i+1):=QtB (by have:=Qks;omega)
  rw[←hw]at ih
  generalize l[i]=x at hm hix
  obtain⟨o,a,bb,v,t,ll,bd,el,q⟩:=x
  obtain⟨⟨n1,d1,h1⟩,⟨n2,d2,h2⟩⟩:=hc _ _ _ _ _ _ _ _ _ hm
  cases q1:leZ (Int.ofNat 2) o with
  |false=>
   obtain⟨n',d',hh⟩:=ih _ _
   exact⟨n',d',fun h=>QtD (k0:=hl1) (k1:=hix) (k2:=(h1 h)) (k3:=hix) (k4:=(h2 h)) (k5:=hix) (k6:=q1) (k7:=(hh h))⟩
  |true=>
   cases q2:leZ o (Int.ofNat 4)with
   |false=>
    obtain⟨n',d',hh⟩:=ih _ _
    exact⟨n',d',fun h=>QtE (k0:=hl1) (k1:=hix) (k2:=(h1 h)) (k3:=hix) (k4:=(h2 h)) (k5:=hix) (k6:=q1) (k7:=hix) (k8:=q2) (k9:=(hh h))⟩
   |true=>
    cases q3:ltZ d (IntKind.wrap IntKind.i64 (d1+Int.ofNat 1))with
    |true=>
     cases q4:ltZ (IntKind.wrap IntKind.i64 (d1+Int.ofNat 1)) (IntKind.wrap IntKind.i64 (d2+Int.ofNat 1))with
     |true=>
      obtain⟨n',d',hh⟩:=ih _ _
      exact⟨n',d',fun h=>QtI (k0:=hl1) (k1:=hix) (k2:=(h1 h)) (k3:=hix) (k4:=(h2 h)) (k5:=hix) (k6:=q1) (k7:=hix) (k8:=q2) (k9:=q3) (k10:=q4) (k11:=(hh h))⟩
     |false=>
      obtain⟨n',d',hh⟩:=ih _ _
      exact⟨n',d',fun h=>QtH (k0:=hl1) (k1:=hix) (k2:=(h1 h)) (k3:=hix) (k4:=(h2 h)) (k5:=hix) (k6:=q1) (k7:=hix) (k8:=q2) (k9:=q3) (k10:=q4) (k11:=(hh h))⟩
    |false=>
     cases q4:ltZ d (IntKind.wrap IntKind.i64 (d2+Int.ofNat 1))with
     |true=>
      obtain⟨n',d',hh⟩:=ih _ _
      exact⟨n',d',fun h=>QtG (k0:=hl1) (k1:=hix) (k2:=(h1 h)) (k3:=hix) (k4:=(h2 h)) (k5:=hix) (k6:=q1) (k7:=hix) (k8:=q2) (k9:=q3) (k10:=q4) (k11:=(hh h))⟩
     |false=>
      obtain⟨n',d',hh⟩:=ih _ _
      exact⟨n',d',fun h=>QtF (k0:=hl1) (k1:=hix) (k2:=(h1 h)) (k3:=hix) (k4:=(h2 h)) (k5:=hix) (k6:=q1) (k7:=hix) (k8:=q2) (k9:=q3) (k10:=q4) (k11:=(hh h))⟩
theorem Qrx (m:Int)(l:List Ins)(hl:l.length≤maxLen)(hc:∀o a b v t ll bd el q,Ins.mk o a b v t ll bd el q∈l→RT m bd∧RT m el):RT m l:=by
 obtain⟨n,d,hh⟩:=Qwf m l hl hc l.length 0 (by omega) (Int.ofNat 0) (Int.ofNat 0)
 exact⟨n,d,fun h=>Qcb rfl (by kernel_rfl) (by kernel_rfl) (QCP (k0:=(hh h)))⟩
theorem QvI (m:Int){x:Ins}(hx:Fit x):∀o a b v t ll bd el q,x=Ins.mk o a b v t ll bd el q→RT m bd∧RT m el:=by
 induction hx with
 |mk o a b v t l bd el q hl hb he h1 h2 i1 i2=>
  intro o' a' b' v' t' l' bd' el' q' e
  cases e
  exact⟨Qrx m bd hb fun o a b v t ll bd el q hm=>i1 _ hm o a b v t ll bd el q rfl,
   Qrx m el he fun o a b v t ll bd el q hm=>i2 _ hm o a b v t ll bd el q rfl⟩
theorem Qw7 (m:Int)(l:List Ins)(hl:l.length≤maxLen)(hf:∀x,x∈l→Fit x):RT m l:=
 Qrx m l hl fun o a b v t ll bd el q hm=>QvI m (hf _ hm) o a b v t ll bd el q rfl
end Go.Proofs.YtoblgjmllmomhaaGreatDoor
