/-
  Ways through texts, one by one (printed by a program of this repo).
-/
import Derived.Test.YtoblgjmllmomhaaGreatDoorAmSVe7
import Derived.Test.YtoblgjmllmomhaaGreatDoorAmS15wH
import Derived.Test.YtoblgjmllmomhaaGreatDoorAmBodyF
import Derived.Test.YtoblgjmllmomhaaGreatDoorAmPYHwG
import Derived.KernelRfl
namespace Go.Proofs.YtoblgjmllmomhaaGreatDoor
set_option maxRecDepth 100000
open Go Go.Proofs.Am
abbrev opA (ob:Int)(nm:ByteArray)(ok:Int)(tk:List (List AV))(gv bz:Int)(sg:Bool):AV:=.agg [.int .i64 ob,.str nm,.int .i64 ok,.imm tk,.int .i64 gv,.int .i64 bz,.bool sg]
abbrev inA (o a b v t:Int)(l bd el:List (List AV))(q:Bool):AV:=.agg [.int .i64 o,.int .i64 a,.int .i64 b,.int .u64 v,.int .i64 t,.imm l,.imm bd,.imm el,.bool q]
section
variable {m:Int} {s:Scp} {L:Nat} {h:Heap} {σ:LS} {N:Nat} {ob ok gv bz:Int} {tk:List (List AV)} {sg:Bool} {o a b v t:Int} {l:List Int} {ll bd el:List (List AV)} {q:Bool}
theorem Rel.ld (H:Rel s L h σ){k:Nat}{x:AV}(hk:∀pr pb,(lkC s pr pb σ.err)[k]? =some (.v x)):ldP h (.ptr L k) 1 false=some x:=by
 obtain⟨r,b,pr,pb,H⟩:=H
 exact H.ld (hk pr pb)
theorem QA6 (H:Rel s L h σ)(I:Inv N σ)(hN:N<2^41):∃h',Qab (cxZ m) (blk (cxZ m)) 89 [.v (.ptr L 0),.v (opA ob (sb [114,101,116,117,114,110]) ok tk gv bz sg),.v (inA o a b v t ll bd el q)] h=some (.tup [],h')∧Rel s L h' (σ.jump s 15 a l):=by
 have hld:ldP h (.ptr L 6) 1 false=some (.int .i64 s.re):=H.ld fun _ _=>rfl
 have:=Qb4 s.re
 obtain⟨h1,c1,H1,_⟩:=QdJ (m:=m) H I hN (ts:=rsl s.re) (by omega)
 obtain⟨h2,c2,H2⟩:=Qf2 (m:=m) H1 (I.all _) hN
 exact⟨h2,Qaa rfl rfl (by kernel_rfl) (Qt3 (k0:=hld) (k1:=Qb6 _ _) (k2:=c1) (k3:=c2)),H2⟩
theorem QBY (H:Rel s L h σ)(I:Inv N σ)(hN:N<2^41)(h0:∀n,n∈l→0≤n)(hl:l.length<2^40)(hne:l≠[]):∃h',Qab (cxZ m) (blk (cxZ m)) 89 [.v (.ptr L 0),.v (opA ob (sb [98,114,95,116,97,98,108,101]) ok tk gv bz sg),.v (inA o a b v t (Qah l) bd el q)] h=some (.tup [],h')∧Rel s L h' (σ.jump s 14 a l):=by
 obtain⟨h1,c1,H1⟩:=QqU (m:=m) (o:=o) (a:=a) (b':=b) (v:=v) (t:=t) (bd:=bd) (el:=el) (q:=q) h0 hl hne hN I H
 exact⟨h1,Qaa rfl rfl (by kernel_rfl) (Qt2 (k0:=c1)),H1⟩
theorem QBZ (H:Rel s L h σ)(I:Inv N σ)(hN:N+1<2^41)(h0:0≤a):∃h',Qab (cxZ m) (blk (cxZ m)) 89 [.v (.ptr L 0),.v (opA ob (sb [98,114,95,105,102]) ok tk gv bz sg),.v (inA o a b v t ll bd el q)] h=some (.tup [],h')∧Rel s L h' (σ.jump s 13 a l):=by
 have hj:σ.jump s 13 a l=match σ.lbl a with|none=>σ.fail 5|some t=>((σ.take 1).1.all t).give t:=rfl
 rw[hj]
 rcases Qr1 (m:=m) H I (by omega) h0 with⟨x,hx,hc⟩|⟨hx,h',hc,H'⟩
 ·rw[hx]
  have:=I.lbl hx
  obtain⟨h1,c1,H1,_⟩:=QbA (m:=m) H I (by omega) 1
  obtain⟨h2,c2,H2,_⟩:=QdJ (m:=m) H1 (I.take 1) (by omega) (ts:=x) (by omega)
  obtain⟨h3,c3,H3⟩:=Qcq (m:=m) H2 ((I.take 1).all x) (ts:=x) (by omega)
  exact⟨h3,Qaa rfl rfl (by kernel_rfl) (Qt4 (k0:=hc) (k1:=rfl) (k2:=c1) (k3:=c2) (k4:=c3)),H3⟩
 ·rw[hx]
  exact⟨h',Qaa rfl rfl (by kernel_rfl) (Qt5 (k0:=hc) (k1:=rfl)),H'⟩
theorem QDi (H:Rel s L h σ)(I:Inv N σ)(hN:N<2^41)(h0:0≤a):∃h',Qab (cxZ m) (blk (cxZ m)) 89 [.v (.ptr L 0),.v (opA ob (sb [98,114]) ok tk gv bz sg),.v (inA o a b v t ll bd el q)] h=some (.tup [],h')∧Rel s L h' (σ.jump s 12 a l):=by
 have hj:σ.jump s 12 a l=match σ.lbl a with|none=>σ.fail 5|some t=>(σ.all t).stop:=rfl
 rw[hj]
 rcases Qr1 (m:=m) H I hN h0 with⟨x,hx,hc⟩|⟨hx,h',hc,H'⟩
 ·rw[hx]
  have:=I.lbl hx
  obtain⟨h2,c2,H2,_⟩:=QdJ (m:=m) H I (by omega) (ts:=x) (by omega)
  obtain⟨h3,c3,H3⟩:=Qf2 (m:=m) H2 (I.all x) hN
  exact⟨h3,Qaa rfl rfl (by kernel_rfl) (Qt6 (k0:=hc) (k1:=rfl) (k2:=c2) (k3:=c3)),H3⟩
 ·rw[hx]
  exact⟨h',Qaa rfl rfl (by kernel_rfl) (Qt7 (k0:=hc) (k1:=rfl)),H'⟩
theorem Qw3 (H:Rel s L h σ)(I:Inv N σ)(hN:N<2^41):∃h',Qab (cxZ m) (blk (cxZ m)) 91 [.v (.ptr L 0),.v (opA ob (sb [100,114,111,112]) ok tk gv bz sg)] h=some (.tup [],h')∧Rel s L h' (σ.any 26):=by
 obtain⟨h1,c1,H1,_⟩:=QbA (m:=m) H I hN (Int.negSucc 0)
 exact⟨h1,Qaa rfl rfl (by kernel_rfl) (QtR (k0:=c1)),H1⟩
theorem QAw (H:Rel s L h σ)(I:Inv N σ)(hN:N+1<2^41):∃h',Qab (cxZ m) (blk (cxZ m)) 91 [.v (.ptr L 0),.v (opA ob (sb [115,101,108,101,99,116]) ok tk gv bz sg)] h=some (.tup [],h')∧Rel s L h' (σ.any 27):=by
 obtain⟨h1,c1,H1,_⟩:=QbA (m:=m) H I (by omega) 1
 obtain⟨h2,c2,H2,_⟩:=QbA (m:=m) H1 (I.take 1) (by omega) (Int.negSucc 0)
 obtain⟨h3,c3,H3,_⟩:=QbA (m:=m) H2 ((I.take 1).take (Int.negSucc 0)) (by omega) (((σ.take 1).1.take (Int.negSucc 0)).2)
 obtain⟨h4,c4,H4⟩:=Qcq (m:=m) H3 (((I.take 1).take (Int.negSucc 0)).take _) (ts:=[(((σ.take 1).1.take (Int.negSucc 0)).1.take (((σ.take 1).1.take (Int.negSucc 0)).2)).2]) (by simpa using hN)
 exact⟨h4,Qaa rfl rfl (by kernel_rfl) (QtQ (k0:=c1) (k1:=c2) (k2:=c3) (k3:=c4)),H4⟩
theorem ln5 (H:Rel s L h σ):ldP h (.ptr L 5) 1 false=some (.imm (Qah s.lo)):=H.ld fun _ _=>rfl
theorem ln2 (H:Rel s L h σ):ldP h (.ptr L 2) 1 false=some (.imm (s.gl.map Glo.enc)):=H.ld fun _ _=>rfl
theorem lnI (l:List Int):lnS (.imm (Qah l))=some (l.length:Int):=by show some _=some _;rw[Qac]
theorem lnM {A:Type}(f:A→List AV)(l:List A):lnS (.imm (l.map f))=some (l.length:Int):=by show some _=some _;rw[List.length_map]
theorem QjE {o:Int}(ho:o<35):σ.var s o a=if a<s.lo.length then match s.lo[a.toNat]? with|none=>σ|some t=>σ.varT o t true else σ.fail 5:=by
 exact if_pos ho
theorem QoF {o:Int}(ho:¬o<35):σ.var s o a=if a<s.gl.length then match s.gl[a.toNat]? with|none=>σ|some g=>σ.varT o g.t g.mu else σ.fail 5:=by
 exact if_neg ho
theorem Qwi (H:Rel s L h σ)(I:Inv N σ)(hN:N+1<2^41)(h0:0≤a):∃h',Qab (cxZ m) (blk (cxZ m)) 92 [.v (.ptr L 0),.v (opA 32 (sb [108,111,99,97,108,46,103,101,116]) ok tk gv bz sg),.v (inA o a b v t ll bd el q)] h=some (.tup [],h')∧Rel s L h' (σ.var s 32 a):=by
 rw[QjE (by decide)]
 by_cases ha:a<s.lo.length
 ·have hg:s.lo[a.toNat]? =some s.lo[a.toNat]:=List.getElem?_eq_getElem (by omega)
  rw[if_pos ha,hg]
  obtain⟨h1,c1,H1⟩:=Qcq (m:=m) H I (ts:=[s.lo[a.toNat]]) (by simpa using hN)
  exact⟨h1,Qaa rfl rfl (by kernel_rfl) (QmG (k0:=ln5 H) (k1:=lnI _) (k2:=Qae ha) (k3:=ln5 H) (k4:=Qa3 (f:=fun x=>[AV.int .i64 x]) h0 hg rfl) (k5:=c1)),H1⟩
 ·rw[if_neg ha]
  obtain⟨h1,c1,H1,_⟩:=QaR (m:=m) H 5
  exact⟨h1,Qaa rfl rfl (by kernel_rfl) (QmF (k0:=ln5 H) (k1:=lnI _) (k2:=Qaf (by omega)) (k3:=c1)),H1⟩
theorem Qwe (H:Rel s L h σ)(I:Inv N σ)(hN:N<2^41)(h0:0≤a):∃h',Qab (cxZ m) (blk (cxZ m)) 92 [.v (.ptr L 0),.v (opA 33 (sb [108,111,99,97,108,46,115,101,116]) ok tk gv bz sg),.v (inA o a b v t ll bd el q)] h=some (.tup [],h')∧Rel s L h' (σ.var s 33 a):=by
 rw[QjE (by decide)]
 by_cases ha:a<s.lo.length
 ·have hg:s.lo[a.toNat]? =some s.lo[a.toNat]:=List.getElem?_eq_getElem (by omega)
  rw[if_pos ha,hg]
  obtain⟨h1,c1,H1,_⟩:=QbA (m:=m) H I hN s.lo[a.toNat]
  exact⟨h1,Qaa rfl rfl (by kernel_rfl) (QmE (k0:=ln5 H) (k1:=lnI _) (k2:=Qae ha) (k3:=ln5 H) (k4:=Qa3 (f:=fun x=>[AV.int .i64 x]) h0 hg rfl) (k5:=c1)),H1⟩
 ·rw[if_neg ha]
  obtain⟨h1,c1,H1,_⟩:=QaR (m:=m) H 5
  exact⟨h1,Qaa rfl rfl (by kernel_rfl) (QmD (k0:=ln5 H) (k1:=lnI _) (k2:=Qaf (by omega)) (k3:=c1)),H1⟩
theorem Qwd (H:Rel s L h σ)(I:Inv N σ)(hN:N+1<2^41)(h0:0≤a):∃h',Qab (cxZ m) (blk (cxZ m)) 92 [.v (.ptr L 0),.v (opA 34 (sb [108,111,99,97,108,46,116,101,101]) ok tk gv bz sg),.v (inA o a b v t ll bd el q)] h=some (.tup [],h')∧Rel s L h' (σ.var s 34 a):=by
 rw[QjE (by decide)]
 by_cases ha:a<s.lo.length
 ·have hg:s.lo[a.toNat]? =some s.lo[a.toNat]:=List.getElem?_eq_getElem (by omega)
  rw[if_pos ha,hg]
  obtain⟨h1,c1,H1,_⟩:=QbA (m:=m) H I (by omega) s.lo[a.toNat]
  obtain⟨h2,c2,H2⟩:=Qcq (m:=m) H1 (I.take _) (ts:=[s.lo[a.toNat]]) (by simpa using hN)
  exact⟨h2,Qaa rfl rfl (by kernel_rfl) (QmC (k0:=ln5 H) (k1:=lnI _) (k2:=Qae ha) (k3:=ln5 H) (k4:=Qa3 (f:=fun x=>[AV.int .i64 x]) h0 hg rfl) (k5:=c1) (k6:=c2)),H2⟩
 ·rw[if_neg ha]
  obtain⟨h1,c1,H1,_⟩:=QaR (m:=m) H 5
  exact⟨h1,Qaa rfl rfl (by kernel_rfl) (QmB (k0:=ln5 H) (k1:=lnI _) (k2:=Qaf (by omega)) (k3:=c1)),H1⟩
theorem QwK (H:Rel s L h σ)(I:Inv N σ)(hN:N+1<2^41)(h0:0≤a):∃h',Qab (cxZ m) (blk (cxZ m)) 92 [.v (.ptr L 0),.v (opA 35 (sb [103,108,111,98,97,108,46,103,101,116]) ok tk gv bz sg),.v (inA o a b v t ll bd el q)] h=some (.tup [],h')∧Rel s L h' (σ.var s 35 a):=by
 rw[QoF (by decide)]
 by_cases ha:a<s.gl.length
 ·have hg:s.gl[a.toNat]? =some s.gl[a.toNat]:=List.getElem?_eq_getElem (by omega)
  rw[if_pos ha,hg]
  have hix:=Qa3 (f:=Glo.enc) h0 hg rfl
  generalize s.gl[a.toNat]=g at hix⊢
  obtain⟨gt,mu,⟨g1,g2,g3,g4,g5,g6,g7,g8,g9⟩⟩:=g
  obtain⟨h1,c1,H1⟩:=Qcq (m:=m) H I (ts:=[gt]) (by simpa using hN)
  exact⟨h1,Qaa rfl rfl (by kernel_rfl) (QmA (k0:=ln2 H) (k1:=lnM _ _) (k2:=Qae ha) (k3:=ln2 H) (k4:=hix) (k5:=ln2 H) (k6:=hix) (k7:=c1)),H1⟩
 ·rw[if_neg ha]
  obtain⟨h1,c1,H1,_⟩:=QaR (m:=m) H 5
  exact⟨h1,Qaa rfl rfl (by kernel_rfl) (Qmz (k0:=ln2 H) (k1:=lnM _ _) (k2:=Qaf (by omega)) (k3:=c1)),H1⟩
theorem QwG (H:Rel s L h σ)(I:Inv N σ)(hN:N<2^41)(h0:0≤a):∃h',Qab (cxZ m) (blk (cxZ m)) 92 [.v (.ptr L 0),.v (opA 36 (sb [103,108,111,98,97,108,46,115,101,116]) ok tk gv bz sg),.v (inA o a b v t ll bd el q)] h=some (.tup [],h')∧Rel s L h' (σ.var s 36 a):=by
 rw[QoF (by decide)]
 by_cases ha:a<s.gl.length
 ·have hg:s.gl[a.toNat]? =some s.gl[a.toNat]:=List.getElem?_eq_getElem (by omega)
  rw[if_pos ha,hg]
  have hix:=Qa3 (f:=Glo.enc) h0 hg rfl
  generalize s.gl[a.toNat]=g at hix⊢
  obtain⟨gt,mu,⟨g1,g2,g3,g4,g5,g6,g7,g8,g9⟩⟩:=g
  cases mu with
  |true=>
   obtain⟨h1,c1,H1,_⟩:=QbA (m:=m) H I hN gt
   exact⟨h1,Qaa rfl rfl (by kernel_rfl) (Qmx (k0:=ln2 H) (k1:=lnM _ _) (k2:=Qae ha) (k3:=ln2 H) (k4:=hix) (k5:=ln2 H) (k6:=hix) (k7:=rfl) (k8:=c1)),H1⟩
  |false=>
   obtain⟨h1,c1,H1,_⟩:=QaR (m:=m) H 4
   obtain⟨h2,c2,H2,_⟩:=QbA (m:=m) H1 (I.fail 4) hN gt
   exact⟨h2,Qaa rfl rfl (by kernel_rfl) (Qmy (k0:=ln2 H) (k1:=lnM _ _) (k2:=Qae ha) (k3:=ln2 H) (k4:=hix) (k5:=ln2 H) (k6:=hix) (k7:=rfl) (k8:=c1) (k9:=c2)),H2⟩
 ·rw[if_neg ha]
  obtain⟨h1,c1,H1,_⟩:=QaR (m:=m) H 5
  exact⟨h1,Qaa rfl rfl (by kernel_rfl) (Qmw (k0:=ln2 H) (k1:=lnM _ _) (k2:=Qaf (by omega)) (k3:=c1)),H1⟩
end
end Go.Proofs.YtoblgjmllmomhaaGreatDoor
namespace Go.Proofs.YtoblgjmllmomhaaGreatDoor
set_option maxRecDepth 100000
open Go Go.Proofs.Am
section
variable {m:Int} {s:Scp} {L:Nat} {h:Heap} {σ:LS} {N R:Nat} {ob ok gv bz:Int} {tk:List (List AV)} {sg:Bool} {o a b v t:Int} {l:List Int} {ll bd el:List (List AV)} {q:Bool}
theorem ln1 (H:Rel s L h σ):ldP h (.ptr L 1) 1 false=some (.imm (Qah s.fn)):=H.ld fun _ _=>rfl
theorem ln0 (H:Rel s L h σ):ldP h (.ptr L 0) 1 false=some (.imm (s.ty.map FTy.enc)):=H.ld fun _ _=>rfl
theorem ln3 (H:Rel s L h σ):ldP h (.ptr L 3) 1 false=some (.bool s.tb):=H.ld fun _ _=>rfl
theorem ln4 (H:Rel s L h σ):ldP h (.ptr L 4) 1 false=some (.bool s.mm):=H.ld fun _ _=>rfl
def QhD (R:Nat)(s:Scp):Prop:=∀x,x∈s.ty→x.p.length≤R∧x.r.length≤R
theorem Qiy {n:Int}{thr:Bool}{x:FTy}(h0:0≤n)(hn:n<s.ty.length)(ht:thr=true→s.tb=true)(hx:s.ty[n.toNat]? =some x):
 σ.callT s thr n=LS.give x.r (LS.all x.p (LS.thr thr (if 1<x.r.length then σ.fail 4 else σ))):=by
 unfold LS.callT
 rw[if_neg (by
  rintro(h1|h1|h1)
  ·omega
  ·omega
  ·rw[ht h1.1]at h1;cases h1.2),hx]
theorem Qc6 {n:Int}{thr:Bool}(hn:n<0∨(s.ty.length:Int)≤n∨(thr=true∧s.tb=false)):σ.callT s thr n=σ.fail 5:=if_pos hn
theorem Qxf (hR:QhD R s)(H:Rel s L h σ)(I:Inv N σ)(hN:N+R<2^41)(h0:0≤a):∃h',Qab (cxZ m) (blk (cxZ m)) 90 [.v (.ptr L 0),.v (opA ob (sb [99,97,108,108]) ok tk gv bz sg),.v (inA o a b v t ll bd el q)] h=some (.tup [],h')∧Rel s L h' (σ.call s 16 a):=by
 have hc:σ.call s 16 a=if(s.fn.length:Int)≤a then σ.fail 5 else match s.fn[a.toNat]? with|none=>σ|some n=>σ.callT s false n:=rfl
 rw[hc]
 by_cases ha:(s.fn.length:Int)≤a
 ·rw[if_pos ha]
  obtain⟨h1,c1,H1,_⟩:=QaR (m:=m) H 5
  exact⟨h1,Qaa rfl rfl (by kernel_rfl) (Qt1 (k0:=ln1 H) (k1:=lnI _) (k2:=Qbi ha) (k3:=c1)),H1⟩
 ·rw[if_neg ha]
  have hg:s.fn[a.toNat]? =some s.fn[a.toNat]:=List.getElem?_eq_getElem (by omega)
  rw[hg]
  simp only
  have hi:ixA (.imm (Qah s.fn)) a 1=some [.int .i64 s.fn[a.toNat]]:=Qa3 (f:=fun x=>[AV.int .i64 x]) h0 hg rfl
  generalize s.fn[a.toNat]=n at hi⊢
  have e2:=Qcy (show a<(s.fn.length:Int) by omega)
  by_cases hn:n<0
  ·rw[Qc6 (.inl hn)]
   obtain⟨h1,c1,H1,_⟩:=QaR (m:=m) H 5
   exact⟨h1,Qaa rfl rfl (by kernel_rfl) (Qt0 (k0:=ln1 H) (k1:=lnI _) (k2:=e2) (k3:=ln1 H) (k4:=hi) (k5:=Qae hn) (k6:=c1)),H1⟩
  ·by_cases hn2:(s.ty.length:Int)≤n
   ·rw[Qc6 (.inr (.inl hn2))]
    obtain⟨h1,c1,H1,_⟩:=QaR (m:=m) H 5
    exact⟨h1,Qaa rfl rfl (by kernel_rfl) (QtZ (k0:=ln1 H) (k1:=lnI _) (k2:=e2) (k3:=ln1 H) (k4:=hi) (k5:=Qaf (by show(0:Int)≤_;omega)) (k6:=ln0 H) (k7:=lnM _ _) (k8:=Qbi hn2) (k9:=c1)),H1⟩
   ·have hgt:s.ty[n.toNat]? =some s.ty[n.toNat]:=List.getElem?_eq_getElem (by omega)
    rw[Qiy (by omega) (by omega) (by simp) hgt]
    have hit:ixA (.imm (s.ty.map FTy.enc)) n 2=some [.imm (Qah s.ty[n.toNat].p),.imm (Qah s.ty[n.toNat].r)]:=Qa3 (f:=FTy.enc) (by omega) hgt rfl
    obtain⟨hp,hr⟩:=hR _ (List.mem_of_getElem? hgt)
    generalize s.ty[n.toNat]=x at hit hp hr⊢
    by_cases h1r:1<x.r.length
    ·rw[if_pos h1r]
     obtain⟨h1,c1,H1,_⟩:=QaR (m:=m) H 4
     obtain⟨h2,c2,H2,_⟩:=QdJ (m:=m) H1 (I.fail 4) (by omega) (ts:=x.p) (by omega)
     obtain⟨h3,c3,H3⟩:=Qcq (m:=m) H2 ((I.fail 4).all x.p) (ts:=x.r) (by omega)
     exact⟨h3,Qaa rfl rfl (by kernel_rfl) (QtY (k0:=ln1 H) (k1:=lnI _) (k2:=e2) (k3:=ln1 H) (k4:=hi) (k5:=Qaf (by show(0:Int)≤_;omega)) (k6:=ln0 H) (k7:=lnM _ _) (k8:=Qcy (by omega)) (k9:=ln0 H) (k10:=hit) (k11:=Qae (by rw[ofN,ofN,Qac];omega)) (k12:=c1) (k13:=c2) (k14:=c3)),H3⟩
    ·rw[if_neg h1r]
     obtain⟨h2,c2,H2,_⟩:=QdJ (m:=m) H I (by omega) (ts:=x.p) (by omega)
     obtain⟨h3,c3,H3⟩:=Qcq (m:=m) H2 (I.all x.p) (ts:=x.r) (by omega)
     exact⟨h3,Qaa rfl rfl (by kernel_rfl) (QtX (k0:=ln1 H) (k1:=lnI _) (k2:=e2) (k3:=ln1 H) (k4:=hi) (k5:=Qaf (by show(0:Int)≤_;omega)) (k6:=ln0 H) (k7:=lnM _ _) (k8:=Qcy (by omega)) (k9:=ln0 H) (k10:=hit) (k11:=Qaf (by rw[ofN,ofN,Qac];omega)) (k12:=c2) (k13:=c3)),H3⟩
theorem Qs3 (hR:QhD R s)(H:Rel s L h σ)(I:Inv N σ)(hN:N+R<2^41):∃h',Qab (cxZ m) (blk (cxZ m)) 90 [.v (.ptr L 0),.v (opA ob (sb [99,97,108,108,95,105,110,100,105,114,101,99,116]) ok tk gv bz sg),.v (inA o a b v t ll bd el q)] h=some (.tup [],h')∧Rel s L h' (σ.call s 17 a):=by
 have hc:σ.call s 17 a=σ.callT s true a:=rfl
 rw[hc]
 by_cases hn:a<0
 ·rw[Qc6 (.inl hn)]
  obtain⟨h1,c1,H1,_⟩:=QaR (m:=m) H 5
  exact⟨h1,Qaa rfl rfl (by kernel_rfl) (QtW (k0:=Qae hn) (k1:=c1)),H1⟩
 ·by_cases hn2:(s.ty.length:Int)≤a
  ·rw[Qc6 (.inr (.inl hn2))]
   obtain⟨h1,c1,H1,_⟩:=QaR (m:=m) H 5
   exact⟨h1,Qaa rfl rfl (by kernel_rfl) (QtV (k0:=Qaf (by show(0:Int)≤_;omega)) (k1:=ln0 H) (k2:=lnM _ _) (k3:=Qbi hn2) (k4:=c1)),H1⟩
  ·have l3:=ln3 H
   cases htb:s.tb with
   |false=>
    rw[htb]at l3
    rw[Qc6 (.inr (.inr ⟨rfl,htb⟩))]
    obtain⟨h1,c1,H1,_⟩:=QaR (m:=m) H 5
    exact⟨h1,Qaa rfl rfl (by kernel_rfl) (QtU (k0:=Qaf (by show(0:Int)≤_;omega)) (k1:=ln0 H) (k2:=lnM _ _) (k3:=Qcy (by omega)) (k4:=l3) (k5:=rfl) (k6:=c1)),H1⟩
   |true=>
    rw[htb]at l3
    have hgt:s.ty[a.toNat]? =some s.ty[a.toNat]:=List.getElem?_eq_getElem (by omega)
    rw[Qiy (by omega) (by omega) (fun _=>htb) hgt]
    have hit:ixA (.imm (s.ty.map FTy.enc)) a 2=some [.imm (Qah s.ty[a.toNat].p),.imm (Qah s.ty[a.toNat].r)]:=Qa3 (f:=FTy.enc) (by omega) hgt rfl
    obtain⟨hp,hr⟩:=hR _ (List.mem_of_getElem? hgt)
    generalize s.ty[a.toNat]=x at hit hp hr⊢
    by_cases h1r:1<x.r.length
    ·rw[if_pos h1r]
     obtain⟨h1,c1,H1,_⟩:=QaR (m:=m) H 4
     obtain⟨h4,c4,H4,_⟩:=QbA (m:=m) H1 (I.fail 4) (by omega) 1
     obtain⟨h2,c2,H2,_⟩:=QdJ (m:=m) H4 ((I.fail 4).take 1) (by omega) (ts:=x.p) (by omega)
     obtain⟨h3,c3,H3⟩:=Qcq (m:=m) H2 (((I.fail 4).take 1).all x.p) (ts:=x.r) (by omega)
     exact⟨h3,Qaa rfl rfl (by kernel_rfl) (QtT (k0:=Qaf (by show(0:Int)≤_;omega)) (k1:=ln0 H) (k2:=lnM _ _) (k3:=Qcy (by omega)) (k4:=l3) (k5:=rfl) (k6:=ln0 H) (k7:=hit) (k8:=Qae (by rw[ofN,ofN,Qac];omega)) (k9:=c1) (k10:=c4) (k11:=c2) (k12:=c3)),H3⟩
    ·rw[if_neg h1r]
     obtain⟨h4,c4,H4,_⟩:=QbA (m:=m) H I (by omega) 1
     obtain⟨h2,c2,H2,_⟩:=QdJ (m:=m) H4 (I.take 1) (by omega) (ts:=x.p) (by omega)
     obtain⟨h3,c3,H3⟩:=Qcq (m:=m) H2 ((I.take 1).all x.p) (ts:=x.r) (by omega)
     exact⟨h3,Qaa rfl rfl (by kernel_rfl) (QtS (k0:=Qaf (by show(0:Int)≤_;omega)) (k1:=ln0 H) (k2:=lnM _ _) (k3:=Qcy (by omega)) (k4:=l3) (k5:=rfl) (k6:=ln0 H) (k7:=hit) (k8:=Qaf (by rw[ofN,ofN,Qac];omega)) (k9:=c4) (k10:=c2) (k11:=c3)),H3⟩
theorem QCZ:QcF Tryz.prog .shl 3 true (.int .i64 (Int.ofNat 1)) (.int .i64 0)=some (.int .i64 ((2:Int)^(0:Int).toNat)):=by kernel_rfl
theorem QCY:QcF Tryz.prog .shl 3 true (.int .i64 (Int.ofNat 1)) (.int .i64 1)=some (.int .i64 ((2:Int)^(1:Int).toNat)):=by kernel_rfl
theorem QCX:QcF Tryz.prog .shl 3 true (.int .i64 (Int.ofNat 1)) (.int .i64 2)=some (.int .i64 ((2:Int)^(2:Int).toNat)):=by kernel_rfl
theorem QCW:QcF Tryz.prog .shl 3 true (.int .i64 (Int.ofNat 1)) (.int .i64 3)=some (.int .i64 ((2:Int)^(3:Int).toNat)):=by kernel_rfl
theorem QoN (h0:0≤a)(h3:¬3<a):QcF Tryz.prog .shl 3 true (.int .i64 (Int.ofNat 1)) (.int .i64 a)=some (.int .i64 ((2:Int)^a.toNat)):=by
 have e:a=0∨a=1∨a=2∨a=3:=by omega
 rcases e with e|e|e|e
 ·rw[e];exact QCZ
 ·rw[e];exact QCY
 ·rw[e];exact QCX
 ·rw[e];exact QCW
theorem Qfj {r:OpR}(hk:r.kind=7∨r.kind=8∨r.kind=9)(hm:s.mm=false):σ.plain s r a=σ.fail 5:=if_pos ⟨hk,hm⟩
theorem QdL {r:OpR}(hk:¬((r.kind=7∨r.kind=8∨r.kind=9)∧s.mm=false)):
 σ.plain s r a=((if(r.kind=7∨r.kind=8)∧(3<a∨r.bytes<(2:Int)^a.toNat)then σ.fail 4 else σ).all r.takes).give [r.gives]:=if_neg hk
theorem QrF {r:OpR}{on:ByteArray}(ht:r.takes.length<2^41)(H:Rel s L h σ)(I:Inv N σ)(hN:N+1<2^41)(h0:r.kind=7∨r.kind=8→0≤a):
 ∃h',Qab (cxZ m) (blk (cxZ m)) 94 [.v (.ptr L 0),.v (opA ob on r.kind (Qah r.takes) r.gives r.bytes sg),.v (inA o a b v t ll bd el q)] h=some (.tup [],h')∧Rel s L h' (σ.plain s r a):=by
 obtain⟨rb,rn,k,tk,gv,bz,rs⟩:=r
 simp only at ht h0⊢
 have l4:=ln4 H
 have go:∀{h:Heap} {σ:LS},Rel s L h σ→Inv N σ→∃h2 h3,Qab (cxZ m) (blk (cxZ m)) 52 [.v (.ptr L 0),.v (.imm (Qah tk))] h=some (.tup [],h2)∧Qab (cxZ m) (blk (cxZ m)) 55 [.v (.ptr L 0),.v (.imm [[.int .i64 gv]])] h2=some (.tup [],h3)∧Rel s L h3 ((σ.all tk).give [gv]):=by
  intro h σ H I
  obtain⟨h2,c2,H2,_⟩:=QdJ (m:=m) H I (by omega) (ts:=tk) ht
  obtain⟨h3,c3,H3⟩:=Qcq (m:=m) H2 (I.all tk) (ts:=[gv]) (by simpa using hN)
  exact⟨h2,h3,c2,c3,H3⟩
 by_cases h7:k=7
 ·have e7:=QaC (b:=Int.ofNat 7) h7
  cases hm:s.mm with
  |false=>
   rw[hm]at l4
   rw[Qfj (.inl h7) hm]
   obtain⟨h1,c1,H1,_⟩:=QaR (m:=m) H 5
   exact⟨h1,Qaa rfl rfl (by kernel_rfl) (Qyv (k0:=e7) (k1:=l4) (k2:=rfl) (k3:=c1)),H1⟩
  |true=>
   rw[hm]at l4
   rw[QdL (by rw[hm];simp)]
   simp only
   by_cases h3:3<a
   ·rw[if_pos ⟨.inl h7,.inl h3⟩]
    obtain⟨h1,c1,H1,_⟩:=QaR (m:=m) H 4
    obtain⟨h2,h3',c2,c3,H3⟩:=go H1 (I.fail 4)
    exact⟨h3',Qaa rfl rfl (by kernel_rfl) (Qyu (k0:=e7) (k1:=l4) (k2:=rfl) (k3:=Qae h3) (k4:=c1) (k5:=c2) (k6:=c3)),H3⟩
   ·have hsh:=QoN (h0 (.inl h7)) h3
    by_cases hb:bz<(2:Int)^a.toNat
    ·rw[if_pos ⟨.inl h7,.inr hb⟩]
     obtain⟨h1,c1,H1,_⟩:=QaR (m:=m) H 4
     obtain⟨h2,h3',c2,c3,H3⟩:=go H1 (I.fail 4)
     exact⟨h3',Qaa rfl rfl (by kernel_rfl) (Qyt (k0:=e7) (k1:=l4) (k2:=rfl) (k3:=Qaf (Int.not_lt.1 h3)) (k4:=hsh) (k5:=Qae hb) (k6:=c1) (k7:=c2) (k8:=c3)),H3⟩
    ·rw[if_neg (fun hh=>hh.2.elim h3 hb)]
     obtain⟨h2,h3',c2,c3,H3⟩:=go H I
     exact⟨h3',Qaa rfl rfl (by kernel_rfl) (Qys (k0:=e7) (k1:=l4) (k2:=rfl) (k3:=Qaf (Int.not_lt.1 h3)) (k4:=hsh) (k5:=Qaf (Int.not_lt.1 hb)) (k6:=c2) (k7:=c3)),H3⟩
 ·have e7:=Qaw (b:=Int.ofNat 7) h7
  by_cases h8:k=8
  ·have e8:=QaC (b:=Int.ofNat 8) h8
   cases hm:s.mm with
   |false=>
    rw[hm]at l4
    rw[Qfj (.inr (.inl h8)) hm]
    obtain⟨h1,c1,H1,_⟩:=QaR (m:=m) H 5
    exact⟨h1,Qaa rfl rfl (by kernel_rfl) (Qyr (k0:=e7) (k1:=e8) (k2:=l4) (k3:=rfl) (k4:=c1)),H1⟩
   |true=>
    rw[hm]at l4
    rw[QdL (by rw[hm];simp)]
    simp only
    by_cases h3:3<a
    ·rw[if_pos ⟨.inr h8,.inl h3⟩]
     obtain⟨h1,c1,H1,_⟩:=QaR (m:=m) H 4
     obtain⟨h2,h3',c2,c3,H3⟩:=go H1 (I.fail 4)
     exact⟨h3',Qaa rfl rfl (by kernel_rfl) (Qyq (k0:=e7) (k1:=e8) (k2:=l4) (k3:=rfl) (k4:=Qae h3) (k5:=c1) (k6:=c2) (k7:=c3)),H3⟩
    ·have hsh:=QoN (h0 (.inr h8)) h3
     by_cases hb:bz<(2:Int)^a.toNat
     ·rw[if_pos ⟨.inr h8,.inr hb⟩]
      obtain⟨h1,c1,H1,_⟩:=QaR (m:=m) H 4
      obtain⟨h2,h3',c2,c3,H3⟩:=go H1 (I.fail 4)
      exact⟨h3',Qaa rfl rfl (by kernel_rfl) (Qyp (k0:=e7) (k1:=e8) (k2:=l4) (k3:=rfl) (k4:=Qaf (Int.not_lt.1 h3)) (k5:=hsh) (k6:=Qae hb) (k7:=c1) (k8:=c2) (k9:=c3)),H3⟩
     ·rw[if_neg (fun hh=>hh.2.elim h3 hb)]
      obtain⟨h2,h3',c2,c3,H3⟩:=go H I
      exact⟨h3',Qaa rfl rfl (by kernel_rfl) (Qyo (k0:=e7) (k1:=e8) (k2:=l4) (k3:=rfl) (k4:=Qaf (Int.not_lt.1 h3)) (k5:=hsh) (k6:=Qaf (Int.not_lt.1 hb)) (k7:=c2) (k8:=c3)),H3⟩
  ·have e8:=Qaw (b:=Int.ofNat 8) h8
   have nf:∀(x:LS),(if(k=7∨k=8)∧(3<a∨bz<(2:Int)^a.toNat)then x.fail 4 else x)=x:=fun x=>if_neg (fun hh=>hh.1.elim h7 h8)
   by_cases h9:k=9
   ·have e9:=QaC (b:=Int.ofNat 9) h9
    cases hm:s.mm with
    |false=>
     rw[hm]at l4
     rw[Qfj (.inr (.inr h9)) hm]
     obtain⟨h1,c1,H1,_⟩:=QaR (m:=m) H 5
     exact⟨h1,Qaa rfl rfl (by kernel_rfl) (Qyn (k0:=e7) (k1:=e8) (k2:=e9) (k3:=l4) (k4:=rfl) (k5:=c1)),H1⟩
    |true=>
     rw[hm]at l4
     rw[QdL (by rw[hm];simp)]
     simp only
     rw[nf]
     obtain⟨h2,h3',c2,c3,H3⟩:=go H I
     exact⟨h3',Qaa rfl rfl (by kernel_rfl) (QtP (k0:=e7) (k1:=e8) (k2:=e9) (k3:=l4) (k4:=rfl) (k5:=c2) (k6:=c3)),H3⟩
   ·have e9:=Qaw (b:=Int.ofNat 9) h9
    rw[QdL (fun hh=>hh.1.elim h7 fun x=>x.elim h8 h9)]
    simp only
    rw[nf]
    obtain⟨h2,h3',c2,c3,H3⟩:=go H I
    exact⟨h3',Qaa rfl rfl (by kernel_rfl) (QtO (k0:=e7) (k1:=e8) (k2:=e9) (k3:=c2) (k4:=c3)),H3⟩
end
end Go.Proofs.YtoblgjmllmomhaaGreatDoor
namespace Go.Proofs.YtoblgjmllmomhaaGreatDoor
set_option maxRecDepth 100000
open Go Go.Proofs.Am
def opP (x:LV):Option OpR:=
 match x with
 |.tup [.agg [.int .i64 ob,.str nm,.int .i64 k,.imm tk,.int .i64 gv,.int .i64 bz,.bool sg],.nilI]=>(Qgk tk).map fun ts=>⟨ob,nm,k,ts,gv,bz,sg⟩
 |_=>none
def opI (z:Int):Option OpR:=opP (Qav z)
theorem Qfl {x:LV}{r:OpR}(h:opP x=some r):x=.tup [opA r.byte r.nm r.kind (Qah r.takes) r.gives r.bytes r.sg,.nilI]:=by
 unfold opP at h
 split at h
 ·rename_i ob nm k tk gv bz sg
  obtain⟨ts,ht,rfl⟩:=Option.map_eq_some_iff.1 h
  rw[Qfu _ _ ht]
  rfl
 ·cases h
def namesK:List (Nat×Nat×List UInt8):=[(2,2,[98,108,111,99,107]),(2,3,[108,111,111,112]),(2,4,[105,102]),
 (3,12,[98,114]),(3,13,[98,114,95,105,102]),(3,14,[98,114,95,116,97,98,108,101]),(3,15,[114,101,116,117,114,110]),
 (4,16,[99,97,108,108]),(4,17,[99,97,108,108,95,105,110,100,105,114,101,99,116]),
 (5,26,[100,114,111,112]),(5,27,[115,101,108,101,99,116]),
 (6,32,[108,111,99,97,108,46,103,101,116]),(6,33,[108,111,99,97,108,46,115,101,116]),(6,34,[108,111,99,97,108,46,116,101,101]),(6,35,[103,108,111,98,97,108,46,103,101,116]),(6,36,[103,108,111,98,97,108,46,115,101,116])]
def eqL:List UInt8→List UInt8→Bool
 |[],[]=>true
 |x::xs,y::ys=>Nat.beq x.toNat y.toNat&&eqL xs ys
 |_,_=>false
theorem Qpg:∀{xs ys:List UInt8},eqL xs ys=true→xs=ys
 |[],[],_=>rfl
 |x::xs,y::ys,h=>by
  simp only[eqL,Bool.and_eq_true]at h
  have h1:=Nat.eq_of_beq_eq_true h.1
  rw[UInt8.toNat_inj.1 h1,Qpg h.2]
 |[],_::_,h=>by cases h
 |_::_,[],h=>by cases h
def QBW (n:Nat)(r:OpR):Bool:=
 eqZ r.byte (Int.ofNat n)&&Nat.ble r.takes.length 3&&((r.nm.toList==(sb [98,114,95,116,97,98,108,101]).toList)==Nat.beq n 14)&&((r.nm.toList==(sb [114,101,116,117,114,110]).toList)==Nat.beq n 15)&&
 (bif leZ 2 r.kind&&leZ r.kind 6 then namesK.any fun e=>eqZ r.kind (Int.ofNat e.1)&&Nat.beq e.2.1 n&&eqL r.nm.data.toList e.2.2
  else(r.nm.toList==(sb [117,110,114,101,97,99,104,97,98,108,101]).toList)==Nat.beq n 0)
def Qwo:LV→Bool
 |.tup [.agg [.int .i64 _,.str _,.int .i64 _,.imm _,.int .i64 _,.int .i64 _,.bool _],.ifc 56 (.int .i64 _)]=>true
 |_=>false
def QBX (n:Nat)(x:LV):Bool:=
 match opP x with
 |some r=>QBW n r
 |none=>Qwo x
def Qxe:Nat→List LV→Bool
 |_,[]=>true
 |n,x::xs=>QBX n x&&Qxe (n+1) xs
theorem QsZ:Qxe 0 lookL=true:=by kernel_rfl
theorem Qix:∀(l:List LV) (n k:Nat) (x:LV),Qxe n l=true→l[k]? =some x→QBX (n+k) x=true
 |[],n,k,x,_,h=>by simp at h
 |y::l,n,0,x,h,hx=>by
  simp only[Qxe,Bool.and_eq_true]at h
  simp only[List.getElem?_cons_zero,Option.some.injEq]at hx
  subst hx
  exact h.1
 |y::l,n,k+1,x,h,hx=>by
  simp only[Qxe,Bool.and_eq_true]at h
  have:=Qix l (n+1) k x h.2 (by simpa using hx)
  rwa[show n+(k+1)=n+1+k by omega]
theorem QrU:opP noneL=none:=by kernel_rfl
theorem Qcg (z:Int):(∃(n:Nat) (r:OpR),z=n∧opI z=some r∧QBW n r=true)∨(opI z=none∧Qwo (Qav z)=true):=by
 have hno:Qwo noneL=true:=by kernel_rfl
 have hn:=QrU
 unfold opI Qav
 cases z with
 |negSucc k=>exact .inr ⟨hn,hno⟩
 |ofNat n=>
  cases hx:lookL[n]? with
  |none=>simp only[hx,Option.getD_none];exact .inr ⟨hn,hno⟩
  |some x=>
   have h1:=Qix lookL 0 n x QsZ hx
   rw[Nat.zero_add]at h1
   simp only[hx,Option.getD_some]
   unfold QBX at h1
   cases hp:opP x with
   |none=>rw[hp]at h1;exact .inr ⟨rfl,h1⟩
   |some r=>rw[hp]at h1;exact .inl ⟨n,r,rfl,rfl,h1⟩
theorem Qhh {x:LV}(h:Qwo x=true):∃ob nm k tk gv bz sg c,x=.tup [opA ob nm k tk gv bz sg,.ifc 56 (.int .i64 c)]:=by
 unfold Qwo at h
 split at h
 ·exact⟨_,_,_,_,_,_,_,_,rfl⟩
 ·cases h
theorem QAy {nm:ByteArray}{l:List UInt8}(h:nm.data.toList=l):nm=sb l:=by
 subst h
 cases nm
 rfl
structure OpFacts (z:Int) (r:OpR):Prop where
 takes:r.takes.length≤3
 byte:r.byte=z
 bt:(r.nm.toList==(sb [98,114,95,116,97,98,108,101]).toList)=decide (z=14)
 rt:(r.nm.toList==(sb [114,101,116,117,114,110]).toList)=decide (z=15)
 k2:r.kind=2→(z=2∧r.nm=sb [98,108,111,99,107])∨(z=3∧r.nm=sb [108,111,111,112])∨(z=4∧r.nm=sb [105,102])
 k3:r.kind=3→(z=12∧r.nm=sb [98,114])∨(z=13∧r.nm=sb [98,114,95,105,102])∨(z=14∧r.nm=sb [98,114,95,116,97,98,108,101])∨(z=15∧r.nm=sb [114,101,116,117,114,110])
 k4:r.kind=4→(z=16∧r.nm=sb [99,97,108,108])∨(z=17∧r.nm=sb [99,97,108,108,95,105,110,100,105,114,101,99,116])
 k5:r.kind=5→(z=26∧r.nm=sb [100,114,111,112])∨(z=27∧r.nm=sb [115,101,108,101,99,116])
 k6:r.kind=6→(z=32∧r.nm=sb [108,111,99,97,108,46,103,101,116])∨(z=33∧r.nm=sb [108,111,99,97,108,46,115,101,116])∨(z=34∧r.nm=sb [108,111,99,97,108,46,116,101,101])∨(z=35∧r.nm=sb [103,108,111,98,97,108,46,103,101,116])∨(z=36∧r.nm=sb [103,108,111,98,97,108,46,115,101,116])
 k0:¬(2≤r.kind∧r.kind≤6)→(r.nm.toList==(sb [117,110,114,101,97,99,104,97,98,108,101]).toList)=decide (z=0)
theorem QiV {n:Nat}{r:OpR}(h:(namesK.any fun e=>eqZ r.kind (Int.ofNat e.1)&&Nat.beq e.2.1 n&&eqL r.nm.data.toList e.2.2)=true):∃e,e∈namesK∧r.kind=(e.1:Int)∧e.2.1=n∧r.nm=sb e.2.2:=by
 obtain⟨e,he,h⟩:=List.any_eq_true.1 h
 rw[Bool.and_eq_true,Bool.and_eq_true,QgC,beq_iff_eq]at h
 exact⟨e,he,h.1.1,Nat.eq_of_beq_eq_true h.1.2,QAy (Qpg h.2)⟩
theorem QhY {z:Int}{r:OpR}(h:opI z=some r):OpFacts z r:=by
 rcases Qcg z with⟨n,r',hz,hr,hc⟩|⟨hn,_⟩
 ·rw[h]at hr
  cases hr
  unfold QBW at hc
  simp only[Bool.and_eq_true]at hc
  obtain⟨⟨⟨⟨hb,ht⟩,hbt⟩,hrt⟩,hk⟩:=hc
  have beqd:∀(k:Nat),Nat.beq n k=decide (z=(k:Int)):=fun k=>by
   rw[hz]
   cases h1:Nat.beq n k with
   |true=>rw[Nat.eq_of_beq_eq_true h1];simp
   |false=>exact(decide_eq_false (fun e=>by have:=Int.ofNat.inj e;subst this;rw[Nat.beq_refl]at h1;cases h1)).symm
  rw[beq_iff_eq,beqd]at hbt hrt
  have hbyte:r.byte=z:=by rw[hz];exact(QsD hb).2 rfl
  have htk:=Nat.le_of_ble_eq_true ht
  by_cases hin:2≤r.kind∧r.kind≤6
  ·have e1:(leZ 2 r.kind&&leZ r.kind 6)=true:=by rw[Qbi hin.1,Qbi hin.2];rfl
   rw[e1,cond_true]at hk
   obtain⟨⟨k,q,nm⟩,he,h1,h2,h3⟩:=QiV hk
   simp only at h1 h2 h3
   simp only[namesK,List.mem_cons,Prod.mk.injEq,List.not_mem_nil,or_false]at he
   subst h2
   have key:∀(p:Nat),r.kind=(p:Int)→k=p:=fun p hp=>by rw[hp]at h1;omega
   refine⟨htk,hbyte,hbt,hrt,fun hh=>?_,fun hh=>?_,fun hh=>?_,fun hh=>?_,fun hh=>?_,fun hh=>absurd hin hh⟩
   ·have:=key 2 hh
    subst this
    rcases he with⟨x,rfl,rfl⟩|⟨x,rfl,rfl⟩|⟨x,rfl,rfl⟩|⟨x,rfl,rfl⟩|⟨x,rfl,rfl⟩|⟨x,rfl,rfl⟩|⟨x,rfl,rfl⟩|⟨x,rfl,rfl⟩|⟨x,rfl,rfl⟩|⟨x,rfl,rfl⟩|⟨x,rfl,rfl⟩|⟨x,rfl,rfl⟩|⟨x,rfl,rfl⟩|⟨x,rfl,rfl⟩|⟨x,rfl,rfl⟩|⟨x,rfl,rfl⟩<;>first|(exfalso;omega)|(simp[h3,hz])
   ·have:=key 3 hh
    subst this
    rcases he with⟨x,rfl,rfl⟩|⟨x,rfl,rfl⟩|⟨x,rfl,rfl⟩|⟨x,rfl,rfl⟩|⟨x,rfl,rfl⟩|⟨x,rfl,rfl⟩|⟨x,rfl,rfl⟩|⟨x,rfl,rfl⟩|⟨x,rfl,rfl⟩|⟨x,rfl,rfl⟩|⟨x,rfl,rfl⟩|⟨x,rfl,rfl⟩|⟨x,rfl,rfl⟩|⟨x,rfl,rfl⟩|⟨x,rfl,rfl⟩|⟨x,rfl,rfl⟩<;>first|(exfalso;omega)|(simp[h3,hz])
   ·have:=key 4 hh
    subst this
    rcases he with⟨x,rfl,rfl⟩|⟨x,rfl,rfl⟩|⟨x,rfl,rfl⟩|⟨x,rfl,rfl⟩|⟨x,rfl,rfl⟩|⟨x,rfl,rfl⟩|⟨x,rfl,rfl⟩|⟨x,rfl,rfl⟩|⟨x,rfl,rfl⟩|⟨x,rfl,rfl⟩|⟨x,rfl,rfl⟩|⟨x,rfl,rfl⟩|⟨x,rfl,rfl⟩|⟨x,rfl,rfl⟩|⟨x,rfl,rfl⟩|⟨x,rfl,rfl⟩<;>first|(exfalso;omega)|(simp[h3,hz])
   ·have:=key 5 hh
    subst this
    rcases he with⟨x,rfl,rfl⟩|⟨x,rfl,rfl⟩|⟨x,rfl,rfl⟩|⟨x,rfl,rfl⟩|⟨x,rfl,rfl⟩|⟨x,rfl,rfl⟩|⟨x,rfl,rfl⟩|⟨x,rfl,rfl⟩|⟨x,rfl,rfl⟩|⟨x,rfl,rfl⟩|⟨x,rfl,rfl⟩|⟨x,rfl,rfl⟩|⟨x,rfl,rfl⟩|⟨x,rfl,rfl⟩|⟨x,rfl,rfl⟩|⟨x,rfl,rfl⟩<;>first|(exfalso;omega)|(simp[h3,hz])
   ·have:=key 6 hh
    subst this
    rcases he with⟨x,rfl,rfl⟩|⟨x,rfl,rfl⟩|⟨x,rfl,rfl⟩|⟨x,rfl,rfl⟩|⟨x,rfl,rfl⟩|⟨x,rfl,rfl⟩|⟨x,rfl,rfl⟩|⟨x,rfl,rfl⟩|⟨x,rfl,rfl⟩|⟨x,rfl,rfl⟩|⟨x,rfl,rfl⟩|⟨x,rfl,rfl⟩|⟨x,rfl,rfl⟩|⟨x,rfl,rfl⟩|⟨x,rfl,rfl⟩|⟨x,rfl,rfl⟩<;>first|(exfalso;omega)|(simp[h3,hz])
  ·have e1:(leZ 2 r.kind&&leZ r.kind 6)=false:=by
    cases h1:leZ 2 r.kind with
    |false=>rfl
    |true=>
     rw[Bool.true_and]
     exact Qcy (by have:=(Qft h1).2 rfl;omega)
   rw[e1,cond_false,beq_iff_eq]at hk
   refine⟨htk,hbyte,hbt,hrt,fun hh=>absurd ⟨by omega,by omega⟩ hin,fun hh=>absurd ⟨by omega,by omega⟩ hin,fun hh=>absurd ⟨by omega,by omega⟩ hin,fun hh=>absurd ⟨by omega,by omega⟩ hin,fun hh=>absurd ⟨by omega,by omega⟩ hin,fun _=>?_⟩
   rw[hk,hz]
   cases n with
   |zero=>rfl
   |succ k=>exact(decide_eq_false (by omega)).symm
 ·rw[h]at hn;cases hn
end Go.Proofs.YtoblgjmllmomhaaGreatDoor
namespace Go.Proofs.YtoblgjmllmomhaaGreatDoor
set_option maxRecDepth 100000
open Go Go.Proofs.Am
section
variable {m:Int} {s:Scp} {L:Nat} {h:Heap} {σ:LS} {N:Nat}
theorem QoW {r b:Option Nat}{pr pb:AV}(H:HR s L h r b pr pb σ)(hB:σ.blk.length<2^41)(la re:List Int):∃id h1 h2,apH h pb 4 64 [[.imm (Qah la),.imm (Qah re),.int .i64 (σ.row.length:Int),.bool false]]=some (.arr 4 id 0 (σ.blk.length+1),h1)∧
 stP h1 (.ptr L 8) [.v (.arr 4 id 0 (σ.blk.length+1))]=some h2∧HR s L h2 r (some id) pr (.arr 4 id 0 (σ.blk.length+1)) (σ.push la re):=by
 obtain⟨id,h1,ha,hs,hf,hid,hl⟩:=QlY (y:=encB ⟨la,re,σ.row.length,false⟩) (bytes:=64) H.blk (QfF _) rfl (by decide) (by rw[List.length_map];exact QvJ hB)
 rw[List.length_map]at ha hs
 have hLl:L<h.bx.length:=(List.getElem?_eq_some_iff.1 H.lk).1
 have hlk:h1.bx[L]? =some (lkC s pr pb σ.err):=(hf L H.bL hLl).trans H.lk
 have hst:=QbY (x:=.v (.arr 4 id 0 (σ.blk.length+1))) hlk (k:=8) (by rw[Qcx];omega)
 have hset:(lkC s pr pb σ.err).set 8 (.v (.arr 4 id 0 (σ.blk.length+1)))=lkC s pr (.arr 4 id 0 (σ.blk.length+1)) σ.err:=rfl
 rw[hset]at hst
 have hrs:Sl h1 1 (Qah σ.row) r pr:=H.row.same fun i hi=>by
  subst hi
  exact hf i (fun e=>H.rb i rfl e) H.row.lt
 have hiL:some id≠some L:=by
  rcases hid with e|e
  ·rw[←e];exact H.bL
  ·intro e2;cases e2;omega
 refine⟨id,h1,_,ha,hst,Qbd hlk,hrs.put H.rL,?_,H.rL,hiL,?_⟩
 ·have:(σ.push la re).blk.map encB=σ.blk.map encB++[encB ⟨la,re,σ.row.length,false⟩]:=by simp[LS.push]
  rw[this]
  exact hs.put hiL
 ·intro i hi e2
  cases e2
  rcases hid with e|e
  ·exact H.rb _ hi e
  ·have:=H.row
   rw[hi]at this
   have:=this.lt
   omega
theorem Qwj (H:Rel s L h σ):ldP h (.ptr L 9) 1 false=some (Qcm σ.err):=H.ld fun _ _=>rfl
theorem Qxa {xs:List Ins}{la re:List Int}(H:Rel s L h σ)(I:Inv N σ)(hN:N<2^41)
 (hloop:∀{h1:Heap},Rel s L h1 (σ.push la re)→∃h',blk (cxZ m) 21 (at_ Tryz.prog 21 3) [.v (.ptr L 0),.v (.imm (Qah re)),.v (.imm (Qam xs)),.v (.int .i64 (Int.ofNat (Qam xs).length)),.v (.int .i64 (Int.ofNat 0))] h1=some (.tup [],h')∧Rel s L h' (LS.runL opI s xs re (σ.push la re))):
 ∃h',Qab (cxZ m) (blk (cxZ m)) 21 [.v (.ptr L 0),.v (.imm (Qam xs)),.v (.imm (Qah la)),.v (.imm (Qah re))] h=some (.tup [],h')∧Rel s L h' (if σ.err.isSome then σ else LS.runL opI s xs re (σ.push la re)):=by
 have h9:=Qwj H
 have hq:=Qaz σ.err
 cases he:σ.err with
 |some c=>
  rw[he]at h9 hq
  exact⟨h,Qaa rfl rfl (by kernel_rfl) (Qzr (k0:=h9) (k1:=hq) (k2:=rfl)),by rw[if_pos (show(some c).isSome=true from rfl)];exact H⟩
 |none=>
  rw[he]at h9 hq
  have hsz:=I.sz
  obtain⟨r,b,pr,pb,H⟩:=H
  obtain⟨id,h1,h2,ha,hst,H2⟩:=QoW H (by omega) la re
  obtain⟨h',hc,H'⟩:=hloop ⟨_,_,_,_,H2⟩
  have hln:=H.row.ln
  rw[Qac]at hln
  exact⟨h',Qaa rfl rfl (by kernel_rfl) (Quv (k0:=h9) (k1:=hq) (k2:=rfl) (k3:=H.ld8) (k4:=H.ld7) (k5:=hln) (k6:=ha) (k7:=hst) (k8:=hc)),by rw[if_neg (by simp)];exact H'⟩
theorem min_eq (a b:Nat):(bif decide ((a:Int)<(b:Int))then(a:Int)else(b:Int))=((min b a:Nat):Int):=by
 by_cases h:(a:Int)<(b:Int)
 ·rw[decide_eq_true h,cond_true];omega
 ·rw[decide_eq_false h,cond_false];omega
theorem QBD {re:List Int}{xs:List (List AV)}(hre:re.length≤1)(H:Rel s L h σ)(I:Inv N σ)(hN:N+1<2^41){n:Int}{i:Nat}(hi:n≤(i:Int)):
 ∃h',blk (cxZ m) 21 (at_ Tryz.prog 21 3) [.v (.ptr L 0),.v (.imm (Qah re)),.v (.imm xs),.v (.int .i64 n),.v (.int .i64 (Int.ofNat i))] h=some (.tup [],h')∧Rel s L h' (σ.fin re):=by
 have k0:ltZ (Int.ofNat i) n=false:=Qaf (by rw[ofN];exact hi)
 obtain⟨h1,c1,H1,_⟩:=QdJ (m:=m) H I (by omega) (ts:=re) (by omega)
 have I1:=I.all re
 unfold LS.fin
 generalize σ.all re=τ at H1 I1⊢
 obtain⟨bl,hbl,_⟩:=QbP I1.wf.ne
 have hle:=I1.wf.le bl (List.mem_of_getLast? hbl)
 have hsz:=I1.sz
 have hpos:=I1.pos
 unfold LS.fin1
 rw[hbl]
 simp only
 obtain⟨r,b,pr,pb,H1⟩:=H1
 obtain⟨id,rfl,htop⟩:=QqT (m:=m) H1 I1.wf.ne (by omega)
 have hht:ldP h1 (.ptr id ((τ.blk.length-1)*4+2)) 1 false=some (.int .i64 bl.ht):=H1.last hbl rfl rfl
 have hln:=H1.row.ln
 rw[Qac]at hln
 have tail:∀{h2:Heap} {τ2:LS},HR s L h2 r (some id) pr pb τ2→Inv N τ2→τ2.row=τ.row→τ2.blk=τ.blk→
  ∃pr' pb' h3 h4 h5,pb'=.arr 4 id 0 (τ.blk.length-1)∧((pr=.nilS∧pr'=.nilS)∨(∃q,pr'=.arr 1 q 0 (min bl.ht τ.row.length)))∧slA Tryz.prog 23 pr none (some (bif decide ((τ.row.length:Int)<(bl.ht:Int))then(τ.row.length:Int)else(bl.ht:Int)))=some pr'∧stP h2 (.ptr L 7) [.v pr']=some h3∧
   ldP h3 (.ptr L 8) 1 false=some pb∧lnS pb=some (τ.blk.length:Int)∧slA Tryz.prog 63 pb none (some (IntKind.wrap .i64 ((τ.blk.length:Int)-Int.ofNat 1)))=some pb'∧stP h3 (.ptr L 8) [.v pb']=some h4∧
   Qab (cxZ m) (blk (cxZ m)) 55 [.v (.ptr L 0),.v (.imm (Qah re))] h4=some (.tup [],h5)∧Rel s L h5 (τ2.fin2 re bl):=by
  intro h2 τ2 H2 I2 er eb
  have hpb:pb=.arr 4 id 0 τ.blk.length:=by rw[H2.blk.1,List.length_map,eb]
  have hw:IntKind.wrap .i64 ((τ.blk.length:Int)-Int.ofNat 1)=((τ.blk.length-1:Nat):Int):=QjA (by omega) hpos
  have hmin:=min_eq τ.row.length bl.ht
  have hmle:min bl.ht τ.row.length≤τ.row.length:=Nat.min_le_right _ _
  have htk:Qah (τ.row.take (min bl.ht τ.row.length))=(Qah τ.row).take (min bl.ht τ.row.length):=by unfold Qah;rw[List.map_take]
  have hrow:∃pr',((pr=.nilS∧pr'=.nilS)∨(∃q,pr'=.arr 1 q 0 (min bl.ht τ.row.length)))∧slA Tryz.prog 23 pr none (some ((min bl.ht τ.row.length:Nat):Int))=some pr'∧Sl h2 1 (Qah (τ.row.take (min bl.ht τ.row.length))) r pr':=by
   have hr:=H2.row
   rw[er]at hr
   cases r with
   |none=>
    obtain⟨e1,e2⟩:=hr
    have e3:τ.row=[]:=by simpa[Qah]using e2
    refine⟨.nilS,.inl ⟨e1,rfl⟩,?_,rfl,by rw[htk,e2];simp⟩
    rw[e1]
    exact QvB (by rw[e3];simp)
   |some q=>
    have hpr:pr=.arr 1 q 0 τ.row.length:=by rw[hr.1,Qac]
    refine⟨.arr 1 q 0 (min bl.ht τ.row.length),.inr ⟨q,rfl⟩,?_,?_⟩
    ·rw[hpr];exact QAv hmle rfl
    ·rw[htk]
     exact hr.takeN (by rw[Qac];exact hmle)
  obtain⟨pr',hpr',hsl,hS⟩:=hrow
  have hst7:=QbY (x:=.v pr') H2.lk (k:=7) (by rw[Qcx];omega)
  have hset7:(lkC s pr pb τ2.err).set 7 (.v pr')=lkC s pr' pb τ2.err:=rfl
  rw[hset7]at hst7
  have H3:HR s L (h2.put L (lkC s pr' pb τ2.err)) r (some id) pr' pb {τ2 with row:=τ.row.take (min bl.ht τ.row.length)}:=H2.put (σ':={τ2 with row:=τ.row.take (min bl.ht τ.row.length)}) rfl hS
  have hst8:=QbY (x:=.v (.arr 4 id 0 (τ.blk.length-1))) H3.lk (k:=8) (by rw[Qcx];omega)
  have hset8:(lkC s pr' pb τ2.err).set 8 (.v (.arr 4 id 0 (τ.blk.length-1)))=lkC s pr' (.arr 4 id 0 (τ.blk.length-1)) τ2.err:=rfl
  rw[hset8]at hst8
  have hdl:τ.blk.dropLast.map encB=(τ.blk.map encB).take (τ.blk.length-1):=by rw[List.dropLast_eq_take,List.map_take]
  have H4:Rel s L ((h2.put L (lkC s pr' pb τ2.err)).put L (lkC s pr' (.arr 4 id 0 (τ.blk.length-1)) τ2.err)) {τ2 with row:=τ.row.take (min bl.ht τ.row.length),blk:=τ.blk.dropLast}:=by
   refine⟨r,some id,pr',.arr 4 id 0 (τ.blk.length-1),Qbd H3.lk,H3.row.put H3.rL,?_,H3.rL,H3.bL,H3.rb⟩
   show Sl _ 4 (τ.blk.dropLast.map encB) (some id) _
   rw[hdl]
   have hb3:=H3.blk
   simp only[eb]at hb3
   exact(hb3.takeN (by rw[List.length_map];omega)).put H3.bL
  obtain⟨r5,b5,pr5,pb5,H4⟩:=H4
  obtain⟨h5,r6,pr6,c5,H5⟩:=Qpc (m:=m) H4 (ts:=re) (by
   simp only[List.length_take];omega)
  refine⟨pr',_,_,_,h5,rfl,hpr',by rw[hmin];exact hsl,hst7,H3.ld8,by rw[hpb];rfl,by rw[hw,hpb];exact QCV (Nat.sub_le _ _) rfl,hst8,c5,⟨r6,b5,pr6,pb5,?_⟩⟩
  have e:τ2.fin2 re bl=LS.give re {τ2 with row:=τ.row.take (min bl.ht τ.row.length),blk:=τ.blk.dropLast}:=by
   unfold LS.fin2
   rw[er,eb]
  rw[e]
  exact H5
 by_cases heq:τ.row.length=bl.ht
 ·rw[if_pos heq]
  have hz:(!eqZ (τ.row.length:Int) (bl.ht:Int))=false:=congrArg not (QaC (by omega))
  obtain⟨pr',pb',h3,h4,h5,rfl,hor,hsl,hst7,hl8,hlb,hslb,hst8,hg,H5⟩:=tail H1 I1 rfl rfl
  refine⟨h5,?_,H5⟩
  rcases hor with⟨rfl,rfl⟩|⟨q,rfl⟩
  ·exact Qqc (k0:=k0) (k1:=c1) (k2:=H1.ld7) (k3:=hln) (k4:=htop) (k5:=hht) (k6:=hz) (k7:=H1.ld7) (k8:=htop) (k9:=hht) (k10:=H1.ld7) (k11:=hln) (k12:=hsl) (k13:=hst7) (k14:=hl8) (k15:=hl8) (k16:=hlb) (k17:=hslb) (k18:=hst8) (k19:=hg)
  ·exact Qqb (k0:=k0) (k1:=c1) (k2:=H1.ld7) (k3:=hln) (k4:=htop) (k5:=hht) (k6:=hz) (k7:=H1.ld7) (k8:=htop) (k9:=hht) (k10:=H1.ld7) (k11:=hln) (k12:=hsl) (k13:=hst7) (k14:=hl8) (k15:=hl8) (k16:=hlb) (k17:=hslb) (k18:=hst8) (k19:=hg)
 ·rw[if_neg heq]
  have hz:(!eqZ (τ.row.length:Int) (bl.ht:Int))=true:=congrArg not (Qaw (by omega))
  obtain⟨h2,c2,H2,_⟩:=Qk5 (m:=m) H1 4
  have hbl2:(τ.fail 4).blk.getLast? =some bl:=by rw[Qa0];exact hbl
  obtain⟨id2,e2,htop2⟩:=QqT (m:=m) H2 (I1.fail 4).wf.ne (by rw[Qa0];omega)
  cases e2
  have hht2:ldP h2 (.ptr id (((τ.fail 4).blk.length-1)*4+2)) 1 false=some (.int .i64 bl.ht):=H2.last hbl2 rfl rfl
  obtain⟨pr',pb',h3,h4,h5,rfl,hor,hsl,hst7,hl8,hlb,hslb,hst8,hg,H5⟩:=tail H2 (I1.fail 4) (Qbl _ _) (Qa0 _ _)
  refine⟨h5,?_,H5⟩
  rcases hor with⟨rfl,rfl⟩|⟨q,rfl⟩
  ·exact Qqe (k0:=k0) (k1:=c1) (k2:=H1.ld7) (k3:=hln) (k4:=htop) (k5:=hht) (k6:=hz) (k7:=c2) (k8:=H2.ld7) (k9:=htop2) (k10:=hht2) (k11:=H2.ld7) (k12:=hln) (k13:=hsl) (k14:=hst7) (k15:=hl8) (k16:=hl8) (k17:=hlb) (k18:=hslb) (k19:=hst8) (k20:=hg)
  ·exact Qqd (k0:=k0) (k1:=c1) (k2:=H1.ld7) (k3:=hln) (k4:=htop) (k5:=hht) (k6:=hz) (k7:=c2) (k8:=H2.ld7) (k9:=htop2) (k10:=hht2) (k11:=H2.ld7) (k12:=hln) (k13:=hsl) (k14:=hst7) (k15:=hl8) (k16:=hl8) (k17:=hlb) (k18:=hslb) (k19:=hst8) (k20:=hg)
end
end Go.Proofs.YtoblgjmllmomhaaGreatDoor
namespace Go.Proofs.YtoblgjmllmomhaaGreatDoor
set_option maxRecDepth 100000
open Go Go.Proofs.Am
section
variable {m:Int} {s:Scp} {L R:Nat}
def QeK (s:Scp)(xs:List Ins)(la re:List Int)(σ:LS):LS:=if σ.err.isSome then σ else LS.runL opI s xs re (σ.push la re)
def Qoi (s:Scp)(t:Int)(q:Bool)(el:List Ins)(σ:LS):LS:=if q=true∧σ.err=none then QeK s el (rsl t) (rsl t) (σ.all (rsl t))else σ
def QhF (m:Int)(s:Scp)(L:Nat)(xs:List Ins)(c:Nat):Prop:=∀⦃h:Heap⦄ ⦃la re:List Int⦄ ⦃N:Nat⦄ ⦃σ:LS⦄,la.length≤1→re.length≤1→Inv N σ→N+c+2<2^41→Rel s L h σ→
 ∃h',Qab (cxZ m) (blk (cxZ m)) 21 [.v (.ptr L 0),.v (.imm (Qam xs)),.v (.imm (Qah la)),.v (.imm (Qah re))] h=some (.tup [],h')∧Rel s L h' (QeK s xs la re σ)
theorem QiX {o a b v t:Int}{l:List Int}{bd el:List Ins}{q:Bool}{σ:LS}(h:opI o=none):LS.instr opI s (.mk o a b v t l bd el q) σ=σ.fail 1:=by
 unfold LS.instr
 rw[h]
theorem QiW {o a b v t:Int}{l:List Int}{bd el:List Ins}{q:Bool}{σ:LS}{r:OpR}(h:opI o=some r):LS.instr opI s (.mk o a b v t l bd el q) σ=
 if r.kind=2 then(if o=3 then QeK s bd [] (rsl t) σ else Qoi s t q el (QeK s bd (rsl t) (rsl t) (LS.cond o t q σ)))
 else if r.kind=3 then σ.jump s o a l
  else if r.kind=4 then σ.call s o a
  else if r.kind=5 then σ.any o
  else if r.kind=6 then σ.var s o a
  else if o=0 then σ.stop
  else σ.plain s r a:=by
 unfold LS.instr
 rw[h]
 rfl
variable {o a b v t:Int} {ll:List (List AV)} {bd el:List Ins} {q:Bool} {ob ok gv bz:Int} {tk:List (List AV)} {sg:Bool} {h:Heap} {σ:LS} {N cb cl:Nat}
theorem QoJ (hl:QhF m s L el cl){τ:LS}{h9:Heap}{M:Nat}(H:Rel s L h9 τ)(I:Inv M τ)(hM:M+cl+2<2^41)(t:Int)(he:τ.err=none):
 ∃h11 h12,Qab (cxZ m) (blk (cxZ m)) 52 [.v (.ptr L 0),.v (.imm (Qah (rsl t)))] h9=some (.tup [],h11)∧Qab (cxZ m) (blk (cxZ m)) 21 [.v (.ptr L 0),.v (.imm (Qam el)),.v (.imm (Qah (rsl t))),.v (.imm (Qah (rsl t)))] h11=some (.tup [],h12)∧Rel s L h12 (Qoi s t true el τ):=by
 have hr:=Qb4 t
 obtain⟨h11,c1,H1,_⟩:=QdJ (m:=m) H I (by omega) (ts:=rsl t) (by omega)
 obtain⟨h12,c2,H2⟩:=hl hr hr (I.all (rsl t)) hM H1
 refine⟨h11,h12,c1,c2,?_⟩
 unfold Qoi
 rw[if_pos ⟨rfl,he⟩]
 exact H2
theorem Qiv {τ:LS}{c:Int}(he:τ.err=some c):Qoi s t q el τ=τ:=by
 unfold Qoi
 rw[if_neg (by rw[he];simp)]
theorem Qlh {τ:LS}:Qoi s t false el τ=τ:=by
 unfold Qoi
 rw[if_neg (by simp)]
theorem QrW (hb:QhF m s L bd cb)(I:Inv N σ)(hN:N+cb+2<2^41)(H:Rel s L h σ):
 ∃h',Qab (cxZ m) (blk (cxZ m)) 88 [.v (.ptr L 0),.v (opA ob (sb [108,111,111,112]) ok tk gv bz sg),.v (inA o a b v t ll (Qam bd) (Qam el) q)] h=some (.tup [],h')∧Rel s L h' (QeK s bd [] (rsl t) σ):=by
 obtain⟨h',c,H'⟩:=hb (la:=[]) (by simp) (Qb4 t) I hN H
 exact⟨h',Qaa rfl rfl (by kernel_rfl) (Qt8 (k0:=Qb6 _ _) (k1:=c)),H'⟩
theorem QkW (hg:Qxy opI s cb bd){la re:List Int}(hl:la.length≤1)(hr:re.length≤1)(I:Inv N σ):Inv (N+(cb+1)) (QeK s bd la re σ):=(Qio hg hl hr N σ I).1
theorem Qor (hb:QhF m s L bd cb)(hg:Qxy opI s cb bd)(hl:QhF m s L el cl)(I:Inv N σ)(hN:N+cb+cl+3<2^41)(H:Rel s L h σ):
 ∃h',Qab (cxZ m) (blk (cxZ m)) 88 [.v (.ptr L 0),.v (opA ob (sb [98,108,111,99,107]) ok tk gv bz sg),.v (inA o a b v t ll (Qam bd) (Qam el) q)] h=some (.tup [],h')∧Rel s L h' (Qoi s t q el (QeK s bd (rsl t) (rsl t) σ)):=by
 have hr:=Qb4 t
 obtain⟨h9,c1,H1⟩:=hb hr hr I (by omega) H
 have I1:=QkW hg hr hr I
 generalize QeK s bd (rsl t) (rsl t) σ=τ at H1 I1⊢
 cases q with
 |false=>
  rw[Qlh]
  exact⟨h9,Qaa rfl rfl (by kernel_rfl) (Qud (k0:=Qb6 _ _) (k1:=c1) (k2:=rfl)),H1⟩
 |true=>
  have l9:=Qwj H1
  have hq:=Qem τ.err
  cases he:τ.err with
  |some c=>
   rw[he]at l9 hq
   rw[Qiv he]
   exact⟨h9,Qaa rfl rfl (by kernel_rfl) (Que (k0:=Qb6 _ _) (k1:=c1) (k2:=rfl) (k3:=l9) (k4:=hq) (k5:=rfl)),H1⟩
  |none=>
   rw[he]at l9 hq
   obtain⟨h11,h12,c2,c3,H2⟩:=QoJ hl H1 I1 (by omega) t he
   exact⟨h12,Qaa rfl rfl (by kernel_rfl) (Quf (k0:=Qb6 _ _) (k1:=c1) (k2:=rfl) (k3:=l9) (k4:=hq) (k5:=rfl) (k6:=c2) (k7:=c3)),H2⟩
theorem QBs (hb:QhF m s L bd cb)(hg:Qxy opI s cb bd)(hl:QhF m s L el cl)(I:Inv N σ)(hN:N+cb+cl+3<2^41)(H:Rel s L h σ):
 ∃h',Qab (cxZ m) (blk (cxZ m)) 88 [.v (.ptr L 0),.v (opA ob (sb [105,102]) ok tk gv bz sg),.v (inA o a b v t ll (Qam bd) (Qam el) q)] h=some (.tup [],h')∧Rel s L h' (Qoi s t q el (QeK s bd (rsl t) (rsl t) (LS.cond 4 t q σ))):=by
 have hr:=Qb4 t
 obtain⟨h6,c6,H6,_⟩:=QbA (m:=m) H I (by omega) 1
 have I6:=I.take 1
 cases q with
 |false=>
  rw[Qlh]
  by_cases ht:t=0
  ·have e:LS.cond 4 t false σ=(σ.take 1).1:=by
    unfold LS.cond
    rw[if_pos rfl,if_neg (by rintro⟨_,x⟩;exact x ht)]
   rw[e]
   obtain⟨h9,c1,H1⟩:=hb hr hr I6 (by omega) H6
   exact⟨h9,Qaa rfl rfl (by kernel_rfl) (Qub (k0:=Qb6 _ _) (k1:=c6) (k2:=rfl) (k3:=congrArg not (QaC (b:=Int.ofNat 0) ht)) (k4:=c1) (k5:=rfl)),H1⟩
  ·have e:LS.cond 4 t false σ=(σ.take 1).1.fail 4:=by
    unfold LS.cond
    rw[if_pos rfl,if_pos ⟨rfl,ht⟩]
   rw[e]
   obtain⟨h8,c8,H8,_⟩:=QaR (m:=m) H6 4
   obtain⟨h9,c1,H1⟩:=hb hr hr (I6.fail 4) (by omega) H8
   exact⟨h9,Qaa rfl rfl (by kernel_rfl) (Quc (k0:=Qb6 _ _) (k1:=c6) (k2:=rfl) (k3:=congrArg not (Qaw (b:=Int.ofNat 0) ht)) (k4:=c8) (k5:=c1) (k6:=rfl)),H1⟩
 |true=>
  have e:LS.cond 4 t true σ=(σ.take 1).1:=by
   unfold LS.cond
   rw[if_pos rfl,if_neg (by simp)]
  rw[e]
  obtain⟨h9,c1,H1⟩:=hb hr hr I6 (by omega) H6
  have I1:=QkW hg hr hr I6
  generalize QeK s bd (rsl t) (rsl t) (σ.take 1).1=τ at H1 I1⊢
  have l9:=Qwj H1
  have hq:=Qem τ.err
  cases he:τ.err with
  |some c=>
   rw[he]at l9 hq
   rw[Qiv he]
   exact⟨h9,Qaa rfl rfl (by kernel_rfl) (Qt9 (k0:=Qb6 _ _) (k1:=c6) (k2:=rfl) (k3:=c1) (k4:=rfl) (k5:=l9) (k6:=hq) (k7:=rfl)),H1⟩
  |none=>
   rw[he]at l9 hq
   obtain⟨h11,h12,c2,c3,H2⟩:=QoJ hl H1 I1 (by omega) t he
   exact⟨h12,Qaa rfl rfl (by kernel_rfl) (Qua (k0:=Qb6 _ _) (k1:=c6) (k2:=rfl) (k3:=c1) (k4:=rfl) (k5:=l9) (k6:=hq) (k7:=rfl) (k8:=c2) (k9:=c3)),H2⟩
theorem QBl {o a b v:Int}{l:List Int}{r:OpR}(h:Qwc r o a b v l=true)(f:OpFacts o r):
 (r.kind=3→o=15∨(o=14∧l≠[]∧∀n,n∈l→0≤n)∨0≤a)∧(r.kind=4→0≤a)∧(r.kind=6→0≤a)∧(r.kind=7∨r.kind=8→0≤a):=by
 have num:∀{n:Int},QeB n=true→0≤n:=fun{n} hn=>by
  unfold QeB at hn
  rw[Bool.and_eq_true,decide_eq_true_eq]at hn
  exact hn.1
 unfold Qwc at h
 refine⟨fun hk=>?_,fun hk=>?_,fun hk=>?_,fun hk=>?_⟩
 ·rw[if_neg (by omega),if_neg (by omega)]at h
  by_cases h14:o=14
  ·rw[if_pos h14]at h
   simp only[Bool.and_eq_true,Bool.not_eq_true',List.all_eq_true]at h
   refine .inr (.inl ⟨h14,fun e=>?_,fun n hn=>num (h.1.2 n hn)⟩)
   rw[e]at h
   exact absurd h.1.1 (by simp)
  ·rw[if_neg h14]at h
   by_cases h15:o=15
   ·exact .inl h15
   ·rw[if_pos (.inr (.inr ⟨hk,h15⟩))]at h
    simp only[Bool.and_eq_true]at h
    exact .inr (.inr (num h.1))
 ·have:=f.k4 hk
  rw[if_neg (by omega),if_neg (by omega),if_neg (by omega),if_pos (.inl hk)]at h
  simp only[Bool.and_eq_true]at h
  exact num h.1
 ·have:=f.k6 hk
  rw[if_neg (by omega),if_neg (by omega),if_neg (by omega),if_pos (.inr (.inl hk))]at h
  simp only[Bool.and_eq_true]at h
  exact num h.1
 ·rw[if_neg (by omega),if_pos hk]at h
  simp only[Bool.and_eq_true]at h
  exact num h.1.1
theorem QbU:∀xs:List Ins,xs.length≤cL xs
 |[]=>Nat.le_refl _
 |x::xs=>by
  have:=QbU xs
  have h1:1≤cI x:=by cases x;rw[cI];omega
  rw[cL,List.length_cons]
  omega
end
end Go.Proofs.YtoblgjmllmomhaaGreatDoor
namespace Go.Proofs.YtoblgjmllmomhaaGreatDoor
set_option maxRecDepth 100000
open Go Go.Proofs.Am
section
variable {m:Int} {s:Scp} {L R:Nat}
def Ql5 (m:Int)(s:Scp)(L R:Nat)(x:Ins):Prop:=QnM opI x=true→∀⦃h:Heap⦄ ⦃σ:LS⦄ ⦃N:Nat⦄,Inv N σ→N+(R+6)*cI x<2^41→Rel s L h σ→
 ∃h',Qab (cxZ m) (blk (cxZ m)) 51 [.v (.ptr L 0),.v (.agg (Qbx x))] h=some (.tup [],h')∧Rel s L h' (LS.instr opI s x σ)
def QhE (m:Int)(s:Scp)(L R:Nat)(xs:List Ins):Prop:=Qfq opI xs=true→∀(pre:List Ins) ⦃re:List Int⦄ ⦃h:Heap⦄ ⦃σ:LS⦄ ⦃N:Nat⦄,re.length≤1→(pre++xs).length<2^40→Inv N σ→N+(R+6)*cL xs+1<2^41→Rel s L h σ→
 ∃h',blk (cxZ m) 21 (at_ Tryz.prog 21 3) [.v (.ptr L 0),.v (.imm (Qah re)),.v (.imm (Qam (pre++xs))),.v (.int .i64 (Int.ofNat (Qam (pre++xs)).length)),.v (.int .i64 (Int.ofNat pre.length))] h=some (.tup [],h')∧Rel s L h' (LS.runL opI s xs re σ)
theorem QdA {xs:List Ins}(h:QhE m s L R xs)(hm:Qfq opI xs=true):QhF m s L xs ((R+6)*cL xs+1):=by
 intro h0 la re N σ hl hr I hN H
 have hlen:=QbU xs
 have h2:cL xs≤(R+6)*cL xs:=Nat.le_mul_of_pos_left _ (by omega)
 have h6:6*cL xs≤(R+6)*cL xs:=Nat.mul_le_mul_right _ (by omega)
 exact Qxa H I (by omega) (fun{h1} H1=>h hm [] hr (by simpa using(by omega:xs.length<2^40)) (I.push hl re) (by omega) H1)
theorem Qn0 (hR:QhD R s){o a b v t:Int}{l:List Int}{bd el:List Ins}{q:Bool}(hb:QhE m s L R bd)(hl:QhE m s L R el):Ql5 m s L R (.mk o a b v t l bd el q):=by
 intro hm h σ N I hN H
 have hc2:(R+6)*cI (.mk o a b v t l bd el q)=(R+6)+(R+6)*l.length+(R+6)*cL bd+(R+6)*cL el:=by rw[cI,Nat.mul_add,Nat.mul_add,Nat.mul_add,Nat.mul_one]
 have hl6:6*l.length≤(R+6)*l.length:=Nat.mul_le_mul_right _ (by omega)
 cases hop:opI o with
 |none=>
  rw[QiX hop]
  rcases Qcg o with⟨_,_,_,hr,_⟩|⟨_,hno⟩
  ·rw[hop]at hr;cases hr
  obtain⟨ob,nm,k,tk,gv,bz,sg,c,hlk⟩:=Qhh hno
  obtain⟨h1,c1,H1,_⟩:=QaR (m:=m) H 1
  have hlk2:(Qav o,h)=(LV.tup [opA ob nm k tk gv bz sg,Qcm (some c)],h):=by rw[hlk];rfl
  exact⟨h1,Qaa rfl rfl (by kernel_rfl) (Qy5 (k0:=hlk2) (k1:=Qaz (some c)) (k2:=rfl) (k3:=c1)),H1⟩
 |some r=>
  have f:=QhY hop
  have hlk:(Qav o,h)=(LV.tup [opA r.byte r.nm r.kind (Qah r.takes) r.gives r.bytes r.sg,.nilI],h):=by
   have:=Qfl hop
   unfold opI at*
   rw[this]
  have k1:=Qaz none
  rw[QiW hop]
  unfold QnM at hm
  rw[hop]at hm
  simp only at hm
  by_cases h2:r.kind=2
  ·rw[if_pos h2]at hm
   rw[if_pos h2]
   simp only[Bool.and_eq_true]at hm
   have mb:=hm.1.1.1.1.2
   have ml:=hm.1.1.1.2
   have e2:=QaC (b:=Int.ofNat 2) h2
   have cb:=QdA hb mb
   have cl:=QdA hl ml
   have gb:=Qin (OP:=opI) (s:=s) hR bd
   rcases f.k2 h2 with⟨rfl,hn⟩|⟨rfl,hn⟩|⟨rfl,hn⟩
   ·rw[if_neg (by decide)]
    have hcond:LS.cond 2 t q σ=σ:=if_neg (by decide)
    rw[hcond]
    obtain⟨h1,c1,H1⟩:=Qor (m:=m) (ob:=r.byte) (ok:=r.kind) (tk:=Qah r.takes) (gv:=r.gives) (bz:=r.bytes) (sg:=r.sg) (o:=2) (a:=a) (b:=b) (v:=v) (t:=t) (ll:=Qah l) (q:=q) cb gb cl I (by omega) H
    rw[←hn]at c1
    exact⟨h1,Qaa rfl rfl (by kernel_rfl) (Qqa (k0:=hlk) (k1:=k1) (k2:=rfl) (k3:=e2) (k4:=c1)),H1⟩
   ·rw[if_pos rfl]
    obtain⟨h1,c1,H1⟩:=QrW (m:=m) (ob:=r.byte) (ok:=r.kind) (tk:=Qah r.takes) (gv:=r.gives) (bz:=r.bytes) (sg:=r.sg) (o:=3) (a:=a) (b:=b) (v:=v) (t:=t) (ll:=Qah l) (el:=el) (q:=q) cb I (by omega) H
    rw[←hn]at c1
    exact⟨h1,Qaa rfl rfl (by kernel_rfl) (Qqa (k0:=hlk) (k1:=k1) (k2:=rfl) (k3:=e2) (k4:=c1)),H1⟩
   ·rw[if_neg (by decide)]
    obtain⟨h1,c1,H1⟩:=QBs (m:=m) (ob:=r.byte) (ok:=r.kind) (tk:=Qah r.takes) (gv:=r.gives) (bz:=r.bytes) (sg:=r.sg) (o:=4) (a:=a) (b:=b) (v:=v) (t:=t) (ll:=Qah l) (q:=q) cb gb cl I (by omega) H
    rw[←hn]at c1
    exact⟨h1,Qaa rfl rfl (by kernel_rfl) (Qqa (k0:=hlk) (k1:=k1) (k2:=rfl) (k3:=e2) (k4:=c1)),H1⟩
  ·rw[if_neg h2]at hm
   rw[if_neg h2,]
   simp only[Bool.and_eq_true]at hm
   obtain⟨m3,m4,m6,m7⟩:=QBl hm.1 f
   have e2:=Qaw (b:=Int.ofNat 2) h2
   by_cases h3:r.kind=3
   ·rw[if_pos h3]
    have e3:=QaC (b:=Int.ofNat 3) h3
    have key:∃h',Qab (cxZ m) (blk (cxZ m)) 89 [.v (.ptr L 0),.v (opA r.byte r.nm r.kind (Qah r.takes) r.gives r.bytes r.sg),.v (inA o a b v t (Qah l) (Qam bd) (Qam el) q)] h=some (.tup [],h')∧Rel s L h' (σ.jump s o a l):=by
     rcases f.k3 h3 with⟨rfl,hn⟩|⟨rfl,hn⟩|⟨rfl,hn⟩|⟨rfl,hn⟩
     ·rw[hn]
      exact QDi H I (by omega) ((m3 h3).elim (fun e=>absurd e (by decide)) fun e=>e.elim (fun e=>absurd e.1 (by decide)) fun e=>e)
     ·rw[hn]
      exact QBZ H I (by omega) ((m3 h3).elim (fun e=>absurd e (by decide)) fun e=>e.elim (fun e=>absurd e.1 (by decide)) fun e=>e)
     ·rw[hn]
      have hle:l≠[]∧∀n,n∈l→0≤n:=by
       unfold Qwc at hm
       rw[if_neg (by omega),if_neg (by omega),if_pos rfl]at hm
       simp only[Bool.and_eq_true,Bool.not_eq_true',List.all_eq_true]at hm
       refine⟨fun e=>?_,fun n hn=>?_⟩
       ·rw[e]at hm
        exact absurd hm.1.1.1 (by simp)
       ·have:=hm.1.1.2 n hn
        unfold QeB at this
        rw[Bool.and_eq_true,decide_eq_true_eq]at this
        exact this.1
      exact QBY H I (by omega) hle.2 (by omega) hle.1
     ·rw[hn]
      exact QA6 H I (by omega)
    obtain⟨h1,c1,H1⟩:=key
    exact⟨h1,Qaa rfl rfl (by kernel_rfl) (Qy4 (k0:=hlk) (k1:=k1) (k2:=rfl) (k3:=e2) (k4:=e3) (k5:=c1)),H1⟩
   ·rw[if_neg h3]
    have e3:=Qaw (b:=Int.ofNat 3) h3
    by_cases h4:r.kind=4
    ·rw[if_pos h4]
     have e4:=QaC (b:=Int.ofNat 4) h4
     have key:∃h',Qab (cxZ m) (blk (cxZ m)) 90 [.v (.ptr L 0),.v (opA r.byte r.nm r.kind (Qah r.takes) r.gives r.bytes r.sg),.v (inA o a b v t (Qah l) (Qam bd) (Qam el) q)] h=some (.tup [],h')∧Rel s L h' (σ.call s o a):=by
      rcases f.k4 h4 with⟨rfl,hn⟩|⟨rfl,hn⟩
      ·rw[hn];exact Qxf hR H I (by omega) (m4 h4)
      ·rw[hn];exact Qs3 hR H I (by omega)
     obtain⟨h1,c1,H1⟩:=key
     exact⟨h1,Qaa rfl rfl (by kernel_rfl) (Qy3 (k0:=hlk) (k1:=k1) (k2:=rfl) (k3:=e2) (k4:=e3) (k5:=e4) (k6:=c1)),H1⟩
    ·rw[if_neg h4]
     have e4:=Qaw (b:=Int.ofNat 4) h4
     by_cases h5:r.kind=5
     ·rw[if_pos h5]
      have e5:=QaC (b:=Int.ofNat 5) h5
      have key:∃h',Qab (cxZ m) (blk (cxZ m)) 91 [.v (.ptr L 0),.v (opA r.byte r.nm r.kind (Qah r.takes) r.gives r.bytes r.sg)] h=some (.tup [],h')∧Rel s L h' (σ.any o):=by
       rcases f.k5 h5 with⟨rfl,hn⟩|⟨rfl,hn⟩
       ·rw[hn];exact Qw3 H I (by omega)
       ·rw[hn];exact QAw H I (by omega)
      obtain⟨h1,c1,H1⟩:=key
      exact⟨h1,Qaa rfl rfl (by kernel_rfl) (Qy2 (k0:=hlk) (k1:=k1) (k2:=rfl) (k3:=e2) (k4:=e3) (k5:=e4) (k6:=e5) (k7:=c1)),H1⟩
     ·rw[if_neg h5]
      have e5:=Qaw (b:=Int.ofNat 5) h5
      by_cases h6:r.kind=6
      ·rw[if_pos h6]
       have e6:=QaC (b:=Int.ofNat 6) h6
       have key:∃h',Qab (cxZ m) (blk (cxZ m)) 92 [.v (.ptr L 0),.v (opA r.byte r.nm r.kind (Qah r.takes) r.gives r.bytes r.sg),.v (inA o a b v t (Qah l) (Qam bd) (Qam el) q)] h=some (.tup [],h')∧Rel s L h' (σ.var s o a):=by
        have hby:=f.byte
        rcases f.k6 h6 with⟨rfl,hn⟩|⟨rfl,hn⟩|⟨rfl,hn⟩|⟨rfl,hn⟩|⟨rfl,hn⟩
        ·rw[hn,hby];exact Qwi H I (by omega) (m6 h6)
        ·rw[hn,hby];exact Qwe H I (by omega) (m6 h6)
        ·rw[hn,hby];exact Qwd H I (by omega) (m6 h6)
        ·rw[hn,hby];exact QwK H I (by omega) (m6 h6)
        ·rw[hn,hby];exact QwG H I (by omega) (m6 h6)
       obtain⟨h1,c1,H1⟩:=key
       exact⟨h1,Qaa rfl rfl (by kernel_rfl) (Qy1 (k0:=hlk) (k1:=k1) (k2:=rfl) (k3:=e2) (k4:=e3) (k5:=e4) (k6:=e5) (k7:=e6) (k8:=c1)),H1⟩
      ·rw[if_neg h6]
       have e6:=Qaw (b:=Int.ofNat 6) h6
       have hk0:=f.k0 (by omega)
       by_cases h0:o=0
       ·rw[if_pos h0]
        rw[decide_eq_true h0]at hk0
        obtain⟨h1,c1,H1⟩:=Qf2 (m:=m) H I (by omega)
        exact⟨h1,Qaa rfl rfl (by kernel_rfl) (Qy0 (k0:=hlk) (k1:=k1) (k2:=rfl) (k3:=e2) (k4:=e3) (k5:=e4) (k6:=e5) (k7:=e6) (k8:=hk0) (k9:=c1)),H1⟩
       ·rw[if_neg h0]
        rw[decide_eq_false h0]at hk0
        obtain⟨h1,c1,H1⟩:=QrF (m:=m) (ob:=r.byte) (sg:=r.sg) (o:=o) (a:=a) (b:=b) (v:=v) (t:=t) (ll:=Qah l) (bd:=Qam bd) (el:=Qam el) (q:=q) (r:=r) (on:=r.nm) (by have:=f.takes;omega) H I (by omega) m7
        exact⟨h1,Qaa rfl rfl (by kernel_rfl) (QyZ (k0:=hlk) (k1:=k1) (k2:=rfl) (k3:=e2) (k4:=e3) (k5:=e4) (k6:=e5) (k7:=e6) (k8:=hk0) (k9:=c1)),H1⟩
theorem QnR:QhE m s L R []:=by
 intro _ pre re h σ N hr hl I hN H
 rw[LS.runL]
 exact QBD hr H I (by omega) (by rw[QaW,List.append_nil,ofN];exact Int.le_refl _)
theorem Qkx (hR:QhD R s){x:Ins}{xs:List Ins}(hx:Ql5 m s L R x)(hxs:QhE m s L R xs):QhE m s L R (x::xs):=by
 intro hm pre re h σ N hr hl I hN H
 rw[Qfq,Bool.and_eq_true]at hm
 have hc:(R+6)*cL (x::xs)=(R+6)*cI x+(R+6)*cL xs:=by rw[cL,Nat.mul_add]
 have hlen:(pre++x::xs).length=pre.length+xs.length+1:=by simp;omega
 have hget:(pre++x::xs)[pre.length]? =some x:=by simp
 have hix:ixA (.imm (Qam (pre++x::xs))) (Int.ofNat pre.length) 9=some (Qbx x):=by
  rw[QaN]
  exact Qaj (f:=Qbx) hget (Qbe x)
 have k0:ltZ (Int.ofNat pre.length) (Int.ofNat (Qam (pre++x::xs)).length)=true:=Qae (by rw[QaW,ofN,ofN];omega)
 have h9:=Qwj H
 have hq:=Qaz σ.err
 rw[LS.runL]
 cases he:σ.err with
 |some c=>
  rw[he]at h9 hq
  rw[if_pos (show(some c).isSome=true from rfl)]
  cases x
  exact⟨h,Qqg (k0:=k0) (k1:=hix) (k2:=h9) (k3:=hq) (k4:=rfl),H⟩
 |none=>
  rw[he]at h9 hq
  rw[if_neg (by simp)]
  obtain⟨h1,c1,H1⟩:=hx hm.1 I (by omega) H
  obtain⟨I1,_⟩:=QkV (OP:=opI) hR x N σ I
  obtain⟨h2,c2,H2⟩:=hxs hm.2 (pre++[x]) hr (by rw[List.append_assoc];exact hl) I1 (by omega) H1
  have e1:(pre++[x])++xs=pre++x::xs:=by simp
  have e2:(pre++[x]).length=pre.length+1:=by simp
  rw[e1,e2]at c2
  cases x
  exact⟨h2,Qqf (k0:=k0) (k1:=hix) (k2:=h9) (k3:=hq) (k4:=rfl) (k5:=c1) (k6:=by rw[Qas (by omega)];exact c2),H2⟩
mutual
theorem Qr2 (hR:QhD R s):∀x:Ins,Ql5 m s L R x
 |.mk _ _ _ _ _ _ bd el _=>Qn0 hR (Qh8 hR bd) (Qh8 hR el)
theorem Qh8 (hR:QhD R s):∀xs:List Ins,QhE m s L R xs
 |[]=>QnR
 |x::xs=>Qkx hR (Qr2 hR x) (Qh8 hR xs)
end
end
end Go.Proofs.YtoblgjmllmomhaaGreatDoor
namespace Go.Proofs.YtoblgjmllmomhaaGreatDoor.H
set_option maxRecDepth 100000
open Go Go.Proofs.Am
variable {m f n st i0 i1 i2 i3 i4 i5:Int} {i n0 n1:Nat} {xs ty im fu ta me gl ex el da cu l0 l1 l2 l3 l4 l5:LL} {T v0 v1 v2 v3:AV} {F G:LV} {bt bm b0 b1:Bool} {rest:List (List LV)} {r:LV×Heap} {h0 h1 h2:Heap}
theorem Qsd (k0:ltZ (.ofNat i) n=true)(k1:ixA (aM xs) (.ofNat i) 11=some ([aI i0,aB b0]++nC i1 i2 i3 i4 i5 l1 l2 l3 b1))(k2:apL G 11 136 [[aI i0,aB b0,aI (.ofNat 0),aI (.ofNat 0),aI (.ofNat 0),AV.int IntKind.u64 (.ofNat 0),aI (.ofNat 0),aM [],aM [],aM [],aB false]]=some (LV.ow 11 l0))(k3:bA m 17 25 [vI f,vP 0 0,LV.lp 0 0,vP 1 0,vM xs,vI n,vI (IntKind.wrap .i64 (.ofNat (Nat.succ i))),LV.ow 2 [],LV.ow 1 [],LV.ow 11 [],vB false,vB false,LV.ow 1 [],vI (.ofNat 0)] (Heap.mk ((mL ty im fu ta me gl ex st el da cu)::[LV.v T,F,LV.ow 11 l0,vB bt,vB bm,LV.v AV.nilS,vI (.ofNat 0)]::rest) [])=some r):
 bA m 17 25 [vI f,vP 0 0,.lp 0 0,vP 1 0,vM xs,vI n,vI (.ofNat i),.ow 2 [],.ow 1 [],.ow 11 [],vB false,vB false,.ow 1 [],vI (.ofNat 0)] ⟨(mL ty im fu ta me gl ex st el da cu)::[.v T,F,G,vB bt,vB bm,.v .nilS,vI (.ofNat 0)]::rest,[]⟩=some r:=
 bY (qS [1099997] [] [(26,0,(LV.v (AV.snap ([aI i0,aB b0]++nC i1 i2 i3 i4 i5 l1 l2 l3 b1)))),(27,8,(LV.ow 11 l0))] []) (tZ k0 (tA (tA t0 (tA tN (k1))) (u02 (tA t1 (tA k2 (tA t1 (k3))))))) (by kernel_rfl)
theorem Qsc (k0:ltZ (.ofNat i) n=false)(k1:ixA (aM fu) f 3=some [aI i1,aM l3,aM l4])(k2:ixA (aM ty) i1 2=some [aM l1,aM l0])(k3:ixA (aM fu) f 3=some [aI i3,aM l2,aM l5])(k4:cA m 39 [vM [[aM l1],[aM l2]]] (Heap.mk ((mL ty im fu ta me gl ex st el da cu)::[LV.v T,F,G,vB bt,vB bm,LV.v AV.nilS,vI (.ofNat 0)]::rest) [])=some (LV.v AV.nilS,h1))(k5:stP h1 (AV.ptr 1 5) [LV.v AV.nilS]=some h2)(k6:ltZ (.ofNat 0) (.ofNat l0.length)=true)(k7:ixA (aM l0) (.ofNat 0) 1=some [aI i2])(k8:stP h2 (AV.ptr 1 6) [vI i2]=some h0)(k9:ldP h0 (AV.ptr 1 0) 7 true=some (AV.agg [v0,v1,v2,aB b0,aB b1,v3,aI i0])):
 bA m 17 25 [vI f,vP 0 0,.lp 0 0,vP 1 0,vM xs,vI n,vI (.ofNat i),.ow 2 [],.ow 1 [],.ow 11 [],vB false,vB false,.ow 1 [],vI (.ofNat 0)] ⟨(mL ty im fu ta me gl ex st el da cu)::[.v T,F,G,vB bt,vB bm,.v .nilS,vI (.ofNat 0)]::rest,[]⟩=some ((LV.tup [AV.agg [v0,v1,v2,aB b0,aB b1,v3,aI i0],AV.nilI],h0)):=
 bY (qS [1099988] [1099997] [(29,5,(LV.v (AV.snap [aI i1,aM l3,aM l4]))),(29,8,(LV.v (AV.snap [aM l1,aM l0]))),(30,5,(LV.v (AV.snap [aI i3,aM l2,aM l5]))),(32,2,(LV.v (AV.snap [aI i2])))] [(30,9,LV.v AV.nilS,h1),(30,11,LV.ud,h2),(32,5,LV.ud,h0),(33,0,vG [v0,v1,v2,aB b0,aB b1,v3,aI i0],Heap.nil)]) (tZ k0 (tA (tA t0 (tA tN (k1))) (tA (tA t0 (tA tN (k2))) (tA (tA t0 (tA tN (k3))) (tA k4 (tA t1 (tA t0 (tA tU (tA t1 (tA k5 (tZ k6 (tA (tA t0 (tA tN (k7))) (tA t1 (tA t0 (tA tU (tA t1 (tA k8 (tA t1 (tA tN (tA t0 (tA k9 (tR ((LV.tup [AV.agg [v0,v1,v2,aB b0,aB b1,v3,aI i0],AV.nilI],h0)))))))))))))))))))))))) (by kernel_rfl)
theorem Qsb (k0:ltZ (.ofNat i) n=false)(k1:ixA (aM fu) f 3=some [aI i1,aM l3,aM l4])(k2:ixA (aM ty) i1 2=some [aM l0,aM l1])(k3:ixA (aM fu) f 3=some [aI i2,aM l2,aM l5])(k4:cA m 39 [vM [[aM l0],[aM l2]]] (Heap.mk ((mL ty im fu ta me gl ex st el da cu)::[LV.v T,F,G,vB bt,vB bm,LV.v AV.nilS,vI (.ofNat 0)]::rest) [])=some (LV.v AV.nilS,h1))(k5:stP h1 (AV.ptr 1 5) [LV.v AV.nilS]=some h0)(k6:ltZ (.ofNat 0) (.ofNat l1.length)=false)(k7:ldP h0 (AV.ptr 1 0) 7 true=some (AV.agg [v0,v1,v2,aB b0,aB b1,v3,aI i0])):
 bA m 17 25 [vI f,vP 0 0,.lp 0 0,vP 1 0,vM xs,vI n,vI (.ofNat i),.ow 2 [],.ow 1 [],.ow 11 [],vB false,vB false,.ow 1 [],vI (.ofNat 0)] ⟨(mL ty im fu ta me gl ex st el da cu)::[.v T,F,G,vB bt,vB bm,.v .nilS,vI (.ofNat 0)]::rest,[]⟩=some ((LV.tup [AV.agg [v0,v1,v2,aB b0,aB b1,v3,aI i0],AV.nilI],h0)):=
 bY (qS [] [1099997,1099988] [(29,5,(LV.v (AV.snap [aI i1,aM l3,aM l4]))),(29,8,(LV.v (AV.snap [aM l0,aM l1]))),(30,5,(LV.v (AV.snap [aI i2,aM l2,aM l5])))] [(30,9,LV.v AV.nilS,h1),(30,11,LV.ud,h0),(33,0,vG [v0,v1,v2,aB b0,aB b1,v3,aI i0],Heap.nil)]) (tZ k0 (tA (tA t0 (tA tN (k1))) (tA (tA t0 (tA tN (k2))) (tA (tA t0 (tA tN (k3))) (tA k4 (tA t1 (tA t0 (tA tU (tA t1 (tA k5 (tZ k6 (tA t1 (tA tN (tA t0 (tA k7 (tR ((LV.tup [AV.agg [v0,v1,v2,aB b0,aB b1,v3,aI i0],AV.nilI],h0)))))))))))))))))) (by kernel_rfl)
theorem Qsa (k0:ltZ (.ofNat i) n=false)(k1:ixA (aM fu) f 3=some [aI i1,aM l3,aM l4])(k2:ixA (aM ty) i1 2=some [aM l1,aM l0])(k3:ixA (aM fu) f 3=some [aI i3,aM l2,aM l5])(k4:cA m 39 [vM [[aM l1],[aM l2]]] (Heap.mk ((mL ty im fu ta me gl ex st el da cu)::[LV.v T,F,G,vB bt,vB bm,LV.v AV.nilS,vI (.ofNat 0)]::rest) [])=some (LV.v (AV.arr 1 n0 0 n1),h1))(k5:stP h1 (AV.ptr 1 5) [LV.v (AV.arr 1 n0 0 n1)]=some h2)(k6:ltZ (.ofNat 0) (.ofNat l0.length)=true)(k7:ixA (aM l0) (.ofNat 0) 1=some [aI i2])(k8:stP h2 (AV.ptr 1 6) [vI i2]=some h0)(k9:ldP h0 (AV.ptr 1 0) 7 true=some (AV.agg [v0,v1,v2,aB b0,aB b1,v3,aI i0])):
 bA m 17 25 [vI f,vP 0 0,.lp 0 0,vP 1 0,vM xs,vI n,vI (.ofNat i),.ow 2 [],.ow 1 [],.ow 11 [],vB false,vB false,.ow 1 [],vI (.ofNat 0)] ⟨(mL ty im fu ta me gl ex st el da cu)::[.v T,F,G,vB bt,vB bm,.v .nilS,vI (.ofNat 0)]::rest,[]⟩=some ((LV.tup [AV.agg [v0,v1,v2,aB b0,aB b1,v3,aI i0],AV.nilI],h0)):=
 bY (qS [1099988] [1099997] [(29,5,(LV.v (AV.snap [aI i1,aM l3,aM l4]))),(29,8,(LV.v (AV.snap [aM l1,aM l0]))),(30,5,(LV.v (AV.snap [aI i3,aM l2,aM l5]))),(32,2,(LV.v (AV.snap [aI i2])))] [(30,9,LV.v (AV.arr 1 n0 0 n1),h1),(30,11,LV.ud,h2),(32,5,LV.ud,h0),(33,0,vG [v0,v1,v2,aB b0,aB b1,v3,aI i0],Heap.nil)]) (tZ k0 (tA (tA t0 (tA tN (k1))) (tA (tA t0 (tA tN (k2))) (tA (tA t0 (tA tN (k3))) (tA k4 (tA t1 (tA t0 (tA tU (tA t1 (tA k5 (tZ k6 (tA (tA t0 (tA tN (k7))) (tA t1 (tA t0 (tA tU (tA t1 (tA k8 (tA t1 (tA tN (tA t0 (tA k9 (tR ((LV.tup [AV.agg [v0,v1,v2,aB b0,aB b1,v3,aI i0],AV.nilI],h0)))))))))))))))))))))))) (by kernel_rfl)
theorem Qr9 (k0:ltZ (.ofNat i) n=false)(k1:ixA (aM fu) f 3=some [aI i1,aM l3,aM l4])(k2:ixA (aM ty) i1 2=some [aM l0,aM l1])(k3:ixA (aM fu) f 3=some [aI i2,aM l2,aM l5])(k4:cA m 39 [vM [[aM l0],[aM l2]]] (Heap.mk ((mL ty im fu ta me gl ex st el da cu)::[LV.v T,F,G,vB bt,vB bm,LV.v AV.nilS,vI (.ofNat 0)]::rest) [])=some (LV.v (AV.arr 1 n0 0 n1),h1))(k5:stP h1 (AV.ptr 1 5) [LV.v (AV.arr 1 n0 0 n1)]=some h0)(k6:ltZ (.ofNat 0) (.ofNat l1.length)=false)(k7:ldP h0 (AV.ptr 1 0) 7 true=some (AV.agg [v0,v1,v2,aB b0,aB b1,v3,aI i0])):
 bA m 17 25 [vI f,vP 0 0,.lp 0 0,vP 1 0,vM xs,vI n,vI (.ofNat i),.ow 2 [],.ow 1 [],.ow 11 [],vB false,vB false,.ow 1 [],vI (.ofNat 0)] ⟨(mL ty im fu ta me gl ex st el da cu)::[.v T,F,G,vB bt,vB bm,.v .nilS,vI (.ofNat 0)]::rest,[]⟩=some ((LV.tup [AV.agg [v0,v1,v2,aB b0,aB b1,v3,aI i0],AV.nilI],h0)):=
 bY (qS [] [1099997,1099988] [(29,5,(LV.v (AV.snap [aI i1,aM l3,aM l4]))),(29,8,(LV.v (AV.snap [aM l0,aM l1]))),(30,5,(LV.v (AV.snap [aI i2,aM l2,aM l5])))] [(30,9,LV.v (AV.arr 1 n0 0 n1),h1),(30,11,LV.ud,h0),(33,0,vG [v0,v1,v2,aB b0,aB b1,v3,aI i0],Heap.nil)]) (tZ k0 (tA (tA t0 (tA tN (k1))) (tA (tA t0 (tA tN (k2))) (tA (tA t0 (tA tN (k3))) (tA k4 (tA t1 (tA t0 (tA tU (tA t1 (tA k5 (tZ k6 (tA t1 (tA tN (tA t0 (tA k7 (tR ((LV.tup [AV.agg [v0,v1,v2,aB b0,aB b1,v3,aI i0],AV.nilI],h0)))))))))))))))))) (by kernel_rfl)
end Go.Proofs.YtoblgjmllmomhaaGreatDoor.H
namespace Go.Proofs.YtoblgjmllmomhaaGreatDoor.H
set_option maxRecDepth 100000
open Go Go.Proofs.Am
variable {m c:Int} {xs ys:LL} {h h0:Heap} {r:LV×Heap} {d v0:AV} {n0 n1:Nat}
theorem QwF (k0:bA m 39 3 [vM [[aM xs],[aM ys]],vI (.ofNat 0),vM [[aM xs],[aM ys]],vI (.ofNat 2),vI (.ofNat 0)] h=some r):
 bB m 39 [vM [[aM xs],[aM ys]]] h=some r:=
 bY (qS [] [] [] []) (tA t1 (k0)) (by kernel_rfl)
theorem Qgp (k0:ltZ (IntKind.wrap .i64 (c+Int.ofNat xs.length)) (.ofNat 0)=false)(k1:bA m 39 3 [vM [[aM xs],[aM ys]],vI (IntKind.wrap .i64 (c+Int.ofNat xs.length)),vM [[aM xs],[aM ys]],vI (.ofNat 2),vI (.ofNat 1)] h=some r):
 bA m 39 3 [vM [[aM xs],[aM ys]],vI c,vM [[aM xs],[aM ys]],vI (.ofNat 2),vI (.ofNat 0)] h=some r:=
 bY (qS [] [1099987] [] []) (tZ k0 (tA t1 (k1))) (by kernel_rfl)
theorem Qgo (k0:ltZ (IntKind.wrap .i64 (c+Int.ofNat ys.length)) (.ofNat 0)=false)(k1:bA m 39 3 [vM [[aM xs],[aM ys]],vI (IntKind.wrap .i64 (c+Int.ofNat ys.length)),vM [[aM xs],[aM ys]],vI (.ofNat 2),vI (.ofNat 2)] h=some r):
 bA m 39 3 [vM [[aM xs],[aM ys]],vI c,vM [[aM xs],[aM ys]],vI (.ofNat 2),vI (.ofNat 1)] h=some r:=
 bY (qS [] [1099987] [] []) (tZ k0 (tA t1 (k1))) (by kernel_rfl)
theorem Qgn (k0:cA m 78 [LV.v AV.nilS,vI c] h=some (LV.v v0,h0))(k1:bA m 39 11 [LV.v v0,vM [[aM xs],[aM ys]],vI (.ofNat 2),vI (.ofNat 0)] h0=some r):
 bA m 39 3 [vM [[aM xs],[aM ys]],vI c,vM [[aM xs],[aM ys]],vI (.ofNat 2),vI (.ofNat 2)] h=some r:=
 bY (qS [] [] [] [(9,1,LV.v v0,h0)]) (tA k0 (tA t1 (k1))) (by kernel_rfl)
theorem Qi0 (k0:apG h d 1 8 xs=some (AV.arr 1 n0 0 n1,h0))(k1:bA m 39 11 [LV.v (AV.arr 1 n0 0 n1),vM [[aM xs],[aM ys]],vI (.ofNat 2),vI (.ofNat 1)] h0=some r):
 bA m 39 11 [.v d,vM [[aM xs],[aM ys]],vI (.ofNat 2),vI (.ofNat 0)] h=some r:=
 bY (qS [] [] [] [(13,2,LV.v (AV.arr 1 n0 0 n1),h0)]) (u12 (tA k0 (tA t1 (k1)))) (by kernel_rfl)
theorem QiZ (k0:apG h d 1 8 ys=some (AV.arr 1 n0 0 n1,h0))(k1:bA m 39 11 [LV.v (AV.arr 1 n0 0 n1),vM [[aM xs],[aM ys]],vI (.ofNat 2),vI (.ofNat 2)] h0=some r):
 bA m 39 11 [.v d,vM [[aM xs],[aM ys]],vI (.ofNat 2),vI (.ofNat 1)] h=some r:=
 bY (qS [] [] [] [(13,2,LV.v (AV.arr 1 n0 0 n1),h0)]) (u12 (tA k0 (tA t1 (k1)))) (by kernel_rfl)
theorem QiY:
 bA m 39 11 [.v d,vM [[aM xs],[aM ys]],vI (.ofNat 2),vI (.ofNat 2)] h=some ((LV.v d,h)):=
 bY (qS [] [] [] []) (tR ((LV.v d,h))) (by kernel_rfl)
end Go.Proofs.YtoblgjmllmomhaaGreatDoor.H
