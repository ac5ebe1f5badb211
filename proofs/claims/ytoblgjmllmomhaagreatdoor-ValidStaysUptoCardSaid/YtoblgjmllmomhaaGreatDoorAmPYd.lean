/-
  Lists of numbers, and of instructions, are the same as themselves: the document's.
-/
import Derived.Test.YtoblgjmllmomhaaGreatDoorAmPYHwF
import Derived.Test.YtoblgjmllmomhaaGreatDoorAmS15wH
import Derived.Test.YtoblgjmllmomhaaGreatDoorAmPYwC
import Derived.Test.YtoblgjmllmomhaaGreatDoorAmS15wJ
import Derived.Test.YtoblgjmllmomhaaGreatDoorAmPYHwG
import Derived.Test.YtoblgjmllmomhaaGreatDoorAmBodyF
namespace Go.Proofs.YtoblgjmllmomhaaGreatDoor
set_option maxRecDepth 100000
open Go Go.Proofs.Am
section
variable {m:Int} {h:Heap}
theorem QeV {xs:List Int}{fv:AV}{F:Int→Bool}(hf:∀x,x∈xs→∀h,QaK (cxZ m) (blk (cxZ m)) fv [.v (.int .i64 x)] h=some (.v (.bool (F x)),h))(hl:xs.length<2^62):∀(k i:Nat),i+k=xs.length→
 ∃z:Int,blk (cxZ m) 86 (at_ Tryz.prog 86 2) [.v (.imm (xs.map (fun x=>[AV.int .i64 x]))),.v fv,.v (.int .i64 (Int.ofNat xs.length)),.v (.int .i64 (Int.ofNat i))] h=some (.v (.int .i64 z),h)∧leZ (Int.ofNat 0) z=(xs.drop i).any F
 |0,i,hi=>by
  rw[List.drop_of_length_le (by omega)]
  exact⟨_,QjB (k0:=Qaf (by rw[ofN,ofN];omega)),rfl⟩
 |k+1,i,hi=>by
  have h1:xs[i]? =some xs[i]:=List.getElem?_eq_getElem (by omega)
  have e1:ixA (.imm (xs.map (fun x=>[AV.int .i64 x]))) (Int.ofNat i) 1=some ((fun x=>[AV.int .i64 x]) xs[i]):=Qaj (f:=(fun x=>[AV.int .i64 x])) h1 rfl
  have hv:=hf xs[i] (List.getElem_mem _) h
  rw[Qag h1,List.any_cons]
  obtain⟨z,hz,he⟩:=QeV hf hl k (i+1) (by omega)
  generalize xs[i]=x at e1 hv⊢
  cases hq:F x with
  |true=>
   rw[hq]at hv
   exact⟨_,QjD (k0:=Qae (by rw[ofN,ofN];omega)) (k1:=e1) (k2:=hv) (k3:=rfl),by rw[Bool.true_or];exact Qbi (by rw[ofN,ofN];omega)⟩
  |false=>
   rw[hq]at hv
   exact⟨z,QjC (k0:=Qae (by rw[ofN,ofN];omega)) (k1:=e1) (k2:=hv) (k3:=rfl) (k4:=by rw[Qas (by omega)];exact hz),by rw[Bool.false_or];exact he⟩
theorem Qr8 {xs:List Int}{fv:AV}{F:Int→Bool}(hf:∀x,x∈xs→∀h,QaK (cxZ m) (blk (cxZ m)) fv [.v (.int .i64 x)] h=some (.v (.bool (F x)),h))(hl:xs.length<2^62):
 Qab (cxZ m) (blk (cxZ m)) 47 [.v (.imm (xs.map (fun x=>[AV.int .i64 x]))),.v fv] h=some (.v (.bool (xs.any F)),h):=by
 obtain⟨z,hz,he⟩:=QeV (m:=m) (h:=h) hf hl xs.length 0 (by omega)
 rw[List.drop_zero]at he
 rw[←he]
 refine Qaa rfl rfl (by kernel_rfl) (Qui (k0:=Qaa rfl rfl (by kernel_rfl) (Qug (k0:=?_))))
 rw[List.length_map]
 exact hz
theorem QeW {xs:List FTy}{fv:AV}{F:FTy→Bool}(hf:∀x,x∈xs→∀h,QaK (cxZ m) (blk (cxZ m)) fv [.v (.agg x.enc)] h=some (.v (.bool (F x)),h))(hl:xs.length<2^62):∀(k i:Nat),i+k=xs.length→
 ∃z:Int,blk (cxZ m) 85 (at_ Tryz.prog 85 2) [.v (.imm (xs.map FTy.enc)),.v fv,.v (.int .i64 (Int.ofNat xs.length)),.v (.int .i64 (Int.ofNat i))] h=some (.v (.int .i64 z),h)∧leZ (Int.ofNat 0) z=(xs.drop i).any F
 |0,i,hi=>by
  rw[List.drop_of_length_le (by omega)]
  exact⟨_,Qp1 (k0:=Qaf (by rw[ofN,ofN];omega)),rfl⟩
 |k+1,i,hi=>by
  have h1:xs[i]? =some xs[i]:=List.getElem?_eq_getElem (by omega)
  have e1:ixA (.imm (xs.map FTy.enc)) (Int.ofNat i) 2=some (FTy.enc xs[i]):=Qaj (f:=FTy.enc) h1 rfl
  have hv:=hf xs[i] (List.getElem_mem _) h
  rw[Qag h1,List.any_cons]
  obtain⟨z,hz,he⟩:=QeW hf hl k (i+1) (by omega)
  generalize xs[i]=x at e1 hv⊢
  obtain⟨xp,xr⟩:=x
  cases hq:F ⟨xp,xr⟩with
  |true=>
   rw[hq]at hv
   exact⟨_,Qp3 (k0:=Qae (by rw[ofN,ofN];omega)) (k1:=e1) (k2:=hv) (k3:=rfl),by rw[Bool.true_or];exact Qbi (by rw[ofN,ofN];omega)⟩
  |false=>
   rw[hq]at hv
   exact⟨z,Qp2 (k0:=Qae (by rw[ofN,ofN];omega)) (k1:=e1) (k2:=hv) (k3:=rfl) (k4:=by rw[Qas (by omega)];exact hz),by rw[Bool.false_or];exact he⟩
theorem QBw {xs:List FTy}{fv:AV}{F:FTy→Bool}(hf:∀x,x∈xs→∀h,QaK (cxZ m) (blk (cxZ m)) fv [.v (.agg x.enc)] h=some (.v (.bool (F x)),h))(hl:xs.length<2^62):
 Qab (cxZ m) (blk (cxZ m)) 45 [.v (.imm (xs.map FTy.enc)),.v fv] h=some (.v (.bool (xs.any F)),h):=by
 obtain⟨z,hz,he⟩:=QeW (m:=m) (h:=h) hf hl xs.length 0 (by omega)
 rw[List.drop_zero]at he
 rw[←he]
 refine Qaa rfl rfl (by kernel_rfl) (Qzc (k0:=Qaa rfl rfl (by kernel_rfl) (Qyz (k0:=?_))))
 rw[List.length_map]
 exact hz
theorem QeU {xs:List Glo}{fv:AV}{F:Glo→Bool}(hf:∀x,x∈xs→∀h,QaK (cxZ m) (blk (cxZ m)) fv [.v (.agg x.enc)] h=some (.v (.bool (F x)),h))(hl:xs.length<2^62):∀(k i:Nat),i+k=xs.length→
 ∃z:Int,blk (cxZ m) 87 (at_ Tryz.prog 87 2) [.v (.imm (xs.map Glo.enc)),.v fv,.v (.int .i64 (Int.ofNat xs.length)),.v (.int .i64 (Int.ofNat i))] h=some (.v (.int .i64 z),h)∧leZ (Int.ofNat 0) z=(xs.drop i).any F
 |0,i,hi=>by
  rw[List.drop_of_length_le (by omega)]
  exact⟨_,QpY (k0:=Qaf (by rw[ofN,ofN];omega)),rfl⟩
 |k+1,i,hi=>by
  have h1:xs[i]? =some xs[i]:=List.getElem?_eq_getElem (by omega)
  have e1:ixA (.imm (xs.map Glo.enc)) (Int.ofNat i) 11=some (Glo.enc xs[i]):=Qaj (f:=Glo.enc) h1 (Glo.enc_len _)
  have hv:=hf xs[i] (List.getElem_mem _) h
  rw[Qag h1,List.any_cons]
  obtain⟨z,hz,he⟩:=QeU hf hl k (i+1) (by omega)
  generalize xs[i]=x at e1 hv⊢
  obtain⟨gt,gm,⟨g1,g2,g3,g4,g5,g6,g7,g8,g9⟩⟩:=x
  cases hq:F ⟨gt,gm,.mk g1 g2 g3 g4 g5 g6 g7 g8 g9⟩with
  |true=>
   rw[hq]at hv
   exact⟨_,Qp0 (k0:=Qae (by rw[ofN,ofN];omega)) (k1:=e1) (k2:=hv) (k3:=rfl),by rw[Bool.true_or];exact Qbi (by rw[ofN,ofN];omega)⟩
  |false=>
   rw[hq]at hv
   exact⟨z,QpZ (k0:=Qae (by rw[ofN,ofN];omega)) (k1:=e1) (k2:=hv) (k3:=rfl) (k4:=by rw[Qas (by omega)];exact hz),by rw[Bool.false_or];exact he⟩
theorem QBv {xs:List Glo}{fv:AV}{F:Glo→Bool}(hf:∀x,x∈xs→∀h,QaK (cxZ m) (blk (cxZ m)) fv [.v (.agg x.enc)] h=some (.v (.bool (F x)),h))(hl:xs.length<2^62):
 Qab (cxZ m) (blk (cxZ m)) 49 [.v (.imm (xs.map Glo.enc)),.v fv] h=some (.v (.bool (xs.any F)),h):=by
 obtain⟨z,hz,he⟩:=QeU (m:=m) (h:=h) hf hl xs.length 0 (by omega)
 rw[List.drop_zero]at he
 rw[←he]
 refine Qaa rfl rfl (by kernel_rfl) (Qy7 (k0:=Qaa rfl rfl (by kernel_rfl) (Qyy (k0:=?_))))
 rw[List.length_map]
 exact hz
theorem QeX {xs:List Ins}{fv:AV}{F:Ins→Bool}(hf:∀x,x∈xs→∀h,QaK (cxZ m) (blk (cxZ m)) fv [.v (.agg (Qbx x))] h=some (.v (.bool (F x)),h))(hl:xs.length<2^62):∀(k i:Nat),i+k=xs.length→
 ∃z:Int,blk (cxZ m) 79 (at_ Tryz.prog 79 2) [.v (.imm (xs.map Qbx)),.v fv,.v (.int .i64 (Int.ofNat xs.length)),.v (.int .i64 (Int.ofNat i))] h=some (.v (.int .i64 z),h)∧leZ (Int.ofNat 0) z=(xs.drop i).any F
 |0,i,hi=>by
  rw[List.drop_of_length_le (by omega)]
  exact⟨_,Qp4 (k0:=Qaf (by rw[ofN,ofN];omega)),rfl⟩
 |k+1,i,hi=>by
  have h1:xs[i]? =some xs[i]:=List.getElem?_eq_getElem (by omega)
  have e1:ixA (.imm (xs.map Qbx)) (Int.ofNat i) 9=some (Qbx xs[i]):=Qaj (f:=Qbx) h1 (Qbe _)
  have hv:=hf xs[i] (List.getElem_mem _) h
  rw[Qag h1,List.any_cons]
  obtain⟨z,hz,he⟩:=QeX hf hl k (i+1) (by omega)
  generalize xs[i]=x at e1 hv⊢
  obtain⟨g1,g2,g3,g4,g5,g6,g7,g8,g9⟩:=x
  cases hq:F (.mk g1 g2 g3 g4 g5 g6 g7 g8 g9)with
  |true=>
   rw[hq]at hv
   exact⟨_,Qp6 (k0:=Qae (by rw[ofN,ofN];omega)) (k1:=e1) (k2:=hv) (k3:=rfl),by rw[Bool.true_or];exact Qbi (by rw[ofN,ofN];omega)⟩
  |false=>
   rw[hq]at hv
   exact⟨z,Qp5 (k0:=Qae (by rw[ofN,ofN];omega)) (k1:=e1) (k2:=hv) (k3:=rfl) (k4:=by rw[Qas (by omega)];exact hz),by rw[Bool.false_or];exact he⟩
theorem Qwu {xs:List Ins}{fv:AV}{F:Ins→Bool}(hf:∀x,x∈xs→∀h,QaK (cxZ m) (blk (cxZ m)) fv [.v (.agg (Qbx x))] h=some (.v (.bool (F x)),h))(hl:xs.length<2^62):
 Qab (cxZ m) (blk (cxZ m)) 42 [.v (.imm (xs.map Qbx)),.v fv] h=some (.v (.bool (xs.any F)),h):=by
 obtain⟨z,hz,he⟩:=QeX (m:=m) (h:=h) hf hl xs.length 0 (by omega)
 rw[List.drop_zero]at he
 rw[←he]
 refine Qaa rfl rfl (by kernel_rfl) (Qzo (k0:=Qaa rfl rfl (by kernel_rfl) (QyU (k0:=?_))))
 rw[List.length_map]
 exact hz
def odd (t:Int):Bool:=decide (t≠1)&&decide (t≠2)
def QxD (s:Scp):Bool:=!(s.ty.any fun x=>x.p.any odd||x.r.any odd)&&!(s.gl.any fun g=>odd g.t)&&!(s.lo.any odd)&&decide (0≤s.re)&&decide (s.re≤2)
theorem Qv2 (t:Int):Qab (cxZ m) (blk (cxZ m)) 48 [.v (.int .i64 t)] h=some (.v (.bool (odd t)),h):=by
 unfold odd
 by_cases h1:t=1
 ·rw[show(decide (t≠1))=false by simp[h1],Bool.false_and]
  exact Qaa rfl rfl (by kernel_rfl) (Qy8 (k0:=congrArg not (QaC (b:=Int.ofNat 1) h1)))
 ·rw[show(decide (t≠1))=true by simp[h1],Bool.true_and]
  have e:(!eqZ t (Int.ofNat 2))=decide (t≠2):=by
   by_cases h2:t=2
   ·rw[QaC (b:=Int.ofNat 2) h2];simp[h2]
   ·rw[Qaw (b:=Int.ofNat 2) h2];simp[h2]
  rw[←e]
  exact Qaa rfl rfl (by kernel_rfl) (Qy9 (k0:=congrArg not (Qaw (b:=Int.ofNat 1) h1)))
theorem Qkj {l:List Int}(hl:l.length<2^62):Qab (cxZ m) (blk (cxZ m)) 47 [.v (.imm (Qah l)),.v (.fn 48 [] [])] h=some (.v (.bool (l.any odd)),h):=
 Qr8 (fun x _ _=>Qv2 x) hl
structure ScpLen (n:Nat) (s:Scp):Prop where
 ty:s.ty.length<n
 tl:∀x,x∈s.ty→x.p.length<n∧x.r.length<n
 fn:s.fn.length<n
 gl:s.gl.length<n
 lo:s.lo.length<n
theorem Qwb {s:Scp}(hs:ScpLen (2^62) s):Qab (cxZ m) (blk (cxZ m)) 20 [.v (.agg s.enc)] h=some (.v (.bool (QxD s)),h):=by
 have c1:∀h,Qab (cxZ m) (blk (cxZ m)) 45 [.v (.imm (s.ty.map FTy.enc)),.v (.fn 46 [] [])] h=some (.v (.bool (s.ty.any fun x=>x.p.any odd||x.r.any odd)),h):=fun h=>by
  refine QBw (fun x hx h=>?_) hs.ty
  obtain⟨hp,hr⟩:=hs.tl x hx
  obtain⟨p,r⟩:=x
  have a1:=Qkj (m:=m) (h:=h) hp
  have a2:=Qkj (m:=m) (h:=h) hr
  cases hq:p.any odd with
  |true=>
   simp only[hq]at a1⊢
   exact Qaa rfl rfl (by kernel_rfl) (Qzb (k0:=a1) (k1:=rfl))
  |false=>
   simp only[hq,Bool.false_or]at a1⊢
   exact Qaa rfl rfl (by kernel_rfl) (Qza (k0:=a1) (k1:=rfl) (k2:=a2))
 have c2:∀h,Qab (cxZ m) (blk (cxZ m)) 49 [.v (.imm (s.gl.map Glo.enc)),.v (.fn 50 [] [])] h=some (.v (.bool (s.gl.any fun g=>odd g.t)),h):=fun h=>by
  refine QBv (fun x hx h=>?_) hs.gl
  obtain⟨gt,gm,⟨g1,g2,g3,g4,g5,g6,g7,g8,g9⟩⟩:=x
  exact Qaa rfl rfl (by kernel_rfl) (Qy6 (k0:=Qv2 gt))
 have c3:∀h,Qab (cxZ m) (blk (cxZ m)) 47 [.v (.imm (Qah s.lo)),.v (.fn 48 [] [])] h=some (.v (.bool (s.lo.any odd)),h):=fun h=>Qkj hs.lo
 unfold QxD
 cases q1:s.ty.any fun x=>x.p.any odd||x.r.any odd with
 |true=>
  rw[q1]at c1
  exact Qaa rfl rfl (by kernel_rfl) (Qzs (k0:=c1 h) (k1:=c2 h) (k2:=rfl))
 |false=>
  rw[q1]at c1
  cases q2:s.gl.any fun g=>odd g.t with
  |true=>
   rw[q2]at c2
   exact Qaa rfl rfl (by kernel_rfl) (Qzt (k0:=c1 h) (k1:=c2 h) (k2:=rfl) (k3:=rfl))
  |false=>
   rw[q2]at c2
   cases q3:s.lo.any odd with
   |true=>
    rw[q3]at c3
    exact Qaa rfl rfl (by kernel_rfl) (Qzu (k0:=c1 h) (k1:=c2 h) (k2:=rfl) (k3:=rfl) (k4:=c3 h) (k5:=rfl))
   |false=>
    rw[q3]at c3
    simp only[Bool.not_false,Bool.true_and]
    by_cases h0:0≤s.re
    ·have e:leZ s.re (Int.ofNat 2)=decide (s.re≤2):=Qcp _ _
     rw[decide_eq_true h0,Bool.true_and,←e]
     exact Qaa rfl rfl (by kernel_rfl) (Qzw (k0:=c1 h) (k1:=c2 h) (k2:=rfl) (k3:=rfl) (k4:=c3 h) (k5:=rfl) (k6:=Qbi (a:=Int.ofNat 0) h0))
    ·rw[decide_eq_false h0,Bool.false_and]
     exact Qaa rfl rfl (by kernel_rfl) (Qzv (k0:=c1 h) (k1:=c2 h) (k2:=rfl) (k3:=rfl) (k4:=c3 h) (k5:=rfl) (k6:=Qcy (a:=Int.ofNat 0) (by rw[ofN];omega)))
theorem QrR (n:Int)(h:Heap):Qab (cxZ m) (blk (cxZ m)) 82 [.v (.int .i64 n)] h=some (.v (.bool (QeB n)),h):=by
 unfold QeB
 by_cases h0:0≤n
 ·have e:leZ n (Int.ofNat 4294967295)=decide (n≤4294967295):=Qcp _ _
  rw[decide_eq_true h0,Bool.true_and,←e]
  exact Qaa rfl rfl (by kernel_rfl) (QyK (k0:=Qbi (a:=Int.ofNat 0) h0))
 ·rw[decide_eq_false h0,Bool.false_and]
  exact Qaa rfl rfl (by kernel_rfl) (QyJ (k0:=Qcy (a:=Int.ofNat 0) (by rw[ofN];omega)))
theorem Qv3 {l:List Int}(hl:l.length<2^62)(h:Heap):Qab (cxZ m) (blk (cxZ m)) 47 [.v (.imm (Qah l)),.v (.fn 83 [] [])] h=some (.v (.bool (l.any fun n=>!QeB n)),h):=
 Qr8 (fun x _ h=>Qaa rfl rfl (by kernel_rfl) (QyI (k0:=QrR x h))) hl
def Qow (a b v t:Int)(l bd el:List (List AV))(q:Bool):Bool:=decide (a=0)&&decide (b=0)&&decide (v=0)&&decide (t=0)&&l.isEmpty&&bd.isEmpty&&el.isEmpty&&!q
theorem QxF {A:Type}{l:List A}:eqZ (Int.ofNat l.length) (Int.ofNat 0)=l.isEmpty:=by
 cases l with
 |nil=>rfl
 |cons x l=>exact Qaw (by rw[ofN,ofN];simp;omega)
theorem Qpp (o a b v t:Int)(l bd el:List (List AV))(q:Bool)(h:Heap):Qab (cxZ m) (blk (cxZ m)) 84 [.v (.agg [.int .i64 o,.int .i64 a,.int .i64 b,.int .u64 v,.int .i64 t,.imm l,.imm bd,.imm el,.bool q])] h=some (.v (.bool (Qow a b v t l bd el q)),h):=by
 unfold Qow
 have z:∀{x:Int},x=0→eqZ x (Int.ofNat 0)=true:=fun e=>QaC (b:=Int.ofNat 0) e
 have n:∀{x:Int},¬x=0→eqZ x (Int.ofNat 0)=false:=fun e=>Qaw (b:=Int.ofNat 0) e
 by_cases ha:a=0
 case neg=>rw[decide_eq_false ha];exact Qaa rfl rfl (by kernel_rfl) (QyA (k0:=n ha))
 by_cases hb:b=0
 case neg=>rw[decide_eq_true ha,decide_eq_false hb];exact Qaa rfl rfl (by kernel_rfl) (QyB (k0:=z ha) (k1:=n hb))
 by_cases hv:v=0
 case neg=>rw[decide_eq_true ha,decide_eq_true hb,decide_eq_false hv];exact Qaa rfl rfl (by kernel_rfl) (QyC (k0:=z ha) (k1:=z hb) (k2:=n hv))
 by_cases ht:t=0
 case neg=>rw[decide_eq_true ha,decide_eq_true hb,decide_eq_true hv,decide_eq_false ht];exact Qaa rfl rfl (by kernel_rfl) (QyD (k0:=z ha) (k1:=z hb) (k2:=z hv) (k3:=n ht))
 rw[decide_eq_true ha,decide_eq_true hb,decide_eq_true hv,decide_eq_true ht]
 have el0:=QxF (l:=l)
 have bd0:=QxF (l:=bd)
 have ee0:=QxF (l:=el)
 cases hl:l.isEmpty with
 |false=>rw[hl]at el0;exact Qaa rfl rfl (by kernel_rfl) (QyE (k0:=z ha) (k1:=z hb) (k2:=z hv) (k3:=z ht) (k4:=el0))
 |true=>
  rw[hl]at el0
  cases hbd:bd.isEmpty with
  |false=>rw[hbd]at bd0;exact Qaa rfl rfl (by kernel_rfl) (QyF (k0:=z ha) (k1:=z hb) (k2:=z hv) (k3:=z ht) (k4:=el0) (k5:=bd0))
  |true=>
   rw[hbd]at bd0
   cases hel:el.isEmpty with
   |false=>rw[hel]at ee0;exact Qaa rfl rfl (by kernel_rfl) (QyG (k0:=z ha) (k1:=z hb) (k2:=z hv) (k3:=z ht) (k4:=el0) (k5:=bd0) (k6:=ee0))
   |true=>rw[hel]at ee0;exact Qaa rfl rfl (by kernel_rfl) (QyH (k0:=z ha) (k1:=z hb) (k2:=z hv) (k3:=z ht) (k4:=el0) (k5:=bd0) (k6:=ee0))
end
end Go.Proofs.YtoblgjmllmomhaaGreatDoor
namespace Go.Proofs.YtoblgjmllmomhaaGreatDoor
set_option maxRecDepth 100000
open Go Go.Proofs.Am
section
variable {m:Int}
def Qpu (m:Int)(x:Ins):Prop:=∀h:Heap,Qab (cxZ m) (blk (cxZ m)) 44 [.v (.agg (Qbx x))] h=some (.v (.bool (QnM opI x)),h)
theorem Qlk (l:List Int):(Qah l).isEmpty=l.isEmpty:=by cases l<;>rfl
theorem Qll (l:List Ins):(Qam l).isEmpty=l.isEmpty:=by cases l<;>rfl
theorem Qhb {xs:List Ins}(h:∀x,x∈xs→Qpu m x)(hl:xs.length<2^62)(hp:Heap):Qab (cxZ m) (blk (cxZ m)) 19 [.v (.imm (Qam xs))] hp=some (.v (.bool (Qfq opI xs)),hp):=by
 have e:Qfq opI xs=!(xs.any fun x=>!QnM opI x):=by
  rw[Qh6]
  induction xs with
  |nil=>rfl
  |cons x xs ih=>
   rw[List.all_cons,List.any_cons,ih (fun y hy=>h y (List.mem_cons_of_mem _ hy)) (by simp at hl;omega)]
   cases QnM opI x<;>simp
 rw[e,QaN]
 refine Qaa rfl rfl (by kernel_rfl) (Qzx (k0:=Qwu (F:=fun x=>!QnM opI x) (fun x hx h'=>?_) hl))
 have:=h x hx h'
 cases x
 exact Qaa rfl rfl (by kernel_rfl) (Qzn (k0:=this))
theorem Qs6 {o a b v t:Int}{l:List Int}{bd el:List Ins}{q:Bool}(hb:∀x,x∈bd→Qpu m x)(he:∀x,x∈el→Qpu m x)(hlb:bd.length<2^62)(hle:el.length<2^62)(h:Heap):
 Qab (cxZ m) (blk (cxZ m)) 81 [.v (.agg (Qbx (.mk o a b v t l bd el q)))] h=some (.v (.bool (decide (0≤t)&&decide (t≤2)&&Qfq opI bd&&Qfq opI el&&!(decide (o≠4)&&q)&&!(!q&&!el.isEmpty)&&(decide (a=0)&&decide (b=0)&&decide (v=0)&&l.isEmpty))),h):=by
 have cb:=Qhb hb hlb h
 have ce:=Qhb he hle h
 have cbr:Qab (cxZ m) (blk (cxZ m)) 84 [.v (.agg [.int .i64 o,.int .i64 a,.int .i64 b,.int .u64 v,.int .i64 (Int.ofNat 0),.imm (Qah l),.imm [],.imm [],.bool false])] h=some (.v (.bool (decide (a=0)&&decide (b=0)&&decide (v=0)&&l.isEmpty)),h):=by
  have:=Qpp (m:=m) o a b v (Int.ofNat 0) (Qah l) [] [] false h
  rw[this]
  unfold Qow
  rw[Qlk]
  simp
 by_cases h0:0≤t
 case neg=>
  rw[decide_eq_false h0]
  exact Qaa rfl rfl (by kernel_rfl) (QyT (k0:=Qae (b:=Int.ofNat 0) (by rw[ofN];omega)))
 rw[decide_eq_true h0]
 have k0:ltZ t (Int.ofNat 0)=false:=Qaf (b:=Int.ofNat 0) h0
 by_cases h2:t≤2
 case neg=>
  rw[decide_eq_false h2]
  exact Qaa rfl rfl (by kernel_rfl) (QyS (k0:=k0) (k1:=Qae (a:=Int.ofNat 2) (by rw[ofN];omega)))
 rw[decide_eq_true h2]
 have k1:ltZ (Int.ofNat 2) t=false:=Qaf (a:=Int.ofNat 2) h2
 cases mb:Qfq opI bd with
 |false=>
  rw[mb]at cb
  exact Qaa rfl rfl (by kernel_rfl) (QyR (k0:=k0) (k1:=k1) (k2:=cb) (k3:=rfl))
 |true=>
  rw[mb]at cb
  cases me:Qfq opI el with
  |false=>
   rw[me]at ce
   exact Qaa rfl rfl (by kernel_rfl) (QyQ (k0:=k0) (k1:=k1) (k2:=cb) (k3:=rfl) (k4:=ce) (k5:=rfl))
  |true=>
   rw[me]at ce
   have lt0:ltZ (Int.ofNat 0) (Int.ofNat (Qam el).length)=!el.isEmpty:=by
    cases el with
    |nil=>rfl
    |cons x xs=>exact Qae (by rw[ofN,ofN,QaW];simp)
   by_cases h4:o=4
   ·rw[show(decide (o≠4))=false by simp[h4],Bool.false_and]
    have k6:(!eqZ o (Int.ofNat 4))=false:=congrArg not (QaC (b:=Int.ofNat 4) h4)
    cases q with
    |true=>
     simp only[Bool.not_true,Bool.false_and,Bool.not_false,Bool.true_and,Bool.and_true]
     exact Qaa rfl rfl (by kernel_rfl) (Quh (k0:=k0) (k1:=k1) (k2:=cb) (k3:=rfl) (k4:=ce) (k5:=rfl) (k6:=k6) (k7:=rfl) (k8:=cbr))
    |false=>
     cases hel:el.isEmpty with
     |true=>
      rw[hel]at lt0
      simp only[Bool.not_true,Bool.and_false,Bool.not_false,Bool.true_and,Bool.and_true]
      exact Qaa rfl rfl (by kernel_rfl) (QyL (k0:=k0) (k1:=k1) (k2:=cb) (k3:=rfl) (k4:=ce) (k5:=rfl) (k6:=k6) (k7:=rfl) (k8:=lt0) (k9:=cbr))
     |false=>
      rw[hel]at lt0
      exact Qaa rfl rfl (by kernel_rfl) (QyM (k0:=k0) (k1:=k1) (k2:=cb) (k3:=rfl) (k4:=ce) (k5:=rfl) (k6:=k6) (k7:=rfl) (k8:=lt0))
   ·rw[show(decide (o≠4))=true by simp[h4],Bool.true_and]
    have k6:(!eqZ o (Int.ofNat 4))=true:=congrArg not (Qaw (b:=Int.ofNat 4) h4)
    cases q with
    |true=>
     exact Qaa rfl rfl (by kernel_rfl) (QyP (k0:=k0) (k1:=k1) (k2:=cb) (k3:=rfl) (k4:=ce) (k5:=rfl) (k6:=k6) (k7:=rfl))
    |false=>
     cases hel:el.isEmpty with
     |true=>
      rw[hel]at lt0
      simp only[Bool.not_true,Bool.and_false,Bool.not_false,Bool.true_and,Bool.and_true]
      exact Qaa rfl rfl (by kernel_rfl) (QyN (k0:=k0) (k1:=k1) (k2:=cb) (k3:=rfl) (k4:=ce) (k5:=rfl) (k6:=k6) (k7:=rfl) (k8:=rfl) (k9:=lt0) (k10:=cbr))
     |false=>
      rw[hel]at lt0
      exact Qaa rfl rfl (by kernel_rfl) (QyO (k0:=k0) (k1:=k1) (k2:=cb) (k3:=rfl) (k4:=ce) (k5:=rfl) (k6:=k6) (k7:=rfl) (k8:=rfl) (k9:=lt0))
theorem Qxv (A B V T K D E Q:Bool):(A&&B&&V&&T&&K&&D&&E&&Q)=(A&&B&&V&&K&&(T&&D&&E&&Q)):=by
 simp only[Bool.and_left_comm,Bool.and_comm]
theorem Qth (l:List Int):(l.any fun n=>!QeB n)=!(l.all QeB):=by
 induction l with
 |nil=>rfl
 |cons x l ih=>rw[List.any_cons,List.all_cons,ih];cases QeB x<;>simp
theorem Qwa {o a b v t:Int}{l:List Int}{bd el:List Ins}{q:Bool}(hb:∀x,x∈bd→Qpu m x)(he:∀x,x∈el→Qpu m x)(hlb:bd.length<2^62)(hle:el.length<2^62)(hll:l.length<2^62):Qpu m (.mk o a b v t l bd el q):=by
 intro h
 unfold QnM
 cases hop:opI o with
 |none=>
  simp only
  rcases Qcg o with⟨_,_,_,hr,_⟩|⟨_,hno⟩
  ·rw[hop]at hr;cases hr
  obtain⟨ob,nm,k,tk,gv,bz,sg,c,hlk⟩:=Qhh hno
  have hlk2:(Qav o,h)=(LV.tup [opA ob nm k tk gv bz sg,Qcm (some c)],h):=by rw[hlk];rfl
  exact Qaa rfl rfl (by kernel_rfl) (Qzm (k0:=hlk2) (k1:=Qaz (some c)) (k2:=rfl))
 |some r=>
  have f:=QhY hop
  have k0:(Qav o,h)=(LV.tup [opA r.byte r.nm r.kind (Qah r.takes) r.gives r.bytes r.sg,.nilI],h):=by
   have:=Qfl hop
   unfold opI at*
   rw[this]
  have k1:=Qaz none
  simp only
  by_cases h2:r.kind=2
  ·rw[if_pos h2]
   exact Qaa rfl rfl (by kernel_rfl) (Qzl (k0:=k0) (k1:=k1) (k2:=rfl) (k3:=QaC (b:=Int.ofNat 2) h2) (k4:=Qs6 hb he hlb hle h))
  rw[if_neg h2]
  have e2:=Qaw (b:=Int.ofNat 2) h2
  have br:∀(a' b' v':Int) (l':List Int),Qab (cxZ m) (blk (cxZ m)) 84 [.v (.agg [.int .i64 o,.int .i64 a',.int .i64 b',.int .u64 v',.int .i64 t,.imm (Qah l'),.imm (Qam bd),.imm (Qam el),.bool q])] h=some (.v (.bool (decide (a'=0)&&decide (b'=0)&&decide (v'=0)&&l'.isEmpty&&(decide (t=0)&&bd.isEmpty&&el.isEmpty&&!q))),h):=fun a' b' v' l'=>by
   rw[Qpp]
   unfold Qow
   rw[Qlk,Qll,Qll,Qxv]
  generalize (decide (t=0)&&bd.isEmpty&&el.isEmpty&&!q)=T at br⊢
  unfold Qwc
  by_cases h10:r.kind=10
  ·rw[if_pos h10]
   have e10:=QaC (b:=Int.ofNat 10) h10
   have hbr:=br a b 0 l
   rw[show(decide ((0:Int)=0))=true from rfl,Bool.and_true]at hbr
   by_cases hg:r.gives=1
   ·rw[decide_eq_true hg,Bool.true_and]
    have eg:=QaC (b:=Int.ofNat 1) hg
    by_cases hv:4294967295<v
    ·rw[decide_eq_true hv,Bool.not_true,Bool.false_and,Bool.false_and]
     exact Qaa rfl rfl (by kernel_rfl) (Qzk (k0:=k0) (k1:=k1) (k2:=rfl) (k3:=e2) (k4:=e10) (k5:=eg) (k6:=Qae (a:=Int.ofNat 4294967295) hv))
    ·rw[decide_eq_false hv,Bool.not_false,Bool.true_and]
     exact Qaa rfl rfl (by kernel_rfl) (Qzj (k0:=k0) (k1:=k1) (k2:=rfl) (k3:=e2) (k4:=e10) (k5:=eg) (k6:=Qaf (a:=Int.ofNat 4294967295) (Int.not_lt.1 hv)) (k7:=hbr))
   ·rw[decide_eq_false hg,Bool.false_and,Bool.not_false,Bool.true_and]
    exact Qaa rfl rfl (by kernel_rfl) (Qzi (k0:=k0) (k1:=k1) (k2:=rfl) (k3:=e2) (k4:=e10) (k5:=Qaw (b:=Int.ofNat 1) hg) (k6:=hbr))
  rw[if_neg h10]
  have e10:=Qaw (b:=Int.ofNat 10) h10
  have na:=QrR (m:=m) a h
  have nb:=QrR (m:=m) b h
  by_cases h78:r.kind=7∨r.kind=8
  ·rw[if_pos h78]
   have hbr:=br 0 0 v l
   rw[show(decide ((0:Int)=0))=true from rfl,Bool.true_and,Bool.true_and]at hbr
   by_cases h7:r.kind=7
   ·have e7:=QaC (b:=Int.ofNat 7) h7
    cases qa:QeB a with
    |false=>
     rw[qa]at na
     exact Qaa rfl rfl (by kernel_rfl) (Qzh (k0:=k0) (k1:=k1) (k2:=rfl) (k3:=e2) (k4:=e10) (k5:=e7) (k6:=na) (k7:=rfl))
    |true=>
     rw[qa]at na
     cases qb:QeB b with
     |false=>
      rw[qb]at nb
      exact Qaa rfl rfl (by kernel_rfl) (Qzg (k0:=k0) (k1:=k1) (k2:=rfl) (k3:=e2) (k4:=e10) (k5:=e7) (k6:=na) (k7:=rfl) (k8:=nb) (k9:=rfl))
     |true=>
      rw[qb]at nb
      simp only[Bool.true_and]
      exact Qaa rfl rfl (by kernel_rfl) (Qzf (k0:=k0) (k1:=k1) (k2:=rfl) (k3:=e2) (k4:=e10) (k5:=e7) (k6:=na) (k7:=rfl) (k8:=nb) (k9:=rfl) (k10:=hbr))
   ·have e7:=Qaw (b:=Int.ofNat 7) h7
    have e8:=QaC (b:=Int.ofNat 8) (h78.resolve_left h7)
    cases qa:QeB a with
    |false=>
     rw[qa]at na
     exact Qaa rfl rfl (by kernel_rfl) (Qze (k0:=k0) (k1:=k1) (k2:=rfl) (k3:=e2) (k4:=e10) (k5:=e7) (k6:=e8) (k7:=na) (k8:=rfl))
    |true=>
     rw[qa]at na
     cases qb:QeB b with
     |false=>
      rw[qb]at nb
      exact Qaa rfl rfl (by kernel_rfl) (Qzd (k0:=k0) (k1:=k1) (k2:=rfl) (k3:=e2) (k4:=e10) (k5:=e7) (k6:=e8) (k7:=na) (k8:=rfl) (k9:=nb) (k10:=rfl))
     |true=>
      rw[qb]at nb
      simp only[Bool.true_and]
      exact Qaa rfl rfl (by kernel_rfl) (Quu (k0:=k0) (k1:=k1) (k2:=rfl) (k3:=e2) (k4:=e10) (k5:=e7) (k6:=e8) (k7:=na) (k8:=rfl) (k9:=nb) (k10:=rfl) (k11:=hbr))
  rw[if_neg h78]
  have e7:=Qaw (b:=Int.ofNat 7) (fun e=>h78 (.inl e))
  have e8:=Qaw (b:=Int.ofNat 8) (fun e=>h78 (.inr e))
  have kb:=f.bt
  have kr:=f.rt
  by_cases h14:o=14
  ·rw[if_pos h14]
   rw[decide_eq_true h14]at kb
   have hbr:=br a b v []
   rw[show(([]:List Int).isEmpty)=true from rfl,Bool.and_true]at hbr
   have l0:=QxF (l:=Qah l)
   rw[Qlk]at l0
   have ns:=Qv3 (m:=m) hll h
   rw[Qth]at ns
   cases ql:l.isEmpty with
   |true=>
    rw[ql]at l0
    exact Qaa rfl rfl (by kernel_rfl) (Qut (k0:=k0) (k1:=k1) (k2:=rfl) (k3:=e2) (k4:=e10) (k5:=e7) (k6:=e8) (k7:=kb) (k8:=l0))
   |false=>
    rw[ql]at l0
    cases qa:l.all QeB with
    |false=>
     rw[qa]at ns
     exact Qaa rfl rfl (by kernel_rfl) (Qus (k0:=k0) (k1:=k1) (k2:=rfl) (k3:=e2) (k4:=e10) (k5:=e7) (k6:=e8) (k7:=kb) (k8:=l0) (k9:=ns) (k10:=rfl))
    |true=>
     rw[qa]at ns
     simp only[Bool.not_false,Bool.true_and]
     exact Qaa rfl rfl (by kernel_rfl) (Qur (k0:=k0) (k1:=k1) (k2:=rfl) (k3:=e2) (k4:=e10) (k5:=e7) (k6:=e8) (k7:=kb) (k8:=l0) (k9:=ns) (k10:=rfl) (k11:=hbr))
  rw[if_neg h14]
  rw[decide_eq_false h14]at kb
  have hbr:=br 0 b v l
  rw[show(decide ((0:Int)=0))=true from rfl,Bool.true_and]at hbr
  by_cases h4:r.kind=4
  ·rw[if_pos (.inl h4)]
   have e4:=QaC (b:=Int.ofNat 4) h4
   cases qa:QeB a with
   |false=>
    rw[qa]at na
    exact Qaa rfl rfl (by kernel_rfl) (Quq (k0:=k0) (k1:=k1) (k2:=rfl) (k3:=e2) (k4:=e10) (k5:=e7) (k6:=e8) (k7:=kb) (k8:=e4) (k9:=na) (k10:=rfl))
   |true=>
    rw[qa]at na
    simp only[Bool.true_and]
    exact Qaa rfl rfl (by kernel_rfl) (Qup (k0:=k0) (k1:=k1) (k2:=rfl) (k3:=e2) (k4:=e10) (k5:=e7) (k6:=e8) (k7:=kb) (k8:=e4) (k9:=na) (k10:=rfl) (k11:=hbr))
  have e4:=Qaw (b:=Int.ofNat 4) h4
  by_cases h6:r.kind=6
  ·rw[if_pos (.inr (.inl h6))]
   have e6:=QaC (b:=Int.ofNat 6) h6
   cases qa:QeB a with
   |false=>
    rw[qa]at na
    exact Qaa rfl rfl (by kernel_rfl) (Quo (k0:=k0) (k1:=k1) (k2:=rfl) (k3:=e2) (k4:=e10) (k5:=e7) (k6:=e8) (k7:=kb) (k8:=e4) (k9:=e6) (k10:=na) (k11:=rfl))
   |true=>
    rw[qa]at na
    simp only[Bool.true_and]
    exact Qaa rfl rfl (by kernel_rfl) (Qun (k0:=k0) (k1:=k1) (k2:=rfl) (k3:=e2) (k4:=e10) (k5:=e7) (k6:=e8) (k7:=kb) (k8:=e4) (k9:=e6) (k10:=na) (k11:=rfl) (k12:=hbr))
  have e6:=Qaw (b:=Int.ofNat 6) h6
  have hbr2:=br a b v l
  by_cases h3:r.kind=3
  ·have e3:=QaC (b:=Int.ofNat 3) h3
   by_cases h15:o=15
   ·rw[if_neg (fun hh=>hh.elim h4 fun hh=>hh.elim h6 fun hh=>hh.2 h15)]
    rw[decide_eq_true h15]at kr
    exact Qaa rfl rfl (by kernel_rfl) (Quk (k0:=k0) (k1:=k1) (k2:=rfl) (k3:=e2) (k4:=e10) (k5:=e7) (k6:=e8) (k7:=kb) (k8:=e4) (k9:=e6) (k10:=e3) (k11:=congrArg not kr) (k12:=hbr2))
   ·rw[if_pos (.inr (.inr ⟨h3,h15⟩))]
    rw[decide_eq_false h15]at kr
    cases qa:QeB a with
    |false=>
     rw[qa]at na
     exact Qaa rfl rfl (by kernel_rfl) (Qum (k0:=k0) (k1:=k1) (k2:=rfl) (k3:=e2) (k4:=e10) (k5:=e7) (k6:=e8) (k7:=kb) (k8:=e4) (k9:=e6) (k10:=e3) (k11:=congrArg not kr) (k12:=na) (k13:=rfl))
    |true=>
     rw[qa]at na
     simp only[Bool.true_and]
     exact Qaa rfl rfl (by kernel_rfl) (Qul (k0:=k0) (k1:=k1) (k2:=rfl) (k3:=e2) (k4:=e10) (k5:=e7) (k6:=e8) (k7:=kb) (k8:=e4) (k9:=e6) (k10:=e3) (k11:=congrArg not kr) (k12:=na) (k13:=rfl) (k14:=hbr))
  ·rw[if_neg (fun hh=>hh.elim h4 fun hh=>hh.elim h6 fun hh=>h3 hh.1)]
   exact Qaa rfl rfl (by kernel_rfl) (Quj (k0:=k0) (k1:=k1) (k2:=rfl) (k3:=e2) (k4:=e10) (k5:=e7) (k6:=e8) (k7:=kb) (k8:=e4) (k9:=e6) (k10:=Qaw (b:=Int.ofNat 3) h3) (k11:=hbr2))
mutual
theorem QBm:∀x:Ins,cI x<2^62→Qpu m x
 |.mk _ _ _ _ _ l bd el _=>fun h=>by
  rw[cI]at h
  have h1:=QbU bd
  have h2:=QbU el
  exact Qwa (Qh5 bd (by omega)) (Qh5 el (by omega)) (by omega) (by omega) (by omega)
theorem Qh5:∀xs:List Ins,cL xs<2^62→∀x,x∈xs→Qpu m x
 |[]=>fun _ x hx=>by cases hx
 |y::ys=>fun h x hx=>by
  rw[cL]at h
  have h1:=QBm y (by omega)
  have h2:=Qh5 ys (by omega)
  rcases List.mem_cons.1 hx with e|hx
  ·rw[e];exact h1
  ·exact h2 x hx
end
theorem Qo2 {xs:List Ins}(h:cL xs<2^62)(hp:Heap):Qab (cxZ m) (blk (cxZ m)) 19 [.v (.imm (Qam xs))] hp=some (.v (.bool (Qfq opI xs)),hp):=
 Qhb (Qh5 xs h) (by have:=QbU xs;omega) hp
def ls0:LS:=⟨[],[],none⟩
def QdC (s:Scp)(xs:List Ins):Option Int:=if(Qfq opI xs&&QxD s)=true then(LS.runL opI s xs (rsl s.re) (ls0.push (rsl s.re) (rsl s.re))).err else some 1
theorem Qs0 {R:Nat}{s:Scp}{xs:List Ins}(hR:QhD R s)(hs:ScpLen (2^62) s)(hx:(R+6)*cL xs+4<2^41)(h:Heap):∃h',Qab (cxZ m) (blk (cxZ m)) 10 [.v (.agg s.enc),.v (.imm (Qam xs))] h=some (.v (Qcm (QdC s xs)),h'):=by
 have h2:cL xs≤(R+6)*cL xs:=Nat.le_mul_of_pos_left _ (by omega)
 have c1:=Qo2 (m:=m) (xs:=xs) (by omega) h
 have c2:=Qwb (m:=m) (h:=h) hs
 unfold QdC
 cases q1:Qfq opI xs with
 |false=>
  rw[q1]at c1
  exact⟨h,Qaa rfl rfl (by kernel_rfl) (QCO (k0:=c1) (k1:=rfl))⟩
 |true=>
  rw[q1]at c1
  cases q2:QxD s with
  |false=>
   rw[q2]at c2
   exact⟨h,Qaa rfl rfl (by kernel_rfl) (QCN (k0:=c1) (k1:=rfl) (k2:=c2) (k3:=rfl))⟩
  |true=>
   rw[q2]at c2
   rw[if_pos (show(true&&true)=true from rfl)]
   have H0:HR s h.bx.length {bx:=h.bx++[[.v (.imm (s.ty.map FTy.enc)),.v (.imm (Qah s.fn)),.v (.imm (s.gl.map Glo.enc)),.v (.bool s.tb),.v (.bool s.mm),.v (.imm (Qah s.lo)),.v (.int .i64 s.re),.v .nilS,.v .nilS,.v .nilI]],mp:=h.mp} none none .nilS .nilS ls0:=
    ⟨by simp;rfl,⟨rfl,rfl⟩,⟨rfl,rfl⟩,by simp,by simp,by simp⟩
   have hr:=Qb4 s.re
   obtain⟨id,h1,h2',ha,hst,H2⟩:=QoW H0 (by decide) (rsl s.re) (rsl s.re)
   have I2:Inv 1 (ls0.push (rsl s.re) (rsl s.re)):=⟨WF.push0 rfl _ _,fun b hb=>by
    simp only[LS.push,ls0,List.nil_append,List.mem_singleton]at hb
    rw[hb];exact hr,by simp[LS.push,ls0]⟩
   have h6:6*cL xs≤(R+6)*cL xs:=Nat.mul_le_mul_right _ (by omega)
   have hlen:=QbU xs
   obtain⟨h3,c3,H3⟩:=Qh8 (m:=m) (s:=s) (L:=h.bx.length) hR xs q1 [] hr (by simpa using(by omega:xs.length<2^40)) I2 (by omega) ⟨_,_,_,_,H2⟩
   have l9:=H0.ld9
   have c15:Qab (cxZ m) (blk (cxZ m)) 21 [.v (.ptr h.bx.length 0),.v (.imm (Qam xs)),.v (.imm (Qah (rsl s.re))),.v (.imm (Qah (rsl s.re)))] _=some (.tup [],h3):=
    Qaa rfl rfl (by kernel_rfl) (Quv (k0:=l9) (k1:=Qaz none) (k2:=rfl) (k3:=H0.ld8) (k4:=H0.ld7) (k5:=rfl) (k6:=ha) (k7:=hst) (k8:=c3))
   exact⟨h3,Qaa rfl rfl (by kernel_rfl) (QCM (k0:=c1) (k1:=rfl) (k2:=c2) (k3:=rfl) (k4:=Qb6 _ _) (k5:=Qb6 _ _) (k6:=c15) (k7:=Qwj H3))⟩
end
end Go.Proofs.YtoblgjmllmomhaaGreatDoor
namespace Go.Proofs.YtoblgjmllmomhaaGreatDoor
set_option maxRecDepth 100000
open Go Go.RowKit Go.Proofs.Am
section
variable {m:Int} {h:Heap}
theorem Qec {xs:List Lim}{fv:AV}{F:Lim→Bool}(hf:∀x,x∈xs→QaK (cxZ m) (blk (cxZ m)) fv [.v (.agg x.enc)] h=some (.v (.bool (F x)),h))(hl:xs.length<2^62):∀(k i:Nat),i+k=xs.length→
 ∃z:Int,blk (cxZ m) 111 (at_ Tryz.prog 111 2) [.v (.imm (xs.map Lim.enc)),.v fv,.v (.int .i64 (Int.ofNat xs.length)),.v (.int .i64 (Int.ofNat i))] h=some (.v (.int .i64 z),h)∧leZ (Int.ofNat 0) z=(xs.drop i).any F
 |0,i,hi=>by
  rw[List.drop_of_length_le (by omega)]
  exact⟨_,Qnc (k0:=Qaf (by rw[ofN,ofN];omega)),rfl⟩
 |k+1,i,hi=>by
  have h1:xs[i]? =some xs[i]:=List.getElem?_eq_getElem (by omega)
  have e1:ixA (.imm (xs.map Lim.enc)) (Int.ofNat i) 3=some (Lim.enc xs[i]):=Qaj (f:=Lim.enc) h1 (Lim.enc_len _)
  have hv:=hf xs[i] (List.getElem_mem _)
  rw[Qag h1,List.any_cons]
  obtain⟨z,hz,he⟩:=Qec hf hl k (i+1) (by omega)
  generalize xs[i]=x at e1 hv⊢
  obtain⟨lo,hi,hs⟩:=x
  cases hq:F ⟨lo,hi,hs⟩with
  |true=>
   rw[hq]at hv
   exact⟨_,Qne (k0:=Qae (by rw[ofN,ofN];omega)) (k1:=e1) (k2:=hv) (k3:=rfl),by rw[Bool.true_or];exact Qbi (by rw[ofN,ofN];omega)⟩
  |false=>
   rw[hq]at hv
   exact⟨z,Qnd (k0:=Qae (by rw[ofN,ofN];omega)) (k1:=e1) (k2:=hv) (k3:=rfl) (k4:=by rw[Qas (by omega)];exact hz),by rw[Bool.false_or];exact he⟩
theorem Qpa {xs:List Lim}{fv:AV}{F:Lim→Bool}(hf:∀x,x∈xs→QaK (cxZ m) (blk (cxZ m)) fv [.v (.agg x.enc)] h=some (.v (.bool (F x)),h))(hl:xs.length<2^62):
 Qab (cxZ m) (blk (cxZ m)) 65 [.v (.imm (xs.map Lim.enc)),.v fv] h=some (.v (.bool (xs.any F)),h):=by
 obtain⟨z,hz,he⟩:=Qec (m:=m) (h:=h) hf hl xs.length 0 (by omega)
 rw[List.drop_zero]at he
 rw[←he]
 refine Qaa rfl rfl (by kernel_rfl) (QzU (k0:=Qaa rfl rfl (by kernel_rfl) (Qu7 (k0:=?_))))
 rw[List.length_map]
 exact hz
def orE (a b:Option Int):Option Int:=match a with|some c=>some c|none=>b
def Qax {A:Type}(f:A→Option Int):List A→Option Int
 |[]=>none
 |x::xs=>orE (f x) (Qax f xs)
theorem Qha (t:Int):Qab (cxZ m) (blk (cxZ m)) 63 [.v (.int .i64 t)] h=some (.v (.bool (odd t)),h):=by
 unfold odd
 by_cases h1:t=1
 ·rw[show(decide (t≠1))=false by simp[h1],Bool.false_and]
  exact Qaa rfl rfl (by kernel_rfl) (QzY (k0:=congrArg not (QaC (b:=Int.ofNat 1) h1)))
 ·rw[show(decide (t≠1))=true by simp[h1],Bool.true_and]
  have e:(!eqZ t (Int.ofNat 2))=decide (t≠2):=by
   by_cases h2:t=2
   ·rw[QaC (b:=Int.ofNat 2) h2];simp[h2]
   ·rw[Qaw (b:=Int.ofNat 2) h2];simp[h2]
  rw[←e]
  exact Qaa rfl rfl (by kernel_rfl) (QzZ (k0:=congrArg not (Qaw (b:=Int.ofNat 1) h1)))
theorem Qfn {l:List Int}(hl:l.length<2^62):Qab (cxZ m) (blk (cxZ m)) 47 [.v (.imm (Qah l)),.v (.fn 63 [] [])] h=some (.v (.bool (l.any odd)),h):=
 Qr8 (fun x _ _=>Qha x) hl
def Qif (x:Lim)(mo:Int):Bool:=leZ (Int.ofNat 0) x.lo&&(leZ x.lo mo&&(!x.has||(leZ x.hi mo&&leZ x.lo x.hi)))
theorem QnU (x:Lim)(mo:Int):Qab (cxZ m) (blk (cxZ m)) 67 [.v (.agg x.enc),.v (.int .i64 mo)] h=some (.v (.bool (Qif x mo)),h):=by
 obtain⟨lo,hi,hs⟩:=x
 unfold Qif
 cases e0:leZ (Int.ofNat 0) lo with
 |false=>exact Qaa rfl rfl (by kernel_rfl) (QzO (k0:=e0))
 |true=>
  cases e1:leZ lo mo with
  |false=>exact Qaa rfl rfl (by kernel_rfl) (QzP (k0:=e0) (k1:=e1))
  |true=>
   cases hs with
   |false=>exact Qaa rfl rfl (by kernel_rfl) (QzS (k0:=e0) (k1:=e1) (k2:=rfl))
   |true=>
    cases e3:leZ hi mo with
    |false=>exact Qaa rfl rfl (by kernel_rfl) (QzQ (k0:=e0) (k1:=e1) (k2:=rfl) (k3:=e3))
    |true=>exact Qaa rfl rfl (by kernel_rfl) (QzR (k0:=e0) (k1:=e1) (k2:=rfl) (k3:=e3))
theorem Qvt {l:List Lim}(hl:l.length<2^62):Qab (cxZ m) (blk (cxZ m)) 65 [.v (.imm (l.map Lim.enc)),.v (.fn 66 [] [])] h=some (.v (.bool (l.any fun x=>!Qif x 64)),h):=
 Qpa (F:=fun x=>!Qif x 64) (fun x _=>callV_fn.trans (Qaa rfl rfl (by kernel_rfl) (QzT (k0:=QnU x 64)))) hl
theorem Qv9 {l:List Lim}(hl:l.length<2^62):Qab (cxZ m) (blk (cxZ m)) 65 [.v (.imm (l.map Lim.enc)),.v (.fn 68 [] [])] h=some (.v (.bool (l.any fun x=>!Qif x 16)),h):=
 Qpa (F:=fun x=>!Qif x 16) (fun x _=>callV_fn.trans (Qaa rfl rfl (by kernel_rfl) (QzN (k0:=QnU x 16)))) hl
def Qjp (M:Mdl)(k:Int):Bool:=leZ (Int.ofNat 0) k&&ltZ k (Int.ofNat M.ty.length)
theorem Qvl (M:Mdl)(k:Int):Qab (cxZ m) (blk (cxZ m)) 69 [eM M,.v (.int .i64 k)] h=some (.v (.bool (Qjp M k)),h):=by
 unfold Qjp
 cases e0:leZ (Int.ofNat 0) k with
 |false=>exact Qaa rfl rfl (by kernel_rfl) (QzL (k0:=e0))
 |true=>
  rw[Bool.true_and,←List.length_map (f:=FTy.enc)]
  exact Qaa rfl rfl (by kernel_rfl) (QzM (k0:=e0))
theorem Qvk {M:Mdl}{k:Int}(h:Qjp M k=true):∃y,Qex M k=some y:=by
 unfold Qjp at h
 rw[Bool.and_eq_true]at h
 have h1:=Qft h.1
 have h2:=QnQ h.2
 simp only[iff_true,ofN]at h1 h2
 unfold Qex
 rw[Qaf (b:=Int.ofNat 0) h1,cond_false]
 exact⟨_,List.getElem?_eq_getElem (by omega)⟩
def QgY (x:FTy):Option Int:=if(x.p.any odd||(x.r.any odd||ltZ (Int.ofNat 1) (Int.ofNat x.r.length)))=true then some 4 else none
def Qps (M:Mdl):Prop:=∀x,x∈M.ty→x.p.length<2^62∧x.r.length<2^62
theorem QeO {M:Mdl}(hs:Qps M)(hl:M.ty.length<2^62):∀(d i:Nat),i+d=M.ty.length→
 blk (cxZ m) 28 (at_ Tryz.prog 28 4) [.v (.imm (M.ty.map FTy.enc)),.v (.int .i64 (Int.ofNat M.ty.length)),.v (.int .i64 (Int.ofNat i))] h=some (.v (Qcm (Qax QgY (M.ty.drop i))),h)
 |0,i,hi=>by
  rw[List.drop_of_length_le (by omega)]
  exact QqL (k0:=Qaf (by rw[ofN,ofN];omega))
 |d+1,i,hi=>by
  have hx:M.ty[i]? =some M.ty[i]:=List.getElem?_eq_getElem (by omega)
  have hm:M.ty[i]∈M.ty:=List.getElem_mem _
  have k0:ltZ (Int.ofNat i) (Int.ofNat M.ty.length)=true:=Qae (by rw[ofN,ofN];omega)
  rw[Qag hx]
  have ih:=QeO hs hl d (i+1) (by omega)
  generalize M.ty[i]=x at hx hm⊢
  have k1:ixA (.imm (M.ty.map FTy.enc)) (Int.ofNat i) 2=some x.enc:=Qaj hx x.enc_len
  obtain⟨hp,hr⟩:=hs x hm
  have c1:=Qfn (m:=m) (h:=h) hp
  have c2:=Qfn (m:=m) (h:=h) hr
  obtain⟨p,r⟩:=x
  unfold Qax QgY
  simp only at c1 c2⊢
  cases q1:p.any odd with
  |true=>
   rw[q1]at c1
   exact QqP (k0:=k0) (k1:=k1) (k2:=c1) (k3:=rfl)
  |false=>
   rw[q1]at c1
   cases q2:r.any odd with
   |true=>
    rw[q2]at c2
    exact QqO (k0:=k0) (k1:=k1) (k2:=c1) (k3:=rfl) (k4:=c2) (k5:=rfl)
   |false=>
    rw[q2]at c2
    cases q3:ltZ (Int.ofNat 1) (Int.ofNat r.length)with
    |true=>exact QqN (k0:=k0) (k1:=k1) (k2:=c1) (k3:=rfl) (k4:=c2) (k5:=rfl) (k6:=by rw[Qac];exact q3)
    |false=>exact QqM (k0:=k0) (k1:=k1) (k2:=c1) (k3:=rfl) (k4:=c2) (k5:=rfl) (k6:=by rw[Qac];exact q3) (k7:=by rw[Qas (by omega)];exact ih)
theorem QqR {M:Mdl}(hs:Qps M)(hl:M.ty.length<2^62){sm:Bool}(h62:Qab (cxZ m) (blk (cxZ m)) 62 [eM M] h=some (.v (.bool sm),h)):
 Qab (cxZ m) (blk (cxZ m)) 28 [eM M] h=some (.v (Qcm (if sm=true then Qax QgY M.ty else some 7)),h):=by
 cases sm with
 |false=>exact Qaa rfl rfl (by kernel_rfl) (QAd (k0:=h62) (k1:=rfl))
 |true=>
  have:=QeO (m:=m) (h:=h) hs hl M.ty.length 0 (by omega)
  exact Qaa rfl rfl (by kernel_rfl) (QAc (k0:=h62) (k1:=rfl) (k2:=by rw[List.length_map];exact this))
end
end Go.Proofs.YtoblgjmllmomhaaGreatDoor
namespace Go.Proofs.YtoblgjmllmomhaaGreatDoor
set_option maxRecDepth 100000
open Go Go.RowKit Go.Proofs.Am
section
variable {m:Int}
def TB (m:Int)(f:Nat)(xs:List LV):Prop:=∃q:Bool,∀h,QbM m f xs h=some (.v (.bool q),h)
noncomputable def tbv (m:Int)(f:Nat)(xs:List LV):Bool:=@decide (∀h,QbM m f xs h=some (.v (.bool true),h)) (Classical.propDecidable _)
theorem QjJ {f:Nat}{xs:List LV}(H:TB m f xs)(h:Heap):QbM m f xs h=some (.v (.bool (tbv m f xs)),h):=by
 obtain⟨q,hq⟩:=H
 have e:tbv m f xs=q:=by
  unfold tbv
  cases q with
  |true=>exact @decide_eq_true _ (Classical.propDecidable _) hq
  |false=>
   refine @decide_eq_false _ (Classical.propDecidable _) fun ht=>?_
   have:=(hq Heap.nil).symm.trans (ht Heap.nil)
   cases this
 rw[e];exact hq h
def CT (m:Int)(xs:List Ins):Prop:=∃n d:Int,∀h,QbM m 126 [.v (.imm (Qam xs))] h=some (.tup [.int .i64 n,.int .i64 d],h)
def CTp (m:Int):Ins→Prop
 |.mk _ _ _ _ _ _ bd el _=>CT m bd∧CT m el
theorem QB0 (x:Ins):TB m 149 [.v (.agg (Qbx x))]:=by
 obtain⟨o,a,b,v,t,l,bd,el,q⟩:=x
 cases e:leZ (Int.ofNat 2) o with
 |true=>exact⟨_,fun h=>Qaa rfl rfl (by kernel_rfl) (QuR (k0:=e))⟩
 |false=>exact⟨_,fun h=>Qaa rfl rfl (by kernel_rfl) (QuQ (k0:=e))⟩
theorem Qln {xs:List Ins}(hx:∀x,x∈xs→CTp m x)(hl:xs.length<2^62):∀(k i:Nat),i+k=xs.length→∀c d:Int,
 ∃n e:Int,∀h,blk (cxZ m) 126 (at_ Tryz.prog 126 3) [.v (.int .i64 c),.v (.int .i64 d),.v (.imm (Qam xs)),.v (.int .i64 (Int.ofNat xs.length)),.v (.int .i64 (Int.ofNat i))] h=some (.tup [.int .i64 n,.int .i64 e],h)
 |0,i,hi,c,d=>⟨c,d,fun h=>Qm9 (k0:=Qaf (by rw[ofN,ofN];omega))⟩
 |k+1,i,hi,c,d=>by
  have h1:xs[i]? =some xs[i]:=List.getElem?_eq_getElem (by omega)
  have hm:=hx xs[i] (List.getElem_mem _)
  have ih:=Qln hx hl k (i+1) (by omega)
  generalize xs[i]=x at h1 hm
  have k1:ixA (.imm (Qam xs)) (Int.ofNat i) 9=some (Qbx x):=by rw[QaN];exact Qaj (f:=Qbx) h1 (Qbe _)
  have kb:=QjJ (QB0 (m:=m) x)
  have k0:ltZ (Int.ofNat i) (Int.ofNat xs.length)=true:=Qae (by rw[ofN,ofN];omega)
  generalize tbv m 149 [.v (.agg (Qbx x))]=qb at kb
  obtain⟨o,a,b,v,t,l,bd,el,q⟩:=x
  obtain⟨⟨n1,d1,c1⟩,⟨n2,d2,c2⟩⟩:=hm
  cases qb with
  |true=>
   obtain⟨n,e,hh⟩:=ih (IntKind.i64.wrap (c+IntKind.i64.wrap (IntKind.i64.wrap (Int.ofNat 1+n1)+n2))) _
   exact⟨n,e,fun h=>Qnb (k0:=k0) (k1:=k1) (k2:=c1 h) (k3:=c2 h) (k4:=kb h) (k5:=rfl) (k6:=by rw[Qas (by omega)];exact hh h)⟩
  |false=>
   obtain⟨n,e,hh⟩:=ih (IntKind.i64.wrap (c+IntKind.i64.wrap (IntKind.i64.wrap (Int.ofNat 1+n1)+n2))) d
   exact⟨n,e,fun h=>Qna (k0:=k0) (k1:=k1) (k2:=c1 h) (k3:=c2 h) (k4:=kb h) (k5:=rfl) (k6:=by rw[Qas (by omega)];exact hh h)⟩
theorem QsP {xs:List Ins}(hx:∀x,x∈xs→CTp m x)(hl:xs.length<2^62):CT m xs:=by
 obtain⟨n,e,hh⟩:=Qln hx hl xs.length 0 (by omega) (Int.ofNat 0) (Int.ofNat 0)
 exact⟨n,e,fun h=>Qaa rfl rfl (by kernel_rfl) (Qu6 (k0:=by rw[QaW];exact hh h))⟩
mutual
theorem QDf:∀x:Ins,cI x<2^62→CTp m x
 |.mk _ _ _ _ _ l bd el _=>fun h=>by
  rw[cI]at h
  have h1:=QbU bd
  have h2:=QbU el
  exact⟨QsP (QxS bd (by omega)) (by omega),QsP (QxS el (by omega)) (by omega)⟩
theorem QxS:∀xs:List Ins,cL xs<2^62→∀x,x∈xs→CTp m x
 |[]=>fun _ x hx=>by cases hx
 |y::ys=>fun h x hx=>by
  rw[cL]at h
  have h1:=QDf y (by omega)
  have h2:=QxS ys (by omega)
  rcases List.mem_cons.1 hx with e|hx
  ·rw[e];exact h1
  ·exact h2 x hx
end
theorem QsQ {xs:List Ins}(h:cL xs<2^62):CT m xs:=QsP (QxS xs h) (by have:=QbU xs;omega)
def LTp (m:Int):Ins→Prop
 |.mk _ _ _ _ _ _ bd el _=>TB m 127 [.v (.imm (Qam bd))]∧TB m 127 [.v (.imm (Qam el))]
theorem Qwk {x:Ins}(hx:LTp m x):TB m 150 [.v (.agg (Qbx x))]:=by
 obtain⟨o,a,b,v,t,l,bd,el,q⟩:=x
 obtain⟨⟨q1,c1⟩,⟨q2,c2⟩⟩:=hx
 cases e:ltZ (Int.ofNat 64) (Int.ofNat (Qah l).length)with
 |true=>exact⟨_,fun h=>Qaa rfl rfl (by kernel_rfl) (QuP (k0:=e))⟩
 |false=>
  cases q1 with
  |false=>exact⟨_,fun h=>Qaa rfl rfl (by kernel_rfl) (QuO (k0:=e) (k1:=c1 h) (k2:=rfl))⟩
  |true=>exact⟨_,fun h=>Qaa rfl rfl (by kernel_rfl) (QuN (k0:=e) (k1:=c1 h) (k2:=rfl) (k3:=c2 h))⟩
theorem QrV {xs:List Ins}(hx:∀x,x∈xs→LTp m x)(hl:xs.length<2^62):TB m 127 [.v (.imm (Qam xs))]:=by
 have c:∀h,Qab (cxZ m) (blk (cxZ m)) 42 [.v (.imm (Qam xs)),.v (.fn 150 [] [])] h=some (.v (.bool (xs.any fun x=>tbv m 150 [.v (.agg (Qbx x))])),h):=fun h=>by
  rw[QaN]
  exact Qwu (F:=fun x=>tbv m 150 [.v (.agg (Qbx x))]) (fun x hm h=>callV_fn.trans (QjJ (Qwk (hx x hm)) h)) hl
 exact⟨_,fun h=>Qaa rfl rfl (by kernel_rfl) (Qu5 (k0:=c h))⟩
mutual
theorem QC6:∀x:Ins,cI x<2^62→LTp m x
 |.mk _ _ _ _ _ l bd el _=>fun h=>by
  rw[cI]at h
  have h1:=QbU bd
  have h2:=QbU el
  exact⟨QrV (QxE bd (by omega)) (by omega),QrV (QxE el (by omega)) (by omega)⟩
theorem QxE:∀xs:List Ins,cL xs<2^62→∀x,x∈xs→LTp m x
 |[]=>fun _ x hx=>by cases hx
 |y::ys=>fun h x hx=>by
  rw[cL]at h
  have h1:=QC6 y (by omega)
  have h2:=QxE ys (by omega)
  rcases List.mem_cons.1 hx with e|hx
  ·rw[e];exact h1
  ·exact h2 x hx
end
theorem QrZ {xs:List Ins}(h:cL xs<2^62):TB m 127 [.v (.imm (Qam xs))]:=QrV (QxE xs h) (by have:=QbU xs;omega)
noncomputable def Qom (m:Int)(xs:List Ins):Bool:=tbv m 108 [.v (.imm (Qam xs))]
theorem Qw9 {xs:List Ins}(h:cL xs<2^62):TB m 108 [.v (.imm (Qam xs))]:=by
 obtain⟨n,d,c⟩:=QsQ (m:=m) h
 obtain⟨q,cl⟩:=QrZ (m:=m) h
 cases e1:leZ n (Int.ofNat 512)with
 |false=>exact⟨_,fun h=>Qaa rfl rfl (by kernel_rfl) (Qvd (k0:=c h) (k1:=e1))⟩
 |true=>
  cases e2:leZ d (Int.ofNat 32)with
  |false=>exact⟨_,fun h=>Qaa rfl rfl (by kernel_rfl) (Qve (k0:=c h) (k1:=e1) (k2:=e2))⟩
  |true=>exact⟨_,fun h=>Qaa rfl rfl (by kernel_rfl) (Qvf (k0:=c h) (k1:=e1) (k2:=e2) (k3:=cl h))⟩
theorem QfH {xs:List Ins}(hx:cL xs<2^62)(h:Heap):QbM m 108 [.v (.imm (Qam xs))] h=some (.v (.bool (Qom m xs)),h):=QjJ (Qw9 hx) h
section
variable {h:Heap}
theorem Qea {xs:List Imp}{fv:AV}{F:Imp→Bool}(hf:∀x,x∈xs→QaK (cxZ m) (blk (cxZ m)) fv [.v (.agg x.enc)] h=some (.v (.bool (F x)),h))(hl:xs.length<2^62):∀(k i:Nat),i+k=xs.length→
 ∃z:Int,blk (cxZ m) 151 (at_ Tryz.prog 151 2) [.v (.imm (xs.map Imp.enc)),.v fv,.v (.int .i64 (Int.ofNat xs.length)),.v (.int .i64 (Int.ofNat i))] h=some (.v (.int .i64 z),h)∧leZ (Int.ofNat 0) z=(xs.drop i).any F
 |0,i,hi=>by
  rw[List.drop_of_length_le (by omega)]
  exact⟨_,Qm6 (k0:=Qaf (by rw[ofN,ofN];omega)),rfl⟩
 |k+1,i,hi=>by
  have h1:xs[i]? =some xs[i]:=List.getElem?_eq_getElem (by omega)
  have e1:ixA (.imm (xs.map Imp.enc)) (Int.ofNat i) 8=some (Imp.enc xs[i]):=Qaj (f:=Imp.enc) h1 (Imp.enc_len _)
  have hv:=hf xs[i] (List.getElem_mem _)
  rw[Qag h1,List.any_cons]
  obtain⟨z,hz,he⟩:=Qea hf hl k (i+1) (by omega)
  generalize xs[i]=x at e1 hv⊢
  obtain⟨a1,a2,a3,a4,a5,⟨lo,hi,hs⟩⟩:=x
  cases hq:F ⟨a1,a2,a3,a4,a5,⟨lo,hi,hs⟩⟩with
  |true=>
   rw[hq]at hv
   exact⟨_,Qm8 (k0:=Qae (by rw[ofN,ofN];omega)) (k1:=e1) (k2:=hv) (k3:=rfl),by rw[Bool.true_or];exact Qbi (by rw[ofN,ofN];omega)⟩
  |false=>
   rw[hq]at hv
   exact⟨z,Qm7 (k0:=Qae (by rw[ofN,ofN];omega)) (k1:=e1) (k2:=hv) (k3:=rfl) (k4:=by rw[Qas (by omega)];exact hz),by rw[Bool.false_or];exact he⟩
theorem Qwy {xs:List Imp}{fv:AV}{F:Imp→Bool}(hf:∀x,x∈xs→QaK (cxZ m) (blk (cxZ m)) fv [.v (.agg x.enc)] h=some (.v (.bool (F x)),h))(hl:xs.length<2^62):
 Qab (cxZ m) (blk (cxZ m)) 128 [.v (.imm (xs.map Imp.enc)),.v fv] h=some (.v (.bool (xs.any F)),h):=by
 obtain⟨z,hz,he⟩:=Qea (m:=m) (h:=h) hf hl xs.length 0 (by omega)
 rw[List.drop_zero]at he
 rw[←he]
 refine Qaa rfl rfl (by kernel_rfl) (Qu4 (k0:=Qaa rfl rfl (by kernel_rfl) (QuM (k0:=?_))))
 rw[List.length_map]
 exact hz
theorem Qeb {xs:List Exq}{fv:AV}{F:Exq→Bool}(hf:∀x,x∈xs→QaK (cxZ m) (blk (cxZ m)) fv [.v (.agg x.enc)] h=some (.v (.bool (F x)),h))(hl:xs.length<2^62):∀(k i:Nat),i+k=xs.length→
 ∃z:Int,blk (cxZ m) 115 (at_ Tryz.prog 115 2) [.v (.imm (xs.map Exq.enc)),.v fv,.v (.int .i64 (Int.ofNat xs.length)),.v (.int .i64 (Int.ofNat i))] h=some (.v (.int .i64 z),h)∧leZ (Int.ofNat 0) z=(xs.drop i).any F
 |0,i,hi=>by
  rw[List.drop_of_length_le (by omega)]
  exact⟨_,QhH (k0:=Qaf (by rw[ofN,ofN];omega)),rfl⟩
 |k+1,i,hi=>by
  have h1:xs[i]? =some xs[i]:=List.getElem?_eq_getElem (by omega)
  have e1:ixA (.imm (xs.map Exq.enc)) (Int.ofNat i) 3=some (Exq.enc xs[i]):=Qaj (f:=Exq.enc) h1 (Exq.enc_len _)
  have hv:=hf xs[i] (List.getElem_mem _)
  rw[Qag h1,List.any_cons]
  obtain⟨z,hz,he⟩:=Qeb hf hl k (i+1) (by omega)
  generalize xs[i]=x at e1 hv⊢
  obtain⟨na,kk,ii⟩:=x
  cases hq:F ⟨na,kk,ii⟩with
  |true=>
   rw[hq]at hv
   exact⟨_,QhJ (k0:=Qae (by rw[ofN,ofN];omega)) (k1:=e1) (k2:=hv) (k3:=rfl),by rw[Bool.true_or];exact Qbi (by rw[ofN,ofN];omega)⟩
  |false=>
   rw[hq]at hv
   exact⟨z,QhI (k0:=Qae (by rw[ofN,ofN];omega)) (k1:=e1) (k2:=hv) (k3:=rfl) (k4:=by rw[Qas (by omega)];exact hz),by rw[Bool.false_or];exact he⟩
theorem Qwz {xs:List Exq}{fv:AV}{F:Exq→Bool}(hf:∀x,x∈xs→QaK (cxZ m) (blk (cxZ m)) fv [.v (.agg x.enc)] h=some (.v (.bool (F x)),h))(hl:xs.length<2^62):
 Qab (cxZ m) (blk (cxZ m)) 74 [.v (.imm (xs.map Exq.enc)),.v fv] h=some (.v (.bool (xs.any F)),h):=by
 obtain⟨z,hz,he⟩:=Qeb (m:=m) (h:=h) hf hl xs.length 0 (by omega)
 rw[List.drop_zero]at he
 rw[←he]
 refine Qaa rfl rfl (by kernel_rfl) (Qux (k0:=Qaa rfl rfl (by kernel_rfl) (QoG (k0:=?_))))
 rw[List.length_map]
 exact hz
theorem Qd9 {xs:List Cus}{fv:AV}{F:Cus→Bool}(hf:∀x,x∈xs→QaK (cxZ m) (blk (cxZ m)) fv [.v (.agg x.enc)] h=some (.v (.bool (F x)),h))(hl:xs.length<2^62):∀(k i:Nat),i+k=xs.length→
 ∃z:Int,blk (cxZ m) 152 (at_ Tryz.prog 152 2) [.v (.imm (xs.map Cus.enc)),.v fv,.v (.int .i64 (Int.ofNat xs.length)),.v (.int .i64 (Int.ofNat i))] h=some (.v (.int .i64 z),h)∧leZ (Int.ofNat 0) z=(xs.drop i).any F
 |0,i,hi=>by
  rw[List.drop_of_length_le (by omega)]
  exact⟨_,Qm3 (k0:=Qaf (by rw[ofN,ofN];omega)),rfl⟩
 |k+1,i,hi=>by
  have h1:xs[i]? =some xs[i]:=List.getElem?_eq_getElem (by omega)
  have e1:ixA (.imm (xs.map Cus.enc)) (Int.ofNat i) 2=some (Cus.enc xs[i]):=Qaj (f:=Cus.enc) h1 (Cus.enc_len _)
  have hv:=hf xs[i] (List.getElem_mem _)
  rw[Qag h1,List.any_cons]
  obtain⟨z,hz,he⟩:=Qd9 hf hl k (i+1) (by omega)
  generalize xs[i]=x at e1 hv⊢
  obtain⟨a1,a2⟩:=x
  cases hq:F ⟨a1,a2⟩with
  |true=>
   rw[hq]at hv
   exact⟨_,Qm5 (k0:=Qae (by rw[ofN,ofN];omega)) (k1:=e1) (k2:=hv) (k3:=rfl),by rw[Bool.true_or];exact Qbi (by rw[ofN,ofN];omega)⟩
  |false=>
   rw[hq]at hv
   exact⟨z,Qm4 (k0:=Qae (by rw[ofN,ofN];omega)) (k1:=e1) (k2:=hv) (k3:=rfl) (k4:=by rw[Qas (by omega)];exact hz),by rw[Bool.false_or];exact he⟩
theorem Qwx {xs:List Cus}{fv:AV}{F:Cus→Bool}(hf:∀x,x∈xs→QaK (cxZ m) (blk (cxZ m)) fv [.v (.agg x.enc)] h=some (.v (.bool (F x)),h))(hl:xs.length<2^62):
 Qab (cxZ m) (blk (cxZ m)) 131 [.v (.imm (xs.map Cus.enc)),.v fv] h=some (.v (.bool (xs.any F)),h):=by
 obtain⟨z,hz,he⟩:=Qd9 (m:=m) (h:=h) hf hl xs.length 0 (by omega)
 rw[List.drop_zero]at he
 rw[←he]
 refine Qaa rfl rfl (by kernel_rfl) (Qu0 (k0:=Qaa rfl rfl (by kernel_rfl) (QuL (k0:=?_))))
 rw[List.length_map]
 exact hz
theorem Qd8 {xs:List Ele}{fv:AV}{F:Ele→Bool}(hf:∀x,x∈xs→QaK (cxZ m) (blk (cxZ m)) fv [.v (.agg x.enc)] h=some (.v (.bool (F x)),h))(hl:xs.length<2^62):∀(k i:Nat),i+k=xs.length→
 ∃z:Int,blk (cxZ m) 153 (at_ Tryz.prog 153 2) [.v (.imm (xs.map Ele.enc)),.v fv,.v (.int .i64 (Int.ofNat xs.length)),.v (.int .i64 (Int.ofNat i))] h=some (.v (.int .i64 z),h)∧leZ (Int.ofNat 0) z=(xs.drop i).any F
 |0,i,hi=>by
  rw[List.drop_of_length_le (by omega)]
  exact⟨_,Qm0 (k0:=Qaf (by rw[ofN,ofN];omega)),rfl⟩
 |k+1,i,hi=>by
  have h1:xs[i]? =some xs[i]:=List.getElem?_eq_getElem (by omega)
  have e1:ixA (.imm (xs.map Ele.enc)) (Int.ofNat i) 10=some (Ele.enc xs[i]):=Qaj (f:=Ele.enc) h1 (Ele.enc_len _)
  have hv:=hf xs[i] (List.getElem_mem _)
  rw[Qag h1,List.any_cons]
  obtain⟨z,hz,he⟩:=Qd8 hf hl k (i+1) (by omega)
  generalize xs[i]=x at e1 hv⊢
  obtain⟨⟨g1,g2,g3,g4,g5,g6,g7,g8,g9⟩,a2⟩:=x
  cases hq:F ⟨.mk g1 g2 g3 g4 g5 g6 g7 g8 g9,a2⟩with
  |true=>
   rw[hq]at hv
   exact⟨_,Qm2 (k0:=Qae (by rw[ofN,ofN];omega)) (k1:=e1) (k2:=hv) (k3:=rfl),by rw[Bool.true_or];exact Qbi (by rw[ofN,ofN];omega)⟩
  |false=>
   rw[hq]at hv
   exact⟨z,Qm1 (k0:=Qae (by rw[ofN,ofN];omega)) (k1:=e1) (k2:=hv) (k3:=rfl) (k4:=by rw[Qas (by omega)];exact hz),by rw[Bool.false_or];exact he⟩
theorem Qww {xs:List Ele}{fv:AV}{F:Ele→Bool}(hf:∀x,x∈xs→QaK (cxZ m) (blk (cxZ m)) fv [.v (.agg x.enc)] h=some (.v (.bool (F x)),h))(hl:xs.length<2^62):
 Qab (cxZ m) (blk (cxZ m)) 133 [.v (.imm (xs.map Ele.enc)),.v fv] h=some (.v (.bool (xs.any F)),h):=by
 obtain⟨z,hz,he⟩:=Qd8 (m:=m) (h:=h) hf hl xs.length 0 (by omega)
 rw[List.drop_zero]at he
 rw[←he]
 refine Qaa rfl rfl (by kernel_rfl) (QuX (k0:=Qaa rfl rfl (by kernel_rfl) (QuK (k0:=?_))))
 rw[List.length_map]
 exact hz
theorem Qd7 {xs:List Dat}{fv:AV}{F:Dat→Bool}(hf:∀x,x∈xs→QaK (cxZ m) (blk (cxZ m)) fv [.v (.agg x.enc)] h=some (.v (.bool (F x)),h))(hl:xs.length<2^62):∀(k i:Nat),i+k=xs.length→
 ∃z:Int,blk (cxZ m) 154 (at_ Tryz.prog 154 2) [.v (.imm (xs.map Dat.enc)),.v fv,.v (.int .i64 (Int.ofNat xs.length)),.v (.int .i64 (Int.ofNat i))] h=some (.v (.int .i64 z),h)∧leZ (Int.ofNat 0) z=(xs.drop i).any F
 |0,i,hi=>by
  rw[List.drop_of_length_le (by omega)]
  exact⟨_,QmX (k0:=Qaf (by rw[ofN,ofN];omega)),rfl⟩
 |k+1,i,hi=>by
  have h1:xs[i]? =some xs[i]:=List.getElem?_eq_getElem (by omega)
  have e1:ixA (.imm (xs.map Dat.enc)) (Int.ofNat i) 10=some (Dat.enc xs[i]):=Qaj (f:=Dat.enc) h1 (Dat.enc_len _)
  have hv:=hf xs[i] (List.getElem_mem _)
  rw[Qag h1,List.any_cons]
  obtain⟨z,hz,he⟩:=Qd7 hf hl k (i+1) (by omega)
  generalize xs[i]=x at e1 hv⊢
  obtain⟨⟨g1,g2,g3,g4,g5,g6,g7,g8,g9⟩,a2⟩:=x
  cases hq:F ⟨.mk g1 g2 g3 g4 g5 g6 g7 g8 g9,a2⟩with
  |true=>
   rw[hq]at hv
   exact⟨_,QmZ (k0:=Qae (by rw[ofN,ofN];omega)) (k1:=e1) (k2:=hv) (k3:=rfl),by rw[Bool.true_or];exact Qbi (by rw[ofN,ofN];omega)⟩
  |false=>
   rw[hq]at hv
   exact⟨z,QmY (k0:=Qae (by rw[ofN,ofN];omega)) (k1:=e1) (k2:=hv) (k3:=rfl) (k4:=by rw[Qas (by omega)];exact hz),by rw[Bool.false_or];exact he⟩
theorem Qwv {xs:List Dat}{fv:AV}{F:Dat→Bool}(hf:∀x,x∈xs→QaK (cxZ m) (blk (cxZ m)) fv [.v (.agg x.enc)] h=some (.v (.bool (F x)),h))(hl:xs.length<2^62):
 Qab (cxZ m) (blk (cxZ m)) 135 [.v (.imm (xs.map Dat.enc)),.v fv] h=some (.v (.bool (xs.any F)),h):=by
 obtain⟨z,hz,he⟩:=Qd7 (m:=m) (h:=h) hf hl xs.length 0 (by omega)
 rw[List.drop_zero]at he
 rw[←he]
 refine Qaa rfl rfl (by kernel_rfl) (QuU (k0:=Qaa rfl rfl (by kernel_rfl) (QuJ (k0:=?_))))
 rw[List.length_map]
 exact hz
end
def Qwr (x:Imp):Bool:=ltZ (Int.ofNat 64) (Int.ofNat x.m.size)||ltZ (Int.ofNat 64) (Int.ofNat x.n.size)
def QxO (x:Exq):Bool:=ltZ (Int.ofNat 64) (Int.ofNat x.n.size)
def QxR (x:Cus):Bool:=ltZ (Int.ofNat 64) (Int.ofNat x.n.size)||ltZ (Int.ofNat 4096) (Int.ofNat x.b.length)
noncomputable def Qw1 (m:Int)(x:Ele):Bool:=ltZ (Int.ofNat 64) (Int.ofNat x.f.length)||!Qom m [x.o]
noncomputable def QxP (m:Int)(x:Dat):Bool:=ltZ (Int.ofNat 4096) (Int.ofNat x.b.length)||!Qom m [x.o]
theorem Qen (l:List Int):(Am.encB l).length=l.length:=by simp[Am.encB]
theorem Qws (x:Imp)(h:Heap):QbM m 129 [.v (.agg x.enc)] h=some (.v (.bool (Qwr x)),h):=by
 unfold Qwr
 cases e:ltZ (Int.ofNat 64) (Int.ofNat x.m.size)with
 |true=>exact Qaa rfl rfl (by kernel_rfl) (Qu3 (k0:=e))
 |false=>exact Qaa rfl rfl (by kernel_rfl) (Qu2 (k0:=e))
theorem QwX (x:Exq)(h:Heap):QbM m 130 [.v (.agg x.enc)] h=some (.v (.bool (QxO x)),h):=Qaa rfl rfl (by kernel_rfl) Qu1
theorem Qw6 (x:Cus)(h:Heap):QbM m 132 [.v (.agg x.enc)] h=some (.v (.bool (QxR x)),h):=by
 unfold QxR
 cases e:ltZ (Int.ofNat 64) (Int.ofNat x.n.size)with
 |true=>exact Qaa rfl rfl (by kernel_rfl) (QuZ (k0:=e))
 |false=>
  rw[Bool.false_or,←Qen]
  exact Qaa rfl rfl (by kernel_rfl) (QuY (k0:=e))
theorem Qw2 {x:Ele}(hx:cL [x.o]<2^62)(h:Heap):QbM m 134 [.v (.agg x.enc)] h=some (.v (.bool (Qw1 m x)),h):=by
 have c:=QfH (m:=m) hx h
 unfold Qw1
 generalize Qom m [x.o]=qc at c⊢
 obtain⟨⟨o,a,b,v,t,l,bd,el,q⟩,f⟩:=x
 cases e:ltZ (Int.ofNat 64) (Int.ofNat f.length)with
 |true=>exact Qaa rfl rfl (by kernel_rfl) (QuW (k0:=by rw[Qac];exact e))
 |false=>exact Qaa rfl rfl (by kernel_rfl) (QuV (k0:=by rw[Qac];exact e) (k1:=c))
theorem Qw4 {x:Dat}(hx:cL [x.o]<2^62)(h:Heap):QbM m 136 [.v (.agg x.enc)] h=some (.v (.bool (QxP m x)),h):=by
 have c:=QfH (m:=m) hx h
 unfold QxP
 generalize Qom m [x.o]=qc at c⊢
 obtain⟨⟨o,a,b,v,t,l,bd,el,q⟩,f⟩:=x
 cases e:ltZ (Int.ofNat 4096) (Int.ofNat f.length)with
 |true=>exact Qaa rfl rfl (by kernel_rfl) (QuT (k0:=by rw[Qen];exact e))
 |false=>exact Qaa rfl rfl (by kernel_rfl) (QuS (k0:=by rw[Qen];exact e) (k1:=c))
structure Bk (M:Mdl):Prop where
 ty:M.ty.length≤1048576
 tl:∀x,x∈M.ty→x.p.length≤1048576∧x.r.length≤1048576
 im:M.im.length≤1048576
 fu:M.fu.length≤1048576
 fl:∀x,x∈M.fu→x.l.length≤1048576∧cL x.b≤1048576
 ta:M.ta.length≤1048576
 me:M.me.length≤1048576
 gl:M.gl.length≤1048576
 gi:∀x,x∈M.gl→cL [x.i]≤1048576
 ex:M.ex.length≤1048576
 el:M.el.length≤1048576
 eo:∀x,x∈M.el→cL [x.o]≤1048576∧x.f.length≤1048576
 da:M.da.length≤1048576
 dl:∀x,x∈M.da→cL [x.o]≤1048576
 cu:M.cu.length≤1048576
def Qg0 (M:Mdl):Bool:=!(M.im.any Qwr)&&(!(M.ex.any QxO)&&!(M.cu.any QxR))
theorem Qvq {M:Mdl}(hM:Bk M)(h:Heap):QbM m 109 [eM M] h=some (.v (.bool (Qg0 M)),h):=by
 have c1:=Qwy (m:=m) (h:=h) (xs:=M.im) (fv:=.fn 129 [] []) (F:=Qwr) (fun x _=>callV_fn.trans (Qws x h)) (by have:=hM.im;omega)
 have c2:=Qwz (m:=m) (h:=h) (xs:=M.ex) (fv:=.fn 130 [] []) (F:=QxO) (fun x _=>callV_fn.trans (QwX x h)) (by have:=hM.ex;omega)
 have c3:=Qwx (m:=m) (h:=h) (xs:=M.cu) (fv:=.fn 132 [] []) (F:=QxR) (fun x _=>callV_fn.trans (Qw6 x h)) (by have:=hM.cu;omega)
 unfold Qg0
 cases q1:M.im.any Qwr with
 |true=>rw[q1]at c1;exact Qaa rfl rfl (by kernel_rfl) (Qvc (k0:=c1) (k1:=rfl))
 |false=>
  rw[q1]at c1
  cases q2:M.ex.any QxO with
  |true=>rw[q2]at c2;exact Qaa rfl rfl (by kernel_rfl) (Qva (k0:=c1) (k1:=rfl) (k2:=c2) (k3:=rfl))
  |false=>rw[q2]at c2;exact Qaa rfl rfl (by kernel_rfl) (Qvb (k0:=c1) (k1:=rfl) (k2:=c2) (k3:=rfl) (k4:=c3))
noncomputable def Qto (m:Int)(M:Mdl):Bool:=!(M.el.any (Qw1 m))&&!(M.da.any (QxP m))
theorem QAx {M:Mdl}(hM:Bk M)(h:Heap):QbM m 110 [eM M] h=some (.v (.bool (Qto m M)),h):=by
 have c1:=Qww (m:=m) (h:=h) (xs:=M.el) (fv:=.fn 134 [] []) (F:=Qw1 m) (fun x hx=>callV_fn.trans (Qw2 (by have:=(hM.eo x hx).1;omega) h)) (by have:=hM.el;omega)
 have c2:=Qwv (m:=m) (h:=h) (xs:=M.da) (fv:=.fn 136 [] []) (F:=QxP m) (fun x hx=>callV_fn.trans (Qw4 (by have:=hM.dl x hx;omega) h)) (by have:=hM.da;omega)
 unfold Qto
 cases q1:M.el.any (Qw1 m)with
 |true=>rw[q1]at c1;exact Qaa rfl rfl (by kernel_rfl) (Qu8 (k0:=c1) (k1:=rfl))
 |false=>rw[q1]at c1;exact Qaa rfl rfl (by kernel_rfl) (Qu9 (k0:=c1) (k1:=rfl) (k2:=c2))
theorem QBj (x y c:Int):leZ (mxZ x y) c=(leZ x c&&leZ y c):=by
 unfold mxZ
 rw[Qcp,Qcp,Qcp]
 by_cases hxy:y>x
 ·rw[decide_eq_true hxy,cond_true]
  by_cases h1:y≤c
  ·rw[decide_eq_true h1,decide_eq_true (show x≤c by omega)];rfl
  ·rw[decide_eq_false h1,Bool.and_false]
 ·rw[decide_eq_false hxy,cond_false]
  by_cases h1:x≤c
  ·rw[decide_eq_true h1,decide_eq_true (show y≤c by omega)];rfl
  ·rw[decide_eq_false h1];rfl
def QeC (n:Nat):Bool:=leZ (n:Int) 64
def QxL (M:Mdl):Bool:=QeC M.ty.length&&(QeC M.im.length&&QeC M.fu.length&&QeC M.ta.length&&QeC M.me.length&&QeC M.gl.length&&QeC M.ex.length&&QeC M.el.length&&QeC M.da.length&&QeC M.cu.length)
theorem QBE (M:Mdl)(h:Heap):QbM m 107 [eM M] h=some (.v (.bool (QxL M)),h):=by
 have e:(QeC M.im.length&&QeC M.fu.length&&QeC M.ta.length&&QeC M.me.length&&QeC M.gl.length&&QeC M.ex.length&&QeC M.el.length&&QeC M.da.length&&QeC M.cu.length)=
  leZ (mxZ (mxZ (mxZ (mxZ (mxZ (mxZ (mxZ (mxZ ((M.im.map Imp.enc).length:Int) ((M.fu.map MFn.enc).length:Int)) ((M.ta.map Lim.enc).length:Int)) ((M.me.map Lim.enc).length:Int)) ((M.gl.map Glo.enc).length:Int)) ((M.ex.map Exq.enc).length:Int)) ((M.el.map Ele.enc).length:Int)) ((M.da.map Dat.enc).length:Int)) ((M.cu.map Cus.enc).length:Int)) 64:=by
  simp only[QBj,List.length_map,QeC]
 unfold QxL
 rw[e]
 cases q:QeC M.ty.length with
 |true=>exact Qaa rfl rfl (by kernel_rfl) (Qvh (k0:=by rw[List.length_map];exact q))
 |false=>exact Qaa rfl rfl (by kernel_rfl) (Qvg (k0:=by rw[List.length_map];exact q))
end
end Go.Proofs.YtoblgjmllmomhaaGreatDoor
namespace Go.Proofs.YtoblgjmllmomhaaGreatDoor
set_option maxRecDepth 100000
open Go Go.RowKit Go.Proofs.Am
section
variable {m:Int} {h:Heap}
abbrev MCx (M:Mdl):List LV:=mC M
def QAq (x:FTy):Bool:=!ltZ (Int.ofNat 64) (Int.ofNat x.p.length)&&!ltZ (Int.ofNat 64) (Int.ofNat x.r.length)
noncomputable def QxC (m:Int)(x:MFn):Bool:=!ltZ (Int.ofNat 64) (Int.ofNat x.l.length)&&Qom m x.b
noncomputable def QvD (m:Int)(x:Glo):Bool:=Qom m [x.i]
noncomputable def Qtm (m:Int)(M:Mdl):Bool:=QxL M&&(M.ty.all QAq&&(M.fu.all (QxC m)&&(M.gl.all (QvD m)&&(Qg0 M&&Qto m M))))
theorem Qvz {M:Mdl}(hM:Bk M):∀(d i:Nat),i+d=M.gl.length→
 blk (cxZ m) 62 (at_ Tryz.prog 62 16) ([.lp 0 0,.v (.imm (M.gl.map Glo.enc)),.v (.int .i64 (Int.ofNat M.gl.length)),.v (.int .i64 (Int.ofNat i))]++mC M) h=some (.v (.bool ((M.gl.drop i).all (QvD m)&&(Qg0 M&&Qto m M))),h)
 |0,i,hi=>by
  rw[List.drop_of_length_le (by omega),List.all_nil,Bool.true_and]
  have c1:=Qvq (m:=m) hM h
  have c2:=QAx (m:=m) hM h
  cases q1:Qg0 M with
  |true=>rw[q1]at c1;exact QmI (k0:=Qaf (by rw[ofN,ofN];omega)) (k1:=c1) (k2:=rfl) (k3:=c2)
  |false=>rw[q1]at c1;exact QmH (k0:=Qaf (by rw[ofN,ofN];omega)) (k1:=c1) (k2:=rfl)
 |d+1,i,hi=>by
  have hx:M.gl[i]? =some M.gl[i]:=List.getElem?_eq_getElem (by omega)
  have hm:=hM.gi M.gl[i] (List.getElem_mem _)
  have hgl:=hM.gl
  have k0:ltZ (Int.ofNat i) (Int.ofNat M.gl.length)=true:=Qae (by rw[ofN,ofN];omega)
  have ih:=Qvz hM d (i+1) (by omega)
  rw[Qag hx,List.all_cons]
  generalize M.gl[i]=x at hx hm⊢
  have k1:ixA (.imm (M.gl.map Glo.enc)) (Int.ofNat i) 11=some x.enc:=Qaj hx x.enc_len
  have c:=QfH (m:=m) (xs:=[x.i]) (by omega) h
  unfold QvD at*
  cases q:Qom m [x.i]with
  |false=>
   rw[q]at c
   obtain⟨t,mu,⟨o,a,b,v,tt,l,bd,el,qq⟩⟩:=x
   exact QmK (k0:=k0) (k1:=k1) (k2:=c) (k3:=rfl)
  |true=>
   rw[q]at c
   obtain⟨t,mu,⟨o,a,b,v,tt,l,bd,el,qq⟩⟩:=x
   rw[Bool.true_and]
   exact QmJ (k0:=k0) (k1:=k1) (k2:=c) (k3:=rfl) (k4:=by rw[Qas (by omega)];exact ih)
theorem QvA {M:Mdl}(hM:Bk M):∀(d i:Nat),i+d=M.fu.length→
 blk (cxZ m) 62 (at_ Tryz.prog 62 10) ([.lp 0 0,.v (.imm (M.fu.map MFn.enc)),.v (.int .i64 (Int.ofNat M.fu.length)),.v (.int .i64 (Int.ofNat i))]++mC M) h=some (.v (.bool ((M.fu.drop i).all (QxC m)&&(M.gl.all (QvD m)&&(Qg0 M&&Qto m M)))),h)
 |0,i,hi=>by
  rw[List.drop_of_length_le (by omega),List.all_nil,Bool.true_and]
  have:=Qvz (m:=m) (h:=h) hM M.gl.length 0 (by omega)
  exact QmL (k0:=Qaf (by rw[ofN,ofN];omega)) (k1:=by rw[List.length_map];exact this)
 |d+1,i,hi=>by
  have hx:M.fu[i]? =some M.fu[i]:=List.getElem?_eq_getElem (by omega)
  have hm:=hM.fl M.fu[i] (List.getElem_mem _)
  have hgl:=hM.fu
  have k0:ltZ (Int.ofNat i) (Int.ofNat M.fu.length)=true:=Qae (by rw[ofN,ofN];omega)
  have ih:=QvA hM d (i+1) (by omega)
  rw[Qag hx,List.all_cons]
  generalize M.fu[i]=x at hx hm⊢
  have k1:ixA (.imm (M.fu.map MFn.enc)) (Int.ofNat i) 3=some x.enc:=Qaj hx x.enc_len
  have c:=QfH (m:=m) (xs:=x.b) (by omega) h
  unfold QxC at*
  cases e:ltZ (Int.ofNat 64) (Int.ofNat x.l.length)with
  |true=>exact QmO (k0:=k0) (k1:=k1) (k2:=by rw[Qac];exact e)
  |false=>
   rw[Bool.not_false,Bool.true_and]
   cases q:Qom m x.b with
   |false=>
    rw[q]at c
    exact QmN (k0:=k0) (k1:=k1) (k2:=by rw[Qac];exact e) (k3:=c) (k4:=rfl)
   |true=>
    rw[q]at c
    rw[Bool.true_and]
    exact QmM (k0:=k0) (k1:=k1) (k2:=by rw[Qac];exact e) (k3:=c) (k4:=rfl) (k5:=by rw[Qas (by omega)];exact ih)
theorem QCk {M:Mdl}(hM:Bk M):∀(d i:Nat),i+d=M.ty.length→
 blk (cxZ m) 62 (at_ Tryz.prog 62 4) ([.lp 0 0,.v (.imm (M.ty.map FTy.enc)),.v (.int .i64 (Int.ofNat M.ty.length)),.v (.int .i64 (Int.ofNat i))]++mC M) h=some (.v (.bool ((M.ty.drop i).all QAq&&(M.fu.all (QxC m)&&(M.gl.all (QvD m)&&(Qg0 M&&Qto m M))))),h)
 |0,i,hi=>by
  rw[List.drop_of_length_le (by omega),List.all_nil,Bool.true_and]
  have:=QvA (m:=m) (h:=h) hM M.fu.length 0 (by omega)
  exact Qqi (k0:=Qaf (by rw[ofN,ofN];omega)) (k1:=by rw[List.length_map];exact this)
 |d+1,i,hi=>by
  have hx:M.ty[i]? =some M.ty[i]:=List.getElem?_eq_getElem (by omega)
  have hgl:=hM.ty
  have k0:ltZ (Int.ofNat i) (Int.ofNat M.ty.length)=true:=Qae (by rw[ofN,ofN];omega)
  have ih:=QCk hM d (i+1) (by omega)
  rw[Qag hx,List.all_cons]
  generalize M.ty[i]=x at hx⊢
  have k1:ixA (.imm (M.ty.map FTy.enc)) (Int.ofNat i) 2=some x.enc:=Qaj hx x.enc_len
  unfold QAq at*
  cases e:ltZ (Int.ofNat 64) (Int.ofNat x.p.length)with
  |true=>exact Qql (k0:=k0) (k1:=k1) (k2:=by rw[Qac];exact e)
  |false=>
   cases e2:ltZ (Int.ofNat 64) (Int.ofNat x.r.length)with
   |true=>exact Qqk (k0:=k0) (k1:=k1) (k2:=by rw[Qac];exact e) (k3:=by rw[Qac];exact e2)
   |false=>
    simp only[Bool.not_false,Bool.true_and]
    exact Qqj (k0:=k0) (k1:=k1) (k2:=by rw[Qac];exact e) (k3:=by rw[Qac];exact e2) (k4:=by rw[Qas (by omega)];exact ih)
theorem QAt {M:Mdl}(hM:Bk M)(h:Heap):Qab (cxZ m) (blk (cxZ m)) 62 [eM M] h=some (.v (.bool (Qtm m M)),h):=by
 have c:=QBE (m:=m) M h
 unfold Qtm
 cases q:QxL M with
 |false=>rw[q]at c;exact Qaa rfl rfl (by kernel_rfl) (Qz1 (k0:=c) (k1:=rfl))
 |true=>
  rw[q]at c
  have:=QCk (m:=m) (h:=h) hM M.ty.length 0 (by omega)
  exact Qaa rfl rfl (by kernel_rfl) (Qz0 (k0:=c) (k1:=rfl) (k2:=by rw[List.length_map];exact this))
end
end Go.Proofs.YtoblgjmllmomhaaGreatDoor
namespace Go.Proofs.YtoblgjmllmomhaaGreatDoor
open Go Go.RowKit Go.Proofs.Am
theorem Qoc {A:Type}{f:A→List AV}{n:Nat}(hf:∀x,(f x).length=n):∀l:List A,QbW n (l.map f)=true
 |[]=>rfl
 |x::l=>by
  show Nat.beq (f x).length n=true
  rw[hf]
  exact Nat.beq_refl n
theorem Qe5 {A:Type}{f:A→List AV}{n b:Nat}(hf:∀x,(f x).length=n){l:List A}(h:l.length*b≤reachBytes)(hb:0<b):apL (.ow n []) n b (l.map f)=some (.ow n (l.map f)):=by
 rw[Qbh]at h
 rw[Qbn (Qoc hf l) (by rw[List.length_nil,Nat.zero_add,List.length_map];omega) hb,List.nil_append]
theorem Qev {l:List Int}(h:FitL 8 InZ l):apL (.ow 1 []) 1 8 (Qah l)=some (.ow 1 (Qah l)):=Qe5 (f:=fun z=>[AV.int .i64 z]) (fun _=>rfl) h.1 (by decide)
theorem QiH {l:List Int}(h:FitL 1 InB l):apL (.ow 1 []) 1 1 (Am.encB l)=some (.ow 1 (Am.encB l)):=Qe5 (f:=fun z=>[AV.int .u8 z]) (fun _=>rfl) h.1 (by decide)
theorem QcC {A:Type}{f:A→List AV}{n b:Nat}{out:List A}{x:A}(hf:(f x).length=n)(h:(out.length+1)*b≤140737488355328)(hb:0<b):apL (.ow n (out.map f)) n b [f x]=some (.ow n ((out++[x]).map f)):=by
 rw[Qbn (QcA hf) (by rw[List.length_map];exact h) hb,List.map_append]
 rfl
theorem Qo3 (m:Int)(xs:List Ins)(hl:xs.length*120≤reachBytes)
 (hC:∀o a b v t l bd el q,Ins.mk o a b v t l bd el q∈xs→(∀h,QbM m 35 [.v (.imm (Qam bd))] h=some (.v (.imm (Qam bd)),h))∧(∀h,QbM m 35 [.v (.imm (Qam el))] h=some (.v (.imm (Qam el)),h))∧FitL 8 InZ l)(h:Heap):
 ∀(d i:Nat),i+d=xs.length→∀out:List Ins,out.length=i→
 blk (cxZ m) 35 (at_ Tryz.prog 35 3) [.v (.imm (Qam xs)),.ow 9 (Qam out),.v (.int .i64 (Int.ofNat i))] h=some (.v (.imm (Qam (out++xs.drop i))),h)
 |0,i,hd,out,ho=>by
  obtain rfl:i=xs.length:=by omega
  rw[List.drop_length,List.append_nil]
  exact Qrc (k0:=Qaf (by rw[QaW];exact Int.le_refl _)) ..
 |d+1,i,hd,out,ho=>by
  have hi:i<xs.length:=by omega
  have hx:xs[i]? =some xs[i]:=List.getElem?_eq_getElem hi
  have hm:xs[i]∈xs:=List.getElem_mem hi
  generalize xs[i]=x at hx hm
  rw[Qbh]at hl
  have k0:ltZ (Int.ofNat i) (Int.ofNat (Qam xs).length)=true:=Qae (by rw[QaW,ofN,ofN];omega)
  have k1:ixA (.imm (Qam xs)) (Int.ofNat i) 9=some (Qbx x):=by rw[QaN];exact Qaj (f:=Qbx) hx (Qbe _)
  have k5:apL (.ow 9 (Qam out)) 9 120 [Qbx x]=some (.ow 9 (Qam (out++[x]))):=by
   rw[QaN,QaN]
   exact QcC (Qbe x) (by omega) (by decide)
  rw[Qag hx]
  have ih:=Qo3 m xs hl hC h d (i+1) (by omega) (out++[x]) (by simp;omega)
  rw[QaJ]at ih
  obtain⟨o,a,b,v,t,l,bd,el,q⟩:=x
  obtain⟨h1,h2,h3⟩:=hC _ _ _ _ _ _ _ _ _ hm
  refine Qrd (k0:=k0) (k1:=k1) (k2:=Qev h3) (k3:=h1 h) (k4:=h2 h) (k5:=k5) (k6:=?_) ..
  rw[Qas (by omega)]
  exact ih
theorem QjM (m:Int)(l:List Ins)(hl:l.length*120≤reachBytes)
 (hC:∀o a b v t ll bd el q,Ins.mk o a b v t ll bd el q∈l→(∀h,QbM m 35 [.v (.imm (Qam bd))] h=some (.v (.imm (Qam bd)),h))∧(∀h,QbM m 35 [.v (.imm (Qam el))] h=some (.v (.imm (Qam el)),h))∧FitL 8 InZ ll)(h:Heap):
 QbM m 35 [.v (.imm (Qam l))] h=some (.v (.imm (Qam l)),h):=by
 have:=Qo3 m l hl hC h l.length 0 (by omega) [] rfl
 rw[List.drop_zero,List.nil_append]at this
 exact Qcb rfl (by kernel_rfl) (by kernel_rfl) (QAA (k0:=this) ..)
theorem QqW (m:Int){x:Ins}(hx:FitZ x):∀o a b v t l bd el q,x=Ins.mk o a b v t l bd el q→(∀h,QbM m 35 [.v (.imm (Qam bd))] h=some (.v (.imm (Qam bd)),h))∧(∀h,QbM m 35 [.v (.imm (Qam el))] h=some (.v (.imm (Qam el)),h))∧FitL 8 InZ l:=by
 induction hx with
 |mk o a b v t l bd el q ho ha hb hv ht hl hbd hel h1 h2 i1 i2=>
  intro o' a' b' v' t' l' bd' el' q' e
  cases e
  exact⟨QjM m bd hbd fun o a b v t ll bd el q hm=>i1 _ hm o a b v t ll bd el q rfl,QjM m el hel fun o a b v t ll bd el q hm=>i2 _ hm o a b v t ll bd el q rfl,hl⟩
theorem t29 (m:Int)(l:List Ins)(hl:FitL 120 FitZ l)(h:Heap):QbM m 35 [.v (.imm (Qam l))] h=some (.v (.imm (Qam l)),h):=
 QjM m l hl.1 (fun o a b v t ll bd el q hm=>QqW m (hl.2 _ hm) o a b v t ll bd el q rfl) h
theorem Qg3 (m:Int){x:Ins}(hx:FitZ x)(h:Heap):QbM m 35 [.v (.imm [Qbx x])] h=some (.v (.imm [Qbx x]),h):=
 t29 m [x] ⟨Nat.le_of_ble_eq_true (show Nat.ble (1*120) reachBytes=true from rfl),fun y hy=>by rw[List.mem_singleton]at hy;rw[hy];exact hx⟩ h
end Go.Proofs.YtoblgjmllmomhaaGreatDoor
namespace Go.Proofs.YtoblgjmllmomhaaGreatDoor
open Go Go.RowKit Go.Proofs.Am
theorem nq (z:Int):(!eqZ z z)=false:=by rw[QaC rfl];rfl
theorem Qvu (m:Int)(l:List Int)(hl:l.length<9223372036854775807)(h:Heap):QbM m 40 [.v (.imm (Qah l)),.v (.imm (Qah l))] h=some (.v (.bool true),h):=
 Qcb rfl (by kernel_rfl) (by kernel_rfl) (Qya (k0:=nq _) (k1:=Qo6 m l hl h l.length 0 (by omega)) ..)
def SI (m:Int)(l:List Ins):Prop:=∀h,QbM m 41 [.v (.imm (Qam l)),.v (.imm (Qam l))] h=some (.v (.bool true),h)
theorem Qky (m:Int)(l:List Ins)(hl:l.length<9223372036854775807)(hc:∀o a b v t ll bd el q,Ins.mk o a b v t ll bd el q∈l→ll.length<9223372036854775807∧SI m bd∧SI m el)(h:Heap):∀(d i:Nat),i+d=l.length→
 blk (cxZ m) 41 (at_ Tryz.prog 41 4) [.v (.imm (Qam l)),.v (.imm (Qam l)),.v (.int .i64 (Int.ofNat i))] h=some (.v (.bool true),h)
 |0,i,hd=>QpI (k0:=Qaf (by rw[QaW,ofN,ofN];omega)) ..
 |d+1,i,hd=>by
  have hlt:i<l.length:=by omega
  have hm:l[i]∈l:=List.getElem_mem hlt
  have k1:=Qo9 hlt
  have hw:=Qas (n:=i) (by omega)
  have ih:=Qky m l hl hc h d (i+1) (by omega)
  generalize l[i]=x at hm k1
  obtain⟨o,a,b,v,t,ll,bd,el,q⟩:=x
  obtain⟨h1,h2,h3⟩:=hc _ _ _ _ _ _ _ _ _ hm
  exact QpJ (k0:=Qae (by rw[QaW,ofN,ofN];omega)) (k1:=k1) (k2:=k1) (k3:=nq _) (k4:=nq _) (k5:=nq _) (k6:=nq _) (k7:=nq _) (k8:=by simp) (k9:=Qvu m ll h1 h) (k10:=rfl) (k11:=h2 h) (k12:=rfl) (k13:=h3 h) (k14:=rfl) (k15:=by rw[hw];exact ih) ..
theorem Qq5 (m:Int)(l:List Ins)(hl:l.length<9223372036854775807)(hc:∀o a b v t ll bd el q,Ins.mk o a b v t ll bd el q∈l→ll.length<9223372036854775807∧SI m bd∧SI m el):SI m l:=fun h=>
 Qcb rfl (by kernel_rfl) (by kernel_rfl) (Qx9 (k0:=nq _) (k1:=Qky m l hl hc h l.length 0 (by omega)) ..)
theorem QvC (m:Int){x:Ins}(hx:FitZ x):∀o a b v t ll bd el q,x=Ins.mk o a b v t ll bd el q→ll.length<9223372036854775807∧SI m bd∧SI m el:=by
 induction hx with
 |mk op a b v t l bd el q ho ha hb hv ht hl hbd hel h1 h2 i1 i2=>
  intro o' a' b' v' t' l' bd' el' q' e
  cases e
  exact⟨hl.lt (by decide),Qq5 m bd (FitL.lt (n:=120) (F:=FitZ) ⟨hbd,h1⟩ (by decide)) fun o a b v t ll bd el q hm=>i1 _ hm o a b v t ll bd el q rfl,
   Qq5 m el (FitL.lt (n:=120) (F:=FitZ) ⟨hel,h2⟩ (by decide)) fun o a b v t ll bd el q hm=>i2 _ hm o a b v t ll bd el q rfl⟩
theorem QCh (m:Int){l:List Ins}(hl:FitL 120 FitZ l):SI m l:=
 Qq5 m l (hl.lt (by decide)) fun o a b v t ll bd el q hm=>QvC m (hl.2 _ hm) o a b v t ll bd el q rfl
theorem QqV (m:Int){x:Ins}(hx:FitZ x):SI m [x]:=
 QCh m ⟨Nat.le_of_ble_eq_true (show Nat.ble (1*120) reachBytes=true from rfl),fun y hy=>by rw[List.mem_singleton]at hy;rw[hy];exact hx⟩
theorem QiA:∀l:List Int,(∀x,x∈l→InB x)→∃r,bytesOf (Am.encB l)=some r
 |[],_=>⟨[],rfl⟩
 |x::l,h=>by
  obtain⟨r,hr⟩:=QiA l fun y hy=>h y (List.mem_cons_of_mem _ hy)
  have hx:=h x List.mem_cons_self
  have hr:bytesOf (l.map fun x=>[AV.int .u8 x])=some r:=hr
  exact⟨_,by simp only[Am.encB,List.map_cons,bytesOf,decide_eq_true hx.1,decide_eq_true hx.2,Bool.and_self,cond_true,hr,Option.bind_some];rfl⟩
theorem Qiw (m:Int){l:List Int}(hl:FitL 1 InB l):∃s,cvA (Cx.P (cxZ m)) 80 9 (.imm (Am.encB l))=some (.v (.str s)):=by
 obtain⟨r,hr⟩:=QiA l hl.2
 have hb:(Cx.P (cxZ m)).underlying 5=some (.int .u8):=Tryz.underlying5
 refine⟨⟨r.toArray⟩,?_⟩
 unfold cvA
 rw[show(Cx.P (cxZ m)).underlying 80=some (.slice 5)from Tryz.underlying80,show(Cx.P (cxZ m)).underlying 9=some .string from Tryz.underlying9]
 simp only[Option.bind_some,hb,hr]
end Go.Proofs.YtoblgjmllmomhaaGreatDoor
