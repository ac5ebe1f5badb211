/-
  ValidStays, as the machine answers it: the whole.
-/
import Derived.Test.YtoblgjmllmomhaaGreatDoorAmEq
import Derived.Test.YtoblgjmllmomhaaGreatDoorAmPYd
import Derived.Test.YtoblgjmllmomhaaGreatDoorAmPYwC
import Derived.Test.YtoblgjmllmomhaaGreatDoorAmPYHwG
import Derived.Test.YtoblgjmllmomhaaGreatDoorAmExtH
import Derived.Test.YtoblgjmllmomhaaGreatDoorAmPYU
import Derived.Test.YtoblgjmllmomhaaGreatDoorAmPYHwF
import Derived.KernelRfl
namespace Go.Proofs.YtoblgjmllmomhaaGreatDoor
open Go Go.RowKit Go.Proofs.Am
abbrev mCs (M:Mdl):List LV:=[.v (.imm (M.ty.map FTy.enc)),.v (.imm (M.im.map Imp.enc)),.v (.imm (M.fu.map MFn.enc)),.v (.imm (M.ta.map Lim.enc)),.v (.imm (M.me.map Lim.enc)),.v (.imm (M.gl.map Glo.enc)),.v (.imm (M.ex.map Exq.enc)),.v (.int .i64 M.st),.v (.imm (M.el.map Ele.enc)),.v (.imm (M.da.map Dat.enc)),.v (.imm (M.cu.map Cus.enc))]
abbrev Ql4 (M:Mdl)(i:Nat):List LV:=[.lp 0 0,.lp 1 0,.v (.bool true),.v (.int .i64 (Int.ofNat i))]++(mCs M++mCs M)
theorem Qcr {m:Int}{r:Nat}{M:Mdl}{i:Nat}{h:Heap}{q:Bool}(hq:q=true){x:LV×Heap}(hx:blk (cxZ m) 18 (at_ Tryz.prog 18 r) (Ql4 M i) h=some x):
 blk (cxZ m) 18 (at_ Tryz.prog 18 r) ([.lp 0 0,.lp 1 0,.v (.bool q),.v (.int .i64 (Int.ofNat i))]++(mCs M++mCs M)) h=some x:=by rw[hq];exact hx
theorem QvN (m:Int){M:Mdl}(hM:M.Fit)(h:Heap):∀(d i:Nat),i+d=M.cu.length→blk (cxZ m) 18 (at_ Tryz.prog 18 41) (Ql4 M i) h=some (.v (.bool true),h)
 |0,i,hd=>Qmg (k0:=Qaf (by rw[List.length_map,ofN,ofN];omega)) ..
 |d+1,i,hd=>by
  have hlt:i<M.cu.length:=by omega
  have hx:M.cu[i]? =some M.cu[i]:=List.getElem?_eq_getElem hlt
  generalize M.cu[i]=x at hx
  have hb:=hM.2.2.2.2.2.2.2.2.2.2.1
  have hf:=hM.2.2.2.2.2.2.2.2.2.2.2 x (List.mem_of_getElem? hx)
  have hr:reachBytes=140737488351232:=rfl
  have k0:ltZ (Int.ofNat i) (Int.ofNat (M.cu.map Cus.enc).length)=true:=Qae (by rw[List.length_map,ofN,ofN];omega)
  have k1:ixA (.imm (M.cu.map Cus.enc)) (Int.ofNat i) 2=some x.enc:=Qaj hx x.enc_len
  have hw:=Qas (n:=i) (by omega)
  have ih:=QvN m hM h d (i+1) (by omega)
  obtain⟨s,hs⟩:=Qiw m hf.2
  exact Qmh (k0:=k0) (k1:=k1) (k2:=k1) (k3:=by simp) (k4:=k1) (k5:=hs) (k6:=k1) (k7:=hs) (k8:=by rw[hw];exact Qcr (by simp) ih) ..
theorem QvO (m:Int){M:Mdl}(hM:M.Fit)(h:Heap):∀(d i:Nat),i+d=M.da.length→blk (cxZ m) 18 (at_ Tryz.prog 18 37) (Ql4 M i) h=some (.v (.bool true),h)
 |0,i,hd=>Qmi (k0:=Qaf (by rw[List.length_map,ofN,ofN];omega)) (k1:=QvN m hM h M.cu.length 0 (by omega)) ..
 |d+1,i,hd=>by
  have hlt:i<M.da.length:=by omega
  have hx:M.da[i]? =some M.da[i]:=List.getElem?_eq_getElem hlt
  generalize M.da[i]=x at hx
  have hb:=hM.2.2.2.2.2.2.2.2.2.1.1
  have hf:=hM.2.2.2.2.2.2.2.2.2.1.2 x (List.mem_of_getElem? hx)
  have hr:reachBytes=140737488351232:=rfl
  have k0:ltZ (Int.ofNat i) (Int.ofNat (M.da.map Dat.enc).length)=true:=Qae (by rw[List.length_map,ofN,ofN];omega)
  have k1:ixA (.imm (M.da.map Dat.enc)) (Int.ofNat i) 10=some x.enc:=Qaj hx x.enc_len
  have hw:=Qas (n:=i) (by omega)
  have ih:=QvO m hM h d (i+1) (by omega)
  have c25:=Qfm m x.o h
  have c43:=QqV m hf.1 h
  obtain⟨s,hs⟩:=Qiw m hf.2
  obtain⟨⟨o,a,b,v,tt,l,bd,el,qq⟩,bs⟩:=x
  exact Qmj (k0:=k0) (k1:=k1) (k2:=c25) (k3:=k1) (k4:=c25) (k5:=c43) (k6:=rfl) (k7:=k1) (k8:=hs) (k9:=k1) (k10:=hs) (k11:=by rw[hw];exact Qcr (by simp) ih) ..
theorem QvP (m:Int){M:Mdl}(hM:M.Fit)(h:Heap):∀(d i:Nat),i+d=M.el.length→blk (cxZ m) 18 (at_ Tryz.prog 18 33) (Ql4 M i) h=some (.v (.bool true),h)
 |0,i,hd=>Qmk (k0:=Qaf (by rw[List.length_map,ofN,ofN];omega)) (k1:=QvO m hM h M.da.length 0 (by omega)) ..
 |d+1,i,hd=>by
  have hlt:i<M.el.length:=by omega
  have hx:M.el[i]? =some M.el[i]:=List.getElem?_eq_getElem hlt
  generalize M.el[i]=x at hx
  have hb:=hM.2.2.2.2.2.2.2.2.1.1
  have hf:=hM.2.2.2.2.2.2.2.2.1.2 x (List.mem_of_getElem? hx)
  have hr:reachBytes=140737488351232:=rfl
  have k0:ltZ (Int.ofNat i) (Int.ofNat (M.el.map Ele.enc).length)=true:=Qae (by rw[List.length_map,ofN,ofN];omega)
  have k1:ixA (.imm (M.el.map Ele.enc)) (Int.ofNat i) 10=some x.enc:=Qaj hx x.enc_len
  have hw:=Qas (n:=i) (by omega)
  have ih:=QvP m hM h d (i+1) (by omega)
  have c25:=Qfm m x.o h
  have c43:=QqV m hf.1 h
  have c42:=Qvu m x.f (hf.2.lt (by decide)) h
  obtain⟨⟨o,a,b,v,tt,l,bd,el,qq⟩,fs⟩:=x
  exact Qml (k0:=k0) (k1:=k1) (k2:=c25) (k3:=k1) (k4:=c25) (k5:=c43) (k6:=rfl) (k7:=k1) (k8:=k1) (k9:=c42) (k10:=by rw[hw];exact Qcr (by simp) ih) ..
theorem QvQ (m:Int){M:Mdl}(hM:M.Fit)(h:Heap):∀(d i:Nat),i+d=M.ex.length→blk (cxZ m) 18 (at_ Tryz.prog 18 29) (Ql4 M i) h=some (.v (.bool true),h)
 |0,i,hd=>Qmm (k0:=Qaf (by rw[List.length_map,ofN,ofN];omega)) (k1:=QvP m hM h M.el.length 0 (by omega)) ..
 |d+1,i,hd=>by
  have hlt:i<M.ex.length:=by omega
  have hx:M.ex[i]? =some M.ex[i]:=List.getElem?_eq_getElem hlt
  generalize M.ex[i]=x at hx
  have hb:=hM.2.2.2.2.2.2.1.1
  have hf:=hM.2.2.2.2.2.2.1.2 x (List.mem_of_getElem? hx)
  have hr:reachBytes=140737488351232:=rfl
  have k0:ltZ (Int.ofNat i) (Int.ofNat (M.ex.map Exq.enc).length)=true:=Qae (by rw[List.length_map,ofN,ofN];omega)
  have k1:ixA (.imm (M.ex.map Exq.enc)) (Int.ofNat i) 3=some x.enc:=Qaj hx x.enc_len
  have hw:=Qas (n:=i) (by omega)
  have ih:=QvQ m hM h d (i+1) (by omega)
  exact Qmn (k0:=k0) (k1:=k1) (k2:=k1) (k3:=by rw[hw];exact Qcr (by simp[QlT]) ih) ..
theorem QvR (m:Int){M:Mdl}(hM:M.Fit)(h:Heap):∀(d i:Nat),i+d=M.gl.length→blk (cxZ m) 18 (at_ Tryz.prog 18 25) (Ql4 M i) h=some (.v (.bool true),h)
 |0,i,hd=>Qmo (k0:=Qaf (by rw[List.length_map,ofN,ofN];omega)) (k1:=QvQ m hM h M.ex.length 0 (by omega)) ..
 |d+1,i,hd=>by
  have hlt:i<M.gl.length:=by omega
  have hx:M.gl[i]? =some M.gl[i]:=List.getElem?_eq_getElem hlt
  generalize M.gl[i]=x at hx
  have hb:=hM.2.2.2.2.2.1.1
  have hf:=hM.2.2.2.2.2.1.2 x (List.mem_of_getElem? hx)
  have hr:reachBytes=140737488351232:=rfl
  have k0:ltZ (Int.ofNat i) (Int.ofNat (M.gl.map Glo.enc).length)=true:=Qae (by rw[List.length_map,ofN,ofN];omega)
  have k1:ixA (.imm (M.gl.map Glo.enc)) (Int.ofNat i) 11=some x.enc:=Qaj hx x.enc_len
  have hw:=Qas (n:=i) (by omega)
  have ih:=QvR m hM h d (i+1) (by omega)
  have c25:=Qfm m x.i h
  have c43:=QqV m hf.2 h
  obtain⟨t,q,⟨o,a,b,v,tt,l,bd,el,qq⟩⟩:=x
  exact Qmp (k0:=k0) (k1:=k1) (k2:=k1) (k3:=QaC rfl) (k4:=k1) (k5:=k1) (k6:=by simp) (k7:=k1) (k8:=c25) (k9:=k1) (k10:=c25) (k11:=c43) (k12:=by rw[hw];exact Qcr (by simp) ih) ..
theorem QvS (m:Int){M:Mdl}(hM:M.Fit)(h:Heap):∀(d i:Nat),i+d=M.me.length→blk (cxZ m) 18 (at_ Tryz.prog 18 21) (Ql4 M i) h=some (.v (.bool true),h)
 |0,i,hd=>Qmq (k0:=Qaf (by rw[List.length_map,ofN,ofN];omega)) (k1:=QvR m hM h M.gl.length 0 (by omega)) ..
 |d+1,i,hd=>by
  have hlt:i<M.me.length:=by omega
  have hx:M.me[i]? =some M.me[i]:=List.getElem?_eq_getElem hlt
  generalize M.me[i]=x at hx
  have hb:=hM.2.2.2.2.1.1
  have hf:=hM.2.2.2.2.1.2 x (List.mem_of_getElem? hx)
  have hr:reachBytes=140737488351232:=rfl
  have k0:ltZ (Int.ofNat i) (Int.ofNat (M.me.map Lim.enc).length)=true:=Qae (by rw[List.length_map,ofN,ofN];omega)
  have k1:ixA (.imm (M.me.map Lim.enc)) (Int.ofNat i) 3=some x.enc:=Qaj hx x.enc_len
  have hw:=Qas (n:=i) (by omega)
  have ih:=QvS m hM h d (i+1) (by omega)
  exact Qmr (k0:=k0) (k1:=k1) (k2:=k1) (k3:=by rw[hw];exact Qcr (by simp) ih) ..
theorem QvT (m:Int){M:Mdl}(hM:M.Fit)(h:Heap):∀(d i:Nat),i+d=M.ta.length→blk (cxZ m) 18 (at_ Tryz.prog 18 17) (Ql4 M i) h=some (.v (.bool true),h)
 |0,i,hd=>Qms (k0:=Qaf (by rw[List.length_map,ofN,ofN];omega)) (k1:=QvS m hM h M.me.length 0 (by omega)) ..
 |d+1,i,hd=>by
  have hlt:i<M.ta.length:=by omega
  have hx:M.ta[i]? =some M.ta[i]:=List.getElem?_eq_getElem hlt
  generalize M.ta[i]=x at hx
  have hb:=hM.2.2.2.1.1
  have hf:=hM.2.2.2.1.2 x (List.mem_of_getElem? hx)
  have hr:reachBytes=140737488351232:=rfl
  have k0:ltZ (Int.ofNat i) (Int.ofNat (M.ta.map Lim.enc).length)=true:=Qae (by rw[List.length_map,ofN,ofN];omega)
  have k1:ixA (.imm (M.ta.map Lim.enc)) (Int.ofNat i) 3=some x.enc:=Qaj hx x.enc_len
  have hw:=Qas (n:=i) (by omega)
  have ih:=QvT m hM h d (i+1) (by omega)
  exact Qmt (k0:=k0) (k1:=k1) (k2:=k1) (k3:=by rw[hw];exact Qcr (by simp) ih) ..
theorem QvU (m:Int){M:Mdl}(hM:M.Fit)(h:Heap):∀(d i:Nat),i+d=M.fu.length→blk (cxZ m) 18 (at_ Tryz.prog 18 13) (Ql4 M i) h=some (.v (.bool true),h)
 |0,i,hd=>Qmu (k0:=Qaf (by rw[List.length_map,ofN,ofN];omega)) (k1:=QvT m hM h M.ta.length 0 (by omega)) ..
 |d+1,i,hd=>by
  have hlt:i<M.fu.length:=by omega
  have hx:M.fu[i]? =some M.fu[i]:=List.getElem?_eq_getElem hlt
  generalize M.fu[i]=x at hx
  have hb:=hM.2.2.1.1
  have hf:=hM.2.2.1.2 x (List.mem_of_getElem? hx)
  have hr:reachBytes=140737488351232:=rfl
  have k0:ltZ (Int.ofNat i) (Int.ofNat (M.fu.map MFn.enc).length)=true:=Qae (by rw[List.length_map,ofN,ofN];omega)
  have k1:ixA (.imm (M.fu.map MFn.enc)) (Int.ofNat i) 3=some x.enc:=Qaj hx x.enc_len
  have hw:=Qas (n:=i) (by omega)
  have ih:=QvU m hM h d (i+1) (by omega)
  exact Qmv (k0:=k0) (k1:=k1) (k2:=k1) (k3:=QaC rfl) (k4:=k1) (k5:=k1) (k6:=Qvu m x.l (hf.2.1.lt (by decide)) h) (k7:=rfl) (k8:=k1) (k9:=k1) (k10:=QCh m hf.2.2 h) (k11:=by rw[hw];exact ih) ..
theorem QCo (m:Int){M:Mdl}(hM:M.Fit)(h:Heap):∀(d i:Nat),i+d=M.im.length→blk (cxZ m) 18 (at_ Tryz.prog 18 9) (Ql4 M i) h=some (.v (.bool true),h)
 |0,i,hd=>QpK (k0:=Qaf (by rw[List.length_map,ofN,ofN];omega)) (k1:=QvU m hM h M.fu.length 0 (by omega)) ..
 |d+1,i,hd=>by
  have hlt:i<M.im.length:=by omega
  have hx:M.im[i]? =some M.im[i]:=List.getElem?_eq_getElem hlt
  generalize M.im[i]=x at hx
  have hb:=hM.2.1.1
  have hf:=hM.2.1.2 x (List.mem_of_getElem? hx)
  have hr:reachBytes=140737488351232:=rfl
  have k0:ltZ (Int.ofNat i) (Int.ofNat (M.im.map Imp.enc).length)=true:=Qae (by rw[List.length_map,ofN,ofN];omega)
  have k1:ixA (.imm (M.im.map Imp.enc)) (Int.ofNat i) 8=some x.enc:=Qaj hx x.enc_len
  have hw:=Qas (n:=i) (by omega)
  have ih:=QCo m hM h d (i+1) (by omega)
  obtain⟨a1,a2,a3,a4,a5,⟨a6,a7,a8⟩⟩:=x
  exact QpL (k0:=k0) (k1:=k1) (k2:=k1) (k3:=by rw[hw];exact Qcr (by simp[QlT]) ih) ..
theorem QCp (m:Int){M:Mdl}(hM:M.Fit)(h:Heap):∀(d i:Nat),i+d=M.ty.length→blk (cxZ m) 18 (at_ Tryz.prog 18 5) (Ql4 M i) h=some (.v (.bool true),h)
 |0,i,hd=>QpM (k0:=Qaf (by rw[List.length_map,ofN,ofN];omega)) (k1:=QCo m hM h M.im.length 0 (by omega)) ..
 |d+1,i,hd=>by
  have hlt:i<M.ty.length:=by omega
  have hx:M.ty[i]? =some M.ty[i]:=List.getElem?_eq_getElem hlt
  generalize M.ty[i]=x at hx
  have hb:=hM.1.1
  have hf:=hM.1.2 x (List.mem_of_getElem? hx)
  have hr:reachBytes=140737488351232:=rfl
  have k0:ltZ (Int.ofNat i) (Int.ofNat (M.ty.map FTy.enc).length)=true:=Qae (by rw[List.length_map,ofN,ofN];omega)
  have k1:ixA (.imm (M.ty.map FTy.enc)) (Int.ofNat i) 2=some x.enc:=Qaj hx x.enc_len
  have hw:=Qas (n:=i) (by omega)
  have ih:=QCp m hM h d (i+1) (by omega)
  exact QpN (k0:=k0) (k1:=k1) (k2:=k1) (k3:=Qvu m x.p (hf.1.lt (by decide)) h) (k4:=rfl) (k5:=k1) (k6:=k1) (k7:=Qvu m x.r (hf.2.lt (by decide)) h) (k8:=by rw[hw];exact ih) ..
theorem QCT (m:Int){M:Mdl}(hM:M.Fit)(h:Heap):QbM m 18 [eM M,eM M] h=some (.v (.bool true),h):=
 Qcb rfl (by kernel_rfl) (by kernel_rfl) (Qyb (k0:=nq _) (k1:=nq _) (k2:=nq _) (k3:=nq _) (k4:=nq _) (k5:=nq _) (k6:=nq _) (k7:=nq _) (k8:=nq _) (k9:=nq _) (k10:=nq _) (k11:=QCp m hM h M.ty.length 0 (by omega)) ..)
end Go.Proofs.YtoblgjmllmomhaaGreatDoor
namespace Go.Proofs.YtoblgjmllmomhaaGreatDoor
open Go Go.Proofs.Am
namespace L
noncomputable def upE (_m:Int)(xs:List LV):Option LV:=match xs with|[]=>some (.v (.bool true))|_=>none
noncomputable def sc0 (m:Int)(xs:List LV):Option LV:=bif Qbw xs then(QfT (cxZ m) 17 xs Heap.nil).bind fun r=>bif r.1.np then some r.1 else none else none
noncomputable def scE (m:Int)(xs:List LV)(h:Heap):Option (LV×Heap):=match h.bx with|[]=>QfT (H.cxZ m) 17 xs h|_=>(sc0 m xs).bind fun r=>some (r,h)
def QBc (f r i:Nat):Bool:=bif Nat.beq f 5 then false else QrD f r i
def QBt (f r i:Nat):Bool:=bif Nat.beq f 5 then inP [(12,4),(12,6),(14,3),(14,5),(14,7),(14,8),(18,3),(18,4)] r i else Qr7 f r i
noncomputable def QBI (m:Int)(f:Nat):Option (List LV→Option LV):=bif Nat.beq f 13 then some (upE m)else none
noncomputable def QBN (m:Int)(f:Nat):Option (List LV→Heap→Option (LV×Heap)):=
 bif Nat.beq f 17 then some (scE m)else bif Nat.beq f 14 then some (QfT (cxZ m) 14)else bif Nat.beq f 15 then some (QfT (cxZ m) 15)else bif Nat.beq f 16 then some (QfT (cxZ m) 16)else bif Nat.beq f 18 then some (QfT (cxZ m) 18)else none
noncomputable def cxL (m:Int):Cx:={cxZ m with heap:=QBt,pure:=QBc,ext:=QBI m,exh:=QBN m,exr:=fun _=>none}
theorem QAm (m:Int){cx':Cx}(hP:cx'.P=Tryz.prog)(hg:cx'.glob=(cxZ m).glob)(hraw:∀(i:Nat) (v:Value),(cxZ m).raw i=some v→cx'.raw i=some v):ExtOk cx' 13 (upE m)∧∃fn c,cx'.P.funcs[13]? =some fn∧fn.body=some c:=by
 obtain⟨c,hc,hbody⟩:=QbC Tryz.func13 (by kernel_rfl)
 have e:QaE Tryz.prog 13=[.code c]:=Qdq Tryz.func13 hc
 have hcut:(cutAt (cxZ m) 13 (QaE Tryz.prog 13)).isNone=true:=by kernel_rfl
 rw[e,Option.isNone_iff_eq_none]at hcut
 refine⟨Qhu (cxZ_ok m) hP hg Tryz.func13 hc hcut (fun xs x hx=>?_) hraw,_,c,by rw[hP];exact Tryz.func13,hc⟩
 unfold upE at hx
 split at hx
 ·cases hx
  have hu:=QCQ (m:=m) Heap.nil
  exact⟨rfl,rfl,_,QgI (cx:=cxZ m) Tryz.func13 hc rfl rfl rfl hu⟩
 ·cases hx
theorem QvG (m:Int){cx':Cx}(hP:cx'.P=Tryz.prog)(hg:cx'.glob=(cxZ m).glob)(hraw:∀(i:Nat) (v:Value),(cxZ m).raw i=some v→cx'.raw i=some v):ExtOk cx' 17 (sc0 m):=by
 obtain⟨c,hc,hbody⟩:=QbC Tryz.func17 (by kernel_rfl)
 have e:QaE Tryz.prog 17=[.code c]:=Qdq Tryz.func17 hc
 have hcut:(cutAt (cxZ m) 17 (QaE Tryz.prog 17)).isNone=true:=by kernel_rfl
 rw[e,Option.isNone_iff_eq_none]at hcut
 refine Qhu (cxZ_ok m) hP hg Tryz.func17 hc hcut (fun xs x hx=>?_) hraw
 unfold sc0 at hx
 cases h1:Qbw xs with
 |false=>rw[h1]at hx;cases hx
 |true=>
  rw[h1,cond_true]at hx
  obtain⟨⟨y,h'⟩,hy,hx⟩:=Option.bind_eq_some_iff.1 hx
  cases h2:y.np with
  |false=>simp only[h2,cond_false]at hx;cases hx
  |true=>
   simp only[h2,cond_true,Option.some.injEq]at hx
   subst hx
   unfold QfT at hy
   rw[show QaE (cxZ m).P 17=[.code c]from e]at hy
   exact⟨rfl,h2,h',hy⟩
theorem QBg {cx':Cx}{f:FuncId}{e1 e2 e:List LV→Heap→Option (LV×Heap)}(h1:Qce cx' f e1)(h2:Qce cx' f e2)(h:∀xs h,e xs h=e1 xs h∨e xs h=e2 xs h):Qce cx' f e:=by
 intro xs hp x h' hx
 rcases h xs hp with e0|e0
 ·exact h1 xs hp x h' (by rw[←e0];exact hx)
 ·exact h2 xs hp x h' (by rw[←e0];exact hx)
theorem cxL_ok (m:Int):CxOk (cxL m) where
 names:=QcM
 ext:=fun f e h=>by
  have h:QBI m f=some e:=h
  unfold QBI at h
  cases hb:Nat.beq f 13 with
  |false=>rw[hb]at h;cases h
  |true=>
   rw[hb]at h
   cases h
   have:=Nat.eq_of_beq_eq_true hb
   subst this
   exact QAm m rfl rfl (fun _ _ h=>h)
 mixed:=by kernel_rfl
 globs:=QcV m
 exr:=fun f e h=>by cases h
 exh:=fun f e h=>by
  have h:QBN m f=some e:=h
  unfold QBN at h
  cases hb:Nat.beq f 17 with
  |true=>
   rw[hb]at h
   cases h
   have:=Nat.eq_of_beq_eq_true hb
   subst this
   have r1:=Qdg (cx':=cxL m) (H.cxZ_ok m) rfl rfl Tryz.func17 (by kernel_rfl) (by kernel_rfl) (fun _ _ h=>h)
   exact⟨QBg r1.1 (QvG m (cx':=cxL m) rfl rfl (fun _ _ h=>h)).exh (fun xs h=>by unfold scE;split<;>simp),r1.2⟩
  |false=>
  rw[hb,cond_false]at h
  cases hb:Nat.beq f 14 with
  |true=>
   rw[hb]at h
   cases h
   have:=Nat.eq_of_beq_eq_true hb
   subst this
   exact Qdg (cxZ_ok m) rfl rfl Tryz.func14 (by kernel_rfl) (by kernel_rfl) (fun _ _ h=>h)
  |false=>
  rw[hb,cond_false]at h
  cases hb:Nat.beq f 15 with
  |true=>
   rw[hb]at h
   cases h
   have:=Nat.eq_of_beq_eq_true hb
   subst this
   exact Qdg (cxZ_ok m) rfl rfl Tryz.func15 (by kernel_rfl) (by kernel_rfl) (fun _ _ h=>h)
  |false=>
  rw[hb,cond_false]at h
  cases hb:Nat.beq f 16 with
  |true=>
   rw[hb]at h
   cases h
   have:=Nat.eq_of_beq_eq_true hb
   subst this
   exact Qdg (cxZ_ok m) rfl rfl Tryz.func16 (by kernel_rfl) (by kernel_rfl) (fun _ _ h=>h)
  |false=>
  rw[hb,cond_false]at h
  cases hb:Nat.beq f 18 with
  |false=>rw[hb]at h;cases h
  |true=>
   rw[hb]at h
   cases h
   have:=Nat.eq_of_beq_eq_true hb
   subst this
   exact Qdg (cxZ_ok m) rfl rfl Tryz.func18 (by kernel_rfl) (by kernel_rfl) (fun _ _ h=>h)
end L
end Go.Proofs.YtoblgjmllmomhaaGreatDoor
namespace Go.Proofs.YtoblgjmllmomhaaGreatDoor
set_option maxRecDepth 100000
open Go Go.Proofs.Am
namespace H
section
variable {m:Int} {b0 b1:List LV} {rest:List (List LV)}
theorem Qol (h:Heap):Qab (cxZ m) (blk (cxZ m)) 39 [.v (.imm [[.imm []],[.imm []]])] h=some (.v .nilS,h):=
 Qaa rfl (by kernel_rfl) (by kernel_rfl) (QwF (k0:=Qgp (k0:=rfl) (k1:=Qgo (k0:=rfl) (k1:=Qgn (k0:=QwI h) (k1:=Qhk (k0:=Qhj (k0:=Qhi)))))))
theorem Qok (p l:List Int)(hp:p.length*8≤140737488351232)(hl:l.length≤1000)(h0:0<p.length+l.length):∃id rest',SlR rest' (.arr 1 id 0 (p.length+l.length)) (p.length+l.length)∧Ge rest rest'∧
 Qab (cxZ m) (blk (cxZ m)) 39 [.v (.imm [[.imm (Qah p)],[.imm (Qah l)]])] ⟨b0::b1::rest,[]⟩=some (.v (.arr 1 id 0 (p.length+l.length)),⟨b0::b1::rest',[]⟩):=by
 have e1:IntKind.wrap .i64 (Int.ofNat 0+Int.ofNat (Qah p).length)=Int.ofNat p.length:=by
  rw[Qac,Qcl (by unfold InZ;simp only[ofN];omega)]
  simp only[ofN];omega
 have e2:IntKind.wrap .i64 (Int.ofNat p.length+Int.ofNat (Qah l).length)=Int.ofNat (p.length+l.length):=by
  rw[Qac,Qcl (by unfold InZ;simp only[ofN];omega)]
  simp only[ofN];omega
 have kg:=QwH (m:=m) (b0:=b0) (b1:=b1) (rest:=rest) (p.length+l.length) h0 (by omega)
 have g0:(rest++[List.replicate (p.length+l.length) LV.un])[rest.length]? =some (List.replicate (p.length+l.length) LV.un):=by
  rw[List.getElem?_append_right (Nat.le_refl _),Nat.sub_self];rfl
 obtain⟨r1,x1,a1,a2,a3,a4⟩:=Qxq (b0:=b0) (b1:=b1) (k:=0) g0 (List.length_replicate ..) p (by omega) (by omega)
 obtain⟨r2,x2,c1,c2,c3,c4⟩:=Qxq (b0:=b0) (b1:=b1) (k:=0+p.length) a1 a2 l (by omega) (by omega)
 rw[Nat.zero_add]at a4 c4
 refine⟨rest.length+2,r2,.inr ⟨rest.length,x2,rfl,c1,by omega⟩,fun j b hj=>?_,Qaa rfl (by kernel_rfl) (by kernel_rfl) (QwF (k0:=Qgp (k0:=?_) (k1:=?_)))⟩
 ·have hlt:=(List.getElem?_eq_some_iff.1 hj).1
  rw[c3 j (by omega),a3 j (by omega),List.getElem?_append_left hlt]
  exact hj
 ·rw[e1];exact Qaf (Int.natCast_nonneg _)
 ·rw[e1]
  refine Qgo (k0:=?_) (k1:=?_)
  ·rw[e2];exact Qaf (Int.natCast_nonneg _)
  ·rw[e2]
   exact Qgn (k0:=kg) (k1:=Qi0 (k0:=a4) (k1:=QiZ (k0:=c4) (k1:=QiY)))
def Row (n:Nat)(F:LV)(k:Nat):Prop:=(k=0∧F=.v .nilS)∨∃xs,F=.ow n xs∧xs.length=k
theorem Qj3 {F:LV}{k:Nat}(H:Row 1 F k)(z:Int)(hk:k≤1000):∃xs,apL F 1 8 [[.int .i64 z]]=some (.ow 1 xs)∧Row 1 (.ow 1 xs) (k+1):=by
 rcases H with⟨rfl,rfl⟩|⟨xs,rfl,hl⟩
 ·exact⟨_,rfl,.inr ⟨_,rfl,rfl⟩⟩
 ·exact⟨_,Qbn (QcA rfl) (by rw[List.length_singleton];omega) (by decide),.inr ⟨_,rfl,by rw[List.length_append,hl];rfl⟩⟩
theorem Qj4 {F:LV}{k:Nat}(H:Row 11 F k)(x:Int×Bool)(hk:k≤1000):∃xs,apL F 11 136 [gv x]=some (.ow 11 xs)∧Row 11 (.ow 11 xs) (k+1):=by
 rcases H with⟨rfl,rfl⟩|⟨xs,rfl,hl⟩
 ·exact⟨_,rfl,.inr ⟨_,rfl,rfl⟩⟩
 ·exact⟨_,Qbn (QcA (Qpb x)) (by rw[List.length_singleton];omega) (by decide),.inr ⟨_,rfl,by rw[List.length_append,hl];rfl⟩⟩
end
abbrev HB (M:Mdl)(T:AV)(F G:LV)(rest:List (List LV)):Heap:=
 Heap.mk (mC M::[.v T,F,G,.v (.bool (bT M 1)),.v (.bool (bT M 2)),.v .nilS,.v (.int .i64 (Int.ofNat 0))]::rest) []
def ScR (M:Mdl)(g:MFn)(y:FTy)(x:LV)(h:Heap):Prop:=∃T fa ga lo q1 q2 z rest c0 c1,x=.tup [.agg [T,fa,ga,.bool q1,.bool q2,lo,.int .i64 z],.nilI]∧h.bx=c0::c1::rest∧TyOk rest T M.ty.length∧SlR rest lo (y.p.length+g.l.length)
section
variable {m:Int} {M:Mdl} {f:Int} {g:MFn} {y:FTy} {T:AV} {rest:List (List LV)}
theorem ld7 {F G:LV}{kF kG:Nat}(hF:Row 1 F kF)(hG:Row 11 G kG)(q1 q2:Bool)(lo:AV)(z:Int)(b:List LV):∃fa ga,ldP (Heap.mk (b::[.v T,F,G,.v (.bool q1),.v (.bool q2),.v lo,.v (.int .i64 z)]::rest) []) (.ptr 1 0) 7 true=some (.agg [T,fa,ga,.bool q1,.bool q2,lo,.int .i64 z]):=by
 rcases hF with⟨_,rfl⟩|⟨xs,rfl,_⟩<;>rcases hG with⟨_,rfl⟩|⟨ys,rfl,_⟩<;>exact⟨_,_,rfl⟩
theorem Qo4 (hF:Fn M f g y)(hT:TyOk rest T M.ty.length){F:LV}{kF:Nat}(hR:Row 1 F kF):∀(d i:Nat),i+d=M.gl.length→∀(G:LV) (k:Nat),Row 11 G k→k≤200+i→
 ∃x h',blk (cxZ m) 17 (at_ Tryz.prog 17 25) (K6 f++L6 (M.gl.map Glo.enc) i) (HB M T F G rest)=some (x,h')∧ScR M g y x h'
 |0,i,hd,G,k,hG,hk=>by
  have k0:ltZ (Int.ofNat i) (Int.ofNat (M.gl.map Glo.enc).length)=false:=Qaf (by rw[List.length_map,ofN,ofN];omega)
  have kg:=hF.ixg
  have ky:=(Qco hF.sm hF.ty).2.2.1
  have hp:=hF.hp
  have hl:=hF.hl
  by_cases h0:0<y.p.length+g.l.length
  ·obtain⟨id,rest',H1,H2,kc⟩:=Qok (m:=m) (b0:=mC M) (b1:=[.v T,F,G,.v (.bool (bT M 1)),.v (.bool (bT M 2)),.v .nilS,.v (.int .i64 (Int.ofNat 0))]) (rest:=rest) y.p g.l hp hl h0
   obtain⟨p,r⟩:=y
   cases r with
   |nil=>
    obtain⟨fa,ga,kl⟩:=ld7 (T:=T) (rest:=rest') hR hG (bT M 1) (bT M 2) (.arr 1 id 0 (p.length+g.l.length)) (Int.ofNat 0) (mC M)
    exact⟨_,_,Qr9 (k0:=k0) (k1:=kg) (k2:=ky) (k3:=kg) (k4:=kc) (k5:=rfl) (k6:=rfl) (k7:=kl),_,_,_,_,_,_,_,rest',_,_,rfl,rfl,hT.keep H2,H1⟩
   |cons z r=>
    obtain⟨fa,ga,kl⟩:=ld7 (T:=T) (rest:=rest') hR hG (bT M 1) (bT M 2) (.arr 1 id 0 (p.length+g.l.length)) z (mC M)
    exact⟨_,_,Qsa (k0:=k0) (k1:=kg) (k2:=ky) (k3:=kg) (k4:=kc) (k5:=rfl) (k6:=rfl) (k7:=rfl) (k8:=rfl) (k9:=kl),_,_,_,_,_,_,_,rest',_,_,rfl,rfl,hT.keep H2,H1⟩
  ·obtain⟨p,r⟩:=y
   obtain⟨t,l,bd⟩:=g
   obtain rfl:p=[]:=List.eq_nil_of_length_eq_zero (by simp only at h0;omega)
   obtain rfl:l=[]:=List.eq_nil_of_length_eq_zero (by simp only at h0;omega)
   have kc:=Qol (m:=m) (HB M T F G rest)
   cases r with
   |nil=>
    obtain⟨fa,ga,kl⟩:=ld7 (T:=T) (rest:=rest) hR hG (bT M 1) (bT M 2) .nilS (Int.ofNat 0) (mC M)
    exact⟨_,_,Qsb (k0:=k0) (k1:=kg) (k2:=ky) (k3:=kg) (k4:=kc) (k5:=rfl) (k6:=rfl) (k7:=kl),_,_,_,_,_,_,_,rest,_,_,rfl,rfl,hT,.inl ⟨rfl,rfl⟩⟩
   |cons z r=>
    obtain⟨fa,ga,kl⟩:=ld7 (T:=T) (rest:=rest) hR hG (bT M 1) (bT M 2) .nilS z (mC M)
    exact⟨_,_,Qsc (k0:=k0) (k1:=kg) (k2:=ky) (k3:=kg) (k4:=kc) (k5:=rfl) (k6:=rfl) (k7:=rfl) (k8:=rfl) (k9:=kl),_,_,_,_,_,_,_,rest,_,_,rfl,rfl,hT,.inl ⟨rfl,rfl⟩⟩
 |d+1,i,hd,G,k,hG,hk=>by
  have hgl:=hF.sm.gl
  have hlt:i<M.gl.length:=by omega
  have hx:M.gl[i]? =some M.gl[i]:=List.getElem?_eq_getElem hlt
  generalize M.gl[i]=x at hx
  have k0:ltZ (Int.ofNat i) (Int.ofNat (M.gl.map Glo.enc).length)=true:=Qae (by rw[List.length_map,ofN,ofN];omega)
  have k1:ixA (.imm (M.gl.map Glo.enc)) (Int.ofNat i) 11=some x.enc:=Qaj hx x.enc_len
  obtain⟨xs,k2,hG'⟩:=Qj4 hG (gG x) (by omega)
  have hw:=Qas (n:=i) (by omega)
  obtain⟨x',h',ih,H⟩:=Qo4 hF hT hR d (i+1) (by omega) _ _ hG' (by omega)
  obtain⟨t,q,⟨o,a,b,v,tt,l,bd,el,qq⟩⟩:=x
  exact⟨x',h',Qsd (k0:=k0) (k1:=k1) (k2:=k2) (k3:=by rw[hw];exact ih),H⟩
theorem Qxb {M:Mdl}(hM:Small M){F G:LV}{k:Nat}(hR:Row 1 F k)(t:Int)(hk:k≤1000):
 ∃xs,QaK (cxZ m) (blk (cxZ m)) (.fn 38 [] [.ptr 0 0,.ptr 1 0]) [.v (.int .i64 t)] (HB M T F G rest)=some (.tup [],HB M T (.ow 1 xs) G rest)∧Row 1 (.ow 1 xs) (k+1):=by
 have e:QaK (cxZ m) (blk (cxZ m)) (.fn 38 [] [.ptr 0 0,.ptr 1 0]) [.v (.int .i64 t)] (HB M T F G rest)=Qab (cxZ m) (blk (cxZ m)) 38 [.v (.int .i64 t),.v (.ptr 0 0),.v (.ptr 1 0)] (HB M T F G rest):=rfl
 rw[e]
 obtain⟨x1,a1,r1⟩:=Qj3 hR (Int.negSucc 0) hk
 obtain⟨x2,a2,r2⟩:=Qj3 hR t hk
 cases hy:Qex M t with
 |none=>
  rcases QdR hy with e1|⟨e1,e2⟩
  ·exact⟨x1,Qaa rfl (by kernel_rfl) (by kernel_rfl) (QBz (k0:=e1) (k1:=a1)),r1⟩
  ·exact⟨x1,Qaa rfl (by kernel_rfl) (by kernel_rfl) (QBy (k0:=e1) (k1:=e2) (k2:=a1)),r1⟩
 |some y=>
  obtain⟨e1,e2,_⟩:=Qco hM hy
  exact⟨x2,Qaa rfl (by kernel_rfl) (by kernel_rfl) (QBx (k0:=e1) (k1:=e2) (k2:=a2)),r2⟩
theorem Qo5 (hF:Fn M f g y)(hT:TyOk rest T M.ty.length){G:LV}{kG:Nat}(hG:Row 11 G kG)(hkG:kG≤200):∀(d i:Nat),i+d=M.fu.length→∀(F:LV) (k:Nat),Row 1 F k→k≤200+i→
 ∃x h',blk (cxZ m) 17 (at_ Tryz.prog 17 20) (K6 f++FN::L6 (M.fu.map MFn.enc) i) (HB M T F G rest)=some (x,h')∧ScR M g y x h'
 |0,i,hd,F,k,hR,hk=>by
  obtain⟨x,h',ih,H⟩:=Qo4 (m:=m) hF hT hR M.gl.length 0 (by omega) G kG hG (by omega)
  exact⟨x,h',Qse (k0:=Qaf (by rw[List.length_map,ofN,ofN];omega)) (k1:=ih),H⟩
 |d+1,i,hd,F,k,hR,hk=>by
  have hfu:=hF.sm.fu
  have hlt:i<M.fu.length:=by omega
  have hx:M.fu[i]? =some M.fu[i]:=List.getElem?_eq_getElem hlt
  generalize M.fu[i]=x at hx
  have k0:ltZ (Int.ofNat i) (Int.ofNat (M.fu.map MFn.enc).length)=true:=Qae (by rw[List.length_map,ofN,ofN];omega)
  have k1:ixA (.imm (M.fu.map MFn.enc)) (Int.ofNat i) 3=some x.enc:=Qaj hx x.enc_len
  obtain⟨xs,k2,hR'⟩:=Qxb (m:=m) (T:=T) (rest:=rest) (G:=G) hF.sm hR x.t (by omega)
  have hw:=Qas (n:=i) (by omega)
  obtain⟨x',h',ih,H⟩:=Qo5 hF hT hG hkG d (i+1) (by omega) _ _ hR' (by omega)
  exact⟨x',h',Qsf (k0:=k0) (k1:=k1) (k2:=k2) (k3:=by rw[hw];exact ih),H⟩
theorem Qie (hF:Fn M f g y)(hT:TyOk rest T M.ty.length):∀(d i:Nat),i+d=M.im.length→∀(F G:LV) (k l:Nat),Row 1 F k→Row 11 G l→k≤i→l≤i→
 ∃x h',blk (cxZ m) 17 (at_ Tryz.prog 17 11) (K6 f++FN::L6 (M.im.map Imp.enc) i) (HB M T F G rest)=some (x,h')∧ScR M g y x h'
 |0,i,hd,F,G,k,l,hR,hG,hk,hl=>by
  have him:=hF.sm.im
  obtain⟨x,h',ih,H⟩:=Qo5 (m:=m) hF hT hG (by omega) M.fu.length 0 (by omega) F k hR (by omega)
  exact⟨x,h',Qsg (k0:=Qaf (by rw[List.length_map,ofN,ofN];omega)) (k1:=ih),H⟩
 |d+1,i,hd,F,G,k,l,hR,hG,hk,hl=>by
  have him:=hF.sm.im
  have hlt:i<M.im.length:=by omega
  have hx:M.im[i]? =some M.im[i]:=List.getElem?_eq_getElem hlt
  generalize M.im[i]=x at hx
  have k0:ltZ (Int.ofNat i) (Int.ofNat (M.im.map Imp.enc).length)=true:=Qae (by rw[List.length_map,ofN,ofN];omega)
  have k1:ixA (.imm (M.im.map Imp.enc)) (Int.ofNat i) 8=some x.enc:=Qaj hx x.enc_len
  have hw:=Qas (n:=i) (by omega)
  cases e0:eqZ x.k (Int.ofNat 0)with
  |true=>
   obtain⟨xs,k3,hR'⟩:=Qxb (m:=m) (T:=T) (rest:=rest) (G:=G) hF.sm hR x.t (by omega)
   obtain⟨x',h',ih,H⟩:=Qie hF hT d (i+1) (by omega) _ G _ l hR' hG (by omega) (by omega)
   exact⟨x',h',Qsj (k0:=k0) (k1:=k1) (k2:=e0) (k3:=k3) (k4:=by rw[hw];exact ih),H⟩
  |false=>
   cases e3:eqZ x.k (Int.ofNat 3)with
   |true=>
    obtain⟨xs,k4,hG'⟩:=Qj4 hG (gI x) (by omega)
    obtain⟨x',h',ih,H⟩:=Qie hF hT d (i+1) (by omega) F _ k _ hR hG' (by omega) (by omega)
    exact⟨x',h',Qsi (k0:=k0) (k1:=k1) (k2:=e0) (k3:=e3) (k4:=k4) (k5:=by rw[hw];exact ih),H⟩
   |false=>
    obtain⟨x',h',ih,H⟩:=Qie hF hT d (i+1) (by omega) F G k l hR hG (by omega) (by omega)
    exact⟨x',h',Qsh (k0:=k0) (k1:=k1) (k2:=e0) (k3:=e3) (k4:=by rw[hw];exact ih),H⟩
theorem Qwg (hF:Fn M f g y):∀(d i:Nat),i+d=M.ty.length→∀(T:AV) (rest:List (List LV)),TyOk rest T i→
 ∃x h',blk (cxZ m) 17 (at_ Tryz.prog 17 5) (K6 f++L6 (M.ty.map FTy.enc) i) (HB M T (.v .nilS) (.v .nilS) rest)=some (x,h')∧ScR M g y x h'
 |0,i,hd,T,rest,hT=>by
  obtain rfl:i=M.ty.length:=by omega
  obtain⟨x,h',ih,H⟩:=Qie (m:=m) hF hT M.im.length 0 (by omega) (.v .nilS) (.v .nilS) 0 0 (.inl ⟨rfl,rfl⟩) (.inl ⟨rfl,rfl⟩) (Nat.le_refl _) (Nat.le_refl _)
  exact⟨x,h',QwA (k0:=Qaf (by rw[List.length_map];exact Int.le_refl _)) (k1:=ih),H⟩
 |d+1,i,hd,T,rest,hT=>by
  have hty:=hF.sm.ty
  have hlt:i<M.ty.length:=by omega
  have hx:M.ty[i]? =some M.ty[i]:=List.getElem?_eq_getElem hlt
  generalize M.ty[i]=x at hx
  have hf:=hF.sm.fit.1.2 x (List.mem_of_getElem? hx)
  have k0:ltZ (Int.ofNat i) (Int.ofNat (M.ty.map FTy.enc).length)=true:=Qae (by rw[List.length_map,ofN,ofN];omega)
  have k1:ixA (.imm (M.ty.map FTy.enc)) (Int.ofNat i) 2=some x.enc:=Qaj hx x.enc_len
  have hw:=Qas (n:=i) (by omega)
  let B1:List LV:=[.v T,.v .nilS,.v .nilS,.v (.bool (bT M 1)),.v (.bool (bT M 2)),.v .nilS,.v (.int .i64 (Int.ofNat 0))]
  obtain⟨q1,l1,S1,H1,c1⟩:=Qls (m:=m) (b0:=mC M) (b1:=B1) (rest:=rest) x.p hf.1.1
  obtain⟨q2,l2,S2,H2,c2⟩:=Qls (m:=m) (b0:=mC M) (b1:=B1) (rest:=rest++l1) x.r hf.2.1
  have H1':=H1.more l2
  rw[List.append_assoc]at H1' c2
  obtain⟨rest',id,ka,hT'⟩:=Qvn (b0:=mC M) (b1:=B1) (r:=q2) hT H1' hf.1.1 (by omega)
  obtain⟨x',h',ih,H⟩:=Qwg hF d (i+1) (by omega) _ _ hT'
  rcases S1 with rfl|⟨i1,n1,rfl⟩<;>rcases S2 with rfl|⟨i2,n2,rfl⟩
  ·exact⟨x',h',QwB (k0:=k0) (k1:=k1) (k2:=c1) (k3:=c2) (k4:=ka) (k5:=rfl) (k6:=by rw[hw];exact ih),H⟩
  ·exact⟨x',h',QwC (k0:=k0) (k1:=k1) (k2:=c1) (k3:=c2) (k4:=ka) (k5:=rfl) (k6:=by rw[hw];exact ih),H⟩
  ·exact⟨x',h',QwD (k0:=k0) (k1:=k1) (k2:=c1) (k3:=c2) (k4:=ka) (k5:=rfl) (k6:=by rw[hw];exact ih),H⟩
  ·exact⟨x',h',QwE (k0:=k0) (k1:=k1) (k2:=c1) (k3:=c2) (k4:=ka) (k5:=rfl) (k6:=by rw[hw];exact ih),H⟩
theorem QjT {M:Mdl}(hM:Small M)(k:Int)(h:Heap):Qab (cxZ m) (blk (cxZ m)) 36 [eM M,.v (.int .i64 k)] h=some (.v (.int .i64 (Int.ofNat ((QcE M k).length+Qkc M k))),h):=
 QaX (e:=QfT (YtoblgjmllmomhaaGreatDoor.cxZ m) 36) rfl rfl rfl (run_eq Tryz.func36 (by kernel_rfl) rfl rfl rfl (t11 m hM k h))
theorem scope_some (hF:Fn M f g y):∃x h',blk (cxZ m) 17 (QaE Tryz.prog 17) [eM M,.v (.int .i64 f)] Heap.nil=some (x,h')∧ScR M g y x h':=by
 have hu:=(List.getElem?_eq_some_iff.1 hF.get).1
 have hfu:f<M.fu.length:=by have:=hF.nn;omega
 obtain⟨e1,e2,_⟩:=Qco hF.sm hF.ty
 obtain⟨x,h',ih,H⟩:=Qwg (m:=m) hF M.ty.length 0 (by omega) .nilS [] (.inl ⟨rfl,rfl⟩)
 exact⟨x,h',QDb (k0:=Qaf (by have:=hF.nn;rw[ofN];exact this)) (k1:=Qcy (by rw[List.length_map,ofN];omega)) (k2:=hF.ixg) (k3:=e1) (k4:=hF.ixg) (k5:=e2)
  (k6:=QrT M (Int.ofNat 1)) (k7:=QjT hF.sm (Int.ofNat 1) Heap.nil) (k8:=QrT M (Int.ofNat 2)) (k9:=QjT hF.sm (Int.ofNat 2) Heap.nil) (k10:=ih),H⟩
end
end H
end Go.Proofs.YtoblgjmllmomhaaGreatDoor
namespace Go.Proofs.YtoblgjmllmomhaaGreatDoor.L
set_option maxRecDepth 100000
open Go Go.Proofs.Am
theorem QC0 {m:Int}{ty im fu ta me gl ex el da cu:List (List AV)}{st:Int}{f:Int}{h:Heap}{x2_1:Bool}{x2_1h:Heap}(k0:Qab (cxL m) (blk (cxL m)) 14 [LV.v (AV.agg [AV.imm ty,AV.imm im,AV.imm fu,AV.imm ta,AV.imm me,AV.imm gl,AV.imm ex,AV.int IntKind.i64 st,AV.imm el,AV.imm da,AV.imm cu])] h=some (LV.v (AV.bool x2_1),x2_1h))(k1:(!x2_1)=true):
 blk (cxL m) 5 (QaE Tryz.prog 5) [.v (.agg [.imm ty,.imm im,.imm fu,.imm ta,.imm me,.imm gl,.imm ex,.int .i64 st,.imm el,.imm da,.imm cu]),.v (.int .i64 f)] h=some ((LV.v (AV.bool true),x2_1h)):=
 Qdb (scr:=⟨fun x=>match x with|1099990=>some true|_=>none,fun _ _=>none,fun x y=>match x,y with|2,1=>some (LV.v (AV.bool x2_1),x2_1h)|_,_=>none,false⟩) (tA k0 (tA (tS k1) (tR ((LV.v (AV.bool true),x2_1h))))) (by kernel_rfl)
theorem QAz {m:Int}{ty im fu ta me gl ex el da cu:List (List AV)}{st:Int}{f:Int}{h:Heap}{x2_1:Bool}{x2_1h:Heap}{x5_1_0:List (List AV)}{x5_1_1:List (List AV)}{x5_1_2:List (List AV)}{x5_1_3:List (List AV)}{x5_1_4:List (List AV)}{x5_1_5:List (List AV)}{x5_1_6:List (List AV)}{x5_1_7:Int}{x5_1_8:List (List AV)}{x5_1_9:List (List AV)}{x5_1_10:List (List AV)}{x5_1h:Heap}{x6_1:AV}{x6_1h:Heap}{x7_2_r0_0:AV}{x7_2_r0_1:AV}{x7_2_r0_2:AV}{x7_2_r0_3:Bool}{x7_2_r0_4:Bool}{x7_2_r0_5:AV}{x7_2_r0_6:Int}{x7_2_r1:AV}{x7_2h:Heap}{r:LV×Heap}(k0:Qab (cxL m) (blk (cxL m)) 14 [LV.v (AV.agg [AV.imm ty,AV.imm im,AV.imm fu,AV.imm ta,AV.imm me,AV.imm gl,AV.imm ex,AV.int IntKind.i64 st,AV.imm el,AV.imm da,AV.imm cu])] h=some (LV.v (AV.bool x2_1),x2_1h))(k1:(!x2_1)=false)(k2:Qab (cxL m) (blk (cxL m)) 16 [LV.v (AV.agg [AV.imm ty,AV.imm im,AV.imm fu,AV.imm ta,AV.imm me,AV.imm gl,AV.imm ex,AV.int IntKind.i64 st,AV.imm el,AV.imm da,AV.imm cu])] x2_1h=some (LV.v (AV.agg [AV.imm x5_1_0,AV.imm x5_1_1,AV.imm x5_1_2,AV.imm x5_1_3,AV.imm x5_1_4,AV.imm x5_1_5,AV.imm x5_1_6,AV.int IntKind.i64 x5_1_7,AV.imm x5_1_8,AV.imm x5_1_9,AV.imm x5_1_10]),x5_1h))(k3:Qab (cxL m) (blk (cxL m)) 15 [LV.v (AV.agg [AV.imm x5_1_0,AV.imm x5_1_1,AV.imm x5_1_2,AV.imm x5_1_3,AV.imm x5_1_4,AV.imm x5_1_5,AV.imm x5_1_6,AV.int IntKind.i64 x5_1_7,AV.imm x5_1_8,AV.imm x5_1_9,AV.imm x5_1_10])] x5_1h=some (LV.v x6_1,x6_1h))(k4:Qab (cxL m) (blk (cxL m)) 17 [LV.v (AV.agg [AV.imm x5_1_0,AV.imm x5_1_1,AV.imm x5_1_2,AV.imm x5_1_3,AV.imm x5_1_4,AV.imm x5_1_5,AV.imm x5_1_6,AV.int IntKind.i64 x5_1_7,AV.imm x5_1_8,AV.imm x5_1_9,AV.imm x5_1_10]),LV.v (AV.int IntKind.i64 f)] x6_1h=some (LV.tup [AV.agg [x7_2_r0_0,x7_2_r0_1,x7_2_r0_2,AV.bool x7_2_r0_3,AV.bool x7_2_r0_4,x7_2_r0_5,AV.int IntKind.i64 x7_2_r0_6],x7_2_r1],x7_2h))(k5:(blk (cxL m)) 5 (at_ Tryz.prog 5 9) [LV.v (AV.int IntKind.i64 f),LV.lp 0 0,LV.v (AV.bool true),LV.lp 1 0,LV.lp 2 0,LV.v x7_2_r1,LV.v (AV.int IntKind.i64 (Int.ofNat 0)),LV.v (AV.imm ty),LV.v (AV.imm im),LV.v (AV.imm fu),LV.v (AV.imm ta),LV.v (AV.imm me),LV.v (AV.imm gl),LV.v (AV.imm ex),LV.v (AV.int IntKind.i64 st),LV.v (AV.imm el),LV.v (AV.imm da),LV.v (AV.imm cu),LV.v (AV.imm x5_1_0),LV.v (AV.imm x5_1_1),LV.v (AV.imm x5_1_2),LV.v (AV.imm x5_1_3),LV.v (AV.imm x5_1_4),LV.v (AV.imm x5_1_5),LV.v (AV.imm x5_1_6),LV.v (AV.int IntKind.i64 x5_1_7),LV.v (AV.imm x5_1_8),LV.v (AV.imm x5_1_9),LV.v (AV.imm x5_1_10),LV.v x7_2_r0_0,LV.v x7_2_r0_1,LV.v x7_2_r0_2,LV.v (AV.bool x7_2_r0_3),LV.v (AV.bool x7_2_r0_4),LV.v x7_2_r0_5,LV.v (AV.int IntKind.i64 x7_2_r0_6)] x7_2h=some r):
 blk (cxL m) 5 (QaE Tryz.prog 5) [.v (.agg [.imm ty,.imm im,.imm fu,.imm ta,.imm me,.imm gl,.imm ex,.int .i64 st,.imm el,.imm da,.imm cu]),.v (.int .i64 f)] h=some r:=
 Qdb (scr:=⟨fun x=>match x with|1099990=>some false|_=>none,fun _ _=>none,fun x y=>match x,y with|2,1=>some (LV.v (AV.bool x2_1),x2_1h)|5,1=>some (LV.v (AV.agg [(AV.imm x5_1_0),(AV.imm x5_1_1),(AV.imm x5_1_2),(AV.imm x5_1_3),(AV.imm x5_1_4),(AV.imm x5_1_5),(AV.imm x5_1_6),(AV.int Go.IntKind.i64 x5_1_7),(AV.imm x5_1_8),(AV.imm x5_1_9),(AV.imm x5_1_10)]),x5_1h)|6,1=>some (LV.v x6_1,x6_1h)|7,2=>some (LV.tup [(AV.agg [x7_2_r0_0,x7_2_r0_1,x7_2_r0_2,(AV.bool x7_2_r0_3),(AV.bool x7_2_r0_4),x7_2_r0_5,(AV.int Go.IntKind.i64 x7_2_r0_6)]),x7_2_r1],x7_2h)|_,_=>none,false⟩) (tA k0 (tA (tS k1) (tA k2 (tA k3 (tA k4 (tA t1 (k5))))))) (by kernel_rfl)
end Go.Proofs.YtoblgjmllmomhaaGreatDoor.L
namespace Go.Proofs.YtoblgjmllmomhaaGreatDoor.L
set_option maxRecDepth 100000
open Go Go.Proofs.Am
theorem QvH {m:Int}{T a1 a2 a3 a4 lo a6 e:AV}{hd:Bool}{f:Int}{ty im fu ta me gl ex el da cu:List (List AV)}{st:Int}{i:Int}{h:Heap}{x9_3:Int}{r:LV×Heap}(k0:lnS T=some x9_3)(k1:ltZ i x9_3=true)(k2:(blk (cxL m)) 5 (at_ Tryz.prog 5 12) [LV.v (AV.int IntKind.i64 f),LV.lp 0 0,LV.v (AV.bool hd),LV.lp 1 0,LV.lp 2 0,LV.v e,LV.v (AV.int IntKind.i64 i),LV.v (AV.int IntKind.i64 (Int.ofNat 0)),LV.v (AV.imm ty),LV.v (AV.imm im),LV.v (AV.imm fu),LV.v (AV.imm ta),LV.v (AV.imm me),LV.v (AV.imm gl),LV.v (AV.imm ex),LV.v (AV.int IntKind.i64 st),LV.v (AV.imm el),LV.v (AV.imm da),LV.v (AV.imm cu),LV.v (AV.imm ty),LV.v (AV.imm im),LV.v (AV.imm fu),LV.v (AV.imm ta),LV.v (AV.imm me),LV.v (AV.imm gl),LV.v (AV.imm ex),LV.v (AV.int IntKind.i64 st),LV.v (AV.imm el),LV.v (AV.imm da),LV.v (AV.imm cu),LV.v T,LV.v a1,LV.v a2,LV.v a3,LV.v a4,LV.v lo,LV.v a6] h=some r):
 blk (cxL m) 5 (at_ Tryz.prog 5 9) [.v (.int .i64 f),.lp 0 0,.v (.bool hd),.lp 1 0,.lp 2 0,.v e,.v (.int .i64 i),.v (.imm ty),.v (.imm im),.v (.imm fu),.v (.imm ta),.v (.imm me),.v (.imm gl),.v (.imm ex),.v (.int .i64 st),.v (.imm el),.v (.imm da),.v (.imm cu),.v (.imm ty),.v (.imm im),.v (.imm fu),.v (.imm ta),.v (.imm me),.v (.imm gl),.v (.imm ex),.v (.int .i64 st),.v (.imm el),.v (.imm da),.v (.imm cu),.v T,.v a1,.v a2,.v a3,.v a4,.v lo,.v a6] h=some r:=
 Qdb (scr:=⟨fun x=>match x with|1099998=>some true|_=>none,fun x y=>match x,y with|9,3=>some (LV.v (AV.int Go.IntKind.i64 x9_3))|_,_=>none,fun _ _=>none,false⟩) (tA k0 (tA (tS k1) (tA t1 (k2)))) (by kernel_rfl)
theorem QjZ {m:Int}{T a1 a2 a3 a4 lo a6 e:AV}{hd:Bool}{f:Int}{ty im fu ta me gl ex el da cu:List (List AV)}{st:Int}{i:Int}{h:Heap}{x9_3:Int}{r:LV×Heap}(k0:lnS T=some x9_3)(k1:ltZ i x9_3=false)(k2:(blk (cxL m)) 5 (at_ Tryz.prog 5 16) [LV.v (AV.int IntKind.i64 f),LV.lp 0 0,LV.v (AV.bool hd),LV.lp 1 0,LV.lp 2 0,LV.v e,LV.v (AV.int IntKind.i64 (Int.ofNat 0)),LV.v (AV.imm ty),LV.v (AV.imm im),LV.v (AV.imm fu),LV.v (AV.imm ta),LV.v (AV.imm me),LV.v (AV.imm gl),LV.v (AV.imm ex),LV.v (AV.int IntKind.i64 st),LV.v (AV.imm el),LV.v (AV.imm da),LV.v (AV.imm cu),LV.v (AV.imm ty),LV.v (AV.imm im),LV.v (AV.imm fu),LV.v (AV.imm ta),LV.v (AV.imm me),LV.v (AV.imm gl),LV.v (AV.imm ex),LV.v (AV.int IntKind.i64 st),LV.v (AV.imm el),LV.v (AV.imm da),LV.v (AV.imm cu),LV.v T,LV.v a1,LV.v a2,LV.v a3,LV.v a4,LV.v lo,LV.v a6] h=some r):
 blk (cxL m) 5 (at_ Tryz.prog 5 9) [.v (.int .i64 f),.lp 0 0,.v (.bool hd),.lp 1 0,.lp 2 0,.v e,.v (.int .i64 i),.v (.imm ty),.v (.imm im),.v (.imm fu),.v (.imm ta),.v (.imm me),.v (.imm gl),.v (.imm ex),.v (.int .i64 st),.v (.imm el),.v (.imm da),.v (.imm cu),.v (.imm ty),.v (.imm im),.v (.imm fu),.v (.imm ta),.v (.imm me),.v (.imm gl),.v (.imm ex),.v (.int .i64 st),.v (.imm el),.v (.imm da),.v (.imm cu),.v T,.v a1,.v a2,.v a3,.v a4,.v lo,.v a6] h=some r:=
 Qdb (scr:=⟨fun x=>match x with|1099998=>some false|_=>none,fun x y=>match x,y with|9,3=>some (LV.v (AV.int Go.IntKind.i64 x9_3))|_,_=>none,fun _ _=>none,false⟩) (tA k0 (tA (tS k1) (tA t1 (k2)))) (by kernel_rfl)
end Go.Proofs.YtoblgjmllmomhaaGreatDoor.L
namespace Go.Proofs.YtoblgjmllmomhaaGreatDoor.L
set_option maxRecDepth 100000
open Go Go.Proofs.Am
theorem Qrb {m:Int}{T a1 a2 a3 a4 lo a6 e:AV}{hd:Bool}{f:Int}{ty im fu ta me gl ex el da cu:List (List AV)}{st:Int}{i k:Int}{h:Heap}{x12_4_i:Nat}{x12_4_o:Nat}{x12_6:AV}{x12_7:Int}{x14_3_i:Nat}{x14_3_o:Nat}{x14_5:AV}{x14_7_i:Nat}{x14_7_o:Nat}{x14_8h:Heap}{r:LV×Heap}(k0:ixP T i 2=some (AV.ptr x12_4_i x12_4_o))(k1:ldP h (AV.ptr x12_4_i x12_4_o) 1 false=some x12_6)(k2:lnS x12_6=some x12_7)(k3:ltZ k x12_7=true)(k4:ixP T i 2=some (AV.ptr x14_3_i x14_3_o))(k5:ldP h (AV.ptr x14_3_i x14_3_o) 1 false=some x14_5)(k6:ixP x14_5 k 1=some (AV.ptr x14_7_i x14_7_o))(k7:stP h (AV.ptr x14_7_i x14_7_o) [LV.v (AV.int IntKind.i64 (Int.ofNat 9))]=some x14_8h)(k8:(blk (cxL m)) 5 (at_ Tryz.prog 5 12) [LV.v (AV.int IntKind.i64 f),LV.lp 0 0,LV.v (AV.bool hd),LV.lp 1 0,LV.lp 2 0,LV.v e,LV.v (AV.int IntKind.i64 i),LV.v (AV.int IntKind.i64 (IntKind.wrap IntKind.i64 (k+Int.ofNat 1))),LV.v (AV.imm ty),LV.v (AV.imm im),LV.v (AV.imm fu),LV.v (AV.imm ta),LV.v (AV.imm me),LV.v (AV.imm gl),LV.v (AV.imm ex),LV.v (AV.int IntKind.i64 st),LV.v (AV.imm el),LV.v (AV.imm da),LV.v (AV.imm cu),LV.v (AV.imm ty),LV.v (AV.imm im),LV.v (AV.imm fu),LV.v (AV.imm ta),LV.v (AV.imm me),LV.v (AV.imm gl),LV.v (AV.imm ex),LV.v (AV.int IntKind.i64 st),LV.v (AV.imm el),LV.v (AV.imm da),LV.v (AV.imm cu),LV.v T,LV.v a1,LV.v a2,LV.v a3,LV.v a4,LV.v lo,LV.v a6] x14_8h=some r):
 blk (cxL m) 5 (at_ Tryz.prog 5 12) [.v (.int .i64 f),.lp 0 0,.v (.bool hd),.lp 1 0,.lp 2 0,.v e,.v (.int .i64 i),.v (.int .i64 k),.v (.imm ty),.v (.imm im),.v (.imm fu),.v (.imm ta),.v (.imm me),.v (.imm gl),.v (.imm ex),.v (.int .i64 st),.v (.imm el),.v (.imm da),.v (.imm cu),.v (.imm ty),.v (.imm im),.v (.imm fu),.v (.imm ta),.v (.imm me),.v (.imm gl),.v (.imm ex),.v (.int .i64 st),.v (.imm el),.v (.imm da),.v (.imm cu),.v T,.v a1,.v a2,.v a3,.v a4,.v lo,.v a6] h=some r:=
 Qdb (scr:=⟨fun x=>match x with|1099998=>some true|_=>none,fun x y=>match x,y with|12,7=>some (LV.v (AV.int Go.IntKind.i64 x12_7))|_,_=>none,fun x y=>match x,y with|12,4=>some (LV.v (AV.ptr x12_4_i x12_4_o),Heap.nil)|12,6=>some (LV.v x12_6,Heap.nil)|14,3=>some (LV.v (AV.ptr x14_3_i x14_3_o),Heap.nil)|14,5=>some (LV.v x14_5,Heap.nil)|14,7=>some (LV.v (AV.ptr x14_7_i x14_7_o),Heap.nil)|14,8=>some (LV.ud,x14_8h)|_,_=>none,false⟩) (tA t1 (tA tN (tA k0 (tA t1 (tA tN (tA t0 (tA k1 (tA k2 (tA (tS k3) (tA t1 (tA tN (tA k4 (tA t1 (tA tN (tA t0 (tA k5 (tA t1 (tA tN (tA k6 (tA t1 (tA t0 (tA tU (tA t1 (tA k7 (tA t1 (k8)))))))))))))))))))))))))) (by kernel_rfl)
theorem Qra {m:Int}{T a1 a2 a3 a4 lo a6 e:AV}{hd:Bool}{f:Int}{ty im fu ta me gl ex el da cu:List (List AV)}{st:Int}{i k:Int}{h:Heap}{x12_4_i:Nat}{x12_4_o:Nat}{x12_6:AV}{x12_7:Int}{r:LV×Heap}(k0:ixP T i 2=some (AV.ptr x12_4_i x12_4_o))(k1:ldP h (AV.ptr x12_4_i x12_4_o) 1 false=some x12_6)(k2:lnS x12_6=some x12_7)(k3:ltZ k x12_7=false)(k4:(blk (cxL m)) 5 (at_ Tryz.prog 5 9) [LV.v (AV.int IntKind.i64 f),LV.lp 0 0,LV.v (AV.bool hd),LV.lp 1 0,LV.lp 2 0,LV.v e,LV.v (AV.int IntKind.i64 (IntKind.wrap IntKind.i64 (i+Int.ofNat 1))),LV.v (AV.imm ty),LV.v (AV.imm im),LV.v (AV.imm fu),LV.v (AV.imm ta),LV.v (AV.imm me),LV.v (AV.imm gl),LV.v (AV.imm ex),LV.v (AV.int IntKind.i64 st),LV.v (AV.imm el),LV.v (AV.imm da),LV.v (AV.imm cu),LV.v (AV.imm ty),LV.v (AV.imm im),LV.v (AV.imm fu),LV.v (AV.imm ta),LV.v (AV.imm me),LV.v (AV.imm gl),LV.v (AV.imm ex),LV.v (AV.int IntKind.i64 st),LV.v (AV.imm el),LV.v (AV.imm da),LV.v (AV.imm cu),LV.v T,LV.v a1,LV.v a2,LV.v a3,LV.v a4,LV.v lo,LV.v a6] h=some r):
 blk (cxL m) 5 (at_ Tryz.prog 5 12) [.v (.int .i64 f),.lp 0 0,.v (.bool hd),.lp 1 0,.lp 2 0,.v e,.v (.int .i64 i),.v (.int .i64 k),.v (.imm ty),.v (.imm im),.v (.imm fu),.v (.imm ta),.v (.imm me),.v (.imm gl),.v (.imm ex),.v (.int .i64 st),.v (.imm el),.v (.imm da),.v (.imm cu),.v (.imm ty),.v (.imm im),.v (.imm fu),.v (.imm ta),.v (.imm me),.v (.imm gl),.v (.imm ex),.v (.int .i64 st),.v (.imm el),.v (.imm da),.v (.imm cu),.v T,.v a1,.v a2,.v a3,.v a4,.v lo,.v a6] h=some r:=
 Qdb (scr:=⟨fun x=>match x with|1099998=>some false|_=>none,fun x y=>match x,y with|12,7=>some (LV.v (AV.int Go.IntKind.i64 x12_7))|_,_=>none,fun x y=>match x,y with|12,4=>some (LV.v (AV.ptr x12_4_i x12_4_o),Heap.nil)|12,6=>some (LV.v x12_6,Heap.nil)|_,_=>none,false⟩) (tA t1 (tA tN (tA k0 (tA t1 (tA tN (tA t0 (tA k1 (tA k2 (tA (tS k3) (tA t1 (k4))))))))))) (by kernel_rfl)
end Go.Proofs.YtoblgjmllmomhaaGreatDoor.L
namespace Go.Proofs.YtoblgjmllmomhaaGreatDoor.L
set_option maxRecDepth 100000
open Go Go.Proofs.Am
theorem Qq9 {m:Int}{T a1 a2 a3 a4 lo a6 e:AV}{hd:Bool}{f:Int}{ty im fu ta me gl ex el da cu:List (List AV)}{st:Int}{i:Int}{h:Heap}{x16_3:Int}{x18_3_i:Nat}{x18_3_o:Nat}{x18_4h:Heap}{r:LV×Heap}(k0:lnS lo=some x16_3)(k1:ltZ i x16_3=true)(k2:ixP lo i 1=some (AV.ptr x18_3_i x18_3_o))(k3:stP h (AV.ptr x18_3_i x18_3_o) [LV.v (AV.int IntKind.i64 (Int.ofNat 9))]=some x18_4h)(k4:(blk (cxL m)) 5 (at_ Tryz.prog 5 16) [LV.v (AV.int IntKind.i64 f),LV.lp 0 0,LV.v (AV.bool hd),LV.lp 1 0,LV.lp 2 0,LV.v e,LV.v (AV.int IntKind.i64 (IntKind.wrap IntKind.i64 (i+Int.ofNat 1))),LV.v (AV.imm ty),LV.v (AV.imm im),LV.v (AV.imm fu),LV.v (AV.imm ta),LV.v (AV.imm me),LV.v (AV.imm gl),LV.v (AV.imm ex),LV.v (AV.int IntKind.i64 st),LV.v (AV.imm el),LV.v (AV.imm da),LV.v (AV.imm cu),LV.v (AV.imm ty),LV.v (AV.imm im),LV.v (AV.imm fu),LV.v (AV.imm ta),LV.v (AV.imm me),LV.v (AV.imm gl),LV.v (AV.imm ex),LV.v (AV.int IntKind.i64 st),LV.v (AV.imm el),LV.v (AV.imm da),LV.v (AV.imm cu),LV.v T,LV.v a1,LV.v a2,LV.v a3,LV.v a4,LV.v lo,LV.v a6] x18_4h=some r):
 blk (cxL m) 5 (at_ Tryz.prog 5 16) [.v (.int .i64 f),.lp 0 0,.v (.bool hd),.lp 1 0,.lp 2 0,.v e,.v (.int .i64 i),.v (.imm ty),.v (.imm im),.v (.imm fu),.v (.imm ta),.v (.imm me),.v (.imm gl),.v (.imm ex),.v (.int .i64 st),.v (.imm el),.v (.imm da),.v (.imm cu),.v (.imm ty),.v (.imm im),.v (.imm fu),.v (.imm ta),.v (.imm me),.v (.imm gl),.v (.imm ex),.v (.int .i64 st),.v (.imm el),.v (.imm da),.v (.imm cu),.v T,.v a1,.v a2,.v a3,.v a4,.v lo,.v a6] h=some r:=
 Qdb (scr:=⟨fun x=>match x with|1099998=>some true|_=>none,fun x y=>match x,y with|16,3=>some (LV.v (AV.int Go.IntKind.i64 x16_3))|_,_=>none,fun x y=>match x,y with|18,3=>some (LV.v (AV.ptr x18_3_i x18_3_o),Heap.nil)|18,4=>some (LV.ud,x18_4h)|_,_=>none,false⟩) (tA k0 (tA (tS k1) (tA t1 (tA tN (tA k2 (tA t1 (tA t0 (tA tU (tA t1 (tA k3 (tA t1 (k4)))))))))))) (by kernel_rfl)
theorem Qj0 {m:Int}{T a1 a2 a3 a4 lo a6 e:AV}{hd:Bool}{f:Int}{ty im fu ta me gl ex el da cu:List (List AV)}{st:Int}{i:Int}{h:Heap}{x16_3:Int}{x19_2_r0_0:AV}{x19_2_r0_1:AV}{x19_2_r0_2:AV}{x19_2_r0_3:Bool}{x19_2_r0_4:Bool}{x19_2_r0_5:AV}{x19_2_r0_6:Int}{x19_2_r1:AV}{x19_2h:Heap}{x20_4:Bool}{x20_4h:Heap}{x20_8:Bool}{x20_10:Bool}{x20_16:Int}{x20_19:Int}(k0:lnS lo=some x16_3)(k1:ltZ i x16_3=false)(k2:Qab (cxL m) (blk (cxL m)) 17 [LV.v (AV.agg [AV.imm ty,AV.imm im,AV.imm fu,AV.imm ta,AV.imm me,AV.imm gl,AV.imm ex,AV.int IntKind.i64 st,AV.imm el,AV.imm da,AV.imm cu]),LV.v (AV.int IntKind.i64 f)] h=some (LV.tup [AV.agg [x19_2_r0_0,x19_2_r0_1,x19_2_r0_2,AV.bool x19_2_r0_3,AV.bool x19_2_r0_4,x19_2_r0_5,AV.int IntKind.i64 x19_2_r0_6],x19_2_r1],x19_2h))(k3:hd=true)(k4:Qab (cxL m) (blk (cxL m)) 18 [LV.v (AV.agg [AV.imm ty,AV.imm im,AV.imm fu,AV.imm ta,AV.imm me,AV.imm gl,AV.imm ex,AV.int IntKind.i64 st,AV.imm el,AV.imm da,AV.imm cu]),LV.v (AV.agg [AV.imm ty,AV.imm im,AV.imm fu,AV.imm ta,AV.imm me,AV.imm gl,AV.imm ex,AV.int IntKind.i64 st,AV.imm el,AV.imm da,AV.imm cu])] x19_2h=some (LV.v (AV.bool x20_4),x20_4h))(k5:x20_4=true)(k6:QcF (Cx.P (cxL m)) BinOp.eql 33 true e AV.nilI=some (AV.bool x20_8))(k7:QcF (Cx.P (cxL m)) BinOp.eql 33 true x19_2_r1 AV.nilI=some (AV.bool x20_10))(k8:(x20_8==x20_10)=true)(k9:lnS x19_2_r0_5=some x20_16)(k10:lnS lo=some x20_19):
 blk (cxL m) 5 (at_ Tryz.prog 5 16) [.v (.int .i64 f),.lp 0 0,.v (.bool hd),.lp 1 0,.lp 2 0,.v e,.v (.int .i64 i),.v (.imm ty),.v (.imm im),.v (.imm fu),.v (.imm ta),.v (.imm me),.v (.imm gl),.v (.imm ex),.v (.int .i64 st),.v (.imm el),.v (.imm da),.v (.imm cu),.v (.imm ty),.v (.imm im),.v (.imm fu),.v (.imm ta),.v (.imm me),.v (.imm gl),.v (.imm ex),.v (.int .i64 st),.v (.imm el),.v (.imm da),.v (.imm cu),.v T,.v a1,.v a2,.v a3,.v a4,.v lo,.v a6] h=some ((LV.v (AV.bool (eqZ x20_16 x20_19)),x20_4h)):=
 Qdb (scr:=⟨fun x=>match x with|1099998=>some false|75=>some true|80=>some true|87=>some true|_=>none,fun x y=>match x,y with|16,3=>some (LV.v (AV.int Go.IntKind.i64 x16_3))|20,8=>some (LV.v (AV.bool x20_8))|20,10=>some (LV.v (AV.bool x20_10))|20,16=>some (LV.v (AV.int Go.IntKind.i64 x20_16))|20,19=>some (LV.v (AV.int Go.IntKind.i64 x20_19))|_,_=>none,fun x y=>match x,y with|19,2=>some (LV.tup [(AV.agg [x19_2_r0_0,x19_2_r0_1,x19_2_r0_2,(AV.bool x19_2_r0_3),(AV.bool x19_2_r0_4),x19_2_r0_5,(AV.int Go.IntKind.i64 x19_2_r0_6)]),x19_2_r1],x19_2h)|20,4=>some (LV.v (AV.bool x20_4),x20_4h)|_,_=>none,false⟩) (tA k0 (tA (tS k1) (tA k2 (tA (tS k3) (tA tT (tA tT (tA k4 (tA tT (tA (tS k5) (tA tT (tA k6 (tA tT (tA tT (tA k7 (tA tT (tA tT (tA (tS k8) (tA tT (tA tT (tA k9 (tA tT (tA tT (tA tT (tA k10 (tA tT (tA tT (tR ((LV.v (AV.bool (eqZ x20_16 x20_19)),x20_4h))))))))))))))))))))))))))))) (by kernel_rfl)
end Go.Proofs.YtoblgjmllmomhaaGreatDoor.L
namespace Go.Proofs.YtoblgjmllmomhaaGreatDoor.L
set_option maxRecDepth 100000
open Go Go.Proofs.Am
def SlH (h:Heap)(t:Nat)(a:AV)(n:Nat):Prop:=(n=0∧lnS a=some 0)∨∃j bx,j≠t∧a=.arr 1 j 0 n∧h.bx[j]? =some bx∧n≤bx.length
def LoH (h:Heap)(a:AV)(n:Nat):Prop:=(n=0∧lnS a=some 0)∨∃j bx,a=.arr 1 j 0 n∧h.bx[j]? =some bx∧n≤bx.length
def TyR (h:Heap)(t:Nat)(rows:List (List AV)):Prop:=h.bx[t]? =some (Qal rows)∧∀row,row∈rows→∃p r n,row=[p,r]∧n*8≤140737488351232∧SlH h t p n
theorem SlH.ln {h:Heap}{t:Nat}{a:AV}{n:Nat}(H:SlH h t a n):lnS a=some (n:Int):=by
 rcases H with⟨rfl,e⟩|⟨j,bx,_,rfl,_,_⟩
 ·exact e
 ·rfl
theorem LoH.ln {h:Heap}{a:AV}{n:Nat}(H:LoH h a n):lnS a=some (n:Int):=by
 rcases H with⟨rfl,e⟩|⟨j,bx,rfl,_,_⟩
 ·exact e
 ·rfl
section
variable {h:Heap} {j:Nat} {bx b':List LV} (hb:h.bx[j]? =some bx) (hl:b'.length=bx.length)
include hb hl
theorem LoH.put {a:AV}{n:Nat}(H:LoH h a n):LoH (h.put j b') a n:=by
 rcases H with H|⟨k,c,e1,e2,e3⟩
 ·exact .inl H
 ·by_cases e:j=k
  ·subst e
   rw[hb]at e2;cases e2
   exact .inr ⟨j,b',e1,Qbd hb,by omega⟩
  ·exact .inr ⟨k,c,e1,by rw[QdZ e];exact e2,e3⟩
theorem SlH.put {t:Nat}{a:AV}{n:Nat}(H:SlH h t a n):SlH (h.put j b') t a n:=by
 rcases H with H|⟨k,c,e0,e1,e2,e3⟩
 ·exact .inl H
 ·by_cases e:j=k
  ·subst e
   rw[hb]at e2;cases e2
   exact .inr ⟨j,b',e0,e1,Qbd hb,by omega⟩
  ·exact .inr ⟨k,c,e0,e1,by rw[QdZ e];exact e2,e3⟩
theorem TyR.put {t:Nat}{rows:List (List AV)}(H:TyR h t rows)(ht:j≠t):TyR (h.put j b') t rows:=by
 refine⟨by rw[QdZ ht];exact H.1,fun row hr=>?_⟩
 obtain⟨p,r,n,e1,e2,e3⟩:=H.2 row hr
 exact⟨p,r,n,e1,e2,e3.put hb hl⟩
end
theorem Qej:∀{rows:List (List AV)} {i:Nat} {p r:AV},(∀row,row∈rows→∃p r:AV,row=[p,r])→rows[i]? =some [p,r]→(Qal rows)[i*2]? =some (.v p)
 |[],_,_,_,_,hi=>by simp at hi
 |x::rows,0,p,r,h,hi=>by
  simp only[List.getElem?_cons_zero,Option.some.injEq]at hi
  subst hi
  rfl
 |x::rows,i+1,p,r,h,hi=>by
  obtain⟨p',r',rfl⟩:=h x (List.mem_cons_self ..)
  have ih:=Qej (rows:=rows) (i:=i) (fun row hr=>h row (List.mem_cons_of_mem _ hr)) (by simpa using hi)
  show(LV.v p'::LV.v r'::Qal rows)[(i+1)*2]? =_
  rw[show(i+1)*2=i*2+1+1 by omega,List.getElem?_cons_succ,List.getElem?_cons_succ]
  exact ih
theorem TyR.pairs {h:Heap}{t:Nat}{rows:List (List AV)}(H:TyR h t rows):∀row,row∈rows→∃p r:AV,row=[p,r]:=fun row hr=>by
 obtain⟨p,r,_,e,_⟩:=H.2 row hr
 exact⟨p,r,e⟩
abbrev P5 (M:Mdl)(f:Int)(e:AV)(l:List LV)(S:List LV):List LV:=[.v (.int .i64 f),.lp 0 0,.v (.bool true),.lp 1 0,.lp 2 0,.v e]++(l++(mC M++(mC M++S)))
abbrev S5 (T a1 a2 a3 a4 lo a6:AV):List LV:=[.v T,.v a1,.v a2,.v a3,.v a4,.v lo,.v a6]
section
variable {m:Int} {M:Mdl} {f:Int} {e a1 a2 a3 a4 lo a6:AV} {t N L:Nat} {rows:List (List AV)}
theorem QvY (hN:rows.length=N)(hN2:N≤1000){i:Nat}{p rr:AV}{n:Nat}(hi:rows[i]? =some [p,rr])(hn:n*8≤140737488351232):∀(d k:Nat) (h:Heap),k+d=n→TyR h t rows→SlH h t p n→LoH h lo L→h.bx≠[]→
 ∃h',TyR h' t rows∧LoH h' lo L∧h'.bx≠[]∧∀r,blk (cxL m) 5 (at_ Tryz.prog 5 9) (P5 M f e [.v (.int .i64 ((i+1:Nat):Int))] (S5 (.arr 2 t 0 N) a1 a2 a3 a4 lo a6)) h'=some r→
  blk (cxL m) 5 (at_ Tryz.prog 5 12) (P5 M f e [.v (.int .i64 (i:Int)),.v (.int .i64 (k:Int))] (S5 (.arr 2 t 0 N) a1 a2 a3 a4 lo a6)) h=some r:=by
 have hlt:i<N:=by rw[←hN];exact(List.getElem?_eq_some_iff.1 hi).1
 have k0:=Qd6 (n:=2) (id:=t) (len:=N) (i:=(i:Int)) (k:=i) rfl hlt
 intro d
 induction d with
 |zero=>
  intro k h hk HT HS HL hne
  obtain rfl:k=n:=by omega
  have k1:ldP h (.ptr t (i*2)) 1 false=some p:=QcQ HT.1 (Qej HT.pairs hi)
  refine⟨h,HT,HL,hne,fun r hr=>Qra (k0:=k0) (k1:=k1) (k2:=HS.ln) (k3:=Qaf (Int.le_refl _)) (k4:=?_)⟩
  rw[show IntKind.wrap .i64 ((i:Int)+Int.ofNat 1)=((i+1:Nat):Int)from by rw[ofN,Qcl (by unfold InZ;omega)];omega]
  exact hr
 |succ d ih=>
  intro k h hk HT HS HL hne
  have k1:ldP h (.ptr t (i*2)) 1 false=some p:=QcQ HT.1 (Qej HT.pairs hi)
  have HS0:=HS
  rcases HS with⟨rfl,_⟩|⟨j,bx,hj,rfl,hb,hl⟩
  ·omega
  ·have kp:=Qd6 (n:=1) (id:=j) (len:=n) (i:=(k:Int)) (k:=k) rfl (by omega)
   have hst:=QbY (x:=.v (.int .i64 (Int.ofNat 9))) hb (k:=k*1) (by omega)
   have hlen:(bx.set (k*1) (LV.v (.int .i64 (Int.ofNat 9)))).length=bx.length:=List.length_set
   obtain⟨h',H1,H2,H3,H4⟩:=ih (k+1) (h.put j (bx.set (k*1) (.v (.int .i64 (Int.ofNat 9))))) (by omega) (HT.put hb hlen hj) (HS0.put hb hlen) (HL.put hb hlen) (fun e0=>by have:=Qbd (bx:=bx.set (k*1) (LV.v (.int .i64 (Int.ofNat 9)))) hb;rw[e0]at this;simp at this)
   refine⟨h',H1,H2,H3,fun r hr=>Qrb (k0:=k0) (k1:=k1) (k2:=HS0.ln) (k3:=Qae (by omega)) (k4:=k0) (k5:=k1) (k6:=kp) (k7:=hst) (k8:=?_)⟩
   rw[show IntKind.wrap .i64 ((k:Int)+Int.ofNat 1)=((k+1:Nat):Int)from by rw[ofN,Qcl (by unfold InZ;omega)];omega]
   exact H4 r hr
theorem QBf (hN:rows.length=N)(hN2:N≤1000):∀(d i:Nat) (h:Heap),i+d=N→TyR h t rows→LoH h lo L→h.bx≠[]→
 ∃h',LoH h' lo L∧h'.bx≠[]∧∀r,blk (cxL m) 5 (at_ Tryz.prog 5 16) (P5 M f e [.v (.int .i64 ((0:Nat):Int))] (S5 (.arr 2 t 0 N) a1 a2 a3 a4 lo a6)) h'=some r→
  blk (cxL m) 5 (at_ Tryz.prog 5 9) (P5 M f e [.v (.int .i64 (i:Int))] (S5 (.arr 2 t 0 N) a1 a2 a3 a4 lo a6)) h=some r:=by
 intro d
 induction d with
 |zero=>
  intro i h hi HT HL hne
  exact⟨h,HL,hne,fun r hr=>QjZ (k0:=rfl) (k1:=Qaf (by omega)) (k2:=hr)⟩
 |succ d ih=>
  intro i h hi HT HL hne
  have hlt:i<rows.length:=by omega
  have hx:rows[i]? =some rows[i]:=List.getElem?_eq_getElem hlt
  obtain⟨p,rr,n,e1,hn,HS⟩:=HT.2 _ (List.getElem_mem hlt)
  rw[e1]at hx
  obtain⟨h1,T1,L1,n1,g1⟩:=QvY (m:=m) (M:=M) (f:=f) (e:=e) (a1:=a1) (a2:=a2) (a3:=a3) (a4:=a4) (a6:=a6) hN hN2 hx hn n 0 h (by omega) HT HS HL hne
  obtain⟨h2,L2,n2,g2⟩:=ih (i+1) h1 (by omega) T1 L1 n1
  exact⟨h2,L2,n2,fun r hr=>QvH (k0:=rfl) (k1:=Qae (by omega)) (k2:=g1 r (g2 r hr))⟩
theorem QvX {T:AV}(hL2:L*8≤281474976710656):∀(d i:Nat) (h:Heap),i+d=L→LoH h lo L→h.bx≠[]→
 ∃h',h'.bx≠[]∧∀r,blk (cxL m) 5 (at_ Tryz.prog 5 16) (P5 M f e [.v (.int .i64 (L:Int))] (S5 T a1 a2 a3 a4 lo a6)) h'=some r→
  blk (cxL m) 5 (at_ Tryz.prog 5 16) (P5 M f e [.v (.int .i64 (i:Int))] (S5 T a1 a2 a3 a4 lo a6)) h=some r:=by
 intro d
 induction d with
 |zero=>
  intro i h hi HL hne
  obtain rfl:i=L:=by omega
  exact⟨h,hne,fun r hr=>hr⟩
 |succ d ih=>
  intro i h hi HL hne
  have HL0:=HL
  rcases HL with⟨rfl,_⟩|⟨j,bx,rfl,hb,hl⟩
  ·omega
  ·have kp:=Qd6 (n:=1) (id:=j) (len:=L) (i:=(i:Int)) (k:=i) rfl (by omega)
   have hst:=QbY (x:=.v (.int .i64 (Int.ofNat 9))) hb (k:=i*1) (by omega)
   have hlen:(bx.set (i*1) (LV.v (.int .i64 (Int.ofNat 9)))).length=bx.length:=List.length_set
   obtain⟨h',H3,H4⟩:=ih (i+1) (h.put j (bx.set (i*1) (.v (.int .i64 (Int.ofNat 9))))) (by omega) (HL0.put hb hlen) (fun e0=>by have:=Qbd (bx:=bx.set (i*1) (LV.v (.int .i64 (Int.ofNat 9)))) hb;rw[e0]at this;simp at this)
   refine⟨h',H3,fun r hr=>Qq9 (k0:=rfl) (k1:=Qae (by omega)) (k2:=kp) (k3:=hst) (k4:=?_)⟩
   rw[show IntKind.wrap .i64 ((i:Int)+Int.ofNat 1)=((i+1:Nat):Int)from by rw[ofN,Qcl (by unfold InZ;omega)];omega]
   exact H4 r hr
end
end Go.Proofs.YtoblgjmllmomhaaGreatDoor.L
namespace Go.Proofs.YtoblgjmllmomhaaGreatDoor.L
set_option maxRecDepth 100000
open Go Go.Proofs.Am
section
variable {m:Int} {M:Mdl} {f:Int}
abbrev E5:LV:=.tup [.agg [.imm [],.imm [],.imm [],.bool false,.bool false,.imm [],.int .i64 (Int.ofNat 0)],.ifc 56 (.int .i64 (Int.ofNat 5))]
theorem Qyc (hS:Small M)(hL:Qmd M)(f:Int):(∃g y,Fn M f g y)∨∃h1 h2,blk (H.cxZ m) 17 (QaE Tryz.prog 17) [eM M,.v (.int .i64 f)] Heap.nil=some (E5,h1)∧h1.bx≠[]∧blk (cxZ m) 17 (QaE Tryz.prog 17) [eM M,.v (.int .i64 f)] Heap.nil=some (E5,h2):=by
 by_cases h0:f<0
 ·exact .inr ⟨_,_,H.h6_0 (k0:=Qae (by rw[ofN];exact h0)),by simp,QCL (k0:=Qae (by rw[ofN];exact h0))⟩
 have k0:ltZ f (Int.ofNat 0)=false:=Qaf (by rw[ofN];omega)
 by_cases h1:(M.fu.length:Int)≤f
 ·have k1:leZ (Int.ofNat (M.fu.map MFn.enc).length) f=true:=Qbi (by rw[List.length_map,ofN];exact h1)
  exact .inr ⟨_,_,H.h6_1 (k0:=k0) (k1:=k1),by simp,QCK (k0:=k0) (k1:=k1)⟩
 have k1:leZ (Int.ofNat (M.fu.map MFn.enc).length) f=false:=Qcy (by rw[List.length_map,ofN];omega)
 have hlt:f.toNat<M.fu.length:=by omega
 have hg:M.fu[f.toNat]? =some M.fu[f.toNat]:=List.getElem?_eq_getElem hlt
 generalize M.fu[f.toNat]=g at hg
 have k2:ixA (.imm (M.fu.map MFn.enc)) f 3=some g.enc:=Qa3 (by omega) hg g.enc_len
 cases hy:Qex M g.t with
 |some y=>exact .inl ⟨g,y,hS,hL,by omega,hg,hy⟩
 |none=>
  rcases QdR hy with e1|⟨e1,e2⟩
  ·exact .inr ⟨_,_,H.h6_2 (k0:=k0) (k1:=k1) (k2:=k2) (k3:=e1),by simp,QCJ (k0:=k0) (k1:=k1) (k2:=k2) (k3:=e1)⟩
  ·exact .inr ⟨_,_,H.h6_3 (k0:=k0) (k1:=k1) (k2:=k2) (k3:=e1) (k4:=k2) (k5:=e2),by simp,QCI (k0:=k0) (k1:=k1) (k2:=k2) (k3:=e1) (k4:=k2) (k5:=e2)⟩
theorem QwO {x:LV}{h1:Heap}(h:blk (H.cxZ m) 17 (QaE Tryz.prog 17) [eM M,.v (.int .i64 f)] Heap.nil=some (x,h1)):Qab (cxL m) (blk (cxL m)) 17 [eM M,.v (.int .i64 f)] Heap.nil=some (x,h1):=
 QaX (e:=scE m) rfl rfl rfl h
theorem Qvy {x:LV}{h2 h:Heap}(hx:blk (cxZ m) 17 (QaE Tryz.prog 17) [eM M,.v (.int .i64 f)] Heap.nil=some (x,h2))(hn:x.np=true)(hne:h.bx≠[]):Qab (cxL m) (blk (cxL m)) 17 [eM M,.v (.int .i64 f)] h=some (x,h):=by
 refine QaX (e:=scE m) rfl rfl rfl ?_
 have h0:sc0 m [eM M,.v (.int .i64 f)]=some x:=by
  unfold sc0
  rw[QrT M f,cond_true]
  have:QfT (cxZ m) 17 [eM M,.v (.int .i64 f)] Heap.nil=some (x,h2):=hx
  rw[this,Option.bind_some]
  simp only[hn,cond_true]
 unfold scE
 cases e:h.bx with
 |nil=>exact absurd e hne
 |cons a l=>
  simp only[h0,Option.bind_some]
theorem QBF {q:Bool}{h:Heap}(hq:QbM m 14 [eM M] h=some (.v (.bool q),h)):Qab (cxL m) (blk (cxL m)) 14 [eM M] h=some (.v (.bool q),h):=
 QaX (e:=QfT (cxZ m) 14) rfl rfl rfl (run_eq Tryz.func14 (by kernel_rfl) rfl rfl rfl hq)
theorem Qw8 (hF:M.Fit)(h:Heap):Qab (cxL m) (blk (cxL m)) 16 [eM M] h=some (eM M,h):=
 QaX (e:=QfT (cxZ m) 16) rfl rfl rfl (run_eq Tryz.func16 (by kernel_rfl) rfl rfl rfl (t17 m hF h))
theorem QoR (hF:M.Fit)(h:Heap):Qab (cxL m) (blk (cxL m)) 18 [eM M,eM M] h=some (.v (.bool true),h):=
 QaX (e:=QfT (cxZ m) 18) rfl rfl rfl (run_eq Tryz.func18 (by kernel_rfl) rfl rfl rfl (QCT m hF h))
theorem Qs2 (hB:Bk M)(hS:Small M)(hL:Qmd M)(h:Heap):Qab (cxL m) (blk (cxL m)) 15 [eM M] h=some (.v (Qcm (Qpj m M)),h):=
 QaX (e:=QfT (cxZ m) 15) rfl rfl rfl (run_eq Tryz.func15 (by kernel_rfl) rfl rfl rfl (QgX hB hS hL h))
theorem nil_eq:QcF (Cx.P (cxL m)) BinOp.eql 33 true .nilI .nilI=some (.bool true):=by kernel_rfl
theorem Qpf:QcF (Cx.P (cxL m)) BinOp.eql 33 true (.ifc 56 (.int .i64 (Int.ofNat 5))) .nilI=some (.bool false):=by kernel_rfl
theorem blk5 (hF:M.Fit)(hB:Bk M)(f:Int):∃h',blk (cxL m) 5 (QaE Tryz.prog 5) [eM M,.v (.int .i64 f)] Heap.nil=some (.v (.bool true),h'):=by
 obtain⟨q,hq,hfew⟩:=t10 m hF
 have c0:=QBF (hfew Heap.nil)
 cases q with
 |false=>exact⟨_,QC0 (k0:=c0) (k1:=rfl)⟩
 |true=>
  obtain⟨hS,hL⟩:=hq rfl
  have c1:=Qw8 (m:=m) hF Heap.nil
  have c2:=Qs2 (m:=m) hB hS hL Heap.nil
  rcases Qyc (m:=m) hS hL f with⟨g,y,hFn⟩|⟨h1,h2,e1,hne,e2⟩
  ·obtain⟨x,h1,e1,T,fa,ga,lo,q1,q2,z,rest,d0,d1,rfl,hbx,hT,hlo⟩:=H.scope_some (m:=m) hFn
   obtain⟨h2,e2⟩:=QjL m hFn
   have e2:=run_eq (cx:=cxZ m) Tryz.func17 (by kernel_rfl) rfl rfl rfl e2
   have hne:h1.bx≠[]:=by rw[hbx];simp
   have hLo:LoH h1 lo (y.p.length+g.l.length):=by
    rcases hlo with H|⟨j,bx,k1,k2,k3⟩
    ·exact .inl H
    ·exact .inr ⟨j+2,bx,k1,by rw[hbx];exact k2,k3⟩
   have hp:=hFn.hp
   have hl:=hFn.hl
   have fin:∀(h:Heap),LoH h lo (y.p.length+g.l.length)→h.bx≠[]→∃h',blk (cxL m) 5 (at_ Tryz.prog 5 16) (P5 M f .nilI [.v (.int .i64 ((0:Nat):Int))] (S5 T fa ga (.bool q1) (.bool q2) lo (.int .i64 z))) h=some (.v (.bool true),h'):=by
    intro h HL hn
    obtain⟨h3,n3,g3⟩:=QvX (m:=m) (M:=M) (f:=f) (e:=.nilI) (a1:=fa) (a2:=ga) (a3:=.bool q1) (a4:=.bool q2) (a6:=.int .i64 z) (T:=T) (by omega) _ 0 h (Nat.zero_add _) HL hn
    have c4:=Qvy (m:=m) e2 (by rw[QjX];exact Qv4 _) n3
    have kl:lnS (.imm (Qah (y.p++g.l)))=some ((y.p.length+g.l.length:Nat):Int):=by
     show some (Int.ofNat (Qah (y.p++g.l)).length)=_
     rw[Qac,List.length_append];rfl
    have:=Qj0 (m:=m) (T:=T) (a1:=fa) (a2:=ga) (a3:=.bool q1) (a4:=.bool q2) (a6:=.int .i64 z) (k0:=hLo.ln) (k1:=Qaf (Int.le_refl _)) (k2:=c4) (k3:=rfl) (k4:=QoR hF h3) (k5:=rfl) (k6:=nil_eq) (k7:=nil_eq) (k8:=rfl) (k9:=kl) (k10:=hLo.ln)
    rw[QaC rfl]at this
    exact⟨_,g3 _ this⟩
   have c3:=QwO (m:=m) e1
   rcases hT with⟨h0,rfl⟩|⟨t,rows,h0,rfl,e3,e4,e5⟩
   ·obtain⟨h',e⟩:=fin h1 hLo hne
    exact⟨h',QAz (k0:=c0) (k1:=rfl) (k2:=c1) (k3:=c2) (k4:=c3) (k5:=QjZ (k0:=rfl) (k1:=rfl) (k2:=e))⟩
   ·have HT:TyR h1 (t+2) rows:=by
     refine⟨by rw[hbx];exact e3,fun row hr=>?_⟩
     obtain⟨p,r,n,k1,k2,k3⟩:=e5 row hr
     refine⟨p,r,n,k1,k2,?_⟩
     rcases k3 with H|⟨j,bx,j0,j1,j2,j3⟩
     ·exact .inl H
     ·exact .inr ⟨j+2,bx,by omega,j1,by rw[hbx];exact j2,j3⟩
    have hty:=hS.ty
    obtain⟨h2',L2,n2,g2⟩:=QBf (m:=m) (M:=M) (f:=f) (e:=.nilI) (a1:=fa) (a2:=ga) (a3:=.bool q1) (a4:=.bool q2) (a6:=.int .i64 z) e4 (by omega) _ 0 h1 (Nat.zero_add _) HT hLo hne
    obtain⟨h',e⟩:=fin h2' L2 n2
    exact⟨h',QAz (k0:=c0) (k1:=rfl) (k2:=c1) (k3:=c2) (k4:=c3) (k5:=g2 _ e)⟩
  ·have c3:=QwO (m:=m) e1
   have c4:=Qvy (m:=m) e2 rfl hne
   have:=Qj0 (m:=m) (T:=.imm []) (a1:=.imm []) (a2:=.imm []) (a3:=.bool false) (a4:=.bool false) (lo:=.imm []) (a6:=.int .i64 (Int.ofNat 0)) (i:=Int.ofNat 0) (k0:=rfl) (k1:=rfl) (k2:=c4) (k3:=rfl) (k4:=QoR hF h1) (k5:=rfl) (k6:=Qpf) (k7:=Qpf) (k8:=rfl) (k9:=rfl) (k10:=rfl)
   exact⟨_,QAz (k0:=c0) (k1:=rfl) (k2:=c1) (k3:=c2) (k4:=c3) (k5:=QjZ (k0:=rfl) (k1:=rfl) (k2:=this))⟩
end
end Go.Proofs.YtoblgjmllmomhaaGreatDoor.L
