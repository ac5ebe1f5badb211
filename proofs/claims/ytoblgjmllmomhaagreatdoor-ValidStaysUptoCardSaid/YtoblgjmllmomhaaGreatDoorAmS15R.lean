/-
  A range over slices.Backward of whole numbers: the iterator's contract.
-/
import Derived.RangeFuncNested
import Derived.RangeFuncBound
import Derived.RangeFuncCalls
import Derived.RangeFuncLeaves
import Derived.Shelf.Abstract
import Derived.Shelf.RegionOpen
import Derived.WalkKit
import Derived.OwnWalkIn
import Derived.TacticsInMore
import Derived.LoopNIn
import Derived.LoopIn
import Derived.Test.YtoblgjmllmomhaaGreatDoorProg
namespace Go.Proofs.YtoblgjmllmomhaaGreatDoor
open Go Go.RowKit Go.Shelf
attribute [local go_sem] Oper.semAt_some
def QiP {α:Type}(f:Nat→α)(k:Nat):List α:=(List.range k).map f
theorem QfY {α:Type}(f:Nat→α)(k:Nat):QiP f (k+1)=QiP f k++[f k]:=by simp[QiP,List.range_succ]
theorem QdQ {α:Type}(f:Nat→α)(k:Nat):(QiP f k).length=k:=by simp[QiP]
def Kpt (Bs b off len:Nat)(A B:World):Prop:=(∀v,A.cell? ⟨Bs,0,none⟩=some v→B.cell? ⟨Bs,0,none⟩=some v)∧∀j v,j<len→A.cell? ⟨b,off+j,none⟩=some v→B.cell? ⟨b,off+j,none⟩=some v
theorem Kpt.refl (Bs b off len:Nat)(A:World):Kpt Bs b off len A A:=⟨fun _ h=>h,fun _ _ _ h=>h⟩
theorem Kpt.trans {Bs b off len:Nat}{A B C:World}(h:Kpt Bs b off len A B)(k:Kpt Bs b off len B C):Kpt Bs b off len A C:=⟨fun v hv=>k.1 v (h.1 v hv),fun j v hj hv=>k.2 j v hj (h.2 j v hj hv)⟩
set_option maxRecDepth 100000 in
set_option maxHeartbeats 2000000 in
theorem Qox (F:Fence)(n:Nat)(h55:F.fn 122)(hro:F.round=none)(hn:1≤n)(l Bs b off len cap:Nat)(zs:List Int)(hreach:len*8≤140737488351232)(J Jx:List (Nat×Int)→World→Prop)
 (hY:∀pre x W,J pre W→pre.length<len→YieldAt F (n-1) Tryz.prog l #[.int .i64 (x.1:Int),.int .i64 x.2] W fun e W'=>
  (e=.returned (.bool true)∧J (pre++[x]) W'∧Kpt Bs b off len W W')∨(e=.returned (.bool false)∧Jx (pre++[x]) W'))
 (W:World)(hBs:W.cell? ⟨Bs,0,none⟩=some (.slice (some ⟨b,off,none⟩) len cap))(hc:∀j,j<len→W.cell? ⟨b,off+j,none⟩=some (.int .i64 (zs[j]?.getD 0)))(h0:J [] W):
 CallsIn F n Tryz.prog 122 #[.func (.yield l) #[] #[],.pointer (some ⟨Bs,0,none⟩)] W fun e W'=>(∃v,e=.returned v)∧
  ((∃ys,ys=QiP (fun j=>(len-1-j,zs[len-1-j]?.getD 0)) len∧J ys W')∨(∃pre,(∃k,k≤len∧pre=QiP (fun j=>(len-1-j,zs[len-1-j]?.getD 0)) k)∧Jx pre W')):=by
 refine callsIn_of_wp Tryz.func122 rfl h55 ?_ hro
 simp only[Tryz.ntmps122,List.size_toArray,List.length_cons,List.length_nil,Nat.reduceAdd,Nat.reduceSub,Array.replicate_succ,Array.replicate_zero,List.push_toArray,List.append_toArray,List.nil_append,List.cons_append]
 gi_wp2
 gi_loopw [3] (fun i wr=>∃k:Nat,k≤len∧i=.int .i64 ((len-k:Nat)-1:Int)∧J (QiP (fun j=>(len-1-j,zs[len-1-j]?.getD 0)) k) wr∧Kpt Bs b off len W wr)
  (fun i _=>(intOf i+1).toNat)
 case atStart=>exact⟨0,Nat.zero_le _,by simp,h0,Kpt.refl _ _ _ _ _⟩
 case round=>
  obtain⟨k,hk,rfl,hJs,hnx⟩:=hrel
  have hBx:=hnx.1 _ hBs
  by_cases hlt:k<len
  ·obtain⟨fn,tmps,assign,body,hy,hR⟩:=hY _ (len-1-k,zs[len-1-k]?.getD 0) wr hJs (by rw[QdQ];exact hlt)
   dsimp only at hy
   have hcx:=hnx.2 _ _ (by omega) (hc (len-1-k) (by omega))
   rw[show((len-k:Nat)-1:Int)=((len-1-k:Nat):Int) by omega]
   gi_wp2
   refine hR.mono ?_
   rintro e W3 (⟨rfl,hJ3,hk3⟩|⟨rfl,hJx3⟩)
   ·gi_wp2
    go_roundw
    case rel=>exact⟨k+1,by omega,by simp;omega,by rw[QfY];exact hJ3,hnx.trans hk3⟩
    case measure=>simp[intOf]
   ·gi_wp2
    refine bodyPost_ret (results_none rfl _ _ _) rfl ?_
    exact⟨⟨_,rfl⟩,.inr ⟨_,⟨k+1,by omega,(QfY _ _).symm⟩,hJx3⟩⟩
  ·obtain rfl:k=len:=by omega
   rw[show((k-k:Nat)-1:Int)= -1 by omega]
   gi_wp2
   go_end0
   exact⟨⟨_,rfl⟩,.inl ⟨_,rfl,hJs⟩⟩
set_option maxRecDepth 100000 in
set_option maxHeartbeats 1000000 in
theorem QgO (F:Fence)(n:Nat)(h55:F.fn 122)(hro:F.round=none)(l Bs:Nat)(ad:Option Addr)(cap:Nat)(J:List (Nat×Int)→World→Prop)(W:World)(hBs:W.cell? ⟨Bs,0,none⟩=some (.slice ad 0 cap))(h0:J [] W):
 CallsIn F n Tryz.prog 122 #[.func (.yield l) #[] #[],.pointer (some ⟨Bs,0,none⟩)] W fun e W'=>(∃v,e=.returned v)∧J [] W':=by
 refine callsIn_of_wp Tryz.func122 rfl h55 ?_ hro
 simp only[Tryz.ntmps122,List.size_toArray,List.length_cons,List.length_nil,Nat.reduceAdd,Nat.reduceSub,Array.replicate_succ,Array.replicate_zero,List.push_toArray,List.append_toArray,List.nil_append,List.cons_append]
 gi_wp2
 gi_loopw [3] (fun i wr=>i=.int .i64 (-1)∧J [] wr) (fun _ _=>0)
 case atStart=>exact⟨rfl,h0⟩
 case round=>
  obtain⟨rfl,hJs⟩:=hrel
  gi_wp2
  go_end0
  exact⟨⟨_,rfl⟩,hJs⟩
set_option maxHeartbeats 1000000 in
theorem Qhz (F:Fence)(n:Nat)(h47:F.fn 95)(hro:F.round=none)(a:Option Addr)(len cap:Nat)(w:World):
 CallsIn F n Tryz.prog 95 #[.slice a len cap] w fun e w'=>e=.returned (.func (.func 122) #[] #[.pointer (some ⟨w.heap.size,0,none⟩)])∧w'=w.alloc (.cells #[.slice a len cap] 23):=by
 refine callsIn_of_wp Tryz.func95 rfl h47 ?_ hro
 simp only[Tryz.ntmps95,List.size_toArray,List.length_cons,List.length_nil,Nat.reduceAdd,Nat.reduceSub,Array.replicate_succ,Array.replicate_zero,List.push_toArray,List.append_toArray,List.nil_append,List.cons_append]
 gi_wp2
 go_ret
 exact⟨rfl,rfl⟩
def Qpv (W:World)(sv:Value)(b off:Nat)(zs:List Int):Prop:=
 (∃ad cap,sv=.slice ad 0 cap∧zs=[])∨∃cap,sv=.slice (some ⟨b,off,none⟩) zs.length cap∧∀j,j<zs.length→W.cell? ⟨b,off+j,none⟩=some (.int .i64 (zs[j]?.getD 0))
theorem Qjk (F:Fence)(n:Nat)(h55:F.fn 122)(hro:F.round=none)(hn:1≤n)(Bs b off:Nat)(sv:Value)(zs:List Int)(hreach:zs.length*8≤140737488351232)(w:World)(hBs:Bs<w.heap.size)
 (hc:w.cell? ⟨Bs,0,none⟩=some sv)(hI:Qpv w sv b off zs):
 SeqStopsK F n Tryz.prog 122 #[.pointer (some ⟨Bs,0,none⟩)] (fun x:Nat×Int=> #[Value.int .i64 (x.1:Int),Value.int .i64 x.2]) (Kpt Bs b off zs.length) (fun ys=>ys=QiP (fun j=>(zs.length-1-j,zs[zs.length-1-j]?.getD 0)) zs.length)
  (fun pre=>∃k,k≤zs.length∧pre=QiP (fun j=>(zs.length-1-j,zs[zs.length-1-j]?.getD 0)) k) zs.length w:=fun l J Jx W hW _ _ hY h0=>by
 have hc':=(hW.cell (p:=⟨Bs,0,none⟩) hBs).trans hc
 rcases hI with⟨ad,cap,rfl,rfl⟩|⟨cap,rfl,hcs⟩
 ·exact(QgO F n h55 hro l Bs ad cap J W hc' h0).mono fun e W' ⟨he,hj⟩=>⟨he,.inl ⟨_,rfl,hj⟩⟩
 ·exact Qox F n h55 hro hn l Bs b off zs.length cap zs hreach J Jx hY W hc' (fun j hj=>(hW.cell (p:=⟨b,off+j,none⟩) (World.block_lt_of_cell? w ⟨b,off+j,none⟩ (hcs j hj))).trans (hcs j hj)) h0
end Go.Proofs.YtoblgjmllmomhaaGreatDoor
