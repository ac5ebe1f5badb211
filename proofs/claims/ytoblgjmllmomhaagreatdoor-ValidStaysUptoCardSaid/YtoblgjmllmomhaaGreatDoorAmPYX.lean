/-
  Law ValidStays: the row and the card, by what the machine says of its text.
-/
import Derived.Test.YtoblgjmllmomhaaGreatDoorAmUp
import Derived.Test.YtoblgjmllmomhaaGreatDoorAmEq
import Derived.Test.YtoblgjmllmomhaaGreatDoorAmPYU
import Derived.Test.YtoblgjmllmomhaaGreatDoorTie
import Derived.Test.YtoblgjmllmomhaaGreatDoorCards
import Derived.WalkKit
import Derived.ProofKit
import Derived.OpenShut
import Derived.LaidMore
import Derived.Stop.Joined
import Derived.SevenTiedAt
import Derived.Test.YtoblgjmllmomhaaGreatDoorAmPYL2
namespace Go.Proofs.YtoblgjmllmomhaaGreatDoor
set_option maxRecDepth 100000
open Go.ChangeShapes Go.WideShapes Go.ChangeAt Go.RowKit Go.Proofs.Am
theorem own:ownKnob Tryz.prog.godebug=none:=by kernel_rfl
theorem gA:Tryz.prog.globalNamed "strings.asciiSpace" =some 0:=by kernel_rfl
theorem tyA:(Tryz.prog.globals[0]?).map (·.type)=some 191:=by kernel_rfl
theorem Qxn:avD Tryz.prog 3 191 (Rows.laid_strings_asciiSpace (H:=Unit))=some Qe3:=by kernel_rfl
theorem Qsl {W:World}{l:List (String×DataW Unit)}(hl:l=Rows.validLessUptoRow.laid)(h:laidMetH Tryz.prog l W)(hs:W.ShapedOpen Tryz.prog):∃m:Int,GOk (cxZ m) W (QdH W):=by
 subst hl
 obtain⟨m,hm⟩:=cell_of_shapedOpen_int (g:=2) (t:=3) (zero:= #[.int .i64 0]) (k:=.i64) hs (of_decide_eq_true (by kernel_rfl)) (by kernel_rfl) rfl (by kernel_rfl) (by kernel_rfl) Tryz.underlying3
 refine⟨m,?_⟩
 rw[MakeChecks.laidMetH_plain _ _ _ (by kernel_rfl)]at h
 obtain⟨ps,⟨g0,t0,cs0,f0,p0,q0,hg0,ht0,hv0,hd0,⟨g1,t1,cs1,f1,p1,q1,hg1,ht1,hv1,hd1,_,_⟩,_⟩,_,_⟩:=h
 obtain rfl:=Option.some.inj (gA.symm.trans hg1)
 obtain rfl:=Option.some.inj (tyA.symm.trans ht1)
 obtain⟨ys,_,e1,r1⟩:=Qqh (n:=3) (Qdl W) hg1 hv1 (by kernel_rfl) hd1
 rw[show avD Tryz.prog 3 191 _=some Qe3 from Qxn]at e1
 cases e1
 refine⟨fun i cs hi=>?_,fun i v hv=>by cases hv⟩
 match i,hi with
 |0,hi=>cases hi;exact r1
 |1,hi=>cases hi
 |2,hi=>
  cases hi
  exact .snap _ _ _ (fun _=>.int .i64 m) (fun j c hj=>by
   cases j with
   |zero=>simp at hj;subst hj;exact⟨Qdl W _ _ _ hm,hm,rfl⟩
   |succ j=>simp at hj) (fun j c hj=>by
   cases j with
   |zero=>simp at hj;subst hj;exact .int _ _
   |succ j=>simp at hj)
 |n+3,hi=>cases hi
mutual
def bkA:AV→Nat
 |.imm xs=>Qdr xs+1
 |.snap cs=>bkL cs+1
 |.agg cs=>bkL cs+1
 |_=>1
def bkL:List AV→Nat
 |[]=>0
 |x::xs=>bkA x+bkL xs
def Qdr:List (List AV)→Nat
 |[]=>0
 |x::xs=>bkL x+Qdr xs
end
theorem QfP:∀xs ys:List AV,bkL (xs++ys)=bkL xs+bkL ys
 |[],ys=>by simp[bkL]
 |x::xs,ys=>by rw[List.cons_append,bkL,bkL,QfP xs ys];omega
theorem QfO:∀xs:List (List AV),bkL xs.flatten=Qdr xs
 |[]=>rfl
 |x::xs=>by rw[List.flatten_cons,QfP,Qdr,QfO xs]
theorem QiE {H A:Type}{f:A→Option (List AV)}{g:A→DataW H}(hf:∀a ys,f a=some ys→bkL ys≤Rows.uptoBulk (g a)):∀(l:List A) (yss:List (List AV)),l.mapM f=some yss→Qdr yss≤Rows.uptoBulkAll (l.map g)
 |[],yss,h=>by simp at h;subst h;exact Nat.le_refl _
 |a::l,yss,h=>by
  rw[List.mapM_cons]at h
  simp only[Option.bind_eq_bind,Option.bind_eq_some_iff]at h
  obtain⟨y,hy,zs,hz,h⟩:=h
  simp only[Option.pure_def,Option.some.injEq]at h
  subst h
  have h1:=hf a y hy
  have h2:=QiE hf l zs hz
  rw[Qdr,List.map_cons,Rows.uptoBulkAll]
  omega
theorem Qpn {H A:Type}:∀(fs:List A) (ds:List (DataW H)),Rows.uptoBulkAll ((fs.zip ds).map (·.2))≤Rows.uptoBulkAll ds
 |[],ds=>by simp[Rows.uptoBulkAll]
 |_::_,[]=>by simp[Rows.uptoBulkAll]
 |f::fs,d::ds=>by
  have:=Qpn fs ds
  rw[List.zip_cons_cons,List.map_cons,Rows.uptoBulkAll,Rows.uptoBulkAll]
  exact Nat.add_le_add_left this _
theorem QlS {H:Type}{P:Program}:∀(n:Nat) (t:TypeId) (d:DataW H) (ys:List AV),avD P n t d=some ys→bkL ys≤Rows.uptoBulk d
 |0,_,_,_,h=>by simp[avD]at h
 |n+1,t,d,ys,h=>by
  unfold avD at h
  split at h
  ·cases h;simp[bkL,bkA,Rows.uptoBulk]
  ·cases h;simp[bkL,bkA,Rows.uptoBulk]
  ·cases h;simp[bkL,bkA,Rows.uptoBulk]
  ·cases h;simp[bkL,bkA,Rows.uptoBulk]
  ·obtain⟨cs,hc,h⟩:=Option.bind_eq_some_iff.1 h
   cases h
   have:=QlS n _ _ _ hc
   simp only[bkL,bkA,Rows.uptoBulk];omega
  ·cases h;simp[bkL,bkA,Qdr,Rows.uptoBulk]
  ·obtain⟨yss,hy,h⟩:=Option.bind_eq_some_iff.1 h
   cases h
   have:=QiE (g:=fun d=>d) (fun a zs ha=>QlS n _ a zs ha) _ _ hy
   rw[List.map_id']at this
   simp only[bkL,bkA,Rows.uptoBulk];omega
  ·obtain⟨yss,hy,h⟩:=Option.bind_eq_some_iff.1 h
   cases h
   have h1:=QiE (g:=fun p:Field×DataW H=>p.2) (fun a zs ha=>QlS n _ a.2 zs ha) _ _ hy
   have h2:=Qpn (H:=H) ‹Array Field›.toList ‹List (DataW H)›
   rw[QfO]
   simp only[Rows.uptoBulk]
   omega
  ·obtain⟨yss,hy,h⟩:=Option.bind_eq_some_iff.1 h
   cases h
   have:=QiE (g:=fun d=>d) (fun a zs ha=>QlS n _ a zs ha) _ _ hy
   rw[List.map_id']at this
   rw[QfO]
   simp only[Rows.uptoBulk];omega
  ·cases h
theorem Qpo {f:Int→List AV}(hf:∀z,bkL (f z)=1):∀l:List Int,Qdr (l.map f)=l.length
 |[]=>rfl
 |x::l=>by rw[List.map_cons,Qdr,hf,Qpo hf l,List.length_cons];omega
theorem QfN (l:List Int):Qdr (Qah l)=l.length:=Qpo (fun _=>rfl) l
theorem Qet {A:Type}{f:A→List AV}(hf:∀a,1≤bkL (f a)):∀l:List A,l.length≤Qdr (l.map f)∧∀x,x∈l→bkL (f x)≤Qdr (l.map f)
 |[]=>⟨Nat.le_refl _,fun x hx=>by cases hx⟩
 |a::l=>by
  obtain⟨h1,h2⟩:=Qet hf l
  have:=hf a
  rw[List.map_cons,Qdr,List.length_cons]
  refine⟨by omega,fun x hx=>?_⟩
  rcases List.mem_cons.1 hx with rfl|hx
  ·omega
  ·have:=h2 x hx;omega
mutual
theorem QCB:∀x:Ins,cI x≤bkL (Qbx x)
 |.mk o a b v t l bd el q=>by
  have h1:=Qot bd
  have h2:=Qot el
  rw[cI,Qbx]
  simp only[bkL,bkA,QfN]
  omega
theorem Qot:∀xs:List Ins,cL xs≤Qdr (Qam xs)
 |[]=>Nat.le_refl _
 |x::xs=>by
  have h1:=QCB x
  have h2:=Qot xs
  rw[cL,Qam,Qdr]
  omega
end
def mty:MTy:={n:=3,v:=58,l:=23,b:=27,i:=60,q:=4,s:=9,u:=5,y:=80,fty:=53,lim:=93,imp:=95,mfn:=74,glo:=77,exq:=100,ele:=79,dat:=82,cus:=88,mdl:=46,ftys:=22,lims:=40,imps:=38,mfns:=39,glos:=24,exqs:=41,eles:=42,dats:=43,cuss:=44}
theorem Qv8:InsT Tryz.prog 60 3 58 23 27 4 where
 hN:=Tryz.underlying3
 hV:=Tryz.underlying58
 hQ:=Tryz.underlying4
 hL:=Tryz.underlying23
 hB:=Tryz.underlying27
 fs:=⟨_,Tryz.underlying60,by kernel_rfl⟩
 hc:=by kernel_rfl
theorem QC5:ModT Tryz.prog mty where
 ins:=Qv8
 hs:=Tryz.underlying9
 hu:=Tryz.underlying5
 hy:=Tryz.underlying80
 bn:=by kernel_rfl
 bi:=by kernel_rfl
 bu:=by kernel_rfl
 hfty:=⟨⟨_,Tryz.underlying53,by kernel_rfl⟩,by kernel_rfl⟩
 hftys:=Tryz.underlying22
 bfty:=by kernel_rfl
 hlim:=⟨⟨_,Tryz.underlying93,by kernel_rfl⟩,by kernel_rfl⟩
 hlims:=Tryz.underlying40
 blim:=by kernel_rfl
 himp:=⟨⟨_,Tryz.underlying95,by kernel_rfl⟩,by kernel_rfl⟩
 himps:=Tryz.underlying38
 bimp:=by kernel_rfl
 hmfn:=⟨⟨_,Tryz.underlying74,by kernel_rfl⟩,by kernel_rfl⟩
 hmfns:=Tryz.underlying39
 bmfn:=by kernel_rfl
 hglo:=⟨⟨_,Tryz.underlying77,by kernel_rfl⟩,by kernel_rfl⟩
 hglos:=Tryz.underlying24
 bglo:=by kernel_rfl
 hexq:=⟨⟨_,Tryz.underlying100,by kernel_rfl⟩,by kernel_rfl⟩
 hexqs:=Tryz.underlying41
 bexq:=by kernel_rfl
 hele:=⟨⟨_,Tryz.underlying79,by kernel_rfl⟩,by kernel_rfl⟩
 heles:=Tryz.underlying42
 bele:=by kernel_rfl
 hdat:=⟨⟨_,Tryz.underlying82,by kernel_rfl⟩,by kernel_rfl⟩
 hdats:=Tryz.underlying43
 bdat:=by kernel_rfl
 hcus:=⟨⟨_,Tryz.underlying88,by kernel_rfl⟩,by kernel_rfl⟩
 hcuss:=Tryz.underlying44
 bcus:=by kernel_rfl
 hmdl:=⟨⟨_,Tryz.underlying46,by kernel_rfl⟩,by kernel_rfl⟩
theorem Qxk {M:Mdl}(h:bkL M.enc≤1048576):Bk M:=by
 have e:bkL M.enc=(Qdr (M.ty.map FTy.enc)+1)+((Qdr (M.im.map Imp.enc)+1)+((Qdr (M.fu.map MFn.enc)+1)+((Qdr (M.ta.map Lim.enc)+1)+((Qdr (M.me.map Lim.enc)+1)+((Qdr (M.gl.map Glo.enc)+1)+((Qdr (M.ex.map Exq.enc)+1)+(1+((Qdr (M.el.map Ele.enc)+1)+((Qdr (M.da.map Dat.enc)+1)+((Qdr (M.cu.map Cus.enc)+1)+0)))))))))):=by
  simp only[Mdl.enc,bkL,bkA]
 rw[e]at h
 have f1:∀x:FTy,bkL x.enc=(x.p.length+1)+((x.r.length+1)+0):=fun x=>by simp only[FTy.enc,bkL,bkA,QfN]
 have f3:∀x:MFn,bkL x.enc=1+((x.l.length+1)+((Qdr (Qam x.b)+1)+0)):=fun x=>by simp only[MFn.enc,bkL,bkA,QfN]
 have f4:∀x:Lim,bkL x.enc=1+(1+(1+0)):=fun x=>by simp only[Lim.enc,bkL,bkA]
 have f2:∀x:Imp,1≤bkL x.enc:=fun x=>by simp only[Imp.enc,List.cons_append,List.nil_append,bkL,bkA];omega
 have f6:∀x:Glo,bkL x.enc=1+(1+bkL (Qbx x.i)):=fun x=>by simp only[Glo.enc,List.cons_append,List.nil_append,bkL,bkA]
 have f7:∀x:Exq,1≤bkL x.enc:=fun x=>by simp only[Exq.enc,bkL,bkA];omega
 have f8:∀x:Ele,bkL x.enc=bkL (Qbx x.o)+((x.f.length+1)+0):=fun x=>by simp only[Ele.enc,QfP,bkL,bkA,QfN]
 have f9:∀x:Dat,bkL x.enc=bkL (Qbx x.o)+((Qdr (Am.encB x.b)+1)+0):=fun x=>by simp only[Dat.enc,QfP,bkL,bkA]
 have f10:∀x:Cus,1≤bkL x.enc:=fun x=>by simp only[Cus.enc,bkL,bkA];omega
 have g:∀x:Ins,cL [x]≤bkL (Qbx x):=fun x=>by rw[cL,cL];exact QCB x
 obtain⟨a1,b1⟩:=Qet (f:=FTy.enc) (fun x=>by rw[f1];omega) M.ty
 obtain⟨a2,_⟩:=Qet (f:=Imp.enc) f2 M.im
 obtain⟨a3,b3⟩:=Qet (f:=MFn.enc) (fun x=>by rw[f3];omega) M.fu
 obtain⟨a4,_⟩:=Qet (f:=Lim.enc) (fun x=>by rw[f4];omega) M.ta
 obtain⟨a5,_⟩:=Qet (f:=Lim.enc) (fun x=>by rw[f4];omega) M.me
 obtain⟨a6,b6⟩:=Qet (f:=Glo.enc) (fun x=>by rw[f6];omega) M.gl
 obtain⟨a7,_⟩:=Qet (f:=Exq.enc) f7 M.ex
 obtain⟨a8,b8⟩:=Qet (f:=Ele.enc) (fun x=>by rw[f8];omega) M.el
 obtain⟨a9,b9⟩:=Qet (f:=Dat.enc) (fun x=>by rw[f9];omega) M.da
 obtain⟨a10,_⟩:=Qet (f:=Cus.enc) f10 M.cu
 exact{ty:=by omega,tl:=fun x hx=>by have:=b1 x hx;rw[f1]at this;omega
       im:=by omega,fu:=by omega,fl:=fun x hx=>by have:=b3 x hx;have:=Qot x.b;rw[f3]at*;omega
       ta:=by omega,me:=by omega,gl:=by omega,gi:=fun x hx=>by have:=b6 x hx;have:=g x.i;rw[f6]at*;omega
       ex:=by omega,el:=by omega,eo:=fun x hx=>by have:=b8 x hx;have:=g x.o;rw[f8]at*;omega
       da:=by omega,dl:=fun x hx=>by have:=b9 x hx;have:=g x.o;rw[f9]at*;omega
       cu:=by omega}
end Go.Proofs.YtoblgjmllmomhaaGreatDoor
namespace Go.Proofs.YtoblgjmllmomhaaGreatDoor
set_option maxRecDepth 100000
open Go.ChangeShapes Go.WideShapes Go.ChangeAt Go.RowKit Go.Proofs.Am
theorem Qnk {H:Type}{ds:List (DataW H)}{xs:List AV}(hx:Qpt Tryz.prog [46,3] xs ds)(hk:Rows.uptoSmall H ds=true):∃(M:Mdl) (f:Int),xs=[.agg M.enc,.int .i64 f]∧M.Fit∧Bk M:=by
 obtain⟨n1,y1,xs1,d1,ds1,rfl,rfl,h1,a1,hx⟩:=Qjt hx
 obtain⟨n2,y2,xs2,d2,ds2,rfl,rfl,h2,a2,hx⟩:=Qjt hx
 obtain rfl:=Qtx hx
 obtain⟨M,rfl,hF⟩:=QxX QC5 h1
 obtain⟨f,rfl,_⟩:=Qcs Tryz.underlying3 h2
 have b1:=QlS _ _ _ _ a1
 have hk:=of_decide_eq_true hk
 rw[Rows.uptoBulkAll]at hk
 refine⟨M,f,?_,hF,Qxk (by omega)⟩
 rw[QhB Tryz.underlying46,QoB Tryz.underlying3]
theorem QdP (W:World)(hL:laidMetH Tryz.prog Rows.validStaysUptoRow.laid W)(hsh:W.ShapedOpen Tryz.prog){H:Type}(ds:List (DataW H))(xs:List AV)(hx:Qpt Tryz.prog Tryz.f5.params.toList xs ds)(hk:Rows.uptoSmall H ds=true):
 ∃(cx:Cx) (c:Code) (h':Heap),cx.P=Tryz.prog∧CxOk cx∧GOk cx W (QdH W)∧Tryz.f5.body=some c∧cutAt cx 5 [.code c]=none∧blk cx 5 [.code c] (xs.map .v) Heap.nil=some (.v (.bool true),h'):=by
 obtain⟨m,hG⟩:=Qsl rfl hL hsh
 obtain⟨c,hc,hbody⟩:=QbC Tryz.func5 (by kernel_rfl)
 rw[Tryz.params5]at hx
 obtain⟨M,f,rfl,hF,hB⟩:=Qnk hx hk
 obtain⟨h',hr⟩:=L.blk5 (m:=m) hF hB f
 have hb:(cutAt (L.cxL m) 5 (QaE Tryz.prog 5)).isNone=true:=by kernel_rfl
 rw[Qdq Tryz.func5 hc]at hr
 rw[Qdq Tryz.func5 hc,Option.isNone_iff_eq_none]at hb
 exact⟨L.cxL m,c,h',rfl,L.cxL_ok m,⟨fun i cs hi=>hG.1 i cs hi,fun i v hi=>hG.2 i v hi⟩,hc,hb,hr⟩
end Go.Proofs.YtoblgjmllmomhaaGreatDoor
namespace Go.Proofs.YtoblgjmllmomhaaGreatDoor
open Go.ChangeShapes Go.WideShapes Go.ChangeAt Go.RowKit Go.Proofs.Am
set_option maxRecDepth 100000 in
theorem Qde (os:Os)(started:os.Started)(H:Type)(enc:TypeId×Value→H):
 ReturnsInHanded {} Tryz.checked os 5 .any (fun w args=>((Qdt Rows.validStaysSpec Rows.uptoSmall).pre enc Tryz.prog Tryz.f5 [] false w args∧laidMetH Tryz.prog Rows.validStaysUptoRow.laid w)∧sizedMet enc Tryz.prog Tryz.f5 (Qdt Rows.validStaysSpec Rows.uptoSmall) false w args)
  (Rows.validStaysSpec.post enc Tryz.prog Tryz.f5 false true false false):=
 Qhf (S:=[3,4,5,9,58,23,27,80,60,53,93,95,74,77,100,79,82,88,46,22,40,38,39,24,41,42,43,44]) (C:=Tryz.checked) (tb:=4) started own (by kernel_rfl) Tryz.func5 (by kernel_rfl) Tryz.underlying4 (by kernel_rfl) rfl
  (fun ds hd=>by
   match ds,hd with
   |[d0,d1],_=>exact⟨rfl,rfl,rfl⟩) (by kernel_rfl) (by kernel_rfl) (by kernel_rfl)
  (ChangeSpec.witness_shaped (enc:=enc) (C:=Tryz.checked) (os:=os) (X:=fun w args=>laidMetH Tryz.prog Rows.validStaysUptoRow.laid w∧CondMet enc Tryz.prog Tryz.f5 Rows.validStaysSpec Rows.uptoSmall w args) false (World.doorLaid Tryz.prog 400 os) #[.agg #[.slice none 0 0,.slice none 0 0,.slice none 0 0,.slice none 0 0,.slice none 0 0,.slice none 0 0,.slice none 0 0,.int .i64 0,.slice none 0 0,.slice none 0 0,.slice none 0 0],.int .i64 0] 8 rfl (World.shaped_of_RefB (by kernel_rfl) (by kernel_rfl)) (by kernel_rfl) (by kernel_rfl) (by kernel_rfl)
   ⟨laidMetH_of_parts3 (fuel:=8) (laidMet_of_run' 8 (by kernel_rfl) (by kernel_rfl)) (by kernel_rfl) (by kernel_rfl),CondMet.of_run 8 (by kernel_rfl)⟩)
  (fun W hL hsh ds xs hx hk=>QdP W hL hsh ds xs hx hk)
theorem QdO:Rows.ValidStaysUptoSaid:=
 OpenClaim.holds_of_cond 5 Tryz.f5 rfl rfl rfl rfl rfl rfl rfl ⟨rfl,rfl,rfl,rfl,rfl⟩ rfl rfl rfl rfl rfl (by kernel_rfl) Tryz.func5 (by kernel_rfl)
  (of_decide_eq_true (by kernel_rfl)) (by unfold Func.isWrapper;first|(rw[if_pos (by decide+kernel)];kernel_rfl)|(rw[if_neg (by decide+kernel)];exact⟨rfl,rfl⟩))
  (fun os started H enc _ _=>Qde os started H enc)
theorem QcG:(List.all [46,3] fun t=>!Tryz.prog.wantsStandIn t)=true:=by kernel_rfl
theorem validStays_holds:Rows.ValidStaysUptoCardSaid:=
 Claim7.holds_tied_plain_at .later [] [.listed,.data] true (true,"46d1b7095e034d02a507c8fa26de451ca37348ffef385066bdcf188d79a605d4") true
  QdO (fun _ h=>by cases h) (by kernel_rfl) (fun _ h=>by cases h) validStaysUpto_row_tie rfl ⟨rfl,rfl⟩ (by kernel_rfl) rfl
  (fun f fn hf hfn=>by
   obtain rfl:f=5:=Option.some.inj ((show Tryz.prog.funcNamed "grommet/grommetlaw14.ValidStays" =some 5 by kernel_rfl).symm.trans hf)|>.symm
   obtain rfl:fn=Tryz.f5:=(Option.some.inj (Tryz.func5.symm.trans hfn)).symm
   exact⟨by kernel_rfl,fun j t ht=>by
    rw[Tryz.params5]at ht
    have hm:t∈[46,3]:=List.mem_of_getElem? (i:=j) (by simpa using ht)
    have:=List.all_eq_true.1 QcG t hm
    cases hw:Tryz.prog.wantsStandIn t with
    |false=>exact hw
    |true=>rw[hw]at this;cases this⟩)
  (by kernel_rfl)
#print axioms validStays_holds
end Go.Proofs.YtoblgjmllmomhaaGreatDoor
