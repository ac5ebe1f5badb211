/-
  Lists that are compared element by element.
-/
import Derived.Test.YtoblgjmllmomhaaGreatDoorAmIns
import Derived.Test.YtoblgjmllmomhaaGreatDoorAmSym
namespace Go.Proofs.Am
open Go Go.RowKit Go.ChangeShapes Go.WideShapes
theorem QoB {P:Program}{t:TypeId}{k:IntKind}(h:P.underlying t=some (.int k))(x:AV):QlW P t [x]=x:=by simp[QlW,h]
theorem QhB {P:Program}{t:TypeId}{fs:Array Field}(h:P.underlying t=some (.struct fs))(ys:List AV):QlW P t ys=.agg ys:=by simp[QlW,h]
theorem Qdq {P:Program}{f:FuncId}{fn:Func}{c:Code}(h:P.funcs[f]? =some fn)(hc:fn.body=some c):QaE P f=[.code c]:=by simp only[QaE,h,hc]
structure StT (P:Program) (t:TypeId) (L:List (TypeId×Nat×Nat)) (c:Nat):Prop where
 fs:∃fs,P.underlying t=some (.struct fs)∧fs.toList.map (fun f=>(f.type,f.offset,P.cellsOf f.type))=L
 hc:P.cellsOf t=c
end Go.Proofs.Am
namespace Go.Proofs.Am
open Go Go.RowKit Go.ChangeShapes Go.WideShapes
def encB (l:List Int):List (List AV):=l.map fun x=>[.int .u8 x]
theorem Qac (l:List Int):(Qah l).length=l.length:=by simp[Qah]
def InZ (i:Int):Prop:= -9223372036854775808≤i∧i<9223372036854775808
def InU (i:Int):Prop:=0≤i∧i<18446744073709551616
def InB (i:Int):Prop:=0≤i∧i<256
def FitL {A:Type}(n:Nat)(F:A→Prop)(l:List A):Prop:=l.length*n≤reachBytes∧∀x,x∈l→F x
theorem QnF:reachBytes≤maxLen:=Nat.le_of_ble_eq_true (by kernel_rfl)
theorem FitL.len {A:Type}{n:Nat}{F:A→Prop}{l:List A}(h:FitL n F l)(hn:0<n):l.length≤maxLen:=
 Nat.le_trans (Nat.le_trans (Nat.le_mul_of_pos_right _ hn) h.1) QnF
inductive FitZ:Ins→Prop
 |mk (op a b v t:Int) (l:List Int) (body els:List Ins) (has:Bool) (ho:InZ op) (ha:InZ a) (hb:InZ b) (hv:InU v) (ht:InZ t) (hl:FitL 8 InZ l)
  (hbd:body.length*120≤reachBytes) (hel:els.length*120≤reachBytes) (h1:∀x,x∈body→FitZ x) (h2:∀x,x∈els→FitZ x):FitZ (.mk op a b v t l body els has)
theorem FitZ.fit {x:Ins}(h:FitZ x):Fit x:=by
 induction h with
 |mk op a b v t l bd el q ho ha hb hv ht hl hbd hel h1 h2 i1 i2=>
  exact .mk _ _ _ _ _ _ _ _ _ (hl.len (by decide)) (FitL.len (n:=120) (F:=FitZ) ⟨hbd,h1⟩ (by decide)) (FitL.len (n:=120) (F:=FitZ) ⟨hel,h2⟩ (by decide)) i1 i2
theorem z_k {P:Program}{t:TypeId}{k:IntKind}(h:P.underlying t=some (.int k)){n:Nat}{ys:List AV}(hs:ShZ P n t ys):∃i,ys=[.int k i]∧(Lit.int k i).wf=true:=by
 cases n with
 |zero=>exact False.elim hs
 |succ n=>simp only[ShZ,h]at hs;exact hs
theorem Qcs {P:Program}{t:TypeId}(h:P.underlying t=some (.int .i64)){n:Nat}{ys:List AV}(hs:ShZ P n t ys):∃i,ys=[.int .i64 i]∧InZ i:=by
 obtain⟨i,rfl,hw⟩:=z_k h hs
 refine⟨i,rfl,?_⟩
 simp only[Lit.wf,Bool.and_eq_true,decide_eq_true_eq,show IntKind.i64.min= -9223372036854775808 from rfl,show IntKind.i64.max=9223372036854775807 from rfl]at hw
 unfold InZ
 omega
theorem QxV {P:Program}{t:TypeId}(h:P.underlying t=some (.int .u64)){n:Nat}{ys:List AV}(hs:ShZ P n t ys):∃i,ys=[.int .u64 i]∧InU i:=by
 obtain⟨i,rfl,hw⟩:=z_k h hs
 refine⟨i,rfl,?_⟩
 simp only[Lit.wf,Bool.and_eq_true,decide_eq_true_eq,show IntKind.u64.min=0 from rfl,show IntKind.u64.max=18446744073709551615 from rfl]at hw
 unfold InU
 omega
theorem QCG {P:Program}{t:TypeId}(h:P.underlying t=some (.int .u8)){n:Nat}{ys:List AV}(hs:ShZ P n t ys):∃i,ys=[.int .u8 i]∧InB i:=by
 obtain⟨i,rfl,hw⟩:=z_k h hs
 refine⟨i,rfl,?_⟩
 simp only[Lit.wf,Bool.and_eq_true,decide_eq_true_eq,show IntKind.u8.min=0 from rfl,show IntKind.u8.max=255 from rfl]at hw
 unfold InB
 omega
theorem QhG {P:Program}{t:TypeId}(h:P.underlying t=some .bool){n:Nat}{ys:List AV}(hs:ShZ P n t ys):∃b,ys=[.bool b]:=by
 cases n with
 |zero=>exact False.elim hs
 |succ n=>simp only[ShZ,h]at hs;exact hs
theorem Qme {P:Program}{t:TypeId}(h:P.underlying t=some .string){n:Nat}{ys:List AV}(hs:ShZ P n t ys):∃s,ys=[.str s]∧s.size≤reachBytes:=by
 cases n with
 |zero=>exact False.elim hs
 |succ n=>simp only[ShZ,h]at hs;exact hs
theorem Qjv {P:Program}{t e:TypeId}(h:P.underlying t=some (.slice e)){n:Nat}{ys:List AV}(hs:ShZ P n t ys):∃m zs,n=m+1∧ys=[.imm zs]∧zs.length*P.bytesOf e≤reachBytes∧∀z,z∈zs→ShZ P m e z:=by
 cases n with
 |zero=>exact False.elim hs
 |succ n=>
  simp only[ShZ,h]at hs
  obtain⟨zs,rfl,_,h1,h2⟩:=hs
  exact⟨n,zs,rfl,rfl,h1,h2⟩
theorem Qju {P:Program}{t:TypeId}{L:List (TypeId×Nat×Nat)}{c:Nat}(T:StT P t L c){n:Nat}{ys:List AV}(hs:ShZ P n t ys):
 ∃m,n=m+1∧ys.length=c∧∀(u:TypeId) (o k:Nat),(u,o,k)∈L→ShZ P m u ((ys.drop o).take k):=by
 cases n with
 |zero=>exact False.elim hs
 |succ n=>
  obtain⟨fs,hu,hfs⟩:=T.fs
  simp only[ShZ,hu]at hs
  obtain⟨hlen,hf⟩:=hs
  refine⟨n,rfl,by rw[hlen,T.hc],fun u o k hm=>?_⟩
  rw[←hfs]at hm
  obtain⟨f,hfm,he⟩:=List.mem_map.1 hm
  simp only[Prod.mk.injEq]at he
  obtain⟨rfl,rfl,rfl⟩:=he
  exact hf f hfm
theorem QbE {P:Program}{A:Type}{f:A→List AV}{F:A→Prop}{t e:TypeId}{b:Nat}(h:P.underlying t=some (.slice e))(hb:P.bytesOf e=b)(hf:∀m z,ShZ P m e z→∃x,z=f x∧F x){n:Nat}{ys:List AV}(hs:ShZ P n t ys):∃l:List A,ys=[.imm (l.map f)]∧FitL b F l:=by
 obtain⟨m,zs,_,rfl,h1,h2⟩:=Qjv h hs
 obtain⟨l,rfl,hl⟩:=Qhe (f:=f) (Q:=F) zs (fun z hz=>hf m z (h2 z hz))
 rw[hb]at h1
 exact⟨l,rfl,by simpa using h1,hl⟩
theorem QfV {P:Program}{t e:TypeId}(h:P.underlying t=some (.slice e))(he:P.underlying e=some (.int .i64))(hb:P.bytesOf e=8){n:Nat}{ys:List AV}(hs:ShZ P n t ys):∃l:List Int,ys=[.imm (Qah l)]∧FitL 8 InZ l:=
 QbE h hb (fun _ _ hz=>Qcs he hz) hs
theorem Qjw {P:Program}{t e:TypeId}(h:P.underlying t=some (.slice e))(he:P.underlying e=some (.int .u8))(hb:P.bytesOf e=1){n:Nat}{ys:List AV}(hs:ShZ P n t ys):∃l:List Int,ys=[.imm (encB l)]∧FitL 1 InB l:=
 QbE h hb (fun _ _ hz=>QCG he hz) hs
theorem Qmf {P:Program}{tI tN tV tL tB tQ:TypeId}(T:InsT P tI tN tV tL tB tQ)(bn:P.bytesOf tN=8)(bi:P.bytesOf tI=120):∀(n:Nat) (ys:List AV),ShZ P n tI ys→∃x,ys=Qbx x∧FitZ x:=by
 intro n
 induction n using Nat.strongRecOn with
 |_ n ih=>
  intro ys hs
  obtain⟨m,rfl,hlen,get⟩:=Qju ⟨T.fs,T.hc⟩ hs
  obtain⟨c0,c1,c2,c3,c4,c5,c6,c7,c8,rfl⟩:=QBn hlen
  obtain⟨i0,h0,g0⟩:=Qcs T.hN (get tN 0 1 (by simp))
  obtain⟨i1,h1,g1⟩:=Qcs T.hN (get tN 1 1 (by simp))
  obtain⟨i2,h2,g2⟩:=Qcs T.hN (get tN 2 1 (by simp))
  obtain⟨i3,h3,g3⟩:=QxV T.hV (get tV 3 1 (by simp))
  obtain⟨i4,h4,g4⟩:=Qcs T.hN (get tN 4 1 (by simp))
  obtain⟨l,h5,hl⟩:=QfV T.hL T.hN bn (get tL 5 1 (by simp))
  obtain⟨q,h8⟩:=QhG T.hQ (get tQ 8 1 (by simp))
  have code:∀(c:AV),ShZ P m tB [c]→∃l:List Ins,c=.imm (Qam l)∧FitL 120 FitZ l:=by
   intro c hc
   obtain⟨k,zs,hm,hz,k1,k2⟩:=Qjv T.hB hc
   simp only[List.cons.injEq,and_true]at hz
   obtain⟨l,rfl,hl⟩:=Qhe (f:=Qbx) (Q:=FitZ) zs (fun z hz=>ih k (by omega) z (k2 z hz))
   rw[bi]at k1
   exact⟨l,by rw[hz,QaN],by simpa using k1,hl⟩
  obtain⟨b,h6,hb⟩:=code c6 (get tB 6 1 (by simp))
  obtain⟨e,h7,he⟩:=code c7 (get tB 7 1 (by simp))
  simp only[List.drop_zero,List.drop_succ_cons,List.take_succ_cons,List.take_zero,List.cons.injEq,and_true]at h0 h1 h2 h3 h4 h5 h8
  subst h0;subst h1;subst h2;subst h3;subst h4;subst h5;subst h6;subst h7;subst h8
  exact⟨.mk i0 i1 i2 i3 i4 l b e q,rfl,.mk _ _ _ _ _ _ _ _ _ g0 g1 g2 g3 g4 hl hb.1 he.1 hb.2 he.2⟩
theorem Qty {P:Program}{tI tN tV tL tB tQ:TypeId}(T:InsT P tI tN tV tL tB tQ)(bn:P.bytesOf tN=8)(bi:P.bytesOf tI=120){n:Nat}{ys:List AV}(hs:ShZ P n tB ys):∃l:List Ins,ys=[.imm (Qam l)]∧FitL 120 FitZ l:=by
 obtain⟨l,rfl,hl⟩:=QbE T.hB bi (fun m z hz=>Qmf T bn bi m z hz) hs
 exact⟨l,by rw[QaN],hl⟩
theorem Qjt {H:Type}{P:Program}{t:TypeId}{ts:List TypeId}{xs:List AV}{ds:List (DataW H)}(h:Qpt P (t::ts) xs ds):
 ∃n ys xs' d ds',xs=QlW P t ys::xs'∧ds=d::ds'∧ShZ P n t ys∧avD P n t d=some ys∧Qpt P ts xs' ds':=by
 match xs,ds,h with
 |x::xs,d::ds,⟨⟨n,ys,h1,h2,h3⟩,h4⟩=>exact⟨n,ys,xs,d,ds,by rw[h2],rfl,h1,h3,h4⟩
theorem Qtx {H:Type}{P:Program}{xs:List AV}{ds:List (DataW H)}(h:Qpt P [] xs ds):xs=[]:=by
 match xs,ds,h with
 |[],[],_=>rfl
structure FTy where
 p:List Int
 r:List Int
def FTy.enc (x:FTy):List AV:=[.imm (Qah x.p),.imm (Qah x.r)]
def FTy.Fit (x:FTy):Prop:=FitL 8 InZ x.p∧FitL 8 InZ x.r
theorem FTy.enc_len (x:FTy):x.enc.length=2:=by rfl
structure Lim where
 lo:Int
 hi:Int
 has:Bool
def Lim.enc (x:Lim):List AV:=[.int .i64 x.lo,.int .i64 x.hi,.bool x.has]
def Lim.Fit (x:Lim):Prop:=InZ x.lo∧InZ x.hi
theorem Lim.enc_len (x:Lim):x.enc.length=3:=by rfl
structure Imp where
 m:ByteArray
 n:ByteArray
 k:Int
 t:Int
 mu:Bool
 l:Lim
def Imp.enc (x:Imp):List AV:=[.str x.m,.str x.n,.int .i64 x.k,.int .i64 x.t,.bool x.mu]++Lim.enc x.l
def Imp.Fit (x:Imp):Prop:=x.m.size≤reachBytes∧x.n.size≤reachBytes∧InZ x.k∧InZ x.t∧Lim.Fit x.l
theorem Imp.enc_len (x:Imp):x.enc.length=8:=by simp[Imp.enc,Lim.enc_len]
structure MFn where
 t:Int
 l:List Int
 b:List Ins
def MFn.enc (x:MFn):List AV:=[.int .i64 x.t,.imm (Qah x.l),.imm (Qam x.b)]
def MFn.Fit (x:MFn):Prop:=InZ x.t∧FitL 8 InZ x.l∧FitL 120 FitZ x.b
theorem MFn.enc_len (x:MFn):x.enc.length=3:=by rfl
structure Glo where
 t:Int
 mu:Bool
 i:Ins
def Glo.enc (x:Glo):List AV:=[.int .i64 x.t,.bool x.mu]++Qbx x.i
def Glo.Fit (x:Glo):Prop:=InZ x.t∧FitZ x.i
theorem Glo.enc_len (x:Glo):x.enc.length=11:=by simp[Glo.enc,Qbe]
structure Exq where
 n:ByteArray
 k:Int
 i:Int
def Exq.enc (x:Exq):List AV:=[.str x.n,.int .i64 x.k,.int .i64 x.i]
def Exq.Fit (x:Exq):Prop:=x.n.size≤reachBytes∧InZ x.k∧InZ x.i
theorem Exq.enc_len (x:Exq):x.enc.length=3:=by rfl
structure Ele where
 o:Ins
 f:List Int
def Ele.enc (x:Ele):List AV:=Qbx x.o++[.imm (Qah x.f)]
def Ele.Fit (x:Ele):Prop:=FitZ x.o∧FitL 8 InZ x.f
theorem Ele.enc_len (x:Ele):x.enc.length=10:=by simp[Ele.enc,Qbe]
structure Dat where
 o:Ins
 b:List Int
def Dat.enc (x:Dat):List AV:=Qbx x.o++[.imm (encB x.b)]
def Dat.Fit (x:Dat):Prop:=FitZ x.o∧FitL 1 InB x.b
theorem Dat.enc_len (x:Dat):x.enc.length=10:=by simp[Dat.enc,Qbe]
structure Cus where
 n:ByteArray
 b:List Int
def Cus.enc (x:Cus):List AV:=[.str x.n,.imm (encB x.b)]
def Cus.Fit (x:Cus):Prop:=x.n.size≤reachBytes∧FitL 1 InB x.b
theorem Cus.enc_len (x:Cus):x.enc.length=2:=by rfl
structure Mdl where
 ty:List FTy
 im:List Imp
 fu:List MFn
 ta:List Lim
 me:List Lim
 gl:List Glo
 ex:List Exq
 st:Int
 el:List Ele
 da:List Dat
 cu:List Cus
def Mdl.enc (x:Mdl):List AV:=[.imm (x.ty.map FTy.enc),.imm (x.im.map Imp.enc),.imm (x.fu.map MFn.enc),.imm (x.ta.map Lim.enc),.imm (x.me.map Lim.enc),.imm (x.gl.map Glo.enc),.imm (x.ex.map Exq.enc),.int .i64 x.st,.imm (x.el.map Ele.enc),.imm (x.da.map Dat.enc),.imm (x.cu.map Cus.enc)]
def Mdl.Fit (x:Mdl):Prop:=FitL 48 FTy.Fit x.ty∧FitL 80 Imp.Fit x.im∧FitL 56 MFn.Fit x.fu∧FitL 24 Lim.Fit x.ta∧FitL 24 Lim.Fit x.me∧FitL 136 Glo.Fit x.gl∧FitL 32 Exq.Fit x.ex∧InZ x.st∧FitL 144 Ele.Fit x.el∧FitL 144 Dat.Fit x.da∧FitL 40 Cus.Fit x.cu
theorem Mdl.enc_len (x:Mdl):x.enc.length=11:=by rfl
structure MTy where
 (n v l b i q s u y fty lim imp mfn glo exq ele dat cus mdl ftys lims imps mfns glos exqs eles dats cuss:TypeId)
structure ModT (P:Program) (T:MTy):Prop where
 ins:InsT P T.i T.n T.v T.l T.b T.q
 hs:P.underlying T.s=some .string
 hu:P.underlying T.u=some (.int .u8)
 hy:P.underlying T.y=some (.slice T.u)
 bn:P.bytesOf T.n=8
 bi:P.bytesOf T.i=120
 bu:P.bytesOf T.u=1
 hfty:StT P T.fty [(T.l,0,1),(T.l,1,1)] 2
 hftys:P.underlying T.ftys=some (.slice T.fty)
 bfty:P.bytesOf T.fty=48
 hlim:StT P T.lim [(T.n,0,1),(T.n,1,1),(T.q,2,1)] 3
 hlims:P.underlying T.lims=some (.slice T.lim)
 blim:P.bytesOf T.lim=24
 himp:StT P T.imp [(T.s,0,1),(T.s,1,1),(T.n,2,1),(T.n,3,1),(T.q,4,1),(T.lim,5,3)] 8
 himps:P.underlying T.imps=some (.slice T.imp)
 bimp:P.bytesOf T.imp=80
 hmfn:StT P T.mfn [(T.n,0,1),(T.l,1,1),(T.b,2,1)] 3
 hmfns:P.underlying T.mfns=some (.slice T.mfn)
 bmfn:P.bytesOf T.mfn=56
 hglo:StT P T.glo [(T.n,0,1),(T.q,1,1),(T.i,2,9)] 11
 hglos:P.underlying T.glos=some (.slice T.glo)
 bglo:P.bytesOf T.glo=136
 hexq:StT P T.exq [(T.s,0,1),(T.n,1,1),(T.n,2,1)] 3
 hexqs:P.underlying T.exqs=some (.slice T.exq)
 bexq:P.bytesOf T.exq=32
 hele:StT P T.ele [(T.i,0,9),(T.l,9,1)] 10
 heles:P.underlying T.eles=some (.slice T.ele)
 bele:P.bytesOf T.ele=144
 hdat:StT P T.dat [(T.i,0,9),(T.y,9,1)] 10
 hdats:P.underlying T.dats=some (.slice T.dat)
 bdat:P.bytesOf T.dat=144
 hcus:StT P T.cus [(T.s,0,1),(T.y,1,1)] 2
 hcuss:P.underlying T.cuss=some (.slice T.cus)
 bcus:P.bytesOf T.cus=40
 hmdl:StT P T.mdl [(T.ftys,0,1),(T.imps,1,1),(T.mfns,2,1),(T.lims,3,1),(T.lims,4,1),(T.glos,5,1),(T.exqs,6,1),(T.n,7,1),(T.eles,8,1),(T.dats,9,1),(T.cuss,10,1)] 11
section
variable {P:Program} {T:MTy}
theorem QsK {A:Type}(ys:List A)(h:ys.length=2):ys=(ys.drop 0).take 1++((ys.drop 1).take 1):=by
 have t (o k:Nat) (zs:List A) (h2:ys.drop (o+k)=zs):ys.drop o=(ys.drop o).take k++zs:=by
  rw[←h2,←List.drop_drop,List.take_append_drop]
 have e:ys.drop 1=(ys.drop 1).take 1:=(List.take_of_length_le (by simp;omega)).symm
 have e:=t 0 1 _ e
 exact e
theorem Qx0 (M:ModT P T){n:Nat}{ys:List AV}(hs:ShZ P n T.fty ys):∃x:FTy,ys=x.enc∧x.Fit:=by
 obtain⟨m,_,hl,get⟩:=Qju M.hfty hs
 obtain⟨v0,e0,f0⟩:=QfV M.ins.hL M.ins.hN M.bn (get _ 0 1 (by simp))
 obtain⟨v1,e1,f1⟩:=QfV M.ins.hL M.ins.hN M.bn (get _ 1 1 (by simp))
 have hd:ys=(ys.drop 0).take 1++((ys.drop 1).take 1):=by
  exact QsK ys hl
 refine⟨⟨v0,v1⟩,?_,⟨f0,f1⟩⟩
 rw[hd,e0,e1]
 rfl
theorem QsH {A:Type}(ys:List A)(h:ys.length=3):ys=(ys.drop 0).take 1++((ys.drop 1).take 1++((ys.drop 2).take 1)):=by
 have t (o k:Nat) (zs:List A) (h2:ys.drop (o+k)=zs):ys.drop o=(ys.drop o).take k++zs:=by
  rw[←h2,←List.drop_drop,List.take_append_drop]
 have e:ys.drop 2=(ys.drop 2).take 1:=(List.take_of_length_le (by simp;omega)).symm
 have e:=t 1 1 _ e
 have e:=t 0 1 _ e
 exact e
theorem Qpy (M:ModT P T){n:Nat}{ys:List AV}(hs:ShZ P n T.lim ys):∃x:Lim,ys=x.enc∧x.Fit:=by
 obtain⟨m,_,hl,get⟩:=Qju M.hlim hs
 obtain⟨v0,e0,f0⟩:=Qcs M.ins.hN (get _ 0 1 (by simp))
 obtain⟨v1,e1,f1⟩:=Qcs M.ins.hN (get _ 1 1 (by simp))
 obtain⟨v2,e2⟩:=QhG M.ins.hQ (get _ 2 1 (by simp))
 have hd:ys=(ys.drop 0).take 1++((ys.drop 1).take 1++((ys.drop 2).take 1)):=by
  exact QsH ys hl
 refine⟨⟨v0,v1,v2⟩,?_,⟨f0,f1⟩⟩
 rw[hd,e0,e1,e2]
 rfl
theorem QsI {A:Type}(ys:List A)(h:ys.length=8):ys=(ys.drop 0).take 1++((ys.drop 1).take 1++((ys.drop 2).take 1++((ys.drop 3).take 1++((ys.drop 4).take 1++((ys.drop 5).take 3))))):=by
 have t (o k:Nat) (zs:List A) (h2:ys.drop (o+k)=zs):ys.drop o=(ys.drop o).take k++zs:=by
  rw[←h2,←List.drop_drop,List.take_append_drop]
 have e:ys.drop 5=(ys.drop 5).take 3:=(List.take_of_length_le (by simp;omega)).symm
 have e:=t 4 1 _ e
 have e:=t 3 1 _ e
 have e:=t 2 1 _ e
 have e:=t 1 1 _ e
 have e:=t 0 1 _ e
 exact e
theorem QxY (M:ModT P T){n:Nat}{ys:List AV}(hs:ShZ P n T.imp ys):∃x:Imp,ys=x.enc∧x.Fit:=by
 obtain⟨m,_,hl,get⟩:=Qju M.himp hs
 obtain⟨v0,e0,f0⟩:=Qme M.hs (get _ 0 1 (by simp))
 obtain⟨v1,e1,f1⟩:=Qme M.hs (get _ 1 1 (by simp))
 obtain⟨v2,e2,f2⟩:=Qcs M.ins.hN (get _ 2 1 (by simp))
 obtain⟨v3,e3,f3⟩:=Qcs M.ins.hN (get _ 3 1 (by simp))
 obtain⟨v4,e4⟩:=QhG M.ins.hQ (get _ 4 1 (by simp))
 obtain⟨v5,e5,f5⟩:=Qpy M (get _ 5 3 (by simp))
 have hd:ys=(ys.drop 0).take 1++((ys.drop 1).take 1++((ys.drop 2).take 1++((ys.drop 3).take 1++((ys.drop 4).take 1++((ys.drop 5).take 3))))):=by
  exact QsI ys hl
 refine⟨⟨v0,v1,v2,v3,v4,v5⟩,?_,⟨f0,f1,f2,f3,f5⟩⟩
 rw[hd,e0,e1,e2,e3,e4,e5]
 simp[Imp.enc]
theorem QsF {A:Type}(ys:List A)(h:ys.length=3):ys=(ys.drop 0).take 1++((ys.drop 1).take 1++((ys.drop 2).take 1)):=by
 have t (o k:Nat) (zs:List A) (h2:ys.drop (o+k)=zs):ys.drop o=(ys.drop o).take k++zs:=by
  rw[←h2,←List.drop_drop,List.take_append_drop]
 have e:ys.drop 2=(ys.drop 2).take 1:=(List.take_of_length_le (by simp;omega)).symm
 have e:=t 1 1 _ e
 have e:=t 0 1 _ e
 exact e
theorem QxW (M:ModT P T){n:Nat}{ys:List AV}(hs:ShZ P n T.mfn ys):∃x:MFn,ys=x.enc∧x.Fit:=by
 obtain⟨m,_,hl,get⟩:=Qju M.hmfn hs
 obtain⟨v0,e0,f0⟩:=Qcs M.ins.hN (get _ 0 1 (by simp))
 obtain⟨v1,e1,f1⟩:=QfV M.ins.hL M.ins.hN M.bn (get _ 1 1 (by simp))
 obtain⟨v2,e2,f2⟩:=Qty M.ins M.bn M.bi (get _ 2 1 (by simp))
 have hd:ys=(ys.drop 0).take 1++((ys.drop 1).take 1++((ys.drop 2).take 1)):=by
  exact QsF ys hl
 refine⟨⟨v0,v1,v2⟩,?_,⟨f0,f1,f2⟩⟩
 rw[hd,e0,e1,e2]
 rfl
theorem QsJ {A:Type}(ys:List A)(h:ys.length=11):ys=(ys.drop 0).take 1++((ys.drop 1).take 1++((ys.drop 2).take 9)):=by
 have t (o k:Nat) (zs:List A) (h2:ys.drop (o+k)=zs):ys.drop o=(ys.drop o).take k++zs:=by
  rw[←h2,←List.drop_drop,List.take_append_drop]
 have e:ys.drop 2=(ys.drop 2).take 9:=(List.take_of_length_le (by simp;omega)).symm
 have e:=t 1 1 _ e
 have e:=t 0 1 _ e
 exact e
theorem QxZ (M:ModT P T){n:Nat}{ys:List AV}(hs:ShZ P n T.glo ys):∃x:Glo,ys=x.enc∧x.Fit:=by
 obtain⟨m,_,hl,get⟩:=Qju M.hglo hs
 obtain⟨v0,e0,f0⟩:=Qcs M.ins.hN (get _ 0 1 (by simp))
 obtain⟨v1,e1⟩:=QhG M.ins.hQ (get _ 1 1 (by simp))
 obtain⟨v2,e2,f2⟩:=Qmf M.ins M.bn M.bi _ _ (get _ 2 9 (by simp))
 have hd:ys=(ys.drop 0).take 1++((ys.drop 1).take 1++((ys.drop 2).take 9)):=by
  exact QsJ ys hl
 refine⟨⟨v0,v1,v2⟩,?_,⟨f0,f2⟩⟩
 rw[hd,e0,e1,e2]
 simp[Glo.enc]
theorem QsL {A:Type}(ys:List A)(h:ys.length=3):ys=(ys.drop 0).take 1++((ys.drop 1).take 1++((ys.drop 2).take 1)):=by
 have t (o k:Nat) (zs:List A) (h2:ys.drop (o+k)=zs):ys.drop o=(ys.drop o).take k++zs:=by
  rw[←h2,←List.drop_drop,List.take_append_drop]
 have e:ys.drop 2=(ys.drop 2).take 1:=(List.take_of_length_le (by simp;omega)).symm
 have e:=t 1 1 _ e
 have e:=t 0 1 _ e
 exact e
theorem Qx1 (M:ModT P T){n:Nat}{ys:List AV}(hs:ShZ P n T.exq ys):∃x:Exq,ys=x.enc∧x.Fit:=by
 obtain⟨m,_,hl,get⟩:=Qju M.hexq hs
 obtain⟨v0,e0,f0⟩:=Qme M.hs (get _ 0 1 (by simp))
 obtain⟨v1,e1,f1⟩:=Qcs M.ins.hN (get _ 1 1 (by simp))
 obtain⟨v2,e2,f2⟩:=Qcs M.ins.hN (get _ 2 1 (by simp))
 have hd:ys=(ys.drop 0).take 1++((ys.drop 1).take 1++((ys.drop 2).take 1)):=by
  exact QsL ys hl
 refine⟨⟨v0,v1,v2⟩,?_,⟨f0,f1,f2⟩⟩
 rw[hd,e0,e1,e2]
 rfl
theorem QsM {A:Type}(ys:List A)(h:ys.length=10):ys=(ys.drop 0).take 9++((ys.drop 9).take 1):=by
 have t (o k:Nat) (zs:List A) (h2:ys.drop (o+k)=zs):ys.drop o=(ys.drop o).take k++zs:=by
  rw[←h2,←List.drop_drop,List.take_append_drop]
 have e:ys.drop 9=(ys.drop 9).take 1:=(List.take_of_length_le (by simp;omega)).symm
 have e:=t 0 9 _ e
 exact e
theorem Qx2 (M:ModT P T){n:Nat}{ys:List AV}(hs:ShZ P n T.ele ys):∃x:Ele,ys=x.enc∧x.Fit:=by
 obtain⟨m,_,hl,get⟩:=Qju M.hele hs
 obtain⟨v0,e0,f0⟩:=Qmf M.ins M.bn M.bi _ _ (get _ 0 9 (by simp))
 obtain⟨v1,e1,f1⟩:=QfV M.ins.hL M.ins.hN M.bn (get _ 9 1 (by simp))
 have hd:ys=(ys.drop 0).take 9++((ys.drop 9).take 1):=by
  exact QsM ys hl
 refine⟨⟨v0,v1⟩,?_,⟨f0,f1⟩⟩
 rw[hd,e0,e1]
 simp[Ele.enc]
theorem QsN {A:Type}(ys:List A)(h:ys.length=10):ys=(ys.drop 0).take 9++((ys.drop 9).take 1):=by
 have t (o k:Nat) (zs:List A) (h2:ys.drop (o+k)=zs):ys.drop o=(ys.drop o).take k++zs:=by
  rw[←h2,←List.drop_drop,List.take_append_drop]
 have e:ys.drop 9=(ys.drop 9).take 1:=(List.take_of_length_le (by simp;omega)).symm
 have e:=t 0 9 _ e
 exact e
theorem Qx3 (M:ModT P T){n:Nat}{ys:List AV}(hs:ShZ P n T.dat ys):∃x:Dat,ys=x.enc∧x.Fit:=by
 obtain⟨m,_,hl,get⟩:=Qju M.hdat hs
 obtain⟨v0,e0,f0⟩:=Qmf M.ins M.bn M.bi _ _ (get _ 0 9 (by simp))
 obtain⟨v1,e1,f1⟩:=Qjw M.hy M.hu M.bu (get _ 9 1 (by simp))
 have hd:ys=(ys.drop 0).take 9++((ys.drop 9).take 1):=by
  exact QsN ys hl
 refine⟨⟨v0,v1⟩,?_,⟨f0,f1⟩⟩
 rw[hd,e0,e1]
 simp[Dat.enc]
theorem QsO {A:Type}(ys:List A)(h:ys.length=2):ys=(ys.drop 0).take 1++((ys.drop 1).take 1):=by
 have t (o k:Nat) (zs:List A) (h2:ys.drop (o+k)=zs):ys.drop o=(ys.drop o).take k++zs:=by
  rw[←h2,←List.drop_drop,List.take_append_drop]
 have e:ys.drop 1=(ys.drop 1).take 1:=(List.take_of_length_le (by simp;omega)).symm
 have e:=t 0 1 _ e
 exact e
theorem Qx4 (M:ModT P T){n:Nat}{ys:List AV}(hs:ShZ P n T.cus ys):∃x:Cus,ys=x.enc∧x.Fit:=by
 obtain⟨m,_,hl,get⟩:=Qju M.hcus hs
 obtain⟨v0,e0,f0⟩:=Qme M.hs (get _ 0 1 (by simp))
 obtain⟨v1,e1,f1⟩:=Qjw M.hy M.hu M.bu (get _ 1 1 (by simp))
 have hd:ys=(ys.drop 0).take 1++((ys.drop 1).take 1):=by
  exact QsO ys hl
 refine⟨⟨v0,v1⟩,?_,⟨f0,f1⟩⟩
 rw[hd,e0,e1]
 rfl
theorem QsG {A:Type}(ys:List A)(h:ys.length=11):ys=(ys.drop 0).take 1++((ys.drop 1).take 1++((ys.drop 2).take 1++((ys.drop 3).take 1++((ys.drop 4).take 1++((ys.drop 5).take 1++((ys.drop 6).take 1++((ys.drop 7).take 1++((ys.drop 8).take 1++((ys.drop 9).take 1++((ys.drop 10).take 1)))))))))):=by
 have t (o k:Nat) (zs:List A) (h2:ys.drop (o+k)=zs):ys.drop o=(ys.drop o).take k++zs:=by
  rw[←h2,←List.drop_drop,List.take_append_drop]
 have e:ys.drop 10=(ys.drop 10).take 1:=(List.take_of_length_le (by simp;omega)).symm
 have e:=t 9 1 _ e
 have e:=t 8 1 _ e
 have e:=t 7 1 _ e
 have e:=t 6 1 _ e
 have e:=t 5 1 _ e
 have e:=t 4 1 _ e
 have e:=t 3 1 _ e
 have e:=t 2 1 _ e
 have e:=t 1 1 _ e
 have e:=t 0 1 _ e
 exact e
theorem QxX (M:ModT P T){n:Nat}{ys:List AV}(hs:ShZ P n T.mdl ys):∃x:Mdl,ys=x.enc∧x.Fit:=by
 obtain⟨m,_,hl,get⟩:=Qju M.hmdl hs
 obtain⟨v0,e0,f0⟩:=QbE (f:=FTy.enc) (F:=FTy.Fit) M.hftys M.bfty (fun m z hz=>Qx0 M hz) (get _ 0 1 (by simp))
 obtain⟨v1,e1,f1⟩:=QbE (f:=Imp.enc) (F:=Imp.Fit) M.himps M.bimp (fun m z hz=>QxY M hz) (get _ 1 1 (by simp))
 obtain⟨v2,e2,f2⟩:=QbE (f:=MFn.enc) (F:=MFn.Fit) M.hmfns M.bmfn (fun m z hz=>QxW M hz) (get _ 2 1 (by simp))
 obtain⟨v3,e3,f3⟩:=QbE (f:=Lim.enc) (F:=Lim.Fit) M.hlims M.blim (fun m z hz=>Qpy M hz) (get _ 3 1 (by simp))
 obtain⟨v4,e4,f4⟩:=QbE (f:=Lim.enc) (F:=Lim.Fit) M.hlims M.blim (fun m z hz=>Qpy M hz) (get _ 4 1 (by simp))
 obtain⟨v5,e5,f5⟩:=QbE (f:=Glo.enc) (F:=Glo.Fit) M.hglos M.bglo (fun m z hz=>QxZ M hz) (get _ 5 1 (by simp))
 obtain⟨v6,e6,f6⟩:=QbE (f:=Exq.enc) (F:=Exq.Fit) M.hexqs M.bexq (fun m z hz=>Qx1 M hz) (get _ 6 1 (by simp))
 obtain⟨v7,e7,f7⟩:=Qcs M.ins.hN (get _ 7 1 (by simp))
 obtain⟨v8,e8,f8⟩:=QbE (f:=Ele.enc) (F:=Ele.Fit) M.heles M.bele (fun m z hz=>Qx2 M hz) (get _ 8 1 (by simp))
 obtain⟨v9,e9,f9⟩:=QbE (f:=Dat.enc) (F:=Dat.Fit) M.hdats M.bdat (fun m z hz=>Qx3 M hz) (get _ 9 1 (by simp))
 obtain⟨v10,e10,f10⟩:=QbE (f:=Cus.enc) (F:=Cus.Fit) M.hcuss M.bcus (fun m z hz=>Qx4 M hz) (get _ 10 1 (by simp))
 have hd:ys=(ys.drop 0).take 1++((ys.drop 1).take 1++((ys.drop 2).take 1++((ys.drop 3).take 1++((ys.drop 4).take 1++((ys.drop 5).take 1++((ys.drop 6).take 1++((ys.drop 7).take 1++((ys.drop 8).take 1++((ys.drop 9).take 1++((ys.drop 10).take 1)))))))))):=by
  exact QsG ys hl
 refine⟨⟨v0,v1,v2,v3,v4,v5,v6,v7,v8,v9,v10⟩,?_,⟨f0,f1,f2,f3,f4,f5,f6,f7,f8,f9,f10⟩⟩
 rw[hd,e0,e1,e2,e3,e4,e5,e6,e7,e8,e9,e10]
 rfl
end
end Go.Proofs.Am
namespace Go.Proofs.Am
open Go
theorem QaQ {A:Type}{f:A→List AV}(h:∀x,npL (f x)=true):∀l:List A,Qh1 (l.map f)=true
 |[]=>rfl
 |x::l=>by rw[List.map_cons,Qh1,h x,QaQ h l];rfl
theorem Qa6 (l:List Int):Qh1 (Qah l)=true:=QaQ (fun _=>rfl) l
theorem Qf9 (l:List Int):Qh1 (encB l)=true:=QaQ (fun _=>rfl) l
theorem Qd2:∀xs ys:List AV,npL (xs++ys)=(npL xs&&npL ys)
 |[],ys=>by rw[List.nil_append,npL,Bool.true_and]
 |x::xs,ys=>by rw[List.cons_append,npL,npL,Qd2 xs ys,Bool.and_assoc]
mutual
theorem Qf8:∀x:Ins,npL (Qbx x)=true
 |.mk o a b v t l bd el q=>by
  simp only[Qbx,npL,AV.np,Qa6,Qd1 bd,Qd1 el,Bool.and_self]
theorem Qd1:∀l:List Ins,Qh1 (Qam l)=true
 |[]=>rfl
 |x::l=>by simp only[Qam,Qh1,Qf8 x,Qd1 l,Bool.and_self]
end
theorem FTy.np (x:FTy):npL x.enc=true:=by simp only[FTy.enc,npL,AV.np,Qa6,Bool.and_self]
theorem Mdl.np (M:Mdl):npL M.enc=true:=by
 have h1:=QaQ FTy.np M.ty
 have h2:=QaQ (f:=Imp.enc) (fun x=>rfl) M.im
 have h3:=QaQ (f:=MFn.enc) (fun x=>by simp only[MFn.enc,npL,AV.np,Qa6,Qd1,Bool.and_self]) M.fu
 have h4:=QaQ (f:=Lim.enc) (fun x=>rfl)
 have h5:=QaQ (f:=Glo.enc) (fun x=>by rw[Glo.enc,Qd2,Qf8];rfl) M.gl
 have h6:=QaQ (f:=Exq.enc) (fun x=>rfl) M.ex
 have h7:=QaQ (f:=Ele.enc) (fun x=>by rw[Ele.enc,Qd2,Qf8];simp only[npL,AV.np,Qa6,Bool.and_self]) M.el
 have h8:=QaQ (f:=Dat.enc) (fun x=>by rw[Dat.enc,Qd2,Qf8];simp only[npL,AV.np,Qf9,Bool.and_self]) M.da
 have h9:=QaQ (f:=Cus.enc) (fun x=>by simp only[Cus.enc,npL,AV.np,Qf9,Bool.and_self]) M.cu
 simp only[Mdl.enc,npL,AV.np,h1,h2,h3,h4,h5,h6,h7,h8,h9,Bool.and_self]
end Go.Proofs.Am
namespace Go.Proofs.Am
open Go
section
variable {A:Type} {E:A→A→Bool}
def QCF (E:A→A→Bool):List A→List A→Bool
 |x::xs,y::ys=>E x y&&QCF E xs ys
 |_,_=>true
def eqL (E:A→A→Bool)(xs ys:List A):Bool:=Nat.beq xs.length ys.length&&QCF E xs ys
end
def zE (a b:Int):Bool:=a==b
def Qpx:List Int→List Int→Bool:=eqL zE
def FTy.same (x y:FTy):Bool:=Qpx x.p y.p&&Qpx x.r y.r
def Lim.same (x y:Lim):Bool:=x.lo==y.lo&&(x.hi==y.hi&&(x.has==y.has&&true))
def Imp.same (x y:Imp):Bool:=x.m==y.m&&(x.n==y.n&&(x.k==y.k&&(x.t==y.t&&(x.mu==y.mu&&(Lim.same x.l y.l&&true)))))
def Exq.same (x y:Exq):Bool:=x.n==y.n&&(x.k==y.k&&(x.i==y.i&&true))
mutual
def sI:Ins→Ins→Bool
 |.mk o a b v t l bd el q,.mk o' a' b' v' t' l' bd' el' q'=>o==o'&&(a==a'&&(b==b'&&(v==v'&&(t==t'&&(q==q'&&(Qpx l l'&&(Nat.beq bd.length bd'.length&&sL bd bd'&&(Nat.beq el.length el'.length&&sL el el'))))))))
def sL:List Ins→List Ins→Bool
 |x::xs,y::ys=>sI x y&&sL xs ys
 |_,_=>true
end
def MFn.same (x y:MFn):Bool:=x.t==y.t&&(Qpx x.l y.l&&eqL sI x.b y.b)
def Glo.same (x y:Glo):Bool:=x.t==y.t&&(x.mu==y.mu&&sI x.i y.i)
def Ele.same (x y:Ele):Bool:=sI x.o y.o&&Qpx x.f y.f
def Dat.same (x y:Dat):Bool:=sI x.o y.o&&Qpx x.b y.b
def Cus.same (x y:Cus):Bool:=x.n.toList==y.n.toList&&Qpx x.b y.b
def Mdl.same (x y:Mdl):Bool:=
 x.st==y.st&&(eqL FTy.same x.ty y.ty&&(eqL Imp.same x.im y.im&&(eqL Lim.same x.ta y.ta&&(eqL Lim.same x.me y.me&&(eqL Exq.same x.ex y.ex&&
  (eqL MFn.same x.fu y.fu&&(eqL Glo.same x.gl y.gl&&(eqL Ele.same x.el y.el&&(eqL Dat.same x.da y.da&&eqL Cus.same x.cu y.cu)))))))))
theorem QB2 (x y:ByteArray):(x==y)=(x.data==y.data):=by cases x;cases y;rfl
theorem QlT (x:ByteArray):(x==x)=true:=by rw[QB2];exact beq_self_eq_true _
end Go.Proofs.Am
