/-
  A law's row where what it reads is small: what it reads is told, and that it is small.
-/
import Derived.Test.YtoblgjmllmomhaaGreatDoorAmIns
import Derived.JoinedCond
import Derived.LaidLaws
namespace Go.Proofs.Am
open Go Go.RowKit Go.ChangeShapes Go.WideShapes
variable {H:Type} {enc:TypeId×Value→H}
def Qdt (s:ChangeSpec)(k:(H:Type)→List (DataW H)→Bool):OpenSpec:={OpenSpec.ofChange s with cond:=some k}
def CondMet (enc:TypeId×Value→H)(P:Program)(f:Func)(s:ChangeSpec)(k:(H:Type)→List (DataW H)→Bool)(w:World)(args:Array Value):Prop:=
 ∃ds gs before,DataW.Whole enc P f.params.toList s.vars false w args.toList ds gs before∧k H (ds++gs)=true
theorem CondMet.of_heap {P:Program}{f:Func}{s:ChangeSpec}{k:(H:Type)→List (DataW H)→Bool}{w w':World}{args:Array Value}(hh:w.heap=w'.heap)(h:CondMet enc P f s k w args):CondMet enc P f s k w' args:=by
 obtain⟨ds,gs,before,h1,h2⟩:=h
 exact⟨ds,gs,before,DataW.Whole.of_heap hh h1,h2⟩
theorem CondMet.of_run {P:Program}{f:Func}{s:ChangeSpec}{k:(H:Type)→List (DataW H)→Bool}{w:World}{args:Array Value}(fuel:Nat)
 (h:(match DataW.whole enc P w f.params.toList s.vars false args.toList fuel with|some x=>k H (x.1++x.2.1)|none=>false)=true):CondMet enc P f s k w args:=by
 split at h
 ·rename_i x hx
  exact⟨_,_,_,DataW.Whole_of_whole hx,h⟩
 ·cases h
theorem Qvi {P:Program}{f:Func}{s:ChangeSpec}{k:(H:Type)→List (DataW H)→Bool}{w:World}{args:Array Value}:
 (Qdt s k).pre enc P f [] false w args↔s.pre enc P f [] false w args∧CondMet enc P f s k w args:=by
 rw[OpenSpec.pre_some (s:=Qdt s k) (k:=k) rfl]
 constructor
 ·rintro⟨ds,gs,before,h1,h2,h3⟩
  exact⟨⟨ds,gs,before,h1,h2⟩,⟨ds,gs,before,h1,h3⟩⟩
 ·rintro⟨⟨ds,gs,before,h1,h2⟩,⟨ds',gs',before',h1',h3⟩⟩
  obtain⟨rfl,rfl,_⟩:=h1.unique h1'
  exact⟨ds,gs,before,h1,h2,h3⟩
theorem Qhf {S:List TypeId}{C:Checked}{os:Os}{f:FuncId}{fn:Func}{s:ChangeSpec}{k:(H:Type)→List (DataW H)→Bool}{tb:TypeId}{laid:List (String×DataW Unit)}(started:os.Started)(own:ownKnob C.prog.godebug=none)(noInit:C.prog.inits.idxOf? f=none)(hfn:C.prog.funcs[f]? =some fn)
 (hres:fn.resultTypes.toList=[tb])(htb:C.prog.underlying tb=some .bool)(hsz:fn.resultTypes.size=1)(hvars:s.vars=[])
 (hs:∀(ds:List (DataW H)),ds.length=fn.params.toList.length→(s.fn H ds).results=[.lit (.bool true)]∧(s.fn H ds).args=ds∧(s.fn H ds).vars=[])
 (hl:laidOutB C.prog=true)(hS:QfI C.prog S=true)(hr:(fn.params.toList.all fun t=>C.prog.readableRec t&&decide (t<C.prog.types.size)&&QbQ S t&&Qko C.prog t)=true)
 (witness:∃(w:World) (tape:Tape) (i:Input),w.os=os∧(w.forCall tape i).Shaped C.prog∧i.vars=[]∧Input.okWide C.prog (w.forCall tape i) .any w.heap.size f i∧
  ((s.pre enc C.prog fn [] false (w.forCall tape i).memory i.args∧(laidMetH C.prog laid (w.forCall tape i).memory∧CondMet enc C.prog fn s k (w.forCall tape i).memory i.args))∧sizedMet enc C.prog fn (OpenSpec.ofChange s) false (w.forCall tape i).memory i.args)∧Assume.holds {} C.prog (lone (Frame.enter C.prog f i.args .normal) [] (w.forCall tape i)))
 (law:∀W:World,laidMetH C.prog laid W→W.ShapedOpen C.prog→∀(ds:List (DataW H)) (xs:List AV),Qpt C.prog fn.params.toList xs ds→k H ds=true→
  ∃(cx:Cx) (c:Code) (h':Heap),cx.P=C.prog∧CxOk cx∧GOk cx W (QdH W)∧fn.body=some c∧cutAt cx f [.code c]=none∧blk cx f [.code c] (xs.map .v) Heap.nil=some (.v (.bool true),h')):
 ReturnsInHanded {} C os f .any (fun w args=>((Qdt s k).pre enc C.prog fn [] false w args∧laidMetH C.prog laid w)∧sizedMet enc C.prog fn (Qdt s k) false w args)
  (s.post enc C.prog fn false true false false):=by
 have epre:(fun(w:World) (args:Array Value)=>((Qdt s k).pre enc C.prog fn [] false w args∧laidMetH C.prog laid w)∧sizedMet enc C.prog fn (Qdt s k) false w args)=
  fun w args=>(s.pre enc C.prog fn [] false w args∧(laidMetH C.prog laid w∧CondMet enc C.prog fn s k w args))∧sizedMet enc C.prog fn (OpenSpec.ofChange s) false w args:=by
  funext w args
  apply propext
  rw[Qvi]
  constructor
  ·rintro⟨⟨⟨a,b⟩,c⟩,d⟩
   exact⟨⟨a,c,b⟩,d⟩
  ·rintro⟨⟨a,c,b⟩,d⟩
   exact⟨⟨⟨a,b⟩,c⟩,d⟩
 rw[epre]
 refine Qdj (C:=C) (X:=fun w args=>laidMetH C.prog laid w∧CondMet enc C.prog fn s k w args) (fun _ _ _ hh h=>⟨h.1.of_heap hh,h.2.of_heap hh⟩) own started noInit hfn witness ?_
 intro W base args ds gs before hval hW _ hwt hX hsh _
 obtain⟨hL,ds',gs',before',hW2,hk⟩:=hX
 obtain⟨rfl,rfl,_⟩:=hW.unique hW2
 have hlt:=hW.lt
 have hW':=hW
 obtain⟨p,q,hA,hV,rfl,hfz,hnd⟩:=hW
 rw[hvars]at hV
 obtain⟨rfl,rfl⟩:=trodVars_none hV
 have hall:∀t∈fn.params.toList,(C.prog.readableRec t=true∧t<C.prog.types.size)∧t∈S∧Qko C.prog t=true:=by
  intro t ht
  have:=List.all_eq_true.1 hr t ht
  simp only[Bool.and_eq_true,decide_eq_true_eq]at this
  exact⟨this.1.1,Qay.1 this.1.2,this.2⟩
 obtain⟨xs,h1,h2,h3⟩:=QgR hS (Qdl W) fn.params.toList args.toList ds p (fun t ht=>(hall t ht).2) (QCf (Qe9 hA) hwt) (fun j t v hj hv=>hval j t v (by simpa using hj) (by simpa using hv)) hA
 obtain⟨cx,c,h',hP,hC,hG,hc,hcut,hblk⟩:=law W hL hsh ds xs h1 (by simpa using hk)
 have hcalls:=QnX hC (by rw[hP];exact hfn) hc hcut hG (xs:=xs) (vs:=args) (by simpa using h2.symm) (fun j x hj=>by
  obtain⟨u,hu,hrp⟩:=h3 j x hj
  exact⟨u,by simpa using hu,hrp⟩) hblk
 rw[hP]at hcalls
 refine hcalls.mono fun e W' ⟨he,bel⟩=>?_
 subst he
 obtain⟨s1,s2,s3⟩:=hs ds (Qe9 hA)
 refine⟨_,rfl,ds,[],p++[],[],p,[],hW',?_,?_,?_,bel.frame _,fun h=>by cases h⟩
 ·rw[List.append_nil,s1,hres,hsz]
  exact trodAll_mk1 (shut_bool htb _)
 ·rw[List.append_nil,s2]
  exact QgQ hl bel _ _ _ _ (fun t ht=>(hall t ht).1) (fun x hx=>hlt x (by simpa using hx)) hA
 ·rw[List.append_nil,s3,hvars]
  rfl
end Go.Proofs.Am
