/-
  strings.Fields (over ASCII) and strings.Contains, by the shelf's contracts, as calls of the abstract machine.
-/
import Derived.Test.YtoblgjmllmomhaaGreatDoorAmExt
import Derived.Test.YtoblgjmllmomhaaGreatDoorAmFast
import Derived.Test.YtoblgjmllmomhaaGreatDoorAmS15a
namespace Go.Proofs.YtoblgjmllmomhaaGreatDoor
open Go Go.Proofs.Am
def Qxo (s:ByteArray):Bool:=s.data.toList.all fun b=>Nat.blt b.toNat 128
def small (s:ByteArray):Bool:=Nat.blt s.size 4294967281
def Qhs:List LV→Option LV
 |[.v (.str s)]=>bif Qxo s&&small s then some (.v (.imm (((Lib.fields s.data.toList).map fun l=>AV.str ⟨l.toArray⟩).map fun a=>[a])))else none
 |_=>none
def Qep:List LV→Option LV
 |[.v (.str s),.v (.str t)]=>bif small s then some (.v (.bool (Lib.contains s.data.toList t.data.toList)))else none
 |_=>none
def Qe3:List AV:=(List.range 256).map fun c=>.int .u8 (if Lib.isSp (UInt8.ofNat c)then 1 else 0)
theorem Quw {xs:List LV}{y:LV}{vs:Array Value}(h:xs=[y])(hl:vs.size=xs.length):∃v,vs= #[v]:=by
 subst h
 obtain⟨l⟩:=vs
 match l,hl with
 |[v],_=>exact⟨v,rfl⟩
theorem QoE {xs:List LV}{y z:LV}{vs:Array Value}(h:xs=[y,z])(hl:vs.size=xs.length):∃v u,vs= #[v,u]:=by
 subst h
 obtain⟨l⟩:=vs
 match l,hl with
 |[v,u],_=>exact⟨v,u,rfl⟩
theorem Qk3 {cx:Cx}(hP:cx.P=Tryz.prog)(hg:cx.glob 0=some Qe3):ExtOk cx 118 Qhs:=by
 refine Qle ?_
 intro xs x hx w g vs wf hG hl hr
 unfold Qhs at hx
 split at hx
 ·rename_i s
  cases hc:(Qxo s&&small s)with
  |false=>rw[hc]at hx;cases hx
  |true=>
   rw[hc,cond_true,Option.some.injEq]at hx
   subst hx
   rw[Bool.and_eq_true]at hc
   obtain⟨v,rfl⟩:=Quw rfl hl
   obtain⟨p,u,hp,hu,hrep⟩:=hr 0 _ rfl
   cases hp
   simp at hu
   subst hu
   cases hrep
   refine⟨_,(Lib.fields s.data.toList).map fun l=>Value.string ⟨l.toArray⟩,9,rfl,by simp,fun j a hj=>?_,?_⟩
   ·rw[List.getElem?_map]at hj⊢
    cases hl:(Lib.fields s.data.toList)[j]? with
    |none=>rw[hl]at hj;cases hj
    |some l=>
     rw[hl]at hj
     simp only[Option.map_some,Option.some.injEq]at hj
     subst hj
     exact⟨_,rfl,.str _,rfl⟩
   ·rw[hP]
    have:=Any.strings_Fields_core Tryz.lays157 (by kernel_rfl) s w (Nat.le_of_ble_eq_true hc.2) (fun j b hb=>by
     have:=List.all_eq_true.1 hc.1 b (List.mem_of_getElem? hb)
     exact Nat.le_of_ble_eq_true this) (fun c hc=>by
     obtain⟨u,hu,hrep⟩:=Qgt hG hg (j:=c) (c:=.int .u8 (if Lib.isSp (UInt8.ofNat c)then 1 else 0)) (by
      unfold Qe3
      rw[List.getElem?_map,List.getElem?_range hc];rfl)
     cases hrep
     exact hu)
    simp only[List.length_map]
    exact this
 ·cases hx
theorem Qhy {cx:Cx}{m:Int}(hP:cx.P=Tryz.prog)(hg:cx.glob 2=some [.int .i64 m]):ExtOk cx 157 Qep:=by
 refine QgA ?_
 intro xs x hx w g vs wf hG hl hr
 unfold Qep at hx
 split at hx
 ·rename_i s t
  cases hc:small s with
  |false=>rw[hc]at hx;cases hx
  |true=>
   rw[hc,cond_true,Option.some.injEq]at hx
   subst hx
   obtain⟨v,v',rfl⟩:=QoE rfl hl
   obtain⟨p,u,hp,hu,hrep⟩:=hr 0 _ rfl
   obtain⟨p',u',hp',hu',hrep'⟩:=hr 1 _ rfl
   cases hp;cases hp'
   simp at hu hu'
   subst hu;subst hu'
   cases hrep;cases hrep'
   obtain⟨u,hu,hrep⟩:=Qgt hG hg (j:=0) rfl
   cases hrep
   refine⟨_,_,rfl,.bool _,?_⟩
   rw[hP]
   exact Any.strings_Contains Tryz.lays144 s t m w (Nat.le_of_ble_eq_true hc) hu
 ·cases hx
end Go.Proofs.YtoblgjmllmomhaaGreatDoor
