/-
  The machine for code's types: op.Look by its table, the innermost block by a contract that only looks, what takes types by a contract.
-/
import Derived.Test.YtoblgjmllmomhaaGreatDoorAmS15d
import Derived.Test.YtoblgjmllmomhaaGreatDoorAmSym
import Derived.Test.YtoblgjmllmomhaaGreatDoorAmGrown
import Derived.Test.YtoblgjmllmomhaaGreatDoorAmSVb
namespace Go.Proofs.YtoblgjmllmomhaaGreatDoor
open Go Go.Proofs.Am
noncomputable def QwW (_m:Int)(f:Nat):Option (List LV→Option LV):=bif Nat.beq f 80 then some QrX else bif Nat.beq f 37 then some QdB else bif Nat.beq f 78 then some Qi1 else bif Nat.beq f 71 then some isE else none
def Qr7 (f r i:Nat):Bool:=Qwt f r i||(Nat.beq f 72&&Nat.beq r 1&&Nat.beq i 4)||(Nat.beq f 75&&Nat.beq r 1&&Nat.beq i 3)
def QrD (f r i:Nat):Bool:=QvV f r i||(Nat.beq f 34&&Nat.beq r 4&&Nat.beq i 10)
def QDd (f id:Nat):Option Keep:=
 bif Nat.beq f 56&&Nat.beq id 5 then some ⟨[1,3,4,5,6],[(0,9)],1⟩else bif Nat.beq f 56&&Nat.beq id 7 then some ⟨[1],[(0,9)],1⟩else QDe f id
noncomputable def cxB (m:Int):Cx:={cxS m with cut:=QDd,ext:=QwW m,heap:=Qr7,pure:=QrD}
theorem QkZ {f:FuncId}{fn:Func}(h:Tryz.prog.funcs[f]? =some fn)(hb:fn.body.isSome=true):∃fn c,Tryz.prog.funcs[f]? =some fn∧fn.body=some c:=by
 obtain⟨c,hc,_⟩:=QbC h hb
 exact⟨fn,c,h,hc⟩
theorem Qlm (m:Int):CxOk (cxB m) where
 names:=QcM
 ext:=fun f e h=>by
  have h:QwW m f=some e:=h
  unfold QwW at h
  cases hb:Nat.beq f 80 with
  |true=>
   rw[hb]at h
   cases h
   have:=Nat.eq_of_beq_eq_true hb
   subst this
   exact look_ok (m:=m) rfl rfl
  |false=>
  rw[hb,cond_false]at h
  cases hb:Nat.beq f 37 with
  |true=>
   rw[hb]at h
   cases h
   have:=Nat.eq_of_beq_eq_true hb
   subst this
   exact⟨QsU rfl,QkZ Tryz.func37 (by kernel_rfl)⟩
  |false=>
  rw[hb,cond_false]at h
  cases hb:Nat.beq f 78 with
  |true=>
   rw[hb]at h
   cases h
   have:=Nat.eq_of_beq_eq_true hb
   subst this
   exact⟨QwJ rfl,QkZ Tryz.func78 (by kernel_rfl)⟩
  |false=>
  rw[hb,cond_false]at h
  cases hb:Nat.beq f 71 with
  |false=>rw[hb]at h;cases h
  |true=>
   rw[hb]at h
   cases h
   have:=Nat.eq_of_beq_eq_true hb
   subst this
   exact⟨QC8 rfl,QkZ Tryz.func71 (by kernel_rfl)⟩
 mixed:=by kernel_rfl
 globs:=QcV m
def Qti:List LV→Heap→Option LV
 |[.v (.ptr L 0)],h=>
  match ldP h (.ptr L 8) 1 false with
  |some (.arr n id o (k+1))=>bif Nat.beq n 4&&Nat.ble k 4611686018427387904 then some (.v (.ptr id (o+k*4)))else none
  |_=>none
 |_,_=>none
def QBL (f:Nat):Option (List LV→Heap→Option LV):=bif Nat.beq f 53 then some Qti else none
noncomputable def cxE (m:Int)(e:FuncId→Option (List LV→Heap→Option (LV×Heap))):Cx:={cxB m with exr:=QBL,exh:=e}
end Go.Proofs.YtoblgjmllmomhaaGreatDoor
