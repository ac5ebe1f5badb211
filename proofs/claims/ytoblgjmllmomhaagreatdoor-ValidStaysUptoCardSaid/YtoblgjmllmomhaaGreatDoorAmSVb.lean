/-
  slices.Clone and slices.Grow at nil, of numbers, and errors.Is at numbers, as calls of the machine.
-/
import Derived.Test.YtoblgjmllmomhaaGreatDoorAmSVa
import Derived.Test.YtoblgjmllmomhaaGreatDoorAmSVis
import Derived.Test.YtoblgjmllmomhaaGreatDoorAmExt
namespace Go.Proofs.YtoblgjmllmomhaaGreatDoor
open Go Go.Proofs.Am
theorem QwJ {cx:Cx}(hP:cx.P=Tryz.prog):ExtOk cx 78 Qi1:=by
 have hi:=Tryz.laysC.i3
 rw[Option.map_eq_some_iff]at hi
 obtain⟨i,h1,h2⟩:=hi
 simp only[Prod.mk.injEq]at h2
 obtain⟨hz,hs,hb⟩:=h2
 refine Qsk (t:=3) (by rw[hP];exact fun w=>Qgq Tryz.laysG w) ?_
 rw[hP]
 intro n w hn hbig
 refine(Qil Tryz.laysG i _ h1 hz (by omega) (by omega) n w hn (by rw[hb];exact hbig)).mono ?_
 rintro e w' ⟨rfl,rfl⟩
 have hge:n≤grownCap w n 0 3:=grownCap_ge w _ _ _
 refine⟨_,?_,rfl⟩
 rw[show(Builtin.zeroCells (Value.int IntKind.i64 0).cells n++Builtin.zeroCells (Value.int IntKind.i64 0).cells (grownCap w n 0 (Tryz.laysG_ren.t 25)-n)).size=grownCap w n 0 3 from by
  simp only[Array.size_append,Builtin.zeroCells,Array.size_map,Array.size_range,Value.cells,List.size_toArray,List.length_cons,List.length_nil,Nat.zero_add,Nat.mul_one]
  show n+(grownCap w n 0 3-n)=_
  omega]
 rfl
def isE:List LV→Option LV
 |[.v (.ifc 56 (.int .i64 a)),.v (.ifc 56 (.int .i64 b))]=>some (.v (.bool (a==b)))
 |[.v .nilI,.v (.ifc 56 (.int .i64 _))]=>some (.v (.bool false))
 |_=>none
theorem QCg {y z:LV}{vs:Array Value}(hl:vs.size=[y,z].length):∃v u,vs= #[v,u]:=by
 obtain⟨l⟩:=vs
 match l,hl with
 |[v,u],_=>exact⟨v,u,rfl⟩
theorem QC8 {cx:Cx}(hP:cx.P=Tryz.prog):ExtOk cx 71 isE:=by
 refine QgA ?_
 intro xs x hx w g vs wf hG hl hr
 rw[hP]
 unfold isE at hx
 split at hx
 ·rename_i a b
  cases hx
  obtain⟨v,u,rfl⟩:=QCg hl
  obtain⟨p,v',e1,e2,r1⟩:=hr 0 _ rfl
  obtain⟨q,u',e3,e4,r2⟩:=hr 1 _ rfl
  cases e1;cases e2;cases e3;cases e4
  obtain rfl:v=.iface 56 (.int .i64 a):=by cases r1 with|ifc _ _ _ r=>cases r;rfl
  obtain rfl:u=.iface 56 (.int .i64 b):=by cases r2 with|ifc _ _ _ r=>cases r;rfl
  exact⟨_,_,rfl,.bool _,Qwm a b w⟩
 ·rename_i b
  cases hx
  obtain⟨v,u,rfl⟩:=QCg hl
  obtain⟨p,v',e1,e2,r1⟩:=hr 0 _ rfl
  obtain⟨q,u',e3,e4,r2⟩:=hr 1 _ rfl
  cases e1;cases e2;cases e3;cases e4
  obtain rfl:v=.nilIface:=by cases r1;rfl
  obtain rfl:u=.iface 56 (.int .i64 b):=by cases r2 with|ifc _ _ _ r=>cases r;rfl
  exact⟨_,_,rfl,.bool _,Qwn b w⟩
 ·cases hx
end Go.Proofs.YtoblgjmllmomhaaGreatDoor
