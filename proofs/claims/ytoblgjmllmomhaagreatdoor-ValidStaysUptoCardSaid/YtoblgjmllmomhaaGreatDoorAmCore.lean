/-
  An abstract machine over a loaded program: values without addresses, local boxes by number, heap boxes by number, owned slices.
-/
import Derived.Calls
namespace Go.Proofs.Am
open Go
inductive AV where
 |int (k:IntKind) (n:Int)
 |bool (b:Bool)
 |str (s:ByteArray)
 |nilI
 |nilP
 |nilF
 |nilM
 |nilS
 |nilE
 |ifc (t:TypeId) (v:AV)
 |ptr (id off:Nat)
 |snap (cs:List AV)
 |imm (xs:List (List AV))
 |arr (n id off len:Nat)
 |mp (id:Nat)
 |agg (cs:List AV)
 |fn (f:FuncId) (fs caps:List AV)
 deriving Inhabited
inductive LV where
 |un
 |ud
 |v (a:AV)
 |ow (n:Nat) (xs:List (List AV))
 |lp (i off:Nat)
 |tup (xs:List AV)
 |ag (cs:List LV)
 deriving Inhabited
structure Heap where
 bx:List (List LV)
 mp:List (List (AV×List AV))
 deriving Inhabited
def Heap.nil:Heap:={bx:=[],mp:=[]}
def LV.isC:LV→Bool
 |.v _=>true
 |.ow _ _=>true
 |_=>false
def LV.cp1:LV→LV
 |.ow _ xs=>.v (.imm xs)
 |x=>x
def LV.cpy1:LV→Option AV
 |.v a=>some a
 |.ow _ xs=>some (.imm xs)
 |_=>none
def cpyL:List LV→Option (List AV)
 |[]=>some []
 |x::xs=>x.cpy1.bind fun a=>(cpyL xs).bind fun r=>some (a::r)
def cpL:List LV→List LV
 |[]=>[]
 |x::xs=>x.cp1::cpL xs
def LV.cp:LV→LV
 |.ow _ xs=>.v (.imm xs)
 |.ag cs=>.ag (cpL cs)
 |x=>x
def LV.cpy:LV→Option AV
 |.v a=>some a
 |.ow _ xs=>some (.imm xs)
 |.ag cs=>(cpyL cs).bind fun r=>some (.agg r)
 |_=>none
def LV.arg:LV→Option LV
 |.v a=>some (.v a)
 |.ow n xs=>some (.ow n xs)
 |_=>none
mutual
def AV.np:AV→Bool
 |.ifc _ v=>v.np
 |.imm xs=>Qh1 xs
 |.agg cs=>npL cs
 |.arr _ _ _ _=>false
 |.mp _=>false
 |.ptr _ _=>false
 |.snap cs=>npL cs
 |.fn _ _ _=>false
 |_=>true
def npL:List AV→Bool
 |[]=>true
 |x::xs=>x.np&&npL xs
def Qh1:List (List AV)→Bool
 |[]=>true
 |x::xs=>npL x&&Qh1 xs
end
def LV.np:LV→Bool
 |.v a=>a.np
 |.ow _ xs=>Qh1 xs
 |.tup xs=>npL xs
 |_=>false
def Qbw:List LV→Bool
 |[]=>true
 |x::xs=>x.np&&Qbw xs
def AV.toI:AV→Option Int
 |.int _ n=>some n
 |_=>none
def AV.toB:AV→Option Bool
 |.bool b=>some b
 |_=>none
def LV.toB:LV→Option Bool
 |.v (.bool b)=>some b
 |_=>none
def AV.toC (n:Nat):AV→Option (List AV)
 |.agg cs=>bif Nat.beq cs.length n then some cs else none
 |a=>bif Nat.beq n 1 then some [a]else none
def gd (cs:List AV)(j:Nat):AV:=cs.getD j .nilI
def avC:Value→Option AV
 |.int k n=>some (.int k n)
 |.bool b=>some (.bool b)
 |.string s=>some (.str s)
 |.nilIface=>some .nilI
 |.pointer none=>some .nilP
 |.nilFunc=>some .nilF
 |.map none=>some .nilM
 |.slice none 0 0=>some (.imm [])
 |_=>none
def Qxl:List Value→Option (List AV)
 |[]=>some []
 |x::xs=>(avC x).bind fun a=>(Qxl xs).bind fun as=>some (a::as)
def Qbq (P:Program)(t:TypeId):Option (List AV):=
 (P.info? t).bind fun i=>i.zero.bind fun z=>Qxl z.cells.toList
def tyz (P:Program)(t:TypeId):Option (Nat×Bool):=
 (P.info? t).bind fun i=>(P.underlying t).bind fun d=>
  some (i.size,match d with|.struct _=>true|.array _ _=>true|_=>false)
def QaA (P:Program)(t:TypeId):Option TypeId:=
 (P.underlying t).bind fun d=>match d with|.slice e=>some e|_=>none
def QBP (P:Program)(t:TypeId):Nat:=
 match QaA P t with
 |some e=>(match P.info? e with|some i=>i.size|none=>0)
 |none=>0
def lvC (P:Program)(t:TypeId)(c:Value):LV:=
 match c with
 |.slice none 0 0=>.ow (QBP P t) []
 |c=>match avC c with|some a=>.v a|none=>.un
def QlK (P:Program):Nat→TypeId→List TypeId
 |0,_=>[]
 |d+1,t=>
  match P.underlying t with
  |some (.struct fs)=>(fs.toList.map fun f=>QlK P d f.type).flatten
  |some (.array n e)=>(List.replicate n (QlK P d e)).flatten
  |_=>[t]
def QbD (P:Program):List TypeId→List Value→List LV
 |_,[]=>[]
 |[],z::zs=>lvC P 0 z::QbD P [] zs
 |t::ts,z::zs=>lvC P t z::QbD P ts zs
def lvN (c:Value):LV:=
 match c with
 |.slice none 0 0=>.v .nilS
 |c=>match avC c with|some a=>.v a|none=>.un
def Qpw (P:Program)(t:TypeId):Option (List LV):=
 (P.info? t).bind fun i=>i.zero.bind fun z=>some (z.cells.toList.map lvN)
def QgW (P:Program)(t:TypeId):Option (List LV):=
 (P.info? t).bind fun i=>i.zero.bind fun z=>some (QbD P (QlK P 8 t) z.cells.toList)
def Qjs (nn:Bool)(P:Program)(t:TypeId):Option (List LV):=bif nn then Qpw P t else QgW P t
def ltZ:Int→Int→Bool
 |.ofNat a,.ofNat b=>Nat.blt a b
 |.ofNat _,.negSucc _=>false
 |.negSucc _,.ofNat _=>true
 |.negSucc a,.negSucc b=>Nat.blt b a
def eqZ:Int→Int→Bool
 |.ofNat a,.ofNat b=>Nat.beq a b
 |.negSucc a,.negSucc b=>Nat.beq a b
 |_,_=>false
def leZ (x y:Int):Bool:=!ltZ y x
def arI (op:BinOp)(k:IntKind)(x y:Int):Option AV:=
 match op with
 |.add=>some (.int k (k.wrap (x+y)))
 |.sub=>some (.int k (k.wrap (x-y)))
 |.mul=>some (.int k (k.wrap (x*y)))
 |.quo=>bif decide (y=0)then none else some (.int k (k.wrap (x.tdiv y)))
 |.rem=>bif decide (y=0)then none else some (.int k (x.tmod y))
 |.and=>some (.int k (k.wrap (BitVec.ofInt k.bits x&&&BitVec.ofInt k.bits y).toNat))
 |.or=>some (.int k (k.wrap (BitVec.ofInt k.bits x|||BitVec.ofInt k.bits y).toNat))
 |.xor=>some (.int k (k.wrap (BitVec.ofInt k.bits x^^^BitVec.ofInt k.bits y).toNat))
 |.andNot=>some (.int k (k.wrap (BitVec.ofInt k.bits x&&&~~~BitVec.ofInt k.bits y).toNat))
 |.eql=>some (.bool (eqZ x y))
 |.neq=>some (.bool (!eqZ x y))
 |.lss=>some (.bool (ltZ x y))
 |.leq=>some (.bool (leZ x y))
 |.gtr=>some (.bool (ltZ y x))
 |.geq=>some (.bool (leZ y x))
 |_=>none
def shI (op:BinOp)(k:IntKind)(x y:Int):Option AV:=
 bif decide (y<0)then none else
 match op with
 |.shl=>some (.int k (k.wrap (x*2^(min y.toNat k.bits))))
 |.shr=>some (.int k (x.fdiv (2^(min y.toNat k.bits))))
 |_=>none
def stS (op:BinOp)(x y:ByteArray):Option AV:=
 match op with
 |.add=>bif decide (((x.size+y.size:Nat):Int)≤9223372036854775807)then some (.str (x++y))else none
 |.eql=>some (.bool (x.toList==y.toList))
 |.neq=>some (.bool (!(x.toList==y.toList)))
 |.lss=>some (.bool (Op.bytesLess x.toList y.toList))
 |.leq=>some (.bool (Op.bytesLess x.toList y.toList||x.toList==y.toList))
 |.gtr=>some (.bool (!(Op.bytesLess x.toList y.toList||x.toList==y.toList)))
 |.geq=>some (.bool (!Op.bytesLess x.toList y.toList))
 |_=>none
def ldA (cs:List AV)(n:Nat)(ag:Bool):Option AV:=
 bif ag then(bif Nat.ble n cs.length then some (.agg (cs.take n))else none)else cs.head?
def Qw0 (P:Program)(E:TypeId→AV→AV→Option Bool)(xs ys:List AV):List Field→Option Bool
 |[]=>some true
 |f::fs=>bif decide (f.name= "_")then none else(tyz P f.type).bind fun z=>(ldA (xs.drop f.offset) z.1 z.2).bind fun a=>(ldA (ys.drop f.offset) z.1 z.2).bind fun b=>
  (E f.type a b).bind fun q=>(Qw0 P E xs ys fs).bind fun r=>some (q&&r)
def eqT (P:Program):Nat→TypeId→AV→AV→Option Bool
 |0,_,_,_=>none
 |d+1,t,x,y=>
  match P.underlying t with
  |some .bool=>(match x,y with|.bool a,.bool b=>some (a==b)|_,_=>none)
  |some (.int _)=>(match x,y with|.int k a,.int k' b=>bif decide (k=k')then some (a==b)else none|_,_=>none)
  |some .string=>(match x,y with|.str a,.str b=>some (a==b)|_,_=>none)
  |some (.pointer _)=>(match x,y with
   |.nilP,.nilP=>some true
   |.nilP,.ptr _ _=>some false
   |.nilP,.snap _=>some false
   |.ptr _ _,.nilP=>some false
   |.snap _,.nilP=>some false
   |_,_=>none)
  |some (.interface _)=>(match x,y with
   |.nilI,.ifc _ _=>some false
   |.ifc _ _,.nilI=>some false
   |.ifc t1 a,.ifc t2 b=>bif Nat.beq t1 t2 then(P.info? t1).bind fun i=>bif i.comparable then eqT P d t1 a b else none else some false
   |_,_=>none)
  |some (.func _ _ _)=>(match x,y with
   |.nilF,.nilF=>some true
   |.nilF,.fn _ _ _=>some false
   |.fn _ _ _,.nilF=>some false
   |_,_=>none)
  |some (.map _ _)=>(match x,y with
   |.nilM,.nilM=>some true
   |.nilM,.mp _=>some false
   |.mp _,.nilM=>some false
   |_,_=>none)
  |some (.struct fs)=>(match x,y with
   |.agg xs,.agg ys=>bif P.stoodInHeld t then none else Qw0 P (eqT P d) xs ys fs.toList
   |_,_=>none)
  |_=>none
def eqA (P:Program)(t:TypeId)(c:Bool)(x y:AV):Option Bool:=
 match x,y with
 |.nilI,.nilI=>(match P.underlying t with|some (.interface _)=>bif c then some true else none|_=>none)
 |.agg xs,y=>bif P.eqGuardType P.depth t then none else eqT P 8 t (.agg xs) y
 |x,y=>eqT P 8 t x y
def Qtw (P:Program)(op:BinOp)(t:TypeId)(c:Bool)(x y:AV):Option AV:=
 match x,y with
 |.int k a,.int k' b=>
  match op with
  |.shl=>shI .shl k a b
  |.shr=>shI .shr k a b
  |op=>bif decide (k=k')then arI op k a b else none
 |.str a,.str b=>stS op a b
 |x,y=>
  match op with
  |.eql=>(eqA P t c x y).bind fun b=>some (.bool b)
  |.neq=>(eqA P t c x y).bind fun b=>some (.bool (!b))
  |_=>none
def unA (op:UnOp)(x:AV):Option AV:=
 match op,x with
 |.neg,.int k n=>arI .sub k 0 n
 |.xor,.int k n=>arI .xor k (bif k.signed then-1 else k.max) n
 |.not,.bool b=>some (.bool (!b))
 |_,_=>none
def QeM (s:ByteArray):List (List AV):=s.data.toList.map fun b=>[.int .u8 b.toNat]
def bytesOf:List (List AV)→Option (List UInt8)
 |[]=>some []
 |[.int .u8 n]::xs=>bif decide (0≤n)&&decide (n<256)then(bytesOf xs).bind fun r=>some (n.toNat.toUInt8::r)else none
 |_::_=>none
def cvA (P:Program)(src dst:TypeId)(x:AV):Option LV:=
 (P.underlying src).bind fun s=>(P.underlying dst).bind fun d=>
 match s,d,x with
 |_,.int k,.int _ n=>some (.v (.int k (k.wrap n)))
 |.string,.string,.str b=>some (.v (.str b))
 |_,.slice e,.str b=>
  match P.underlying e with
  |some (.int .u8)=>some (.ow 1 (QeM b))
  |_=>none
 |.slice e,.string,.imm xs=>
  match P.underlying e with
  |some (.int .u8)=>(bytesOf xs).bind fun r=>some (.v (.str ⟨r.toArray⟩))
  |_=>none
 |_,_,_=>none
def ldS (a:AV)(n:Nat)(ag:Bool):Option AV:=
 match a with
 |.snap cs=>ldA cs n ag
 |_=>none
def ldP (h:Heap)(a:AV)(n:Nat)(ag:Bool):Option AV:=
 match a with
 |.ptr id off=>h.bx[id]?.bind fun bx=>(cpyL ((bx.drop off).take n)).bind fun cs=>bif Nat.beq cs.length n then ldA cs n ag else none
 |_=>none
def tkP (h:Heap)(a:AV):Option (LV×Heap):=
 match a with
 |.ptr id off=>h.bx[id]?.bind fun bx=>bx[off]?.bind fun x=>some (x,{h with bx:=h.bx.set id (bx.set off .un)})
 |_=>none
def QgU:List LV→Nat→List LV→List LV
 |bx,_,[]=>bx
 |bx,off,x::xs=>QgU (bx.set off x) (off+1) xs
def stP (h:Heap)(a:AV)(cs:List LV):Option Heap:=
 match a with
 |.ptr id off=>h.bx[id]?.bind fun bx=>bif Nat.ble (off+cs.length) bx.length then some {h with bx:=h.bx.set id (QgU bx off cs)}else none
 |_=>none
def Qdi (h:Heap)(cs:List LV):Heap:={h with bx:=h.bx++[cs]}
def Qv6 (a:AV):Option AV:=
 match a with
 |.ptr id off=>some (.ptr id off)
 |.snap cs=>some (.snap cs)
 |.fn g fs caps=>some (.fn g fs caps)
 |_=>none
def fpA (a:AV)(o:Nat):Option AV:=
 match a with
 |.snap cs=>some (.snap (cs.drop o))
 |.ptr id off=>some (.ptr id (off+o))
 |_=>none
def fdA (a:AV)(o n:Nat)(ag:Bool):Option AV:=
 match a with
 |.agg cs=>ldA (cs.drop o) n ag
 |_=>none
def ixA (a:AV)(i:Int)(n:Nat):Option (List AV):=
 match a with
 |.imm xs=>bif decide (0≤i)then xs[i.toNat]?.bind fun cs=>bif Nat.beq cs.length n then some cs else none else none
 |_=>none
def ixP (a:AV)(i:Int)(n:Nat):Option AV:=
 match a with
 |.arr m id off len=>bif Nat.beq m n&&decide (0≤i)&&decide (i<len)then some (.ptr id (off+i.toNat*n))else none
 |_=>none
def ixS (d:Option TypeDesc)(a:AV)(i:Int):Option AV:=
 match d with
 |some .string=>(match a with|.str s=>bif decide (0≤i)then s[i.toNat]?.bind fun b=>some (.int .u8 b.toNat)else none|_=>none)
 |_=>none
def mnA (mx:Bool)(a b:AV):Option AV:=
 match a,b with
 |.int k x,.int _ y=>bif mx then some (.int k (bif decide (y>x)then y else x))else some (.int k (bif decide (y<x)then y else x))
 |_,_=>none
def mxL (mx:Bool):AV→List AV→Option AV
 |a,[]=>some a
 |a,b::bs=>(mnA mx a b).bind fun r=>mxL mx r bs
def QBk (mx:Bool):List AV→Option AV
 |[]=>none
 |a::as=>mxL mx a as
def lnA (d:Option TypeDesc)(a:AV):Option Int:=
 match d with
 |some (.slice _)=>(match a with|.imm xs=>some xs.length|.arr _ _ _ len=>some len|.nilS=>some 0|.nilE=>some 0|_=>none)
 |some .string=>(match a with|.str s=>some s.size|_=>none)
 |_=>none
def QbW (n:Nat)(ys:List (List AV)):Bool:=
 match ys with
 |[]=>true
 |y::_=>Nat.beq y.length n
def slA (P:Program)(t:TypeId)(a:AV)(lo hi:Option Int):Option AV:=
 match P.underlying t with
 |some (.slice e)=>
  (P.info? e).bind fun i=>
  (match a with
   |.imm xs=>
    bif decide (0≤lo.getD 0)&&decide (lo.getD 0≤hi.getD xs.length)&&decide (hi.getD xs.length≤xs.length)&&QbW i.size xs then
     some (.imm ((xs.take (hi.getD xs.length).toNat).drop (lo.getD 0).toNat))else none
   |.arr n id off len=>
    bif decide (0≤lo.getD 0)&&decide (lo.getD 0≤hi.getD len)&&decide (hi.getD len≤len)&&Nat.beq n i.size then
     (bif decide (lo.getD 0=0)||decide (lo.getD 0<hi.getD len)then some (.arr n id (off+(lo.getD 0).toNat*n) ((hi.getD len).toNat-(lo.getD 0).toNat))else some (.imm []))else none
   |.nilS=>bif decide (lo.getD 0=0)&&decide (hi.getD 0=0)then some .nilS else none
   |.nilE=>bif decide (lo.getD 0=0)&&decide (hi.getD 0=0)then some .nilE else none
   |_=>none)
 |some .string=>
  (match a with
   |.str s=>bif decide (0≤lo.getD 0)&&decide (lo.getD 0≤hi.getD s.size)&&decide (hi.getD s.size≤s.size)then some (.str (s.extract (lo.getD 0).toNat (hi.getD s.size).toNat))else none
   |_=>none)
 |_=>none
def exL (x:LV)(i:Nat):Option AV:=
 match x with
 |.tup xs=>xs[i]?
 |_=>none
def elA (d:Option TypeDesc)(n:Nat)(a:AV):Option (List (List AV)):=
 match d with
 |some (.slice _)=>(match a with|.imm xs=>some xs|.nilS=>some []|.nilE=>some []|_=>none)
 |some .string=>(match a with|.str s=>bif Nat.beq n 1 then some (QeM s)else none|_=>none)
 |_=>none
def room (len bytes:Nat):Bool:=Nat.ble (len*bytes) 140737488355328&&Nat.blt 0 bytes
def QaU (len bytes:Nat):Bool:=(Nat.ble (len*bytes) 140737488355328||Nat.ble ((len+len/4+192)*bytes) 281474976710656)&&Nat.blt 0 bytes
def apL (x:LV)(n bytes:Nat)(ys:List (List AV)):Option LV:=
 match x with
 |.ow m xs=>bif Nat.beq m n&&QbW n ys&&QaU (xs.length+ys.length) bytes then some (.ow n (xs++ys))else none
 |.v .nilS=>bif QbW n ys&&QaU ys.length bytes then some (.ow n ys)else none
 |_=>none
def Qal (xs:List (List AV)):List LV:=xs.flatten.map .v
def apH (h:Heap)(x:AV)(n bytes:Nat)(ys:List (List AV)):Option (AV×Heap):=
 match x with
 |.nilS=>bif QbW n ys&&QaU ys.length bytes&&Nat.blt 0 ys.length then some (.arr n h.bx.length 0 ys.length,{h with bx:=h.bx++[Qal ys]})else none
 |.nilE=>bif QbW n ys&&QaU ys.length bytes&&Nat.blt 0 ys.length then some (.arr n h.bx.length 0 ys.length,{h with bx:=h.bx++[Qal ys]})else none
 |.arr m id off len=>
  bif Nat.beq m n&&QbW n ys&&QaU (len+ys.length) bytes&&Nat.blt 0 ys.length then
   h.bx[id]?.bind fun bx=>
   bif Nat.ble (off+(len+ys.length)*n) bx.length then some (.arr n id off (len+ys.length),{h with bx:=h.bx.set id (QgU bx (off+len*n) (Qal ys))})
   else bif Nat.beq off 0&&Nat.ble (len*n) bx.length&&Nat.blt 0 bx.length then some (.arr n h.bx.length 0 (len+ys.length),{h with bx:=h.bx.set id []++[bx.take (len*n)++Qal ys]})
   else none
  else none
 |_=>none
def apG (h:Heap)(x:AV)(n bytes:Nat)(ys:List (List AV)):Option (AV×Heap):=
 match ys with
 |[]=>(match x with|.nilS=>some (.nilS,h)|.nilE=>some (.nilE,h)|.arr m id off len=>bif Nat.beq m n then some (.arr m id off len,h)else none|_=>none)
 |y::ys=>apH h x n bytes (y::ys)
def QrC (cs:List LV)(o:Nat)(g:Nat→LV):Nat→List LV
 |0=>cs
 |n+1=>(QrC cs o g n).set (o+n) (g n)
def fieldsOf (P:Program)(t:TypeId):Option (List Field):=
 (P.underlying t).bind fun d=>match d with|.struct fs=>some fs.toList|_=>none
def Qmb (n:Nat)(xs:List (List AV)):List (Nat×AV)→Option (List (List AV))
 |[]=>some xs
 |(i,a)::r=>(a.toC n).bind fun ds=>bif Nat.blt i xs.length then Qmb n (xs.set i ds) r else none
def chunk (n:Nat):Nat→List AV→List (List AV)
 |0,_=>[]
 |k+1,l=>l.take n::chunk n k (l.drop n)
def frz (h:Heap)(a:AV):Option (AV×Heap):=
 match a with
 |.arr n id off len=>bif Nat.blt 0 n then h.bx[id]?.bind fun bx=>(cpyL ((bx.drop off).take (len*n))).bind fun cs=>
  bif Nat.beq cs.length (len*n)then some (.imm (chunk n len cs),{h with bx:=h.bx.set id []})else none
  else none
 |_=>none
def Qtk (h:Heap)(a:AV):Option (List AV):=
 match a with
 |.imm xs=>bif QbW 1 xs then some xs.flatten else none
 |.arr n id off len=>bif Nat.beq n 1 then h.bx[id]?.bind fun bx=>(cpyL ((bx.drop off).take len)).bind fun cs=>bif Nat.beq cs.length len then some cs else none else none
 |_=>none
def QAr (h:Heap)(n:Nat)(a:AV):Option (List (List AV)):=
 match a with
 |.arr m id off len=>
  bif Nat.beq m n&&Nat.blt 0 n then h.bx[id]?.bind fun bx=>(cpyL ((bx.drop off).take (len*n))).bind fun cs=>bif Nat.beq cs.length (len*n)then some (chunk n len cs)else none else none
 |.imm xs=>bif QbW n xs then some xs else none
 |.nilS=>some []
 |.nilE=>some []
 |_=>none
def cvH (P:Program)(h:Heap)(src dst:TypeId)(a:AV):Option LV:=
 match a with
 |.arr n id off len=>
  (P.underlying src).bind fun s=>(P.underlying dst).bind fun d=>
  match s,d with
  |.slice e,.string=>
   match P.underlying e with
   |some (.int .u8)=>(Qtk h (.arr n id off len)).bind fun cs=>bif Nat.blt 0 cs.length then(bytesOf (cs.map fun c=>[c])).bind fun r=>some (.v (.str ⟨r.toArray⟩))else none
   |_=>none
  |_,_=>none
 |a=>cvA P src dst a
def QAs (h:Heap)(n:Nat)(a:AV):Option (List (List AV)):=bif Nat.beq n 1 then(Qtk h a).bind fun cs=>some (cs.map fun c=>[c])else QAr h n a
def elX (P:Program)(h:Heap)(ar:Bool)(t:Option TypeId)(n:Nat)(a:AV):Option (List (List AV)):=
 bif ar then(t.bind (QaA P)).bind fun _=>QAs h n a else elA (t.bind P.underlying) n a
def cpH (h:Heap)(d s:AV):Option (AV×Heap):=
 match d with
 |.arr n id off len=>
  bif Nat.beq n 1 then(Qtk h s).bind fun cs=>
   bif Nat.blt 0 (Nat.min cs.length len)then(stP h (.ptr id off) ((cs.take (Nat.min cs.length len)).map .v)).bind fun h'=>some (.int .i64 (Nat.min cs.length len:Nat),h')else none
  else none
 |_=>none
structure St where
 t:Nat→LV
 m:Nat→Nat→LV
 z:Nat→Nat
 nl:Nat
 h:Heap
def upd {α:Type}(t:Nat→α)(d:Nat)(x:α):Nat→α:=fun j=>bif Nat.beq j d then x else t j
def Qng (m:Nat→Nat→LV)(i c:Nat)(x:LV):Nat→Nat→LV:=fun i' c'=>bif Nat.beq i' i&&Nat.beq c' c then x else m i' c'
def stN (m:Nat→Nat→LV)(i off:Nat)(g:Nat→LV):Nat→Nat→Nat→LV
 |0=>m
 |n+1=>Qng (stN m i off g n) i (off+n) (g n)
def ldN (m:Nat→Nat→LV)(i off:Nat):Nat→Option (List AV)
 |0=>some []
 |n+1=>(m i off).cpy1.bind fun a=>(ldN m i (off+1) n).bind fun r=>some (a::r)
structure Keep where
 ts:List Nat
 bs:List (Nat×Nat)
 nl:Nat
structure Cx where
 P:Program
 cut:FuncId→Nat→Option Keep
 take:FuncId→Nat→Nat→Bool
 heap:FuncId→Nat→Nat→Bool
 arr:FuncId→Nat→Nat→Bool
 pure:FuncId→Nat→Nat→Bool
 retOw:FuncId→Bool
 ext:FuncId→Option (List LV→Option LV)
 glob:Nat→Option (List AV)
 exh:FuncId→Option (List LV→Heap→Option (LV×Heap)):=fun _=>none
 exr:FuncId→Option (List LV→Heap→Option LV):=fun _=>none
 raw:Nat→Option Value:=fun _=>none
 exn:FuncId→Option (List LV→Nat→Option (LV×List (List LV))):=fun _=>none
abbrev Orc:=FuncId→List Item→List LV→Heap→Option (LV×Heap)
def St.rd (st:St):Operand→LV
 |.tmp j=>(st.t j).cp
 |.const c=>match avC c with|some a=>.v a|none=>.un
 |.func f=>.v (.fn f [] [])
 |.global _=>.un
def St.rv (st:St):Operand→Option AV
 |.tmp j=>(st.t j).cpy
 |.const c=>avC c
 |.func f=>some (.fn f [] [])
 |.global _=>none
def St.rb (st:St)(x:Operand):Option Bool:=(st.rd x).toB
def St.put (st:St)(d:Option Tmp)(x:LV):St:=
 match d with
 |some d=>{st with t:=upd st.t d x}
 |none=>st
def St.ra (st:St)(x:Operand):Option AV:=
 match x with
 |.const (.slice none 0 0)=>some .nilS
 |x=>st.rv x
def isC:Operand→Bool
 |.const _=>true
 |_=>false
section
variable {R:Type}
def Qjj (P:Program)(fs:List Field)(st:St):List (Nat×Operand)→List LV→(List LV→Option R)→Option R
 |[],cs,k=>k cs
 |(i,x)::r,cs,k=>
  (fs[i]?).bind fun f=>(tyz P f.type).bind fun z=>(st.rv x).bind fun a=>(a.toC z.1).bind fun ds=>
  bif Nat.ble (f.offset+z.1) cs.length then Qjj P fs st r (QrC cs f.offset (fun j=>.v (gd ds j)) z.1) k else none
def rvs (st:St):List Operand→(List AV→Option R)→Option R
 |[],k=>k []
 |x::xs,k=>(st.rv x).bind fun a=>rvs st xs fun as=>k (a::as)
def rvp (st:St):List (Nat×Operand)→(List (Nat×AV)→Option R)→Option R
 |[],k=>k []
 |(i,x)::xs,k=>(st.rv x).bind fun a=>rvp st xs fun as=>k ((i,a)::as)
def args (tk:Bool)(st:St):List Operand→(List LV→St→Option R)→Option R
 |[],k=>k [] st
 |x::xs,k=>
  bif tk then
   match x with
   |.tmp j=>(st.t j).arg.bind fun a=>args tk {st with t:=upd st.t j .un} xs fun as st=>k (a::as) st
   |x=>(st.rv x).bind fun a=>args tk st xs fun as st=>k (.v a::as) st
  else(st.ra x).bind fun a=>args tk st xs fun as st=>k (.v a::as) st
def cutAt (cx:Cx)(f:FuncId):List Item→Option Keep
 |.code (.region id _ _)::_=>cx.cut f id
 |_=>none
def LV.isV:LV→Bool
 |.v _=>true
 |_=>false
def Qo1 (e:List LV→Nat→Option (LV×List (List LV)))(xs:List LV)(h:Heap):Option (LV×Heap):=(e xs h.bx.length).bind fun r=>some (r.1,{h with bx:=h.bx++r.2})
def Qab (cx:Cx)(orc:Orc)(g:FuncId)(as:List LV)(h:Heap):Option (LV×Heap):=
 match cx.ext g with
 |some e=>bif as.all LV.isV then(e as).bind fun r=>some (r,h)else none
 |none=>
 match cx.exh g with
 |some e=>bif as.all LV.isV then e as h else none
 |none=>
 match cx.exr g with
 |some e=>bif as.all LV.isV then(e as h).bind fun r=>some (r,h)else none
 |none=>
 match cx.exn g with
 |some e=>bif as.all LV.isV then Qo1 e as h else none
 |none=>(cx.P.funcs[g]?).bind fun fn=>fn.body.bind fun c=>bif (cutAt cx g [.code c]).isNone then orc g [.code c] as h else none
def QaK (cx:Cx)(orc:Orc)(fv:AV)(as:List LV)(h:Heap):Option (LV×Heap):=
 match fv with
 |.fn g fs caps=>Qab cx orc g (fs.map .v++as++caps.map .v) h
 |_=>none
def toA (r:Option (LV×Heap)):Option (AV×Heap):=r.bind fun r=>r.1.cpy1.bind fun a=>some (a,r.2)
def toT (r:Option (LV×Heap)):Option (List AV×Heap):=r.bind fun r=>match r.1 with|.tup xs=>some (xs,r.2)|_=>none
def QeL (cx:Cx)(orc:Orc)(g:FuncId)(xs:List LV)(h:Heap):Option (AV×Heap):=toA (Qab cx orc g xs h)
def callT (cx:Cx)(orc:Orc)(g:FuncId)(xs:List LV)(h:Heap):Option (List AV×Heap):=toT (Qab cx orc g xs h)
def Qc5 (cx:Cx)(orc:Orc)(fv:AV)(xs:List LV)(h:Heap):Option (AV×Heap):=toA (QaK cx orc fv xs h)
def Qc4 (cx:Cx)(orc:Orc)(fv:AV)(xs:List LV)(h:Heap):Option (List AV×Heap):=toT (QaK cx orc fv xs h)
def Qap {A:Type}(w:A→LV)(pu:Bool)(xs:List LV)(call:Heap→Option (A×Heap))(st:St)(K:LV→St→Option R):Option R:=
 bif pu then bif Qbw xs then(call Heap.nil).bind fun r=>bif (w r.1).np then K (w r.1) st else none else none
 else(call st.h).bind fun r=>K (w r.1) {st with h:=r.2}
def mode (cx:Cx)(g:FuncId):Nat:=
 match cx.P.funcs[g]? with
 |some fn=>bif Nat.beq fn.results.size 1 then(bif cx.retOw g then 2 else 0)else 1
 |none=>2
def Qey (P:Program)(t:TypeId):Bool:=
 match P.underlying t with
 |some (.tuple _)=>true
 |_=>false
def Qat (cx:Cx)(hp ar:Bool)(b:Builtin)(xs:List Operand)(tys:List TypeId)(st:St)(K:LV→St→Option R):Option R:=
 match b,xs with
 |.len,[x]=>(st.rv x).bind fun a=>(lnA (tys.head?.bind cx.P.underlying) a).bind fun n=>K (.v (.int .i64 n)) st
 |.append,[x,y]=>
  (tys.head?.bind (QaA cx.P)).bind fun e=>(cx.P.info? e).bind fun ti=>(Qbq cx.P e).bind fun zc=>
  (st.rv y).bind fun a=>(elX cx.P st.h ar tys[1]? ti.size a).bind fun ys=>
  bif Nat.beq zc.length ti.size&&Nat.blt 0 ti.size then
  bif hp then(st.ra x).bind fun p=>(apG st.h p ti.size ti.bytes ys).bind fun q=>K (.v q.1) {st with h:=q.2}else
  match x with
  |.tmp j=>(apL (st.t j) ti.size ti.bytes ys).bind fun r=>K r {st with t:=upd st.t j .un}
  |.const (.slice none 0 0)=>(apL (.ow ti.size []) ti.size ti.bytes ys).bind fun r=>K r st
  |_=>none
  else none
 |.copy,[x,y]=>
  (tys.head?.bind (QaA cx.P)).bind fun e=>(cx.P.info? e).bind fun ti=>bif Nat.beq ti.size 1 then
  (st.rv x).bind fun d=>(st.rv y).bind fun s=>(cpH st.h d s).bind fun r=>K (.v r.1) {st with h:=r.2}else none
 |.min,[x,y]=>(st.rv x).bind fun a=>(st.rv y).bind fun b=>(mnA false a b).bind fun r=>K (.v r) st
 |.max,[x,y]=>(st.rv x).bind fun a=>(st.rv y).bind fun b=>(mnA true a b).bind fun r=>K (.v r) st
 |.max,[x,y,z]=>(st.rv x).bind fun a=>(st.rv y).bind fun b=>(st.rv z).bind fun c=>(mnA true a b).bind fun r=>(mnA true r c).bind fun r=>K (.v r) st
 |.max,x::y::z::u::us=>rvs st (x::y::z::u::us) fun as=>(QBk true as).bind fun r=>K (.v r) st
 |_,_=>none
def Qa8 (P:Program)(hp tk:Bool)(t:TypeId)(a x:Operand)(st:St)(K:LV→St→Option R):Option R:=
 (tyz P t).bind fun z=>
 let put (n:Nat) (st:St) (g:Nat→LV) (l:List LV):Option R:=
  bif hp then
   match st.rd a with
   |.v p=>(stP st.h p l).bind fun h=>K .ud {st with h}
   |_=>none
  else
   match st.rd a with
   |.lp b off=>bif Nat.ble (off+n) (st.z b)then K .ud {st with m:=stN st.m b off g n}else none
   |_=>none
 let cells (st:St) (y:LV):Option R:=
  match y with
  |.ag ls=>bif Nat.beq ls.length z.1&&ls.all LV.isC then put z.1 st (fun j=>ls.getD j .un) ls else none
  |.v a=>(a.toC z.1).bind fun cs=>put z.1 st (fun j=>.v (gd cs j)) (cs.map .v)
  |.ow n xs=>bif Nat.beq z.1 1 then put 1 st (fun _=>.ow n xs) [.ow n xs]else none
  |_=>none
 bif !Nat.blt 0 z.1 then none else
 bif tk then
  match x with
  |.tmp j=>cells {st with t:=upd st.t j .un} (st.t j)
  |_=>none
 else
  match x with
  |.const c=>cells st (lvC P t c)
  |x=>cells st (st.rd x)
def opO (cx:Cx)(orc:Orc)(f rid i:Nat)(o:Oper)(st:St)(K:LV→St→Option R):Option R:=
 let tk:=cx.take f rid i
 let mv (x:Operand):Option R:=
  bif cx.arr f rid i then
   match x with
   |.tmp j=>match st.t j with|.v p=>(frz st.h p).bind fun q=>K (.v q.1) {st with t:=upd st.t j .un,h:=q.2}|_=>none
   |_=>none
  else
  bif tk then
   match x with
   |.tmp j=>K (st.t j) {st with t:=upd st.t j .un}
   |_=>none
  else
   match x with
   |.const c=>K (lvC cx.P o.type c) st
   |x=>K (st.rd x) st
 match o.op with
 |.move x=>mv x
 |.assign x=>mv x
 |.pick c a b=>(st.rb c).bind fun t=>bif t then K (st.rd a) st else K (st.rd b) st
 |.alloc e=>
  (tyz cx.P e).bind fun z=>(QgW cx.P e).bind fun zc=>bif Nat.beq zc.length z.1 then
   (bif cx.heap f rid i then K (.v (.ptr st.h.bx.length 0)) {st with h:=Qdi st.h zc}
    else bif Nat.beq (st.z st.nl) 0 then K (.lp st.nl 0) {st with m:=stN st.m st.nl 0 (fun j=>zc.getD j .un) z.1,z:=upd st.z st.nl z.1,nl:=st.nl+1}else none)
   else none
 |.box e x=>
  (tyz cx.P e).bind fun z=>(st.rv x).bind fun a=>(a.toC z.1).bind fun cs=>
   bif cx.heap f rid i then K (.v (.ptr st.h.bx.length 0)) {st with h:=Qdi st.h (cs.map .v)}
   else K (.lp st.nl 0) {st with m:=stN st.m st.nl 0 (fun j=>.v (gd cs j)) z.1,z:=upd st.z st.nl z.1,nl:=st.nl+1}
 |.build t parts=>
  (fieldsOf cx.P t).bind fun fs=>(Qjs (cx.arr f rid i) cx.P t).bind fun zc=>
  bif (fs.all fun f=>(tyz cx.P f.type).isSome)then Qjj cx.P fs st parts.toList zc fun cs=>K (.ag cs) st else none
 |.buildSlice t len parts=>
  (QaA cx.P t).bind fun e=>(tyz cx.P e).bind fun z=>(Qbq cx.P e).bind fun zc=>rvp st parts.toList fun ps=>
  bif Nat.beq zc.length z.1&&Nat.ble (len*z.1) 16777216&&Nat.blt 0 z.1 then
  (Qmb z.1 (List.replicate len zc) ps).bind fun xs=>
   bif cx.heap f rid i then(bif Nat.blt 0 len then K (.v (.arr z.1 st.h.bx.length 0 len)) {st with h:=Qdi st.h (Qal xs)}else K (.v .nilE) st)else K (.ow z.1 xs) st else none
 |.load t a=>
  (tyz cx.P t).bind fun z=>
  bif cx.heap f rid i then
   match st.rd a with
   |.v p=>
    bif tk then(bif z.2 then none else(tkP st.h p).bind fun r=>K r.1 {st with h:=r.2})
    else(ldP st.h p z.1 z.2).bind fun x=>K (.v x) st
   |_=>none
  else
   match st.rd a with
   |.lp b off=>
    bif Nat.ble (off+(bif z.2 then z.1 else 1)) (st.z b)then
     bif tk then(bif z.2 then none else K (st.m b off) {st with m:=Qng st.m b off (st.m b off).cp})
     else bif z.2 then(ldN st.m b off z.1).bind fun cs=>K (.v (.agg cs)) st else K (st.m b off).cp st
    else none
   |.v p=>bif tk then none else(ldS p z.1 z.2).bind fun x=>K (.v x) st
   |_=>none
 |.store t a x=>Qa8 cx.P (cx.heap f rid i) tk t a x st K
 |.nilCheck x=>
  match st.rd x with
  |.lp b off=>K (.lp b off) st
  |.v a=>(Qv6 a).bind fun b=>K (.v b) st
  |_=>none
 |.binOp op t x y _=>(st.rv x).bind fun a=>(st.rv y).bind fun b=>(Qtw cx.P op t (isC x||isC y) a b).bind fun c=>K (.v c) st
 |.unOp op _ x=>(st.rv x).bind fun a=>(unA op a).bind fun c=>K (.v c) st
 |.convert s d x=>(st.rv x).bind fun a=>(bif cx.heap f rid i then cvH cx.P st.h s d a else cvA cx.P s d a).bind fun c=>K c st
 |.makeInterface t x=>
  (cx.P.underlying t).bind fun d=>(st.rv x).bind fun a=>match d with|.interface _=>none|_=>K (.v (.ifc t a)) st
 |.makeFunc (.func g) first captured=>rvs st first.toList fun fs=>rvs st captured.toList fun caps=>K (.v (.fn g fs caps)) st
 |.makeSlice t l c=>
  (QaA cx.P t).bind fun e=>(cx.P.info? e).bind fun ti=>(tyz cx.P e).bind fun z=>(Qbq cx.P e).bind fun zc=>
  (st.rv l).bind fun a=>(st.rv c).bind fun b=>a.toI.bind fun n=>b.toI.bind fun m=>
  bif Nat.beq zc.length z.1&&Nat.blt 0 z.1&&decide (n=m)&&decide (0≤n)&&room n.toNat ti.bytes then
   (bif cx.heap f rid i then K (.v (.arr z.1 st.h.bx.length 0 n.toNat)) {st with h:=Qdi st.h (Qal (List.replicate n.toNat zc))}else K (.ow z.1 (List.replicate n.toNat zc)) st)
  else none
 |.slice t x lo hi mx=>
  (st.rv x).bind fun a=>rvs st lo.toList fun ls=>rvs st hi.toList fun hs=>
  bif mx.isNone then(slA cx.P t a (ls.head?.bind AV.toI) (hs.head?.bind AV.toI)).bind fun r=>
   bif (ls.all fun x=>x.toI.isSome)&&(hs.all fun x=>x.toI.isSome)then K (.v r) st else none
  else none
 |.fieldAddr s x j=>
  (fieldsOf cx.P s).bind fun fs=>fs[j]?.bind fun fl=>(tyz cx.P fl.type).bind fun z=>bif Nat.blt 0 z.1 then
   (match st.rd x with
    |.lp b off=>K (.lp b (off+fl.offset)) st
    |.v p=>(fpA p fl.offset).bind fun q=>K (.v q) st
    |_=>none)
   else none
 |.field s x j=>
  (fieldsOf cx.P s).bind fun fs=>fs[j]?.bind fun fl=>(tyz cx.P fl.type).bind fun z=>(st.rv x).bind fun a=>(fdA a fl.offset z.1 z.2).bind fun r=>K (.v r) st
 |.indexAddr t x ix=>
  (QaA cx.P t).bind fun e=>(tyz cx.P e).bind fun z=>(st.rv x).bind fun a=>(st.rv ix).bind fun b=>b.toI.bind fun n=>
   bif cx.heap f rid i then(ixP a n z.1).bind fun p=>K (.v p) st else(ixA a n z.1).bind fun cs=>K (.v (.snap cs)) st
 |.index t x ix=>(st.rv x).bind fun a=>(st.rv ix).bind fun b=>b.toI.bind fun n=>(ixS (cx.P.underlying t) a n).bind fun r=>K (.v r) st
 |.extract x j=>(exL (st.rd x) j).bind fun a=>K (.v a) st
 |.call c=>
  match c.callee with
  |.builtin b=>Qat cx (cx.heap f rid i) (cx.arr f rid i) b c.args.toList c.argTypes.toList st K
  |.value (.func g)=>args tk st c.args.toList fun xs st=>
   match mode cx g with
   |0=>Qap .v (cx.pure f rid i) xs (QeL cx orc g xs) st K
   |1=>Qap .tup (cx.pure f rid i) xs (callT cx orc g xs) st K
   |_=>Qap (fun x=>x) (cx.pure f rid i) xs (Qab cx orc g xs) st K
  |.value (.tmp j)=>(st.t j).cpy.bind fun fv=>args tk st c.args.toList fun xs st=>
   bif Qey cx.P o.type then Qap .tup false xs (Qc4 cx orc fv xs) st K
   else Qap .v false xs (Qc5 cx orc fv xs) st K
  |_=>none
 |_=>none
def QaG:Op→Option Nat
 |.load _ (.global g)=>some g
 |.fieldAddr _ (.global g) _=>some g
 |.indexAddr _ (.global g) _=>some g
 |_=>none
def Qoz (P:Program)(t:TypeId):Option (Nat×TypeId):=
 (P.underlying t).bind fun d=>match d with|.array n e=>some (n,e)|_=>none
def Qby (cx:Cx)(o:Op)(cs:List AV)(st:St)(K:LV→St→Option R):Option R:=
 match o with
 |.load t _=>(tyz cx.P t).bind fun z=>(ldS (.snap cs) z.1 z.2).bind fun x=>K (.v x) st
 |.fieldAddr s _ j=>(fieldsOf cx.P s).bind fun fs=>fs[j]?.bind fun fl=>(tyz cx.P fl.type).bind fun z=>bif Nat.blt 0 z.1 then K (.v (.snap (cs.drop fl.offset))) st else none
 |.indexAddr t _ ix=>(Qoz cx.P t).bind fun e=>(tyz cx.P e.2).bind fun z=>(st.rv ix).bind fun b=>b.toI.bind fun n=>
  bif decide (0≤n)&&decide (n<e.1)then K (.v (.snap (cs.drop (n.toNat*z.1)))) st else none
 |_=>none
def opK (cx:Cx)(orc:Orc)(f rid i:Nat)(o:Oper)(st:St)(K:LV→St→Option R):Option R:=
 match QaG o.op with
 |some g=>(cx.glob g).bind fun cs=>Qby cx o.op cs st K
 |none=>opO cx orc f rid i o st K
def QeJ (nt:Nat):Option Tmp→Bool
 |some d=>Nat.blt d nt
 |none=>true
def op1 (cx:Cx)(orc:Orc)(f rid nt:Nat)(ops:Array Oper)(i:Nat)(o:Oper)(st:St)(K:St→Option R):Option R:=
 bif !QeJ nt o.dst then none else
 match o.guard with
 |none=>opK cx orc f rid i o st fun x st=>K (st.put o.dst x)
 |some (j,want)=>
  match(ops[j]?).bind (·.dst)with
  |none=>none
  |some d=>
   match st.t d with
   |.ud=>K (st.put o.dst .ud)
   |x=>x.toB.bind fun b=>
    bif b then
     let st:={st with t:=upd st.t d (.v (.bool true))}
     bif want then opK cx orc f rid i o st fun x st=>K (st.put o.dst x)
     else K (st.put o.dst .ud)
    else
     let st:={st with t:=upd st.t d (.v (.bool false))}
     bif want then K (st.put o.dst .ud)
     else opK cx orc f rid i o st fun x st=>K (st.put o.dst x)
def Qkf (cx:Cx)(orc:Orc)(f rid nt:Nat)(ops:Array Oper):Nat→List Oper→St→(St→Option R)→Option R
 |_,[],st,K=>K st
 |i,o::os,st,K=>op1 cx orc f rid nt ops i o st fun st=>Qkf cx orc f rid nt ops (i+1) os st K
end
structure Fp where
 r:List Nat
 w:List Nat
 mr:Bool
 mw:Bool
 hr:Bool
 hw:Bool
 mc:Bool
 ms:Bool
 mn:Bool
 hc:Bool
 hn:Bool
def QbQ (l:List Nat)(j:Nat):Bool:=l.any fun i=>Nat.beq i j
def QgE (l k:List Nat):Bool:=l.all fun i=>!QbQ k i
def indep (a b:Fp):Bool:=
 QgE a.w b.r&&QgE a.w b.w&&QgE b.w a.r&&!(a.mw&&(b.mr||b.mw))&&!(b.mw&&a.mr)&&!(a.hw&&(b.hr||b.hw))&&!(b.hw&&a.hr)&&(!(a.mw&&b.mc)||a.ms)&&(!(b.mw&&a.mc)||b.ms||b.mn)&&(!(a.hw&&b.hc)||a.hn)&&(!(b.hw&&a.hc)||b.hn)
def tmO:Operand→List Nat
 |.tmp j=>[j]
 |_=>[]
def QdD:List Operand→List Nat
 |[]=>[]
 |x::xs=>tmO x++QdD xs
def Qvp:List (Nat×Operand)→List Nat
 |[]=>[]
 |x::xs=>tmO x.2++Qvp xs
def Qdn (cx:Cx)(f rid i:Nat)(op:Op):Option Fp:=
 let tk:=cx.take f rid i
 let hp:=cx.heap f rid i
 let rd (l:List Nat):Option Fp:=some ⟨l,[],false,false,false,false,false,false,false,false,false⟩
 match op with
 |.load _ (.global _)=>rd []
 |.move x=>bif cx.arr f rid i then none else some ⟨tmO x,bif tk then tmO x else[],false,false,false,false,false,false,false,false,false⟩
 |.assign x=>bif cx.arr f rid i then none else some ⟨tmO x,bif tk then tmO x else[],false,false,false,false,false,false,false,false,false⟩
 |.pick c a b=>rd (tmO c++(tmO a++tmO b))
 |.build _ parts=>rd (Qvp parts.toList)
 |.buildSlice _ _ parts=>some ⟨Qvp parts.toList,[],false,false,hp,hp,false,false,false,false,hp⟩
 |.load _ a=>bif tk then(bif hp then some ⟨tmO a,[],false,false,true,true,false,false,false,false,false⟩else some ⟨tmO a,[],true,true,false,false,false,true,false,false,false⟩)else some ⟨tmO a,[],false,false,false,false,!hp,false,false,hp,false⟩
 |.alloc _=>some ⟨[],[],!hp,!hp,hp,hp,false,false,!hp,false,hp⟩
 |.store _ a x=>bif tk then none else some ⟨tmO a++tmO x,[],!hp,!hp,hp,hp,false,false,false,false,false⟩
 |.nilCheck x=>rd (tmO x)
 |.binOp _ _ x y _=>rd (tmO x++tmO y)
 |.unOp _ _ x=>rd (tmO x)
 |.convert _ _ x=>bif hp then none else rd (tmO x)
 |.makeInterface _ x=>rd (tmO x)
 |.slice _ x lo hi _=>rd (tmO x++(QdD lo.toList++QdD hi.toList))
 |.fieldAddr _ x _=>rd (tmO x)
 |.field _ x _=>rd (tmO x)
 |.indexAddr _ x ix=>rd (tmO x++tmO ix)
 |.index _ x ix=>rd (tmO x++tmO ix)
 |.extract x _=>rd (tmO x)
 |.call c=>
  match c.callee,c.args.toList with
  |.value (.func g),xs=>some ⟨QdD xs,bif tk then QdD xs else[],false,false,!cx.pure f rid i,!(cx.pure f rid i||(cx.exr g).isSome&&(cx.ext g).isNone&&(cx.exh g).isNone),false,false,false,false,(cx.exn g).isSome&&(cx.ext g).isNone&&(cx.exh g).isNone&&(cx.exr g).isNone⟩
  |.builtin .len,[x]=>rd (tmO x)
  |.builtin .min,[x,y]=>rd (tmO x++tmO y)
  |.builtin .copy,[x,y]=>some ⟨tmO x++tmO y,[],false,false,true,true,false,false,false,false,false⟩
  |.builtin .append,[x,y]=>bif hp then some ⟨tmO x++tmO y,[],false,false,true,true,false,false,false,false,false⟩else bif cx.arr f rid i then none else some ⟨tmO x++tmO y,tmO x,false,false,false,false,false,false,false,false,false⟩
  |_,_=>none
 |_=>none
def QcX (cx:Cx)(f rid:Nat)(ops:Array Oper)(i:Nat)(o:Oper):Option Fp:=
 (Qdn cx f rid i o.op).bind fun p=>
 bif p.w.all (QbQ p.r)&&(!p.mw||p.mr)&&(!p.hw||p.hr)then
  match o.guard with
  |none=>some {p with w:=o.dst.toList++p.w}
  |some (j,_)=>((ops[j]?).bind (·.dst)).bind fun d=>some {p with r:=d::p.r,w:=o.dst.toList++p.w}
 else none
def Qmc (m:List Nat):List Edge→Nat
 |[]=>0
 |e::es=>bif Region.binds .any e then Nat.lor (Nat.lor (Nat.pow 2 e.on) (m.getD e.on 0)) (Qmc m es)else Qmc m es
def QB1:List Oper→List Nat→List Nat
 |[],m=>m
 |o::os,m=>QB1 os (m++[Qmc m o.after.toList])
def Qe0 (i:Nat):List Edge→Bool
 |[]=>true
 |e::es=>(!Region.binds .any e||Nat.blt e.on i)&&Qe0 i es
def apart (p q:Option Fp):Bool:=
 match p,q with
 |some p,some q=>indep p q
 |_,_=>false
def Qov (p:Option Fp)(b:Nat):Nat→List (Option Fp)→Bool
 |_,[]=>true
 |k,q::qs=>(Nat.testBit b k||apart q p)&&Qov p b (k+1) qs
def QxU (cx:Cx)(f rid:Nat)(ops:Array Oper)(m:List Nat):Nat→List Oper→List (Option Fp)→Bool
 |_,[],_=>true
 |i,o::os,ps=>Qe0 i o.after.toList&&Nat.beq (m.getD i 0) (Qmc m o.after.toList)&&Qov (QcX cx f rid ops i o) (m.getD i 0) 0 ps&&QxU cx f rid ops m (i+1) os (ps++[QcX cx f rid ops i o])
def QgS (cx:Cx)(f rid:Nat)(ops:Array Oper):Bool:=QxU cx f rid ops (QB1 ops.toList []) 0 ops.toList []
def hasB:List (Nat×Nat)→Nat→Bool
 |[],_=>false
 |b::bs,i=>Nat.beq b.1 i||hasB bs i
def kpL (bs:List (Nat×Nat)):LV→LV
 |.lp i off=>bif hasB bs i then .lp i off else .un
 |.ag cs=>.ag cs
 |x=>x
def kpT (t:Nat→LV)(bs:List (Nat×Nat)):List Nat→List LV
 |[]=>[]
 |j::js=>kpL bs (t j)::kpT t bs js
def kpC (m:Nat→Nat→LV)(i:Nat):Nat→List LV→List LV
 |0,r=>r
 |n+1,r=>kpC m i n (m i n::r)
def kpB (m:Nat→Nat→LV):List (Nat×Nat)→List LV
 |[]=>[]
 |b::bs=>kpC m b.1 b.2 (kpB m bs)
def apT:List LV→List LV→List LV
 |[],r=>r
 |x::xs,r=>x::apT xs r
def kept (k:Keep)(st:St):List LV:=apT (kpT st.t k.bs k.ts) (kpB st.m k.bs)
def Ql9 (nl:Nat)(z:Nat→Nat):List (Nat×Nat)→Bool
 |[]=>true
 |b::bs=>Nat.beq (z b.1) b.2&&Nat.blt b.1 nl&&Ql9 nl z bs
def mkT:List Nat→List LV→(Nat→LV)×List LV
 |[],r=>(fun _=>.un,r)
 |_::_,[]=>(fun _=>.un,[])
 |j::js,x::xs=>(upd (mkT js xs).1 j x,(mkT js xs).2)
def mkB:List (Nat×Nat)→List LV→(Nat→Nat→LV)×(Nat→Nat)
 |[],_=>(fun _ _=>.un,fun _=>0)
 |b::bs,xs=>(stN (mkB bs (xs.drop b.2)).1 b.1 0 (fun c=>xs.getD c .un) b.2,upd (mkB bs (xs.drop b.2)).2 b.1 b.2)
def Ql8 (k:Keep)(xs:List LV)(h:Heap):St:=
 {t:=(mkT k.ts xs).1,m:=(mkB k.bs (mkT k.ts xs).2).1,z:=(mkB k.bs (mkT k.ts xs).2).2,nl:=k.nl,h}
def inT:Nat→List LV→Nat→LV
 |_,[]=>fun _=>.ud
 |i,x::xs=>upd (inT (i+1) xs) i x
def QgV (xs:List LV)(h:Heap):St:={t:=inT 0 xs,m:=fun _ _=>.un,z:=fun _=>0,nl:=0,h}
def QoV (cx:Cx)(ow:Bool)(st:St):ResultVar→Option LV
 |.tmp t=>bif ow then some (st.t t)else some (st.t t).cp
 |.cell a t=>
  match st.t a with
  |.lp b off=>(tyz cx.P t).bind fun z=>bif Nat.ble (off+(bif z.2 then z.1 else 1)) (st.z b)then
   (bif z.2 then(ldN st.m b off z.1).bind fun cs=>some (.v (.agg cs))else some (st.m b off).cp)else none
  |_=>none
def QiS (cx:Cx)(st:St):List ResultVar→Option (List AV)
 |[]=>some []
 |r::rs=>(QoV cx false st r).bind fun x=>x.cpy.bind fun a=>(QiS cx st rs).bind fun as=>some (a::as)
def fin (cx:Cx)(f:FuncId)(st:St):Option (LV×Heap):=
 (cx.P.funcs[f]?).bind fun fn=>
 match fn.results.toList with
 |[r]=>(QoV cx (cx.retOw f) st r).bind fun x=>match x with|.v a=>some (.v a,st.h)|.ow n xs=>some (.ow n xs,st.h)|_=>none
 |rs=>(QiS cx st rs).bind fun xs=>some (.tup xs,st.h)
def evS (cx:Cx)(orc:Orc)(f:FuncId):Nat→Bool→List Item→St→Option (LV×Heap)
 |0,_,_,_=>none
 |n+1,first,todo,st=>
  match todo with
  |[]=>fin cx f st
  |.code .ret::_=>fin cx f st
  |.code .skip::k=>evS cx orc f n false k st
  |.code (.label _)::k=>evS cx orc f n false k st
  |.inBlock _::k=>evS cx orc f n false k st
  |.code (.seq a b)::k=>evS cx orc f n first (.code a::.code b::k) st
  |.code (.cond c a b)::k=>(st.rb c).bind fun t=>bif t then evS cx orc f n false (.code a::k) st else evS cx orc f n false (.code b::k) st
  |.code (.block id body)::k=>evS cx orc f n first (.code body::.inBlock id::k) st
  |.code (.loop body)::k=>evS cx orc f n first (.code body::.inLoop body::k) st
  |.inLoop body::k=>evS cx orc f n first (.code body::.inLoop body::k) st
  |.code (.exit id)::k=>
   match exitTo id k with
   |some k'=>evS cx orc f n false k' st
   |none=>none
  |.code (.region id ops draw)::k=>
   match(bif first then none else cx.cut f id)with
   |some kp=>bif Ql9 kp.nl st.z kp.bs then orc f (.code (.region id ops draw)::k) (kept kp st) st.h else none
   |none=>bif !draw||QgS cx f id ops then(cx.P.funcs[f]?).bind fun fn=>Qkf cx orc f id fn.ntmps ops 0 ops.toList st fun st=>evS cx orc f n false k st else none
  |_=>none
def fuel:Nat:=100000
def QeA (cx:Cx)(orc:Orc)(f:FuncId)(todo:List Item)(xs:List LV)(h:Heap):Option (LV×Heap):=
 match cutAt cx f todo with
 |some kp=>evS cx orc f fuel true todo (Ql8 kp xs h)
 |none=>evS cx orc f fuel false todo (QgV xs h)
end Go.Proofs.Am
