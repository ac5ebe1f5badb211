/-
  What op.Look tells of every byte, and what the head's examples and the document's table come to, as calls of their own.
-/
import Derived.Test.YtoblgjmllmomhaaGreatDoorAmSym
import Derived.Test.YtoblgjmllmomhaaGreatDoorAmS15
import Derived.KernelRfl
import Derived.Test.YtoblgjmllmomhaaGreatDoorAmExtH
namespace Go.Proofs.YtoblgjmllmomhaaGreatDoor
open Go Go.Proofs.Am
def inP (l:List (Nat×Nat))(r i:Nat):Bool:=l.any fun p=>Nat.beq p.1 r&&Nat.beq p.2 i
def Qvs (f r i:Nat):Bool:=
 match f with
 |16=>inP [(1,20),(5,1),(5,22),(9,1),(9,27),(15,1),(15,6),(19,1),(19,24),(23,1),(23,24),(27,1),(27,20)] r i
 |17=>inP [(3,8),(7,1),(7,12),(17,1),(17,10),(27,1),(27,10),(30,11)] r i
 |35=>inP [(9,0),(9,4)] r i
 |38=>inP [(2,1),(2,6)] r i
 |39=>inP [(9,2),(13,0),(13,3)] r i
 |76=>inP [(6,0),(6,4)] r i
 |78=>inP [(5,9),(6,0),(6,1)] r i
 |88=>inP [(4,4)] r i
 |102=>inP [(7,0),(7,4)] r i
 |120=>inP [(7,0),(7,4)] r i
 |123=>inP [(1,1),(6,0),(6,11),(7,0),(7,11),(17,0),(17,12),(18,0),(18,12)] r i
 |125=>inP [(1,10),(10,1),(10,10)] r i
 |137=>inP [(1,1),(8,0),(8,6),(13,0),(13,7)] r i
 |146=>inP [(1,47)] r i
 |_=>false
def Qwt (f r i:Nat):Bool:=
 match f with
 |5=>inP [(14,7),(14,8),(18,3),(18,4)] r i
 |10=>inP [(3,2),(5,3)] r i
 |12=>inP [(3,2),(5,3)] r i
 |17=>inP [(0,0),(1,5),(1,11),(1,20),(1,26),(3,0),(3,3),(3,7),(3,8),(4,1),(7,1),(7,12),(10,1),(17,1),(17,10),(19,1),(24,1),(27,1),(27,10),(29,1),(29,3),(30,3),(30,11),(32,5),(33,0)] r i
 |21=>inP [(0,3),(1,4),(1,10),(1,17),(5,3),(9,3),(9,9),(11,4),(11,9),(11,13),(11,19),(12,4),(12,8),(12,14),(1,14)] r i
 |25=>inP [(0,3),(1,3),(2,5),(2,14),(4,8),(7,3),(9,3),(11,3),(12,5),(12,9),(12,16),(2,1),(2,6),(2,11),(12,1),(12,13)] r i
 |32=>inP [(1,3),(1,4)] r i
 |34=>inP [(3,3),(3,5),(4,1),(4,5),(4,9)] r i
 |38=>inP [(0,5),(2,1),(2,6)] r i
 |53=>inP [(1,3),(1,7),(1,10)] r i
 |54=>inP [(0,3),(1,4)] r i
 |55=>inP [(4,4),(4,7),(4,10)] r i
 |58=>inP [(19,5),(22,6),(24,5)] r i
 |60=>inP [(0,3),(1,4)] r i
 |61=>inP [(1,5),(1,12)] r i
 |88=>inP [(10,6)] r i
 |89=>inP [(3,5)] r i
 |90=>inP [(3,5),(5,4),(6,8),(6,21),(8,4)] r i
 |92=>inP [(3,10),(4,4),(5,10),(6,4),(6,14)] r i
 |93=>inP [(1,5),(1,9),(1,13),(1,16)] r i
 |94=>inP [(2,11)] r i
 |95=>inP [(0,0)] r i
 |96=>inP [(2,3),(2,8),(3,3),(6,3),(6,7),(7,4),(7,8),(7,14),(6,10),(6,11)] r i
 |99=>inP [(8,6)] r i
 |100=>inP [(0,3),(1,5),(1,9),(1,18),(2,3),(2,5),(2,7),(1,11),(1,13),(2,5)] r i
 |101=>inP [(1,7),(4,3),(4,7),(4,12),(4,14)] r i
 |103=>inP [(0,8),(0,19),(2,4)] r i
 |104=>inP [(1,3),(1,7),(2,3),(6,3),(6,7),(7,5),(7,9),(7,16),(1,10),(1,11)] r i
 |105=>inP [(4,6),(6,4),(7,6),(9,4),(10,4)] r i
 |106=>inP [(8,13)] r i
 |118=>inP [(14,1),(24,6),(24,7),(31,5),(31,6)] r i
 |119=>inP [(0,0),(1,1),(2,1),(4,3),(4,6),(4,9),(4,11),(4,13),(4,15),(6,3),(6,6),(6,8),(8,2),(10,1),(11,1),(12,2),(15,1),(21,2),(22,0)] r i
 |120=>inP [(9,6),(9,7),(13,1)] r i
 |121=>inP [(1,4),(4,3),(4,7),(4,12),(4,14)] r i
 |137=>inP [(14,2),(18,8),(18,9)] r i
 |142=>inP [(0,3),(1,3),(3,3),(5,3),(7,9),(7,12),(8,6),(8,13),(9,3)] r i
 |144=>inP [(1,1)] r i
 |155=>inP [(1,3),(2,3),(5,3)] r i
 |160=>inP [(6,2)] r i
 |_=>false
def QCE (f r i:Nat):Bool:=
 match f with
 |10=>inP [(3,1)] r i
 |25=>inP [(2,6),(12,13)] r i
 |118=>inP [(32,1)] r i
 |137=>inP [(20,1)] r i
 |160=>inP [(10,1)] r i
 |_=>false
def QvV (f r i:Nat):Bool:=
 match f with
 |15=>inP [(14,1),(20,1)] r i
 |17=>inP [(3,1),(3,4),(7,4),(7,7),(30,9)] r i
 |31=>inP [(4,3),(6,3)] r i
 |80=>inP [(1,1),(3,0),(6,2),(8,11)] r i
 |119=>inP [(1,2),(4,4),(4,7),(6,4)] r i
 |139=>inP [(1,1),(3,1)] r i
 |140=>inP [(1,1),(3,1),(5,2),(5,5)] r i
 |141=>inP [(1,2)] r i
 |142=>inP [(0,4),(1,4),(3,4),(5,4),(7,5),(8,14)] r i
 |155=>inP [(4,5),(7,3)] r i
 |156=>inP [(1,2)] r i
 |157=>inP [(1,2)] r i
 |159=>inP [(1,1)] r i
 |160=>inP [(3,5)] r i
 |165=>inP [(1,2)] r i
 |167=>inP [(1,4),(3,2)] r i
 |168=>inP [(5,3),(9,2),(17,6),(25,6),(26,4),(31,4)] r i
 |171=>inP [(1,2)] r i
 |174=>inP [(1,1)] r i
 |_=>false
def QC2 (f:Nat):Bool:=[78,146].any fun k=>Nat.beq f k
def QDe (f id:Nat):Option Keep:=
 match f,id with
 |5,16=>some ⟨[1,2,5,7,8,9,12],[(0,11),(1,11),(2,7)],3⟩
 |5,12=>some ⟨[1,2,5,7,8,9,10,11],[(0,11),(1,11),(2,7)],3⟩
 |5,9=>some ⟨[1,2,5,7,8,9,10],[(0,11),(1,11),(2,7)],3⟩
 |8,4=>some ⟨[0,4,5,6],[],0⟩
 |9,4=>some ⟨[1,3],[(0,7)],1⟩
 |11,4=>some ⟨[0,3],[],0⟩
 |14,15=>some ⟨[1,3,7],[(0,11)],1⟩
 |14,11=>some ⟨[1,3,6],[(0,11)],1⟩
 |14,7=>some ⟨[1,3,5],[(0,11)],1⟩
 |14,3=>some ⟨[1,3,4],[(0,11)],1⟩
 |16,25=>some ⟨[1,2,3,10],[(0,11),(1,11),(2,11)],3⟩
 |16,21=>some ⟨[1,2,3,9],[(0,11),(1,11),(2,11)],3⟩
 |16,17=>some ⟨[1,2,3,8],[(0,11),(1,11),(2,11)],3⟩
 |16,11=>some ⟨[1,2,3,6],[(0,11),(1,11),(2,11)],3⟩
 |16,7=>some ⟨[1,2,3,5],[(0,11),(1,11),(2,11)],3⟩
 |16,3=>some ⟨[1,2,3,4],[(0,11),(1,11),(2,11)],3⟩
 |17,25=>some ⟨[1,2,4,6,118,119,120],[(0,7)],1⟩
 |17,20=>some ⟨[1,2,4,6,9,106,107,108],[(0,7)],1⟩
 |17,11=>some ⟨[1,2,4,6,9,78,79,80],[(0,7)],1⟩
 |17,5=>some ⟨[1,2,4,6,57,58,59],[(0,7)],1⟩
 |18,41=>some ⟨[2,3,5,15],[(0,11),(1,11)],2⟩
 |18,37=>some ⟨[2,3,5,14],[(0,11),(1,11)],2⟩
 |18,33=>some ⟨[2,3,5,13],[(0,11),(1,11)],2⟩
 |18,29=>some ⟨[2,3,5,12],[(0,11),(1,11)],2⟩
 |18,25=>some ⟨[2,3,5,11],[(0,11),(1,11)],2⟩
 |18,21=>some ⟨[2,3,5,10],[(0,11),(1,11)],2⟩
 |18,17=>some ⟨[2,3,5,9],[(0,11),(1,11)],2⟩
 |18,13=>some ⟨[2,3,5,8],[(0,11),(1,11)],2⟩
 |18,9=>some ⟨[2,3,5,7],[(0,11),(1,11)],2⟩
 |18,5=>some ⟨[2,3,5,6],[(0,11),(1,11)],2⟩
 |21,3=>some ⟨[0,3,32,33,34],[],0⟩
 |23,2=>some ⟨[0,3],[],0⟩
 |24,18=>some ⟨[1,3,6,8],[(0,7)],1⟩
 |24,14=>some ⟨[1,3,6,7],[(0,7)],1⟩
 |24,11=>some ⟨[1,3,6],[(0,7)],1⟩
 |24,7=>some ⟨[1,3,5],[(0,7)],1⟩
 |24,3=>some ⟨[1,3,4],[(0,7)],1⟩
 |25,4=>some ⟨[0,1,3,8,9],[],0⟩
 |28,4=>some ⟨[12,13,14],[],1⟩
 |29,14=>some ⟨[1,49,50,51],[(0,11)],1⟩
 |29,2=>some ⟨[1,11,12,13],[(0,11)],1⟩
 |30,2=>some ⟨[1,8,9,10],[(0,11)],1⟩
 |31,2=>some ⟨[1,9,10,11],[(0,11)],1⟩
 |32,14=>some ⟨[1,41,42,43],[(0,11)],1⟩
 |32,3=>some ⟨[1,3,15,16,17],[(0,11)],1⟩
 |34,2=>some ⟨[1,7,8,9],[(0,11)],1⟩
 |35,3=>some ⟨[0,3,4],[],0⟩
 |39,11=>some ⟨[6,25,26,27],[],0⟩
 |39,3=>some ⟨[0,3,9,10,11],[],0⟩
 |40,4=>some ⟨[0,1,5],[],0⟩
 |41,4=>some ⟨[0,1,5],[],0⟩
 |55,1=>some ⟨[0,6,7,8],[],0⟩
 |56,10=>some ⟨[1,7],[(0,9)],1⟩
 |62,16=>some ⟨[1,49,50,51],[(0,11)],1⟩
 |62,10=>some ⟨[1,31,32,33],[(0,11)],1⟩
 |62,4=>some ⟨[1,13,14,15],[(0,11)],1⟩
 |76,3=>some ⟨[1,5,9,10,11],[],1⟩
 |79,2=>some ⟨[0,1,7,8],[],0⟩
 |80,4=>some ⟨[0,2,11,12,13],[(0,7)],1⟩
 |85,2=>some ⟨[0,1,7,8],[],0⟩
 |86,2=>some ⟨[0,1,7,8],[],0⟩
 |87,2=>some ⟨[0,1,7,8],[],0⟩
 |97,3=>some ⟨[0,3,4],[],0⟩
 |102,9=>some ⟨[0,4,8],[],1⟩
 |102,3=>some ⟨[0,3,4,5],[(0,9)],1⟩
 |103,9=>some ⟨[0,6,7],[(0,2)],1⟩
 |106,13=>some ⟨[0,3,5,7,8],[(0,9),(1,7)],2⟩
 |106,4=>some ⟨[0,3,4,5,6],[(0,9),(1,7)],2⟩
 |111,2=>some ⟨[0,1,7,8],[],0⟩
 |114,17=>some ⟨[1,2,43,44,45],[],0⟩
 |114,1=>some ⟨[0,1,2],[],0⟩
 |115,2=>some ⟨[0,1,7,8],[],0⟩
 |118,27=>some ⟨[0,9,10,12],[],0⟩
 |118,21=>some ⟨[0,9,10,11,12],[],0⟩
 |118,18=>some ⟨[0,9,10,12],[],0⟩
 |118,5=>some ⟨[0,3,4,5,6],[],0⟩
 |120,3=>some ⟨[0,4,11,12,13],[],1⟩
 |122,1=>some ⟨[0,1,3],[],0⟩
 |123,10=>some ⟨[1,4,5],[],0⟩
 |123,4=>some ⟨[1,2,3],[],0⟩
 |124,1=>some ⟨[0,1,4],[],0⟩
 |125,4=>some ⟨[1,2,3,4,5],[(0,5),(1,7),(2,7)],3⟩
 |126,3=>some ⟨[4,5,12,13,14],[],0⟩
 |137,16=>some ⟨[0,9,47,48,49],[],0⟩
 |137,4=>some ⟨[0,1,5,6,14],[],0⟩
 |145,4=>some ⟨[0,1,12,13],[],0⟩
 |151,2=>some ⟨[0,1,7,8],[],0⟩
 |152,2=>some ⟨[0,1,7,8],[],0⟩
 |153,2=>some ⟨[0,1,7,8],[],0⟩
 |154,2=>some ⟨[0,1,7,8],[],0⟩
 |160,8=>some ⟨[7,8],[],0⟩
 |161,2=>some ⟨[0,1,7,8],[],0⟩
 |162,14=>some ⟨[0,1,7,8],[],0⟩
 |162,3=>some ⟨[0,1,19,20],[],0⟩
 |163,14=>some ⟨[0,1,7,8],[],0⟩
 |163,3=>some ⟨[0,1,15,16],[],0⟩
 |168,15=>some ⟨[0,1,5,6,7,8,9,10],[],0⟩
 |174,11=>some ⟨[0,1,5,6,7,8,10],[],0⟩
 |174,5=>some ⟨[0,1,5,6,7,8,9],[],0⟩
 |176,8=>some ⟨[4,6,7,8],[],0⟩
 |176,3=>some ⟨[0,4,5],[],0⟩
 |_,_=>none
def QBK (f:Nat):Option (List LV→Option LV):=
 match f with
 |118=>some Qhs
 |157=>some Qep
 |_=>none
noncomputable def cxS (m:Int):Cx:=
 {P:=Tryz.prog,cut:=fun _ _=>none,take:=Qvs,heap:=Qwt,arr:=QCE,pure:=QvV,retOw:=QC2,ext:=QBK,
  glob:=fun i=>match i with|0=>some Qe3|2=>some [.int .i64 m]|_=>none}
def QiC (P:Program)(g:FuncId):List Item:=match P.funcs[g]? with|some f=>(match f.body with|some c=>[.code c]|none=>[])|none=>[]
end Go.Proofs.YtoblgjmllmomhaaGreatDoor
namespace Go.Proofs.YtoblgjmllmomhaaGreatDoor
open Go Go.Proofs.Am
def sb (l:List UInt8):ByteArray:=⟨l.toArray⟩
def opV (b:Nat)(s:ByteArray)(k:Nat)(t:List Nat)(g y:Nat)(sg:Bool):AV:=
 .agg [.int .i64 (.ofNat b),.str s,.int .i64 (.ofNat k),.imm (t.map fun x=>[.int .i64 (.ofNat x)]),.int .i64 (.ofNat g),.int .i64 (.ofNat y),.bool sg]
def QDp (b:Nat)(s:ByteArray)(k:Nat)(t:ByteArray)(y:Nat):List AV:=
 [.int .i64 (.ofNat b),.str s,.int .i64 (.ofNat k),.str t,.int .i64 (.ofNat y)]
def QaH (n:Nat):AV:=.ifc 56 (.int .i64 (.ofNat n))
def lookL0:List LV:=[
 .tup [opV 0 (sb [117,110,114,101,97,99,104,97,98,108,101]) 1 [] 0 0 false,.nilI],
 .tup [opV 1 (sb [110,111,112]) 1 [] 0 0 false,.nilI],
 .tup [opV 2 (sb [98,108,111,99,107]) 2 [] 0 0 false,.nilI],
 .tup [opV 3 (sb [108,111,111,112]) 2 [] 0 0 false,.nilI],
 .tup [opV 4 (sb [105,102]) 2 [1] 0 0 false,.nilI],
 .tup [opV 0 (sb []) 0 [] 0 0 false,QaH 5],
 .tup [opV 0 (sb []) 0 [] 0 0 false,QaH 5],
 .tup [opV 0 (sb []) 0 [] 0 0 false,QaH 5],
 .tup [opV 0 (sb []) 0 [] 0 0 false,QaH 5],
 .tup [opV 0 (sb []) 0 [] 0 0 false,QaH 5],
 .tup [opV 0 (sb []) 0 [] 0 0 false,QaH 5],
 .tup [opV 0 (sb []) 0 [] 0 0 false,QaH 5],
 .tup [opV 12 (sb [98,114]) 3 [] 0 0 false,.nilI],
 .tup [opV 13 (sb [98,114,95,105,102]) 3 [1] 0 0 false,.nilI],
 .tup [opV 14 (sb [98,114,95,116,97,98,108,101]) 3 [1] 0 0 false,.nilI],
 .tup [opV 15 (sb [114,101,116,117,114,110]) 3 [] 0 0 false,.nilI],
 .tup [opV 16 (sb [99,97,108,108]) 4 [] 0 0 false,.nilI],
 .tup [opV 17 (sb [99,97,108,108,95,105,110,100,105,114,101,99,116]) 4 [1] 0 0 false,.nilI],
 .tup [opV 0 (sb []) 0 [] 0 0 false,QaH 5],
 .tup [opV 0 (sb []) 0 [] 0 0 false,QaH 5],
 .tup [opV 0 (sb []) 0 [] 0 0 false,QaH 5],
 .tup [opV 0 (sb []) 0 [] 0 0 false,QaH 5],
 .tup [opV 0 (sb []) 0 [] 0 0 false,QaH 5],
 .tup [opV 0 (sb []) 0 [] 0 0 false,QaH 5],
 .tup [opV 0 (sb []) 0 [] 0 0 false,QaH 5],
 .tup [opV 0 (sb []) 0 [] 0 0 false,QaH 5],
 .tup [opV 26 (sb [100,114,111,112]) 5 [] 0 0 false,.nilI],
 .tup [opV 27 (sb [115,101,108,101,99,116]) 5 [1] 0 0 false,.nilI],
 .tup [opV 0 (sb []) 0 [] 0 0 false,QaH 5],
 .tup [opV 0 (sb []) 0 [] 0 0 false,QaH 5],
 .tup [opV 0 (sb []) 0 [] 0 0 false,QaH 5],
 .tup [opV 0 (sb []) 0 [] 0 0 false,QaH 5],
 .tup [opV 32 (sb [108,111,99,97,108,46,103,101,116]) 6 [] 0 0 false,.nilI],
 .tup [opV 33 (sb [108,111,99,97,108,46,115,101,116]) 6 [] 0 0 false,.nilI],
 .tup [opV 34 (sb [108,111,99,97,108,46,116,101,101]) 6 [] 0 0 false,.nilI],
 .tup [opV 35 (sb [103,108,111,98,97,108,46,103,101,116]) 6 [] 0 0 false,.nilI],
 .tup [opV 36 (sb [103,108,111,98,97,108,46,115,101,116]) 6 [] 0 0 false,.nilI],
 .tup [opV 0 (sb []) 0 [] 0 0 false,QaH 5],
 .tup [opV 0 (sb []) 0 [] 0 0 false,QaH 5],
 .tup [opV 0 (sb []) 0 [] 0 0 false,QaH 5],
 .tup [opV 40 (sb [105,51,50,46,108,111,97,100]) 7 [1] 1 4 false,.nilI],
 .tup [opV 41 (sb [105,54,52,46,108,111,97,100]) 7 [1] 2 8 false,.nilI],
 .tup [opV 0 (sb []) 0 [] 0 0 false,QaH 3],
 .tup [opV 0 (sb []) 0 [] 0 0 false,QaH 3],
 .tup [opV 44 (sb [105,51,50,46,108,111,97,100,56,95,115]) 7 [1] 1 1 true,.nilI],
 .tup [opV 45 (sb [105,51,50,46,108,111,97,100,56,95,117]) 7 [1] 1 1 false,.nilI],
 .tup [opV 46 (sb [105,51,50,46,108,111,97,100,49,54,95,115]) 7 [1] 1 2 true,.nilI],
 .tup [opV 47 (sb [105,51,50,46,108,111,97,100,49,54,95,117]) 7 [1] 1 2 false,.nilI]]
def lookL1:List LV:=[
 .tup [opV 48 (sb [105,54,52,46,108,111,97,100,56,95,115]) 7 [1] 2 1 true,.nilI],
 .tup [opV 49 (sb [105,54,52,46,108,111,97,100,56,95,117]) 7 [1] 2 1 false,.nilI],
 .tup [opV 50 (sb [105,54,52,46,108,111,97,100,49,54,95,115]) 7 [1] 2 2 true,.nilI],
 .tup [opV 51 (sb [105,54,52,46,108,111,97,100,49,54,95,117]) 7 [1] 2 2 false,.nilI],
 .tup [opV 52 (sb [105,54,52,46,108,111,97,100,51,50,95,115]) 7 [1] 2 4 true,.nilI],
 .tup [opV 53 (sb [105,54,52,46,108,111,97,100,51,50,95,117]) 7 [1] 2 4 false,.nilI],
 .tup [opV 54 (sb [105,51,50,46,115,116,111,114,101]) 8 [1,1] 0 4 false,.nilI],
 .tup [opV 55 (sb [105,54,52,46,115,116,111,114,101]) 8 [1,2] 0 8 false,.nilI],
 .tup [opV 0 (sb []) 0 [] 0 0 false,QaH 3],
 .tup [opV 0 (sb []) 0 [] 0 0 false,QaH 3],
 .tup [opV 58 (sb [105,51,50,46,115,116,111,114,101,56]) 8 [1,1] 0 1 false,.nilI],
 .tup [opV 59 (sb [105,51,50,46,115,116,111,114,101,49,54]) 8 [1,1] 0 2 false,.nilI],
 .tup [opV 60 (sb [105,54,52,46,115,116,111,114,101,56]) 8 [1,2] 0 1 false,.nilI],
 .tup [opV 61 (sb [105,54,52,46,115,116,111,114,101,49,54]) 8 [1,2] 0 2 false,.nilI],
 .tup [opV 62 (sb [105,54,52,46,115,116,111,114,101,51,50]) 8 [1,2] 0 4 false,.nilI],
 .tup [opV 63 (sb [109,101,109,111,114,121,46,115,105,122,101]) 9 [] 1 0 false,.nilI],
 .tup [opV 64 (sb [109,101,109,111,114,121,46,103,114,111,119]) 9 [1] 1 0 false,.nilI],
 .tup [opV 65 (sb [105,51,50,46,99,111,110,115,116]) 10 [] 1 0 false,.nilI],
 .tup [opV 66 (sb [105,54,52,46,99,111,110,115,116]) 10 [] 2 0 false,.nilI],
 .tup [opV 0 (sb []) 0 [] 0 0 false,QaH 3],
 .tup [opV 0 (sb []) 0 [] 0 0 false,QaH 3],
 .tup [opV 69 (sb [105,51,50,46,101,113,122]) 11 [1] 1 0 false,.nilI],
 .tup [opV 70 (sb [105,51,50,46,101,113]) 11 [1,1] 1 0 false,.nilI],
 .tup [opV 71 (sb [105,51,50,46,110,101]) 11 [1,1] 1 0 false,.nilI],
 .tup [opV 72 (sb [105,51,50,46,108,116,95,115]) 11 [1,1] 1 0 false,.nilI],
 .tup [opV 73 (sb [105,51,50,46,108,116,95,117]) 11 [1,1] 1 0 false,.nilI],
 .tup [opV 74 (sb [105,51,50,46,103,116,95,115]) 11 [1,1] 1 0 false,.nilI],
 .tup [opV 75 (sb [105,51,50,46,103,116,95,117]) 11 [1,1] 1 0 false,.nilI],
 .tup [opV 76 (sb [105,51,50,46,108,101,95,115]) 11 [1,1] 1 0 false,.nilI],
 .tup [opV 77 (sb [105,51,50,46,108,101,95,117]) 11 [1,1] 1 0 false,.nilI],
 .tup [opV 78 (sb [105,51,50,46,103,101,95,115]) 11 [1,1] 1 0 false,.nilI],
 .tup [opV 79 (sb [105,51,50,46,103,101,95,117]) 11 [1,1] 1 0 false,.nilI],
 .tup [opV 80 (sb [105,54,52,46,101,113,122]) 11 [2] 1 0 false,.nilI],
 .tup [opV 81 (sb [105,54,52,46,101,113]) 11 [2,2] 1 0 false,.nilI],
 .tup [opV 82 (sb [105,54,52,46,110,101]) 11 [2,2] 1 0 false,.nilI],
 .tup [opV 83 (sb [105,54,52,46,108,116,95,115]) 11 [2,2] 1 0 false,.nilI],
 .tup [opV 84 (sb [105,54,52,46,108,116,95,117]) 11 [2,2] 1 0 false,.nilI],
 .tup [opV 85 (sb [105,54,52,46,103,116,95,115]) 11 [2,2] 1 0 false,.nilI],
 .tup [opV 86 (sb [105,54,52,46,103,116,95,117]) 11 [2,2] 1 0 false,.nilI],
 .tup [opV 87 (sb [105,54,52,46,108,101,95,115]) 11 [2,2] 1 0 false,.nilI],
 .tup [opV 88 (sb [105,54,52,46,108,101,95,117]) 11 [2,2] 1 0 false,.nilI],
 .tup [opV 89 (sb [105,54,52,46,103,101,95,115]) 11 [2,2] 1 0 false,.nilI],
 .tup [opV 90 (sb [105,54,52,46,103,101,95,117]) 11 [2,2] 1 0 false,.nilI],
 .tup [opV 0 (sb []) 0 [] 0 0 false,QaH 3],
 .tup [opV 0 (sb []) 0 [] 0 0 false,QaH 3],
 .tup [opV 0 (sb []) 0 [] 0 0 false,QaH 3],
 .tup [opV 0 (sb []) 0 [] 0 0 false,QaH 3],
 .tup [opV 0 (sb []) 0 [] 0 0 false,QaH 3]]
def lookL2:List LV:=[
 .tup [opV 0 (sb []) 0 [] 0 0 false,QaH 3],
 .tup [opV 0 (sb []) 0 [] 0 0 false,QaH 3],
 .tup [opV 0 (sb []) 0 [] 0 0 false,QaH 3],
 .tup [opV 0 (sb []) 0 [] 0 0 false,QaH 3],
 .tup [opV 0 (sb []) 0 [] 0 0 false,QaH 3],
 .tup [opV 0 (sb []) 0 [] 0 0 false,QaH 3],
 .tup [opV 0 (sb []) 0 [] 0 0 false,QaH 3],
 .tup [opV 103 (sb [105,51,50,46,99,108,122]) 11 [1] 1 0 false,.nilI],
 .tup [opV 104 (sb [105,51,50,46,99,116,122]) 11 [1] 1 0 false,.nilI],
 .tup [opV 105 (sb [105,51,50,46,112,111,112,99,110,116]) 11 [1] 1 0 false,.nilI],
 .tup [opV 106 (sb [105,51,50,46,97,100,100]) 11 [1,1] 1 0 false,.nilI],
 .tup [opV 107 (sb [105,51,50,46,115,117,98]) 11 [1,1] 1 0 false,.nilI],
 .tup [opV 108 (sb [105,51,50,46,109,117,108]) 11 [1,1] 1 0 false,.nilI],
 .tup [opV 109 (sb [105,51,50,46,100,105,118,95,115]) 11 [1,1] 1 0 false,.nilI],
 .tup [opV 110 (sb [105,51,50,46,100,105,118,95,117]) 11 [1,1] 1 0 false,.nilI],
 .tup [opV 111 (sb [105,51,50,46,114,101,109,95,115]) 11 [1,1] 1 0 false,.nilI],
 .tup [opV 112 (sb [105,51,50,46,114,101,109,95,117]) 11 [1,1] 1 0 false,.nilI],
 .tup [opV 113 (sb [105,51,50,46,97,110,100]) 11 [1,1] 1 0 false,.nilI],
 .tup [opV 114 (sb [105,51,50,46,111,114]) 11 [1,1] 1 0 false,.nilI],
 .tup [opV 115 (sb [105,51,50,46,120,111,114]) 11 [1,1] 1 0 false,.nilI],
 .tup [opV 116 (sb [105,51,50,46,115,104,108]) 11 [1,1] 1 0 false,.nilI],
 .tup [opV 117 (sb [105,51,50,46,115,104,114,95,115]) 11 [1,1] 1 0 false,.nilI],
 .tup [opV 118 (sb [105,51,50,46,115,104,114,95,117]) 11 [1,1] 1 0 false,.nilI],
 .tup [opV 119 (sb [105,51,50,46,114,111,116,108]) 11 [1,1] 1 0 false,.nilI],
 .tup [opV 120 (sb [105,51,50,46,114,111,116,114]) 11 [1,1] 1 0 false,.nilI],
 .tup [opV 121 (sb [105,54,52,46,99,108,122]) 11 [2] 2 0 false,.nilI],
 .tup [opV 122 (sb [105,54,52,46,99,116,122]) 11 [2] 2 0 false,.nilI],
 .tup [opV 123 (sb [105,54,52,46,112,111,112,99,110,116]) 11 [2] 2 0 false,.nilI],
 .tup [opV 124 (sb [105,54,52,46,97,100,100]) 11 [2,2] 2 0 false,.nilI],
 .tup [opV 125 (sb [105,54,52,46,115,117,98]) 11 [2,2] 2 0 false,.nilI],
 .tup [opV 126 (sb [105,54,52,46,109,117,108]) 11 [2,2] 2 0 false,.nilI],
 .tup [opV 127 (sb [105,54,52,46,100,105,118,95,115]) 11 [2,2] 2 0 false,.nilI],
 .tup [opV 128 (sb [105,54,52,46,100,105,118,95,117]) 11 [2,2] 2 0 false,.nilI],
 .tup [opV 129 (sb [105,54,52,46,114,101,109,95,115]) 11 [2,2] 2 0 false,.nilI],
 .tup [opV 130 (sb [105,54,52,46,114,101,109,95,117]) 11 [2,2] 2 0 false,.nilI],
 .tup [opV 131 (sb [105,54,52,46,97,110,100]) 11 [2,2] 2 0 false,.nilI],
 .tup [opV 132 (sb [105,54,52,46,111,114]) 11 [2,2] 2 0 false,.nilI],
 .tup [opV 133 (sb [105,54,52,46,120,111,114]) 11 [2,2] 2 0 false,.nilI],
 .tup [opV 134 (sb [105,54,52,46,115,104,108]) 11 [2,2] 2 0 false,.nilI],
 .tup [opV 135 (sb [105,54,52,46,115,104,114,95,115]) 11 [2,2] 2 0 false,.nilI],
 .tup [opV 136 (sb [105,54,52,46,115,104,114,95,117]) 11 [2,2] 2 0 false,.nilI],
 .tup [opV 137 (sb [105,54,52,46,114,111,116,108]) 11 [2,2] 2 0 false,.nilI],
 .tup [opV 138 (sb [105,54,52,46,114,111,116,114]) 11 [2,2] 2 0 false,.nilI],
 .tup [opV 0 (sb []) 0 [] 0 0 false,QaH 3],
 .tup [opV 0 (sb []) 0 [] 0 0 false,QaH 3],
 .tup [opV 0 (sb []) 0 [] 0 0 false,QaH 3],
 .tup [opV 0 (sb []) 0 [] 0 0 false,QaH 3],
 .tup [opV 0 (sb []) 0 [] 0 0 false,QaH 3]]
def lookL3:List LV:=[
 .tup [opV 0 (sb []) 0 [] 0 0 false,QaH 3],
 .tup [opV 0 (sb []) 0 [] 0 0 false,QaH 3],
 .tup [opV 0 (sb []) 0 [] 0 0 false,QaH 3],
 .tup [opV 0 (sb []) 0 [] 0 0 false,QaH 3],
 .tup [opV 0 (sb []) 0 [] 0 0 false,QaH 3],
 .tup [opV 0 (sb []) 0 [] 0 0 false,QaH 3],
 .tup [opV 0 (sb []) 0 [] 0 0 false,QaH 3],
 .tup [opV 0 (sb []) 0 [] 0 0 false,QaH 3],
 .tup [opV 0 (sb []) 0 [] 0 0 false,QaH 3],
 .tup [opV 0 (sb []) 0 [] 0 0 false,QaH 3],
 .tup [opV 0 (sb []) 0 [] 0 0 false,QaH 3],
 .tup [opV 0 (sb []) 0 [] 0 0 false,QaH 3],
 .tup [opV 0 (sb []) 0 [] 0 0 false,QaH 3],
 .tup [opV 0 (sb []) 0 [] 0 0 false,QaH 3],
 .tup [opV 0 (sb []) 0 [] 0 0 false,QaH 3],
 .tup [opV 0 (sb []) 0 [] 0 0 false,QaH 3],
 .tup [opV 0 (sb []) 0 [] 0 0 false,QaH 3],
 .tup [opV 0 (sb []) 0 [] 0 0 false,QaH 3],
 .tup [opV 0 (sb []) 0 [] 0 0 false,QaH 3],
 .tup [opV 0 (sb []) 0 [] 0 0 false,QaH 3],
 .tup [opV 0 (sb []) 0 [] 0 0 false,QaH 3],
 .tup [opV 0 (sb []) 0 [] 0 0 false,QaH 3],
 .tup [opV 0 (sb []) 0 [] 0 0 false,QaH 3],
 .tup [opV 167 (sb [105,51,50,46,119,114,97,112,95,105,54,52]) 11 [2] 1 0 false,.nilI],
 .tup [opV 0 (sb []) 0 [] 0 0 false,QaH 3],
 .tup [opV 0 (sb []) 0 [] 0 0 false,QaH 3],
 .tup [opV 0 (sb []) 0 [] 0 0 false,QaH 3],
 .tup [opV 0 (sb []) 0 [] 0 0 false,QaH 3],
 .tup [opV 172 (sb [105,54,52,46,101,120,116,101,110,100,95,105,51,50,95,115]) 11 [1] 2 0 false,.nilI],
 .tup [opV 173 (sb [105,54,52,46,101,120,116,101,110,100,95,105,51,50,95,117]) 11 [1] 2 0 false,.nilI],
 .tup [opV 0 (sb []) 0 [] 0 0 false,QaH 3],
 .tup [opV 0 (sb []) 0 [] 0 0 false,QaH 3],
 .tup [opV 0 (sb []) 0 [] 0 0 false,QaH 3],
 .tup [opV 0 (sb []) 0 [] 0 0 false,QaH 3],
 .tup [opV 0 (sb []) 0 [] 0 0 false,QaH 3],
 .tup [opV 0 (sb []) 0 [] 0 0 false,QaH 3],
 .tup [opV 0 (sb []) 0 [] 0 0 false,QaH 3],
 .tup [opV 0 (sb []) 0 [] 0 0 false,QaH 3],
 .tup [opV 0 (sb []) 0 [] 0 0 false,QaH 3],
 .tup [opV 0 (sb []) 0 [] 0 0 false,QaH 3],
 .tup [opV 0 (sb []) 0 [] 0 0 false,QaH 3],
 .tup [opV 0 (sb []) 0 [] 0 0 false,QaH 3],
 .tup [opV 0 (sb []) 0 [] 0 0 false,QaH 3],
 .tup [opV 0 (sb []) 0 [] 0 0 false,QaH 3],
 .tup [opV 0 (sb []) 0 [] 0 0 false,QaH 3],
 .tup [opV 0 (sb []) 0 [] 0 0 false,QaH 3],
 .tup [opV 0 (sb []) 0 [] 0 0 false,QaH 3],
 .tup [opV 0 (sb []) 0 [] 0 0 false,QaH 3]]
noncomputable def QdE (m:Int)(z:Int):Option LV:=(Qtv (cxS m) 12 80 (QiC Tryz.prog 80) [.v (.int .i64 z)] Heap.nil).map Prod.fst
end Go.Proofs.YtoblgjmllmomhaaGreatDoor
namespace Go.Proofs.YtoblgjmllmomhaaGreatDoor
open Go Go.Proofs.Am
theorem QlJ (m:Int):(List.range' 0 12).map (fun n=>QdE m (.ofNat n))=((lookL0.drop 0).take 12).map some:=by kernel_rfl
theorem QlI (m:Int):(List.range' 12 12).map (fun n=>QdE m (.ofNat n))=((lookL0.drop 12).take 12).map some:=by kernel_rfl
theorem QlH (m:Int):(List.range' 24 12).map (fun n=>QdE m (.ofNat n))=((lookL0.drop 24).take 12).map some:=by kernel_rfl
theorem QlG (m:Int):(List.range' 36 12).map (fun n=>QdE m (.ofNat n))=((lookL0.drop 36).take 12).map some:=by kernel_rfl
theorem QsY (m:Int):(List.range' 0 48).map (fun n=>QdE m (.ofNat n))=lookL0.map some:=by
 have e:List.range' 0 48=List.range' 0 12++(List.range' 12 12++(List.range' 24 12++List.range' 36 12)):=by kernel_rfl
 rw[e,List.map_append,List.map_append,List.map_append,QlJ,QlI,QlH,QlG]
 have h:((lookL0.drop 0).take 12).map some++(((lookL0.drop 12).take 12).map some++(((lookL0.drop 24).take 12).map some++(((lookL0.drop 36).take 12).map some)))=lookL0.map some:=by kernel_rfl
 exact h
end Go.Proofs.YtoblgjmllmomhaaGreatDoor
namespace Go.Proofs.YtoblgjmllmomhaaGreatDoor
open Go Go.Proofs.Am
theorem QlF (m:Int):(List.range' 48 12).map (fun n=>QdE m (.ofNat n))=((lookL1.drop 0).take 12).map some:=by kernel_rfl
theorem QlE (m:Int):(List.range' 60 12).map (fun n=>QdE m (.ofNat n))=((lookL1.drop 12).take 12).map some:=by kernel_rfl
theorem QlD (m:Int):(List.range' 72 12).map (fun n=>QdE m (.ofNat n))=((lookL1.drop 24).take 12).map some:=by kernel_rfl
theorem QlC (m:Int):(List.range' 84 12).map (fun n=>QdE m (.ofNat n))=((lookL1.drop 36).take 12).map some:=by kernel_rfl
theorem QsX (m:Int):(List.range' 48 48).map (fun n=>QdE m (.ofNat n))=lookL1.map some:=by
 have e:List.range' 48 48=List.range' 48 12++(List.range' 60 12++(List.range' 72 12++List.range' 84 12)):=by kernel_rfl
 rw[e,List.map_append,List.map_append,List.map_append,QlF,QlE,QlD,QlC]
 have h:((lookL1.drop 0).take 12).map some++(((lookL1.drop 12).take 12).map some++(((lookL1.drop 24).take 12).map some++(((lookL1.drop 36).take 12).map some)))=lookL1.map some:=by kernel_rfl
 exact h
end Go.Proofs.YtoblgjmllmomhaaGreatDoor
namespace Go.Proofs.YtoblgjmllmomhaaGreatDoor
open Go Go.Proofs.Am
theorem QlB (m:Int):(List.range' 96 12).map (fun n=>QdE m (.ofNat n))=((lookL2.drop 0).take 12).map some:=by kernel_rfl
theorem QlA (m:Int):(List.range' 108 12).map (fun n=>QdE m (.ofNat n))=((lookL2.drop 12).take 12).map some:=by kernel_rfl
theorem Qlz (m:Int):(List.range' 120 12).map (fun n=>QdE m (.ofNat n))=((lookL2.drop 24).take 12).map some:=by kernel_rfl
theorem Qly (m:Int):(List.range' 132 12).map (fun n=>QdE m (.ofNat n))=((lookL2.drop 36).take 12).map some:=by kernel_rfl
theorem QsW (m:Int):(List.range' 96 48).map (fun n=>QdE m (.ofNat n))=lookL2.map some:=by
 have e:List.range' 96 48=List.range' 96 12++(List.range' 108 12++(List.range' 120 12++List.range' 132 12)):=by kernel_rfl
 rw[e,List.map_append,List.map_append,List.map_append,QlB,QlA,Qlz,Qly]
 have h:((lookL2.drop 0).take 12).map some++(((lookL2.drop 12).take 12).map some++(((lookL2.drop 24).take 12).map some++(((lookL2.drop 36).take 12).map some)))=lookL2.map some:=by kernel_rfl
 exact h
end Go.Proofs.YtoblgjmllmomhaaGreatDoor
namespace Go.Proofs.YtoblgjmllmomhaaGreatDoor
open Go Go.Proofs.Am
theorem Qlx (m:Int):(List.range' 144 12).map (fun n=>QdE m (.ofNat n))=((lookL3.drop 0).take 12).map some:=by kernel_rfl
theorem Qlw (m:Int):(List.range' 156 12).map (fun n=>QdE m (.ofNat n))=((lookL3.drop 12).take 12).map some:=by kernel_rfl
theorem Qlv (m:Int):(List.range' 168 12).map (fun n=>QdE m (.ofNat n))=((lookL3.drop 24).take 12).map some:=by kernel_rfl
theorem Qlu (m:Int):(List.range' 180 12).map (fun n=>QdE m (.ofNat n))=((lookL3.drop 36).take 12).map some:=by kernel_rfl
theorem QsV (m:Int):(List.range' 144 48).map (fun n=>QdE m (.ofNat n))=lookL3.map some:=by
 have e:List.range' 144 48=List.range' 144 12++(List.range' 156 12++(List.range' 168 12++List.range' 180 12)):=by kernel_rfl
 rw[e,List.map_append,List.map_append,List.map_append,Qlx,Qlw,Qlv,Qlu]
 have h:((lookL3.drop 0).take 12).map some++(((lookL3.drop 12).take 12).map some++(((lookL3.drop 24).take 12).map some++(((lookL3.drop 36).take 12).map some)))=lookL3.map some:=by kernel_rfl
 exact h
end Go.Proofs.YtoblgjmllmomhaaGreatDoor
namespace Go.Proofs.YtoblgjmllmomhaaGreatDoor
open Go Go.Proofs.Am
theorem Qv7:(Tryz.prog.funcs.toList.all fun fn=>fn.name != "runtime.NumGoroutine")=true:=by kernel_rfl
theorem npA:(AV.snap Qe3).np=true:=by kernel_rfl
theorem QcM (f:FuncId)(fn:Func)(hf:Tryz.prog.funcs[f]? =some fn):fn.name≠ "runtime.NumGoroutine" :=by
 intro h
 have:=List.all_eq_true.1 Qv7 fn (List.mem_of_getElem? (by simpa using hf))
 simp[h]at this
theorem QcV (m:Int)(i:Nat)(cs:List AV)(hi:(cxS m).glob i=some cs):(AV.snap cs).np=true:=by
 match i,hi with
 |0,hi=>cases hi;exact npA
 |2,hi=>cases hi;rfl
 |1,hi=>cases hi
 |n+3,hi=>cases hi
theorem QbC {f:FuncId}{fn:Func}(h:Tryz.prog.funcs[f]? =some fn)(hb:fn.body.isSome=true):∃c,fn.body=some c∧QiC Tryz.prog f=[.code c]:=by
 cases hc:fn.body with
 |none=>rw[hc]at hb;cases hb
 |some c=>exact⟨c,rfl,by simp only[QiC,h,hc]⟩
theorem Qoj {cx:Cx}(h:cx.cut=fun _ _=>none)(f:FuncId)(todo:List Item):cutAt cx f todo=none:=by
 unfold cutAt
 split
 ·rw[h]
 ·rfl
theorem Qw5 (m:Int):CxOk (cxS m) where
 names:=QcM
 ext:=fun f e h=>by
  have h:QBK f=some e:=h
  unfold QBK at h
  split at h
  ·cases h
   obtain⟨c,hc,_⟩:=QbC Tryz.func118 (by kernel_rfl)
   exact⟨Qk3 rfl rfl,_,c,Tryz.func118,hc⟩
  ·cases h
   obtain⟨c,hc,_⟩:=QbC Tryz.func157 (by kernel_rfl)
   exact⟨Qhy (m:=m) rfl rfl,_,c,Tryz.func157,hc⟩
  ·cases h
 mixed:=by kernel_rfl
 globs:=QcV m
def noneL:LV:=.tup [opV 0 (sb []) 0 [] 0 0 false,QaH 5]
def lookL:List LV:=lookL0++(lookL1++(lookL2++lookL3))
def Qav (z:Int):LV:=
 match z with
 |.ofNat n=>(lookL[n]?).getD noneL
 |.negSucc _=>noneL
theorem big (m:Int)(k:Nat):QdE m (.ofNat (k+192))=some noneL:=by kernel_rfl
theorem neg (m:Int)(k:Nat):QdE m (.negSucc k)=some noneL:=by kernel_rfl
theorem QrY (k:Nat):Qav (.ofNat (k+192))=noneL:=by kernel_rfl
theorem chunks (m:Int):(List.range 192).map (fun n=>QdE m (.ofNat n))=lookL.map some:=by
 have e:List.range 192=List.range' 0 48++(List.range' 48 48++(List.range' 96 48++List.range' 144 48)):=by kernel_rfl
 rw[e,List.map_append,List.map_append,List.map_append,QsY,QsX,QsW,QsV]
 simp only[lookL,List.map_append]
theorem Qrw (m z:Int):QdE m z=some (Qav z):=by
 cases z with
 |negSucc k=>exact neg m k
 |ofNat n=>
  by_cases h:n<192
  ·have h1:(((List.range 192).map (fun n=>QdE m (.ofNat n)))[n]?)=(lookL.map some)[n]?:=by rw[chunks]
   rw[List.getElem?_map,List.getElem?_range h,List.getElem?_map,Option.map_some]at h1
   cases h2:lookL[n]? with
   |none=>rw[h2]at h1;cases h1
   |some x=>
    rw[h2]at h1
    simp only[Option.map_some,Option.some.injEq]at h1
    rw[h1]
    simp only[Qav,h2,Option.getD_some]
  ·obtain⟨k,rfl⟩:∃k,n=k+192:=⟨n-192,by omega⟩
   rw[big,QrY]
theorem Qwh:(noneL.np&&lookL.all LV.np)=true:=by kernel_rfl
theorem QnS (z:Int):(Qav z).np=true:=by
 have h:=Qwh
 rw[Bool.and_eq_true]at h
 unfold Qav
 split
 ·rename_i n
  cases h2:lookL[n]? with
  |none=>exact h.1
  |some x=>exact List.all_eq_true.1 h.2 x (List.mem_of_getElem? h2)
 ·exact h.1
def QrX:List LV→Option LV
 |[.v (.int .i64 z)]=>some (Qav z)
 |_=>none
theorem QwV {m:Int}{f:FuncId}{fn:Func}(hf:Tryz.prog.funcs[f]? =some fn)(hb:fn.body.isSome=true){cx':Cx}(hP:cx'.P=Tryz.prog)(hg:cx'.glob=(cxS m).glob){e:List LV→Option LV}{n:Nat}
 (he:∀(xs:List LV) (x:LV),e xs=some x→Qbw xs=true∧x.np=true∧(Qtv (cxS m) n f (QiC Tryz.prog f) xs Heap.nil).map Prod.fst=some x):ExtOk cx' f e∧∃fn c,cx'.P.funcs[f]? =some fn∧fn.body=some c:=by
 obtain⟨c,hc,hbody⟩:=QbC hf hb
 refine⟨Qhu (Qw5 m) hP hg hf hc (Qoj rfl f _) fun xs x hx=>?_,fn,c,by rw[hP];exact hf,hc⟩
 obtain⟨h1,h2,h3⟩:=he xs x hx
 rw[hbody]at h3
 exact⟨h1,h2,Qji h3⟩
theorem look_ok {m:Int}{cx':Cx}(hP:cx'.P=Tryz.prog)(hg:cx'.glob=(cxS m).glob):ExtOk cx' 80 QrX∧∃fn c,cx'.P.funcs[80]? =some fn∧fn.body=some c:=
 QwV (m:=m) (n:=12) Tryz.func80 (by kernel_rfl) hP hg fun xs x hx=>by
  unfold QrX at hx
  split at hx
  ·rename_i z
   cases hx
   exact⟨rfl,QnS z,Qrw m z⟩
  ·cases hx
end Go.Proofs.YtoblgjmllmomhaaGreatDoor
