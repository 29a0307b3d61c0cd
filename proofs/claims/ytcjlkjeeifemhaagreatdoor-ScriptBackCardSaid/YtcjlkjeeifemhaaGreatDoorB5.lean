/- A part of the proof. -/
import Derived.Test.YtcjlkjeeifemhaaGreatDoorB4
section
namespace Go.Ab
noncomputable section
def Ns (x:Int):List Int->List Int
 |[]=>[x]
 |y::l=>if x<=y then x::y::l else y::Ns x l
def xL:List Int->List Int
 |[]=>[]
 |x::l=>Ns x (xL l)
def keysOf:List (Value×Value×Nat)->Option (List Int)
 |[]=>some []
 |(.int .i64 n,_,_)::a=>(keysOf a).map fun l=>n::l
 |_::_=>none
def Lr (h:AH) (e:TypeId) (a:List Int):Value×AH:=
 if a.isEmpty then(.slice none 0 0,h) else(.slice (some ⟨h.next,0,none⟩) a.length a.length,h.alloc (.cells (a.map (Value.int .i64)) e (0,0) false))
def yQ (a:Nat):List (Value×Value×Nat)->Bool
 |[]=>true
 |x::l=>Nat.blt x.2.2 a&&(l.all fun y=> !Nat.beq y.2.2 x.2.2)&&yQ a l
def Pg:List Int->Bool
 |[]=>true
 |x::l=>(Lit.int .i64 x).wf&&(l.all fun y=> !(y==x))&&Pg l
def Fk (e:TypeId) (c:Nat):AH->Option (Value×AH):=fun h=>
 match h.get c with
 |some (.cells [.map (some r)] _ _ true)=>match h.get r with
  |some (.map d a)=>match keysOf d with
   |some b=>if Nat.ble b.length 1000&&yQ a d&&Pg b then some (Lr h e (xL b)) else none
   |none=>none
  |_=>none
 |_=>none
end
end Go.Ab
end
namespace Go.Ab
open Go.RowKit
section
noncomputable section
variable {P:Program} {K:FuncId->List Value->Option dU}
end
end
end Go.Ab
