/- A part of the proof. -/
import Derived.Test.YtmhapehobfnoiaaGreatDoorS4
section
namespace Go.Ab
noncomputable section
def Cz (x:Int):List Int->List Int
 |[]=>[x]
 |y::l=>if x<=y then x::y::l else y::Cz x l
def rG:List Int->List Int
 |[]=>[]
 |x::l=>Cz x (rG l)
def keysOf:List (Value×Value×Nat)->Option (List Int)
 |[]=>some []
 |(.int .i64 n,_,_)::a=>(keysOf a).map fun l=>n::l
 |_::_=>none
def Lx (h:AH) (e:TypeId) (a:List Int):Value×AH:=
 if a.isEmpty then(.slice none 0 0,h) else(.slice (some ⟨h.next,0,none⟩) a.length a.length,h.alloc (.cells (a.map (Value.int .i64)) e (0,0) false))
def Bo (a:Nat):List (Value×Value×Nat)->Bool
 |[]=>true
 |x::l=>Nat.blt x.2.2 a&&(l.all fun y=> !Nat.beq y.2.2 x.2.2)&&Bo a l
def Oq:List Int->Bool
 |[]=>true
 |x::l=>(Lit.int .i64 x).wf&&(l.all fun y=> !(y==x))&&Oq l
def Bp (e:TypeId) (c:Nat):AH->Option (Value×AH):=fun h=>
 match h.get c with
 |some (.cells [.map (some r)] _ _ true)=>match h.get r with
  |some (.map d a)=>match keysOf d with
   |some b=>if Nat.ble b.length 1000&&Bo a d&&Oq b then some (Lx h e (rG b)) else none
   |none=>none
  |_=>none
 |_=>none
end
end Go.Ab
end
