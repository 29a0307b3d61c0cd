/- A part of the proof. -/
import Derived.Test.YtbcndiahccicpaaGreatDoorS3
set_option linter.all false
open Go Go.Ab
namespace Go.Ab
noncomputable section
def Kt (x:Int):FK->FK
 |[]=>[x]
 |y::l=>if x<=y then x::y::l else y::Kt x l
def Aw:FK->FK
 |[]=>[]
 |x::l=>Kt x<|Aw l
def K8:List (Value×Value×Nat)->Option FK
 |[]=>some []
 |(.int .i64 n,_,_)::a=>(K8 a).map fun l=>n::l
 |_::_=>none
def yj (h:AH) (e:TypeId) (a:FK):Value×AH:=
 if a.isEmpty then(.slice none 0 0,h) else(.slice (some ⟨h.next,0,none⟩) a.length a.length,h.alloc<|.cells (a.map<|Value.int .i64) e (0,0) false)
def Ic (a:Nat):List (Value×Value×Nat)->Bool
 |[]=>true
 |x::l=>Nat.blt x.2.2 a&&(l.all fun y=> !Nat.beq y.2.2 x.2.2)&&Ic a l
def X8:FK->Bool
 |[]=>true
 |x::l=>(Lit.int .i64 x).wf&&(l.all fun y=> !(y==x))&&X8 l
def Ix (e:TypeId) (c:Nat):AH->Option (Value×AH):=fun h=>
 match h.get c with
 |some (.cells [.map<|some r] _ _ true)=>match h.get r with
  |some (.map d a)=>match K8 d with
   |some b=>if Nat.ble b.length 1000&&Ic a d&&X8 b then some (yj h e<|Aw b) else none
   |none=>none
  |_=>none
 |_=>none
end
end Go.Ab
