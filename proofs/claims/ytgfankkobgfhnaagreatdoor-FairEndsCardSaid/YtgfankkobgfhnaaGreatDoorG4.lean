/- A part of the proof. -/
import Derived.Test.YtgfankkobgfhnaaGreatDoorG3
set_option linter.all false
open Go Go.Ab
namespace Go.Ab
noncomputable section
def Kl (x:Int):EV->EV
 |[]=>[x]
 |y::l=>if x<=y then x::y::l else y::Kl x l
def Aq:EV->EV
 |[]=>[]
 |x::l=>Kl x<|Aq l
def Kx:List (Value×Value×Nat)->Option EV
 |[]=>some []
 |(.int .i64 n,_,_)::a=>(Kx a).map fun l=>n::l
 |_::_=>none
def xd (h:AH) (e:TypeId) (a:EV):Value×AH:=
 if a.isEmpty then(.slice none 0 0,h) else(.slice (some ⟨h.next,0,none⟩) a.length a.length,h.alloc<|.cells (a.map<|Value.int .i64) e (0,0) false)
def H9 (a:Nat):List (Value×Value×Nat)->Bool
 |[]=>true
 |x::l=>Nat.blt x.2.2 a&&(l.all fun y=> !Nat.beq y.2.2 x.2.2)&&H9 a l
def Xi:EV->Bool
 |[]=>true
 |x::l=>(Lit.int .i64 x).wf&&(l.all fun y=> !(y==x))&&Xi l
def Iu (e:TypeId) (c:Nat):AH->Option (Value×AH):=fun h=>
 match h.get c with
 |some (.cells [.map<|some r] _ _ true)=>match h.get r with
  |some (.map d a)=>match Kx d with
   |some b=>if Nat.ble b.length 1000&&H9 a d&&Xi b then some (xd h e<|Aq b) else none
   |none=>none
  |_=>none
 |_=>none
end
end Go.Ab
