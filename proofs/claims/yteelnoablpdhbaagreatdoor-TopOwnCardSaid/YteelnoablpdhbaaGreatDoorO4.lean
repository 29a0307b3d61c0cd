/- A part of the proof. -/
import Derived.Test.YteelnoablpdhbaaGreatDoorO3
set_option linter.all false
open Go Go.Ab
namespace Go.Ab
noncomputable section
def Hb (x:Int):EL->EL
 |[]=>[x]
 |y::l=>if x<=y then x::y::l else y::Hb x l
def yD:EL->EL
 |[]=>[]
 |x::l=>Hb x<|yD l
def Hq:List (Value×Value×Nat)->Option EL
 |[]=>some []
 |(.int .i64 n,_,_)::a=>(Hq a).map fun l=>n::l
 |_::_=>none
def qs (h:AH) (e:TypeId) (a:EL):Value×AH:=
 if a.isEmpty then(.slice none 0 0,h) else(.slice (some ⟨h.next,0,none⟩) a.length a.length,h.alloc<|.cells (a.map<|Value.int .i64) e (0,0) false)
def E2 (a:Nat):List (Value×Value×Nat)->Bool
 |[]=>true
 |x::l=>Nat.blt x.2.2 a&&(l.all fun y=> !Nat.beq y.2.2 x.2.2)&&E2 a l
def Uc:EL->Bool
 |[]=>true
 |x::l=>(Lit.int .i64 x).wf&&(l.all fun y=> !(y==x))&&Uc l
def Fb (e:TypeId) (c:Nat):AH->Option (Value×AH):=fun h=>
 match h.get c with
 |some (.cells [.map<|some r] _ _ true)=>match h.get r with
  |some (.map d a)=>match Hq d with
   |some b=>if Nat.ble b.length 1000&&E2 a d&&Uc b then some (qs h e<|yD b) else none
   |none=>none
  |_=>none
 |_=>none
end
end Go.Ab
