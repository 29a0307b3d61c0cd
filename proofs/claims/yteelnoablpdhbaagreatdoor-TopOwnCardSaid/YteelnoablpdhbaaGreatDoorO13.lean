/- A part of the proof. -/
import Derived.Test.YteelnoablpdhbaaGreatDoorO12
import Derived.Test.YteelnoablpdhbaaGreatDoorO8
set_option linter.all false
set_option maxRecDepth 100000
open Go Go.Ab
namespace Go.Proofs.Z
open Go.Proofs.YteelnoablpdhbaaGreatDoor
open Go.RowKit
def qX {a b:Bool} (c:a=true) (hb:b=true):(a&&b)=true:=by rw[c,hb];rfl
def aPh:mapsRowed Tryz.prog=true:=EU
def aM2:(Tryz.prog.stops==[])=true:=EU
def aKs:(Tryz.prog.stopKnobs==[])=true:=EU
def aJe:(Rows.topOwnRow.plainKeys==Tryz.prog.plainKeys)=true:=EU
def aKk:Tryz.prog.stopsHeard=true:=EU
def aJp:Tryz.prog.mayEnter=true:=EU
def aLs:(Rows.topOwnRow.lifted==Tryz.prog.liftsFinal)=true:=EU
def aQ9:(Tryz.prog.make==some Rows.topOwnRow.make)=true:=EU
def aQ4:Tryz.prog.mainIs=some (Rows.topOwnCard.stood.harness.1,Rows.topOwnCard.stood.harness.2.toList):=EU
def aLl:true=Tryz.prog.looks []:=EU
end Go.Proofs.Z
namespace Go.Proofs.Z
open Go.Proofs.YteelnoablpdhbaaGreatDoor
noncomputable section
abbrev Pa (k:Nat):Value:= .pointer (some ⟨12+k,0,none⟩)
abbrev Sa (k l:Nat):Value:= .slice (some ⟨12+k,0,none⟩) l l
def Qy:EK:=[I 1,I 1,I 1,I 1,I 2,I 1,I 1]
def gls:List (HT):=[some fO,some tF,none,none,none,none,some Wh,none,none,none,none,none]
def lnV (b:Bool):EK:=[I 2,bif b then .slice none 0 0 else .slice (some ⟨0,0,some 0⟩) 0 0]
def prA:EK:=[I 1,I 1,I 5,I 0,I 4,I 1,I 0,I 0,I 3,I 2,I 0,I 0]
def LA (a b c d:Bool):List (HT):=gls++([Qy++[Sa 1 1,Sa 2 1,Sa 3 1,Pa 11,Pa 15,Pa 18,Sa 23 3],[Pa 4],[Pa 5],[Pa 9],
  [I 0,I 5,I 5,I 0,I 3,I 1,.bool true,I 0,Yb],Pa 6::(Qy++[I 0,I 0,.bool false,.bool false,I 0,I 0,I 0,I 0,I 0,.bool false]),[I 1,Sa 7 1],[Sa 8 1],[I 0,I 4,I 1,I 5,I 0],
  [.bool false,I 0,I 0,.bool false,I 1,I 1,Sa 10 1],[I 0,I 1],Pa 12::(Qy++[Yb]),Qy++[Sa 13 1],[Yb,Yb,Sa 14 2],[I 0,I 0,I 0,I 0],[Pa 16,I 1,Yb],[Sa 17 1],[I 1,.bool false],
  Qy++([Pa 19,Pa 20,Pa 21,Pa 22]++List.replicate 12 (.pointer none)),lnV a,lnV b,lnV c,lnV d,
  [I 0,I 0,I 1,I 1,I 0,I 5,I 0,I 0,I 1,I 4,I 1,I 0,I 5,I 0,I 0,I 2,I 3,I 1,I 0,I 5,I 0],
  [Sa 25 3],prA,[I 1],[I 1],[I 0,I 0,I 0,I 0]]).map some
abbrev Sb (k l:Nat):Value:= .slice (some ⟨k,0,none⟩) l l
def aS (b:Bool):EK:=[Sb 12 1,Sb 13 1,Sb 14 1,bif b then .slice none 0 0 else .slice (some ⟨0,0,some 0⟩) 0 0,Sb 15 2]
def LB:List (HT):=gls++([[I 0,I 0,I 4,I 1,I 5,I 0],[I 0,I 0,I 1],[I 1,.bool false],[I 0,I 0,I 0,I 0]]).map some
def aOu:ByteArray:=⟨#[115,101,116,32,49,32,53,10,115,116,111,114,101,32,49,32,48,10,108,111,97,100,32,50,32,48,10]⟩
open Classical in
def FP (s:ByteArray) (h:AH):Option (Value×AH):=if s=aOu/\∃σ E Z,Js Pr 12 σ gls E Z h then some (.tuple ⟨[Sb h.next 3,I 0,I 0]⟩,h.alloc<|.cells prA 69 (0,0) false) else none
open Classical in
def FC (c s:EK) (h:AH):Option (Value×AH):=if ∃b σ E Z,Js Pr 12 σ LB E Z h/\c=Qy/\Rcs σ (aS b) s then some (.tuple ⟨[.agg ⟨[I 0,I 0]⟩,I 0]⟩,h) else none
abbrev cH:EK:=Qy++[Sa 24 1,Sa 26 1,Sa 27 1,Sa 28 4]
open Classical in
def FH (s:EK) (m:Nat) (h:AH):Option (Value×AH):=if ∃a b c d σ E Z,Js Pr 12 σ (LA a b c d) E Z h/\σ 12=(m,0,0)/\Rcs σ cH s then some (.bool true,h) else none
def KH:FuncId->EK->HQ:=fun f a=>match f,a with
 |20,[.string s]=>some (.Aa<|FP s)
 |21,[.agg ⟨c⟩,.agg ⟨s⟩]=>some (.Aa<|FC c s)
 |23,[.agg ⟨c⟩,.pointer<|some ⟨m,0,none⟩]=>some (.Aa<|FH c m)
 |_,_=>none
def K:FuncId->EK->HQ:=orK KH K0
abbrev ID:=Cl Pr K
end
end Go.Proofs.Z
