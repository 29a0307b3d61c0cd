/- A part of the proof. -/
import Derived.Test.YtbcndiahccicpaaGreatDoorS14
import Derived.Test.YtbcndiahccicpaaGreatDoorS7
set_option linter.all false
set_option maxRecDepth 100000
open Go Go.Ab
namespace Go.Proofs.Z
open Go.Proofs.YtbcndiahccicpaaGreatDoor
open Go.RowKit
def tC {a b:Bool} (ha:a=true) (hb:b=true):(a&&b)=true:=by rw[ha,hb];rfl
def aUt:mapsRowed Tryz.prog=true:=FU
def aQx:(Tryz.prog.stops==[])=true:=FU
def aPk:(Tryz.prog.stopKnobs==[])=true:=FU
def aO1:(Rows.topSizesRow.plainKeys==Tryz.prog.plainKeys)=true:=FU
def aPa:Tryz.prog.stopsHeard=true:=FU
def aOd:Tryz.prog.mayEnter=true:=FU
def aQl:(Rows.topSizesRow.lifted==Tryz.prog.liftsFinal)=true:=FU
def aVm:(Tryz.prog.make==some Rows.topSizesRow.make)=true:=FU
def aVh:Tryz.prog.mainIs=some (Rows.topSizesCard.stood.harness.1,Rows.topSizesCard.stood.harness.2.toList):=FU
def aQf:true=Tryz.prog.looks []:=FU
end Go.Proofs.Z
namespace Go.Proofs.Z
open Go.Proofs.YtbcndiahccicpaaGreatDoor
noncomputable section
abbrev Pa (k:Nat):Value:= .pointer (some ⟨12+k,0,none⟩)
abbrev Sa (k l:Nat):Value:= .slice (some ⟨12+k,0,none⟩) l l
def dk:FJ:=[I 1,I 1,I 1,I 1,I 2,I 1,I 1]
def gls:List (JA):=[some iM,some vV,none,none,none,none,some af,none,none,none,none,none]
def lnV (b:Bool):FJ:=[I 2,bif b then .slice none 0 0 else .slice (some ⟨0,0,some 0⟩) 0 0]
def prA:FJ:=[I 1,I 1,I 5,I 0,I 4,I 1,I 0,I 0,I 3,I 2,I 0,I 0]
def LA (a b c d:Bool):List (JA):=gls++([dk++[Sa 1 1,Sa 2 1,Sa 3 1,Pa 11,Pa 15,Pa 18,Sa 23 3],[Pa 4],[Pa 5],[Pa 9],
  [I 0,I 5,I 5,I 0,I 3,I 1,.bool true,I 0,sb],Pa 6::(dk++[I 0,I 0,.bool false,.bool false,I 0,I 0,I 0,I 0,I 0,.bool false]),[I 1,Sa 7 1],[Sa 8 1],[I 0,I 4,I 1,I 5,I 0],
  [.bool false,I 0,I 0,.bool false,I 1,I 1,Sa 10 1],[I 0,I 1],Pa 12::(dk++[sb]),dk++[Sa 13 1],[sb,sb,Sa 14 2],[I 0,I 0,I 0,I 0],[Pa 16,I 1,sb],[Sa 17 1],[I 1,.bool false],
  dk++([Pa 19,Pa 20,Pa 21,Pa 22]++List.replicate 12 (.pointer none)),lnV a,lnV b,lnV c,lnV d,
  [I 0,I 0,I 1,I 1,I 0,I 5,I 0,I 0,I 1,I 4,I 1,I 0,I 5,I 0,I 0,I 2,I 3,I 1,I 0,I 5,I 0],
  [Sa 25 3],prA,[I 1],[I 1],[I 0,I 0,I 0,I 0]]).map some
def bS:List qU:=[.cells [I 0,I 0,I 0,I 0] 152 (0,0) false,.cells [I 1,.bool false] 165 (0,0) false,.cells [I 0,I 0,I 1] 163 (0,0) false,.cells [I 0,I 0,I 4,I 1,I 5,I 0] 160 (0,0) false]
abbrev Sb (k l:Nat):Value:= .slice (some ⟨k,0,none⟩) l l
def aS (n:Nat):FJ:=[Sb n 1,Sb (n+1) 1,Sb (n+2) 1,.slice none 0 0,Sb (n+3) 2]
def LB:List (JA):=gls++([[I 0,I 0,I 4,I 1,I 5,I 0],[I 0,I 0,I 1],[I 1,.bool false],[I 0,I 0,I 0,I 0]]).map some
def aU3:ByteArray:=⟨#[115,101,116,32,49,32,53,10,115,116,111,114,101,32,49,32,48,10,108,111,97,100,32,50,32,48,10]⟩
open Classical in
def FP (s:ByteArray) (h:AH):Option (Value×AH):=if s=aU3/\∃σ E Z,K9 Pr 12 σ gls E Z h then some (.tuple ⟨[Sb h.next 3,I 0,I 0]⟩,h.alloc<|.cells prA 55 (0,0) false) else none
open Classical in
def FS (m:Nat) (h:AH):Option (Value×AH):=if ∃a b c d σ E Z,K9 Pr 12 σ (LA a b c d) E Z h/\σ 12=(m,0,0) then some (.agg ⟨aS h.next⟩,sE h bS) else none
open Classical in
def FC (c s:FJ) (h:AH):Option (Value×AH):=if ∃σ E Z,K9 Pr 12 σ LB E Z h/\c=dk/\Rcs σ (aS 12) s then some (.tuple ⟨[.agg ⟨[I 0,I 0]⟩,I 0]⟩,h) else none
abbrev cH:FJ:=dk++[Sa 24 1,Sa 26 1,Sa 27 1,Sa 28 4]
open Classical in
def FH (s:FJ) (m:Nat) (h:AH):Option (Value×AH):=if ∃a b c d σ E Z,K9 Pr 12 σ (LA a b c d) E Z h/\σ 12=(m,0,0)/\Rcs σ cH s then some (.bool true,h) else none
def KH:FuncId->FJ->IX:=fun f a=>match f,a with
 |14,[.string s]=>some (.K7<|FP s)
 |18,[.pointer<|some ⟨m,0,none⟩]=>some (.K7<|FS m)
 |17,[.agg ⟨c⟩,.agg ⟨s⟩]=>some (.K7<|FC c s)
 |20,[.agg ⟨c⟩,.pointer<|some ⟨m,0,none⟩]=>some (.K7<|FH c m)
 |_,_=>none
def K:FuncId->FJ->IX:=orK KH K0
abbrev JL:=Cl Pr K
end
end Go.Proofs.Z
