/- A part of the proof. -/
import Derived.Test.YtgfankkobgfhnaaGreatDoorG5
import Derived.Test.YtgfankkobgfhnaaGreatDoorG7
import Derived.Shelf.SlIterI.Nil
import Derived.Shelf.SortM.Plain
import Derived.Shelf.SortM.SortNone
import Derived.Ground.GgzProg
import Derived.Ground.SlgmProg
import Derived.Test.YtgfankkobgfhnaaGreatDoorChecked
import Derived.Test.YtgfankkobgfhnaaGreatDoorG4
import Derived.Maps.Own
import Derived.Maps.Keyed
import Derived.Maps.Range
import Derived.Lib.SlKeysI
import Derived.Tactics
import Derived.Tactics2
import Derived.Defers
import Derived.Recover
import Derived.Laws.Pointers
import Derived.OneCell
import Derived.Below
import Derived.Test.YtgfankkobgfhnaaGreatDoorTie
import Derived.Test.YtgfankkobgfhnaaGreatDoorCards
import Derived.LaidMore
import Derived.SevenTiedAt
set_option linter.all false
set_option maxRecDepth 100000
open Go Go.Ab
namespace Go.Proofs.Z
open Go.Proofs.YtgfankkobgfhnaaGreatDoor
def iF:EU:=[
 .int .i64 4,.int .i64 16,.int .i64 8,.int .i64 4,.int .i64 16,.int .i64 8,.int .i64 4]
def xT:EU:=[
 .string ⟨#[]⟩,.int .i64 0,.int .i64 0,.int .i64 0,.string ⟨#[115,101,116]⟩,.int .i64 1,.int .i64 2,.int .i64 0,.string ⟨#[97,100,100]⟩,.int .i64 1,.int .i64 1,
  .int .i64 1,.string ⟨#[108,111,97,100]⟩,.int .i64 1,.int .i64 1,.int .i64 0,.string ⟨#[115,116,111,114,101]⟩,.int .i64 1,.int .i64 1,.int .i64 0,
  .string ⟨#[115,119,97,112]⟩,.int .i64 1,.int .i64 1,.int .i64 0,.string ⟨#[102,101,110,99,101]⟩,.int .i64 0,.int .i64 0,.int .i64 0,
  .string ⟨#[119,111,114,108,100]⟩,.int .i64 3,.int .i64 0,.int .i64 0,.string ⟨#[99,97,108,108]⟩,.int .i64 4,.int .i64 1,.int .i64 1,.string ⟨#[106,117,109,112]⟩,
  .int .i64 5,.int .i64 0,.int .i64 0,.string ⟨#[122,101,114,111]⟩,.int .i64 1,.int .i64 5,.int .i64 0,.string ⟨#[104,97,108,116]⟩,.int .i64 0,.int .i64 0,.int .i64 0]
def aK4:EU:=[
 .string ⟨#[]⟩,.int .i64 0,.int .i64 0,.int .i64 0,.int .i64 0,.int .i64 0,.int .i64 0,.int .i64 0,.int .i64 0,.string ⟨#[103,101,116,115]⟩,.int .i64 0,.int .i64 1,
  .int .i64 2,.int .i64 3,.int .i64 0,.int .i64 0,.int .i64 0,.int .i64 0,.string ⟨#[103,101,116,109]⟩,.int .i64 0,.int .i64 1,.int .i64 2,.int .i64 3,.int .i64 0,
  .int .i64 0,.int .i64 0,.int .i64 0,.string ⟨#[112,117,116]⟩,.int .i64 0,.int .i64 1,.int .i64 2,.int .i64 4,.int .i64 8,.int .i64 9,.int .i64 10,.int .i64 0,
  .string ⟨#[100,111,110,101]⟩,.int .i64 1,.int .i64 1,.int .i64 2,.int .i64 0,.int .i64 0,.int .i64 0,.int .i64 0,.int .i64 0,.string ⟨#[114,101,112,108,121]⟩,
  .int .i64 1,.int .i64 1,.int .i64 2,.int .i64 5,.int .i64 8,.int .i64 9,.int .i64 10,.int .i64 11,.string ⟨#[119,97,108,107]⟩,.int .i64 0,.int .i64 1,.int .i64 12,
  .int .i64 0,.int .i64 0,.int .i64 0,.int .i64 0,.int .i64 0,.string ⟨#[100,114,111,112,112,101,100]⟩,.int .i64 1,.int .i64 1,.int .i64 13,.int .i64 0,.int .i64 0,
  .int .i64 0,.int .i64 0,.int .i64 0,.string ⟨#[103,114,97,110,116]⟩,.int .i64 2,.int .i64 1,.int .i64 2,.int .i64 4,.int .i64 6,.int .i64 8,.int .i64 9,.int .i64 0,
  .string ⟨#[110,97,99,107]⟩,.int .i64 2,.int .i64 1,.int .i64 2,.int .i64 11,.int .i64 0,.int .i64 0,.int .i64 0,.int .i64 0,.string ⟨#[112,117,116,97,99,107]⟩,
  .int .i64 2,.int .i64 1,.int .i64 2,.int .i64 0,.int .i64 0,.int .i64 0,.int .i64 0,.int .i64 0,.string ⟨#[112,114,111,98,101]⟩,.int .i64 3,.int .i64 1,.int .i64 2,
  .int .i64 7,.int .i64 0,.int .i64 0,.int .i64 0,.int .i64 0,.string ⟨#[119,97,108,107,101,100]⟩,.int .i64 2,.int .i64 1,.int .i64 8,.int .i64 9,.int .i64 12,
  .int .i64 0,.int .i64 0,.int .i64 0,.string ⟨#[100,114,111,112]⟩,.int .i64 3,.int .i64 1,.int .i64 13,.int .i64 0,.int .i64 0,.int .i64 0,.int .i64 0,.int .i64 0]
def aHl:EU:=[
 .string ⟨#[73]⟩,.bool false,.bool false,.bool false,.bool false,.int .i64 0,.int .i64 0,.int .i64 0,.string ⟨#[83]⟩,.bool true,.bool false,.bool false,.bool false,
  .int .i64 0,.int .i64 1,.int .i64 0,.string ⟨#[69]⟩,.bool true,.bool true,.bool false,.bool true,.int .i64 4,.int .i64 1,.int .i64 0,.string ⟨#[79]⟩,.bool true,
  .bool false,.bool true,.bool true,.int .i64 0,.int .i64 3,.int .i64 0,.string ⟨#[77]⟩,.bool true,.bool true,.bool true,.bool true,.int .i64 4,.int .i64 3,.int .i64 0]
def glM (a:TypeId) (z0:Nat×Nat) (b:TypeId) (d:Nat×Nat) (e2:TypeId) (e:Nat×Nat) (c:TypeId) (z3:Nat×Nat):Nat->II:=fun i=>
 if i=0 then some (.cells iF a z0 true) else if i=1 then some (.cells xT b d true) else if i=2 then some (.cells aK4 e2 e true) else if i=3 then some (.cells aHl c z3 true) else none
end Go.Proofs.Z
namespace Go.Proofs
open Go.Shelf
def Tryz.Ww:Go.Shelf.Ren:=⟨fun|7=>56|10=>90|n=>n,fun|23=>138|26=>3|3=>143|28=>86|0=>0|27=>85|33=>43|4=>4|n=>n,fun|n=>n⟩
def Tryz.aWq:Go.Proofs.SlLaysZI.n7 Tryz.prog Tryz.Ww:={
 mixed:=FD
 f7:=⟨Tryz.f56.name,FC,Tryz.func56.trans<|l6 some FD⟩
 f10:=⟨Tryz.f90.name,FC,Tryz.func90.trans<|l6 some FD⟩
 t0:=Tryz.underlying0
 a0:=Tryz.isAgg0
 z0:=Tryz.sizeOf0
 v0:=Tryz.zeroValue0
 t4:=Tryz.underlying4
 a4:=Tryz.isAgg4
 z4:=Tryz.sizeOf4
 v4:=Tryz.zeroValue4
 t23:=Tryz.underlying138
 a23:=Tryz.isAgg138
 z23:=Tryz.sizeOf138
 v23:=Tryz.zeroValue138
 t26:=Tryz.underlying3
 a26:=Tryz.isAgg3
 z26:=Tryz.sizeOf3
 v26:=Tryz.zeroValue3
 t27:=Tryz.underlying85
 a27:=Tryz.isAgg85
 z27:=Tryz.sizeOf85
 v27:=Tryz.zeroValue85
 t28:=Tryz.underlying86
 a28:=Tryz.isAgg86
 z28:=Tryz.sizeOf86
 v28:=Tryz.zeroValue86
 t33:=Tryz.underlying43
 a33:=Tryz.isAgg43
 z33:=Tryz.sizeOf43
 v33:=Tryz.zeroValue43}
def Tryz.Pj:Go.Shelf.Ren:=⟨fun|6=>55|8=>88|9=>89|11=>120|13=>122|12=>121|23=>186|24=>187|14=>177|15=>178|16=>179|17=>180|18=>181|19=>182|20=>183|21=>184|22=>185|25=>224|26=>225|27=>226|28=>227|29=>228|30=>229|31=>253|n=>n,fun|26=>3|28=>86|24=>25|0=>0|3=>3|37=>271|48=>320|50=>322|4=>4|40=>314|39=>313|45=>33|5=>5|9=>9|51=>360|55=>188|57=>382|58=>383|33=>43|n=>n,fun|n=>n⟩
def Tryz.aMj:Go.Proofs.SlLaysZI.n6 Tryz.prog Tryz.Pj:={
 mixed:=FD
 f6:=⟨Tryz.f55.name,FC,Tryz.func55.trans<|l6 some FD⟩
 f8:=⟨Tryz.f88.name,FC,Tryz.func88.trans<|l6 some FD⟩
 f11:=⟨Tryz.f120.name,FC,Tryz.func120.trans<|l6 some FD⟩
 t0:=Tryz.underlying0
 a0:=Tryz.isAgg0
 z0:=Tryz.sizeOf0
 v0:=Tryz.zeroValue0
 t24:=Tryz.underlying25
 a24:=Tryz.isAgg25
 z24:=Tryz.sizeOf25
 v24:=Tryz.zeroValue25
 t26:=Tryz.underlying3
 a26:=Tryz.isAgg3
 z26:=Tryz.sizeOf3
 v26:=Tryz.zeroValue3
 t28:=Tryz.underlying86
 a28:=Tryz.isAgg86
 z28:=Tryz.sizeOf86
 v28:=Tryz.zeroValue86
 i26:=by kernel_rfl}
def Tryz.aC0:Go.Shelf.Ren:=⟨fun|5=>89|8=>122|7=>121|19=>186|20=>187|10=>177|11=>178|12=>179|13=>180|14=>181|15=>182|16=>183|17=>184|18=>185|30=>224|31=>225|32=>226|33=>227|34=>228|35=>229|40=>253|n=>n,fun|23=>25|25=>3|3=>3|32=>271|22=>25|0=>0|44=>320|46=>322|4=>4|36=>314|35=>313|41=>33|5=>5|9=>9|53=>360|57=>188|63=>382|64=>383|n=>n,fun|n=>n⟩
def Tryz.aQ2:Go.Proofs.SlLaysM.n5 Tryz.prog Tryz.aC0:={
 mixed:=FD
 f5:=⟨Tryz.f89.name,FC,Tryz.func89.trans<|l6 some FD⟩
 f7:=⟨Tryz.f121.name,FC,Tryz.func121.trans<|l6 some FD⟩
 f8:=Tryz.func122.trans<|l6 some FD
 f10:=⟨Tryz.f177.name,FC,Tryz.func177.trans<|l6 some FD⟩
 f11:=⟨Tryz.f178.name,FC,Tryz.func178.trans<|l6 some FD⟩
 f12:=⟨Tryz.f179.name,FC,Tryz.func179.trans<|l6 some FD⟩
 f13:=⟨Tryz.f180.name,FC,Tryz.func180.trans<|l6 some FD⟩
 f14:=⟨Tryz.f181.name,FC,Tryz.func181.trans<|l6 some FD⟩
 f15:=⟨Tryz.f182.name,FC,Tryz.func182.trans<|l6 some FD⟩
 f16:=⟨Tryz.f183.name,FC,Tryz.func183.trans<|l6 some FD⟩
 f17:=⟨Tryz.f184.name,FC,Tryz.func184.trans<|l6 some FD⟩
 f18:=⟨Tryz.f185.name,FC,Tryz.func185.trans<|l6 some FD⟩
 f19:=Tryz.func186.trans<|l6 some FD
 f20:=Tryz.func187.trans<|l6 some FD
 f30:=⟨Tryz.f224.name,FC,Tryz.func224.trans<|l6 some FD⟩
 f31:=Tryz.func225.trans<|l6 some FD
 f32:=Tryz.func226.trans<|l6 some FD
 f33:=⟨Tryz.f227.name,FC,Tryz.func227.trans<|l6 some FD⟩
 f34:=⟨Tryz.f228.name,FC,Tryz.func228.trans<|l6 some FD⟩
 f35:=⟨Tryz.f229.name,FC,Tryz.func229.trans<|l6 some FD⟩
 f40:=⟨Tryz.f253.name,FC,Tryz.func253.trans<|l6 some FD⟩
 t0:=Tryz.underlying0
 a0:=Tryz.isAgg0
 z0:=Tryz.sizeOf0
 v0:=Tryz.zeroValue0
 t3:=Tryz.underlying3
 a3:=Tryz.isAgg3
 z3:=Tryz.sizeOf3
 v3:=Tryz.zeroValue3
 t4:=Tryz.underlying4
 a4:=Tryz.isAgg4
 z4:=Tryz.sizeOf4
 v4:=Tryz.zeroValue4
 t5:=Tryz.underlying5
 a5:=Tryz.isAgg5
 z5:=Tryz.sizeOf5
 v5:=Tryz.zeroValue5
 t9:=Tryz.underlying9
 a9:=Tryz.isAgg9
 z9:=Tryz.sizeOf9
 v9:=Tryz.zeroValue9
 t22:=Tryz.underlying25
 a22:=Tryz.isAgg25
 z22:=Tryz.sizeOf25
 v22:=Tryz.zeroValue25
 t23:=Tryz.underlying25
 a23:=Tryz.isAgg25
 z23:=Tryz.sizeOf25
 v23:=Tryz.zeroValue25
 t25:=Tryz.underlying3
 a25:=Tryz.isAgg3
 z25:=Tryz.sizeOf3
 v25:=Tryz.zeroValue3
 t32:=Tryz.underlying271
 a32:=Tryz.isAgg271
 z32:=Tryz.sizeOf271
 v32:=Tryz.zeroValue271
 t35:=Tryz.underlying313
 a35:=Tryz.isAgg313
 z35:=Tryz.sizeOf313
 v35:=Tryz.zeroValue313
 t36:=Tryz.underlying314
 a36:=Tryz.isAgg314
 z36:=Tryz.sizeOf314
 v36:=Tryz.zeroValue314
 t41:=Tryz.underlying33
 a41:=Tryz.isAgg33
 z41:=Tryz.sizeOf33
 v41:=Tryz.zeroValue33
 t44:=Tryz.underlying320
 a44:=Tryz.isAgg320
 z44:=Tryz.sizeOf320
 v44:=Tryz.zeroValue320
 t46:=Tryz.underlying322
 a46:=Tryz.isAgg322
 z46:=Tryz.sizeOf322
 v46:=Tryz.zeroValue322
 t53:=Tryz.underlying360
 a53:=Tryz.isAgg360
 z53:=Tryz.sizeOf360
 v53:=Tryz.zeroValue360
 t57:=Tryz.underlying188
 a57:=Tryz.isAgg188
 z57:=Tryz.sizeOf188
 v57:=Tryz.zeroValue188
 t63:=Tryz.underlying382
 a63:=Tryz.isAgg382
 z63:=Tryz.sizeOf382
 v63:=Tryz.zeroValue382
 t64:=Tryz.underlying383
 a64:=Tryz.isAgg383
 z64:=Tryz.sizeOf383
 v64:=Tryz.zeroValue383}
end Go.Proofs
variable {B:Nat} {w w':World} {i:EU}
namespace Go.Ab
open Go.RowKit Go.Maps
variable {P:Program} {ρ:nL} {h:AH}
theorem aEg (d:gB P B ρ h w) {o:vQ} {o':Obj} {g:Nat} {s:Nat×Nat} (hb:Ca P (C3 ρ h.next (g,s)) s o o') (a:Below w.heap.size w w') (x:w.heap.size<=g) (F:w'.heap[g]?=some o'):
  sE P B ρ h w (C3 ρ h.next (g,s)) (h.alloc o) w':=by
 have l:F1 ρ (C3 ρ h.next (g,s)):=F1.C3<|d.iT _<|b0 _
 have c:∀j,(h.alloc o).get j=if j=h.next then some o else h.get j:=fun j=>AH.Cu d.bn
 refine {ext:=l,inv:=?_,un:=?_,sQ:=?_,stay:=fun j G q=>FB,frame:=?_,range:=?_,base:=rfl,C8:=?_,next:=FF,size:=a.size,os:=a.os,out:=a.output,tape:=a.tape}
 .refine {yS:=?_,inj:=?_,low:=?_,old:=?_,iT:=?_,lZ:=?_,xS:=?_,size:=cO d.size a.size,bn:=ts d.bn}
  .intro i E m b s1 z;rw[c] at m;by_cases e:i=h.next
   .simp_all[bA1,cY]
   .rw[bA0 e] at m;rw[dH e] at z;have⟨o2,h2,h3⟩:=d.yS i E m b s1 z;exact⟨o2,(a.block b FB).trans h2,h3.mono l⟩
  .intro i j b A C f u gi p k r;rw[c] at gi p;by_cases e:i=h.next
   .by_cases n:j=h.next
    .rw[e,n]
    .rw[bA0 n] at p;rw[dH n] at r;have⟨oj,hoj⟩:=c7.1 p;have⟨o2,h2,_⟩:=d.yS j oj hoj b C r;grind[cY,Array.getElem?_eq_some_iff]
   .rw[bA0 e] at gi;rw[dH e] at k;by_cases n:j=h.next
    .have⟨oi,hoi⟩:=c7.1 gi;have⟨o2,h2,_⟩:=d.yS i oi hoi b A k;grind[cY,Array.getElem?_eq_some_iff]
    .rw[bA0 n] at p;rw[dH n] at r;exact d.inj i j b A C f u gi p k r
  .intro i b s1 f gi k;rw[c] at gi;by_cases e:i=h.next
   .subst e;rw[cY] at k;cases k;exact cO d.size x
   .rw[bA0 e] at gi;rw[dH e] at k;exact d.low i b s1 f gi k
  .intro i b s1 f k;rw[dH fun e=>by have:=d.bn;simp at f;omega] at k;exact d.old i b s1 f k
  .intro i q;simp at q;rw[dH FA];exact d.iT i FA
  .intro i q;simp at q;rw[c,aaa];exact d.lZ i FA
  .intro D v;exact l _ _<|d.xS D v
 .grind[dH]
 .grind
 .intro b t _;exact a.block b t
 .intro i b s1 f gi k y;rw[c] at gi;by_cases e:i=h.next
  .grind[cY]
  .rw[bA0 e] at gi;grind[dH]
 .intro i q;rw[c,bA0<|by have:=d.bn;omega]
theorem N7 (x:Int):∀l:EV,(Kl x l).Perm (x::l)
 |[]=>BQ _
 |y::l=>by
  rw[Kl];split;grind;exact((N7 x l).cons y).trans FB
def Ju:∀l:EV,(Aq l).Perm l
 |[]=>BQ _
 |x::l=>(N7 x<|Aq l).trans<|(Ju l).cons x
theorem Lx (x:Int):∀l:EV,l.Pairwise (·<=·)->(Kl x l).Pairwise (·<=·)
 |[],_=>by simp[Kl]
 |y::l,h=>by
  rw[Kl];split;grind[List.Pairwise.cons,Int.le_trans,List.rel_of_pairwise_cons];rename_i a;refine List.Pairwise.cons (fun z b=>?_)<|Lx x l h.of_cons;grind[N7,List.rel_of_pairwise_cons]
def Jh:∀l:EV,(Aq l).Pairwise (·<=·)
 |[]=>List.Pairwise.nil
 |x::l=>Lx x _<|Jh l
theorem qk {l d:EV} (h:d.Perm l):d.mergeSort (fun x y=>decide<|x<=y)=Aq l:=by
 have tr:∀a b c:Int,(fun x y=>decide _:Int->Int->Bool) a b=true->(fun x y=>decide _:Int->Int->Bool) b c=true->(fun x y=>decide _:Int->Int->Bool) a c=true:=fun a b c e f=>by simp only[y0] at*;exact Int.le_trans e f
 have to:∀a b:Int,((fun x y=>decide _:Int->Int->Bool) a b||(fun x y=>decide _:Int->Int->Bool) b a)=true:=fun a b=>by simp only[BZ,y0];exact Int.le_total a b
 exact List.Perm.eq_of_pairwise (le:=(·<=·)) FA ((List.pairwise_mergeSort tr to d).imp fun h=>FB) (Jh l)<|((List.mergeSort_perm d _).trans h).trans (Ju l).symm
theorem W2:∀{es:List (Value×Value×Nat)} {c:List MapEntry} {d:EV},qW ρ es c->Kx es=some d->c.map (·.key)=d.map encZ/\c.map (·.born)=es.map (·.2.2)
 |[],c,d,f,h=>by
  grind[Kx,qW]
 |(k,v,t)::es,c,d,f,h=>by
  unfold Kx at h;split at h;grind;rename_i n s q g e;cases e;simp[cg] at h;obtain⟨l,m,rfl⟩:=h;simp only[qW] at f;obtain⟨p,v2,r,i,o,j,rfl⟩:=f;simp[aR] at i;have⟨a,b⟩:=W2 j m;grind;cases h
theorem W4 {c:Nat}:∀{es:List (Value×Value×Nat)},H9 c es=true->(∀x∈es.map (·.2.2),x<c)/\(es.map (·.2.2)).Nodup
 |[],_=>FB
 |x::l,h=>by
  simp only[H9,ep] at h;obtain⟨⟨f,g⟩,i⟩:=h;have⟨a,b⟩:=W4 i;refine⟨fun y d=>?_,?_⟩;rcases eD.1 d with rfl|d;simpa [Nat.blt_eq] using f;exact a y d;refine CB.2 ⟨fun j=>?_,b⟩;have⟨y,d,e⟩:=eV.1 j;have:=ss.1 g y d;simp_all
theorem zc:∀{c:EV},Xi c=true->(∀x∈c,(Lit.int .i64 x).wf=true)/\c.Nodup
 |[],_=>FB
 |x::l,h=>by
  simp only[Xi,ep] at h;obtain⟨⟨e,f⟩,d⟩:=h;have⟨a,b⟩:=zc d;grind
theorem oe {f k:FuncId} (h3:P.underlying 3=some (.int .i64)) (σ:P.cellsOf 3=1)
  (sk:∀(c b nn:Nat) (U:DataW Unit) (R:Value->Option (DataW Unit×List MemPlace)) (w:World),c<w.heap.size->w.cell? ⟨c,0,none⟩=some (.map<|some b)->w.ownsMap P 3 R b nn U->Maps.size U<=maxLen->Maps.size U*8<=140737488355328->
   Calls P f #[.func (.func k) #[] #[.pointer<|some ⟨c,0,none⟩]] w fun e T=>∃(v:Value) (d:EV),e= .returned v/\d.Perm (intKeys U)/\
    T.ownsRow w.heap.size 3 1 v d.length ((d.mergeSort fun x y=>decide<|x<=y).map encZ)/\(v= .slice none 0 0↔d=[])/\Below w.heap.size w T)
  {c:Nat} {v:Value} {h':AH} (hF:Iu 3 c h=some (v,h')) (V:gB P B ρ h w) (ha:bV ρ [.func (.func k) ⟨[]⟩ ⟨[.pointer<|some ⟨c,0,none⟩]⟩] i):
  Calls P f ⟨i⟩ w fun e T=>∃ρ' v',e= .returned v'/\aR ρ' v v'/\sE P B ρ h w ρ' h' T:=by
 simp only[bV,aR,Lj,sG] at ha
 obtain⟨_,_,⟨_,⟨_⟩,⟨cs⟩,rfl,J,⟨_,_,⟨F,s,hr,rfl⟩,rfl,D⟩,rfl⟩,rfl,rfl⟩:=ha
 simp only at J D
 subst J D
 rw[Iu] at hF
 split at hF
 .rename_i r e fz γ;split at hF
  .rename_i es X ε;split at hF
   .rename_i z η;split at hF
    .rename_i o;simp only[ep] at o;obtain⟨⟨q,ο⟩,ζ⟩:=o;have q:=o0 q;obtain⟨oc,θ,c',rfl,C,χ,hex⟩:=V.yS c _ γ F s hr;obtain⟨φ,N,_⟩:=hex rfl;rw[N,l5] at C;simp only[hK,AQ,bV,aR] at C;obtain⟨_,_,⟨S,ms,μ,rfl⟩,rfl,π⟩:=C;obtain⟨om,ι,a,α,rfl⟩:=V.yS r _ ε S ms μ;have⟨hk1,hk2⟩:=W2 α η;have⟨st1,st2⟩:=W4 ο;have⟨ky1,ky2⟩:=zc ζ;have A:w.cell? ⟨F,0,none⟩=some (.map<|some S):=by
      have:c'[0]?=some (.map<|some S):=by
       rw[<-BA];have:=l6 (fun l=>l[0]?) π;simpa using this
      simp[World.cell?,θ,this]
     have Z:a.length=z.length:=by
      have:=l6 List.length hk1;simpa using this
     have hD:∀x∈a,∃n∈z,x.key= .int .i64 n:=fun x H=>by
      have:x.key∈z.map encZ:=by rw[<-hk1];exact FB
      grind
     let R:Value->Option (DataW Unit×List MemPlace):=fun _=>some (.lit<|.bool false,[])
     have κ:∀x∈a,∃n,x.key= .int .i64 n/\Go.WideElems.rd P 3 R x=some (.int .i64 n,.lit _):=fun x H=>by
      obtain⟨n,hn,e⟩:=hD x H;refine⟨n,e,?_⟩;have:=keyOf_int_mk h3<|ky1 n hn;unfold Go.WideElems.rd;rw[e,this];rfl
     have M:w.ownsMap P 3 R S a.length (.map<|((⟨a⟩:Array MapEntry).toList.map<|Go.WideElems.rg P 3 R).foldr DataW.insert []):=by
      refine⟨_,_,ι,⟨?_,⟨fun x H=>?_,?_,?_⟩,fun x H=>?_⟩,b0 _,rfl⟩;grind[maxLen];refine st1 _ ?_;grind;grind;grind;grind
     have j:(((⟨a⟩:Array MapEntry).toList.map<|Go.WideElems.rg P 3 R).foldr DataW.insert []).Perm (a.map _):=Go.WideShapes.sorted_perm _
     have K:(a.map<|Go.WideElems.rg P 3 R).map (fun p=>intOf p.1)=z:=by
      rw[BT];have h1:a.map ((fun p=>intOf p.1)∘Go.WideElems.rg P 3 R)=(a.map (·.key)).map fun v=>match v with|.int _ n=>n|_=>0:=by
       rw[BT];refine sz fun x H=>?_;have⟨n,e,hy⟩:=κ x H;show intOf _=_;rw[Go.WideElems.rg_of hy];simp[intOf,e]
      rw[h1,hk1,BT];conv=>rhs;rw[<-List.map_id z]
      rfl
     have E:∀d:EV,d.Perm (intKeys (.map _:DataW Unit))->d.Perm z:=fun d G=>by
      refine G.trans ?_;have:=j.map fun p=>intOf p.1;rwa [K] at this
     have ν:Maps.size (.map (((⟨a⟩:Array MapEntry).toList.map<|Go.WideElems.rg P 3 R).foldr DataW.insert []):DataW Unit)=z.length:=by
      show(((⟨a⟩:Array MapEntry).toList.map _).foldr DataW.insert []).length=_;rw[j.length_eq,js,Z]
     have Y:F<w.heap.size:=FB
     have hz:(⟨F,0+s.2,none⟩:Addr)=⟨F,0,none⟩:=by rw[N]
     rw[hz]
     refine(sk F S _ _ R w Y A M (by grind[maxLen]) FB).mono ?_
     rintro e' T ⟨u,d,rfl,G,t,L,m⟩
     have G:=E d G
     rw[qk G] at t
     have ξ:=((Ju z).trans G.symm).length_eq
     have hF:=Option.some.inj hF
     rw[xd] at hF
     split at hF
     .rename_i I;cases hF;have O:d=[]:=g6 FB;have:=L.2 O;subst this;exact⟨ρ,_,rfl,FK,Du V m⟩
     .rename_i I;cases hF;obtain⟨ψ,hh⟩:=t;rcases hh with⟨rfl,hz⟩|⟨g,W,cur,rfl,δ,β,υ,τ,D,Q⟩
      .grind
      .refine⟨C3 ρ h.next (g,(W - d.length,0)),_,rfl,?_,aEg V ⟨cur,rfl,?_,?_,FB⟩ m δ β⟩
       .grind[aR,cY]
       .rw[l5,js,ξ,<-EP d.length,Q];exact Ah _ (by
         have:∀l:EV,uO (l.map encZ)=true:=fun l=>by
          induction l with
          |nil=>rfl
          |cons x l ih=>simp_all[uO,gV,encZ]
         exact this _)
       grind
    .cases hF
   .cases hF
  .cases hF
 .cases hF
end Go.Ab
namespace Go.Proofs
open Go.RowKit Go.Maps Go.Sort Go.Shelf
def Tryz.aSn (m:Nat):AnyZI.SortsIn Tryz.prog Tryz.Pj Fence.wide m:=
 ⟨fun yS d a f W e b c=>callsIn_wide.2<|AnyM.slices_Sort_int Tryz.aQ2 yS d a f W e b c,
   fun p a W=>callsIn_wide.2<|AnyM.slices_Sort_int_none Tryz.aQ2 p a W⟩
def Tryz.tz {H:Type} (c b k:Nat) (d:DataW H) (R:Value->Option (DataW H×List MemPlace)) (w:World) (hc:c<w.heap.size) (m:w.cell? ⟨c,0,none⟩=some (.map<|some b)) (i:w.ownsMap Tryz.prog 3 R b k d) (g:Maps.size d<=maxLen) (a:Maps.size d*8<=140737488355328):
  Calls Tryz.prog 55 #[.func (.func 90) #[] #[.pointer<|some ⟨c,0,none⟩]] w fun e l=>∃(v:Value) (f:EV),e= .returned v/\f.Perm (intKeys d)/\
   l.ownsRow w.heap.size 3 1 v f.length ((f.mergeSort fun x y=>decide<|x<=y).map encZ)/\(v= .slice none 0 0↔f=[])/\Below w.heap.size w l:=by
 refine(callsIn_wide (n:=5)).1 ?_
 have j:SeqGives Fence.wide 2 Tryz.prog 90 #[.pointer<|some ⟨c,0,none⟩] encZ (fun f=>f.Perm<|intKeys d) (Maps.size d) w:=
  AnyZI.keys_gives (ρ:=Tryz.Ww) {Tryz.aWq with} Fence.wide _ trivial rfl FA c b k d _ hc m i
 exact AnyZI.sorted_in Tryz.aMj Fence.wide 5 trivial trivial trivial trivial rfl FA (Tryz.aSn _) (enters_of Tryz.func89 FD rfl) 90 #[.pointer<|some ⟨c,0,none⟩] trivial (enters_of Tryz.func90 FD rfl) _ _ g a _ j
end Go.Proofs
variable {l:EU}
namespace Go.Proofs.Z
open Go.Proofs.YtgfankkobgfhnaaGreatDoor
open Go.RowKit
theorem w6 (p q:Addr) (w:World):
  CallsD Tryz.prog 221 #[.pointer<|some p,.pointer<|some q] .returning w fun e c d=>e= .returned (.tuple #[])/\c= .returning/\d=w:=by
 refine callsD_of_wpS Tryz.func221 rfl fun a f b=>?_
 apply wpS_seq
 apply wpS_region
 simp[wpOpsS,go_sem,recoverD,b,Tryz.ntmps221,Exit.thenS]
 refine wpS_cond (t:=false) (by simp[Act.eval,Array.replicate]) ?_
 refine wpS_of_wp<|wp_skip ?_
 cases a
 simp_all [bodyPostS,results,Tryz.results221]
def aB3 (d:aKd w.heap.size ((w.alloc<|.cells #[.int .i64 0] 3).alloc<|.cells #[.bool false] 4) w') (n:Int) (b:Bool):
  w'.cell? ⟨w.heap.size,0,none⟩=some (.int .i64 0)/\w'.frozen? ⟨w.heap.size,0,none⟩=false/\
  (w'.setCell ⟨w.heap.size,0,none⟩<|.int .i64 n).cell? ⟨w.heap.size+1,0,none⟩=some (.bool false)/\(w'.setCell ⟨w.heap.size,0,none⟩<|.int .i64 n).frozen? ⟨w.heap.size+1,0,none⟩=false/\
  ((w'.setCell ⟨w.heap.size,0,none⟩<|.int .i64 n).setCell ⟨w.heap.size+1,0,none⟩<|.bool b).cell? ⟨w.heap.size,0,none⟩=some (.int .i64 n)/\
  ((w'.setCell ⟨w.heap.size,0,none⟩<|.int .i64 n).setCell ⟨w.heap.size+1,0,none⟩<|.bool b).cell? ⟨w.heap.size+1,0,none⟩=some (.bool b):=by
 have a:=(d.Yv _ (b0 _) FG).trans (by show((w.heap.push _).push _)[w.heap.size]?=_;rw[CJ,bA0 FF,CJ,bA1 rfl])
 have c:(w'.setCell ⟨w.heap.size,0,none⟩<|.int .i64 n).heap[w.heap.size+1]?=some (.cells #[.bool false] 4 (0,0)):=(Below.heap_setCell _ _ _ _ FF).trans<|(d.Yv _ FA FF).trans<|by show((w.heap.push _).push _)[w.heap.size+1]?=_;rw[CJ,bA1 FF]
 have e:((w'.setCell ⟨w.heap.size,0,none⟩<|.int .i64 n).setCell ⟨w.heap.size+1,0,none⟩<|.bool b).heap[w.heap.size]?=some (.cells #[.int .i64 n] 3 (0,0)):=(Below.heap_setCell _ _ _ _ FF).trans<|one_setCell a
 exact⟨by simp[World.cell?,a],by simp[World.frozen?,a],by simp[World.cell?,c],by simp[World.frozen?,c],by simp[World.cell?,e],by simp[World.cell?,one_setCell c]⟩
set_option maxRecDepth 100000 in
def rh (v x l:Value) (w:World) (S:World->Prop) (n:Int) (b:Bool) (hc:Calls Tryz.prog 277 #[v,x,l] ((w.alloc<|.cells #[.int .i64 0] 3).alloc<|.cells #[.bool false] 4) fun e a=>e= .returned (.tuple #[.int .i64 n,.bool b])/\aKd w.heap.size ((w.alloc<|.cells #[.int .i64 0] 3).alloc<|.cells #[.bool false] 4) a/\S a):
  Calls Tryz.prog 165 #[.iface 257 v,x,l] w fun e a=>e= .returned (.tuple #[.int .i64 n,.bool b])/\∃g,S g/\aRr w.heap.size (w.heap.size+2) g a:=by
 have o:∀(d:Fn) (first c:EZ) (w:World),(Instr.makeFunc d first c).run Tryz.prog w= .ok (.func d first c) w:=fun _ _ _ _=>rfl
 have r:∀w:World,(method 507 257 v "May").run Tryz.prog w= .ok (277,v) w:=fun _=>FD
 go_enter_defers Tryz.func165,Tryz.ntmps165
 go_wp2_with (go_at_call 277;refine hc.mono ?_;rintro e a ⟨rfl,m,k⟩;obtain⟨q,t,c2,u,j,c5⟩:=aB3 m n b)
 refine leaves_cons (f:=221) (args:= #[.pointer<|some ⟨w.heap.size,0,none⟩,.pointer<|some ⟨w.heap.size+1,0,none⟩]) FF (by simp[go_sem]) ?_
 refine(w6 ⟨w.heap.size,0,none⟩ ⟨w.heap.size+1,0,none⟩ _).mono ?_
 rintro e s p ⟨rfl,rfl,rfl⟩
 simp[Leaves,settle,results,Tryz.results165,go_sem,j,c5]
 refine⟨a,k,⟨fun i _ h=>?_,?_,rfl,rfl,rfl⟩⟩
 .rw[Below.heap_setCell _ _ _ _ FG,Below.heap_setCell _ _ _ _ FG]
 .simp
def Gl (w:World):Prop:=(∃e z,w.heap[0]?=some (.cells ⟨iF⟩ e z))/\(∃e z,w.heap[1]?=some (.cells ⟨xT⟩ e z))/\(∃e z,w.heap[2]?=some (.cells ⟨aK4⟩ e z))/\(∃e z,w.heap[3]?=some (.cells ⟨aHl⟩ e z))
def aWw {c d e2 f:TypeId} {z0 j k z3:Nat×Nat} (m:w.heap[0]?=some (.cells ⟨iF⟩ c z0)) (n:w.heap[1]?=some (.cells ⟨xT⟩ d j)) (p:w.heap[2]?=some (.cells ⟨aK4⟩ e2 k)) (q:w.heap[3]?=some (.cells ⟨aHl⟩ f z3)):aUr Pr 4 (glM c z0 d j e2 k f z3) w:=by
 have plain:∀(l:EU) (e:TypeId) (z:Nat×Nat) (b:Nat),uO l=true->w.heap[b]?=some (.cells ⟨l⟩ e z)->∃g,w.heap[b]?=some g/\∀ρ,Ca Pr ρ (0,0) (.cells l e z true) g:=fun l e z b r h=>
  ⟨_,h,fun ρ=>⟨⟨l⟩,rfl,by rw[l5,e6 FF];exact Ah _ r,FF,fun _=>⟨rfl,rfl,rfl⟩⟩⟩
 intro i o s a;have:i=0\/i=1\/i=2\/i=3:=FA
 rcases this with rfl|rfl|rfl|rfl;cases a;exact plain _ _ _ 0 HN m;cases a;exact plain _ _ _ 1 HN n;cases a;exact plain _ _ _ 2 HN p;cases a;exact plain _ _ _ 3 HN q
def aL8 (hB:4<=B) (h:Below B w w'):Gl w->Gl w':=fun⟨⟨a,z0,d⟩,⟨b,i,e⟩,⟨e2,j,f⟩,⟨c,z3,g⟩⟩=>
 ⟨⟨a,z0,(h.block 0 FA).trans d⟩,⟨b,i,(h.block 1 FA).trans e⟩,⟨e2,j,(h.block 2 FA).trans f⟩,⟨c,z3,(h.block 3 FA).trans g⟩⟩
def aTz:Pr.underlying 3=some (.int .i64):=FD
def aRu:Pr.cellsOf 3=1:=FD
noncomputable def aXt (B:Nat) (hB:4<=B):Vz Pr B K0 where
 G:=Gl
 Yv:=fun w K h=>aL8 hB h
 call:=fun f e v w d=>by
  unfold K0 at d;split at d<;>cases d
 fwd:=fun f e g H d ρ i w k J=>by
  unfold K0 at d;split at d;cases d;cases d;obtain⟨_,_,m,⟨q,_,D,⟨o,_,C,rfl,rfl⟩,rfl⟩,rfl⟩:=k;obtain⟨p,m,rfl⟩:=m;refine⟨[p,q,o],(w.alloc<|.cells #[.int .i64 0] 3).alloc<|.cells #[.bool false] 4,bV.cons m<|bV.cons D<|bV.cons C rfl,((Below.refl _ _).alloc (b0 _) _).alloc FF _,fun a S j z=>?_⟩;unfold Wt at j;split at j;rename_i n b;have l:((w.alloc<|.cells #[.int .i64 0] 3).alloc<|.cells #[.bool false] 4).heap.size=w.heap.size+2:=FF
  rw[l];exact rh p q o w S n b z;cases j;cases d
 pn:=fun f e F d h v I hF ρ w i A _ k=>by
  unfold K0 at d;split at d;cases d;exact oe aTz aRu (fun c b E r R w s t u x y=>Tryz.tz c b E r R w s t u x y) hF A k;cases d;cases d
def aNv (a:Gl w):4<=w.heap.size:=by
 obtain⟨_,_,_,⟨e,z,h⟩⟩:=a;exact(hY.1 h).1
def Ve:ownKnob Tryz.prog.godebug=none:=FD
def aAn:laidOutB Tryz.prog=true:=FD
def g0:Tryz.prog.globalNamed "donjon/place.limits"=some 0:=FD
def g1:Tryz.prog.globalNamed "donjon/isa.ops"=some 1:=FD
def g2:Tryz.prog.globalNamed "donjon/note.kinds"=some 2:=FD
def g3:Tryz.prog.globalNamed "donjon/moesi.rows"=some 3:=FD
def aV0 {W:World} {l:List (String×DataW Unit)} (a:(l.all fun x=>x.2.handleName?.isNone)=true) (h:laidMetH Tryz.prog l W) (j:("donjon/place.limits",Rows.laid_donjon_place_limits)∈l) (k:("donjon/isa.ops",Rows.laid_donjon_isa_ops)∈l)
  (m:("donjon/note.kinds",Rows.laid_donjon_note_kinds)∈l) (n:("donjon/moesi.rows",Rows.laid_donjon_moesi_rows)∈l):Gl W:=by
 obtain⟨b,z0,e⟩:=El (l:=iF) 8 a h j g0 (t:=217) FD FD
 obtain⟨c,o,f⟩:=El (l:=xT) 8 a h k g1 (t:=326) FD FD
 obtain⟨e2,p,g⟩:=El (l:=aK4) 8 a h m g2 (t:=357) FD FD
 obtain⟨d,z3,i⟩:=El (l:=aHl) 8 a h n g3 (t:=376) FD FD
 exact⟨⟨b,z0,e⟩,⟨c,o,f⟩,⟨e2,p,g⟩,⟨d,z3,i⟩⟩
def aTi:yY Tryz.prog 8 56=some [some .i64,some .i64,some .i64,some .i64]:=FD
def aVt (j:rL [some .i64,some .i64,some .i64,some .i64] l):∃a b c d:Int,l=[I a,I b,I c,I d]:=by
 obtain⟨a,l1,e,k⟩:=lQ j;obtain⟨b,p,e2,m⟩:=lQ k;obtain⟨c,l3,f,n⟩:=lQ m;obtain⟨d,q,g,o⟩:=lQ n;have i:=Mt o;subst i g f e2 e;exact⟨a,b,c,d,rfl⟩
end Go.Proofs.Z
