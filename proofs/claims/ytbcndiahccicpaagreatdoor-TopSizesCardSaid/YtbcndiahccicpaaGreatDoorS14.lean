/- A part of the proof. -/
import Derived.Test.YtbcndiahccicpaaGreatDoorS5
import Derived.Test.YtbcndiahccicpaaGreatDoorS7
import Derived.Shelf.SlIterI.Nil
import Derived.Shelf.SortM.Plain
import Derived.Shelf.SortM.SortNone
import Derived.Ground.GgzProg
import Derived.Ground.SlgmProg
import Derived.Test.YtbcndiahccicpaaGreatDoorChecked
import Derived.Test.YtbcndiahccicpaaGreatDoorS4
import Derived.Maps.Own
import Derived.Maps.Keyed
import Derived.Maps.Range
import Derived.Lib.SlKeysI
import Derived.Tactics
import Derived.Tactics2
import Derived.Defers
import Derived.Recover
import Derived.Laws.Pointers
import Derived.OneCell
import Derived.Below
import Derived.Test.YtbcndiahccicpaaGreatDoorTie
import Derived.Test.YtbcndiahccicpaaGreatDoorCards
import Derived.LaidMore
import Derived.SevenTiedAt
set_option linter.all false
set_option maxRecDepth 100000
open Go Go.Ab
namespace Go.Proofs.Z
open Go.Proofs.YtbcndiahccicpaaGreatDoor
def iM:FJ:=[
 .int .i64 4,.int .i64 16,.int .i64 8,.int .i64 4,.int .i64 16,.int .i64 8,.int .i64 4]
def vV:FJ:=[
 .string ⟨#[]⟩,.int .i64 0,.int .i64 0,.int .i64 0,.string ⟨#[115,101,116]⟩,.int .i64 1,.int .i64 2,.int .i64 0,.string ⟨#[97,100,100]⟩,.int .i64 1,.int .i64 1,
  .int .i64 1,.string ⟨#[108,111,97,100]⟩,.int .i64 1,.int .i64 1,.int .i64 0,.string ⟨#[115,116,111,114,101]⟩,.int .i64 1,.int .i64 1,.int .i64 0,
  .string ⟨#[115,119,97,112]⟩,.int .i64 1,.int .i64 1,.int .i64 0,.string ⟨#[102,101,110,99,101]⟩,.int .i64 0,.int .i64 0,.int .i64 0,
  .string ⟨#[119,111,114,108,100]⟩,.int .i64 3,.int .i64 0,.int .i64 0,.string ⟨#[99,97,108,108]⟩,.int .i64 4,.int .i64 1,.int .i64 1,.string ⟨#[106,117,109,112]⟩,
  .int .i64 5,.int .i64 0,.int .i64 0,.string ⟨#[122,101,114,111]⟩,.int .i64 1,.int .i64 5,.int .i64 0,.string ⟨#[104,97,108,116]⟩,.int .i64 0,.int .i64 0,.int .i64 0]
def aLs:FJ:=[
 .string ⟨#[]⟩,.int .i64 0,.int .i64 0,.int .i64 0,.int .i64 0,.int .i64 0,.int .i64 0,.int .i64 0,.int .i64 0,.string ⟨#[103,101,116,115]⟩,.int .i64 0,.int .i64 1,
  .int .i64 2,.int .i64 3,.int .i64 0,.int .i64 0,.int .i64 0,.int .i64 0,.string ⟨#[103,101,116,109]⟩,.int .i64 0,.int .i64 1,.int .i64 2,.int .i64 3,.int .i64 0,
  .int .i64 0,.int .i64 0,.int .i64 0,.string ⟨#[112,117,116]⟩,.int .i64 0,.int .i64 1,.int .i64 2,.int .i64 4,.int .i64 8,.int .i64 9,.int .i64 10,.int .i64 0,
  .string ⟨#[100,111,110,101]⟩,.int .i64 1,.int .i64 1,.int .i64 2,.int .i64 0,.int .i64 0,.int .i64 0,.int .i64 0,.int .i64 0,.string ⟨#[114,101,112,108,121]⟩,
  .int .i64 1,.int .i64 1,.int .i64 2,.int .i64 5,.int .i64 8,.int .i64 9,.int .i64 10,.int .i64 11,.string ⟨#[119,97,108,107]⟩,.int .i64 0,.int .i64 1,.int .i64 12,
  .int .i64 0,.int .i64 0,.int .i64 0,.int .i64 0,.int .i64 0,.string ⟨#[100,114,111,112,112,101,100]⟩,.int .i64 1,.int .i64 1,.int .i64 13,.int .i64 0,.int .i64 0,
  .int .i64 0,.int .i64 0,.int .i64 0,.string ⟨#[103,114,97,110,116]⟩,.int .i64 2,.int .i64 1,.int .i64 2,.int .i64 4,.int .i64 6,.int .i64 8,.int .i64 9,.int .i64 0,
  .string ⟨#[110,97,99,107]⟩,.int .i64 2,.int .i64 1,.int .i64 2,.int .i64 11,.int .i64 0,.int .i64 0,.int .i64 0,.int .i64 0,.string ⟨#[112,117,116,97,99,107]⟩,
  .int .i64 2,.int .i64 1,.int .i64 2,.int .i64 0,.int .i64 0,.int .i64 0,.int .i64 0,.int .i64 0,.string ⟨#[112,114,111,98,101]⟩,.int .i64 3,.int .i64 1,.int .i64 2,
  .int .i64 7,.int .i64 0,.int .i64 0,.int .i64 0,.int .i64 0,.string ⟨#[119,97,108,107,101,100]⟩,.int .i64 2,.int .i64 1,.int .i64 8,.int .i64 9,.int .i64 12,
  .int .i64 0,.int .i64 0,.int .i64 0,.string ⟨#[100,114,111,112]⟩,.int .i64 3,.int .i64 1,.int .i64 13,.int .i64 0,.int .i64 0,.int .i64 0,.int .i64 0,.int .i64 0]
def af:FJ:=[
 .string ⟨#[73]⟩,.bool false,.bool false,.bool false,.bool false,.int .i64 0,.int .i64 0,.int .i64 0,.string ⟨#[83]⟩,.bool true,.bool false,.bool false,.bool false,
  .int .i64 0,.int .i64 1,.int .i64 0,.string ⟨#[69]⟩,.bool true,.bool true,.bool false,.bool true,.int .i64 4,.int .i64 1,.int .i64 0,.string ⟨#[79]⟩,.bool true,
  .bool false,.bool true,.bool true,.int .i64 0,.int .i64 3,.int .i64 0,.string ⟨#[77]⟩,.bool true,.bool true,.bool true,.bool true,.int .i64 4,.int .i64 3,.int .i64 0]
def glM (a:TypeId) (z0:Nat×Nat) (b:TypeId) (d:Nat×Nat) (e2:TypeId) (z2:Nat×Nat) (c:TypeId) (z3:Nat×Nat):Nat->JC:=fun i=>
 if i=0 then some (.cells iM a z0 true) else if i=1 then some (.cells vV b d true) else if i=3 then some (.cells aLs e2 z2 true) else if i=6 then some (.cells af c z3 true) else none
end Go.Proofs.Z
namespace Go.Proofs
open Go.Shelf
def Tryz.Xj:Go.Shelf.Ren:=⟨fun|7=>243|10=>306|n=>n,fun|23=>169|26=>3|3=>369|28=>317|0=>0|27=>316|33=>218|4=>4|n=>n,fun|n=>n⟩
def Tryz.aYt:Go.Proofs.SlLaysZI.n7 Tryz.prog Tryz.Xj:={
 mixed:=FU
 f7:=⟨Tryz.f243.name,FV,Tryz.func243.trans<|eV some FU⟩
 f10:=⟨Tryz.f306.name,FV,Tryz.func306.trans<|eV some FU⟩
 t0:=Tryz.underlying0
 a0:=Tryz.isAgg0
 z0:=Tryz.sizeOf0
 v0:=Tryz.zeroValue0
 t4:=Tryz.underlying4
 a4:=Tryz.isAgg4
 z4:=Tryz.sizeOf4
 v4:=Tryz.zeroValue4
 t23:=Tryz.underlying169
 a23:=Tryz.isAgg169
 z23:=Tryz.sizeOf169
 v23:=Tryz.zeroValue169
 t26:=Tryz.underlying3
 a26:=Tryz.isAgg3
 z26:=Tryz.sizeOf3
 v26:=Tryz.zeroValue3
 t27:=Tryz.underlying316
 a27:=Tryz.isAgg316
 z27:=Tryz.sizeOf316
 v27:=Tryz.zeroValue316
 t28:=Tryz.underlying317
 a28:=Tryz.isAgg317
 z28:=Tryz.sizeOf317
 v28:=Tryz.zeroValue317
 t33:=Tryz.underlying218
 a33:=Tryz.isAgg218
 z33:=Tryz.sizeOf218
 v33:=Tryz.zeroValue218}
def Tryz.Py:Go.Shelf.Ren:=⟨fun|6=>242|8=>304|9=>305|11=>336|13=>154|12=>337|23=>236|24=>237|14=>342|15=>343|16=>344|17=>345|18=>346|19=>347|20=>348|21=>349|22=>350|25=>351|26=>297|27=>298|28=>352|29=>353|30=>155|31=>354|n=>n,fun|26=>3|28=>317|24=>25|0=>0|3=>3|37=>330|48=>396|50=>398|4=>4|40=>390|39=>389|45=>39|5=>5|9=>9|51=>451|55=>206|57=>481|58=>482|33=>218|n=>n,fun|n=>n⟩
def Tryz.aOb:Go.Proofs.SlLaysZI.n6 Tryz.prog Tryz.Py:={
 mixed:=FU
 f6:=⟨Tryz.f242.name,FV,Tryz.func242.trans<|eV some FU⟩
 f8:=⟨Tryz.f304.name,FV,Tryz.func304.trans<|eV some FU⟩
 f11:=⟨Tryz.f336.name,FV,Tryz.func336.trans<|eV some FU⟩
 t0:=Tryz.underlying0
 a0:=Tryz.isAgg0
 z0:=Tryz.sizeOf0
 v0:=Tryz.zeroValue0
 t24:=Tryz.underlying25
 a24:=Tryz.isAgg25
 z24:=Tryz.sizeOf25
 v24:=Tryz.zeroValue25
 t26:=Tryz.underlying3
 a26:=Tryz.isAgg3
 z26:=Tryz.sizeOf3
 v26:=Tryz.zeroValue3
 t28:=Tryz.underlying317
 a28:=Tryz.isAgg317
 z28:=Tryz.sizeOf317
 v28:=Tryz.zeroValue317
 i26:=by kernel_rfl}
def Tryz.aDb:Go.Shelf.Ren:=⟨fun|5=>305|8=>154|7=>337|19=>236|20=>237|10=>342|11=>343|12=>344|13=>345|14=>346|15=>347|16=>348|17=>349|18=>350|30=>351|31=>297|32=>298|33=>352|34=>353|35=>155|40=>354|n=>n,fun|23=>25|25=>3|3=>3|32=>330|22=>25|0=>0|44=>396|46=>398|4=>4|36=>390|35=>389|41=>39|5=>5|9=>9|53=>451|57=>206|63=>481|64=>482|n=>n,fun|n=>n⟩
def Tryz.aRz:Go.Proofs.SlLaysM.n5 Tryz.prog Tryz.aDb:={
 mixed:=FU
 f5:=⟨Tryz.f305.name,FV,Tryz.func305.trans<|eV some FU⟩
 f7:=⟨Tryz.f337.name,FV,Tryz.func337.trans<|eV some FU⟩
 f8:=Tryz.func154.trans<|eV some FU
 f10:=⟨Tryz.f342.name,FV,Tryz.func342.trans<|eV some FU⟩
 f11:=⟨Tryz.f343.name,FV,Tryz.func343.trans<|eV some FU⟩
 f12:=⟨Tryz.f344.name,FV,Tryz.func344.trans<|eV some FU⟩
 f13:=⟨Tryz.f345.name,FV,Tryz.func345.trans<|eV some FU⟩
 f14:=⟨Tryz.f346.name,FV,Tryz.func346.trans<|eV some FU⟩
 f15:=⟨Tryz.f347.name,FV,Tryz.func347.trans<|eV some FU⟩
 f16:=⟨Tryz.f348.name,FV,Tryz.func348.trans<|eV some FU⟩
 f17:=⟨Tryz.f349.name,FV,Tryz.func349.trans<|eV some FU⟩
 f18:=⟨Tryz.f350.name,FV,Tryz.func350.trans<|eV some FU⟩
 f19:=Tryz.func236.trans<|eV some FU
 f20:=Tryz.func237.trans<|eV some FU
 f30:=⟨Tryz.f351.name,FV,Tryz.func351.trans<|eV some FU⟩
 f31:=Tryz.func297.trans<|eV some FU
 f32:=Tryz.func298.trans<|eV some FU
 f33:=⟨Tryz.f352.name,FV,Tryz.func352.trans<|eV some FU⟩
 f34:=⟨Tryz.f353.name,FV,Tryz.func353.trans<|eV some FU⟩
 f35:=⟨Tryz.f155.name,FV,Tryz.func155.trans<|eV some FU⟩
 f40:=⟨Tryz.f354.name,FV,Tryz.func354.trans<|eV some FU⟩
 t0:=Tryz.underlying0
 a0:=Tryz.isAgg0
 z0:=Tryz.sizeOf0
 v0:=Tryz.zeroValue0
 t3:=Tryz.underlying3
 a3:=Tryz.isAgg3
 z3:=Tryz.sizeOf3
 v3:=Tryz.zeroValue3
 t4:=Tryz.underlying4
 a4:=Tryz.isAgg4
 z4:=Tryz.sizeOf4
 v4:=Tryz.zeroValue4
 t5:=Tryz.underlying5
 a5:=Tryz.isAgg5
 z5:=Tryz.sizeOf5
 v5:=Tryz.zeroValue5
 t9:=Tryz.underlying9
 a9:=Tryz.isAgg9
 z9:=Tryz.sizeOf9
 v9:=Tryz.zeroValue9
 t22:=Tryz.underlying25
 a22:=Tryz.isAgg25
 z22:=Tryz.sizeOf25
 v22:=Tryz.zeroValue25
 t23:=Tryz.underlying25
 a23:=Tryz.isAgg25
 z23:=Tryz.sizeOf25
 v23:=Tryz.zeroValue25
 t25:=Tryz.underlying3
 a25:=Tryz.isAgg3
 z25:=Tryz.sizeOf3
 v25:=Tryz.zeroValue3
 t32:=Tryz.underlying330
 a32:=Tryz.isAgg330
 z32:=Tryz.sizeOf330
 v32:=Tryz.zeroValue330
 t35:=Tryz.underlying389
 a35:=Tryz.isAgg389
 z35:=Tryz.sizeOf389
 v35:=Tryz.zeroValue389
 t36:=Tryz.underlying390
 a36:=Tryz.isAgg390
 z36:=Tryz.sizeOf390
 v36:=Tryz.zeroValue390
 t41:=Tryz.underlying39
 a41:=Tryz.isAgg39
 z41:=Tryz.sizeOf39
 v41:=Tryz.zeroValue39
 t44:=Tryz.underlying396
 a44:=Tryz.isAgg396
 z44:=Tryz.sizeOf396
 v44:=Tryz.zeroValue396
 t46:=Tryz.underlying398
 a46:=Tryz.isAgg398
 z46:=Tryz.sizeOf398
 v46:=Tryz.zeroValue398
 t53:=Tryz.underlying451
 a53:=Tryz.isAgg451
 z53:=Tryz.sizeOf451
 v53:=Tryz.zeroValue451
 t57:=Tryz.underlying206
 a57:=Tryz.isAgg206
 z57:=Tryz.sizeOf206
 v57:=Tryz.zeroValue206
 t63:=Tryz.underlying481
 a63:=Tryz.isAgg481
 z63:=Tryz.sizeOf481
 v63:=Tryz.zeroValue481
 t64:=Tryz.underlying482
 a64:=Tryz.isAgg482
 z64:=Tryz.sizeOf482
 v64:=Tryz.zeroValue482}
end Go.Proofs
variable {B:Nat} {w w':World} {i:FJ}
namespace Go.Ab
open Go.RowKit Go.Maps
variable {P:Program} {ρ:kX} {h:AH}
theorem aFt (d:fT P B ρ h w) {o:qU} {o':Obj} {g:Nat} {s:Nat×Nat} (hb:zG P (A8 ρ h.next (g,s)) s o o') (a:Below w.heap.size w w') (x:w.heap.size<=g) (F:w'.heap[g]?=some o'):
  pT P B ρ h w (A8 ρ h.next (g,s)) (h.alloc o) w':=by
 have l:Du ρ (A8 ρ h.next (g,s)):=Du.A8<|d.iD _<|bb _
 have c:∀j,(h.alloc o).get j=if j=h.next then some o else h.get j:=fun j=>AH.wQ d.bn
 refine {ext:=l,inv:=?_,un:=?_,rO:=?_,stay:=fun j G q=>FR,frame:=?_,range:=?_,base:=rfl,Bc:=?_,next:=FW,size:=a.size,os:=a.os,out:=a.output,tape:=a.tape}
 .refine {uE:=?_,inj:=?_,low:=?_,old:=?_,iD:=?_,kW:=?_,rR:=?_,size:=cL d.size a.size,bn:=u3 d.bn}
  .intro i E m b s1 z;rw[c] at m;by_cases e:i=h.next
   .simp_all[bD2,cK]
   .rw[bD1 e] at m;rw[cM e] at z;have⟨o2,h2,h3⟩:=d.uE i E m b s1 z;exact⟨o2,(a.block b FR).trans h2,h3.mono l⟩
  .intro i j b A C f u gi p k r;rw[c] at gi p;by_cases e:i=h.next
   .by_cases n:j=h.next
    .rw[e,n]
    .rw[bD1 n] at p;rw[cM n] at r;have⟨oj,hoj⟩:=c7.1 p;have⟨o2,h2,_⟩:=d.uE j oj hoj b C r;grind[cK,Array.getElem?_eq_some_iff]
   .rw[bD1 e] at gi;rw[cM e] at k;by_cases n:j=h.next
    .have⟨oi,hoi⟩:=c7.1 gi;have⟨o2,h2,_⟩:=d.uE i oi hoi b A k;grind[cK,Array.getElem?_eq_some_iff]
    .rw[bD1 n] at p;rw[cM n] at r;exact d.inj i j b A C f u gi p k r
  .intro i b s1 f gi k;rw[c] at gi;by_cases e:i=h.next
   .subst e;rw[cK] at k;cases k;exact cL d.size x
   .rw[bD1 e] at gi;rw[cM e] at k;exact d.low i b s1 f gi k
  .intro i b s1 f k;rw[cM fun e=>by have:=d.bn;simp at f;omega] at k;exact d.old i b s1 f k
  .intro i q;simp at q;rw[cM FQ];exact d.iD i FQ
  .intro i q;simp at q;rw[c,aaa];exact d.kW i FQ
  .intro D v;exact l _ _<|d.rR D v
 .grind[cM]
 .grind
 .intro b t _;exact a.block b t
 .intro i b s1 f gi k y;by_cases e:i=h.next
  .grind[cK]
  .grind[cM]
 .intro i q;rw[c,bD1<|by have:=d.bn;omega]
theorem Og (x:Int):∀l:FK,(Kt x l).Perm (x::l)
 |[]=>BU _
 |y::l=>by
  rw[Kt];split;grind;exact((Og x l).cons y).trans FR
def J1:∀l:FK,(Aw l).Perm l
 |[]=>BU _
 |x::l=>(Og x<|Aw l).trans<|(J1 l).cons x
theorem Me (x:Int):∀l:FK,l.Pairwise (·<=·)->(Kt x l).Pairwise (·<=·)
 |[],_=>by simp[Kt]
 |y::l,h=>by
  rw[Kt];split;grind[List.Pairwise.cons,Int.le_trans,List.rel_of_pairwise_cons];refine List.Pairwise.cons (fun z a=>?_)<|Me x l h.of_cons;grind[Og,List.rel_of_pairwise_cons]
def Jo:∀l:FK,(Aw l).Pairwise (·<=·)
 |[]=>List.Pairwise.nil
 |x::l=>Me x _<|Jo l
theorem sv {l d:FK} (h:d.Perm l):d.mergeSort (fun x y=>decide<|x<=y)=Aw l:=by
 exact List.Perm.eq_of_pairwise (le:=(·<=·)) FQ ((List.pairwise_mergeSort (fun a b c e f=>by simp only[AG] at*;exact Int.le_trans e f) (fun a b=>by simp only[AZ,AG];exact Int.le_total a b) d).imp fun h=>FR) (Jo l)<|((List.mergeSort_perm d _).trans h).trans (J1 l).symm
theorem Xp:∀{es:List (Value×Value×Nat)} {c:List MapEntry} {d:FK},rS ρ es c->K8 es=some d->c.map (·.key)=d.map encZ/\c.map (·.born)=es.map (·.2.2)
 |[],c,d,f,h=>by
  grind[K8,rS]
 |(k,v,t)::es,c,d,f,h=>by
  unfold K8 at h;split at h;grind;rename_i n s q g e;cases e;simp[ba] at h;obtain⟨l,m,rfl⟩:=h;obtain⟨p,v2,r,i,o,j,rfl⟩:=f;simp[bB] at i;have⟨a,b⟩:=Xp j m;grind;cases h
theorem Xr {c:Nat}:∀{es:List (Value×Value×Nat)},Ic c es=true->(∀x∈es.map (·.2.2),x<c)/\(es.map (·.2.2)).Nodup
 |[],_=>FR
 |x::l,h=>by
  simp only[Ic,dn] at h;obtain⟨⟨f,g⟩,i⟩:=h;have⟨a,b⟩:=Xr i;refine⟨fun y d=>?_,?_⟩;rcases e6.1 d with rfl|d;simpa [FG] using f;exact a y d;refine BA.2 ⟨fun j=>?_,b⟩;have⟨y,d,e⟩:=gk.1 j;have:=ux.1 g y d;simp_all
theorem aAd:∀{c:FK},X8 c=true->(∀x∈c,(Lit.int .i64 x).wf=true)/\c.Nodup
 |[],_=>FR
 |x::l,h=>by
  simp only[X8,dn] at h;obtain⟨⟨e,f⟩,d⟩:=h;have⟨a,b⟩:=aAd d;grind
theorem qu {f k:FuncId} (h3:P.underlying 3=some (.int .i64)) (ο:P.cellsOf 3=1)
  (sk:∀(c b nn:Nat) (S:DataW Unit) (R:Value->Option (DataW Unit×List MemPlace)) (w:World),c<w.heap.size->w.cell? ⟨c,0,none⟩=some (.map<|some b)->w.ownsMap P 3 R b nn S->Maps.size S<=maxLen->Maps.size S*8<=140737488355328->
   Calls P f #[.func (.func k) #[] #[.pointer<|some ⟨c,0,none⟩]] w fun e Q=>∃(v:Value) (d:FK),e= .returned v/\d.Perm (intKeys S)/\
    Q.ownsRow w.heap.size 3 1 v d.length ((d.mergeSort fun x y=>decide<|x<=y).map encZ)/\(v= .slice none 0 0↔d=[])/\Below w.heap.size w Q)
  {c:Nat} {v:Value} {h':AH} (hF:Ix 3 c h=some (v,h')) (T:fT P B ρ h w) (ha:bP ρ [.func (.func k) ⟨[]⟩ ⟨[.pointer<|some ⟨c,0,none⟩]⟩] i):
  Calls P f ⟨i⟩ w fun e Q=>∃ρ' v',e= .returned v'/\bB ρ' v v'/\pT P B ρ h w ρ' h' Q:=by
 simp only[bP,bB,V7,vE] at ha
 obtain⟨_,_,⟨_,⟨_⟩,⟨cs⟩,rfl,I,⟨_,_,⟨F,s,hr,rfl⟩,rfl,D⟩,rfl⟩,rfl,rfl⟩:=ha
 simp only at I D
 subst I D
 rw[Ix] at hF
 split at hF
 .rename_i r e fz α;split at hF
  .rename_i es V γ;split at hF
   .rename_i z ε;split at hF
    .rename_i o;simp only[dn] at o;obtain⟨⟨q,ν⟩,δ⟩:=o;have q:=oV q;obtain⟨oc,ζ,c',rfl,C,υ,hex⟩:=T.uE c _ α F s hr;obtain⟨τ,M,_⟩:=hex rfl;rw[M,ll] at C;simp only[js,AY,bP,bB] at C;obtain⟨_,_,⟨O,ms,ι,rfl⟩,rfl,ξ⟩:=C;obtain⟨om,η,a,Y,rfl⟩:=T.uE r _ γ O ms ι;have⟨hk1,hk2⟩:=Xp Y ε;have⟨st1,st2⟩:=Xr ν;have⟨ky1,ky2⟩:=aAd δ;have A:w.cell? ⟨F,0,none⟩=some (.map<|some O):=by
      have:c'[0]?=some (.map<|some O):=by
       rw[<-BM];have:=eV (fun l=>l[0]?) ξ;simpa using this
      simp[World.cell?,ζ,this]
     have X:a.length=z.length:=by
      have:=eV List.length hk1;simpa using this
     have hD:∀x∈a,∃n∈z,x.key= .int .i64 n:=fun x H=>by
      have:x.key∈z.map encZ:=by rw[<-hk1];exact FR
      grind
     let R:Value->Option (DataW Unit×List MemPlace):=fun _=>some (.lit<|.bool false,[])
     have θ:∀x∈a,∃n,x.key= .int .i64 n/\Go.WideElems.rd P 3 R x=some (.int .i64 n,.lit _):=fun x H=>by
      obtain⟨n,hn,e⟩:=hD x H;refine⟨n,e,?_⟩;have:=keyOf_int_mk h3<|ky1 n hn;unfold Go.WideElems.rd;rw[e,this];rfl
     have L:w.ownsMap P 3 R O a.length (.map<|((⟨a⟩:Array MapEntry).toList.map<|Go.WideElems.rg P 3 R).foldr DataW.insert []):=by
      refine⟨_,_,η,⟨?_,⟨fun x H=>?_,?_,?_⟩,fun x H=>?_⟩,bb _,rfl⟩;grind[maxLen];refine st1 _ ?_;grind;grind;grind;grind
     have j:(((⟨a⟩:Array MapEntry).toList.map<|Go.WideElems.rg P 3 R).foldr DataW.insert []).Perm (a.map _):=Go.WideShapes.sorted_perm _
     have J:(a.map<|Go.WideElems.rg P 3 R).map (fun p=>intOf p.1)=z:=by
      rw[CB];have h1:a.map ((fun p=>intOf p.1)∘Go.WideElems.rg P 3 R)=(a.map (·.key)).map fun v=>match v with|.int _ n=>n|_=>0:=by
       rw[CB];refine v7 fun x H=>?_;have⟨n,e,hy⟩:=θ x H;show intOf _=_;rw[Go.WideElems.rg_of hy];simp[intOf,e]
      rw[h1,hk1,CB];conv=>rhs;rw[<-List.map_id z]
      rfl
     have E:∀d:FK,d.Perm (intKeys (.map _:DataW Unit))->d.Perm z:=fun d G=>by
      refine G.trans ?_;have:=j.map fun p=>intOf p.1;rwa [J] at this
     have κ:Maps.size (.map (((⟨a⟩:Array MapEntry).toList.map<|Go.WideElems.rg P 3 R).foldr DataW.insert []):DataW Unit)=z.length:=by
      show(((⟨a⟩:Array MapEntry).toList.map _).foldr DataW.insert []).length=_;rw[j.length_eq,k6,X]
     have W:F<w.heap.size:=FR
     have hz:(⟨F,0+s.2,none⟩:Addr)=⟨F,0,none⟩:=by rw[M]
     rw[hz]
     refine(sk F O _ _ R w W A L (by grind[maxLen]) FR).mono ?_
     rintro e' Q ⟨u,d,rfl,G,t,K,m⟩
     have G:=E d G
     rw[sv G] at t
     have μ:=((J1 z).trans G.symm).length_eq
     have hF:=Option.some.inj hF
     rw[yj] at hF
     split at hF
     .cases hF;have:=K.2<|hY FR;subst this;exact⟨ρ,_,rfl,GC,uH T m⟩
     .cases hF;obtain⟨φ,hh⟩:=t;rcases hh with⟨rfl,hz⟩|⟨g,U,cur,rfl,β,Z,σ,π,D,N⟩
      .grind
      .refine⟨A8 ρ h.next (g,(U - d.length,0)),_,rfl,?_,aFt T ⟨cur,rfl,?_,?_,FR⟩ m β Z⟩
       .grind[bB,cK]
       .rw[ll,k6,μ,<-FB d.length,N];exact Am _ (by
         have:∀l:FK,tB (l.map encZ)=true:=fun l=>by
          induction l with
          |nil=>rfl
          |cons x l ih=>simp_all[tB,jJ,encZ]
         exact this _)
       grind
    .cases hF
   .cases hF
  .cases hF
 .cases hF
end Go.Ab
namespace Go.Proofs
open Go.RowKit Go.Maps Go.Sort Go.Shelf
def Tryz.aUk (m:Nat):AnyZI.SortsIn Tryz.prog Tryz.Py Fence.wide m:=
 ⟨fun uE d a f W e b c=>callsIn_wide.2<|AnyM.slices_Sort_int Tryz.aRz uE d a f W e b c,
   fun p a W=>callsIn_wide.2<|AnyM.slices_Sort_int_none Tryz.aRz p a W⟩
def Tryz.vm {H:Type} (c b k:Nat) (d:DataW H) (R:Value->Option (DataW H×List MemPlace)) (w:World) (hc:c<w.heap.size) (m:w.cell? ⟨c,0,none⟩=some (.map<|some b)) (i:w.ownsMap Tryz.prog 3 R b k d) (g:Maps.size d<=maxLen) (a:Maps.size d*8<=140737488355328):
  Calls Tryz.prog 242 #[.func (.func 306) #[] #[.pointer<|some ⟨c,0,none⟩]] w fun e l=>∃(v:Value) (f:FK),e= .returned v/\f.Perm (intKeys d)/\
   l.ownsRow w.heap.size 3 1 v f.length ((f.mergeSort fun x y=>decide<|x<=y).map encZ)/\(v= .slice none 0 0↔f=[])/\Below w.heap.size w l:=by
 refine(callsIn_wide (n:=5)).1 ?_
 have j:SeqGives Fence.wide 2 Tryz.prog 306 #[.pointer<|some ⟨c,0,none⟩] encZ (fun f=>f.Perm<|intKeys d) (Maps.size d) w:=
  AnyZI.keys_gives (ρ:=Tryz.Xj) {Tryz.aYt with} Fence.wide _ trivial rfl FQ c b k d _ hc m i
 exact AnyZI.sorted_in Tryz.aOb Fence.wide 5 trivial trivial trivial trivial rfl FQ (Tryz.aUk _) (enters_of Tryz.func305 FU rfl) 306 #[.pointer<|some ⟨c,0,none⟩] trivial (enters_of Tryz.func306 FU rfl) _ _ g a _ j
end Go.Proofs
variable {l:FJ}
namespace Go.Proofs.Z
open Go.Proofs.YtbcndiahccicpaaGreatDoor
open Go.RowKit
theorem yb (p q:Addr) (w:World):
  CallsD Tryz.prog 275 #[.pointer<|some p,.pointer<|some q] .returning w fun e c d=>e= .returned (.tuple #[])/\c= .returning/\d=w:=by
 refine callsD_of_wpS Tryz.func275 rfl fun a f b=>?_
 apply wpS_seq
 apply wpS_region
 simp[wpOpsS,go_sem,recoverD,b,Tryz.ntmps275,Exit.thenS]
 refine wpS_cond (t:=false) (by simp[Act.eval,Array.replicate]) ?_
 refine wpS_of_wp<|wp_skip ?_
 cases a
 simp_all [bodyPostS,results,Tryz.results275]
def aC7 (d:aM0 w.heap.size ((w.alloc<|.cells #[.int .i64 0] 3).alloc<|.cells #[.bool false] 4) w') (n:Int) (b:Bool):
  w'.cell? ⟨w.heap.size,0,none⟩=some (.int .i64 0)/\w'.frozen? ⟨w.heap.size,0,none⟩=false/\
  (w'.setCell ⟨w.heap.size,0,none⟩<|.int .i64 n).cell? ⟨w.heap.size+1,0,none⟩=some (.bool false)/\(w'.setCell ⟨w.heap.size,0,none⟩<|.int .i64 n).frozen? ⟨w.heap.size+1,0,none⟩=false/\
  ((w'.setCell ⟨w.heap.size,0,none⟩<|.int .i64 n).setCell ⟨w.heap.size+1,0,none⟩<|.bool b).cell? ⟨w.heap.size,0,none⟩=some (.int .i64 n)/\
  ((w'.setCell ⟨w.heap.size,0,none⟩<|.int .i64 n).setCell ⟨w.heap.size+1,0,none⟩<|.bool b).cell? ⟨w.heap.size+1,0,none⟩=some (.bool b):=by
 have a:=(d.Sv _ (bb _) FX).trans (by show((w.heap.push _).push _)[w.heap.size]?=_;rw[CT,bD1 FW,CT,bD2 rfl])
 have c:(w'.setCell ⟨w.heap.size,0,none⟩<|.int .i64 n).heap[w.heap.size+1]?=some (.cells #[.bool false] 4 (0,0)):=(Below.heap_setCell _ _ _ _ FW).trans<|(d.Sv _ FQ FW).trans<|by show((w.heap.push _).push _)[w.heap.size+1]?=_;rw[CT,bD2 FW]
 have e:((w'.setCell ⟨w.heap.size,0,none⟩<|.int .i64 n).setCell ⟨w.heap.size+1,0,none⟩<|.bool b).heap[w.heap.size]?=some (.cells #[.int .i64 n] 3 (0,0)):=(Below.heap_setCell _ _ _ _ FW).trans<|one_setCell a
 exact⟨by simp[World.cell?,a],by simp[World.frozen?,a],by simp[World.cell?,c],by simp[World.frozen?,c],by simp[World.cell?,e],by simp[World.cell?,one_setCell c]⟩
set_option maxRecDepth 100000 in
def ue (v x l:Value) (w:World) (S:World->Prop) (n:Int) (b:Bool) (hc:Calls Tryz.prog 374 #[v,x,l] ((w.alloc<|.cells #[.int .i64 0] 3).alloc<|.cells #[.bool false] 4) fun e a=>e= .returned (.tuple #[.int .i64 n,.bool b])/\aM0 w.heap.size ((w.alloc<|.cells #[.int .i64 0] 3).alloc<|.cells #[.bool false] 4) a/\S a):
  Calls Tryz.prog 200 #[.iface 304 v,x,l] w fun e a=>e= .returned (.tuple #[.int .i64 n,.bool b])/\∃g,S g/\aTo w.heap.size (w.heap.size+2) g a:=by
 have o:∀(d:Fn) (first c:FO) (w:World),(Instr.makeFunc d first c).run Tryz.prog w= .ok (.func d first c) w:=fun _ _ _ _=>rfl
 have r:∀w:World,(method 617 304 v "May").run Tryz.prog w= .ok (374,v) w:=fun _=>FU
 go_enter_defers Tryz.func200,Tryz.ntmps200
 go_wp2_with (go_at_call 374;refine hc.mono ?_;rintro e a ⟨rfl,m,k⟩;obtain⟨q,t,c2,z2,j,c5⟩:=aC7 m n b)
 refine leaves_cons (f:=275) (args:= #[.pointer<|some ⟨w.heap.size,0,none⟩,.pointer<|some ⟨w.heap.size+1,0,none⟩]) FW (by simp[go_sem]) ?_
 refine(yb ⟨w.heap.size,0,none⟩ ⟨w.heap.size+1,0,none⟩ _).mono ?_
 rintro e s p ⟨rfl,rfl,rfl⟩
 simp[Leaves,settle,results,Tryz.results200,go_sem,j,c5]
 refine⟨a,k,⟨fun i _ h=>?_,?_,rfl,rfl,rfl⟩⟩
 .rw[Below.heap_setCell _ _ _ _ FX,Below.heap_setCell _ _ _ _ FX]
 .simp
def Gl (w:World):Prop:=(∃e z,w.heap[0]?=some (.cells ⟨iM⟩ e z))/\(∃e z,w.heap[1]?=some (.cells ⟨vV⟩ e z))/\(∃e z,w.heap[3]?=some (.cells ⟨aLs⟩ e z))/\(∃e z,w.heap[6]?=some (.cells ⟨af⟩ e z))/\12<=w.heap.size
def aZ2 {c d e2 f:TypeId} {z0 j z2 z3:Nat×Nat} (k:w.heap[0]?=some (.cells ⟨iM⟩ c z0)) (m:w.heap[1]?=some (.cells ⟨vV⟩ d j)) (n:w.heap[3]?=some (.cells ⟨aLs⟩ e2 z2)) (p:w.heap[6]?=some (.cells ⟨af⟩ f z3)):aWs Pr 12 (glM c z0 d j e2 z2 f z3) w:=by
 have plain:∀(l:FJ) (e:TypeId) (z:Nat×Nat) (b:Nat),tB l=true->w.heap[b]?=some (.cells ⟨l⟩ e z)->∃g,w.heap[b]?=some g/\∀ρ,zG Pr ρ (0,0) (.cells l e z true) g:=fun l e z b q h=>
  ⟨_,h,fun ρ=>⟨⟨l⟩,rfl,by rw[ll,fm FW];exact Am _ q,FW,fun _=>⟨rfl,rfl,rfl⟩⟩⟩
 intro i o r a;unfold glM at a;split at a;rename_i e;subst e;cases a;exact plain _ _ _ _ HR k;split at a;rename_i e;subst e;cases a;exact plain _ _ _ _ HR m;split at a;rename_i e;subst e;cases a;exact plain _ _ _ _ HR n;split at a;rename_i e;subst e;cases a;exact plain _ _ _ _ HR p;cases a
def aMz (hB:12<=B) (h:Below B w w'):Gl w->Gl w':=fun⟨⟨b,z0,e⟩,⟨c,j,f⟩,⟨e2,z2,g⟩,⟨d,z3,i⟩,a⟩=>
 ⟨⟨b,z0,(h.block _ FQ).trans e⟩,⟨c,j,(h.block _ FQ).trans f⟩,⟨e2,z2,(h.block _ FQ).trans g⟩,⟨d,z3,(h.block _ FQ).trans i⟩,cL a h.size⟩
def aVv:Pr.underlying 3=some (.int .i64):=FU
def aTr:Pr.cellsOf 3=1:=FU
noncomputable def aGm (B:Nat) (hB:12<=B):Pj Pr B K0 where
 G:=Gl
 Sv:=fun w M h=>aMz hB h
 call:=fun f e v w d=>by
  unfold K0 at d;split at d<;>cases d
 yn:=fun f e g J d ρ i w k L=>by
  unfold K0 at d;split at d;cases d;rename_i v x l;cases d;simp only[bP] at k;obtain⟨_,_,m,⟨r,_,H,⟨p,_,E,rfl,rfl⟩,rfl⟩,rfl⟩:=k;simp only[bB] at m;obtain⟨q,m,rfl⟩:=m;refine⟨[q,r,p],(w.alloc<|.cells #[.int .i64 0] 3).alloc<|.cells #[.bool false] 4,bP.cons m<|bP.cons H<|bP.cons E rfl,((Below.refl _ _).alloc (bb _) _).alloc FW _,fun a S j C=>?_⟩;unfold Xg at j;split at j;rename_i n b;have o:((w.alloc<|.cells #[.int .i64 0] 3).alloc<|.cells #[.bool false] 4).heap.size=w.heap.size+2:=FW
  rw[o];exact ue q r p w S n b C;cases j;cases d
 K7:=fun f e F d h v K hF ρ w i D _ k=>by
  unfold K0 at d;split at d;rename_i c;cases d;exact qu aVv aTr (fun c b I s R w t u y z A=>Tryz.vm c b I s R w t u y z A) hF D k;cases d;cases d
def zH (a:Gl w):12<=w.heap.size:=a.2.2.2.2
def V0:ownKnob Tryz.prog.godebug=none:=FU
def aBr:laidOutB Tryz.prog=true:=FU
def g0:Tryz.prog.globalNamed "donjon/place.limits"=some 0:=FU
def g1:Tryz.prog.globalNamed "donjon/isa.ops"=some 1:=FU
def g2:Tryz.prog.globalNamed "donjon/note.kinds"=some 3:=FU
def g3:Tryz.prog.globalNamed "donjon/moesi.rows"=some 6:=FU
def bB5:Tryz.prog.globalNamed "math/bits.deBruijn64tab"=some 11:=FU
def aX3 {W:World} {l:List (String×DataW Unit)} (a:(l.all fun x=>x.2.handleName?.isNone)=true) (h:laidMetH Tryz.prog l W) (m0:("donjon/place.limits",Rows.laid_donjon_place_limits)∈l) (m1:("donjon/isa.ops",Rows.laid_donjon_isa_ops)∈l)
  (m2:("donjon/note.kinds",Rows.laid_donjon_note_kinds)∈l) (m3:("donjon/moesi.rows",Rows.laid_donjon_moesi_rows)∈l) (m4:("math/bits.deBruijn64tab",Rows.laid_math_bits_deBruijn64tab)∈l):Gl W:=by
 obtain⟨b,z0,e⟩:=Aq (l:=iM) 8 a h m0 g0 (t:=197) FU FU
 obtain⟨c,k,f⟩:=Aq (l:=vV) 8 a h m1 g1 (t:=223) FU FU
 obtain⟨e2,z2,g⟩:=Aq (l:=aLs) 8 a h m2 g2 (t:=430) FU FU
 obtain⟨d,z3,i⟩:=Aq (l:=af) 8 a h m3 g3 (t:=466) FU FU
 obtain⟨m,z4,j⟩:=Aq (l:=((O1 Tryz.prog 8 499<|Rows.laid_math_bits_deBruijn64tab (H:=Unit)).getD [])) 8 a h m4 bB5 (t:=499) FU FU
 exact⟨⟨b,z0,e⟩,⟨c,k,f⟩,⟨e2,z2,g⟩,⟨d,z3,i⟩,(hX.1 j).1⟩
def aVf:yH Tryz.prog 8 38=some [some .i64,some .i64,some .i64,some .i64]:=FU
def aXw (j:rC [some .i64,some .i64,some .i64,some .i64] l):∃a b c d:Int,l=[I a,I b,I c,I d]:=by
 obtain⟨a,l1,e,k⟩:=iQ j;obtain⟨b,p,e2,m⟩:=iQ k;obtain⟨c,l3,f,n⟩:=iQ m;obtain⟨d,q,g,o⟩:=iQ n;have i:=Hf o;subst i g f e2 e;exact⟨a,b,c,d,rfl⟩
end Go.Proofs.Z
