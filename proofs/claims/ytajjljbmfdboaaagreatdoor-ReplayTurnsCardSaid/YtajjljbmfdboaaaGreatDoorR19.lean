/- A part of the proof. -/
import Derived.Test.YtajjljbmfdboaaaGreatDoorR6
import Derived.Test.YtajjljbmfdboaaaGreatDoorR8
import Derived.Shelf.SlIterI.Nil
import Derived.Shelf.SortM.Plain
import Derived.Shelf.SortM.SortNone
import Derived.Ground.GgzProg
import Derived.Ground.SlgmProg
import Derived.Test.YtajjljbmfdboaaaGreatDoorChecked
import Derived.Test.YtajjljbmfdboaaaGreatDoorR5
import Derived.Maps.Own
import Derived.Maps.Keyed
import Derived.Maps.Range
import Derived.Lib.SlKeysI
import Derived.Tactics
import Derived.Tactics2
import Derived.Defers
import Derived.Recover
import Derived.Laws.Pointers
import Derived.OneCell
import Derived.Below
import Derived.Test.YtajjljbmfdboaaaGreatDoorTie
import Derived.Test.YtajjljbmfdboaaaGreatDoorCards
import Derived.LaidMore
import Derived.SevenTiedAt
namespace Go.Proofs.YtajjljbmfdboaaaGreatDoor
open Go Go.Ab
section
def eT:List Value:=[
 .int .i64 4,.int .i64 16,.int .i64 8,.int .i64 4,.int .i64 16,.int .i64 8,.int .i64 4]
def sI:List Value:=[
 .string ⟨#[]⟩,.int .i64 0,.int .i64 0,.int .i64 0,.string ⟨#[115,101,116]⟩,.int .i64 1,.int .i64 2,.int .i64 0,.string ⟨#[97,100,100]⟩,.int .i64 1,.int .i64 1,
  .int .i64 1,.string ⟨#[108,111,97,100]⟩,.int .i64 1,.int .i64 1,.int .i64 0,.string ⟨#[115,116,111,114,101]⟩,.int .i64 1,.int .i64 1,.int .i64 0,
  .string ⟨#[115,119,97,112]⟩,.int .i64 1,.int .i64 1,.int .i64 0,.string ⟨#[102,101,110,99,101]⟩,.int .i64 0,.int .i64 0,.int .i64 0,
  .string ⟨#[119,111,114,108,100]⟩,.int .i64 3,.int .i64 0,.int .i64 0,.string ⟨#[99,97,108,108]⟩,.int .i64 4,.int .i64 1,.int .i64 1,.string ⟨#[106,117,109,112]⟩,
  .int .i64 5,.int .i64 0,.int .i64 0,.string ⟨#[122,101,114,111]⟩,.int .i64 1,.int .i64 5,.int .i64 0,.string ⟨#[104,97,108,116]⟩,.int .i64 0,.int .i64 0,.int .i64 0]
def qp:List Value:=[
 .string ⟨#[]⟩,.int .i64 0,.int .i64 0,.int .i64 0,.int .i64 0,.int .i64 0,.int .i64 0,.int .i64 0,.int .i64 0,.string ⟨#[103,101,116,115]⟩,.int .i64 0,.int .i64 1,
  .int .i64 2,.int .i64 3,.int .i64 0,.int .i64 0,.int .i64 0,.int .i64 0,.string ⟨#[103,101,116,109]⟩,.int .i64 0,.int .i64 1,.int .i64 2,.int .i64 3,.int .i64 0,
  .int .i64 0,.int .i64 0,.int .i64 0,.string ⟨#[112,117,116]⟩,.int .i64 0,.int .i64 1,.int .i64 2,.int .i64 4,.int .i64 8,.int .i64 9,.int .i64 10,.int .i64 0,
  .string ⟨#[100,111,110,101]⟩,.int .i64 1,.int .i64 1,.int .i64 2,.int .i64 0,.int .i64 0,.int .i64 0,.int .i64 0,.int .i64 0,.string ⟨#[114,101,112,108,121]⟩,
  .int .i64 1,.int .i64 1,.int .i64 2,.int .i64 5,.int .i64 8,.int .i64 9,.int .i64 10,.int .i64 11,.string ⟨#[119,97,108,107]⟩,.int .i64 0,.int .i64 1,.int .i64 12,
  .int .i64 0,.int .i64 0,.int .i64 0,.int .i64 0,.int .i64 0,.string ⟨#[100,114,111,112,112,101,100]⟩,.int .i64 1,.int .i64 1,.int .i64 13,.int .i64 0,.int .i64 0,
  .int .i64 0,.int .i64 0,.int .i64 0,.string ⟨#[103,114,97,110,116]⟩,.int .i64 2,.int .i64 1,.int .i64 2,.int .i64 4,.int .i64 6,.int .i64 8,.int .i64 9,.int .i64 0,
  .string ⟨#[110,97,99,107]⟩,.int .i64 2,.int .i64 1,.int .i64 2,.int .i64 11,.int .i64 0,.int .i64 0,.int .i64 0,.int .i64 0,.string ⟨#[112,117,116,97,99,107]⟩,
  .int .i64 2,.int .i64 1,.int .i64 2,.int .i64 0,.int .i64 0,.int .i64 0,.int .i64 0,.int .i64 0,.string ⟨#[112,114,111,98,101]⟩,.int .i64 3,.int .i64 1,.int .i64 2,
  .int .i64 7,.int .i64 0,.int .i64 0,.int .i64 0,.int .i64 0,.string ⟨#[119,97,108,107,101,100]⟩,.int .i64 2,.int .i64 1,.int .i64 8,.int .i64 9,.int .i64 12,
  .int .i64 0,.int .i64 0,.int .i64 0,.string ⟨#[100,114,111,112]⟩,.int .i64 3,.int .i64 1,.int .i64 13,.int .i64 0,.int .i64 0,.int .i64 0,.int .i64 0,.int .i64 0]
def w5:List Value:=[
 .string ⟨#[73]⟩,.bool false,.bool false,.bool false,.bool false,.int .i64 0,.int .i64 0,.int .i64 0,.string ⟨#[83]⟩,.bool true,.bool false,.bool false,.bool false,
  .int .i64 0,.int .i64 1,.int .i64 0,.string ⟨#[69]⟩,.bool true,.bool true,.bool false,.bool true,.int .i64 4,.int .i64 1,.int .i64 0,.string ⟨#[79]⟩,.bool true,
  .bool false,.bool true,.bool true,.int .i64 0,.int .i64 3,.int .i64 0,.string ⟨#[77]⟩,.bool true,.bool true,.bool true,.bool true,.int .i64 4,.int .i64 3,.int .i64 0]
def zz (e0:TypeId) (z0:Nat×Nat) (e1:TypeId) (z1:Nat×Nat) (e2:TypeId) (z2:Nat×Nat) (e3:TypeId) (z3:Nat×Nat):Nat->Option nI:=fun i=>
 if i=0 then some (.cells eT e0 z0 true) else if i=1 then some (.cells sI e1 z1 true) else if i=2 then some (.cells qp e2 z2 true) else if i=3 then some (.cells w5 e3 z3 true) else none
def qd:Value:= .agg ⟨[I 1,I 1,I 1,I 1,I 2,I 1,I 1]⟩
def facts:Kr:=[(89,[qd],I 0),(63,[qd],I 2),(90,[qd],I 4)]
noncomputable def K1:FuncId->List Value->Option jI:=Xo K0 facts
variable (e0:TypeId) (z0:Nat×Nat) (e1:TypeId) (z1:Nat×Nat) (e2:TypeId) (z2:Nat×Nat) (e3:TypeId) (z3:Nat×Nat)
noncomputable def st4:AH:=Go.Ab.start 4 (yT 4 (zz e0 z0 e1 z1 e2 z2 e3 z3) [])
end
end Go.Proofs.YtajjljbmfdboaaaGreatDoor
namespace Go.Proofs
open Go.Shelf
section
def Tryz.N2:Go.Shelf.Ren:=⟨fun|7=>123|10=>170|n=>n,fun|23=>170|26=>3|3=>237|28=>133|0=>0|27=>132|33=>38|4=>4|n=>n,fun|n=>n⟩
theorem Tryz.aFm:Go.Proofs.SlLaysZI.n7 Tryz.prog Tryz.N2:={
 mixed:=by kernel_rfl
 f7:=⟨Tryz.f123.name,by decide,Tryz.func123.trans (congrArg some (by kernel_rfl))⟩
 f10:=⟨Tryz.f170.name,by decide,Tryz.func170.trans (congrArg some (by kernel_rfl))⟩
 t0:=Tryz.underlying0
 a0:=Tryz.isAgg0
 z0:=Tryz.sizeOf0
 v0:=Tryz.zeroValue0
 t4:=Tryz.underlying4
 a4:=Tryz.isAgg4
 z4:=Tryz.sizeOf4
 v4:=Tryz.zeroValue4
 t23:=Tryz.underlying170
 a23:=Tryz.isAgg170
 z23:=Tryz.sizeOf170
 v23:=Tryz.zeroValue170
 t26:=Tryz.underlying3
 a26:=Tryz.isAgg3
 z26:=Tryz.sizeOf3
 v26:=Tryz.zeroValue3
 t27:=Tryz.underlying132
 a27:=Tryz.isAgg132
 z27:=Tryz.sizeOf132
 v27:=Tryz.zeroValue132
 t28:=Tryz.underlying133
 a28:=Tryz.isAgg133
 z28:=Tryz.sizeOf133
 v28:=Tryz.zeroValue133
 t33:=Tryz.underlying38
 a33:=Tryz.isAgg38
 z33:=Tryz.sizeOf38
 v33:=Tryz.zeroValue38}
def Tryz.Hp:Go.Shelf.Ren:=⟨fun|6=>122|8=>168|9=>169|11=>225|13=>174|12=>226|23=>236|24=>237|14=>273|15=>274|16=>275|17=>276|18=>277|19=>278|20=>279|21=>280|22=>281|25=>307|26=>283|27=>284|28=>308|29=>309|30=>175|31=>313|n=>n,fun|26=>3|28=>133|24=>60|0=>0|3=>3|37=>327|48=>375|50=>377|4=>4|40=>369|39=>368|45=>51|5=>5|9=>9|51=>415|55=>280|57=>434|58=>435|33=>38|n=>n,fun|n=>n⟩
theorem Tryz.zy:Go.Proofs.SlLaysZI.n6 Tryz.prog Tryz.Hp:={
 mixed:=by kernel_rfl
 f6:=⟨Tryz.f122.name,by decide,Tryz.func122.trans (congrArg some (by kernel_rfl))⟩
 f8:=⟨Tryz.f168.name,by decide,Tryz.func168.trans (congrArg some (by kernel_rfl))⟩
 f11:=⟨Tryz.f225.name,by decide,Tryz.func225.trans (congrArg some (by kernel_rfl))⟩
 t0:=Tryz.underlying0
 a0:=Tryz.isAgg0
 z0:=Tryz.sizeOf0
 v0:=Tryz.zeroValue0
 t24:=Tryz.underlying60
 a24:=Tryz.isAgg60
 z24:=Tryz.sizeOf60
 v24:=Tryz.zeroValue60
 t26:=Tryz.underlying3
 a26:=Tryz.isAgg3
 z26:=Tryz.sizeOf3
 v26:=Tryz.zeroValue3
 t28:=Tryz.underlying133
 a28:=Tryz.isAgg133
 z28:=Tryz.sizeOf133
 v28:=Tryz.zeroValue133
 i26:=by kernel_rfl}
def Tryz.gy:Go.Shelf.Ren:=⟨fun|5=>169|8=>174|7=>226|19=>236|20=>237|10=>273|11=>274|12=>275|13=>276|14=>277|15=>278|16=>279|17=>280|18=>281|30=>307|31=>283|32=>284|33=>308|34=>309|35=>175|40=>313|n=>n,fun|23=>60|25=>3|3=>3|32=>327|22=>60|0=>0|44=>375|46=>377|4=>4|36=>369|35=>368|41=>51|5=>5|9=>9|53=>415|57=>280|63=>434|64=>435|n=>n,fun|n=>n⟩
theorem Tryz.aAy:Go.Proofs.SlLaysM.n5 Tryz.prog Tryz.gy:={
 mixed:=by kernel_rfl
 f5:=⟨Tryz.f169.name,by decide,Tryz.func169.trans (congrArg some (by kernel_rfl))⟩
 f7:=⟨Tryz.f226.name,by decide,Tryz.func226.trans (congrArg some (by kernel_rfl))⟩
 f8:=Tryz.func174.trans (congrArg some (by kernel_rfl))
 f10:=⟨Tryz.f273.name,by decide,Tryz.func273.trans (congrArg some (by kernel_rfl))⟩
 f11:=⟨Tryz.f274.name,by decide,Tryz.func274.trans (congrArg some (by kernel_rfl))⟩
 f12:=⟨Tryz.f275.name,by decide,Tryz.func275.trans (congrArg some (by kernel_rfl))⟩
 f13:=⟨Tryz.f276.name,by decide,Tryz.func276.trans (congrArg some (by kernel_rfl))⟩
 f14:=⟨Tryz.f277.name,by decide,Tryz.func277.trans (congrArg some (by kernel_rfl))⟩
 f15:=⟨Tryz.f278.name,by decide,Tryz.func278.trans (congrArg some (by kernel_rfl))⟩
 f16:=⟨Tryz.f279.name,by decide,Tryz.func279.trans (congrArg some (by kernel_rfl))⟩
 f17:=⟨Tryz.f280.name,by decide,Tryz.func280.trans (congrArg some (by kernel_rfl))⟩
 f18:=⟨Tryz.f281.name,by decide,Tryz.func281.trans (congrArg some (by kernel_rfl))⟩
 f19:=Tryz.func236.trans (congrArg some (by kernel_rfl))
 f20:=Tryz.func237.trans (congrArg some (by kernel_rfl))
 f30:=⟨Tryz.f307.name,by decide,Tryz.func307.trans (congrArg some (by kernel_rfl))⟩
 f31:=Tryz.func283.trans (congrArg some (by kernel_rfl))
 f32:=Tryz.func284.trans (congrArg some (by kernel_rfl))
 f33:=⟨Tryz.f308.name,by decide,Tryz.func308.trans (congrArg some (by kernel_rfl))⟩
 f34:=⟨Tryz.f309.name,by decide,Tryz.func309.trans (congrArg some (by kernel_rfl))⟩
 f35:=⟨Tryz.f175.name,by decide,Tryz.func175.trans (congrArg some (by kernel_rfl))⟩
 f40:=⟨Tryz.f313.name,by decide,Tryz.func313.trans (congrArg some (by kernel_rfl))⟩
 t0:=Tryz.underlying0
 a0:=Tryz.isAgg0
 z0:=Tryz.sizeOf0
 v0:=Tryz.zeroValue0
 t3:=Tryz.underlying3
 a3:=Tryz.isAgg3
 z3:=Tryz.sizeOf3
 v3:=Tryz.zeroValue3
 t4:=Tryz.underlying4
 a4:=Tryz.isAgg4
 z4:=Tryz.sizeOf4
 v4:=Tryz.zeroValue4
 t5:=Tryz.underlying5
 a5:=Tryz.isAgg5
 z5:=Tryz.sizeOf5
 v5:=Tryz.zeroValue5
 t9:=Tryz.underlying9
 a9:=Tryz.isAgg9
 z9:=Tryz.sizeOf9
 v9:=Tryz.zeroValue9
 t22:=Tryz.underlying60
 a22:=Tryz.isAgg60
 z22:=Tryz.sizeOf60
 v22:=Tryz.zeroValue60
 t23:=Tryz.underlying60
 a23:=Tryz.isAgg60
 z23:=Tryz.sizeOf60
 v23:=Tryz.zeroValue60
 t25:=Tryz.underlying3
 a25:=Tryz.isAgg3
 z25:=Tryz.sizeOf3
 v25:=Tryz.zeroValue3
 t32:=Tryz.underlying327
 a32:=Tryz.isAgg327
 z32:=Tryz.sizeOf327
 v32:=Tryz.zeroValue327
 t35:=Tryz.underlying368
 a35:=Tryz.isAgg368
 z35:=Tryz.sizeOf368
 v35:=Tryz.zeroValue368
 t36:=Tryz.underlying369
 a36:=Tryz.isAgg369
 z36:=Tryz.sizeOf369
 v36:=Tryz.zeroValue369
 t41:=Tryz.underlying51
 a41:=Tryz.isAgg51
 z41:=Tryz.sizeOf51
 v41:=Tryz.zeroValue51
 t44:=Tryz.underlying375
 a44:=Tryz.isAgg375
 z44:=Tryz.sizeOf375
 v44:=Tryz.zeroValue375
 t46:=Tryz.underlying377
 a46:=Tryz.isAgg377
 z46:=Tryz.sizeOf377
 v46:=Tryz.zeroValue377
 t53:=Tryz.underlying415
 a53:=Tryz.isAgg415
 z53:=Tryz.sizeOf415
 v53:=Tryz.zeroValue415
 t57:=Tryz.underlying280
 a57:=Tryz.isAgg280
 z57:=Tryz.sizeOf280
 v57:=Tryz.zeroValue280
 t63:=Tryz.underlying434
 a63:=Tryz.isAgg434
 z63:=Tryz.sizeOf434
 v63:=Tryz.zeroValue434
 t64:=Tryz.underlying435
 a64:=Tryz.isAgg435
 z64:=Tryz.sizeOf435
 v64:=Tryz.zeroValue435}
end
end Go.Proofs
namespace Go.Ab
open Go.RowKit Go.Maps
section
variable {P:Program} {B:Nat} {ρ:iH} {h:AH} {w:World}
theorem df (k:Inv P B ρ h w) {o:nI} {o':Obj} {g:Nat} {s:Nat×Nat} {w':World} (hb:uF P (uL ρ h.next (g,s)) s o o') (c:Below w.heap.size w w') (z:w.heap.size<=g) (J:w'.heap[g]?=some o'):
  lN P B ρ h w (uL ρ h.next (g,s)) (h.alloc o) w':=by
 have l:Ext ρ (uL ρ h.next (g,s)):=Ext.uL (k.fresh _ (Nat.le_refl _))
 have a:∀j,(h.alloc o).get j=if j=h.next then some o else h.get j:=fun j=>AH.vS k.bn
 refine {ext:=l,inv:=?_,un:=?_,nC:=?_,stay:=fun j N n=>by rw[a,aaa];exact n,frame:=?_,range:=?_,base:=rfl,wN:=?_,next:=by simp,size:=c.size,os:=c.os,out:=c.output,tape:=c.tape}
 .refine {rI:=?_,inj:=?_,low:=?_,old:=?_,fresh:=?_,iE:=?_,pW:=?_,size:=Nat.le_trans k.size c.size,bn:=Nat.le_succ_of_le k.bn}
  .intro i K m b s1 q;rw[a] at m;by_cases e:i=h.next
   .subst e;rw[aJ7 rfl] at m;cases m;rw[bV] at q;cases q;exact⟨o',J,hb⟩
   .rw[aJ6 e] at m;rw[cA e] at q;obtain⟨D,r,I⟩:=k.rI i K m b s1 q;exact⟨D,(c.block b (Array.getElem?_eq_some_iff.1 r).1).trans r,I.mono l⟩
  .intro i j b F G f x gi u d t;rw[a] at gi u;by_cases e:i=h.next
   .by_cases p:j=h.next
    .rw[e,p]
    .rw[aJ6 p] at u;rw[cA p] at t;obtain⟨M,C⟩:=Option.isSome_iff_exists.1 u;obtain⟨D,r,_⟩:=k.rI j M C b G t;subst e;rw[bV] at d;cases d;have:=(Array.getElem?_eq_some_iff.1 r).1;omega
   .rw[aJ6 e] at gi;rw[cA e] at d;by_cases p:j=h.next
    .obtain⟨L,A⟩:=Option.isSome_iff_exists.1 gi;obtain⟨D,r,_⟩:=k.rI i L A b F d;subst p;rw[bV] at t;cases t;have:=(Array.getElem?_eq_some_iff.1 r).1;omega
    .rw[aJ6 p] at u;rw[cA p] at t;exact k.inj i j b F G f x gi u d t
  .intro i b s1 f gi d;rw[a] at gi;by_cases e:i=h.next
   .subst e;rw[bV] at d;cases d;exact Nat.le_trans k.size z
   .rw[aJ6 e] at gi;rw[cA e] at d;exact k.low i b s1 f gi d
  .intro i b s1 f d;have e:i≠h.next:=fun e=>by have:=k.bn;simp at f;omega
   rw[cA e] at d
   exact k.old i b s1 f d
  .intro i n;simp at n;rw[cA (by omega)];exact k.fresh i (by omega)
  .intro i n;simp at n;rw[a,aaa];exact k.iE i (by omega)
  .intro H y;exact l _ _ (k.pW H y)
 .intro i n q;rw[cA (by omega)];exact q
 .intro i n q;rw[a,aaa]
 .intro b v _;exact c.block b v
 .intro i b s1 f gi d E;rw[a] at gi;by_cases e:i=h.next
  .subst e;rw[bV] at d;cases d;omega
  .rw[aJ6 e] at gi;rw[cA e] at d;exact⟨i,s1,f,gi,d⟩
 .intro i n;rw[a,aJ6 (by have:=k.bn;omega)]
theorem F9 (x:Int):∀l:List Int,(C1 x l).Perm (x::l)
 |[]=>List.Perm.refl _
 |y::l=>by
  unfold C1;split;exact List.Perm.refl _;exact((F9 x l).cons y).trans (List.Perm.swap x y l)
theorem Dn:∀l:List Int,(rH l).Perm l
 |[]=>List.Perm.refl _
 |x::l=>(F9 x (rH l)).trans ((Dn l).cons x)
theorem Fp (x:Int):∀l:List Int,l.Pairwise (·<=·)->(C1 x l).Pairwise (·<=·)
 |[],_=>by simp[C1]
 |y::l,h=>by
  unfold C1;split;rename_i b;refine List.Pairwise.cons (fun z a=>?_) h;rcases List.mem_cons.1 a with rfl|a;exact b;exact Int.le_trans b (List.rel_of_pairwise_cons h a);rename_i b;refine List.Pairwise.cons (fun z a=>?_) (Fp x l h.of_cons);rcases List.mem_cons.1 ((F9 x l).mem_iff.1 a) with rfl|a;omega;exact List.rel_of_pairwise_cons h a
theorem Ce:∀l:List Int,(rH l).Pairwise (·<=·)
 |[]=>List.Pairwise.nil
 |x::l=>Fp x _ (Ce l)
theorem Xh {l d:List Int} (h:d.Perm l):d.mergeSort (fun x y=>decide (x<=y))=rH l:=by
 have g:∀a b c:Int,(fun x y=>decide (x<=y):Int->Int->Bool) a b=true->(fun x y=>decide (x<=y):Int->Int->Bool) b c=true->(fun x y=>decide (x<=y):Int->Int->Bool) a c=true:=fun a b c e f=>by simp only[decide_eq_true_eq] at*;exact Int.le_trans e f
 have to:∀a b:Int,((fun x y=>decide (x<=y):Int->Int->Bool) a b||(fun x y=>decide (x<=y):Int->Int->Bool) b a)=true:=fun a b=>by simp only[Bool.or_eq_true,decide_eq_true_eq];exact Int.le_total a b
 refine List.Perm.eq_of_pairwise (le:=(·<=·)) (fun a b _ _ e f=>Int.le_antisymm e f) ?_ (Ce l) (((List.mergeSort_perm d _).trans h).trans (Dn l).symm);exact(List.pairwise_mergeSort g to d).imp fun h=>by simpa using h
theorem O4:∀{es:List (Value×Value×Nat)} {c:List MapEntry} {f:List Int},kS ρ es c->keysOf es=some f->c.map (·.key)=f.map encZ/\c.map (·.born)=es.map (·.2.2)
 |[],c,f,d,h=>by
  simp[keysOf] at h;subst h;simp only[kS] at d;subst d;exact⟨rfl,rfl⟩
 |(k,v,t)::es,c,f,d,h=>by
  unfold keysOf at h;split at h;rename_i e;cases e;rename_i n s q i e;cases e;simp only[Option.map_eq_some_iff] at h;obtain⟨l,m,rfl⟩:=h;simp only[kS] at d;obtain⟨p,v2,r,g,o,j,rfl⟩:=d;simp only[aF] at g;obtain⟨a,b⟩:=O4 j m;subst g;exact⟨by simp[a,encZ],by simp[b]⟩;cases h
theorem O1 {c:Nat}:∀{es:List (Value×Value×Nat)},Bp c es=true->(∀x∈es.map (·.2.2),x<c)/\(es.map (·.2.2)).Nodup
 |[],_=>⟨by simp,by simp⟩
 |x::l,h=>by
  simp only[Bp,Bool.and_eq_true] at h;obtain⟨⟨f,g⟩,i⟩:=h;obtain⟨a,b⟩:=O1 i;refine⟨fun y d=>?_,?_⟩;rcases List.mem_cons.1 d with rfl|d;simpa [Nat.blt_eq] using f;exact a y d;refine List.nodup_cons.2 ⟨fun j=>?_,b⟩;obtain⟨y,d,e⟩:=List.mem_map.1 j;have:=List.all_eq_true.1 g y d;rw[e] at this;simp at this
theorem aj:∀{d:List Int},O8 d=true->(∀x∈d,(Lit.int .i64 x).wf=true)/\d.Nodup
 |[],_=>⟨by simp,by simp⟩
 |x::l,h=>by
  simp only[O8,Bool.and_eq_true] at h;obtain⟨⟨e,f⟩,g⟩:=h;obtain⟨a,b⟩:=aj g;refine⟨fun y c=>?_,List.nodup_cons.2 ⟨fun i=>?_,b⟩⟩;rcases List.mem_cons.1 c with rfl|c;exact e;exact a y c;have:=List.all_eq_true.1 f x i;simp at this
theorem Vf {f k:FuncId} (h3:P.underlying 3=some (.int .i64)) (α:P.cellsOf 3=1)
  (sk:∀(c b nn:Nat) (D0:DataW Unit) (R:Value->Option (DataW Unit×List MemPlace)) (w:World),c<w.heap.size->w.cell? ⟨c,0,none⟩=some (.map (some b))->w.ownsMap P 3 R b nn D0->Maps.size D0<=maxLen->Maps.size D0*8<=140737488355328->
   Calls P f #[.func (.func k) #[] #[.pointer (some ⟨c,0,none⟩)]] w fun e w'=>∃(v:Value) (i:List Int),e= .returned v/\i.Perm (intKeys D0)/\
    w'.ownsRow w.heap.size 3 1 v i.length ((i.mergeSort (fun x y=>decide (x<=y))).map encZ)/\(v= .slice none 0 0↔i=[])/\Below w.heap.size w w')
  {c:Nat} {v:Value} {h':AH} (hF:Bo 3 c h=some (v,h')) (hi:Inv P B ρ h w) {args':List Value} (ha:aZ ρ [.func (.func k) ⟨[]⟩ ⟨[.pointer (some ⟨c,0,none⟩)]⟩] args'):
  Calls P f ⟨args'⟩ w fun e w'=>∃ρ' v',e= .returned v'/\aF ρ' v v'/\lN P B ρ h w ρ' h' w':=by
 simp only[aZ,aF,Ef,lJ] at ha
 obtain⟨_,_,⟨_,⟨_⟩,⟨cs⟩,rfl,O,⟨_,_,⟨L,s,hr,rfl⟩,rfl,t⟩,rfl⟩,rfl,rfl⟩:=ha
 simp only at O t
 subst O;subst t
 unfold Bo at hF
 split at hF
 .rename_i r e fz ε;split at hF
  .rename_i es H η;split at hF
   .rename_i q ι;split at hF
    .rename_i D;simp only[Bool.and_eq_true] at D;obtain⟨⟨E,ο⟩,θ⟩:=D;have E:=Nat.le_of_ble_eq_true E;obtain⟨oc,U,c',rfl,J,ω,hex⟩:=hi.rI c _ ε L s hr;obtain⟨ψ,X⟩:=hex rfl;rw[X,List.drop_zero] at J;simp only[List.length_cons,List.length_nil,aZ,aF] at J;obtain⟨_,_,⟨mb,ms,ξ,rfl⟩,rfl,π⟩:=J;obtain⟨om,ν,a,γ,rfl⟩:=hi.rI r _ η mb ms ξ;obtain⟨z,Q⟩:=O4 γ ι;obtain⟨υ,φ⟩:=O1 ο;obtain⟨σ,τ⟩:=aj θ;have I:w.cell? ⟨L,0,none⟩=some (.map (some mb)):=by
      have:c'[0]?=some (.map (some mb)):=by
       rw[<-Array.getElem?_toList];have:=congrArg (fun l=>l[0]?) π;simpa using this
      simp[World.cell?,U,this]
     have N:a.length=q.length:=by
      have:=congrArg List.length z;simpa using this
     have hD:∀x∈a,∃n∈q,x.key= .int .i64 n:=fun x A=>by
      have:x.key∈q.map encZ:=by rw[<-z];exact List.mem_map.2 ⟨x,A,rfl⟩
      obtain⟨n,hn,e⟩:=List.mem_map.1 this;exact⟨n,hn,e.symm⟩
     let R:Value->Option (DataW Unit×List MemPlace):=fun _=>some (.lit (.bool false),[])
     have W:∀x∈a,∃n,x.key= .int .i64 n/\Go.WideElems.rd P 3 R x=some (.int .i64 n,.lit (.bool false)):=fun x A=>by
      obtain⟨n,hn,e⟩:=hD x A;refine⟨n,e,?_⟩;have:=keyOf_int_mk h3 (σ n hn);unfold Go.WideElems.rd;rw[e,this];rfl
     have V:w.ownsMap P 3 R mb a.length (.map (((⟨a⟩:Array MapEntry).toList.map (Go.WideElems.rg P 3 R)).foldr DataW.insert [])):=by
      refine⟨⟨a⟩,H,ν,⟨?_,⟨fun x A=>?_,?_,?_⟩,fun x A=>?_⟩,Nat.le_refl _,rfl⟩;show a.length<=maxLen;rw[N];unfold maxLen;omega;refine υ _ ?_;rw[<-Q];exact List.mem_map.2 ⟨x,A,rfl⟩;show(a.map (·.born)).Nodup;rw[Q];exact φ;show(a.map (·.key)).Nodup;rw[z];exact List.pairwise_map.2 (List.Pairwise.imp (fun μ e=>μ (by simpa [encZ] using e)) τ);obtain⟨n,_,hy⟩:=W x A;exact⟨_,hy⟩
     have o:(((⟨a⟩:Array MapEntry).toList.map (Go.WideElems.rg P 3 R)).foldr DataW.insert []).Perm (a.map (Go.WideElems.rg P 3 R)):=Go.WideShapes.sorted_perm _
     have S:(a.map (Go.WideElems.rg P 3 R)).map (fun p=>intOf p.1)=q:=by
      rw[List.map_map];have h1:a.map ((fun p=>intOf p.1)∘Go.WideElems.rg P 3 R)=(a.map (·.key)).map fun v=>match v with|.int _ n=>n|_=>0:=by
       rw[List.map_map];refine List.map_congr_left fun x A=>?_;obtain⟨n,e,hy⟩:=W x A;show intOf (Go.WideElems.rg P 3 R x).1=_;rw[Go.WideElems.rg_of hy];simp[intOf,e]
      rw[h1,z,List.map_map];conv=>rhs;rw[<-List.map_id q]
      rfl
     have K:∀i:List Int,i.Perm (intKeys (.map (((⟨a⟩:Array MapEntry).toList.map (Go.WideElems.rg P 3 R)).foldr DataW.insert []):DataW Unit))->i.Perm q:=fun i M=>by
      refine M.trans ?_;have:=o.map (fun p=>intOf p.1);rw[S] at this;exact this
     have m:Maps.size (.map (((⟨a⟩:Array MapEntry).toList.map (Go.WideElems.rg P 3 R)).foldr DataW.insert []):DataW Unit)=q.length:=by
      show(((⟨a⟩:Array MapEntry).toList.map (Go.WideElems.rg P 3 R)).foldr DataW.insert []).length=_;rw[o.length_eq,List.length_map,N]
     have β:L<w.heap.size:=(Array.getElem?_eq_some_iff.1 U).1
     have hz:(⟨L,0+s.2,none⟩:Addr)=⟨L,0,none⟩:=by rw[X]
     rw[hz]
     refine(sk L mb _ _ R w β I V (by rw[m];unfold maxLen;omega) (by rw[m];omega)).mono ?_
     rintro e' w' ⟨u,i,rfl,M,F,T,C⟩
     have M:=K i M
     rw[Xh M] at F
     have d:(rH q).length=i.length:=((Dn q).trans M.symm).length_eq
     have hF:Jn h 3 (rH q)=(v,h'):=Option.some.inj hF
     unfold Jn at hF
     split at hF
     .rename_i j;cases hF;have Y:i=[]:=List.eq_nil_of_length_eq_zero (by rw[<-d];simpa using j);have:=T.2 Y;subst this;exact⟨ρ,_,rfl,by simp only[aF],xF hi C⟩
     .rename_i j;cases hF;obtain⟨hxl,hh⟩:=F;rcases hh with⟨rfl,hz⟩|⟨g,G,cur,rfl,ζ,δ,κ,χ,t,Z⟩
      .exfalso;apply j;rw[List.isEmpty_iff];exact List.eq_nil_of_length_eq_zero (by rw[d];exact hz)
      .refine⟨uL ρ h.next (g,(G - i.length,0)),_,rfl,?_,df hi (o':= .cells cur 3 (0,0)) ⟨cur,rfl,?_,?_,fun hh=>by cases hh⟩ C ζ δ⟩
       .simp only[aF];exact⟨g,(G - i.length,0),G,bV,by rw[d];exact κ,by rw[d];omega,by simp[d]⟩
       .rw[List.drop_zero,List.length_map,d,<-Nat.mul_one i.length,Z];exact qC _ (by
         have:∀l:List Int,lE (l.map encZ)=true:=fun l=>by
          induction l with
          |nil=>rfl
          |cons x l ih=>simp[lE,dT,encZ];exact ih
         exact this _)
       .rw[List.length_map,d,α,t];omega
    .cases hF
   .cases hF
  .cases hF
 .cases hF
end
end Go.Ab
namespace Go.Proofs
open Go.RowKit Go.Maps Go.Sort Go.Shelf
section
theorem Tryz.aBw (m:Nat):AnyZI.SortsIn Tryz.prog Tryz.Hp Fence.wide m:=
 ⟨fun rI d a f W e b c=>callsIn_wide.2 (AnyM.slices_Sort_int Tryz.aAy rI d a f W e b c),
   fun p a W=>callsIn_wide.2 (AnyM.slices_Sort_int_none Tryz.aAy p a W)⟩
theorem Tryz.Yq {H:Type} (c b nn:Nat) (d:DataW H) (R:Value->Option (DataW H×List MemPlace)) (w:World) (hc:c<w.heap.size) (l:w.cell? ⟨c,0,none⟩=some (.map (some b))) (i:w.ownsMap Tryz.prog 3 R b nn d) (g:Maps.size d<=maxLen) (a:Maps.size d*8<=140737488355328):
  Calls Tryz.prog 122 #[.func (.func 170) #[] #[.pointer (some ⟨c,0,none⟩)]] w fun e k=>∃(v:Value) (f:List Int),e= .returned v/\f.Perm (intKeys d)/\
   k.ownsRow w.heap.size 3 1 v f.length ((f.mergeSort (fun x y=>decide (x<=y))).map encZ)/\(v= .slice none 0 0↔f=[])/\Below w.heap.size w k:=by
 refine(callsIn_wide (n:=5)).1 ?_
 have j:SeqGives Fence.wide 2 Tryz.prog 170 #[.pointer (some ⟨c,0,none⟩)] encZ (fun f=>f.Perm (intKeys d)) (Maps.size d) w:=
  AnyZI.keys_gives (ρ:=Tryz.N2) {Tryz.aFm with} Fence.wide _ trivial rfl (by omega) c b nn d _ hc l i
 exact AnyZI.sorted_in Tryz.zy Fence.wide 5 trivial trivial trivial trivial rfl (by omega) (Tryz.aBw _) (enters_of Tryz.func169 (by kernel_rfl) rfl) 170 #[.pointer (some ⟨c,0,none⟩)] trivial (enters_of Tryz.func170 (by kernel_rfl) rfl) _ _ g a _ j
end
end Go.Proofs
namespace Go.Proofs.YtajjljbmfdboaaaGreatDoor
open Go Go.Ab Go.RowKit
section
theorem Xf (p q:Addr) (w:World):
  CallsD Tryz.prog 270 #[.pointer (some p),.pointer (some q)] .returning w fun e c d=>e= .returned (.tuple #[])/\c= .returning/\d=w:=by
 refine callsD_of_wpS Tryz.func270 rfl fun a f b=>?_
 apply wpS_seq
 apply wpS_region
 simp[wpOpsS,go_sem,recoverD,b,Tryz.ntmps270,Exit.thenS]
 refine wpS_cond (t:=false) (by simp[Act.eval,Array.replicate]) ?_
 simp only[Bool.false_eq_true,if_false]
 refine wpS_of_wp (wp_skip ?_)
 cases a
 simp_all [bodyPostS,results,Tryz.results270]
theorem fp {w w':World} (a:se w.heap.size ((w.alloc (.cells #[.int .i64 0] 3)).alloc (.cells #[.bool false] 4)) w') (n:Int) (b:Bool):
  w'.cell? ⟨w.heap.size,0,none⟩=some (.int .i64 0)/\w'.frozen? ⟨w.heap.size,0,none⟩=false/\
  (w'.setCell ⟨w.heap.size,0,none⟩ (.int .i64 n)).cell? ⟨w.heap.size+1,0,none⟩=some (.bool false)/\(w'.setCell ⟨w.heap.size,0,none⟩ (.int .i64 n)).frozen? ⟨w.heap.size+1,0,none⟩=false/\
  ((w'.setCell ⟨w.heap.size,0,none⟩ (.int .i64 n)).setCell ⟨w.heap.size+1,0,none⟩ (.bool b)).cell? ⟨w.heap.size,0,none⟩=some (.int .i64 n)/\
  ((w'.setCell ⟨w.heap.size,0,none⟩ (.int .i64 n)).setCell ⟨w.heap.size+1,0,none⟩ (.bool b)).cell? ⟨w.heap.size+1,0,none⟩=some (.bool b):=by
 have e0:w'.heap[w.heap.size]?=some (.cells #[.int .i64 0] 3 (0,0)):=(a.E4 _ (Nat.le_refl _) (by simp;omega)).trans (by show((w.heap.push _).push _)[w.heap.size]?=_;rw[Array.getElem?_push,aJ6 (by simp),Array.getElem?_push,aJ7 rfl])
 have e1:w'.heap[w.heap.size+1]?=some (.cells #[.bool false] 4 (0,0)):=(a.E4 _ (by omega) (by simp)).trans (by show((w.heap.push _).push _)[w.heap.size+1]?=_;rw[Array.getElem?_push,aJ7 (by simp)])
 have e2:(w'.setCell ⟨w.heap.size,0,none⟩ (.int .i64 n)).heap[w.heap.size]?=some (.cells #[.int .i64 n] 3 (0,0)):=one_setCell e0
 have e3:(w'.setCell ⟨w.heap.size,0,none⟩ (.int .i64 n)).heap[w.heap.size+1]?=some (.cells #[.bool false] 4 (0,0)):=(Below.heap_setCell _ _ _ _ (by simp)).trans e1
 have c:((w'.setCell ⟨w.heap.size,0,none⟩ (.int .i64 n)).setCell ⟨w.heap.size+1,0,none⟩ (.bool b)).heap[w.heap.size]?=some (.cells #[.int .i64 n] 3 (0,0)):=(Below.heap_setCell _ _ _ _ (by simp)).trans e2
 have d:((w'.setCell ⟨w.heap.size,0,none⟩ (.int .i64 n)).setCell ⟨w.heap.size+1,0,none⟩ (.bool b)).heap[w.heap.size+1]?=some (.cells #[.bool b] 4 (0,0)):=one_setCell e3
 exact⟨by simp[World.cell?,e0],by simp[World.frozen?,e0],by simp[World.cell?,e3],by simp[World.frozen?,e3],by simp[World.cell?,c],by simp[World.cell?,d]⟩
set_option maxRecDepth 100000 in
theorem W4 (v x l:Value) (w:World) (S:World->Prop) (n:Int) (b:Bool) (hc:Calls Tryz.prog 334 #[v,x,l] ((w.alloc (.cells #[.int .i64 0] 3)).alloc (.cells #[.bool false] 4)) (fun e a=>e= .returned (.tuple #[.int .i64 n,.bool b])/\se w.heap.size ((w.alloc (.cells #[.int .i64 0] 3)).alloc (.cells #[.bool false] 4)) a/\S a)):
  Calls Tryz.prog 219 #[.iface 311 v,x,l] w fun e a=>e= .returned (.tuple #[.int .i64 n,.bool b])/\∃g,S g/\aE5 w.heap.size (w.heap.size+2) g a:=by
 have o:∀(d:Fn) (first c:Array Value) (w:World),(Instr.makeFunc d first c).run Tryz.prog w= .ok (.func d first c) w:=fun _ _ _ _=>rfl
 have r:∀w:World,(method 556 311 v "May").run Tryz.prog w= .ok (334,v) w:=fun _=>by kernel_rfl
 go_enter_defers Tryz.func219,Tryz.ntmps219
 go_wp2_with (go_at_call 334;refine hc.mono ?_;rintro e a ⟨rfl,m,k⟩;obtain⟨q,z1,c2,z2,j,c5⟩:=fp m n b)
 refine leaves_cons (f:=270) (args:= #[.pointer (some ⟨w.heap.size,0,none⟩),.pointer (some ⟨w.heap.size+1,0,none⟩)]) (by simp) (by simp[go_sem]) ?_
 refine(Xf ⟨w.heap.size,0,none⟩ ⟨w.heap.size+1,0,none⟩ _).mono ?_
 rintro e s p ⟨rfl,rfl,rfl⟩
 simp[Leaves,settle,results,Tryz.results219,go_sem,j,c5]
 refine⟨a,k,⟨fun i _ h=>?_,?_,rfl,rfl,rfl⟩⟩
 .rw[Below.heap_setCell _ _ _ _ (by simp;omega),Below.heap_setCell _ _ _ _ (by simp;omega)]
 .simp
end
end Go.Proofs.YtajjljbmfdboaaaGreatDoor
namespace Go.Proofs.YtajjljbmfdboaaaGreatDoor
open Go Go.Ab
section
set_option maxRecDepth 100000
variable (e0:TypeId) (z0:Nat×Nat) (e1:TypeId) (z1:Nat×Nat) (e2:TypeId) (z2:Nat×Nat) (e3:TypeId) (z3:Nat×Nat)
theorem gf:Va Pr K0 3000 (st4 e0 z0 e1 z1 e2 z2 e3 z3) facts=true:=by kernel_rfl
end
end Go.Proofs.YtajjljbmfdboaaaGreatDoor
namespace Go.Proofs.YtajjljbmfdboaaaGreatDoor
open Go Go.Ab Go.RowKit
section
def Gl (w:World):Prop:=(∃e z,w.heap[0]?=some (.cells ⟨eT⟩ e z))/\(∃e z,w.heap[1]?=some (.cells ⟨sI⟩ e z))/\(∃e z,w.heap[2]?=some (.cells ⟨qp⟩ e z))/\(∃e z,w.heap[3]?=some (.cells ⟨w5⟩ e z))
theorem u9 {w:World} {e0 e1 e2 e3:TypeId} {z0 z1 z2 z3:Nat×Nat} (d:w.heap[0]?=some (.cells ⟨eT⟩ e0 z0)) (f:w.heap[1]?=some (.cells ⟨sI⟩ e1 z1)) (g:w.heap[2]?=some (.cells ⟨qp⟩ e2 z2)) (j:w.heap[3]?=some (.cells ⟨w5⟩ e3 z3)):yf Pr 4 (zz e0 z0 e1 z1 e2 z2 e3 z3) w:=by
 have plain:∀(l:List Value) (e:TypeId) (z:Nat×Nat) (b:Nat),lE l=true->w.heap[b]?=some (.cells ⟨l⟩ e z)->∃c,w.heap[b]?=some c/\∀ρ,uF Pr ρ (0,0) (.cells l e z true) c:=fun l e z b k h=>
  ⟨_,h,fun ρ=>⟨⟨l⟩,rfl,by rw[List.drop_zero,List.take_of_length_le (by simp)];exact qC _ k,by simp,fun _=>⟨rfl,rfl⟩⟩⟩
 intro i o m a;unfold zz at a;have:i=0\/i=1\/i=2\/i=3:=by omega
 rcases this with rfl|rfl|rfl|rfl;cases a;exact plain _ _ _ 0 (by rfl) d;cases a;exact plain _ _ _ 1 (by rfl) f;cases a;exact plain _ _ _ 2 (by rfl) g;cases a;exact plain _ _ _ 3 (by rfl) j
theorem yj {B:Nat} (hB:4<=B) {w w':World} (h:Below B w w'):Gl w->Gl w':=fun⟨⟨e0,z0,a⟩,⟨e1,z1,b⟩,⟨e2,z2,c⟩,⟨e3,z3,d⟩⟩=>
 ⟨⟨e0,z0,(h.block 0 (by omega)).trans a⟩,⟨e1,z1,(h.block 1 (by omega)).trans b⟩,⟨e2,z2,(h.block 2 (by omega)).trans c⟩,⟨e3,z3,(h.block 3 (by omega)).trans d⟩⟩
theorem aCj:Pr.underlying 3=some (.int .i64):=by kernel_rfl
theorem aCi:Pr.cellsOf 3=1:=by kernel_rfl
noncomputable def aEe (B:Nat) (hB:4<=B):Ctx Pr B K0 where
 G:=Gl
 E4:=fun w M h=>yj hB h
 call:=fun f e v w d=>by
  unfold K0 at d;split at d<;>cases d
 fwd:=fun f e g J d ρ i w k L=>by
  unfold K0 at d;split at d;cases d;rename_i v x l;cases d;simp only[aZ] at k;obtain⟨_,_,m,⟨r,_,H,⟨p,_,E,rfl,rfl⟩,rfl⟩,rfl⟩:=k;simp only[aF] at m;obtain⟨q,m,rfl⟩:=m;refine⟨[q,r,p],(w.alloc (.cells #[.int .i64 0] 3)).alloc (.cells #[.bool false] 4),aZ.cons m (aZ.cons H (aZ.cons E rfl)),((Below.refl _ _).alloc (Nat.le_refl _) _).alloc (by simp) _,fun a S j C=>?_⟩;unfold Po at j;split at j;rename_i n b;have o:((w.alloc (.cells #[.int .i64 0] 3)).alloc (.cells #[.bool false] 4)).heap.size=w.heap.size+2:=by simp
  rw[o];exact W4 q r p w S n b C;cases j;cases d
 host:=fun f e F d h v K hF ρ w i D _ k=>by
  unfold K0 at d;split at d;rename_i c;cases d;exact Vf aCj aCi (fun c b I s R w t u y z A=>Tryz.Yq c b I s R w t u y z A) hF D k;cases d;cases d
theorem Rc {w:World} (a:Gl w):4<=w.heap.size:=by
 obtain⟨_,_,_,⟨e,z,h⟩⟩:=a;exact(Array.getElem?_eq_some_iff.1 h).1
theorem U4 {w:World} {e0 e1 e2 e3:TypeId} {z0 z1 z2 z3:Nat×Nat} (b:4<=w.heap.size) (h:yf Pr 4 (zz e0 z0 e1 z1 e2 z2 e3 z3) w):Reads Pr 4 (yT 4 (zz e0 z0 e1 z1 e2 z2 e3 z3) []) (rX 4 []) w:=
 qy (rs:=[]) (by rw[Un];exact Nat.le_refl _) b h (fun r a=>by cases a)
theorem H2:(facts.all fun x=>lE x.2.1&&dT x.2.2)=true:=by kernel_rfl
theorem ni {w:World} (a:Gl w):∀x∈facts,Calls Pr x.1 ⟨x.2.1⟩ w fun e i=>e= .returned x.2.2/\Below w.heap.size w i:=by
 have b:=Rc a;obtain⟨⟨e0,z0,c⟩,⟨e1,z1,d⟩,⟨e2,z2,f⟩,⟨e3,z3,g⟩⟩:=id a;exact Xu H2 (gf e0 z0 e1 z1 e2 z2 e3 z3) (aEe w.heap.size b) a (U4 b (u9 c d f g))
noncomputable def aHp (B:Nat) (hB:4<=B):Ctx Pr B K1:=(aEe B hB).Xo facts H2 fun x b _w a=>ni a x b
theorem od {f:FuncId} {n:Nat} (j:∀(e0:TypeId) (z0:Nat×Nat) (e1:TypeId) (z1:Nat×Nat) (e2:TypeId) (z2:Nat×Nat) (e3:TypeId) (z3:Nat×Nat),((run Pr K1 n (.call f []) (st4 e0 z0 e1 z1 e2 z2 e3 z3)).any fun r=>nG r.1.v (.bool true))=true) {w:World} (a:Gl w):
  Calls Pr f #[] w fun e k=>e= .returned (.bool true)/\Below w.heap.size w k:=by
 have b:=Rc a
 obtain⟨⟨e0,z0,c⟩,⟨e1,z1,d⟩,⟨e2,z2,g⟩,⟨e3,z3,i⟩⟩:=id a
 exact S5 rfl (j e0 z0 e1 z1 e2 z2 e3 z3) (aHp w.heap.size b) a (U4 b (u9 c d g i))
end
section
theorem own:ownKnob Tryz.prog.godebug=none:=by kernel_rfl
theorem laidOut:laidOutB Tryz.prog=true:=by kernel_rfl
theorem g0:Tryz.prog.globalNamed "donjon/place.limits"=some 0:=by kernel_rfl
theorem g1:Tryz.prog.globalNamed "donjon/isa.ops"=some 1:=by kernel_rfl
theorem g2:Tryz.prog.globalNamed "donjon/note.kinds"=some 2:=by kernel_rfl
theorem g3:Tryz.prog.globalNamed "donjon/moesi.rows"=some 3:=by kernel_rfl
theorem aBe {W:World} {l:List (String×DataW Unit)} (a:(l.all fun x=>x.2.handleName?.isNone)=true) (h:laidMetH Tryz.prog l W) (f:("donjon/place.limits",Rows.laid_donjon_place_limits)∈l) (g:("donjon/isa.ops",Rows.laid_donjon_isa_ops)∈l)
  (i:("donjon/note.kinds",Rows.laid_donjon_note_kinds)∈l) (j:("donjon/moesi.rows",Rows.laid_donjon_moesi_rows)∈l):Gl W:=by
 obtain⟨e0,z0,b⟩:=yH (l:=eT) 8 a h f g0 (t:=288) (by kernel_rfl) (by kernel_rfl)
 obtain⟨e1,z1,c⟩:=yH (l:=sI) 8 a h g g1 (t:=381) (by kernel_rfl) (by kernel_rfl)
 obtain⟨e2,z2,d⟩:=yH (l:=qp) 8 a h i g2 (t:=407) (by kernel_rfl) (by kernel_rfl)
 obtain⟨e3,z3,e⟩:=yH (l:=w5) 8 a h j g3 (t:=427) (by kernel_rfl) (by kernel_rfl)
 exact⟨⟨e0,z0,b⟩,⟨e1,z1,c⟩,⟨e2,z2,d⟩,⟨e3,z3,e⟩⟩
theorem nj:pL Tryz.prog 8 23=some [some .i64,some .i64,some .i64,some .i64]:=by kernel_rfl
theorem aGd {l:List Value} (g:Flat [some .i64,some .i64,some .i64,some .i64] l):∃a b c d:Int,l=[I a,I b,I c,I d]:=by
 obtain⟨a,n,e1,i⟩:=gS g;obtain⟨b,o,e2,j⟩:=gS i;obtain⟨c,p,e3,k⟩:=gS j;obtain⟨d,q,e,m⟩:=gS k;have f:=zO m;subst f e e3 e2 e1;exact⟨a,b,c,d,rfl⟩
end
end Go.Proofs.YtajjljbmfdboaaaGreatDoor
