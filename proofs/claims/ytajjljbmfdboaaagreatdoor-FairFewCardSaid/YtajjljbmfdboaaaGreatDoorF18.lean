/- A part of the proof. -/
import Derived.Test.YtajjljbmfdboaaaGreatDoorF6
import Derived.Test.YtajjljbmfdboaaaGreatDoorF8
import Derived.Shelf.SlIterI.Nil
import Derived.Shelf.SortM.Plain
import Derived.Shelf.SortM.SortNone
import Derived.Ground.GgzProg
import Derived.Ground.SlgmProg
import Derived.Test.YtajjljbmfdboaaaGreatDoorChecked
import Derived.Test.YtajjljbmfdboaaaGreatDoorF5
import Derived.Maps.Own
import Derived.Maps.Keyed
import Derived.Maps.Range
import Derived.Lib.SlKeysI
import Derived.Tactics
import Derived.Tactics2
import Derived.Defers
import Derived.Recover
import Derived.Laws.Pointers
import Derived.OneCell
import Derived.Below
import Derived.Test.YtajjljbmfdboaaaGreatDoorTie
import Derived.Test.YtajjljbmfdboaaaGreatDoorCards
import Derived.LaidMore
import Derived.SevenTiedAt
section
namespace Go.Proofs.YtajjljbmfdboaaaGreatDoor
open Go Go.Ab
def fB:List Value:=[
 .int .i64 4,.int .i64 16,.int .i64 8,.int .i64 4,.int .i64 16,.int .i64 8,.int .i64 4]
def tU:List Value:=[
 .string ⟨#[]⟩,.int .i64 0,.int .i64 0,.int .i64 0,.string ⟨#[115,101,116]⟩,.int .i64 1,.int .i64 2,.int .i64 0,.string ⟨#[97,100,100]⟩,.int .i64 1,.int .i64 1,
  .int .i64 1,.string ⟨#[108,111,97,100]⟩,.int .i64 1,.int .i64 1,.int .i64 0,.string ⟨#[115,116,111,114,101]⟩,.int .i64 1,.int .i64 1,.int .i64 0,
  .string ⟨#[115,119,97,112]⟩,.int .i64 1,.int .i64 1,.int .i64 0,.string ⟨#[102,101,110,99,101]⟩,.int .i64 0,.int .i64 0,.int .i64 0,
  .string ⟨#[119,111,114,108,100]⟩,.int .i64 3,.int .i64 0,.int .i64 0,.string ⟨#[99,97,108,108]⟩,.int .i64 4,.int .i64 1,.int .i64 1,.string ⟨#[106,117,109,112]⟩,
  .int .i64 5,.int .i64 0,.int .i64 0,.string ⟨#[122,101,114,111]⟩,.int .i64 1,.int .i64 5,.int .i64 0,.string ⟨#[104,97,108,116]⟩,.int .i64 0,.int .i64 0,.int .i64 0]
def nu:List Value:=[
 .string ⟨#[]⟩,.int .i64 0,.int .i64 0,.int .i64 0,.int .i64 0,.int .i64 0,.int .i64 0,.int .i64 0,.int .i64 0,.string ⟨#[103,101,116,115]⟩,.int .i64 0,.int .i64 1,
  .int .i64 2,.int .i64 3,.int .i64 0,.int .i64 0,.int .i64 0,.int .i64 0,.string ⟨#[103,101,116,109]⟩,.int .i64 0,.int .i64 1,.int .i64 2,.int .i64 3,.int .i64 0,
  .int .i64 0,.int .i64 0,.int .i64 0,.string ⟨#[112,117,116]⟩,.int .i64 0,.int .i64 1,.int .i64 2,.int .i64 4,.int .i64 8,.int .i64 9,.int .i64 10,.int .i64 0,
  .string ⟨#[100,111,110,101]⟩,.int .i64 1,.int .i64 1,.int .i64 2,.int .i64 0,.int .i64 0,.int .i64 0,.int .i64 0,.int .i64 0,.string ⟨#[114,101,112,108,121]⟩,
  .int .i64 1,.int .i64 1,.int .i64 2,.int .i64 5,.int .i64 8,.int .i64 9,.int .i64 10,.int .i64 11,.string ⟨#[119,97,108,107]⟩,.int .i64 0,.int .i64 1,.int .i64 12,
  .int .i64 0,.int .i64 0,.int .i64 0,.int .i64 0,.int .i64 0,.string ⟨#[100,114,111,112,112,101,100]⟩,.int .i64 1,.int .i64 1,.int .i64 13,.int .i64 0,.int .i64 0,
  .int .i64 0,.int .i64 0,.int .i64 0,.string ⟨#[103,114,97,110,116]⟩,.int .i64 2,.int .i64 1,.int .i64 2,.int .i64 4,.int .i64 6,.int .i64 8,.int .i64 9,.int .i64 0,
  .string ⟨#[110,97,99,107]⟩,.int .i64 2,.int .i64 1,.int .i64 2,.int .i64 11,.int .i64 0,.int .i64 0,.int .i64 0,.int .i64 0,.string ⟨#[112,117,116,97,99,107]⟩,
  .int .i64 2,.int .i64 1,.int .i64 2,.int .i64 0,.int .i64 0,.int .i64 0,.int .i64 0,.int .i64 0,.string ⟨#[112,114,111,98,101]⟩,.int .i64 3,.int .i64 1,.int .i64 2,
  .int .i64 7,.int .i64 0,.int .i64 0,.int .i64 0,.int .i64 0,.string ⟨#[119,97,108,107,101,100]⟩,.int .i64 2,.int .i64 1,.int .i64 8,.int .i64 9,.int .i64 12,
  .int .i64 0,.int .i64 0,.int .i64 0,.string ⟨#[100,114,111,112]⟩,.int .i64 3,.int .i64 1,.int .i64 13,.int .i64 0,.int .i64 0,.int .i64 0,.int .i64 0,.int .i64 0]
def jb:List Value:=[
 .string ⟨#[73]⟩,.bool false,.bool false,.bool false,.bool false,.int .i64 0,.int .i64 0,.int .i64 0,.string ⟨#[83]⟩,.bool true,.bool false,.bool false,.bool false,
  .int .i64 0,.int .i64 1,.int .i64 0,.string ⟨#[69]⟩,.bool true,.bool true,.bool false,.bool true,.int .i64 4,.int .i64 1,.int .i64 0,.string ⟨#[79]⟩,.bool true,
  .bool false,.bool true,.bool true,.int .i64 0,.int .i64 3,.int .i64 0,.string ⟨#[77]⟩,.bool true,.bool true,.bool true,.bool true,.int .i64 4,.int .i64 3,.int .i64 0]
def wg (e0:TypeId) (z0:Nat×Nat) (e1:TypeId) (z1:Nat×Nat) (e2:TypeId) (z2:Nat×Nat) (e3:TypeId) (z3:Nat×Nat):Nat→Option lG:=fun i=>
 if i=0 then some (.cells fB e0 z0 true) else if i=1 then some (.cells tU e1 z1 true) else if i=2 then some (.cells nu e2 z2 true) else if i=3 then some (.cells jb e3 z3 true) else none
def Ri:Value:= .agg ⟨[I 1,I 1,I 1,I 1,I 2,I 1,I 1]⟩
def facts:Hp:=[
 (89,[Ri],I 0),(63,[Ri],I 2),(90,[Ri],I 4),
  (182,[Ri,I 0],.tuple ⟨[I 0,I 0,I 0]⟩),(182,[Ri,I 1],.tuple ⟨[I 0,I 1,I 0]⟩),(182,[Ri,I 2],.tuple ⟨[I 1,I 0,I 0]⟩),(182,[Ri,I 3],.tuple ⟨[I 1,I 1,I 0]⟩),
  (191,[Ri,I 0],.tuple ⟨[I 0,I 0]⟩),(238,[Ri,I 0],.tuple ⟨[I 0,I 0]⟩),(238,[Ri,I 1],.tuple ⟨[I 0,I 0]⟩),
  (213,[Ri,.agg ⟨[I 1,I 0,I 0,I 1,I 0,I 0,I 0,.bool false,I 0]⟩],I 0),
  (213,[Ri,.agg ⟨[I 12,I 0,I 0,I 0,I 0,I 4,I 0,.bool false,I 0]⟩],I 0),
  (213,[Ri,.agg ⟨[I 2,I 0,I 0,I 1,I 0,I 0,I 0,.bool false,I 0]⟩],I 0),
  (213,[Ri,.agg ⟨[I 4,I 0,I 0,I 0,I 0,I 0,I 0,.bool false,I 0]⟩],I 0),
  (213,[Ri,.agg ⟨[I 6,I 0,I 0,I 0,I 0,I 0,I 0,.bool false,I 0]⟩],I 0),
  (213,[Ri,.agg ⟨[I 8,I 0,I 0,I 1,I 2,I 7,I 0,.bool false,I 0]⟩],I 0),
  (213,[Ri,.agg ⟨[I 8,I 0,I 0,I 1,I 4,I 0,I 0,.bool false,I 0]⟩],I 0)]
noncomputable def K1:FuncId→List Value→Option hJ:=Wy K0 facts
variable (e0:TypeId) (z0:Nat×Nat) (e1:TypeId) (z1:Nat×Nat) (e2:TypeId) (z2:Nat×Nat) (e3:TypeId) (z3:Nat×Nat)
noncomputable def st4:AH:=Go.Ab.start 4 (vZ 4 (wg e0 z0 e1 z1 e2 z2 e3 z3) [])
end Go.Proofs.YtajjljbmfdboaaaGreatDoor
end
section
namespace Go.Proofs
open Go.Shelf
def Tryz.K4:Go.Shelf.Ren:=⟨fun|7=>123|10=>170|n=>n,fun|23=>170|26=>3|3=>237|28=>133|0=>0|27=>132|33=>38|4=>4|n=>n,fun|n=>n⟩
theorem Tryz.aDx:Go.Proofs.SlLaysZI.n7 Tryz.prog Tryz.K4:={
 mixed:=by kernel_rfl
 f7:=⟨Tryz.f123.name,by decide,Tryz.func123.trans (congrArg some (by kernel_rfl))⟩
 f10:=⟨Tryz.f170.name,by decide,Tryz.func170.trans (congrArg some (by kernel_rfl))⟩
 t0:=Tryz.underlying0
 a0:=Tryz.isAgg0
 z0:=Tryz.sizeOf0
 v0:=Tryz.zeroValue0
 t4:=Tryz.underlying4
 a4:=Tryz.isAgg4
 z4:=Tryz.sizeOf4
 v4:=Tryz.zeroValue4
 t23:=Tryz.underlying170
 a23:=Tryz.isAgg170
 z23:=Tryz.sizeOf170
 v23:=Tryz.zeroValue170
 t26:=Tryz.underlying3
 a26:=Tryz.isAgg3
 z26:=Tryz.sizeOf3
 v26:=Tryz.zeroValue3
 t27:=Tryz.underlying132
 a27:=Tryz.isAgg132
 z27:=Tryz.sizeOf132
 v27:=Tryz.zeroValue132
 t28:=Tryz.underlying133
 a28:=Tryz.isAgg133
 z28:=Tryz.sizeOf133
 v28:=Tryz.zeroValue133
 t33:=Tryz.underlying38
 a33:=Tryz.isAgg38
 z33:=Tryz.sizeOf38
 v33:=Tryz.zeroValue38}
def Tryz.E0:Go.Shelf.Ren:=⟨fun|6=>122|8=>168|9=>169|11=>225|13=>174|12=>226|23=>236|24=>237|14=>273|15=>274|16=>275|17=>276|18=>277|19=>278|20=>279|21=>280|22=>281|25=>307|26=>283|27=>284|28=>308|29=>309|30=>175|31=>313|n=>n,fun|26=>3|28=>133|24=>60|0=>0|3=>3|37=>327|48=>375|50=>377|4=>4|40=>369|39=>368|45=>51|5=>5|9=>9|51=>415|55=>280|57=>434|58=>435|33=>38|n=>n,fun|n=>n⟩
theorem Tryz.vu:Go.Proofs.SlLaysZI.n6 Tryz.prog Tryz.E0:={
 mixed:=by kernel_rfl
 f6:=⟨Tryz.f122.name,by decide,Tryz.func122.trans (congrArg some (by kernel_rfl))⟩
 f8:=⟨Tryz.f168.name,by decide,Tryz.func168.trans (congrArg some (by kernel_rfl))⟩
 f11:=⟨Tryz.f225.name,by decide,Tryz.func225.trans (congrArg some (by kernel_rfl))⟩
 t0:=Tryz.underlying0
 a0:=Tryz.isAgg0
 z0:=Tryz.sizeOf0
 v0:=Tryz.zeroValue0
 t24:=Tryz.underlying60
 a24:=Tryz.isAgg60
 z24:=Tryz.sizeOf60
 v24:=Tryz.zeroValue60
 t26:=Tryz.underlying3
 a26:=Tryz.isAgg3
 z26:=Tryz.sizeOf3
 v26:=Tryz.zeroValue3
 t28:=Tryz.underlying133
 a28:=Tryz.isAgg133
 z28:=Tryz.sizeOf133
 v28:=Tryz.zeroValue133
 i26:=by kernel_rfl}
def Tryz.fk:Go.Shelf.Ren:=⟨fun|5=>169|8=>174|7=>226|19=>236|20=>237|10=>273|11=>274|12=>275|13=>276|14=>277|15=>278|16=>279|17=>280|18=>281|30=>307|31=>283|32=>284|33=>308|34=>309|35=>175|40=>313|n=>n,fun|23=>60|25=>3|3=>3|32=>327|22=>60|0=>0|44=>375|46=>377|4=>4|36=>369|35=>368|41=>51|5=>5|9=>9|53=>415|57=>280|63=>434|64=>435|n=>n,fun|n=>n⟩
theorem Tryz.yo:Go.Proofs.SlLaysM.n5 Tryz.prog Tryz.fk:={
 mixed:=by kernel_rfl
 f5:=⟨Tryz.f169.name,by decide,Tryz.func169.trans (congrArg some (by kernel_rfl))⟩
 f7:=⟨Tryz.f226.name,by decide,Tryz.func226.trans (congrArg some (by kernel_rfl))⟩
 f8:=Tryz.func174.trans (congrArg some (by kernel_rfl))
 f10:=⟨Tryz.f273.name,by decide,Tryz.func273.trans (congrArg some (by kernel_rfl))⟩
 f11:=⟨Tryz.f274.name,by decide,Tryz.func274.trans (congrArg some (by kernel_rfl))⟩
 f12:=⟨Tryz.f275.name,by decide,Tryz.func275.trans (congrArg some (by kernel_rfl))⟩
 f13:=⟨Tryz.f276.name,by decide,Tryz.func276.trans (congrArg some (by kernel_rfl))⟩
 f14:=⟨Tryz.f277.name,by decide,Tryz.func277.trans (congrArg some (by kernel_rfl))⟩
 f15:=⟨Tryz.f278.name,by decide,Tryz.func278.trans (congrArg some (by kernel_rfl))⟩
 f16:=⟨Tryz.f279.name,by decide,Tryz.func279.trans (congrArg some (by kernel_rfl))⟩
 f17:=⟨Tryz.f280.name,by decide,Tryz.func280.trans (congrArg some (by kernel_rfl))⟩
 f18:=⟨Tryz.f281.name,by decide,Tryz.func281.trans (congrArg some (by kernel_rfl))⟩
 f19:=Tryz.func236.trans (congrArg some (by kernel_rfl))
 f20:=Tryz.func237.trans (congrArg some (by kernel_rfl))
 f30:=⟨Tryz.f307.name,by decide,Tryz.func307.trans (congrArg some (by kernel_rfl))⟩
 f31:=Tryz.func283.trans (congrArg some (by kernel_rfl))
 f32:=Tryz.func284.trans (congrArg some (by kernel_rfl))
 f33:=⟨Tryz.f308.name,by decide,Tryz.func308.trans (congrArg some (by kernel_rfl))⟩
 f34:=⟨Tryz.f309.name,by decide,Tryz.func309.trans (congrArg some (by kernel_rfl))⟩
 f35:=⟨Tryz.f175.name,by decide,Tryz.func175.trans (congrArg some (by kernel_rfl))⟩
 f40:=⟨Tryz.f313.name,by decide,Tryz.func313.trans (congrArg some (by kernel_rfl))⟩
 t0:=Tryz.underlying0
 a0:=Tryz.isAgg0
 z0:=Tryz.sizeOf0
 v0:=Tryz.zeroValue0
 t3:=Tryz.underlying3
 a3:=Tryz.isAgg3
 z3:=Tryz.sizeOf3
 v3:=Tryz.zeroValue3
 t4:=Tryz.underlying4
 a4:=Tryz.isAgg4
 z4:=Tryz.sizeOf4
 v4:=Tryz.zeroValue4
 t5:=Tryz.underlying5
 a5:=Tryz.isAgg5
 z5:=Tryz.sizeOf5
 v5:=Tryz.zeroValue5
 t9:=Tryz.underlying9
 a9:=Tryz.isAgg9
 z9:=Tryz.sizeOf9
 v9:=Tryz.zeroValue9
 t22:=Tryz.underlying60
 a22:=Tryz.isAgg60
 z22:=Tryz.sizeOf60
 v22:=Tryz.zeroValue60
 t23:=Tryz.underlying60
 a23:=Tryz.isAgg60
 z23:=Tryz.sizeOf60
 v23:=Tryz.zeroValue60
 t25:=Tryz.underlying3
 a25:=Tryz.isAgg3
 z25:=Tryz.sizeOf3
 v25:=Tryz.zeroValue3
 t32:=Tryz.underlying327
 a32:=Tryz.isAgg327
 z32:=Tryz.sizeOf327
 v32:=Tryz.zeroValue327
 t35:=Tryz.underlying368
 a35:=Tryz.isAgg368
 z35:=Tryz.sizeOf368
 v35:=Tryz.zeroValue368
 t36:=Tryz.underlying369
 a36:=Tryz.isAgg369
 z36:=Tryz.sizeOf369
 v36:=Tryz.zeroValue369
 t41:=Tryz.underlying51
 a41:=Tryz.isAgg51
 z41:=Tryz.sizeOf51
 v41:=Tryz.zeroValue51
 t44:=Tryz.underlying375
 a44:=Tryz.isAgg375
 z44:=Tryz.sizeOf375
 v44:=Tryz.zeroValue375
 t46:=Tryz.underlying377
 a46:=Tryz.isAgg377
 z46:=Tryz.sizeOf377
 v46:=Tryz.zeroValue377
 t53:=Tryz.underlying415
 a53:=Tryz.isAgg415
 z53:=Tryz.sizeOf415
 v53:=Tryz.zeroValue415
 t57:=Tryz.underlying280
 a57:=Tryz.isAgg280
 z57:=Tryz.sizeOf280
 v57:=Tryz.zeroValue280
 t63:=Tryz.underlying434
 a63:=Tryz.isAgg434
 z63:=Tryz.sizeOf434
 v63:=Tryz.zeroValue434
 t64:=Tryz.underlying435
 a64:=Tryz.isAgg435
 z64:=Tryz.sizeOf435
 v64:=Tryz.zeroValue435}
end Go.Proofs
end
section
namespace Go.Ab
open Go.RowKit Go.Maps
variable {P:Program} {B:Nat} {ρ:gQ} {h:AH} {w:World}
theorem cf (hi:Inv P B ρ h w) {o:lG} {o':Obj} {g:Nat} {s:Nat×Nat} {w':World} (hb:rZ P (sL ρ h.next (g,s)) s o o') (hbel:Below w.heap.size w w') (hge:w.heap.size≤g) (hg:w'.heap[g]?=some o'):
  kM P B ρ h w (sL ρ h.next (g,s)) (h.alloc o) w':=by
 have hext:Ext ρ (sL ρ h.next (g,s)):=Ext.sL (hi.fresh _ (Nat.le_refl _))
 have hget:∀j,(h.alloc o).get j=if j=h.next then some o else h.get j:=fun j=>AH.tO hi.bn
 refine {ext:=hext,inv:=?_,un:=?_,lQ:=?_,stay:=fun j hj hn=>by rw[hget,if_neg (by omega)];exact hn,frame:=?_,range:=?_,base:=rfl,tJ:=?_,next:=by simp,size:=hbel.size,os:=hbel.os,out:=hbel.output,tape:=hbel.tape}
 ·refine {pM:=?_,inj:=?_,low:=?_,old:=?_,fresh:=?_,gM:=?_,oQ:=?_,size:=Nat.le_trans hi.size hbel.size,bn:=Nat.le_succ_of_le hi.bn}
  ·intro i o1 hg1 b s1 hr
   rw[hget] at hg1
   by_cases e:i=h.next
   ·subst e
    rw[if_pos rfl] at hg1;cases hg1
    rw[bK] at hr;cases hr
    exact⟨o',hg,hb⟩
   ·rw[if_neg e] at hg1
    rw[bQ e] at hr
    obtain⟨o2,h2,h3⟩:=hi.pM i o1 hg1 b s1 hr
    exact⟨o2,(hbel.block b (Array.getElem?_eq_some_iff.1 h2).1).trans h2,h3.mono hext⟩
  ·intro i j b si sj hbi hbj gi gj ri rj
   rw[hget] at gi gj
   by_cases e:i=h.next
   ·by_cases e':j=h.next
    ·rw[e,e']
    ·rw[if_neg e'] at gj
     rw[bQ e'] at rj
     obtain⟨oj,hoj⟩:=Option.isSome_iff_exists.1 gj
     obtain⟨o2,h2,_⟩:=hi.pM j oj hoj b sj rj
     subst e
     rw[bK] at ri;cases ri
     have:=(Array.getElem?_eq_some_iff.1 h2).1
     omega
   ·rw[if_neg e] at gi
    rw[bQ e] at ri
    by_cases e':j=h.next
    ·obtain⟨oi,hoi⟩:=Option.isSome_iff_exists.1 gi
     obtain⟨o2,h2,_⟩:=hi.pM i oi hoi b si ri
     subst e'
     rw[bK] at rj;cases rj
     have:=(Array.getElem?_eq_some_iff.1 h2).1
     omega
    ·rw[if_neg e'] at gj
     rw[bQ e'] at rj
     exact hi.inj i j b si sj hbi hbj gi gj ri rj
  ·intro i b s1 hbi gi ri
   rw[hget] at gi
   by_cases e:i=h.next
   ·subst e;rw[bK] at ri;cases ri;exact Nat.le_trans hi.size hge
   ·rw[if_neg e] at gi;rw[bQ e] at ri
    exact hi.low i b s1 hbi gi ri
  ·intro i b s1 hbi ri
   have e:i≠h.next:=fun e=>by have:=hi.bn;simp at hbi;omega
   rw[bQ e] at ri
   exact hi.old i b s1 hbi ri
  ·intro i hn
   simp at hn
   rw[bQ (by omega)]
   exact hi.fresh i (by omega)
  ·intro i hn
   simp at hn
   rw[hget,if_neg (by omega)]
   exact hi.gM i (by omega)
  ·intro g' hg'
   exact hext _ _ (hi.oQ g' hg')
 ·intro i hn hr
  rw[bQ (by omega)];exact hr
 ·intro i hn hr
  rw[hget,if_neg (by omega)]
 ·intro b hb' _
  exact hbel.block b hb'
 ·intro i b s1 hbi gi ri hlt'
  rw[hget] at gi
  by_cases e:i=h.next
  ·subst e;rw[bK] at ri;cases ri;omega
  ·rw[if_neg e] at gi;rw[bQ e] at ri
   exact⟨i,s1,hbi,gi,ri⟩
 ·intro i hn
  rw[hget,if_neg (by have:=hi.bn;omega)]
theorem Dt (x:Int):∀l:List Int,(Ax x l).Perm (x::l)
 |[]=>List.Perm.refl _
 |y::l=>by
  unfold Ax
  split
  ·exact List.Perm.refl _
  ·exact((Dt x l).cons y).trans (List.Perm.swap x y l)
theorem A5:∀l:List Int,(pK l).Perm l
 |[]=>List.Perm.refl _
 |x::l=>(Dt x (pK l)).trans ((A5 l).cons x)
theorem Ch (x:Int):∀l:List Int,l.Pairwise (·≤·)→(Ax x l).Pairwise (·≤·)
 |[],_=>by simp[Ax]
 |y::l,h=>by
  unfold Ax
  split
  ·rename_i hx
   refine List.Pairwise.cons (fun z hz=>?_) h
   rcases List.mem_cons.1 hz with rfl|hz
   ·exact hx
   ·exact Int.le_trans hx (List.rel_of_pairwise_cons h hz)
  ·rename_i hx
   refine List.Pairwise.cons (fun z hz=>?_) (Ch x l h.of_cons)
   rcases List.mem_cons.1 ((Dt x l).mem_iff.1 hz) with rfl|hz
   ·omega
   ·exact List.rel_of_pairwise_cons h hz
theorem zZ:∀l:List Int,(pK l).Pairwise (·≤·)
 |[]=>List.Pairwise.nil
 |x::l=>Ch x _ (zZ l)
theorem Vb {l ss:List Int} (h:ss.Perm l):ss.mergeSort (fun x y=>decide (x≤y))=pK l:=by
 have tr:∀a b c:Int,(fun x y=>decide (x≤y):Int→Int→Bool) a b=true→(fun x y=>decide (x≤y):Int→Int→Bool) b c=true→(fun x y=>decide (x≤y):Int→Int→Bool) a c=true:=fun a b c h1 h2=>by simp only[decide_eq_true_eq] at*;exact Int.le_trans h1 h2
 have to:∀a b:Int,((fun x y=>decide (x≤y):Int→Int→Bool) a b||(fun x y=>decide (x≤y):Int→Int→Bool) b a)=true:=fun a b=>by simp only[Bool.or_eq_true,decide_eq_true_eq];exact Int.le_total a b
 refine List.Perm.eq_of_pairwise (le:=(·≤·)) (fun a b _ _ h1 h2=>Int.le_antisymm h1 h2) ?_ (zZ l) (((List.mergeSort_perm ss _).trans h).trans (A5 l).symm)
 exact(List.pairwise_mergeSort tr to ss).imp fun h=>by simpa using h
theorem K3:∀{es:List (Value×Value×Nat)} {es':List MapEntry} {ks:List Int},jG ρ es es'→keysOf es=some ks→es'.map (·.key)=ks.map encZ∧es'.map (·.born)=es.map (·.2.2)
 |[],es',ks,hr,h=>by
  simp[keysOf] at h;subst h
  simp only[jG] at hr
  subst hr;exact⟨rfl,rfl⟩
 |(k,v,t)::es,es',ks,hr,h=>by
  unfold keysOf at h
  split at h
  ·rename_i e;cases e
  ·rename_i n v' t' es2 e
   cases e
   simp only[Option.map_eq_some_iff] at h
   obtain⟨l,hl,rfl⟩:=h
   simp only[jG] at hr
   obtain⟨k',v2,tl,h1,h2,h3,rfl⟩:=hr
   simp only[aD] at h1
   obtain⟨a,b⟩:=K3 h3 hl
   subst h1
   exact⟨by simp[a,encZ],by simp[b]⟩
  ·cases h
theorem Lj {clock:Nat}:∀{es:List (Value×Value×Nat)},zC clock es=true→(∀x∈es.map (·.2.2),x<clock)∧(es.map (·.2.2)).Nodup
 |[],_=>⟨by simp,by simp⟩
 |x::l,h=>by
  simp only[zC,Bool.and_eq_true] at h
  obtain⟨⟨h1,h2⟩,h3⟩:=h
  obtain⟨a,b⟩:=Lj h3
  refine⟨fun y hy=>?_,?_⟩
  ·rcases List.mem_cons.1 hy with rfl|hy
   ·simpa [Nat.blt_eq] using h1
   ·exact a y hy
  ·refine List.nodup_cons.2 ⟨fun hm=>?_,b⟩
   obtain⟨y,hy,e⟩:=List.mem_map.1 hm
   have:=List.all_eq_true.1 h2 y hy
   rw[e] at this
   simp at this
theorem Xf:∀{ks:List Int},Kv ks=true→(∀x∈ks,(Lit.int .i64 x).wf=true)∧ks.Nodup
 |[],_=>⟨by simp,by simp⟩
 |x::l,h=>by
  simp only[Kv,Bool.and_eq_true] at h
  obtain⟨⟨h1,h2⟩,h3⟩:=h
  obtain⟨a,b⟩:=Xf h3
  refine⟨fun y hy=>?_,List.nodup_cons.2 ⟨fun hm=>?_,b⟩⟩
  ·rcases List.mem_cons.1 hy with rfl|hy
   ·exact h1
   ·exact a y hy
  ·have:=List.all_eq_true.1 h2 x hm
   simp at this
theorem Q8 {f k:FuncId} (h3:P.underlying 3=some (.int .i64)) (h31:P.cellsOf 3=1)
  (sk:∀(c b nn:Nat) (D0:DataW Unit) (R:Value→Option (DataW Unit×List MemPlace)) (w:World),c<w.heap.size→w.cell? ⟨c,0,none⟩=some (.map (some b))→w.ownsMap P 3 R b nn D0→Maps.size D0≤maxLen→Maps.size D0*8≤140737488355328→
   Calls P f #[.func (.func k) #[] #[.pointer (some ⟨c,0,none⟩)]] w fun e w'=>∃(v:Value) (ss:List Int),e= .returned v∧ss.Perm (intKeys D0)∧
    w'.ownsRow w.heap.size 3 1 v ss.length ((ss.mergeSort (fun x y=>decide (x≤y))).map encZ)∧(v= .slice none 0 0↔ss=[])∧Below w.heap.size w w')
  {c:Nat} {v:Value} {h':AH} (hF:yY 3 c h=some (v,h')) (hi:Inv P B ρ h w) {args':List Value} (ha:aT ρ [.func (.func k) ⟨[]⟩ ⟨[.pointer (some ⟨c,0,none⟩)]⟩] args'):
  Calls P f ⟨args'⟩ w fun e w'=>∃ρ' v',e= .returned v'∧aD ρ' v v'∧kM P B ρ h w ρ' h' w':=by
 simp only[aT,aD,Cm,kN] at ha
 obtain⟨_,_,⟨_,⟨_⟩,⟨cs⟩,rfl,hfs,⟨_,_,⟨cb,s,hr,rfl⟩,rfl,hcs⟩,rfl⟩,rfl,rfl⟩:=ha
 simp only at hfs hcs
 subst hfs;subst hcs
 unfold yY at hF
 split at hF
 ·rename_i r e fz hgc
  split at hF
  ·rename_i es clock hgr
   split at hF
   ·rename_i ks hks
    split at hF
    ·rename_i hchk
     simp only[Bool.and_eq_true] at hchk
     obtain⟨⟨hlen,hst⟩,hkb⟩:=hchk
     have hlen:=Nat.le_of_ble_eq_true hlen
     obtain⟨oc,hoc,c',rfl,hcl,hsz,hex⟩:=hi.pM c _ hgc cb s hr
     obtain⟨hs1,hs2⟩:=hex rfl
     rw[hs2,List.drop_zero] at hcl
     simp only[List.length_cons,List.length_nil,aT,aD] at hcl
     obtain⟨_,_,⟨mb,ms,hrr,rfl⟩,rfl,htk⟩:=hcl
     obtain⟨om,hom,es',her,rfl⟩:=hi.pM r _ hgr mb ms hrr
     obtain⟨hk1,hk2⟩:=K3 her hks
     obtain⟨st1,st2⟩:=Lj hst
     obtain⟨ky1,ky2⟩:=Xf hkb
     have hcell:w.cell? ⟨cb,0,none⟩=some (.map (some mb)):=by
      have:c'[0]?=some (.map (some mb)):=by
       rw[←Array.getElem?_toList]
       have:=congrArg (fun l=>l[0]?) htk
       simpa using this
      simp[World.cell?,hoc,this]
     have hel:es'.length=ks.length:=by
      have:=congrArg List.length hk1
      simpa using this
     have hD:∀x∈es',∃n∈ks,x.key= .int .i64 n:=fun x hx=>by
      have:x.key∈ks.map encZ:=by rw[←hk1];exact List.mem_map.2 ⟨x,hx,rfl⟩
      obtain⟨n,hn,e⟩:=List.mem_map.1 this
      exact⟨n,hn,e.symm⟩
     let R:Value→Option (DataW Unit×List MemPlace):=fun _=>some (.lit (.bool false),[])
     have hrd:∀x∈es',∃n,x.key= .int .i64 n∧Go.WideElems.rd P 3 R x=some (.int .i64 n,.lit (.bool false)):=fun x hx=>by
      obtain⟨n,hn,e⟩:=hD x hx
      refine⟨n,e,?_⟩
      have:=keyOf_int_mk h3 (ky1 n hn)
      unfold Go.WideElems.rd
      rw[e,this]
      rfl
     have hown:w.ownsMap P 3 R mb es'.length (.map (((⟨es'⟩:Array MapEntry).toList.map (Go.WideElems.rg P 3 R)).foldr DataW.insert [])):=by
      refine⟨⟨es'⟩,clock,hom,⟨?_,⟨fun x hx=>?_,?_,?_⟩,fun x hx=>?_⟩,Nat.le_refl _,rfl⟩
      ·show es'.length≤maxLen
       rw[hel];unfold maxLen;omega
      ·refine st1 _ ?_
       rw[←hk2]
       exact List.mem_map.2 ⟨x,hx,rfl⟩
      ·show(es'.map (·.born)).Nodup
       rw[hk2];exact st2
      ·show(es'.map (·.key)).Nodup
       rw[hk1]
       exact List.pairwise_map.2 (List.Pairwise.imp (fun hne e=>hne (by simpa [encZ] using e)) ky2)
      ·obtain⟨n,_,hy⟩:=hrd x hx
       exact⟨_,hy⟩
     have hsort:(((⟨es'⟩:Array MapEntry).toList.map (Go.WideElems.rg P 3 R)).foldr DataW.insert []).Perm (es'.map (Go.WideElems.rg P 3 R)):=Go.WideShapes.sorted_perm _
     have hmap:(es'.map (Go.WideElems.rg P 3 R)).map (fun p=>intOf p.1)=ks:=by
      rw[List.map_map]
      have h1:es'.map ((fun p=>intOf p.1)∘Go.WideElems.rg P 3 R)=(es'.map (·.key)).map fun v=>match v with|.int _ n=>n|_=>0:=by
       rw[List.map_map]
       refine List.map_congr_left fun x hx=>?_
       obtain⟨n,e,hy⟩:=hrd x hx
       show intOf (Go.WideElems.rg P 3 R x).1=_
       rw[Go.WideElems.rg_of hy]
       simp[intOf,e]
      rw[h1,hk1,List.map_map]
      conv=>rhs;rw[←List.map_id ks]
      rfl
     have hperm:∀ss:List Int,ss.Perm (intKeys (.map (((⟨es'⟩:Array MapEntry).toList.map (Go.WideElems.rg P 3 R)).foldr DataW.insert []):DataW Unit))→ss.Perm ks:=fun ss hp=>by
      refine hp.trans ?_
      have:=hsort.map (fun p=>intOf p.1)
      rw[hmap] at this
      exact this
     have hsize:Maps.size (.map (((⟨es'⟩:Array MapEntry).toList.map (Go.WideElems.rg P 3 R)).foldr DataW.insert []):DataW Unit)=ks.length:=by
      show(((⟨es'⟩:Array MapEntry).toList.map (Go.WideElems.rg P 3 R)).foldr DataW.insert []).length=_
      rw[hsort.length_eq,List.length_map,hel]
     have hcb:cb<w.heap.size:=(Array.getElem?_eq_some_iff.1 hoc).1
     have hz:(⟨cb,0+s.2,none⟩:Addr)=⟨cb,0,none⟩:=by rw[hs2]
     rw[hz]
     refine(sk cb mb _ _ R w hcb hcell hown (by rw[hsize];unfold maxLen;omega) (by rw[hsize];omega)).mono ?_
     rintro e' w' ⟨u,ss,rfl,hp,hrow,hnil,hbel⟩
     have hp:=hperm ss hp
     rw[Vb hp] at hrow
     have hsl:(pK ks).length=ss.length:=((A5 ks).trans hp.symm).length_eq
     have hF:Im h 3 (pK ks)=(v,h'):=Option.some.inj hF
     unfold Im at hF
     split at hF
     ·rename_i hemp
      cases hF
      have hssn:ss=[]:=List.eq_nil_of_length_eq_zero (by rw[←hsl];simpa using hemp)
      have:=hnil.2 hssn
      subst this
      exact⟨ρ,_,rfl,by simp only[aD],vD hi hbel⟩
     ·rename_i hemp
      cases hF
      obtain⟨hxl,hh⟩:=hrow
      rcases hh with⟨rfl,hz⟩|⟨g,cap,cur,rfl,hge,hgb,hnc,hcm,hcs,htk2⟩
      ·exfalso
       apply hemp
       rw[List.isEmpty_iff]
       exact List.eq_nil_of_length_eq_zero (by rw[hsl];exact hz)
      ·refine⟨sL ρ h.next (g,(cap - ss.length,0)),_,rfl,?_,cf hi (o':= .cells cur 3 (0,0)) ⟨cur,rfl,?_,?_,fun hh=>by cases hh⟩ hbel hge hgb⟩
       ·simp only[aD]
        exact⟨g,(cap - ss.length,0),cap,bK,by rw[hsl];exact hnc,by rw[hsl];omega,by simp[hsl]⟩
       ·rw[List.drop_zero,List.length_map,hsl,←Nat.mul_one ss.length,htk2]
        exact oH _ (by
         have:∀l:List Int,jS (l.map encZ)=true:=fun l=>by
          induction l with
          |nil=>rfl
          |cons x l ih=>simp[jS,dG,encZ];exact ih
         exact this _)
       ·rw[List.length_map,hsl,h31,hcs]
        omega
    ·cases hF
   ·cases hF
  ·cases hF
 ·cases hF
end Go.Ab
end
section
namespace Go.Proofs
open Go.RowKit Go.Maps Go.Sort Go.Shelf
theorem Tryz.aBe (m:Nat):AnyZI.SortsIn Tryz.prog Tryz.E0 Fence.wide m:=
 ⟨fun pM off cap ss W hH hblk hsz=>callsIn_wide.2 (AnyM.slices_Sort_int Tryz.yo pM off cap ss W hH hblk hsz),
   fun p cap W=>callsIn_wide.2 (AnyM.slices_Sort_int_none Tryz.yo p cap W)⟩
theorem Tryz.W9 {H:Type} (c b nn:Nat) (D0:DataW H) (R:Value→Option (DataW H×List MemPlace)) (w:World) (hc:c<w.heap.size) (hm:w.cell? ⟨c,0,none⟩=some (.map (some b))) (hown:w.ownsMap Tryz.prog 3 R b nn D0) (hmax:Maps.size D0≤maxLen) (hbytes:Maps.size D0*8≤140737488355328):
  Calls Tryz.prog 122 #[.func (.func 170) #[] #[.pointer (some ⟨c,0,none⟩)]] w fun e w'=>∃(v:Value) (ss:List Int),e= .returned v∧ss.Perm (intKeys D0)∧
   w'.ownsRow w.heap.size 3 1 v ss.length ((ss.mergeSort (fun x y=>decide (x≤y))).map encZ)∧(v= .slice none 0 0↔ss=[])∧Below w.heap.size w w':=by
 refine(callsIn_wide (n:=5)).1 ?_
 have hseq:SeqGives Fence.wide 2 Tryz.prog 170 #[.pointer (some ⟨c,0,none⟩)] encZ (fun ss=>ss.Perm (intKeys D0)) (Maps.size D0) w:=
  AnyZI.keys_gives (ρ:=Tryz.K4) {Tryz.aDx with} Fence.wide _ trivial rfl (by omega) c b nn D0 _ hc hm hown
 exact AnyZI.sorted_in Tryz.vu Fence.wide 5 trivial trivial trivial trivial rfl (by omega) (Tryz.aBe _) (enters_of Tryz.func169 (by kernel_rfl) rfl) 170 #[.pointer (some ⟨c,0,none⟩)] trivial (enters_of Tryz.func170 (by kernel_rfl) rfl) _ _ hmax hbytes _ hseq
end Go.Proofs
end
section
namespace Go.Proofs.YtajjljbmfdboaaaGreatDoor
open Go Go.Ab Go.RowKit
theorem Vl (p q:Addr) (w:World):
  CallsD Tryz.prog 270 #[.pointer (some p),.pointer (some q)] .returning w fun e u' w'=>e= .returned (.tuple #[])∧u'= .returning∧w'=w:=by
 refine callsD_of_wpS Tryz.func270 rfl fun c₀ cs hu=>?_
 apply wpS_seq
 apply wpS_region
 simp[wpOpsS,go_sem,recoverD,hu,Tryz.ntmps270,Exit.thenS]
 refine wpS_cond (t:=false) (by simp[Act.eval,Array.replicate]) ?_
 simp only[Bool.false_eq_true,if_false]
 refine wpS_of_wp (wp_skip ?_)
 cases c₀
 simp_all [bodyPostS,results,Tryz.results270]
theorem Za {w w':World} (hk:px w.heap.size ((w.alloc (.cells #[.int .i64 0] 3)).alloc (.cells #[.bool false] 4)) w') (n:Int) (b:Bool):
  w'.cell? ⟨w.heap.size,0,none⟩=some (.int .i64 0)∧w'.frozen? ⟨w.heap.size,0,none⟩=false∧
  (w'.setCell ⟨w.heap.size,0,none⟩ (.int .i64 n)).cell? ⟨w.heap.size+1,0,none⟩=some (.bool false)∧(w'.setCell ⟨w.heap.size,0,none⟩ (.int .i64 n)).frozen? ⟨w.heap.size+1,0,none⟩=false∧
  ((w'.setCell ⟨w.heap.size,0,none⟩ (.int .i64 n)).setCell ⟨w.heap.size+1,0,none⟩ (.bool b)).cell? ⟨w.heap.size,0,none⟩=some (.int .i64 n)∧
  ((w'.setCell ⟨w.heap.size,0,none⟩ (.int .i64 n)).setCell ⟨w.heap.size+1,0,none⟩ (.bool b)).cell? ⟨w.heap.size+1,0,none⟩=some (.bool b):=by
 have e0:w'.heap[w.heap.size]?=some (.cells #[.int .i64 0] 3 (0,0)):=(hk.B7 _ (Nat.le_refl _) (by simp;omega)).trans (by show((w.heap.push _).push _)[w.heap.size]?=_;rw[Array.getElem?_push,if_neg (by simp),Array.getElem?_push,if_pos rfl])
 have e1:w'.heap[w.heap.size+1]?=some (.cells #[.bool false] 4 (0,0)):=(hk.B7 _ (by omega) (by simp)).trans (by show((w.heap.push _).push _)[w.heap.size+1]?=_;rw[Array.getElem?_push,if_pos (by simp)])
 have e2:(w'.setCell ⟨w.heap.size,0,none⟩ (.int .i64 n)).heap[w.heap.size]?=some (.cells #[.int .i64 n] 3 (0,0)):=one_setCell e0
 have e3:(w'.setCell ⟨w.heap.size,0,none⟩ (.int .i64 n)).heap[w.heap.size+1]?=some (.cells #[.bool false] 4 (0,0)):=(Below.heap_setCell _ _ _ _ (by simp)).trans e1
 have e4:((w'.setCell ⟨w.heap.size,0,none⟩ (.int .i64 n)).setCell ⟨w.heap.size+1,0,none⟩ (.bool b)).heap[w.heap.size]?=some (.cells #[.int .i64 n] 3 (0,0)):=(Below.heap_setCell _ _ _ _ (by simp)).trans e2
 have e5:((w'.setCell ⟨w.heap.size,0,none⟩ (.int .i64 n)).setCell ⟨w.heap.size+1,0,none⟩ (.bool b)).heap[w.heap.size+1]?=some (.cells #[.bool b] 4 (0,0)):=one_setCell e3
 exact⟨by simp[World.cell?,e0],by simp[World.frozen?,e0],by simp[World.cell?,e3],by simp[World.frozen?,e3],by simp[World.cell?,e4],by simp[World.cell?,e5]⟩
set_option maxRecDepth 100000 in
theorem Ve (v x l:Value) (w:World) (S:World→Prop) (n:Int) (b:Bool) (hc:Calls Tryz.prog 334 #[v,x,l] ((w.alloc (.cells #[.int .i64 0] 3)).alloc (.cells #[.bool false] 4)) (fun e w'=>e= .returned (.tuple #[.int .i64 n,.bool b])∧px w.heap.size ((w.alloc (.cells #[.int .i64 0] 3)).alloc (.cells #[.bool false] 4)) w'∧S w')):
  Calls Tryz.prog 219 #[.iface 311 v,x,l] w fun e w'=>e= .returned (.tuple #[.int .i64 n,.bool b])∧∃w2,S w2∧aC2 w.heap.size (w.heap.size+2) w2 w':=by
 have hmf:∀(fn:Fn) (first cap:Array Value) (w:World),(Instr.makeFunc fn first cap).run Tryz.prog w= .ok (.func fn first cap) w:=fun _ _ _ _=>rfl
 have hm:∀w:World,(method 556 311 v "May").run Tryz.prog w= .ok (334,v) w:=fun _=>by kernel_rfl
 go_enter_defers Tryz.func219,Tryz.ntmps219
 go_wp2_with (go_at_call 334;refine hc.mono ?_;rintro e w' ⟨rfl,hk,hS⟩;obtain⟨c1,z1,c2,z2,c4,c5⟩:=Za hk n b)
 refine leaves_cons (f:=270) (args:= #[.pointer (some ⟨w.heap.size,0,none⟩),.pointer (some ⟨w.heap.size+1,0,none⟩)]) (by simp) (by simp[go_sem]) ?_
 refine(Vl ⟨w.heap.size,0,none⟩ ⟨w.heap.size+1,0,none⟩ _).mono ?_
 rintro e u' w'' ⟨rfl,rfl,rfl⟩
 simp[Leaves,settle,results,Tryz.results219,go_sem,c4,c5]
 refine⟨w',hS,⟨fun i _ h=>?_,?_,rfl,rfl,rfl⟩⟩
 ·rw[Below.heap_setCell _ _ _ _ (by simp;omega),Below.heap_setCell _ _ _ _ (by simp;omega)]
 ·simp
end Go.Proofs.YtajjljbmfdboaaaGreatDoor
end
section
namespace Go.Proofs.YtajjljbmfdboaaaGreatDoor
open Go Go.Ab
set_option maxRecDepth 100000
variable (e0:TypeId) (z0:Nat×Nat) (e1:TypeId) (z1:Nat×Nat) (e2:TypeId) (z2:Nat×Nat) (e3:TypeId) (z3:Nat×Nat)
theorem eo:Q7 Pr K0 3000 (st4 e0 z0 e1 z1 e2 z2 e3 z3) facts=true:=by kernel_rfl
end Go.Proofs.YtajjljbmfdboaaaGreatDoor
end
section
namespace Go.Proofs.YtajjljbmfdboaaaGreatDoor
open Go Go.Ab Go.RowKit
def Gl (w:World):Prop:=(∃e z,w.heap[0]?=some (.cells ⟨fB⟩ e z))∧(∃e z,w.heap[1]?=some (.cells ⟨tU⟩ e z))∧(∃e z,w.heap[2]?=some (.cells ⟨nu⟩ e z))∧(∃e z,w.heap[3]?=some (.cells ⟨jb⟩ e z))
theorem jl {w:World} {e0 e1 e2 e3:TypeId} {z0 z1 z2 z3:Nat×Nat} (h0:w.heap[0]?=some (.cells ⟨fB⟩ e0 z0)) (h1:w.heap[1]?=some (.cells ⟨tU⟩ e1 z1)) (h2:w.heap[2]?=some (.cells ⟨nu⟩ e2 z2)) (h3:w.heap[3]?=some (.cells ⟨jb⟩ e3 z3)):xi Pr 4 (wg e0 z0 e1 z1 e2 z2 e3 z3) w:=by
 have plain:∀(l:List Value) (e:TypeId) (z:Nat×Nat) (b:Nat),jS l=true→w.heap[b]?=some (.cells ⟨l⟩ e z)→∃o',w.heap[b]?=some o'∧∀ρ,rZ Pr ρ (0,0) (.cells l e z true) o':=fun l e z b hp h=>
  ⟨_,h,fun ρ=>⟨⟨l⟩,rfl,by rw[List.drop_zero,List.take_of_length_le (by simp)];exact oH _ hp,by simp,fun _=>⟨rfl,rfl⟩⟩⟩
 intro i o hi ho
 unfold wg at ho
 have:i=0∨i=1∨i=2∨i=3:=by omega
 rcases this with rfl|rfl|rfl|rfl
 ·cases ho;exact plain _ _ _ 0 (by rfl) h0
 ·cases ho;exact plain _ _ _ 1 (by rfl) h1
 ·cases ho;exact plain _ _ _ 2 (by rfl) h2
 ·cases ho;exact plain _ _ _ 3 (by rfl) h3
theorem uz {B:Nat} (hB:4≤B) {w w':World} (h:Below B w w'):Gl w→Gl w':=fun⟨⟨e0,z0,h0⟩,⟨e1,z1,h1⟩,⟨e2,z2,h2⟩,⟨e3,z3,h3⟩⟩=>
 ⟨⟨e0,z0,(h.block 0 (by omega)).trans h0⟩,⟨e1,z1,(h.block 1 (by omega)).trans h1⟩,⟨e2,z2,(h.block 2 (by omega)).trans h2⟩,⟨e3,z3,(h.block 3 (by omega)).trans h3⟩⟩
theorem aBn:Pr.underlying 3=some (.int .i64):=by kernel_rfl
theorem zl:Pr.cellsOf 3=1:=by kernel_rfl
noncomputable def zo (B:Nat) (hB:4≤B):Ctx Pr B K0 where
 G:=Gl
 B7:=fun w w' h=>uz hB h
 call:=fun f args v w hk=>by
  unfold K0 at hk
  split at hk<;>cases hk
 fwd:=fun f args g bs hk ρ args' w ha hg=>by
  unfold K0 at hk
  split at hk
  ·cases hk
  ·rename_i v x l
   cases hk
   simp only[aT] at ha
   obtain⟨_,_,hv,⟨x',_,hx,⟨l',_,hl,rfl,rfl⟩,rfl⟩,rfl⟩:=ha
   simp only[aD] at hv
   obtain⟨v',hv,rfl⟩:=hv
   refine⟨[v',x',l'],(w.alloc (.cells #[.int .i64 0] 3)).alloc (.cells #[.bool false] 4),aT.cons hv (aT.cons hx (aT.cons hl rfl)),((Below.refl _ _).alloc (Nat.le_refl _) _).alloc (by simp) _,fun a S hok hc=>?_⟩
   unfold Jn at hok
   split at hok
   ·rename_i n b
    have hsz:((w.alloc (.cells #[.int .i64 0] 3)).alloc (.cells #[.bool false] 4)).heap.size=w.heap.size+2:=by simp
    rw[hsz]
    exact Ve v' x' l' w S n b hc
   ·cases hok
  ·cases hk
 host:=fun f args F hk h v h' hF ρ w args' hi _ ha=>by
  unfold K0 at hk
  split at hk
  ·rename_i c
   cases hk
   exact Q8 aBn zl (fun c b nn D0 R w h1 h2 h3 h4 h5=>Tryz.W9 c b nn D0 R w h1 h2 h3 h4 h5) hF hi ha
  ·cases hk
  ·cases hk
theorem Na {w:World} (hg:Gl w):4≤w.heap.size:=by
 obtain⟨_,_,_,⟨e,z,h⟩⟩:=hg
 exact(Array.getElem?_eq_some_iff.1 h).1
theorem Ql {w:World} {e0 e1 e2 e3:TypeId} {z0 z1 z2 z3:Nat×Nat} (hs:4≤w.heap.size) (h:xi Pr 4 (wg e0 z0 e1 z1 e2 z2 e3 z3) w):Reads Pr 4 (vZ 4 (wg e0 z0 e1 z1 e2 z2 e3 z3) []) (qG 4 []) w:=
 lg (rs:=[]) (by rw[Sf];exact Nat.le_refl _) hs h (fun r hr=>by cases hr)
theorem Fl:(facts.all fun x=>jS x.2.1&&dG x.2.2)=true:=by kernel_rfl
theorem qt {w:World} (hg:Gl w):∀x∈facts,Calls Pr x.1 ⟨x.2.1⟩ w fun e w'=>e= .returned x.2.2∧Below w.heap.size w w':=by
 have hs:=Na hg
 obtain⟨⟨e0,z0,h0⟩,⟨e1,z1,h1⟩,⟨e2,z2,h2⟩,⟨e3,z3,h3⟩⟩:=id hg
 exact T9 Fl (eo e0 z0 e1 z1 e2 z2 e3 z3) (zo w.heap.size hs) hg (Ql hs (jl h0 h1 h2 h3))
noncomputable def aF3 (B:Nat) (hB:4≤B):Ctx Pr B K1:=(zo B hB).Wy facts Fl fun x hx _w hg=>qt hg x hx
theorem mg {f:FuncId} {n:Nat} (hr:∀(e0:TypeId) (z0:Nat×Nat) (e1:TypeId) (z1:Nat×Nat) (e2:TypeId) (z2:Nat×Nat) (e3:TypeId) (z3:Nat×Nat),((T6 Pr K1 n (.call f []) (st4 e0 z0 e1 z1 e2 z2 e3 z3)).any fun r=>mS r.1.v (.bool true))=true) {w:World} (hg:Gl w):
  Calls Pr f #[] w fun e w'=>e= .returned (.bool true)∧Below w.heap.size w w':=by
 have hs:=Na hg
 obtain⟨⟨e0,z0,h0⟩,⟨e1,z1,h1⟩,⟨e2,z2,h2⟩,⟨e3,z3,h3⟩⟩:=id hg
 exact Qi rfl (E3 (hr e0 z0 e1 z1 e2 z2 e3 z3)) (aF3 w.heap.size hs) hg (Ql hs (jl h0 h1 h2 h3))
end Go.Proofs.YtajjljbmfdboaaaGreatDoor
end
section
namespace Go.Proofs.YtajjljbmfdboaaaGreatDoor
open Go Go.Ab Go.RowKit
theorem own:ownKnob Tryz.prog.godebug=none:=by kernel_rfl
theorem laidOut:laidOutB Tryz.prog=true:=by kernel_rfl
theorem g0:Tryz.prog.globalNamed "donjon/place.limits"=some 0:=by kernel_rfl
theorem g1:Tryz.prog.globalNamed "donjon/isa.ops"=some 1:=by kernel_rfl
theorem g2:Tryz.prog.globalNamed "donjon/note.kinds"=some 2:=by kernel_rfl
theorem g3:Tryz.prog.globalNamed "donjon/moesi.rows"=some 3:=by kernel_rfl
theorem aCn {W:World} {l:List (String×DataW Unit)} (hp:(l.all fun x=>x.2.handleName?.isNone)=true) (h:laidMetH Tryz.prog l W) (m0:("donjon/place.limits",Rows.laid_donjon_place_limits)∈l) (m1:("donjon/isa.ops",Rows.laid_donjon_isa_ops)∈l)
  (m2:("donjon/note.kinds",Rows.laid_donjon_note_kinds)∈l) (m3:("donjon/moesi.rows",Rows.laid_donjon_moesi_rows)∈l):Gl W:=by
 obtain⟨e0,z0,h0⟩:=uX (l:=fB) 8 hp h m0 g0 (t:=288) (by kernel_rfl) (by kernel_rfl)
 obtain⟨e1,z1,h1⟩:=uX (l:=tU) 8 hp h m1 g1 (t:=381) (by kernel_rfl) (by kernel_rfl)
 obtain⟨e2,z2,h2⟩:=uX (l:=nu) 8 hp h m2 g2 (t:=407) (by kernel_rfl) (by kernel_rfl)
 obtain⟨e3,z3,h3⟩:=uX (l:=jb) 8 hp h m3 g3 (t:=427) (by kernel_rfl) (by kernel_rfl)
 exact⟨⟨e0,z0,h0⟩,⟨e1,z1,h1⟩,⟨e2,z2,h2⟩,⟨e3,z3,h3⟩⟩
theorem aAi:qC Tryz.prog 8 23=some [some .i64,some .i64,some .i64,some .i64]:=by kernel_rfl
theorem aD2 {l:List Value} (h0:Flat [some .i64,some .i64,some .i64,some .i64] l):∃a b c d:Int,l=[I a,I b,I c,I d]:=by
 obtain⟨a,l1,e1,h1⟩:=gJ h0
 obtain⟨b,l2,e2,h2⟩:=gJ h1
 obtain⟨c,l3,e3,h3⟩:=gJ h2
 obtain⟨d,l4,e4,h4⟩:=gJ h3
 have e5:=B0 h4
 subst e5 e4 e3 e2 e1
 exact⟨a,b,c,d,rfl⟩
end Go.Proofs.YtajjljbmfdboaaaGreatDoor
end
