/- A part of the proof. -/
import Derived.Test.YteelnoablpdhbaaGreatDoorO8
import Derived.Test.YteelnoablpdhbaaGreatDoorO6
import Derived.Shelf.SlIterI.Nil
import Derived.Shelf.SortM.Plain
import Derived.Shelf.SortM.SortNone
import Derived.Shelf.SlSortCmp.WholeK
import Derived.Shelf.SlicesG.Cmp
import Derived.Shelf.Spec.SlicesGrow
import Derived.Ground.GgzProg
import Derived.Ground.SlgmProg
import Derived.Ground.SlsfProg
import Derived.Ground.SlgcProg
import Derived.Ground.Names8Prog
import Derived.Test.YteelnoablpdhbaaGreatDoorChecked
import Derived.Test.YteelnoablpdhbaaGreatDoorO4
import Derived.Maps.Own
import Derived.Maps.Keyed
import Derived.Maps.Range
import Derived.Lib.SlKeysI
import Derived.Test.YteelnoablpdhbaaGreatDoorO7
import Derived.Shelf.SlSortCmp.NoneTotal
import Derived.Tactics
import Derived.Tactics2
import Derived.Defers
import Derived.Recover
import Derived.Laws.Pointers
import Derived.OneCell
import Derived.Below
import Derived.Test.YteelnoablpdhbaaGreatDoorTie
import Derived.Test.YteelnoablpdhbaaGreatDoorCards
import Derived.LaidMore
import Derived.SevenTiedAt
set_option linter.all false
set_option maxRecDepth 100000
open Go Go.Ab
namespace Go.Proofs.Z
open Go.Proofs.YteelnoablpdhbaaGreatDoor
def fO:EK:=[
 .int .i64 4,.int .i64 16,.int .i64 8,.int .i64 4,.int .i64 16,.int .i64 8,.int .i64 4]
def tF:EK:=[
 .string ⟨#[]⟩,.int .i64 0,.int .i64 0,.int .i64 0,.string ⟨#[115,101,116]⟩,.int .i64 1,.int .i64 2,.int .i64 0,.string ⟨#[97,100,100]⟩,.int .i64 1,.int .i64 1,
  .int .i64 1,.string ⟨#[108,111,97,100]⟩,.int .i64 1,.int .i64 1,.int .i64 0,.string ⟨#[115,116,111,114,101]⟩,.int .i64 1,.int .i64 1,.int .i64 0,
  .string ⟨#[115,119,97,112]⟩,.int .i64 1,.int .i64 1,.int .i64 0,.string ⟨#[102,101,110,99,101]⟩,.int .i64 0,.int .i64 0,.int .i64 0,
  .string ⟨#[119,111,114,108,100]⟩,.int .i64 3,.int .i64 0,.int .i64 0,.string ⟨#[99,97,108,108]⟩,.int .i64 4,.int .i64 1,.int .i64 1,.string ⟨#[106,117,109,112]⟩,
  .int .i64 5,.int .i64 0,.int .i64 0,.string ⟨#[122,101,114,111]⟩,.int .i64 1,.int .i64 5,.int .i64 0,.string ⟨#[104,97,108,116]⟩,.int .i64 0,.int .i64 0,.int .i64 0]
def aHc:EK:=[
 .string ⟨#[]⟩,.int .i64 0,.int .i64 0,.int .i64 0,.int .i64 0,.int .i64 0,.int .i64 0,.int .i64 0,.int .i64 0,.string ⟨#[103,101,116,115]⟩,.int .i64 0,.int .i64 1,
  .int .i64 2,.int .i64 3,.int .i64 0,.int .i64 0,.int .i64 0,.int .i64 0,.string ⟨#[103,101,116,109]⟩,.int .i64 0,.int .i64 1,.int .i64 2,.int .i64 3,.int .i64 0,
  .int .i64 0,.int .i64 0,.int .i64 0,.string ⟨#[112,117,116]⟩,.int .i64 0,.int .i64 1,.int .i64 2,.int .i64 4,.int .i64 8,.int .i64 9,.int .i64 10,.int .i64 0,
  .string ⟨#[100,111,110,101]⟩,.int .i64 1,.int .i64 1,.int .i64 2,.int .i64 0,.int .i64 0,.int .i64 0,.int .i64 0,.int .i64 0,.string ⟨#[114,101,112,108,121]⟩,
  .int .i64 1,.int .i64 1,.int .i64 2,.int .i64 5,.int .i64 8,.int .i64 9,.int .i64 10,.int .i64 11,.string ⟨#[119,97,108,107]⟩,.int .i64 0,.int .i64 1,.int .i64 12,
  .int .i64 0,.int .i64 0,.int .i64 0,.int .i64 0,.int .i64 0,.string ⟨#[100,114,111,112,112,101,100]⟩,.int .i64 1,.int .i64 1,.int .i64 13,.int .i64 0,.int .i64 0,
  .int .i64 0,.int .i64 0,.int .i64 0,.string ⟨#[103,114,97,110,116]⟩,.int .i64 2,.int .i64 1,.int .i64 2,.int .i64 4,.int .i64 6,.int .i64 8,.int .i64 9,.int .i64 0,
  .string ⟨#[110,97,99,107]⟩,.int .i64 2,.int .i64 1,.int .i64 2,.int .i64 11,.int .i64 0,.int .i64 0,.int .i64 0,.int .i64 0,.string ⟨#[112,117,116,97,99,107]⟩,
  .int .i64 2,.int .i64 1,.int .i64 2,.int .i64 0,.int .i64 0,.int .i64 0,.int .i64 0,.int .i64 0,.string ⟨#[112,114,111,98,101]⟩,.int .i64 3,.int .i64 1,.int .i64 2,
  .int .i64 7,.int .i64 0,.int .i64 0,.int .i64 0,.int .i64 0,.string ⟨#[119,97,108,107,101,100]⟩,.int .i64 2,.int .i64 1,.int .i64 8,.int .i64 9,.int .i64 12,
  .int .i64 0,.int .i64 0,.int .i64 0,.string ⟨#[100,114,111,112]⟩,.int .i64 3,.int .i64 1,.int .i64 13,.int .i64 0,.int .i64 0,.int .i64 0,.int .i64 0,.int .i64 0]
def Wh:EK:=[
 .string ⟨#[73]⟩,.bool false,.bool false,.bool false,.bool false,.int .i64 0,.int .i64 0,.int .i64 0,.string ⟨#[83]⟩,.bool true,.bool false,.bool false,.bool false,
  .int .i64 0,.int .i64 1,.int .i64 0,.string ⟨#[69]⟩,.bool true,.bool true,.bool false,.bool true,.int .i64 4,.int .i64 1,.int .i64 0,.string ⟨#[79]⟩,.bool true,
  .bool false,.bool true,.bool true,.int .i64 0,.int .i64 3,.int .i64 0,.string ⟨#[77]⟩,.bool true,.bool true,.bool true,.bool true,.int .i64 4,.int .i64 3,.int .i64 0]
def glM (a:TypeId) (z0:Nat×Nat) (b:TypeId) (d:Nat×Nat) (e2:TypeId) (z2:Nat×Nat) (c:TypeId) (z3:Nat×Nat):Nat->HW:=fun i=>
 if i=0 then some (.cells fO a z0 true) else if i=1 then some (.cells tF b d true) else if i=3 then some (.cells aHc e2 z2 true) else if i=6 then some (.cells Wh c z3 true) else none
end Go.Proofs.Z
namespace Go.Proofs
open Go.Shelf
def Tryz.Tq:Go.Shelf.Ren:=⟨fun|7=>243|10=>306|n=>n,fun|23=>141|26=>3|3=>368|28=>316|0=>0|27=>315|33=>259|4=>4|n=>n,fun|n=>n⟩
def Tryz.aT9:Go.Proofs.SlLaysZI.n7 Tryz.prog Tryz.Tq:={
 mixed:=EU
 f7:=⟨Tryz.f243.name,ET,Tryz.func243.trans<|eb some EU⟩
 f10:=⟨Tryz.f306.name,ET,Tryz.func306.trans<|eb some EU⟩
 t0:=Tryz.underlying0
 a0:=Tryz.isAgg0
 z0:=Tryz.sizeOf0
 v0:=Tryz.zeroValue0
 t4:=Tryz.underlying4
 a4:=Tryz.isAgg4
 z4:=Tryz.sizeOf4
 v4:=Tryz.zeroValue4
 t23:=Tryz.underlying141
 a23:=Tryz.isAgg141
 z23:=Tryz.sizeOf141
 v23:=Tryz.zeroValue141
 t26:=Tryz.underlying3
 a26:=Tryz.isAgg3
 z26:=Tryz.sizeOf3
 v26:=Tryz.zeroValue3
 t27:=Tryz.underlying315
 a27:=Tryz.isAgg315
 z27:=Tryz.sizeOf315
 v27:=Tryz.zeroValue315
 t28:=Tryz.underlying316
 a28:=Tryz.isAgg316
 z28:=Tryz.sizeOf316
 v28:=Tryz.zeroValue316
 t33:=Tryz.underlying259
 a33:=Tryz.isAgg259
 z33:=Tryz.sizeOf259
 v33:=Tryz.zeroValue259}
def Tryz.Lx:Go.Shelf.Ren:=⟨fun|6=>242|8=>304|9=>305|11=>336|13=>140|12=>337|23=>219|24=>220|14=>342|15=>343|16=>344|17=>345|18=>346|19=>347|20=>348|21=>349|22=>350|25=>351|26=>280|27=>281|28=>352|29=>353|30=>141|31=>354|n=>n,fun|26=>3|28=>316|24=>25|0=>0|3=>3|37=>322|48=>378|50=>380|4=>4|40=>372|39=>371|45=>40|5=>5|9=>9|51=>434|55=>206|57=>471|58=>472|33=>259|n=>n,fun|n=>n⟩
def Tryz.aJn:Go.Proofs.SlLaysZI.n6 Tryz.prog Tryz.Lx:={
 mixed:=EU
 f6:=⟨Tryz.f242.name,ET,Tryz.func242.trans<|eb some EU⟩
 f8:=⟨Tryz.f304.name,ET,Tryz.func304.trans<|eb some EU⟩
 f11:=⟨Tryz.f336.name,ET,Tryz.func336.trans<|eb some EU⟩
 t0:=Tryz.underlying0
 a0:=Tryz.isAgg0
 z0:=Tryz.sizeOf0
 v0:=Tryz.zeroValue0
 t24:=Tryz.underlying25
 a24:=Tryz.isAgg25
 z24:=Tryz.sizeOf25
 v24:=Tryz.zeroValue25
 t26:=Tryz.underlying3
 a26:=Tryz.isAgg3
 z26:=Tryz.sizeOf3
 v26:=Tryz.zeroValue3
 t28:=Tryz.underlying316
 a28:=Tryz.isAgg316
 z28:=Tryz.sizeOf316
 v28:=Tryz.zeroValue316
 i26:=by kernel_rfl}
def Tryz.ym:Go.Shelf.Ren:=⟨fun|5=>305|8=>140|7=>337|19=>219|20=>220|10=>342|11=>343|12=>344|13=>345|14=>346|15=>347|16=>348|17=>349|18=>350|30=>351|31=>280|32=>281|33=>352|34=>353|35=>141|40=>354|n=>n,fun|23=>25|25=>3|3=>3|32=>322|22=>25|0=>0|44=>378|46=>380|4=>4|36=>372|35=>371|41=>40|5=>5|9=>9|53=>434|57=>206|63=>471|64=>472|n=>n,fun|n=>n⟩
def Tryz.aMx:Go.Proofs.SlLaysM.n5 Tryz.prog Tryz.ym:={
 mixed:=EU
 f5:=⟨Tryz.f305.name,ET,Tryz.func305.trans<|eb some EU⟩
 f7:=⟨Tryz.f337.name,ET,Tryz.func337.trans<|eb some EU⟩
 f8:=Tryz.func140.trans<|eb some EU
 f10:=⟨Tryz.f342.name,ET,Tryz.func342.trans<|eb some EU⟩
 f11:=⟨Tryz.f343.name,ET,Tryz.func343.trans<|eb some EU⟩
 f12:=⟨Tryz.f344.name,ET,Tryz.func344.trans<|eb some EU⟩
 f13:=⟨Tryz.f345.name,ET,Tryz.func345.trans<|eb some EU⟩
 f14:=⟨Tryz.f346.name,ET,Tryz.func346.trans<|eb some EU⟩
 f15:=⟨Tryz.f347.name,ET,Tryz.func347.trans<|eb some EU⟩
 f16:=⟨Tryz.f348.name,ET,Tryz.func348.trans<|eb some EU⟩
 f17:=⟨Tryz.f349.name,ET,Tryz.func349.trans<|eb some EU⟩
 f18:=⟨Tryz.f350.name,ET,Tryz.func350.trans<|eb some EU⟩
 f19:=Tryz.func219.trans<|eb some EU
 f20:=Tryz.func220.trans<|eb some EU
 f30:=⟨Tryz.f351.name,ET,Tryz.func351.trans<|eb some EU⟩
 f31:=Tryz.func280.trans<|eb some EU
 f32:=Tryz.func281.trans<|eb some EU
 f33:=⟨Tryz.f352.name,ET,Tryz.func352.trans<|eb some EU⟩
 f34:=⟨Tryz.f353.name,ET,Tryz.func353.trans<|eb some EU⟩
 f35:=⟨Tryz.f141.name,ET,Tryz.func141.trans<|eb some EU⟩
 f40:=⟨Tryz.f354.name,ET,Tryz.func354.trans<|eb some EU⟩
 t0:=Tryz.underlying0
 a0:=Tryz.isAgg0
 z0:=Tryz.sizeOf0
 v0:=Tryz.zeroValue0
 t3:=Tryz.underlying3
 a3:=Tryz.isAgg3
 z3:=Tryz.sizeOf3
 v3:=Tryz.zeroValue3
 t4:=Tryz.underlying4
 a4:=Tryz.isAgg4
 z4:=Tryz.sizeOf4
 v4:=Tryz.zeroValue4
 t5:=Tryz.underlying5
 a5:=Tryz.isAgg5
 z5:=Tryz.sizeOf5
 v5:=Tryz.zeroValue5
 t9:=Tryz.underlying9
 a9:=Tryz.isAgg9
 z9:=Tryz.sizeOf9
 v9:=Tryz.zeroValue9
 t22:=Tryz.underlying25
 a22:=Tryz.isAgg25
 z22:=Tryz.sizeOf25
 v22:=Tryz.zeroValue25
 t23:=Tryz.underlying25
 a23:=Tryz.isAgg25
 z23:=Tryz.sizeOf25
 v23:=Tryz.zeroValue25
 t25:=Tryz.underlying3
 a25:=Tryz.isAgg3
 z25:=Tryz.sizeOf3
 v25:=Tryz.zeroValue3
 t32:=Tryz.underlying322
 a32:=Tryz.isAgg322
 z32:=Tryz.sizeOf322
 v32:=Tryz.zeroValue322
 t35:=Tryz.underlying371
 a35:=Tryz.isAgg371
 z35:=Tryz.sizeOf371
 v35:=Tryz.zeroValue371
 t36:=Tryz.underlying372
 a36:=Tryz.isAgg372
 z36:=Tryz.sizeOf372
 v36:=Tryz.zeroValue372
 t41:=Tryz.underlying40
 a41:=Tryz.isAgg40
 z41:=Tryz.sizeOf40
 v41:=Tryz.zeroValue40
 t44:=Tryz.underlying378
 a44:=Tryz.isAgg378
 z44:=Tryz.sizeOf378
 v44:=Tryz.zeroValue378
 t46:=Tryz.underlying380
 a46:=Tryz.isAgg380
 z46:=Tryz.sizeOf380
 v46:=Tryz.zeroValue380
 t53:=Tryz.underlying434
 a53:=Tryz.isAgg434
 z53:=Tryz.sizeOf434
 v53:=Tryz.zeroValue434
 t57:=Tryz.underlying206
 a57:=Tryz.isAgg206
 z57:=Tryz.sizeOf206
 v57:=Tryz.zeroValue206
 t63:=Tryz.underlying471
 a63:=Tryz.isAgg471
 z63:=Tryz.sizeOf471
 v63:=Tryz.zeroValue471
 t64:=Tryz.underlying472
 a64:=Tryz.isAgg472
 z64:=Tryz.sizeOf472
 v64:=Tryz.zeroValue472}
def Tryz.ou:Go.Shelf.Ren:=⟨fun|6=>78|15=>140|14=>139|28=>219|29=>220|20=>211|21=>212|22=>213|23=>214|24=>215|25=>216|26=>217|27=>218|46=>279|47=>280|48=>281|49=>282|50=>283|57=>327|n=>n,fun|22=>212|24=>215|25=>221|3=>3|39=>322|0=>0|53=>378|55=>380|4=>4|46=>372|45=>371|50=>40|5=>5|9=>9|66=>434|70=>206|76=>471|77=>472|n=>n,fun|n=>n⟩
def Tryz.aC0:Go.Proofs.SlLaysF0.n6 Tryz.prog Tryz.ou:={
 mixed:=EU
 f6:=⟨Tryz.f78.name,ET,Tryz.func78.trans<|eb some EU⟩
 f14:=⟨Tryz.f139.name,ET,Tryz.func139.trans<|eb some EU⟩
 f15:=Tryz.func140.trans<|eb some EU
 f20:=⟨Tryz.f211.name,ET,Tryz.func211.trans<|eb some EU⟩
 f21:=⟨Tryz.f212.name,ET,Tryz.func212.trans<|eb some EU⟩
 f22:=⟨Tryz.f213.name,ET,Tryz.func213.trans<|eb some EU⟩
 f23:=⟨Tryz.f214.name,ET,Tryz.func214.trans<|eb some EU⟩
 f24:=⟨Tryz.f215.name,ET,Tryz.func215.trans<|eb some EU⟩
 f25:=⟨Tryz.f216.name,ET,Tryz.func216.trans<|eb some EU⟩
 f26:=⟨Tryz.f217.name,ET,Tryz.func217.trans<|eb some EU⟩
 f27:=⟨Tryz.f218.name,ET,Tryz.func218.trans<|eb some EU⟩
 f28:=Tryz.func219.trans<|eb some EU
 f29:=Tryz.func220.trans<|eb some EU
 f46:=⟨Tryz.f279.name,ET,Tryz.func279.trans<|eb some EU⟩
 f47:=Tryz.func280.trans<|eb some EU
 f48:=Tryz.func281.trans<|eb some EU
 f49:=⟨Tryz.f282.name,ET,Tryz.func282.trans<|eb some EU⟩
 f50:=⟨Tryz.f283.name,ET,Tryz.func283.trans<|eb some EU⟩
 f57:=⟨Tryz.f327.name,ET,Tryz.func327.trans<|eb some EU⟩
 t0:=Tryz.underlying0
 a0:=Tryz.isAgg0
 z0:=Tryz.sizeOf0
 v0:=Tryz.zeroValue0
 t3:=Tryz.underlying3
 a3:=Tryz.isAgg3
 z3:=Tryz.sizeOf3
 v3:=Tryz.zeroValue3
 t4:=Tryz.underlying4
 a4:=Tryz.isAgg4
 z4:=Tryz.sizeOf4
 v4:=Tryz.zeroValue4
 t5:=Tryz.underlying5
 a5:=Tryz.isAgg5
 z5:=Tryz.sizeOf5
 v5:=Tryz.zeroValue5
 t9:=Tryz.underlying9
 a9:=Tryz.isAgg9
 z9:=Tryz.sizeOf9
 v9:=Tryz.zeroValue9
 t22:=Tryz.underlying212
 a22:=Tryz.isAgg212
 z22:=Tryz.sizeOf212
 v22:=Tryz.zeroValue212
 t25:=Tryz.underlying221
 a25:=Tryz.isAgg221
 z25:=Tryz.sizeOf221
 v25:=Tryz.zeroValue221
 t39:=Tryz.underlying322
 a39:=Tryz.isAgg322
 z39:=Tryz.sizeOf322
 v39:=Tryz.zeroValue322
 t45:=Tryz.underlying371
 a45:=Tryz.isAgg371
 z45:=Tryz.sizeOf371
 v45:=Tryz.zeroValue371
 t46:=Tryz.underlying372
 a46:=Tryz.isAgg372
 z46:=Tryz.sizeOf372
 v46:=Tryz.zeroValue372
 t50:=Tryz.underlying40
 a50:=Tryz.isAgg40
 z50:=Tryz.sizeOf40
 v50:=Tryz.zeroValue40
 t53:=Tryz.underlying378
 a53:=Tryz.isAgg378
 z53:=Tryz.sizeOf378
 v53:=Tryz.zeroValue378
 t55:=Tryz.underlying380
 a55:=Tryz.isAgg380
 z55:=Tryz.sizeOf380
 v55:=Tryz.zeroValue380
 t66:=Tryz.underlying434
 a66:=Tryz.isAgg434
 z66:=Tryz.sizeOf434
 v66:=Tryz.zeroValue434
 t70:=Tryz.underlying206
 a70:=Tryz.isAgg206
 z70:=Tryz.sizeOf206
 v70:=Tryz.zeroValue206
 t76:=Tryz.underlying471
 a76:=Tryz.isAgg471
 z76:=Tryz.sizeOf471
 v76:=Tryz.zeroValue471
 t77:=Tryz.underlying472
 a77:=Tryz.isAgg472
 z77:=Tryz.sizeOf472
 v77:=Tryz.zeroValue472}
def Tryz.py:Go.Shelf.Ren:=⟨fun|5=>80|7=>141|n=>n,fun|22=>3|3=>3|4=>4|n=>n,fun|n=>n⟩
def Tryz.aNk:Go.Proofs.SlLaysC2.n5 Tryz.prog Tryz.py:={
 mixed:=EU
 f5:=⟨Tryz.f80.name,ET,Tryz.func80.trans<|eb some EU⟩
 f7:=⟨Tryz.f141.name,ET,Tryz.func141.trans<|eb some EU⟩
 t3:=Tryz.underlying3
 a3:=Tryz.isAgg3
 z3:=Tryz.sizeOf3
 v3:=Tryz.zeroValue3
 t4:=Tryz.underlying4
 a4:=Tryz.isAgg4
 z4:=Tryz.sizeOf4
 v4:=Tryz.zeroValue4
 t22:=Tryz.underlying3
 a22:=Tryz.isAgg3
 z22:=Tryz.sizeOf3
 v22:=Tryz.zeroValue3}
def Tryz.Hk:Go.Shelf.Ren:=⟨fun|4=>138|n=>n,fun|3=>3|4=>4|9=>9|20=>20|22=>212|25=>215|n=>n,fun|n=>n⟩
def Tryz.aCj:Go.Proofs.Lays8.n4 Tryz.prog Tryz.Hk:={
 mixed:=EU
 f4:=⟨Tryz.f138.name,ET,Tryz.func138.trans<|eb some EU⟩
 t0:=Tryz.underlying0
 a0:=Tryz.isAgg0
 z0:=Tryz.sizeOf0
 v0:=Tryz.zeroValue0
 t3:=Tryz.underlying3
 a3:=Tryz.isAgg3
 z3:=Tryz.sizeOf3
 v3:=Tryz.zeroValue3
 t4:=Tryz.underlying4
 a4:=Tryz.isAgg4
 z4:=Tryz.sizeOf4
 v4:=Tryz.zeroValue4
 t9:=Tryz.underlying9
 a9:=Tryz.isAgg9
 z9:=Tryz.sizeOf9
 v9:=Tryz.zeroValue9
 t20:=Tryz.underlying20
 a20:=Tryz.isAgg20
 z20:=Tryz.sizeOf20
 v20:=Tryz.zeroValue20
 t22:=Tryz.underlying212
 a22:=Tryz.isAgg212
 z22:=Tryz.sizeOf212
 v22:=Tryz.zeroValue212}
end Go.Proofs
variable {P:Program} {B:Nat} {w w':World} {f:FuncId} {v:Value} {h':AH} {i:EK}
namespace Go.Ab
open Go.RowKit Go.Maps
variable {ρ:jB} {h:AH}
theorem Ux (d:pK P B ρ h w) {o:oU} {o':Obj} {g:Nat} {s:Nat×Nat} (hb:wP P (tC ρ h.next (g,s)) s o o') (a:Below w.heap.size w w') (y:w.heap.size<=g) (G:w'.heap[g]?=some o'):
  mU P B ρ h w (tC ρ h.next (g,s)) (h.alloc o) w':=by
 have l:A6 ρ (tC ρ h.next (g,s)):=A6.tC<|d.gO _<|ba _
 have c:∀j,(h.alloc o).get j=if j=h.next then some o else h.get j:=fun j=>AH.tQ d.bn
 refine {ext:=l,inv:=?_,un:=?_,pF:=?_,stay:=fun j H r=>ES,frame:=?_,range:=?_,base:=rfl,yR:=?_,next:=EV,size:=a.size,os:=a.os,out:=a.output,tape:=a.tape}
 .refine {oP:=?_,inj:=?_,low:=?_,old:=?_,gO:=?_,jD:=?_,pO:=?_,size:=hI d.size a.size,bn:=tb d.bn}
  .intro i F n b s1 A;rw[c] at n;by_cases e:i=h.next
   .simp_all[aXg,bV]
   .rw[aXf e] at n;rw[bY e] at A;have⟨o2,h2,h3⟩:=d.oP i F n b s1 A;exact⟨o2,(a.block b ES).trans h2,h3.mono l⟩
  .intro i j b C D f v m q k t;rw[c] at m q;by_cases e:i=h.next
   .by_cases p:j=h.next
    .rw[e,p]
    .rw[aXf p] at q;rw[bY p] at t;have⟨oj,hoj⟩:=cO.1 q;have⟨o2,h2,_⟩:=d.oP j oj hoj b D t;grind[bV,Array.getElem?_eq_some_iff]
   .rw[aXf e] at m;rw[bY e] at k;by_cases p:j=h.next
    .have⟨oi,hoi⟩:=cO.1 m;have⟨o2,h2,_⟩:=d.oP i oi hoi b C k;grind[bV,Array.getElem?_eq_some_iff]
    .rw[aXf p] at q;rw[bY p] at t;exact d.inj i j b C D f v m q k t
  .intro i b s1 f m k;rw[c] at m;by_cases e:i=h.next
   .subst e;rw[bV] at k;cases k;exact hI d.size y
   .rw[aXf e] at m;rw[bY e] at k;exact d.low i b s1 f m k
  .intro i b s1 f k;rw[bY fun e=>by have:=d.bn;simp at f;omega] at k;exact d.old i b s1 f k
  .intro i r;simp at r;rw[bY ER];exact d.gO i ER
  .intro i r;simp at r;rw[c,aab];exact d.jD i ER
  .intro E x;exact l _ _<|d.pO E x
 .grind[bY]
 .grind
 .intro b u _;exact a.block b u
 .intro i b s1 f m k z;by_cases e:i=h.next
  .grind[bV]
  .grind[bY]
 .intro i r;rw[c,aXf<|by have:=d.bn;omega]
theorem Ki (x:Int):∀l:EL,(Hb x l).Perm (x::l)
 |[]=>AB _
 |y::l=>by
  rw[Hb];split;grind;exact((Ki x l).cons y).trans ES
def Gn:∀l:EL,(yD l).Perm l
 |[]=>AB _
 |x::l=>(Ki x<|yD l).trans<|(Gn l).cons x
theorem Ii (x:Int):∀l:EL,l.Pairwise (·<=·)->(Hb x l).Pairwise (·<=·)
 |[],_=>by simp[Hb]
 |y::l,h=>by
  rw[Hb];split;grind[List.Pairwise.cons,Int.le_trans,List.rel_of_pairwise_cons];refine List.Pairwise.cons (fun z a=>?_)<|Ii x l h.of_cons;grind[Ki,List.rel_of_pairwise_cons]
def F8:∀l:EL,(yD l).Pairwise (·<=·)
 |[]=>List.Pairwise.nil
 |x::l=>Ii x _<|F8 l
theorem ir {l d:EL} (h:d.Perm l):d.mergeSort (fun x y=>decide<|x<=y)=yD l:=by
 exact List.Perm.eq_of_pairwise (le:=(·<=·)) ER ((List.pairwise_mergeSort (fun a b c e f=>by simp[DQ] at*;exact Int.le_trans e f) (fun a b=>by simp[BA,DQ];exact Int.le_total a b) d).imp fun h=>ES) (F8 l)<|((List.mergeSort_perm d _).trans h).trans (Gn l).symm
theorem Ty:∀{es:List (Value×Value×Nat)} {c:List MapEntry} {d:EL},pP ρ es c->Hq es=some d->c.map (·.key)=d.map encZ/\c.map (·.born)=es.map (·.2.2)
 |[],c,d,f,h=>by
  grind[Hq,pP]
 |(k,v,t)::es,c,d,f,h=>by
  unfold Hq at h;split at h;grind;rename_i n s q g e;cases e;simp[aV] at h;obtain⟨l,m,rfl⟩:=h;obtain⟨p,v2,r,i,o,j,rfl⟩:=f;simp[aZ] at i;have⟨a,b⟩:=Ty j m;grind;cases h
theorem T0 {c:Nat}:∀{es:List (Value×Value×Nat)},E2 c es=true->(∀x∈es.map (·.2.2),x<c)/\(es.map (·.2.2)).Nodup
 |[],_=>ES
 |x::l,h=>by
  simp only[E2,dn] at h;obtain⟨⟨f,g⟩,i⟩:=h;have⟨a,b⟩:=T0 i;refine⟨fun y d=>?_,?_⟩;rcases j2.1 d with rfl|d;simpa [BJ] using f;exact a y d;refine AE.2 ⟨fun j=>?_,b⟩;have⟨y,d,e⟩:=gL.1 j;have:=lP.1 g y d;simp_all
theorem ue:∀{c:EL},Uc c=true->(∀x∈c,(Lit.int .i64 x).wf=true)/\c.Nodup
 |[],_=>ES
 |x::l,h=>by
  simp only[Uc,dn] at h;obtain⟨⟨e,f⟩,d⟩:=h;have⟨a,b⟩:=ue d;grind
theorem ez {k:FuncId} (h3:P.underlying 3=some (.int .i64)) (ο:P.cellsOf 3=1)
  (sk:∀(c b nn:Nat) (S:DataW Unit) (R:Value->Option (DataW Unit×List MemPlace)) (w:World),c<w.heap.size->w.cell? ⟨c,0,none⟩=some (.map<|some b)->w.ownsMap P 3 R b nn S->Maps.size S<=maxLen->Maps.size S*8<=140737488355328->
   Calls P f #[.func (.func k) #[] #[.pointer<|some ⟨c,0,none⟩]] w fun e Q=>∃(v:Value) (d:EL),e= .returned v/\d.Perm (intKeys S)/\
    Q.ownsRow w.heap.size 3 1 v d.length ((d.mergeSort fun x y=>decide<|x<=y).map encZ)/\(v= .slice none 0 0↔d=[])/\Below w.heap.size w Q)
  {c:Nat} (hF:Fb 3 c h=some (v,h')) (T:pK P B ρ h w) (ha:bH ρ [.func (.func k) ⟨[]⟩ ⟨[.pointer<|some ⟨c,0,none⟩]⟩] i):
  Calls P f ⟨i⟩ w fun e Q=>∃ρ' v',e= .returned v'/\aZ ρ' v v'/\mU P B ρ h w ρ' h' Q:=by
 simp only[bH,aZ,Mx,qN] at ha
 obtain⟨_,_,⟨_,⟨_⟩,⟨cs⟩,rfl,I,⟨_,_,⟨F,s,hr,rfl⟩,rfl,D⟩,rfl⟩,rfl,rfl⟩:=ha
 simp only at I D
 subst I D
 rw[Fb] at hF
 split at hF
 .rename_i r e fz α;split at hF
  .rename_i es V γ;split at hF
   .rename_i z ε;split at hF
    .rename_i o;simp only[dn] at o;obtain⟨⟨q,ν⟩,δ⟩:=o;have q:=l7 q;obtain⟨oc,ζ,c',rfl,C,υ,hex⟩:=T.oP c _ α F s hr;obtain⟨τ,M,_⟩:=hex rfl;rw[M,kt] at C;simp only[k5,q6,bH,aZ] at C;obtain⟨_,_,⟨O,ms,ι,rfl⟩,rfl,ξ⟩:=C;obtain⟨om,η,a,Y,rfl⟩:=T.oP r _ γ O ms ι;have⟨hk1,hk2⟩:=Ty Y ε;have⟨st1,st2⟩:=T0 ν;have⟨ky1,ky2⟩:=ue δ;have A:w.cell? ⟨F,0,none⟩=some (.map<|some O):=by
      have:c'[0]?=some (.map<|some O):=by
       rw[<-AF];have:=eb (fun l=>l[0]?) ξ;simpa using this
      simp[World.cell?,ζ,this]
     have X:a.length=z.length:=by
      have:=eb List.length hk1;simpa using this
     have hD:∀x∈a,∃n∈z,x.key= .int .i64 n:=fun x H=>by
      have:x.key∈z.map encZ:=by rw[<-hk1];exact ES
      grind
     let R:Value->Option (DataW Unit×List MemPlace):=fun _=>some (.lit<|.bool false,[])
     have θ:∀x∈a,∃n,x.key= .int .i64 n/\Go.WideElems.rd P 3 R x=some (.int .i64 n,.lit _):=fun x H=>by
      obtain⟨n,hn,e⟩:=hD x H;refine⟨n,e,?_⟩;have:=keyOf_int_mk h3<|ky1 n hn;unfold Go.WideElems.rd;rw[e,this];rfl
     have L:w.ownsMap P 3 R O a.length (.map<|((⟨a⟩:Array MapEntry).toList.map<|Go.WideElems.rg P 3 R).foldr DataW.insert []):=by
      refine⟨_,_,η,⟨?_,⟨fun x H=>?_,?_,?_⟩,fun x H=>?_⟩,ba _,rfl⟩;grind[maxLen];refine st1 _ ?_;grind;grind;grind;grind
     have j:(((⟨a⟩:Array MapEntry).toList.map<|Go.WideElems.rg P 3 R).foldr DataW.insert []).Perm (a.map _):=Go.WideShapes.sorted_perm _
     have J:(a.map<|Go.WideElems.rg P 3 R).map (fun p=>intOf p.1)=z:=by
      rw[BD];have h1:a.map ((fun p=>intOf p.1)∘Go.WideElems.rg P 3 R)=(a.map (·.key)).map fun v=>match v with|.int _ n=>n|_=>0:=by
       rw[BD];refine sr fun x H=>?_;have⟨n,e,hy⟩:=θ x H;show intOf _=_;rw[Go.WideElems.rg_of hy];simp[intOf,e]
      rw[h1,hk1,BD];conv=>rhs;rw[<-List.map_id z]
      rfl
     have E:∀d:EL,d.Perm (intKeys (.map _:DataW Unit))->d.Perm z:=fun d G=>by
      refine G.trans ?_;have:=j.map fun p=>intOf p.1;rwa [J] at this
     have κ:Maps.size (.map (((⟨a⟩:Array MapEntry).toList.map<|Go.WideElems.rg P 3 R).foldr DataW.insert []):DataW Unit)=z.length:=by
      show(((⟨a⟩:Array MapEntry).toList.map _).foldr DataW.insert []).length=_;rw[j.length_eq,js,X]
     have W:F<w.heap.size:=ES
     have hz:(⟨F,0+s.2,none⟩:Addr)=⟨F,0,none⟩:=by rw[M]
     rw[hz]
     refine(sk F O _ _ R w W A L (by grind[maxLen]) ES).mono ?_
     rintro e' Q ⟨u,d,rfl,G,t,K,m⟩
     have G:=E d G
     rw[ir G] at t
     have μ:=((Gn z).trans G.symm).length_eq
     have hF:=Option.some.inj hF
     rw[qs] at hF
     split at hF
     .cases hF;have:=K.2<|gg ES;subst this;exact⟨ρ,_,rfl,EZ,pM T m⟩
     .cases hF;obtain⟨φ,hh⟩:=t;rcases hh with⟨rfl,hz⟩|⟨g,U,cur,rfl,β,Z,σ,π,D,N⟩
      .grind
      .refine⟨tC ρ h.next (g,(U - d.length,0)),_,rfl,?_,Ux T ⟨cur,rfl,?_,?_,ES⟩ m β Z⟩
       .grind[aZ,bV]
       .rw[kt,js,μ,<-EG d.length,N];exact tX _ (by
         have:∀l:EL,qD (l.map encZ)=true:=fun l=>by
          induction l with
          |nil=>rfl
          |cons x l ih=>simp_all[qD,gR,encZ]
         exact this _)
       grind
    .cases hF
   .cases hF
  .cases hF
 .cases hF
end Go.Ab
variable {a:EK}
namespace Go.Ab
open Go.Ct Go.Hm
instance:Inhabited Th:=⟨(0,tJ.zero)⟩
def zb {l:HN} {d:Array Th} (q:Mp l=true) (c:Go.Sort.PermIn 0 l.length l.toArray d) (s:Go.Sort.SortedIn ltT 0 l.length d):d.toList=qO l:=by
 obtain⟨e,_,k⟩:=c;have g:d.size=l.length:=GY
 have c:d.toList.Perm l:=by
  rw[show d.extract 0 l.length=d by rw[<-g];simp] at k;simpa using k
 refine List.Perm.eq_of_pairwise (le:=fun a b:Th=>a.1<=b.1) (fun a b o p e n=>?_) ?_ (Je l)<|c.trans (nE l).symm;exact Yx q a (c.mem_iff.1 o) b ((nE l).mem_iff.1 p)<|Int.le_antisymm e n;rw[List.pairwise_iff_getElem];intro i j r m f;have:=s i j (AK _) f (by simp at m;omega);simp at r m;rw[getElem!_pos d j ER,getElem!_pos d i ER] at this;simpa using this
def Ua {l:HN} {t:Nat} (b:t<l.length*5):(dM l)[t]?=some ((Go.Sort.flatK C0 5 l.toArray)[t]!):=by
 rw[Go.Sort.get_flatK _ _ _ _ HF];have a:t/5<l.length:=ER
 have e:t=t/5*5+t % 5:=ER
 have:(eL C0 l)[t/5*5+t % 5]?=some ((C0 l[t/5])[t % 5]!):=by
  haveI:Fx C0 5:=⟨fun _=>rfl,fun _=>rfl⟩;refine I4 (W:=5) (aL a) ?_;rw[getElem!_pos _ _<|by show t % 5<5;omega];exact aL _
 rw[<-e] at this;rw[show dM l=eL C0 l from rfl,this];congr 2;rw[getElem!_pos _ _ Fe];simp
variable {ρ:jB} {h:AH}
open Go.Sort Go.Proofs in
def bz {f g:FuncId}
  (sk:∀(oP J cap:Nat) (d:Array Th) (w:World),HoldsK C0 5 w oP J d->oP<w.heap.size->d.size<4611686018427387904->
   Calls P f #[.slice (some ⟨oP,J,none⟩) d.size cap,.func (.func g) #[] #[]] w fun e w'=>e= .returned (.tuple #[])/\∃A n X,PermIn 0 d.size d A/\SortedIn ltT 0 d.size A/\w'=sortWorldK C0 5 w oP J n A X)
  {b o n c:Nat} {v:Value} {h':AH} (hF:Iq b o n h=some (v,h')) (hi:pK P B ρ h w) {p:EK} (ha:bH ρ [.slice (some ⟨b,o,none⟩) n c,.func (.func g) ⟨[]⟩ ⟨[]⟩] p):
  Calls P f ⟨p⟩ w fun e w'=>∃ρ' v',e= .returned v'/\aZ ρ' v v'/\mU P B ρ h w ρ' h' w':=by
 simp only[bH,aZ,Mx,qN] at ha
 obtain⟨_,_,⟨y,s,c',hr,_,_,rfl⟩,⟨_,_,⟨_,⟨_⟩,⟨_⟩,rfl,Q,M,rfl⟩,rfl,rfl⟩,rfl⟩:=ha
 simp only at Q M
 subst Q;subst M
 unfold Iq at hF
 split at hF
 .rename_i cs i;split at hF
  .rename_i l O;split at hF
   .rename_i C;simp only[dn] at C;obtain⟨E,G⟩:=C;have E:=l7 E;obtain⟨rfl,S⟩:=Qa O;simp only[aV] at hF;obtain⟨K,U,hF⟩:=hF;cases hF;have a:=U;unfold dE at i;unfold fL at a;simp only[dd,aO,c9,Bool.false_or] at i a;split at i
    .rename_i α e fz x hg;split at i
     .rename_i hle;have i:=Option.some.inj i;rw[hg] at a;split at a
      .cases a
      simp only at a
      split at a
      .rename_i δ;obtain⟨ob,H,c1,rfl,β,η,_⟩:=hi.oP b _ hg y s hr;have ε:y<w.heap.size:=(fj.1 H).1;have hH:HoldsK C0 5 w y (o+s.2) l.toArray:=by
        intro j R;rw[size_flatK] at R;have R:j<l.length*5:=R;have h1:=Ua R;have K:α[o+j]?=some ((Go.Sort.flatK C0 5 l.toArray)[j]!):=by
         rw[<-h1,<-i,v7 ER,x4]
        obtain⟨v',h3,h4⟩:=β.get K;have hint:∃z,(Go.Sort.flatK C0 5 l.toArray)[j]! =I z:=by
         rw[get_flatK _ _ _ _<|show j<l.toArray.size*5 from R];have:j % 5<5:=AA _ ER;generalize j % 5=q at this;rcases q with _|_|_|_|_|q;exact⟨_,rfl⟩;exact⟨_,rfl⟩;exact⟨_,rfl⟩;exact⟨_,rfl⟩;exact⟨_,rfl⟩;omega
        obtain⟨z,hz⟩:=hint;rw[hz] at h4 ⊢;simp only[aZ] at h4;subst h4;refine⟨?_,by simp[World.frozen?,H,δ.1]⟩;have h5:c1[o+s.2+j]?=some (I z):=by
         rw[v7 ER,x4,AF] at h3;rw[show o+s.2+j=s.2+(o+j) by omega];exact h3
        simp[World.cell?,H,h5]
       have V:l.toArray.size=n:=by simpa using S
       have hc:=sk y (o+s.2) c' l.toArray w hH ε EW
       rw[V] at hc
       refine hc.mono ?_
       rintro e' w' ⟨rfl,A,m,X,hp,hs,rfl⟩
       rw[<-S] at hp hs
       have N:=zb G hp hs
       obtain⟨Y,F,D,_⟩:=Fj (P:=P) hi hr U (tX (ρ:=ρ) _ (by
        have:∀l:HN,qD (dM l)=true:=fun l=>by
         induction l with
         |nil=>rfl
         |cons x l ih=>exact ih
        exact this<|qO l))
       have r:(dM<|qO l).length=l.length*5:=by rw[mO,(nE l).length_eq]
       have u:=stores_of_holds P hH 0 (dM<|qO l) (by rw[r,size_flatK];simp) (fun v W=>by
        have:∀l:HN,∀v∈dM l,v.oneCell'=true:=fun l=>by
         induction l with
         |nil=>intro v W;cases W
         |cons x l ih=>
          intro v W;rcases cL.1 (show v∈C0 x++dM l from W) with h1|h1;simp only[C0,tJ.enc,j2,List.not_mem_nil,or_false] at h1;rcases h1 with rfl|rfl|rfl|rfl|rfl<;>rfl;exact ih v h1
        exact this _ v W)
       rw[AI] at u
       have ζ:Y=w.setCells y (o+s.2) (dM<|qO l):=by
        rw[u] at F;cases F;rfl
       have T:Y=putRowK C0 5 w y (o+s.2) A:=by
        have h1:=setCells_putRow w y (o+s.2) (dM<|qO l) 0 (Go.Sort.flatK C0 5 l.toArray) (by rw[r,size_flatK];simp);rw[putRow_self id w y (o+s.2) _ hH,AI] at h1;rw[ζ,h1];unfold putRowK;congr 1;have γ:A.size=l.length:=by rw[<-CB,N,(nE l).length_eq]
        refine ext_get! (by simp[γ]) fun t Z=>?_;have Z:t<l.length*5:=by simpa using Z
        rw[get_setMany _ _ _ _<|by simpa using Z,aae,DZ];have K:=Ua (l:=qO l) (t:=t) (by rw[(nE l).length_eq];exact Z);rw[<-N] at K ⊢;rw[show A.toList.toArray=A by simp] at K;rw[List.getElem!_eq_getElem?_getD,K];rfl
       have L:Go.RowKit.Below Y.heap.size Y (sortWorldK C0 5 w y (o+s.2) m A X):=by
        have e:sortWorldK C0 5 w y (o+s.2) m A X=grow (Go.Sort.ahead Y m) X:=by rw[T];rfl
        rw[e];refine⟨rfl,rfl,rfl,by simp[grow,Go.Sort.ahead],fun k hk=>?_⟩;simp only[grow,Go.Sort.ahead];rw[Array.getElem?_append_left hk]
       exact⟨ρ,_,rfl,by simp only[aZ,qN,bH];exact⟨_,rfl,rfl⟩,D.trans<|pM D.inv L⟩
      .cases a
     .cases i
    .cases i
   .cases hF
  .cases hF
 .cases hF
def im {g:FuncId} (l:∀w:World,Calls P f #[.slice none 0 0,.func (.func g) #[] #[]] w fun e d=>e= .returned (.tuple #[])/\d=w)
 (hF:some (Value.tuple ⟨[]⟩,h)=some (v,h')) (k:pK P B ρ h w) (i:bH ρ [.slice none 0 0,.func (.func g) ⟨[]⟩ ⟨[]⟩] a):
  Calls P f ⟨a⟩ w fun e d=>∃ρ' j,e= .returned j/\aZ ρ' v j/\mU P B ρ h w ρ' h' d:=by
 simp only[bH,aZ,Mx,qN] at i
 obtain⟨_,_,rfl,⟨_,_,⟨_,⟨_⟩,⟨_⟩,rfl,c,b,rfl⟩,rfl,rfl⟩,rfl⟩:=i
 simp only at c b
 subst c;subst b
 cases hF
 refine(l w).mono ?_
 rintro r d ⟨rfl,rfl⟩
 exact⟨ρ,_,rfl,fU _ rfl,mU.refl k⟩
def w7 {e:TypeId}
  (g0:∀w:World,Calls P f #[.slice none 0 0,.int .i64 0] w fun r b=>r= .returned (.slice none 0 0)/\b=w)
  (j:∀(n:Nat) (w:World),0<n->n<=1000->Calls P f #[.slice none 0 0,.int .i64 n] w fun r b=>∃(cap:Nat) (c':EP),r= .returned (.slice (some ⟨w.heap.size,0,none⟩) 0 cap)/\cap*P.cellsOf e<=c'.size/\b=w.drew.alloc (.cells c' e))
  {n:Int} (hF:Lh e n h=some (v,h')) (g:pK P B ρ h w) (d:bH ρ [.slice none 0 0,.int .i64 n] a):
  Calls P f ⟨a⟩ w fun e b=>∃ρ' i,e= .returned i/\aZ ρ' v i/\mU P B ρ h w ρ' h' b:=by
 simp only[bH,aZ] at d
 obtain⟨_,_,rfl,⟨_,_,rfl,rfl,rfl⟩,rfl⟩:=d
 unfold Lh at hF
 split at hF
 .rename_i c;subst c;cases hF;refine(g0 w).mono ?_;rintro r b ⟨rfl,rfl⟩;exact⟨ρ,_,rfl,FU,mU.refl g⟩
 .split at hF
  .rename_i c;cases hF;obtain⟨m,rfl⟩:=cb<|Int.le_of_lt c.1;refine(j m w ER ER).mono ?_;rintro r b ⟨cap,c',rfl,k,rfl⟩;refine⟨tC ρ h.next (w.heap.size,(cap,0)),_,rfl,?_,?_⟩
   .simp only[aZ];exact⟨trivial,trivial,⟨w.heap.size,0,none⟩,cap,fun h=>EY,fun _=>⟨w.heap.size,(cap,0),bV,ba _,fun _=>rfl⟩,rfl⟩
   .refine Ux g (o':= .cells c' e (0,0)) ⟨c',rfl,by simp only[q6,EI];exact bH.nil,by simpa using k,fun l=>by cases l⟩ ?_ (ba _) (by show(w.drew.heap.push _)[w.drew.heap.size]?=_;exact Array.getElem?_push_size);exact(show Go.RowKit.Below w.heap.size w w.drew from⟨rfl,rfl,rfl,ba _,fun _ _=>rfl⟩).alloc (ba _) _
  .cases hF
end Go.Ab
namespace Go.Proofs
open Go.RowKit Go.Maps Go.Sort Go.Shelf
def Tryz.aP9 (m:Nat):AnyZI.SortsIn Tryz.prog Tryz.Lx Fence.wide m:=
 ⟨fun oP c a d W hH hblk b=>callsIn_wide.2<|AnyM.slices_Sort_int Tryz.aMx oP c a d W hH hblk b,
   fun p a W=>callsIn_wide.2<|AnyM.slices_Sort_int_none Tryz.aMx p a W⟩
def Tryz.lx {H:Type} (c b k:Nat) (d:DataW H) (R:Value->Option (DataW H×List MemPlace)) (w:World) (hc:c<w.heap.size) (m:w.cell? ⟨c,0,none⟩=some (.map<|some b)) (i:w.ownsMap Tryz.prog 3 R b k d) (g:Maps.size d<=maxLen) (a:Maps.size d*8<=140737488355328):
  Calls Tryz.prog 242 #[.func (.func 306) #[] #[.pointer<|some ⟨c,0,none⟩]] w fun e l=>∃(v:Value) (f:EL),e= .returned v/\f.Perm (intKeys d)/\
   l.ownsRow w.heap.size 3 1 v f.length ((f.mergeSort fun x y=>decide<|x<=y).map encZ)/\(v= .slice none 0 0↔f=[])/\Below w.heap.size w l:=by
 refine(callsIn_wide (n:=5)).1 ?_
 have j:SeqGives Fence.wide 2 Tryz.prog 306 #[.pointer<|some ⟨c,0,none⟩] encZ (fun f=>f.Perm<|intKeys d) (Maps.size d) w:=
  AnyZI.keys_gives (ρ:=Tryz.Tq) {Tryz.aT9 with} Fence.wide _ trivial rfl ER c b k d _ hc m i
 exact AnyZI.sorted_in Tryz.aJn Fence.wide 5 trivial trivial trivial trivial rfl ER (Tryz.aP9 _) (enters_of Tryz.func305 EU rfl) 306 #[.pointer<|some ⟨c,0,none⟩] trivial (enters_of Tryz.func306 EU rfl) _ _ g a _ j
end Go.Proofs
namespace Go.Proofs
open Go.Shelf Go.RowKit Go.Lib Go.Sort Go.Ct
set_option maxHeartbeats 1000000 in
def Tryz.aRw (x y:Th) (W:World):Calls Tryz.prog 79 #[.agg #[.int .i64 x.1,.int .i64 x.2.st,.int .i64 x.2.w,.int .i64 x.2.d.1,.int .i64 x.2.d.2],.agg #[.int .i64 y.1,.int .i64 y.2.st,.int .i64 y.2.w,.int .i64 y.2.d.1,.int .i64 y.2.d.2]] W fun e d=>e= .returned (.int .i64<|Lib.compareInt x.1 y.1)/\∃q b,d=grow (W.drewN q) b:=by
 have a:=fun c=>AnyG.cmp_Compare_int Tryz.aNk x.1 y.1 c;change ∀c,Calls Tryz.prog 80 _ _ _ at a;generalize Lib.compareInt x.1 y.1=r at a ⊢;go_enter Tryz.func79,Tryz.ntmps79;go_wp2_with (go_at_call 80;refine(a _).mono ?_;rintro e d ⟨rfl,rfl⟩);go_ret;exact⟨rfl,0,_,by rw[alloc_eq_grow,alloc_eq_grow,grow_grow];rfl⟩
open Go.Ab in
def Tryz.aK8 (x y:Th):ltOf (fun x y:Th=>Lib.compareInt x.1 y.1) x y=ltT x y:=by
 unfold ltOf Lib.compareInt ltT;by_cases a:x.1<y.1;simp[a];by_cases b:y.1<x.1<;>simp[a,b]
open Go.Ab in
def Tryz.aSf:SWO (ltOf fun x y:Th=>Lib.compareInt x.1 y.1) where
 irrefl x:=by rw[Tryz.aK8];simp
 trans x y z h1 h2:=by rw[Tryz.aK8] at*;simp at*;omega
 ntrans x y z h1 h2:=by rw[Tryz.aK8] at*;simp at*;omega
open Go.Ab in
def Tryz.zq (oP a cap:Nat) (d:Array Th) (w:World) (hH:HoldsK C0 5 w oP a d) (hblk:oP<w.heap.size) (g:d.size<4611686018427387904):
  Calls Tryz.prog 78 #[.slice (some ⟨oP,a,none⟩) d.size cap,.func (.func 79) #[] #[]] w fun e l=>
   e= .returned (.tuple #[])/\∃f n k,PermIn 0 d.size d f/\SortedIn ltT 0 d.size f/\l=sortWorldK C0 5 w oP a n f k:=by
 have j:∀b w,(callFunc 79 b).run Tryz.prog w= .ok (.enter 79 b) w:=enters_of Tryz.func79 EU rfl
 have c:=AnyQ.slices_SortFunc Tryz.aC0 5 Tryz.isAgg215 Tryz.sizeOf215 C0 (fun _=>rfl) (fun x v i=>by simp[C0,tJ.enc] at i;rcases i with rfl|rfl|rfl|rfl|rfl<;>rfl) (fun x y=>Lib.compareInt x.1 y.1) Tryz.aSf 79 #[] oP a cap d w j (fun _ _ _ _ x y=>Tryz.aRw x y _) hH hblk g
 have e:(ltOf fun x y:Th=>Lib.compareInt x.1 y.1)=ltT:=by funext x y;exact Tryz.aK8 x y
 rw[e] at c
 exact c
def Tryz.aJ6 (w:World):Calls Tryz.prog 78 #[.slice none 0 0,.func (.func 79) #[] #[]] w fun e a=>e= .returned (.tuple #[])/\a=w:=
 AnyF.slices_SortFunc_none Tryz.aC0 none 0 _ w
def Tryz.aS4 (w:World):Calls Tryz.prog 138 #[.slice none 0 0,.int .i64 0] w fun r a=>r= .returned (.slice none 0 0)/\a=w:=
 Any8.slices_Grow_room Tryz.aCj none 0 0 0 w (ba _) ER ER ER
def Tryz.aRe (n:Nat) (w:World) (i:0<n) (j:n<=1000):Calls Tryz.prog 138 #[.slice none 0 0,.int .i64 n] w fun r c=>∃(cap:Nat) (c':EP),r= .returned (.slice (some ⟨w.heap.size,0,none⟩) 0 cap)/\cap*Tryz.prog.cellsOf 215<=c'.size/\c=w.drew.alloc (.cells c' 215):=by
 have e:Tryz.t215.bytes=40:=EU
 have b:=Any8.slices_Grow_grow Tryz.aCj Tryz.t215 (.agg #[.int .i64 0,.int .i64 0,.int .i64 0,.int .i64 0,.int .i64 0]) EU EU (by show 0<5;omega) none 0 0 n [] w (ba _) ER (by rw[e];omega) ER EV (fun _=>rfl) fun a h=>EY;refine b.mono ?_;rintro r c ⟨rfl,rfl⟩;refine⟨_,_,rfl,?_,rfl⟩;have f:Tryz.prog.cellsOf 215=5:=EU
 have g:0+n<=grownCap w (0+n) 0 (Tryz.Hk.t 25):=grownCap_ge w _ _ _;have d:(Value.agg #[.int .i64 0,.int .i64 0,.int .i64 0,.int .i64 0,.int .i64 0]).cells.size=5:=rfl;rw[f];simp only[Builtin.zeroCells,DN];generalize grownCap w (0+n) 0 (Tryz.Hk.t 25)=z at g ⊢;simp[d];omega
end Go.Proofs
variable {l:EK}
namespace Go.Proofs.Z
open Go.Proofs.YteelnoablpdhbaaGreatDoor
open Go.RowKit
theorem qp (p q:Addr) (w:World):
  CallsD Tryz.prog 275 #[.pointer<|some p,.pointer<|some q] .returning w fun e c d=>e= .returned (.tuple #[])/\c= .returning/\d=w:=by
 refine callsD_of_wpS Tryz.func275 rfl fun a f b=>?_
 apply wpS_seq
 apply wpS_region
 simp[wpOpsS,go_sem,recoverD,b,Tryz.ntmps275,Exit.thenS]
 refine wpS_cond (t:=false) (by simp[Act.eval,Array.replicate]) ?_
 refine wpS_of_wp<|wp_skip ?_
 cases a
 simp_all [bodyPostS,results,Tryz.results275]
def w5 (d:aHn w.heap.size ((w.alloc<|.cells #[.int .i64 0] 3).alloc<|.cells #[.bool false] 4) w') (n:Int) (b:Bool):
  w'.cell? ⟨w.heap.size,0,none⟩=some (.int .i64 0)/\w'.frozen? ⟨w.heap.size,0,none⟩=false/\
  (w'.setCell ⟨w.heap.size,0,none⟩<|.int .i64 n).cell? ⟨w.heap.size+1,0,none⟩=some (.bool false)/\(w'.setCell ⟨w.heap.size,0,none⟩<|.int .i64 n).frozen? ⟨w.heap.size+1,0,none⟩=false/\
  ((w'.setCell ⟨w.heap.size,0,none⟩<|.int .i64 n).setCell ⟨w.heap.size+1,0,none⟩<|.bool b).cell? ⟨w.heap.size,0,none⟩=some (.int .i64 n)/\
  ((w'.setCell ⟨w.heap.size,0,none⟩<|.int .i64 n).setCell ⟨w.heap.size+1,0,none⟩<|.bool b).cell? ⟨w.heap.size+1,0,none⟩=some (.bool b):=by
 have a:=(d.On _ (ba _) EW).trans (by show((w.heap.push _).push _)[w.heap.size]?=_;rw[CD,aXf EV,CD,aXg rfl])
 have c:(w'.setCell ⟨w.heap.size,0,none⟩<|.int .i64 n).heap[w.heap.size+1]?=some (.cells #[.bool false] 4 (0,0)):=(Below.heap_setCell _ _ _ _ EV).trans<|(d.On _ ER EV).trans<|by show((w.heap.push _).push _)[w.heap.size+1]?=_;rw[CD,aXg EV]
 have e:((w'.setCell ⟨w.heap.size,0,none⟩<|.int .i64 n).setCell ⟨w.heap.size+1,0,none⟩<|.bool b).heap[w.heap.size]?=some (.cells #[.int .i64 n] 3 (0,0)):=(Below.heap_setCell _ _ _ _ EV).trans<|one_setCell a
 exact⟨by simp[World.cell?,a],by simp[World.frozen?,a],by simp[World.cell?,c],by simp[World.frozen?,c],by simp[World.cell?,e],by simp[World.cell?,one_setCell c]⟩
set_option maxRecDepth 100000 in
def jq (v x l:Value) (w:World) (S:World->Prop) (n:Int) (b:Bool) (hc:Calls Tryz.prog 374 #[v,x,l] ((w.alloc<|.cells #[.int .i64 0] 3).alloc<|.cells #[.bool false] 4) fun e a=>e= .returned (.tuple #[.int .i64 n,.bool b])/\aHn w.heap.size ((w.alloc<|.cells #[.int .i64 0] 3).alloc<|.cells #[.bool false] 4) a/\S a):
  Calls Tryz.prog 200 #[.iface 303 v,x,l] w fun e a=>e= .returned (.tuple #[.int .i64 n,.bool b])/\∃g,S g/\aOg w.heap.size (w.heap.size+2) g a:=by
 have m:∀(d:Fn) (first c:EP) (w:World),(Instr.makeFunc d first c).run Tryz.prog w= .ok (.func d first c) w:=fun _ _ _ _=>rfl
 have q:∀w:World,(method 616 303 v "May").run Tryz.prog w= .ok (374,v) w:=fun _=>EU
 go_enter_defers Tryz.func200,Tryz.ntmps200
 go_wp2_with (go_at_call 374;refine hc.mono ?_;rintro e a ⟨rfl,k,j⟩;obtain⟨p,s,c2,z2,c4,c5⟩:=w5 k n b)
 refine leaves_cons (f:=275) (args:= #[.pointer<|some ⟨w.heap.size,0,none⟩,.pointer<|some ⟨w.heap.size+1,0,none⟩]) EV (by simp[go_sem]) ?_
 refine(qp ⟨w.heap.size,0,none⟩ ⟨w.heap.size+1,0,none⟩ _).mono ?_
 rintro e r o ⟨rfl,rfl,rfl⟩
 simp[Leaves,settle,results,Tryz.results200,go_sem,c4,c5]
 refine⟨a,j,⟨fun i _ h=>?_,?_,rfl,rfl,rfl⟩⟩
 .rw[Below.heap_setCell _ _ _ _ EW,Below.heap_setCell _ _ _ _ EW]
 .simp
def Gl (w:World):Prop:=(∃e z,w.heap[0]?=some (.cells ⟨fO⟩ e z))/\(∃e z,w.heap[1]?=some (.cells ⟨tF⟩ e z))/\(∃e z,w.heap[3]?=some (.cells ⟨aHc⟩ e z))/\(∃e z,w.heap[6]?=some (.cells ⟨Wh⟩ e z))/\12<=w.heap.size
def aTg {c d e2 f:TypeId} {z0 j z2 z3:Nat×Nat} (k:w.heap[0]?=some (.cells ⟨fO⟩ c z0)) (m:w.heap[1]?=some (.cells ⟨tF⟩ d j)) (n:w.heap[3]?=some (.cells ⟨aHc⟩ e2 z2)) (p:w.heap[6]?=some (.cells ⟨Wh⟩ f z3)):aRd Pr 12 (glM c z0 d j e2 z2 f z3) w:=by
 have plain:∀(l:EK) (e:TypeId) (z:Nat×Nat) (b:Nat),qD l=true->w.heap[b]?=some (.cells ⟨l⟩ e z)->∃g,w.heap[b]?=some g/\∀ρ,wP Pr ρ (0,0) (.cells l e z true) g:=fun l e z b q h=>
  ⟨_,h,fun ρ=>⟨⟨l⟩,rfl,by rw[kt,e8 EV];exact tX _ q,EV,fun _=>⟨rfl,rfl,rfl⟩⟩⟩
 intro i o r a;unfold glM at a;split at a;rename_i e;subst e;cases a;exact plain _ _ _ _ GW k;split at a;rename_i e;subst e;cases a;exact plain _ _ _ _ GW m;split at a;rename_i e;subst e;cases a;exact plain _ _ _ _ GW n;split at a;rename_i e;subst e;cases a;exact plain _ _ _ _ GW p;cases a
def aIb (hB:12<=B) (h:Below B w w'):Gl w->Gl w':=fun⟨⟨b,z0,f⟩,⟨c,k,g⟩,⟨d,z2,i⟩,⟨e,z3,j⟩,a⟩=>
 ⟨⟨b,z0,(h.block _ ER).trans f⟩,⟨c,k,(h.block _ ER).trans g⟩,⟨d,z2,(h.block _ ER).trans i⟩,⟨e,z3,(h.block _ ER).trans j⟩,hI a h.size⟩
def aQg:Pr.underlying 3=some (.int .i64):=EU
def aOh:Pr.cellsOf 3=1:=EU
noncomputable def aIo (B:Nat) (hB:12<=B):Lc Pr B K0 where
 G:=Gl
 On:=fun w Q h=>aIb hB h
 call:=fun f i v w e=>by
  unfold K0 at e;split at e<;>cases e
 fwd:=fun f i g M e ρ j w k O=>by
  unfold K0 at e;split at e;cases e;rename_i v x l;cases e;simp only[bH] at k;obtain⟨_,_,r,⟨C,_,K,⟨z,_,J,rfl,rfl⟩,rfl⟩,rfl⟩:=k;simp only[aZ] at r;obtain⟨A,r,rfl⟩:=r;refine⟨[A,C,z],(w.alloc<|.cells #[.int .i64 0] 3).alloc<|.cells #[.bool false] 4,bH.cons r<|bH.cons K<|bH.cons J rfl,((Below.refl _ _).alloc (ba _) _).alloc EV _,fun a S m I=>?_⟩;unfold Pe at m;split at m;rename_i n b;have u:((w.alloc<|.cells #[.int .i64 0] 3).alloc<|.cells #[.bool false] 4).heap.size=w.heap.size+2:=EV
  rw[u];exact jq A C z w S n b I;cases m;cases e;cases e;cases e;cases e
 Aa:=fun f i F e h v N hF ρ w j q _ k=>by
  unfold K0 at e;split at e;rename_i c;cases e;exact ez aQg aOh (fun c b L D R w o p t E H=>Tryz.lx c b L D R w o p t E H) hF q k;cases e;cases e;exact bz (fun oP y s d w o p t=>Tryz.zq oP y s d w o p t) hF q k;cases e;exact im (fun w=>Tryz.aJ6 w) hF q k;cases e;exact w7 (fun w=>Tryz.aS4 w) (fun n w o p=>Tryz.aRe n w o p) hF q k;cases e
def Bw (a:Gl w):12<=w.heap.size:=a.2.2.2.2
def oA:ownKnob Tryz.prog.godebug=none:=EU
def wb:laidOutB Tryz.prog=true:=EU
def g0:Tryz.prog.globalNamed "donjon/place.limits"=some 0:=EU
def g1:Tryz.prog.globalNamed "donjon/isa.ops"=some 1:=EU
def g2:Tryz.prog.globalNamed "donjon/note.kinds"=some 3:=EU
def g3:Tryz.prog.globalNamed "donjon/moesi.rows"=some 6:=EU
def aVf:Tryz.prog.globalNamed "math/bits.deBruijn64tab"=some 11:=EU
def aRn {W:World} {l:List (String×DataW Unit)} (a:(l.all fun x=>x.2.handleName?.isNone)=true) (h:laidMetH Tryz.prog l W) (m0:("donjon/place.limits",Rows.laid_donjon_place_limits)∈l) (m1:("donjon/isa.ops",Rows.laid_donjon_isa_ops)∈l)
  (m2:("donjon/note.kinds",Rows.laid_donjon_note_kinds)∈l) (m3:("donjon/moesi.rows",Rows.laid_donjon_moesi_rows)∈l) (m4:("math/bits.deBruijn64tab",Rows.laid_math_bits_deBruijn64tab)∈l):Gl W:=by
 obtain⟨b,z0,f⟩:=yA (l:=fO) 8 a h m0 g0 (t:=197) EU EU
 obtain⟨c,m,g⟩:=yA (l:=tF) 8 a h m1 g1 (t:=264) EU EU
 obtain⟨d,z2,i⟩:=yA (l:=aHc) 8 a h m2 g2 (t:=429) EU EU
 obtain⟨e,z3,j⟩:=yA (l:=Wh) 8 a h m3 g3 (t:=465) EU EU
 obtain⟨n,z4,k⟩:=yA (l:=((Ld Tryz.prog 8 498<|Rows.laid_math_bits_deBruijn64tab (H:=Unit)).getD [])) 8 a h m4 aVf (t:=498) EU EU
 exact⟨⟨b,z0,f⟩,⟨c,m,g⟩,⟨d,z2,i⟩,⟨e,z3,j⟩,(fj.1 k).1⟩
def aQ2:vU Tryz.prog 8 39=some [some .i64,some .i64,some .i64,some .i64]:=EU
def aSc (k:pI [some .i64,some .i64,some .i64,some .i64] l):∃a b c d:Int,l=[I a,I b,I c,I d]:=by
 obtain⟨a,l1,e,m⟩:=jT k;obtain⟨b,q,f,n⟩:=jT m;obtain⟨c,r,g,o⟩:=jT n;obtain⟨d,s,i,p⟩:=jT o;have j:=Ja p;subst j i g f e;exact⟨a,b,c,d,rfl⟩
end Go.Proofs.Z
