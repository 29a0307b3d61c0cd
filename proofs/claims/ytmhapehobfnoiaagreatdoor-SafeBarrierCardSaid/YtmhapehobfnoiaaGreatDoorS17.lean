/- A part of the proof. -/
import Derived.Test.YtmhapehobfnoiaaGreatDoorS9
import Derived.Test.YtmhapehobfnoiaaGreatDoorS7
import Derived.Shelf.SlIterI.Nil
import Derived.Shelf.SortM.Plain
import Derived.Shelf.SortM.SortNone
import Derived.Shelf.SlSortCmp.WholeK
import Derived.Shelf.SlicesG.Cmp
import Derived.Shelf.Spec.SlicesGrow
import Derived.Ground.GgzProg
import Derived.Ground.SlgmProg
import Derived.Ground.SlsfProg
import Derived.Ground.SlgcProg
import Derived.Ground.Names8Prog
import Derived.Test.YtmhapehobfnoiaaGreatDoorChecked
import Derived.Test.YtmhapehobfnoiaaGreatDoorS5
import Derived.Maps.Own
import Derived.Maps.Keyed
import Derived.Maps.Range
import Derived.Lib.SlKeysI
import Derived.Test.YtmhapehobfnoiaaGreatDoorS8
import Derived.Tactics
import Derived.Tactics2
import Derived.Defers
import Derived.Recover
import Derived.Laws.Pointers
import Derived.OneCell
import Derived.Below
import Derived.Test.YtmhapehobfnoiaaGreatDoorTie
import Derived.Test.YtmhapehobfnoiaaGreatDoorCards
import Derived.LaidMore
import Derived.SevenTiedAt
namespace Go.Proofs.YtmhapehobfnoiaaGreatDoor
open Go Go.Ab
section
def fJ:List Value:=[
 .int .i64 4,.int .i64 16,.int .i64 8,.int .i64 4,.int .i64 16,.int .i64 8,.int .i64 4]
def yM:List Value:=[
 .string ⟨#[]⟩,.int .i64 0,.int .i64 0,.int .i64 0,.string ⟨#[115,101,116]⟩,.int .i64 1,.int .i64 2,.int .i64 0,.string ⟨#[97,100,100]⟩,.int .i64 1,.int .i64 1,
  .int .i64 1,.string ⟨#[108,111,97,100]⟩,.int .i64 1,.int .i64 1,.int .i64 0,.string ⟨#[115,116,111,114,101]⟩,.int .i64 1,.int .i64 1,.int .i64 0,
  .string ⟨#[115,119,97,112]⟩,.int .i64 1,.int .i64 1,.int .i64 0,.string ⟨#[102,101,110,99,101]⟩,.int .i64 0,.int .i64 0,.int .i64 0,
  .string ⟨#[119,111,114,108,100]⟩,.int .i64 3,.int .i64 0,.int .i64 0,.string ⟨#[99,97,108,108]⟩,.int .i64 4,.int .i64 1,.int .i64 1,.string ⟨#[106,117,109,112]⟩,
  .int .i64 5,.int .i64 0,.int .i64 0,.string ⟨#[122,101,114,111]⟩,.int .i64 1,.int .i64 5,.int .i64 0,.string ⟨#[104,97,108,116]⟩,.int .i64 0,.int .i64 0,.int .i64 0]
def ny:List Value:=[
 .string ⟨#[]⟩,.int .i64 0,.int .i64 0,.int .i64 0,.int .i64 0,.int .i64 0,.int .i64 0,.int .i64 0,.int .i64 0,.string ⟨#[103,101,116,115]⟩,.int .i64 0,.int .i64 1,
  .int .i64 2,.int .i64 3,.int .i64 0,.int .i64 0,.int .i64 0,.int .i64 0,.string ⟨#[103,101,116,109]⟩,.int .i64 0,.int .i64 1,.int .i64 2,.int .i64 3,.int .i64 0,
  .int .i64 0,.int .i64 0,.int .i64 0,.string ⟨#[112,117,116]⟩,.int .i64 0,.int .i64 1,.int .i64 2,.int .i64 4,.int .i64 8,.int .i64 9,.int .i64 10,.int .i64 0,
  .string ⟨#[100,111,110,101]⟩,.int .i64 1,.int .i64 1,.int .i64 2,.int .i64 0,.int .i64 0,.int .i64 0,.int .i64 0,.int .i64 0,.string ⟨#[114,101,112,108,121]⟩,
  .int .i64 1,.int .i64 1,.int .i64 2,.int .i64 5,.int .i64 8,.int .i64 9,.int .i64 10,.int .i64 11,.string ⟨#[119,97,108,107]⟩,.int .i64 0,.int .i64 1,.int .i64 12,
  .int .i64 0,.int .i64 0,.int .i64 0,.int .i64 0,.int .i64 0,.string ⟨#[100,114,111,112,112,101,100]⟩,.int .i64 1,.int .i64 1,.int .i64 13,.int .i64 0,.int .i64 0,
  .int .i64 0,.int .i64 0,.int .i64 0,.string ⟨#[103,114,97,110,116]⟩,.int .i64 2,.int .i64 1,.int .i64 2,.int .i64 4,.int .i64 6,.int .i64 8,.int .i64 9,.int .i64 0,
  .string ⟨#[110,97,99,107]⟩,.int .i64 2,.int .i64 1,.int .i64 2,.int .i64 11,.int .i64 0,.int .i64 0,.int .i64 0,.int .i64 0,.string ⟨#[112,117,116,97,99,107]⟩,
  .int .i64 2,.int .i64 1,.int .i64 2,.int .i64 0,.int .i64 0,.int .i64 0,.int .i64 0,.int .i64 0,.string ⟨#[112,114,111,98,101]⟩,.int .i64 3,.int .i64 1,.int .i64 2,
  .int .i64 7,.int .i64 0,.int .i64 0,.int .i64 0,.int .i64 0,.string ⟨#[119,97,108,107,101,100]⟩,.int .i64 2,.int .i64 1,.int .i64 8,.int .i64 9,.int .i64 12,
  .int .i64 0,.int .i64 0,.int .i64 0,.string ⟨#[100,114,111,112]⟩,.int .i64 3,.int .i64 1,.int .i64 13,.int .i64 0,.int .i64 0,.int .i64 0,.int .i64 0,.int .i64 0]
def tk:List Value:=[
 .string ⟨#[73]⟩,.bool false,.bool false,.bool false,.bool false,.int .i64 0,.int .i64 0,.int .i64 0,.string ⟨#[83]⟩,.bool true,.bool false,.bool false,.bool false,
  .int .i64 0,.int .i64 1,.int .i64 0,.string ⟨#[69]⟩,.bool true,.bool true,.bool false,.bool true,.int .i64 4,.int .i64 1,.int .i64 0,.string ⟨#[79]⟩,.bool true,
  .bool false,.bool true,.bool true,.int .i64 0,.int .i64 3,.int .i64 0,.string ⟨#[77]⟩,.bool true,.bool true,.bool true,.bool true,.int .i64 4,.int .i64 3,.int .i64 0]
def glM (e0:TypeId) (z0:Nat×Nat) (e1:TypeId) (z1:Nat×Nat) (e2:TypeId) (z2:Nat×Nat) (e3:TypeId) (z3:Nat×Nat):Nat->Option oS:=fun i=>
 if i=0 then some (.cells fJ e0 z0 true) else if i=1 then some (.cells yM e1 z1 true) else if i=2 then some (.cells ny e2 z2 true) else if i=3 then some (.cells tk e3 z3 true) else none
variable (e0:TypeId) (z0:Nat×Nat) (e1:TypeId) (z1:Nat×Nat) (e2:TypeId) (z2:Nat×Nat) (e3:TypeId) (z3:Nat×Nat)
noncomputable def st4:AH:=Go.Ab.start 4 (yU 4 (glM e0 z0 e1 z1 e2 z2 e3 z3) [])
end
end Go.Proofs.YtmhapehobfnoiaaGreatDoor
namespace Go.Proofs
open Go.Shelf
section
def Tryz.O2:Go.Shelf.Ren:=⟨fun|7=>101|10=>155|n=>n,fun|23=>157|26=>3|3=>252|28=>133|0=>0|27=>132|33=>42|4=>4|n=>n,fun|n=>n⟩
theorem Tryz.aHn:Go.Proofs.SlLaysZI.n7 Tryz.prog Tryz.O2:={
 mixed:=by kernel_rfl
 f7:=⟨Tryz.f101.name,by decide,Tryz.func101.trans (congrArg some (by kernel_rfl))⟩
 f10:=⟨Tryz.f155.name,by decide,Tryz.func155.trans (congrArg some (by kernel_rfl))⟩
 t0:=Tryz.underlying0
 a0:=Tryz.isAgg0
 z0:=Tryz.sizeOf0
 v0:=Tryz.zeroValue0
 t4:=Tryz.underlying4
 a4:=Tryz.isAgg4
 z4:=Tryz.sizeOf4
 v4:=Tryz.zeroValue4
 t23:=Tryz.underlying157
 a23:=Tryz.isAgg157
 z23:=Tryz.sizeOf157
 v23:=Tryz.zeroValue157
 t26:=Tryz.underlying3
 a26:=Tryz.isAgg3
 z26:=Tryz.sizeOf3
 v26:=Tryz.zeroValue3
 t27:=Tryz.underlying132
 a27:=Tryz.isAgg132
 z27:=Tryz.sizeOf132
 v27:=Tryz.zeroValue132
 t28:=Tryz.underlying133
 a28:=Tryz.isAgg133
 z28:=Tryz.sizeOf133
 v28:=Tryz.zeroValue133
 t33:=Tryz.underlying42
 a33:=Tryz.isAgg42
 z33:=Tryz.sizeOf42
 v33:=Tryz.zeroValue42}
def Tryz.Gy:Go.Shelf.Ren:=⟨fun|6=>100|8=>153|9=>154|11=>189|13=>158|12=>190|23=>199|24=>200|14=>249|15=>250|16=>251|17=>252|18=>253|19=>254|20=>255|21=>256|22=>257|25=>300|26=>259|27=>260|28=>301|29=>302|30=>159|31=>326|n=>n,fun|26=>3|28=>133|24=>25|0=>0|3=>3|37=>310|48=>363|50=>365|4=>4|40=>357|39=>356|45=>81|5=>5|9=>9|51=>401|55=>223|57=>440|58=>441|33=>42|n=>n,fun|n=>n⟩
theorem Tryz.xf:Go.Proofs.SlLaysZI.n6 Tryz.prog Tryz.Gy:={
 mixed:=by kernel_rfl
 f6:=⟨Tryz.f100.name,by decide,Tryz.func100.trans (congrArg some (by kernel_rfl))⟩
 f8:=⟨Tryz.f153.name,by decide,Tryz.func153.trans (congrArg some (by kernel_rfl))⟩
 f11:=⟨Tryz.f189.name,by decide,Tryz.func189.trans (congrArg some (by kernel_rfl))⟩
 t0:=Tryz.underlying0
 a0:=Tryz.isAgg0
 z0:=Tryz.sizeOf0
 v0:=Tryz.zeroValue0
 t24:=Tryz.underlying25
 a24:=Tryz.isAgg25
 z24:=Tryz.sizeOf25
 v24:=Tryz.zeroValue25
 t26:=Tryz.underlying3
 a26:=Tryz.isAgg3
 z26:=Tryz.sizeOf3
 v26:=Tryz.zeroValue3
 t28:=Tryz.underlying133
 a28:=Tryz.isAgg133
 z28:=Tryz.sizeOf133
 v28:=Tryz.zeroValue133
 i26:=by kernel_rfl}
def Tryz.cn:Go.Shelf.Ren:=⟨fun|5=>154|8=>158|7=>190|19=>199|20=>200|10=>249|11=>250|12=>251|13=>252|14=>253|15=>254|16=>255|17=>256|18=>257|30=>300|31=>259|32=>260|33=>301|34=>302|35=>159|40=>326|n=>n,fun|23=>25|25=>3|3=>3|32=>310|22=>25|0=>0|44=>363|46=>365|4=>4|36=>357|35=>356|41=>81|5=>5|9=>9|53=>401|57=>223|63=>440|64=>441|n=>n,fun|n=>n⟩
theorem Tryz.aBi:Go.Proofs.SlLaysM.n5 Tryz.prog Tryz.cn:={
 mixed:=by kernel_rfl
 f5:=⟨Tryz.f154.name,by decide,Tryz.func154.trans (congrArg some (by kernel_rfl))⟩
 f7:=⟨Tryz.f190.name,by decide,Tryz.func190.trans (congrArg some (by kernel_rfl))⟩
 f8:=Tryz.func158.trans (congrArg some (by kernel_rfl))
 f10:=⟨Tryz.f249.name,by decide,Tryz.func249.trans (congrArg some (by kernel_rfl))⟩
 f11:=⟨Tryz.f250.name,by decide,Tryz.func250.trans (congrArg some (by kernel_rfl))⟩
 f12:=⟨Tryz.f251.name,by decide,Tryz.func251.trans (congrArg some (by kernel_rfl))⟩
 f13:=⟨Tryz.f252.name,by decide,Tryz.func252.trans (congrArg some (by kernel_rfl))⟩
 f14:=⟨Tryz.f253.name,by decide,Tryz.func253.trans (congrArg some (by kernel_rfl))⟩
 f15:=⟨Tryz.f254.name,by decide,Tryz.func254.trans (congrArg some (by kernel_rfl))⟩
 f16:=⟨Tryz.f255.name,by decide,Tryz.func255.trans (congrArg some (by kernel_rfl))⟩
 f17:=⟨Tryz.f256.name,by decide,Tryz.func256.trans (congrArg some (by kernel_rfl))⟩
 f18:=⟨Tryz.f257.name,by decide,Tryz.func257.trans (congrArg some (by kernel_rfl))⟩
 f19:=Tryz.func199.trans (congrArg some (by kernel_rfl))
 f20:=Tryz.func200.trans (congrArg some (by kernel_rfl))
 f30:=⟨Tryz.f300.name,by decide,Tryz.func300.trans (congrArg some (by kernel_rfl))⟩
 f31:=Tryz.func259.trans (congrArg some (by kernel_rfl))
 f32:=Tryz.func260.trans (congrArg some (by kernel_rfl))
 f33:=⟨Tryz.f301.name,by decide,Tryz.func301.trans (congrArg some (by kernel_rfl))⟩
 f34:=⟨Tryz.f302.name,by decide,Tryz.func302.trans (congrArg some (by kernel_rfl))⟩
 f35:=⟨Tryz.f159.name,by decide,Tryz.func159.trans (congrArg some (by kernel_rfl))⟩
 f40:=⟨Tryz.f326.name,by decide,Tryz.func326.trans (congrArg some (by kernel_rfl))⟩
 t0:=Tryz.underlying0
 a0:=Tryz.isAgg0
 z0:=Tryz.sizeOf0
 v0:=Tryz.zeroValue0
 t3:=Tryz.underlying3
 a3:=Tryz.isAgg3
 z3:=Tryz.sizeOf3
 v3:=Tryz.zeroValue3
 t4:=Tryz.underlying4
 a4:=Tryz.isAgg4
 z4:=Tryz.sizeOf4
 v4:=Tryz.zeroValue4
 t5:=Tryz.underlying5
 a5:=Tryz.isAgg5
 z5:=Tryz.sizeOf5
 v5:=Tryz.zeroValue5
 t9:=Tryz.underlying9
 a9:=Tryz.isAgg9
 z9:=Tryz.sizeOf9
 v9:=Tryz.zeroValue9
 t22:=Tryz.underlying25
 a22:=Tryz.isAgg25
 z22:=Tryz.sizeOf25
 v22:=Tryz.zeroValue25
 t23:=Tryz.underlying25
 a23:=Tryz.isAgg25
 z23:=Tryz.sizeOf25
 v23:=Tryz.zeroValue25
 t25:=Tryz.underlying3
 a25:=Tryz.isAgg3
 z25:=Tryz.sizeOf3
 v25:=Tryz.zeroValue3
 t32:=Tryz.underlying310
 a32:=Tryz.isAgg310
 z32:=Tryz.sizeOf310
 v32:=Tryz.zeroValue310
 t35:=Tryz.underlying356
 a35:=Tryz.isAgg356
 z35:=Tryz.sizeOf356
 v35:=Tryz.zeroValue356
 t36:=Tryz.underlying357
 a36:=Tryz.isAgg357
 z36:=Tryz.sizeOf357
 v36:=Tryz.zeroValue357
 t41:=Tryz.underlying81
 a41:=Tryz.isAgg81
 z41:=Tryz.sizeOf81
 v41:=Tryz.zeroValue81
 t44:=Tryz.underlying363
 a44:=Tryz.isAgg363
 z44:=Tryz.sizeOf363
 v44:=Tryz.zeroValue363
 t46:=Tryz.underlying365
 a46:=Tryz.isAgg365
 z46:=Tryz.sizeOf365
 v46:=Tryz.zeroValue365
 t53:=Tryz.underlying401
 a53:=Tryz.isAgg401
 z53:=Tryz.sizeOf401
 v53:=Tryz.zeroValue401
 t57:=Tryz.underlying223
 a57:=Tryz.isAgg223
 z57:=Tryz.sizeOf223
 v57:=Tryz.zeroValue223
 t63:=Tryz.underlying440
 a63:=Tryz.isAgg440
 z63:=Tryz.sizeOf440
 v63:=Tryz.zeroValue440
 t64:=Tryz.underlying441
 a64:=Tryz.isAgg441
 z64:=Tryz.sizeOf441
 v64:=Tryz.zeroValue441}
def Tryz.Xy:Go.Shelf.Ren:=⟨fun|6=>104|15=>158|14=>157|28=>199|29=>200|20=>191|21=>192|22=>193|23=>194|24=>195|25=>196|26=>197|27=>198|46=>258|47=>259|48=>260|49=>261|50=>262|57=>303|n=>n,fun|22=>253|24=>256|25=>262|3=>3|39=>310|0=>0|53=>363|55=>365|4=>4|46=>357|45=>356|50=>81|5=>5|9=>9|66=>401|70=>223|76=>440|77=>441|n=>n,fun|n=>n⟩
theorem Tryz.aCf:Go.Proofs.SlLaysF0.n6 Tryz.prog Tryz.Xy:={
 mixed:=by kernel_rfl
 f6:=⟨Tryz.f104.name,by decide,Tryz.func104.trans (congrArg some (by kernel_rfl))⟩
 f14:=⟨Tryz.f157.name,by decide,Tryz.func157.trans (congrArg some (by kernel_rfl))⟩
 f15:=Tryz.func158.trans (congrArg some (by kernel_rfl))
 f20:=⟨Tryz.f191.name,by decide,Tryz.func191.trans (congrArg some (by kernel_rfl))⟩
 f21:=⟨Tryz.f192.name,by decide,Tryz.func192.trans (congrArg some (by kernel_rfl))⟩
 f22:=⟨Tryz.f193.name,by decide,Tryz.func193.trans (congrArg some (by kernel_rfl))⟩
 f23:=⟨Tryz.f194.name,by decide,Tryz.func194.trans (congrArg some (by kernel_rfl))⟩
 f24:=⟨Tryz.f195.name,by decide,Tryz.func195.trans (congrArg some (by kernel_rfl))⟩
 f25:=⟨Tryz.f196.name,by decide,Tryz.func196.trans (congrArg some (by kernel_rfl))⟩
 f26:=⟨Tryz.f197.name,by decide,Tryz.func197.trans (congrArg some (by kernel_rfl))⟩
 f27:=⟨Tryz.f198.name,by decide,Tryz.func198.trans (congrArg some (by kernel_rfl))⟩
 f28:=Tryz.func199.trans (congrArg some (by kernel_rfl))
 f29:=Tryz.func200.trans (congrArg some (by kernel_rfl))
 f46:=⟨Tryz.f258.name,by decide,Tryz.func258.trans (congrArg some (by kernel_rfl))⟩
 f47:=Tryz.func259.trans (congrArg some (by kernel_rfl))
 f48:=Tryz.func260.trans (congrArg some (by kernel_rfl))
 f49:=⟨Tryz.f261.name,by decide,Tryz.func261.trans (congrArg some (by kernel_rfl))⟩
 f50:=⟨Tryz.f262.name,by decide,Tryz.func262.trans (congrArg some (by kernel_rfl))⟩
 f57:=⟨Tryz.f303.name,by decide,Tryz.func303.trans (congrArg some (by kernel_rfl))⟩
 t0:=Tryz.underlying0
 a0:=Tryz.isAgg0
 z0:=Tryz.sizeOf0
 v0:=Tryz.zeroValue0
 t3:=Tryz.underlying3
 a3:=Tryz.isAgg3
 z3:=Tryz.sizeOf3
 v3:=Tryz.zeroValue3
 t4:=Tryz.underlying4
 a4:=Tryz.isAgg4
 z4:=Tryz.sizeOf4
 v4:=Tryz.zeroValue4
 t5:=Tryz.underlying5
 a5:=Tryz.isAgg5
 z5:=Tryz.sizeOf5
 v5:=Tryz.zeroValue5
 t9:=Tryz.underlying9
 a9:=Tryz.isAgg9
 z9:=Tryz.sizeOf9
 v9:=Tryz.zeroValue9
 t22:=Tryz.underlying253
 a22:=Tryz.isAgg253
 z22:=Tryz.sizeOf253
 v22:=Tryz.zeroValue253
 t25:=Tryz.underlying262
 a25:=Tryz.isAgg262
 z25:=Tryz.sizeOf262
 v25:=Tryz.zeroValue262
 t39:=Tryz.underlying310
 a39:=Tryz.isAgg310
 z39:=Tryz.sizeOf310
 v39:=Tryz.zeroValue310
 t45:=Tryz.underlying356
 a45:=Tryz.isAgg356
 z45:=Tryz.sizeOf356
 v45:=Tryz.zeroValue356
 t46:=Tryz.underlying357
 a46:=Tryz.isAgg357
 z46:=Tryz.sizeOf357
 v46:=Tryz.zeroValue357
 t50:=Tryz.underlying81
 a50:=Tryz.isAgg81
 z50:=Tryz.sizeOf81
 v50:=Tryz.zeroValue81
 t53:=Tryz.underlying363
 a53:=Tryz.isAgg363
 z53:=Tryz.sizeOf363
 v53:=Tryz.zeroValue363
 t55:=Tryz.underlying365
 a55:=Tryz.isAgg365
 z55:=Tryz.sizeOf365
 v55:=Tryz.zeroValue365
 t66:=Tryz.underlying401
 a66:=Tryz.isAgg401
 z66:=Tryz.sizeOf401
 v66:=Tryz.zeroValue401
 t70:=Tryz.underlying223
 a70:=Tryz.isAgg223
 z70:=Tryz.sizeOf223
 v70:=Tryz.zeroValue223
 t76:=Tryz.underlying440
 a76:=Tryz.isAgg440
 z76:=Tryz.sizeOf440
 v76:=Tryz.zeroValue440
 t77:=Tryz.underlying441
 a77:=Tryz.isAgg441
 z77:=Tryz.sizeOf441
 v77:=Tryz.zeroValue441}
def Tryz.Wq:Go.Shelf.Ren:=⟨fun|5=>106|7=>159|n=>n,fun|22=>3|3=>3|4=>4|n=>n,fun|n=>n⟩
theorem Tryz.aE9:Go.Proofs.SlLaysC2.n5 Tryz.prog Tryz.Wq:={
 mixed:=by kernel_rfl
 f5:=⟨Tryz.f106.name,by decide,Tryz.func106.trans (congrArg some (by kernel_rfl))⟩
 f7:=⟨Tryz.f159.name,by decide,Tryz.func159.trans (congrArg some (by kernel_rfl))⟩
 t3:=Tryz.underlying3
 a3:=Tryz.isAgg3
 z3:=Tryz.sizeOf3
 v3:=Tryz.zeroValue3
 t4:=Tryz.underlying4
 a4:=Tryz.isAgg4
 z4:=Tryz.sizeOf4
 v4:=Tryz.zeroValue4
 t22:=Tryz.underlying3
 a22:=Tryz.isAgg3
 z22:=Tryz.sizeOf3
 v22:=Tryz.zeroValue3}
def Tryz.De:Go.Shelf.Ren:=⟨fun|4=>156|n=>n,fun|3=>3|4=>4|9=>9|20=>20|22=>253|25=>256|n=>n,fun|n=>n⟩
theorem Tryz.vp:Go.Proofs.Lays8.n4 Tryz.prog Tryz.De:={
 mixed:=by kernel_rfl
 f4:=⟨Tryz.f156.name,by decide,Tryz.func156.trans (congrArg some (by kernel_rfl))⟩
 t0:=Tryz.underlying0
 a0:=Tryz.isAgg0
 z0:=Tryz.sizeOf0
 v0:=Tryz.zeroValue0
 t3:=Tryz.underlying3
 a3:=Tryz.isAgg3
 z3:=Tryz.sizeOf3
 v3:=Tryz.zeroValue3
 t4:=Tryz.underlying4
 a4:=Tryz.isAgg4
 z4:=Tryz.sizeOf4
 v4:=Tryz.zeroValue4
 t9:=Tryz.underlying9
 a9:=Tryz.isAgg9
 z9:=Tryz.sizeOf9
 v9:=Tryz.zeroValue9
 t20:=Tryz.underlying20
 a20:=Tryz.isAgg20
 z20:=Tryz.sizeOf20
 v20:=Tryz.zeroValue20
 t22:=Tryz.underlying253
 a22:=Tryz.isAgg253
 z22:=Tryz.sizeOf253
 v22:=Tryz.zeroValue253}
end
end Go.Proofs
namespace Go.Ab
open Go.RowKit Go.Maps
section
variable {P:Program} {B:Nat} {ρ:iP} {h:AH} {w:World}
theorem Ns (k:Inv P B ρ h w) {o:oS} {o':Obj} {g:Nat} {s:Nat×Nat} {w':World} (hb:tZ P (vH ρ h.next (g,s)) s o o') (c:Below w.heap.size w w') (z:w.heap.size<=g) (J:w'.heap[g]?=some o'):
  lJ P B ρ h w (vH ρ h.next (g,s)) (h.alloc o) w':=by
 have l:Ext ρ (vH ρ h.next (g,s)):=Ext.vH (k.fresh _ (Nat.le_refl _))
 have a:∀j,(h.alloc o).get j=if j=h.next then some o else h.get j:=fun j=>AH.wR k.bn
 refine {ext:=l,inv:=?_,un:=?_,nQ:=?_,stay:=fun j N n=>by rw[a,aab];exact n,frame:=?_,range:=?_,base:=rfl,wJ:=?_,next:=by simp,size:=c.size,os:=c.os,out:=c.output,tape:=c.tape}
 .refine {nD:=?_,inj:=?_,low:=?_,old:=?_,fresh:=?_,iE:=?_,qR:=?_,size:=Nat.le_trans k.size c.size,bn:=Nat.le_succ_of_le k.bn}
  .intro i K m b s1 q;rw[a] at m;by_cases e:i=h.next
   .subst e;rw[aKj rfl] at m;cases m;rw[bT] at q;cases q;exact⟨o',J,hb⟩
   .rw[aKi e] at m;rw[cB e] at q;obtain⟨D,r,I⟩:=k.nD i K m b s1 q;exact⟨D,(c.block b (Array.getElem?_eq_some_iff.1 r).1).trans r,I.mono l⟩
  .intro i j b F G f x gi u d t;rw[a] at gi u;by_cases e:i=h.next
   .by_cases p:j=h.next
    .rw[e,p]
    .rw[aKi p] at u;rw[cB p] at t;obtain⟨M,C⟩:=Option.isSome_iff_exists.1 u;obtain⟨D,r,_⟩:=k.nD j M C b G t;subst e;rw[bT] at d;cases d;have:=(Array.getElem?_eq_some_iff.1 r).1;omega
   .rw[aKi e] at gi;rw[cB e] at d;by_cases p:j=h.next
    .obtain⟨L,A⟩:=Option.isSome_iff_exists.1 gi;obtain⟨D,r,_⟩:=k.nD i L A b F d;subst p;rw[bT] at t;cases t;have:=(Array.getElem?_eq_some_iff.1 r).1;omega
    .rw[aKi p] at u;rw[cB p] at t;exact k.inj i j b F G f x gi u d t
  .intro i b s1 f gi d;rw[a] at gi;by_cases e:i=h.next
   .subst e;rw[bT] at d;cases d;exact Nat.le_trans k.size z
   .rw[aKi e] at gi;rw[cB e] at d;exact k.low i b s1 f gi d
  .intro i b s1 f d;have e:i≠h.next:=fun e=>by have:=k.bn;simp at f;omega
   rw[cB e] at d
   exact k.old i b s1 f d
  .intro i n;simp at n;rw[cB (by omega)];exact k.fresh i (by omega)
  .intro i n;simp at n;rw[a,aab];exact k.iE i (by omega)
  .intro H y;exact l _ _ (k.qR H y)
 .intro i n q;rw[cB (by omega)];exact q
 .intro i n q;rw[a,aab]
 .intro b v _;exact c.block b v
 .intro i b s1 f gi d E;rw[a] at gi;by_cases e:i=h.next
  .subst e;rw[bT] at d;cases d;omega
  .rw[aKi e] at gi;rw[cB e] at d;exact⟨i,s1,f,gi,d⟩
 .intro i n;rw[a,aKi (by have:=k.bn;omega)]
theorem Gj (x:Int):∀l:List Int,(Cz x l).Perm (x::l)
 |[]=>List.Perm.refl _
 |y::l=>by
  unfold Cz;split;exact List.Perm.refl _;exact((Gj x l).cons y).trans (List.Perm.swap x y l)
theorem Dh:∀l:List Int,(rG l).Perm l
 |[]=>List.Perm.refl _
 |x::l=>(Gj x (rG l)).trans ((Dh l).cons x)
theorem E6 (x:Int):∀l:List Int,l.Pairwise (·<=·)->(Cz x l).Pairwise (·<=·)
 |[],_=>by simp[Cz]
 |y::l,h=>by
  unfold Cz;split;rename_i b;refine List.Pairwise.cons (fun z a=>?_) h;rcases List.mem_cons.1 a with rfl|a;exact b;exact Int.le_trans b (List.rel_of_pairwise_cons h a);rename_i b;refine List.Pairwise.cons (fun z a=>?_) (E6 x l h.of_cons);rcases List.mem_cons.1 ((Gj x l).mem_iff.1 a) with rfl|a;omega;exact List.rel_of_pairwise_cons h a
theorem Cb:∀l:List Int,(rG l).Pairwise (·<=·)
 |[]=>List.Pairwise.nil
 |x::l=>E6 x _ (Cb l)
theorem Wa {l d:List Int} (h:d.Perm l):d.mergeSort (fun x y=>decide (x<=y))=rG l:=by
 have g:∀a b c:Int,(fun x y=>decide (x<=y):Int->Int->Bool) a b=true->(fun x y=>decide (x<=y):Int->Int->Bool) b c=true->(fun x y=>decide (x<=y):Int->Int->Bool) a c=true:=fun a b c e f=>by simp only[decide_eq_true_eq] at*;exact Int.le_trans e f
 have to:∀a b:Int,((fun x y=>decide (x<=y):Int->Int->Bool) a b||(fun x y=>decide (x<=y):Int->Int->Bool) b a)=true:=fun a b=>by simp only[Bool.or_eq_true,decide_eq_true_eq];exact Int.le_total a b
 refine List.Perm.eq_of_pairwise (le:=(·<=·)) (fun a b _ _ e f=>Int.le_antisymm e f) ?_ (Cb l) (((List.mergeSort_perm d _).trans h).trans (Dh l).symm);exact(List.pairwise_mergeSort g to d).imp fun h=>by simpa using h
theorem N6:∀{es:List (Value×Value×Nat)} {c:List MapEntry} {f:List Int},lA ρ es c->keysOf es=some f->c.map (·.key)=f.map encZ/\c.map (·.born)=es.map (·.2.2)
 |[],c,f,d,h=>by
  simp[keysOf] at h;subst h;simp only[lA] at d;subst d;exact⟨rfl,rfl⟩
 |(k,v,t)::es,c,f,d,h=>by
  unfold keysOf at h;split at h;rename_i e;cases e;rename_i n s q i e;cases e;simp only[Option.map_eq_some_iff] at h;obtain⟨l,m,rfl⟩:=h;simp only[lA] at d;obtain⟨p,v2,r,g,o,j,rfl⟩:=d;simp only[aF] at g;obtain⟨a,b⟩:=N6 j m;subst g;exact⟨by simp[a,encZ],by simp[b]⟩;cases h
theorem N7 {c:Nat}:∀{es:List (Value×Value×Nat)},Bo c es=true->(∀x∈es.map (·.2.2),x<c)/\(es.map (·.2.2)).Nodup
 |[],_=>⟨by simp,by simp⟩
 |x::l,h=>by
  simp only[Bo,Bool.and_eq_true] at h;obtain⟨⟨f,g⟩,i⟩:=h;obtain⟨a,b⟩:=N7 i;refine⟨fun y d=>?_,?_⟩;rcases List.mem_cons.1 d with rfl|d;simpa [Nat.blt_eq] using f;exact a y d;refine List.nodup_cons.2 ⟨fun j=>?_,b⟩;obtain⟨y,d,e⟩:=List.mem_map.1 j;have:=List.all_eq_true.1 g y d;rw[e] at this;simp at this
theorem Yq:∀{d:List Int},Oq d=true->(∀x∈d,(Lit.int .i64 x).wf=true)/\d.Nodup
 |[],_=>⟨by simp,by simp⟩
 |x::l,h=>by
  simp only[Oq,Bool.and_eq_true] at h;obtain⟨⟨e,f⟩,g⟩:=h;obtain⟨a,b⟩:=Yq g;refine⟨fun y c=>?_,List.nodup_cons.2 ⟨fun i=>?_,b⟩⟩;rcases List.mem_cons.1 c with rfl|c;exact e;exact a y c;have:=List.all_eq_true.1 f x i;simp at this
theorem Tj {f k:FuncId} (h3:P.underlying 3=some (.int .i64)) (α:P.cellsOf 3=1)
  (sk:∀(c b nn:Nat) (D0:DataW Unit) (R:Value->Option (DataW Unit×List MemPlace)) (w:World),c<w.heap.size->w.cell? ⟨c,0,none⟩=some (.map (some b))->w.ownsMap P 3 R b nn D0->Maps.size D0<=maxLen->Maps.size D0*8<=140737488355328->
   Calls P f #[.func (.func k) #[] #[.pointer (some ⟨c,0,none⟩)]] w fun e w'=>∃(v:Value) (i:List Int),e= .returned v/\i.Perm (intKeys D0)/\
    w'.ownsRow w.heap.size 3 1 v i.length ((i.mergeSort (fun x y=>decide (x<=y))).map encZ)/\(v= .slice none 0 0↔i=[])/\Below w.heap.size w w')
  {c:Nat} {v:Value} {h':AH} (hF:Bp 3 c h=some (v,h')) (hi:Inv P B ρ h w) {args':List Value} (ha:aU ρ [.func (.func k) ⟨[]⟩ ⟨[.pointer (some ⟨c,0,none⟩)]⟩] args'):
  Calls P f ⟨args'⟩ w fun e w'=>∃ρ' v',e= .returned v'/\aF ρ' v v'/\lJ P B ρ h w ρ' h' w':=by
 simp only[aU,aF,C8,lG] at ha
 obtain⟨_,_,⟨_,⟨_⟩,⟨cs⟩,rfl,O,⟨_,_,⟨L,s,hr,rfl⟩,rfl,t⟩,rfl⟩,rfl,rfl⟩:=ha
 simp only at O t
 subst O;subst t
 unfold Bp at hF
 split at hF
 .rename_i r e fz ε;split at hF
  .rename_i es H η;split at hF
   .rename_i q ι;split at hF
    .rename_i D;simp only[Bool.and_eq_true] at D;obtain⟨⟨E,ο⟩,θ⟩:=D;have E:=Nat.le_of_ble_eq_true E;obtain⟨oc,U,c',rfl,J,χ,hex⟩:=hi.nD c _ ε L s hr;obtain⟨φ,X⟩:=hex rfl;rw[X,List.drop_zero] at J;simp only[List.length_cons,List.length_nil,aU,aF] at J;obtain⟨_,_,⟨mb,ms,ξ,rfl⟩,rfl,π⟩:=J;obtain⟨om,ν,a,γ,rfl⟩:=hi.nD r _ η mb ms ξ;obtain⟨z,Q⟩:=N6 γ ι;obtain⟨st1,st2⟩:=N7 ο;obtain⟨σ,τ⟩:=Yq θ;have I:w.cell? ⟨L,0,none⟩=some (.map (some mb)):=by
      have:c'[0]?=some (.map (some mb)):=by
       rw[<-Array.getElem?_toList];have:=congrArg (fun l=>l[0]?) π;simpa using this
      simp[World.cell?,U,this]
     have N:a.length=q.length:=by
      have:=congrArg List.length z;simpa using this
     have hD:∀x∈a,∃n∈q,x.key= .int .i64 n:=fun x A=>by
      have:x.key∈q.map encZ:=by rw[<-z];exact List.mem_map.2 ⟨x,A,rfl⟩
      obtain⟨n,hn,e⟩:=List.mem_map.1 this;exact⟨n,hn,e.symm⟩
     let R:Value->Option (DataW Unit×List MemPlace):=fun _=>some (.lit (.bool false),[])
     have W:∀x∈a,∃n,x.key= .int .i64 n/\Go.WideElems.rd P 3 R x=some (.int .i64 n,.lit (.bool false)):=fun x A=>by
      obtain⟨n,hn,e⟩:=hD x A;refine⟨n,e,?_⟩;have:=keyOf_int_mk h3 (σ n hn);unfold Go.WideElems.rd;rw[e,this];rfl
     have V:w.ownsMap P 3 R mb a.length (.map (((⟨a⟩:Array MapEntry).toList.map (Go.WideElems.rg P 3 R)).foldr DataW.insert [])):=by
      refine⟨⟨a⟩,H,ν,⟨?_,⟨fun x A=>?_,?_,?_⟩,fun x A=>?_⟩,Nat.le_refl _,rfl⟩;show a.length<=maxLen;rw[N];unfold maxLen;omega;refine st1 _ ?_;rw[<-Q];exact List.mem_map.2 ⟨x,A,rfl⟩;show(a.map (·.born)).Nodup;rw[Q];exact st2;show(a.map (·.key)).Nodup;rw[z];exact List.pairwise_map.2 (List.Pairwise.imp (fun μ e=>μ (by simpa [encZ] using e)) τ);obtain⟨n,_,hy⟩:=W x A;exact⟨_,hy⟩
     have o:(((⟨a⟩:Array MapEntry).toList.map (Go.WideElems.rg P 3 R)).foldr DataW.insert []).Perm (a.map (Go.WideElems.rg P 3 R)):=Go.WideShapes.sorted_perm _
     have S:(a.map (Go.WideElems.rg P 3 R)).map (fun p=>intOf p.1)=q:=by
      rw[List.map_map];have h1:a.map ((fun p=>intOf p.1)∘Go.WideElems.rg P 3 R)=(a.map (·.key)).map fun v=>match v with|.int _ n=>n|_=>0:=by
       rw[List.map_map];refine List.map_congr_left fun x A=>?_;obtain⟨n,e,hy⟩:=W x A;show intOf (Go.WideElems.rg P 3 R x).1=_;rw[Go.WideElems.rg_of hy];simp[intOf,e]
      rw[h1,z,List.map_map];conv=>rhs;rw[<-List.map_id q]
      rfl
     have K:∀i:List Int,i.Perm (intKeys (.map (((⟨a⟩:Array MapEntry).toList.map (Go.WideElems.rg P 3 R)).foldr DataW.insert []):DataW Unit))->i.Perm q:=fun i M=>by
      refine M.trans ?_;have:=o.map (fun p=>intOf p.1);rw[S] at this;exact this
     have m:Maps.size (.map (((⟨a⟩:Array MapEntry).toList.map (Go.WideElems.rg P 3 R)).foldr DataW.insert []):DataW Unit)=q.length:=by
      show(((⟨a⟩:Array MapEntry).toList.map (Go.WideElems.rg P 3 R)).foldr DataW.insert []).length=_;rw[o.length_eq,List.length_map,N]
     have β:L<w.heap.size:=(Array.getElem?_eq_some_iff.1 U).1
     have hz:(⟨L,0+s.2,none⟩:Addr)=⟨L,0,none⟩:=by rw[X]
     rw[hz]
     refine(sk L mb _ _ R w β I V (by rw[m];unfold maxLen;omega) (by rw[m];omega)).mono ?_
     rintro e' w' ⟨u,i,rfl,M,F,T,C⟩
     have M:=K i M
     rw[Wa M] at F
     have d:(rG q).length=i.length:=((Dh q).trans M.symm).length_eq
     have hF:Lx h 3 (rG q)=(v,h'):=Option.some.inj hF
     unfold Lx at hF
     split at hF
     .rename_i j;cases hF;have Y:i=[]:=List.eq_nil_of_length_eq_zero (by rw[<-d];simpa using j);have:=T.2 Y;subst this;exact⟨ρ,_,rfl,by simp only[aF],sJ hi C⟩
     .rename_i j;cases hF;obtain⟨ψ,hh⟩:=F;rcases hh with⟨rfl,hz⟩|⟨g,G,cur,rfl,ζ,δ,κ,υ,t,Z⟩
      .exfalso;apply j;rw[List.isEmpty_iff];exact List.eq_nil_of_length_eq_zero (by rw[d];exact hz)
      .refine⟨vH ρ h.next (g,(G - i.length,0)),_,rfl,?_,Ns hi (o':= .cells cur 3 (0,0)) ⟨cur,rfl,?_,?_,fun hh=>by cases hh⟩ C ζ δ⟩
       .simp only[aF];exact⟨g,(G - i.length,0),G,bT,by rw[d];exact κ,by rw[d];omega,by simp[d]⟩
       .rw[List.drop_zero,List.length_map,d,<-Nat.mul_one i.length,Z];exact qH _ (by
         have:∀l:List Int,nY (l.map encZ)=true:=fun l=>by
          induction l with
          |nil=>rfl
          |cons x l ih=>simp[nY,dZ,encZ];exact ih
         exact this _)
       .rw[List.length_map,d,α,t];omega
    .cases hF
   .cases hF
  .cases hF
 .cases hF
end
end Go.Ab
namespace Go.Ab
open Go.Ct Go.Hm
section
instance:Inhabited Th:=⟨(0,pW.zero)⟩
theorem fp {l:List Th} {d:Array Th} (q:Gw l=true) (c:Go.Sort.PermIn 0 l.length l.toArray d) (s:Go.Sort.SortedIn ltT 0 l.length d):d.toList=nM l:=by
 obtain⟨e,_,k⟩:=c;have g:d.size=l.length:=by simpa using e
 have c:d.toList.Perm l:=by
  rw[show d.extract 0 l.length=d by rw[<-g];simp] at k;simpa using k
 refine List.Perm.eq_of_pairwise (le:=fun a b:Th=>a.1<=b.1) (fun a b o p e n=>?_) ?_ (Eb l) (c.trans (kP l).symm);exact Va q a (c.mem_iff.1 o) b ((kP l).mem_iff.1 p) (Int.le_antisymm e n);rw[List.pairwise_iff_getElem];intro i j r m f;have:=s i j (Nat.zero_le _) f (by simp at m;omega);simp at r m;rw[getElem!_pos d j (by omega),getElem!_pos d i (by omega)] at this;simpa using this
theorem N5 {l:List Th} {t:Nat} (b:t<l.length*5):(cS l)[t]?=some ((Go.Sort.flatK xA 5 l.toArray)[t]!):=by
 rw[Go.Sort.get_flatK _ _ _ _ (by simpa using b)];have a:t/5<l.length:=by omega
 have e:t=t/5*5+t % 5:=by omega
 have:(eL xA l)[t/5*5+t % 5]?=some ((xA l[t/5])[t % 5]!):=by
  haveI:Fx xA 5:=⟨fun _=>rfl,fun _=>rfl⟩;refine Hw (W:=5) (List.getElem?_eq_getElem a) ?_;rw[getElem!_pos _ _ (by show t % 5<5;omega)];exact List.getElem?_eq_getElem _
 rw[<-e] at this;rw[show cS l=eL xA l from rfl,this];congr 2;rw[getElem!_pos _ _ (by simpa using a)];simp
variable {P:Program} {B:Nat} {ρ:iP} {h:AH} {w:World}
open Go.Sort Go.Proofs in
theorem Td {f g:FuncId}
  (sk:∀(nD H cap:Nat) (d:Array Th) (w:World),HoldsK xA 5 w nD H d->nD<w.heap.size->d.size<4611686018427387904->
   Calls P f #[.slice (some ⟨nD,H,none⟩) d.size cap,.func (.func g) #[] #[]] w fun e Z=>e= .returned (.tuple #[])/\∃y n W,PermIn 0 d.size d y/\SortedIn ltT 0 d.size y/\Z=sortWorldK xA 5 w nD H n y W)
  {b o n c:Nat} {v:Value} {h':AH} (hF:Ei b o n h=some (v,h')) (hi:Inv P B ρ h w) {args':List Value} (ha:aU ρ [.slice (some ⟨b,o,none⟩) n c,.func (.func g) ⟨[]⟩ ⟨[]⟩] args'):
  Calls P f ⟨args'⟩ w fun e Z=>∃ρ' v',e= .returned v'/\aF ρ' v v'/\lJ P B ρ h w ρ' h' Z:=by
 simp only[aU,aF,C8,lG] at ha
 obtain⟨_,_,⟨u,s,c',hr,_,_,rfl⟩,⟨_,_,⟨_,⟨_⟩,⟨_⟩,rfl,O,L,rfl⟩,rfl,rfl⟩,rfl⟩:=ha
 simp only at O L
 subst O;subst L
 unfold Ei at hF
 split at hF
 .rename_i cs i;split at hF
  .rename_i l N;split at hF
   .rename_i A;simp only[Bool.and_eq_true] at A;obtain⟨D,F⟩:=A;have D:=Nat.le_of_ble_eq_true D;obtain⟨rfl,R⟩:=J3 N;simp only[Option.map_eq_some_iff] at hF;obtain⟨J,T,hF⟩:=hF;cases hF;have a:=T;unfold cJ at i;unfold dI at a;simp only[Option.isSome_none,Bool.false_eq_true,if_false,Bool.false_or] at i a;split at i
    .rename_i α e fz x hg;split at i
     .rename_i hle;have i:=Option.some.inj i;rw[hg] at a;split at a
      .cases a
      simp only at a
      split at a
      .rename_i δ;obtain⟨ob,G,c1,rfl,β,η,_⟩:=hi.nD b _ hg u s hr;have ε:u<w.heap.size:=(Array.getElem?_eq_some_iff.1 G).1;have hH:HoldsK xA 5 w u (o+s.2) l.toArray:=by
        intro j Q;rw[size_flatK] at Q;have Q:j<l.length*5:=Q;have h1:=N5 Q;have J:α[o+j]?=some ((Go.Sort.flatK xA 5 l.toArray)[j]!):=by
         rw[<-h1,<-i,List.getElem?_take_of_lt (by omega),List.getElem?_drop]
        obtain⟨v',h3,h4⟩:=β.get J;have hint:∃z,(Go.Sort.flatK xA 5 l.toArray)[j]! =I z:=by
         rw[get_flatK _ _ _ _ (show j<l.toArray.size*5 from Q)];have:j % 5<5:=Nat.mod_lt _ (by omega);generalize j % 5=q at this;rcases q with _|_|_|_|_|q;exact⟨_,rfl⟩;exact⟨_,rfl⟩;exact⟨_,rfl⟩;exact⟨_,rfl⟩;exact⟨_,rfl⟩;omega
        obtain⟨z,hz⟩:=hint;rw[hz] at h4 ⊢;simp only[aF] at h4;subst h4;refine⟨?_,by simp[World.frozen?,G,δ.1]⟩;have h5:c1[o+s.2+j]?=some (I z):=by
         rw[List.getElem?_take_of_lt (by omega),List.getElem?_drop,Array.getElem?_toList] at h3;rw[show o+s.2+j=s.2+(o+j) by omega];exact h3
        simp[World.cell?,G,h5]
       have U:l.toArray.size=n:=by simpa using R
       have hc:=sk u (o+s.2) c' l.toArray w hH ε (by simp;omega)
       rw[U] at hc
       refine hc.mono ?_
       rintro e' Z ⟨rfl,y,m,W,hp,hs,rfl⟩
       rw[<-R] at hp hs
       have M:=fp F hp hs
       obtain⟨X,E,C,_⟩:=vO (P:=P) hi hr T (qH (ρ:=ρ) _ (by
        have:∀l:List Th,nY (cS l)=true:=fun l=>by
         induction l with
         |nil=>rfl
         |cons x l ih=>exact ih
        exact this (nM l)))
       have p:(cS (nM l)).length=l.length*5:=by rw[jT,(kP l).length_eq]
       have r:=stores_of_holds P hH 0 (cS (nM l)) (by rw[p,size_flatK];simp) (fun v V=>by
        have:∀l:List Th,∀v∈cS l,v.oneCell'=true:=fun l=>by
         induction l with
         |nil=>intro v V;cases V
         |cons x l ih=>
          intro v V;rcases List.mem_append.1 (show v∈xA x++cS l from V) with h1|h1;simp only[xA,pW.enc,List.mem_cons,List.not_mem_nil,or_false] at h1;rcases h1 with rfl|rfl|rfl|rfl|rfl<;>rfl;exact ih v h1
        exact this _ v V)
       rw[Nat.add_zero] at r
       have ζ:X=w.setCells u (o+s.2) (cS (nM l)):=by
        rw[r] at E;cases E;rfl
       have S:X=putRowK xA 5 w u (o+s.2) y:=by
        have h1:=setCells_putRow w u (o+s.2) (cS (nM l)) 0 (Go.Sort.flatK xA 5 l.toArray) (by rw[p,size_flatK];simp);rw[putRow_self id w u (o+s.2) _ hH,Nat.add_zero] at h1;rw[ζ,h1];unfold putRowK;congr 1;have γ:y.size=l.length:=by rw[<-Array.length_toList,M,(kP l).length_eq]
        refine ext_get! (by simp[γ]) fun t Y=>?_;have Y:t<l.length*5:=by simpa using Y
        rw[get_setMany _ _ _ _ (by simpa using Y),aac,Nat.sub_zero];have J:=N5 (l:=nM l) (t:=t) (by rw[(kP l).length_eq];exact Y);rw[<-M] at J ⊢;rw[show y.toList.toArray=y by simp] at J;rw[List.getElem!_eq_getElem?_getD,J];rfl
       have K:Go.RowKit.Below X.heap.size X (sortWorldK xA 5 w u (o+s.2) m y W):=by
        have e:sortWorldK xA 5 w u (o+s.2) m y W=grow (Go.Sort.ahead X m) W:=by rw[S];rfl
        rw[e];refine⟨rfl,rfl,rfl,by simp[grow,Go.Sort.ahead],fun k hk=>?_⟩;simp only[grow,Go.Sort.ahead];rw[Array.getElem?_append_left hk]
       exact⟨ρ,_,rfl,by simp only[aF,lG,aU];exact⟨_,rfl,rfl⟩,C.trans (sJ C.inv K)⟩
      .cases a
     .cases i
    .cases i
   .cases hF
  .cases hF
 .cases hF
theorem iz {f:FuncId} {e:TypeId}
  (g0:∀w:World,Calls P f #[.slice none 0 0,.int .i64 0] w fun r a=>r= .returned (.slice none 0 0)/\a=w)
  (i:∀(n:Nat) (w:World),0<n->n<=1000->Calls P f #[.slice none 0 0,.int .i64 n] w fun r a=>∃(cap:Nat) (c':Array Value),r= .returned (.slice (some ⟨w.heap.size,0,none⟩) 0 cap)/\cap*P.cellsOf e<=c'.size/\a=w.drew.alloc (.cells c' e))
  {n:Int} {v:Value} {h':AH} (hF:G5 e n h=some (v,h')) (d:Inv P B ρ h w) {args':List Value} (c:aU ρ [.slice none 0 0,.int .i64 n] args'):
  Calls P f ⟨args'⟩ w fun e a=>∃ρ' g,e= .returned g/\aF ρ' v g/\lJ P B ρ h w ρ' h' a:=by
 simp only[aU,aF] at c
 obtain⟨_,_,rfl,⟨_,_,rfl,rfl,rfl⟩,rfl⟩:=c
 unfold G5 at hF
 split at hF
 .rename_i b;subst b;cases hF;refine(g0 w).mono ?_;rintro r a ⟨rfl,rfl⟩;exact⟨ρ,_,rfl,by simp only[aF],lJ.refl d⟩
 .split at hF
  .rename_i b;cases hF;obtain⟨m,rfl⟩:=Int.eq_ofNat_of_zero_le (Int.le_of_lt b.1);refine(i m w (by omega) (by omega)).mono ?_;rintro r a ⟨cap,c',rfl,j,rfl⟩;refine⟨vH ρ h.next (w.heap.size,(cap,0)),_,rfl,?_,?_⟩
   .simp only[aF];exact⟨trivial,trivial,⟨w.heap.size,0,none⟩,cap,fun h=>(by cases h),fun _=>⟨w.heap.size,(cap,0),bT,Nat.le_refl _,fun _=>rfl⟩,rfl⟩
   .refine Ns d (o':= .cells c' e (0,0)) ⟨c',rfl,by simp only[List.length_nil,List.take_zero];exact aU.nil,by simpa using j,fun k=>by cases k⟩ ?_ (Nat.le_refl _) (by show(w.drew.heap.push _)[w.drew.heap.size]?=_;exact Array.getElem?_push_size);exact(show Go.RowKit.Below w.heap.size w w.drew from⟨rfl,rfl,rfl,Nat.le_refl _,fun _ _=>rfl⟩).alloc (Nat.le_refl _) _
  .cases hF
end
end Go.Ab
section
namespace Go.Proofs
open Go.RowKit Go.Maps Go.Sort Go.Shelf
theorem Tryz.aCa (m:Nat):AnyZI.SortsIn Tryz.prog Tryz.Gy Fence.wide m:=
 ⟨fun nD c a d W hH hblk b=>callsIn_wide.2 (AnyM.slices_Sort_int Tryz.aBi nD c a d W hH hblk b),
   fun p a W=>callsIn_wide.2 (AnyM.slices_Sort_int_none Tryz.aBi p a W)⟩
theorem Tryz.We {H:Type} (c b k:Nat) (d:DataW H) (R:Value->Option (DataW H×List MemPlace)) (w:World) (hc:c<w.heap.size) (m:w.cell? ⟨c,0,none⟩=some (.map (some b))) (i:w.ownsMap Tryz.prog 3 R b k d) (g:Maps.size d<=maxLen) (a:Maps.size d*8<=140737488355328):
  Calls Tryz.prog 100 #[.func (.func 155) #[] #[.pointer (some ⟨c,0,none⟩)]] w fun e l=>∃(v:Value) (f:List Int),e= .returned v/\f.Perm (intKeys d)/\
   l.ownsRow w.heap.size 3 1 v f.length ((f.mergeSort (fun x y=>decide (x<=y))).map encZ)/\(v= .slice none 0 0↔f=[])/\Below w.heap.size w l:=by
 refine(callsIn_wide (n:=5)).1 ?_
 have j:SeqGives Fence.wide 2 Tryz.prog 155 #[.pointer (some ⟨c,0,none⟩)] encZ (fun f=>f.Perm (intKeys d)) (Maps.size d) w:=
  AnyZI.keys_gives (ρ:=Tryz.O2) {Tryz.aHn with} Fence.wide _ trivial rfl (by omega) c b k d _ hc m i
 exact AnyZI.sorted_in Tryz.xf Fence.wide 5 trivial trivial trivial trivial rfl (by omega) (Tryz.aCa _) (enters_of Tryz.func154 (by kernel_rfl) rfl) 155 #[.pointer (some ⟨c,0,none⟩)] trivial (enters_of Tryz.func155 (by kernel_rfl) rfl) _ _ g a _ j
end Go.Proofs
namespace Go.Proofs
open Go.Shelf Go.RowKit Go.Lib Go.Sort Go.Ct
set_option maxHeartbeats 1000000 in
theorem Tryz.aGz (x y:Th) (W:World):Calls Tryz.prog 105 #[.agg #[.int .i64 x.1,.int .i64 x.2.st,.int .i64 x.2.w,.int .i64 x.2.d.1,.int .i64 x.2.d.2],.agg #[.int .i64 y.1,.int .i64 y.2.st,.int .i64 y.2.w,.int .i64 y.2.d.1,.int .i64 y.2.d.2]] W fun e d=>e= .returned (.int .i64 (Lib.compareInt x.1 y.1))/\∃q b,d=grow (W.drewN q) b:=by
 have a:=fun c=>AnyG.cmp_Compare_int Tryz.aE9 x.1 y.1 c;change ∀c,Calls Tryz.prog 106 _ _ _ at a;generalize Lib.compareInt x.1 y.1=r at a ⊢;go_enter Tryz.func105,Tryz.ntmps105;go_wp2_with (go_at_call 106;refine(a _).mono ?_;rintro e d ⟨rfl,rfl⟩);go_ret;exact⟨rfl,0,_,by rw[alloc_eq_grow,alloc_eq_grow,grow_grow];rfl⟩
open Go.Ab in
theorem Tryz.ym (x y:Th):ltOf (fun x y:Th=>Lib.compareInt x.1 y.1) x y=ltT x y:=by
 unfold ltOf Lib.compareInt ltT;by_cases a:x.1<y.1;simp[a];by_cases b:y.1<x.1<;>simp[a,b]
open Go.Ab in
theorem Tryz.aFy:SWO (ltOf fun x y:Th=>Lib.compareInt x.1 y.1) where
 irrefl x:=by rw[Tryz.ym];simp
 trans x y z h1 h2:=by rw[Tryz.ym] at*;simp at*;omega
 ntrans x y z h1 h2:=by rw[Tryz.ym] at*;simp at*;omega
open Go.Ab in
theorem Tryz.de (nD a cap:Nat) (d:Array Th) (w:World) (hH:HoldsK xA 5 w nD a d) (hblk:nD<w.heap.size) (g:d.size<4611686018427387904):
  Calls Tryz.prog 104 #[.slice (some ⟨nD,a,none⟩) d.size cap,.func (.func 105) #[] #[]] w fun e l=>
   e= .returned (.tuple #[])/\∃f n k,PermIn 0 d.size d f/\SortedIn ltT 0 d.size f/\l=sortWorldK xA 5 w nD a n f k:=by
 have j:∀b w,(callFunc 105 b).run Tryz.prog w= .ok (.enter 105 b) w:=enters_of Tryz.func105 (by kernel_rfl) rfl
 have c:=AnyQ.slices_SortFunc Tryz.aCf 5 Tryz.isAgg256 Tryz.sizeOf256 xA (fun _=>rfl) (fun x v i=>by simp[xA,pW.enc] at i;rcases i with rfl|rfl|rfl|rfl|rfl<;>rfl) (fun x y=>Lib.compareInt x.1 y.1) Tryz.aFy 105 #[] nD a cap d w j (fun _ _ _ _ x y=>Tryz.aGz x y _) hH hblk g
 have e:(ltOf fun x y:Th=>Lib.compareInt x.1 y.1)=ltT:=by funext x y;exact Tryz.ym x y
 rw[e] at c
 exact c
theorem Tryz.aGy (w:World):Calls Tryz.prog 156 #[.slice none 0 0,.int .i64 0] w fun r a=>r= .returned (.slice none 0 0)/\a=w:=
 Any8.slices_Grow_room Tryz.vp none 0 0 0 w (Nat.le_refl _) (by omega) (by omega) (by omega)
theorem Tryz.aFo (n:Nat) (w:World) (i:0<n) (j:n<=1000):Calls Tryz.prog 156 #[.slice none 0 0,.int .i64 n] w fun r c=>∃(cap:Nat) (c':Array Value),r= .returned (.slice (some ⟨w.heap.size,0,none⟩) 0 cap)/\cap*Tryz.prog.cellsOf 256<=c'.size/\c=w.drew.alloc (.cells c' 256):=by
 have e:Tryz.t256.bytes=40:=by kernel_rfl
 have b:=Any8.slices_Grow_grow Tryz.vp Tryz.t256 (.agg #[.int .i64 0,.int .i64 0,.int .i64 0,.int .i64 0,.int .i64 0]) (by kernel_rfl) (by kernel_rfl) (by show 0<5;omega) none 0 0 n [] w (Nat.le_refl _) (by omega) (by rw[e];omega) (by omega) (by simp) (fun _=>rfl) (fun a h=>by cases h);refine b.mono ?_;rintro r c ⟨rfl,rfl⟩;refine⟨_,_,rfl,?_,rfl⟩;have f:Tryz.prog.cellsOf 256=5:=by kernel_rfl
 have g:0+n<=grownCap w (0+n) 0 (Tryz.De.t 25):=grownCap_ge w _ _ _;have d:(Value.agg #[.int .i64 0,.int .i64 0,.int .i64 0,.int .i64 0,.int .i64 0]).cells.size=5:=rfl;rw[f];simp only[Builtin.zeroCells,Array.size_append];generalize grownCap w (0+n) 0 (Tryz.De.t 25)=z at g ⊢;simp[d];omega
end Go.Proofs
end
namespace Go.Proofs.YtmhapehobfnoiaaGreatDoor
open Go Go.Ab Go.RowKit
section
theorem V0 (p q:Addr) (w:World):
  CallsD Tryz.prog 292 #[.pointer (some p),.pointer (some q)] .returning w fun e c d=>e= .returned (.tuple #[])/\c= .returning/\d=w:=by
 refine callsD_of_wpS Tryz.func292 rfl fun a f b=>?_
 apply wpS_seq
 apply wpS_region
 simp[wpOpsS,go_sem,recoverD,b,Tryz.ntmps292,Exit.thenS]
 refine wpS_cond (t:=false) (by simp[Act.eval,Array.replicate]) ?_
 simp only[Bool.false_eq_true,if_false]
 refine wpS_of_wp (wp_skip ?_)
 cases a
 simp_all [bodyPostS,results,Tryz.results292]
theorem jf {w w':World} (a:pc w.heap.size ((w.alloc (.cells #[.int .i64 0] 3)).alloc (.cells #[.bool false] 4)) w') (n:Int) (b:Bool):
  w'.cell? ⟨w.heap.size,0,none⟩=some (.int .i64 0)/\w'.frozen? ⟨w.heap.size,0,none⟩=false/\
  (w'.setCell ⟨w.heap.size,0,none⟩ (.int .i64 n)).cell? ⟨w.heap.size+1,0,none⟩=some (.bool false)/\(w'.setCell ⟨w.heap.size,0,none⟩ (.int .i64 n)).frozen? ⟨w.heap.size+1,0,none⟩=false/\
  ((w'.setCell ⟨w.heap.size,0,none⟩ (.int .i64 n)).setCell ⟨w.heap.size+1,0,none⟩ (.bool b)).cell? ⟨w.heap.size,0,none⟩=some (.int .i64 n)/\
  ((w'.setCell ⟨w.heap.size,0,none⟩ (.int .i64 n)).setCell ⟨w.heap.size+1,0,none⟩ (.bool b)).cell? ⟨w.heap.size+1,0,none⟩=some (.bool b):=by
 have e0:w'.heap[w.heap.size]?=some (.cells #[.int .i64 0] 3 (0,0)):=(a.Lu _ (Nat.le_refl _) (by simp;omega)).trans (by show((w.heap.push _).push _)[w.heap.size]?=_;rw[Array.getElem?_push,aKi (by simp),Array.getElem?_push,aKj rfl])
 have e1:w'.heap[w.heap.size+1]?=some (.cells #[.bool false] 4 (0,0)):=(a.Lu _ (by omega) (by simp)).trans (by show((w.heap.push _).push _)[w.heap.size+1]?=_;rw[Array.getElem?_push,aKj (by simp)])
 have e2:(w'.setCell ⟨w.heap.size,0,none⟩ (.int .i64 n)).heap[w.heap.size]?=some (.cells #[.int .i64 n] 3 (0,0)):=one_setCell e0
 have e3:(w'.setCell ⟨w.heap.size,0,none⟩ (.int .i64 n)).heap[w.heap.size+1]?=some (.cells #[.bool false] 4 (0,0)):=(Below.heap_setCell _ _ _ _ (by simp)).trans e1
 have c:((w'.setCell ⟨w.heap.size,0,none⟩ (.int .i64 n)).setCell ⟨w.heap.size+1,0,none⟩ (.bool b)).heap[w.heap.size]?=some (.cells #[.int .i64 n] 3 (0,0)):=(Below.heap_setCell _ _ _ _ (by simp)).trans e2
 have d:((w'.setCell ⟨w.heap.size,0,none⟩ (.int .i64 n)).setCell ⟨w.heap.size+1,0,none⟩ (.bool b)).heap[w.heap.size+1]?=some (.cells #[.bool b] 4 (0,0)):=one_setCell e3
 exact⟨by simp[World.cell?,e0],by simp[World.frozen?,e0],by simp[World.cell?,e3],by simp[World.frozen?,e3],by simp[World.cell?,c],by simp[World.cell?,d]⟩
set_option maxRecDepth 100000 in
theorem Vh (v x l:Value) (w:World) (S:World->Prop) (n:Int) (b:Bool) (hc:Calls Tryz.prog 348 #[v,x,l] ((w.alloc (.cells #[.int .i64 0] 3)).alloc (.cells #[.bool false] 4)) (fun e a=>e= .returned (.tuple #[.int .i64 n,.bool b])/\pc w.heap.size ((w.alloc (.cells #[.int .i64 0] 3)).alloc (.cells #[.bool false] 4)) a/\S a)):
  Calls Tryz.prog 234 #[.iface 332 v,x,l] w fun e a=>e= .returned (.tuple #[.int .i64 n,.bool b])/\∃g,S g/\aEr w.heap.size (w.heap.size+2) g a:=by
 have m:∀(d:Fn) (first c:Array Value) (w:World),(Instr.makeFunc d first c).run Tryz.prog w= .ok (.func d first c) w:=fun _ _ _ _=>rfl
 have q:∀w:World,(method 575 332 v "May").run Tryz.prog w= .ok (348,v) w:=fun _=>by kernel_rfl
 go_enter_defers Tryz.func234,Tryz.ntmps234
 go_wp2_with (go_at_call 348;refine hc.mono ?_;rintro e a ⟨rfl,k,j⟩;obtain⟨p,z1,c2,z2,c4,c5⟩:=jf k n b)
 refine leaves_cons (f:=292) (args:= #[.pointer (some ⟨w.heap.size,0,none⟩),.pointer (some ⟨w.heap.size+1,0,none⟩)]) (by simp) (by simp[go_sem]) ?_
 refine(V0 ⟨w.heap.size,0,none⟩ ⟨w.heap.size+1,0,none⟩ _).mono ?_
 rintro e r o ⟨rfl,rfl,rfl⟩
 simp[Leaves,settle,results,Tryz.results234,go_sem,c4,c5]
 refine⟨a,j,⟨fun i _ h=>?_,?_,rfl,rfl,rfl⟩⟩
 .rw[Below.heap_setCell _ _ _ _ (by simp;omega),Below.heap_setCell _ _ _ _ (by simp;omega)]
 .simp
end
section
def Gl (w:World):Prop:=(∃e z,w.heap[0]?=some (.cells ⟨fJ⟩ e z))/\(∃e z,w.heap[1]?=some (.cells ⟨yM⟩ e z))/\(∃e z,w.heap[2]?=some (.cells ⟨ny⟩ e z))/\(∃e z,w.heap[3]?=some (.cells ⟨tk⟩ e z))
theorem aB3 {w:World} {e0 e1 e2 e3:TypeId} {z0 z1 z2 z3:Nat×Nat} (d:w.heap[0]?=some (.cells ⟨fJ⟩ e0 z0)) (f:w.heap[1]?=some (.cells ⟨yM⟩ e1 z1)) (g:w.heap[2]?=some (.cells ⟨ny⟩ e2 z2)) (j:w.heap[3]?=some (.cells ⟨tk⟩ e3 z3)):zz Pr 4 (glM e0 z0 e1 z1 e2 z2 e3 z3) w:=by
 have plain:∀(l:List Value) (e:TypeId) (z:Nat×Nat) (b:Nat),nY l=true->w.heap[b]?=some (.cells ⟨l⟩ e z)->∃c,w.heap[b]?=some c/\∀ρ,tZ Pr ρ (0,0) (.cells l e z true) c:=fun l e z b k h=>
  ⟨_,h,fun ρ=>⟨⟨l⟩,rfl,by rw[List.drop_zero,List.take_of_length_le (by simp)];exact qH _ k,by simp,fun _=>⟨rfl,rfl⟩⟩⟩
 intro i o m a;unfold glM at a;have:i=0\/i=1\/i=2\/i=3:=by omega
 rcases this with rfl|rfl|rfl|rfl;cases a;exact plain _ _ _ 0 (by rfl) d;cases a;exact plain _ _ _ 1 (by rfl) f;cases a;exact plain _ _ _ 2 (by rfl) g;cases a;exact plain _ _ _ 3 (by rfl) j
theorem zm {B:Nat} (hB:4<=B) {w w':World} (h:Below B w w'):Gl w->Gl w':=fun⟨⟨e0,z0,a⟩,⟨e1,z1,b⟩,⟨e2,z2,c⟩,⟨e3,z3,d⟩⟩=>
 ⟨⟨e0,z0,(h.block 0 (by omega)).trans a⟩,⟨e1,z1,(h.block 1 (by omega)).trans b⟩,⟨e2,z2,(h.block 2 (by omega)).trans c⟩,⟨e3,z3,(h.block 3 (by omega)).trans d⟩⟩
theorem aCx:Pr.underlying 3=some (.int .i64):=by kernel_rfl
theorem aD9:Pr.cellsOf 3=1:=by kernel_rfl
noncomputable def aHa (B:Nat) (hB:4<=B):Ctx Pr B K0 where
 G:=Gl
 Lu:=fun w Q h=>zm hB h
 call:=fun f i v w e=>by
  unfold K0 at e;split at e<;>cases e
 fwd:=fun f i g M e ρ j w m O=>by
  unfold K0 at e;split at e;cases e;rename_i v x l;cases e;simp only[aU] at m;obtain⟨_,_,q,⟨C,_,K,⟨z,_,J,rfl,rfl⟩,rfl⟩,rfl⟩:=m;simp only[aF] at q;obtain⟨A,q,rfl⟩:=q;refine⟨[A,C,z],(w.alloc (.cells #[.int .i64 0] 3)).alloc (.cells #[.bool false] 4),aU.cons q (aU.cons K (aU.cons J rfl)),((Below.refl _ _).alloc (Nat.le_refl _) _).alloc (by simp) _,fun a S k I=>?_⟩;unfold O5 at k;split at k;rename_i n b;have u:((w.alloc (.cells #[.int .i64 0] 3)).alloc (.cells #[.bool false] 4)).heap.size=w.heap.size+2:=by simp
  rw[u];exact Vh A C z w S n b I;cases k;cases e;cases e;cases e
 host:=fun f i F e h v N hF ρ w j t _ m=>by
  unfold K0 at e;split at e;rename_i c;cases e;exact Tj aCx aD9 (fun c b L D R w o p s E H=>Tryz.We c b L D R w o p s E H) hF t m;cases e;cases e;exact Td (fun nD y r d w o p s=>Tryz.de nD y r d w o p s) hF t m;cases e;exact iz (fun w=>Tryz.aGy w) (fun n w o p=>Tryz.aFo n w o p) hF t m;cases e
theorem Y5 {w:World} (a:Gl w):4<=w.heap.size:=by
 obtain⟨_,_,_,⟨e,z,h⟩⟩:=a;exact(Array.getElem?_eq_some_iff.1 h).1
theorem pk {w:World} {e0 e1 e2 e3:TypeId} {z0 z1 z2 z3:Nat×Nat} (b:4<=w.heap.size) (h:zz Pr 4 (glM e0 z0 e1 z1 e2 z2 e3 z3) w):Reads Pr 4 (yU 4 (glM e0 z0 e1 z1 e2 z2 e3 z3) []) (sH 4 []) w:=
 ue (rs:=[]) (by rw[Uv];exact Nat.le_refl _) b h (fun r a=>by cases a)
theorem od {f:FuncId} {n:Nat} (j:∀(e0:TypeId) (z0:Nat×Nat) (e1:TypeId) (z1:Nat×Nat) (e2:TypeId) (z2:Nat×Nat) (e3:TypeId) (z3:Nat×Nat),((run Pr K0 n (.call f []) (st4 e0 z0 e1 z1 e2 z2 e3 z3)).any fun r=>pY r.1.v (.bool true))=true) {w:World} (a:Gl w):
  Calls Pr f #[] w fun e k=>e= .returned (.bool true)/\Below w.heap.size w k:=by
 have b:=Y5 a
 obtain⟨⟨e0,z0,c⟩,⟨e1,z1,d⟩,⟨e2,z2,g⟩,⟨e3,z3,i⟩⟩:=id a
 exact U8 rfl (j e0 z0 e1 z1 e2 z2 e3 z3) (aHa w.heap.size b) a (pk b (aB3 c d g i))
end
section
theorem own:ownKnob Tryz.prog.godebug=none:=by kernel_rfl
theorem laidOut:laidOutB Tryz.prog=true:=by kernel_rfl
theorem g0:Tryz.prog.globalNamed "donjon/place.limits"=some 0:=by kernel_rfl
theorem g1:Tryz.prog.globalNamed "donjon/isa.ops"=some 1:=by kernel_rfl
theorem g2:Tryz.prog.globalNamed "donjon/note.kinds"=some 2:=by kernel_rfl
theorem g3:Tryz.prog.globalNamed "donjon/moesi.rows"=some 3:=by kernel_rfl
theorem aGb {W:World} {l:List (String×DataW Unit)} (a:(l.all fun x=>x.2.handleName?.isNone)=true) (h:laidMetH Tryz.prog l W) (m0:("donjon/place.limits",Rows.laid_donjon_place_limits)∈l) (m1:("donjon/isa.ops",Rows.laid_donjon_isa_ops)∈l)
  (m2:("donjon/note.kinds",Rows.laid_donjon_note_kinds)∈l) (m3:("donjon/moesi.rows",Rows.laid_donjon_moesi_rows)∈l):Gl W:=by
 obtain⟨e0,z0,b⟩:=xF (l:=fJ) 8 a h m0 g0 (t:=236) (by kernel_rfl) (by kernel_rfl)
 obtain⟨e1,z1,c⟩:=xF (l:=yM) 8 a h m1 g1 (t:=352) (by kernel_rfl) (by kernel_rfl)
 obtain⟨e2,z2,d⟩:=xF (l:=ny) 8 a h m2 g2 (t:=431) (by kernel_rfl) (by kernel_rfl)
 obtain⟨e3,z3,e⟩:=xF (l:=tk) 8 a h m3 g3 (t:=450) (by kernel_rfl) (by kernel_rfl)
 exact⟨⟨e0,z0,b⟩,⟨e1,z1,c⟩,⟨e2,z2,d⟩,⟨e3,z3,e⟩⟩
theorem aEq:sG Tryz.prog 8 62=some [some .i64,some .i64,some .i64,some .i64]:=by kernel_rfl
theorem aHc {l:List Value} (g:Flat [some .i64,some .i64,some .i64,some .i64] l):∃a b c d:Int,l=[I a,I b,I c,I d]:=by
 obtain⟨a,l1,e1,i⟩:=hU g;obtain⟨b,l2,e2,j⟩:=hU i;obtain⟨c,l3,e3,k⟩:=hU j;obtain⟨d,n,e,m⟩:=hU k;have f:=Dv m;subst f e e3 e2 e1;exact⟨a,b,c,d,rfl⟩
end
end Go.Proofs.YtmhapehobfnoiaaGreatDoor
