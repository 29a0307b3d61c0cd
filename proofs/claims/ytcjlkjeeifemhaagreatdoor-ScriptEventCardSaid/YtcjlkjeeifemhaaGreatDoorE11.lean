/- A part of the proof. -/
import Derived.Shelf.Strings.Builder1
import Derived.Shelf.Strings.OnBuilder
import Derived.Shelf.Strconv.Atoi
import Derived.Shelf.Strconv.Itoa3
import Derived.Shelf.LaysM
import Derived.Shelf.Strings.Search1
import Derived.Shelf.Strings.Count
import Derived.Test.YtcjlkjeeifemhaaGreatDoorChecked
import Derived.Lib.UnsafeStr
import Derived.Test.YtcjlkjeeifemhaaGreatDoorE9
import Derived.Test.YtcjlkjeeifemhaaGreatDoorE8
namespace Go.Proofs
open Go.Shelf
section
def Tryz.lX:Go.Shelf.Ren:=⟨fun|169=>60|n=>n,fun|70=>139|9=>9|0=>0|72=>141|37=>93|127=>254|3=>3|5=>5|n=>n,fun|n=>n⟩
theorem Tryz.xQ:Go.Proofs.Lays.n169 Tryz.prog Tryz.lX:={
 mixed:=by kernel_rfl
 f169:=Tryz.func60.trans (congrArg some (by kernel_rfl))
 t0:=Tryz.underlying0
 a0:=Tryz.isAgg0
 z0:=Tryz.sizeOf0
 v0:=Tryz.zeroValue0
 t3:=Tryz.underlying3
 a3:=Tryz.isAgg3
 z3:=Tryz.sizeOf3
 v3:=Tryz.zeroValue3
 t9:=Tryz.underlying9
 a9:=Tryz.isAgg9
 z9:=Tryz.sizeOf9
 v9:=Tryz.zeroValue9
 t37:=Tryz.underlying93
 a37:=Tryz.isAgg93
 z37:=Tryz.sizeOf93
 v37:=Tryz.zeroValue93
 t70:=Tryz.underlying139
 a70:=Tryz.isAgg139
 z70:=Tryz.sizeOf139
 v70:=Tryz.zeroValue139
 t72:=Tryz.underlying141
 a72:=Tryz.isAgg141
 z72:=Tryz.sizeOf141
 v72:=Tryz.zeroValue141
 t127:=Tryz.underlying254
 a127:=Tryz.isAgg254
 z127:=Tryz.sizeOf254
 v127:=Tryz.zeroValue254}
theorem Tryz.fA:Builder.Extra Tryz.prog Tryz.lX:={
 sizeBuilder:=by kernel_rfl
 liesBuilder:=by kernel_rfl
 t5:=Tryz.underlying5
 a5:=Tryz.isAgg5
 z5:=Tryz.sizeOf5
 v5:=Tryz.zeroValue5
 infoByte:=by kernel_rfl
 cellsByte:=by kernel_rfl
 sizeByte:=by kernel_rfl
 neB5:=by decide}
open Go.RowKit in
def Tryz.mK:Go.Shelf.Ren:=⟨fun|156=>87|165=>135|166=>56|169=>60|240=>102|241=>192|276=>158|277=>271|n=>n,fun|31=>149|9=>9|3=>3|4=>4|0=>0|20=>20|72=>141|76=>144|70=>139|37=>93|75=>143|127=>254|164=>352|5=>5|80=>148|n=>n,fun|n=>n⟩
theorem Tryz.Dv:Go.Proofs.Lays.n156 Tryz.prog Tryz.mK:={
 mixed:=by kernel_rfl
 f156:=Tryz.func87.trans (congrArg some (by kernel_rfl))
 f165:=Tryz.func135.trans (congrArg some (by kernel_rfl))
 f166:=Tryz.func56.trans (congrArg some (by kernel_rfl))
 f169:=Tryz.func60.trans (congrArg some (by kernel_rfl))
 f240:=Tryz.func102.trans (congrArg some (by kernel_rfl))
 f241:=Tryz.func192.trans (congrArg some (by kernel_rfl))
 f276:=Tryz.func158.trans (congrArg some (by kernel_rfl))
 f277:=Tryz.func271.trans (congrArg some (by kernel_rfl))
 t0:=Tryz.underlying0
 a0:=Tryz.isAgg0
 z0:=Tryz.sizeOf0
 v0:=Tryz.zeroValue0
 t3:=Tryz.underlying3
 a3:=Tryz.isAgg3
 z3:=Tryz.sizeOf3
 v3:=Tryz.zeroValue3
 t4:=Tryz.underlying4
 a4:=Tryz.isAgg4
 z4:=Tryz.sizeOf4
 v4:=Tryz.zeroValue4
 t9:=Tryz.underlying9
 a9:=Tryz.isAgg9
 z9:=Tryz.sizeOf9
 v9:=Tryz.zeroValue9
 t20:=Tryz.underlying20
 a20:=Tryz.isAgg20
 z20:=Tryz.sizeOf20
 v20:=Tryz.zeroValue20
 t31:=Tryz.underlying149
 a31:=Tryz.isAgg149
 z31:=Tryz.sizeOf149
 v31:=Tryz.zeroValue149
 t37:=Tryz.underlying93
 a37:=Tryz.isAgg93
 z37:=Tryz.sizeOf93
 v37:=Tryz.zeroValue93
 t70:=Tryz.underlying139
 a70:=Tryz.isAgg139
 z70:=Tryz.sizeOf139
 v70:=Tryz.zeroValue139
 t72:=Tryz.underlying141
 a72:=Tryz.isAgg141
 z72:=Tryz.sizeOf141
 v72:=Tryz.zeroValue141
 t75:=Tryz.underlying143
 a75:=Tryz.isAgg143
 z75:=Tryz.sizeOf143
 v75:=Tryz.zeroValue143
 t76:=Tryz.underlying144
 a76:=Tryz.isAgg144
 z76:=Tryz.sizeOf144
 v76:=Tryz.zeroValue144
 t127:=Tryz.underlying254
 a127:=Tryz.isAgg254
 z127:=Tryz.sizeOf254
 v127:=Tryz.zeroValue254
 t164:=Tryz.underlying352
 a164:=Tryz.isAgg352
 z164:=Tryz.sizeOf352
 v164:=Tryz.zeroValue352}
theorem Tryz.lB:Builder.Extra Tryz.prog Tryz.mK:={
 sizeBuilder:=by kernel_rfl
 liesBuilder:=by kernel_rfl
 t5:=Tryz.underlying5
 a5:=Tryz.isAgg5
 z5:=Tryz.sizeOf5
 v5:=Tryz.zeroValue5
 infoByte:=by kernel_rfl
 cellsByte:=by kernel_rfl
 sizeByte:=by kernel_rfl
 neB5:=by decide}
open Go.RowKit in
theorem Tryz.strings_Join (bk o c:Nat) (xs:List ByteArray) (sep:ByteArray) (w:World) (a:∀(j:Nat) x,xs[j]?=some x->w.cell? ⟨bk,o+j,none⟩=some (.string x)) (f:bk<w.heap.size) (g:xs.length<=140737488355328) (b:xs.length<=c) (d:(Lib.join (xs.map (·.data.toList)) sep.data.toList).length<=140737488355328):
  Calls Tryz.prog 87 #[.slice (some ⟨bk,o,none⟩) xs.length c,.string sep] w fun e i=>e= .returned (.string ⟨(Lib.join (xs.map (·.data.toList)) sep.data.toList).toArray⟩)/\Below w.heap.size w i:=Any.strings_Join Tryz.Dv Tryz.lB bk o c xs sep w a f g b d
def Tryz.sZ:Go.Shelf.Ren:=⟨fun|172=>171|244=>247|245=>248|247=>316|279=>317|280=>318|281=>319|282=>320|287=>367|316=>368|171=>86|205=>369|321=>382|322=>383|243=>134|246=>191|283=>267|284=>268|285=>269|286=>270|129=>266|317=>334|318=>335|319=>336|320=>337|337=>376|338=>377|n=>n,fun|9=>9|3=>3|75=>143|76=>144|4=>4|5=>5|167=>477|37=>93|0=>0|85=>478|2=>2|168=>480|53=>436|175=>521|46=>380|210=>525|127=>254|145=>541|143=>539|21=>21|171=>437|173=>439|212=>498|51=>434|20=>20|213=>499|232=>542|233=>543|80=>148|n=>n,fun|15=>8|16=>9|17=>4|18=>10|19=>11|n=>n⟩
theorem Tryz.C5:Go.Proofs.Lays.n172 Tryz.prog Tryz.sZ:={
 mixed:=by kernel_rfl
 f129:=Tryz.func266.trans (congrArg some (by kernel_rfl))
 f171:=Tryz.func86.trans (congrArg some (by kernel_rfl))
 f172:=Tryz.func171.trans (congrArg some (by kernel_rfl))
 f205:=Tryz.func369.trans (congrArg some (by kernel_rfl))
 f243:=Tryz.func134.trans (congrArg some (by kernel_rfl))
 f244:=Tryz.func247.trans (congrArg some (by kernel_rfl))
 f245:=Tryz.func248.trans (congrArg some (by kernel_rfl))
 f246:=Tryz.func191.trans (congrArg some (by kernel_rfl))
 f247:=Tryz.func316.trans (congrArg some (by kernel_rfl))
 f279:=Tryz.func317.trans (congrArg some (by kernel_rfl))
 f280:=Tryz.func318.trans (congrArg some (by kernel_rfl))
 f281:=Tryz.func319.trans (congrArg some (by kernel_rfl))
 f282:=Tryz.func320.trans (congrArg some (by kernel_rfl))
 f283:=Tryz.func267.trans (congrArg some (by kernel_rfl))
 f284:=Tryz.func268.trans (congrArg some (by kernel_rfl))
 f285:=Tryz.func269.trans (congrArg some (by kernel_rfl))
 f286:=Tryz.func270.trans (congrArg some (by kernel_rfl))
 f287:=Tryz.func367.trans (congrArg some (by kernel_rfl))
 f316:=Tryz.func368.trans (congrArg some (by kernel_rfl))
 f317:=Tryz.func334.trans (congrArg some (by kernel_rfl))
 f318:=Tryz.func335.trans (congrArg some (by kernel_rfl))
 f319:=Tryz.func336.trans (congrArg some (by kernel_rfl))
 f320:=Tryz.func337.trans (congrArg some (by kernel_rfl))
 f321:=Tryz.func382.trans (congrArg some (by kernel_rfl))
 f322:=Tryz.func383.trans (congrArg some (by kernel_rfl))
 f337:=Tryz.func376.trans (congrArg some (by kernel_rfl))
 f338:=Tryz.func377.trans (congrArg some (by kernel_rfl))
 t0:=Tryz.underlying0
 a0:=Tryz.isAgg0
 z0:=Tryz.sizeOf0
 v0:=Tryz.zeroValue0
 t2:=Tryz.underlying2
 a2:=Tryz.isAgg2
 z2:=Tryz.sizeOf2
 v2:=Tryz.zeroValue2
 t3:=Tryz.underlying3
 a3:=Tryz.isAgg3
 z3:=Tryz.sizeOf3
 v3:=Tryz.zeroValue3
 t4:=Tryz.underlying4
 a4:=Tryz.isAgg4
 z4:=Tryz.sizeOf4
 v4:=Tryz.zeroValue4
 t5:=Tryz.underlying5
 a5:=Tryz.isAgg5
 z5:=Tryz.sizeOf5
 v5:=Tryz.zeroValue5
 t9:=Tryz.underlying9
 a9:=Tryz.isAgg9
 z9:=Tryz.sizeOf9
 v9:=Tryz.zeroValue9
 t20:=Tryz.underlying20
 a20:=Tryz.isAgg20
 z20:=Tryz.sizeOf20
 v20:=Tryz.zeroValue20
 t21:=Tryz.underlying21
 a21:=Tryz.isAgg21
 z21:=Tryz.sizeOf21
 v21:=Tryz.zeroValue21
 t37:=Tryz.underlying93
 a37:=Tryz.isAgg93
 z37:=Tryz.sizeOf93
 v37:=Tryz.zeroValue93
 t46:=Tryz.underlying380
 a46:=Tryz.isAgg380
 z46:=Tryz.sizeOf380
 v46:=Tryz.zeroValue380
 t51:=Tryz.underlying434
 a51:=Tryz.isAgg434
 z51:=Tryz.sizeOf434
 v51:=Tryz.zeroValue434
 t53:=Tryz.underlying436
 a53:=Tryz.isAgg436
 z53:=Tryz.sizeOf436
 v53:=Tryz.zeroValue436
 t75:=Tryz.underlying143
 a75:=Tryz.isAgg143
 z75:=Tryz.sizeOf143
 v75:=Tryz.zeroValue143
 t76:=Tryz.underlying144
 a76:=Tryz.isAgg144
 z76:=Tryz.sizeOf144
 v76:=Tryz.zeroValue144
 t85:=Tryz.underlying478
 a85:=Tryz.isAgg478
 z85:=Tryz.sizeOf478
 v85:=Tryz.zeroValue478
 t127:=Tryz.underlying254
 a127:=Tryz.isAgg254
 z127:=Tryz.sizeOf254
 v127:=Tryz.zeroValue254
 t143:=Tryz.underlying539
 a143:=Tryz.isAgg539
 z143:=Tryz.sizeOf539
 v143:=Tryz.zeroValue539
 t145:=Tryz.underlying541
 a145:=Tryz.isAgg541
 z145:=Tryz.sizeOf541
 v145:=Tryz.zeroValue541
 t167:=Tryz.underlying477
 a167:=Tryz.isAgg477
 z167:=Tryz.sizeOf477
 v167:=Tryz.zeroValue477
 t168:=Tryz.underlying480
 a168:=Tryz.isAgg480
 z168:=Tryz.sizeOf480
 v168:=Tryz.zeroValue480
 t171:=Tryz.underlying437
 a171:=Tryz.isAgg437
 z171:=Tryz.sizeOf437
 v171:=Tryz.zeroValue437
 t173:=Tryz.underlying439
 a173:=Tryz.isAgg439
 z173:=Tryz.sizeOf439
 v173:=Tryz.zeroValue439
 t175:=Tryz.underlying521
 a175:=Tryz.isAgg521
 z175:=Tryz.sizeOf521
 v175:=Tryz.zeroValue521
 t210:=Tryz.underlying525
 a210:=Tryz.isAgg525
 z210:=Tryz.sizeOf525
 v210:=Tryz.zeroValue525
 t212:=Tryz.underlying498
 a212:=Tryz.isAgg498
 z212:=Tryz.sizeOf498
 v212:=Tryz.zeroValue498
 t213:=Tryz.underlying499
 a213:=Tryz.isAgg499
 z213:=Tryz.sizeOf499
 t232:=Tryz.underlying542
 a232:=Tryz.isAgg542
 z232:=Tryz.sizeOf542
 v232:=Tryz.zeroValue542
 t233:=Tryz.underlying543
 a233:=Tryz.isAgg543
 z233:=Tryz.sizeOf543
 v233:=Tryz.zeroValue543
 g15:=by kernel_rfl
 g16:=by kernel_rfl
 g17:=by kernel_rfl
 g18:=by kernel_rfl
 g19:=by kernel_rfl}
open Go.RowKit in
theorem Tryz.strconv_Atoi (s:ByteArray) (n:Int) (a:s.size<=18) (h:Lib.atoi s.data.toList=some n) (w:World):
  Calls Tryz.prog 171 #[.string s] w fun e b=>e= .returned (.tuple #[.int .i64 n,.nilIface])/\∃t,b=Lib.bytesWorld w 5 t:=Any.strconv_Atoi Tryz.C5 s n a h w
def Tryz.sJ:Go.Shelf.Ren:=⟨fun|171=>86|243=>134|246=>191|283=>267|284=>268|285=>269|286=>270|129=>266|317=>334|318=>335|319=>336|320=>337|337=>376|338=>377|n=>n,fun|3=>3|9=>9|2=>2|4=>4|171=>437|0=>0|53=>436|37=>93|5=>5|173=>439|212=>498|51=>434|20=>20|213=>499|46=>380|232=>542|233=>543|n=>n,fun|17=>4|18=>10|19=>11|n=>n⟩
theorem Tryz.Ca:Go.Proofs.LaysM.n171 Tryz.prog Tryz.sJ:={
 mixed:=by kernel_rfl
 f129:=Tryz.func266.trans (congrArg some (by kernel_rfl))
 f171:=Tryz.func86.trans (congrArg some (by kernel_rfl))
 f243:=Tryz.func134.trans (congrArg some (by kernel_rfl))
 f246:=Tryz.func191.trans (congrArg some (by kernel_rfl))
 f283:=Tryz.func267.trans (congrArg some (by kernel_rfl))
 f284:=Tryz.func268.trans (congrArg some (by kernel_rfl))
 f285:=Tryz.func269.trans (congrArg some (by kernel_rfl))
 f286:=Tryz.func270.trans (congrArg some (by kernel_rfl))
 f317:=Tryz.func334.trans (congrArg some (by kernel_rfl))
 f318:=Tryz.func335.trans (congrArg some (by kernel_rfl))
 f319:=Tryz.func336.trans (congrArg some (by kernel_rfl))
 f320:=Tryz.func337.trans (congrArg some (by kernel_rfl))
 f337:=Tryz.func376.trans (congrArg some (by kernel_rfl))
 f338:=Tryz.func377.trans (congrArg some (by kernel_rfl))
 t0:=Tryz.underlying0
 a0:=Tryz.isAgg0
 z0:=Tryz.sizeOf0
 v0:=Tryz.zeroValue0
 t2:=Tryz.underlying2
 a2:=Tryz.isAgg2
 z2:=Tryz.sizeOf2
 v2:=Tryz.zeroValue2
 t3:=Tryz.underlying3
 a3:=Tryz.isAgg3
 z3:=Tryz.sizeOf3
 v3:=Tryz.zeroValue3
 t4:=Tryz.underlying4
 a4:=Tryz.isAgg4
 z4:=Tryz.sizeOf4
 v4:=Tryz.zeroValue4
 t5:=Tryz.underlying5
 a5:=Tryz.isAgg5
 z5:=Tryz.sizeOf5
 v5:=Tryz.zeroValue5
 t9:=Tryz.underlying9
 a9:=Tryz.isAgg9
 z9:=Tryz.sizeOf9
 v9:=Tryz.zeroValue9
 t20:=Tryz.underlying20
 a20:=Tryz.isAgg20
 z20:=Tryz.sizeOf20
 v20:=Tryz.zeroValue20
 t37:=Tryz.underlying93
 a37:=Tryz.isAgg93
 z37:=Tryz.sizeOf93
 v37:=Tryz.zeroValue93
 t46:=Tryz.underlying380
 a46:=Tryz.isAgg380
 z46:=Tryz.sizeOf380
 v46:=Tryz.zeroValue380
 t51:=Tryz.underlying434
 a51:=Tryz.isAgg434
 z51:=Tryz.sizeOf434
 v51:=Tryz.zeroValue434
 t53:=Tryz.underlying436
 a53:=Tryz.isAgg436
 z53:=Tryz.sizeOf436
 v53:=Tryz.zeroValue436
 t171:=Tryz.underlying437
 a171:=Tryz.isAgg437
 z171:=Tryz.sizeOf437
 v171:=Tryz.zeroValue437
 t173:=Tryz.underlying439
 a173:=Tryz.isAgg439
 z173:=Tryz.sizeOf439
 v173:=Tryz.zeroValue439
 t212:=Tryz.underlying498
 a212:=Tryz.isAgg498
 z212:=Tryz.sizeOf498
 v212:=Tryz.zeroValue498
 t213:=Tryz.underlying499
 a213:=Tryz.isAgg499
 z213:=Tryz.sizeOf499
 t232:=Tryz.underlying542
 a232:=Tryz.isAgg542
 z232:=Tryz.sizeOf542
 v232:=Tryz.zeroValue542
 t233:=Tryz.underlying543
 a233:=Tryz.isAgg543
 z233:=Tryz.sizeOf543
 v233:=Tryz.zeroValue543
 g17:=by kernel_rfl
 g18:=by kernel_rfl
 g19:=by kernel_rfl
 i0:=by kernel_rfl
 i2:=by kernel_rfl
 i3:=by kernel_rfl
 i4:=by kernel_rfl
 i5:=by kernel_rfl
 i9:=by kernel_rfl
 i20:=by kernel_rfl
 i37:=by kernel_rfl
 i46:=by kernel_rfl
 i51:=by kernel_rfl
 i53:=by kernel_rfl
 i171:=by kernel_rfl
 i173:=by kernel_rfl
 i212:=by kernel_rfl
 i232:=by kernel_rfl
 i233:=by kernel_rfl
 m17:=by kernel_rfl
 m18:=by kernel_rfl
 m19:=by kernel_rfl}
open Go.RowKit Go.Sort Go.Lib in
theorem Tryz.strconv_Itoa (n:Int) (b: -9223372036854775808<=n) (c:n<=9223372036854775807) (w:World) (a:Lib.TabIs Tryz.prog w "internal/strconv.uint64pow10" .u64 Lib.pow10Tab):
  Calls Tryz.prog 86 #[.int .i64 n] w fun e f=>e= .returned (.string ⟨(Lib.itoa n).toArray⟩)/\∃k d,f=grow (w.drewN k) d:=Any.strconv_Itoa Tryz.Ca n b c w a
def Tryz.uF:Go.Shelf.Ren:=⟨fun|219=>245|217=>312|225=>313|224=>314|267=>315|266=>365|314=>366|n=>n,fun|9=>9|3=>3|4=>4|5=>5|46=>380|146=>519|51=>434|n=>n,fun|1=>2|n=>n⟩
theorem Tryz.C3:Go.Proofs.Lays.n219 Tryz.prog Tryz.uF:={
 mixed:=by kernel_rfl
 f217:=Tryz.func312.trans (congrArg some (by kernel_rfl))
 f219:=Tryz.func245.trans (congrArg some (by kernel_rfl))
 f224:=Tryz.func314.trans (congrArg some (by kernel_rfl))
 f225:=Tryz.func313.trans (congrArg some (by kernel_rfl))
 f266:=Tryz.func365.trans (congrArg some (by kernel_rfl))
 f267:=Tryz.func315.trans (congrArg some (by kernel_rfl))
 f314:=Tryz.func366.trans (congrArg some (by kernel_rfl))
 t3:=Tryz.underlying3
 a3:=Tryz.isAgg3
 z3:=Tryz.sizeOf3
 v3:=Tryz.zeroValue3
 t4:=Tryz.underlying4
 a4:=Tryz.isAgg4
 z4:=Tryz.sizeOf4
 v4:=Tryz.zeroValue4
 t5:=Tryz.underlying5
 a5:=Tryz.isAgg5
 z5:=Tryz.sizeOf5
 v5:=Tryz.zeroValue5
 t9:=Tryz.underlying9
 a9:=Tryz.isAgg9
 z9:=Tryz.sizeOf9
 v9:=Tryz.zeroValue9
 t46:=Tryz.underlying380
 a46:=Tryz.isAgg380
 z46:=Tryz.sizeOf380
 v46:=Tryz.zeroValue380
 t51:=Tryz.underlying434
 a51:=Tryz.isAgg434
 z51:=Tryz.sizeOf434
 v51:=Tryz.zeroValue434
 t146:=Tryz.underlying519
 a146:=Tryz.isAgg519
 z146:=Tryz.sizeOf519
 v146:=Tryz.zeroValue519
 g1:=by kernel_rfl}
open Go.RowKit Go.Lib in
theorem Tryz.stringslite_Index_one (s:ByteArray) (c:UInt8) (w:World):
  Calls Tryz.prog 245 #[.string s,.string ⟨#[c]⟩] w fun e a=>e= .returned (.int .i64 (Lib.indexByte s.data.toList c))/\a=w:=Any.stringslite_Index_one Tryz.C3 s c w
def Tryz.tQ:Go.Shelf.Ren:=⟨fun|138=>109|195=>166|218=>167|143=>161|219=>245|217=>312|225=>313|224=>314|267=>315|266=>365|314=>366|n=>n,fun|9=>9|3=>3|4=>4|5=>5|0=>0|46=>380|146=>519|51=>434|n=>n,fun|1=>2|n=>n⟩
theorem Tryz.Db:Go.Proofs.Lays.n138 Tryz.prog Tryz.tQ:={
 mixed:=by kernel_rfl
 f138:=Tryz.func109.trans (congrArg some (by kernel_rfl))
 f143:=Tryz.func161.trans (congrArg some (by kernel_rfl))
 f195:=Tryz.func166.trans (congrArg some (by kernel_rfl))
 f217:=Tryz.func312.trans (congrArg some (by kernel_rfl))
 f218:=Tryz.func167.trans (congrArg some (by kernel_rfl))
 f219:=Tryz.func245.trans (congrArg some (by kernel_rfl))
 f224:=Tryz.func314.trans (congrArg some (by kernel_rfl))
 f225:=Tryz.func313.trans (congrArg some (by kernel_rfl))
 f266:=Tryz.func365.trans (congrArg some (by kernel_rfl))
 f267:=Tryz.func315.trans (congrArg some (by kernel_rfl))
 f314:=Tryz.func366.trans (congrArg some (by kernel_rfl))
 t0:=Tryz.underlying0
 a0:=Tryz.isAgg0
 z0:=Tryz.sizeOf0
 v0:=Tryz.zeroValue0
 t3:=Tryz.underlying3
 a3:=Tryz.isAgg3
 z3:=Tryz.sizeOf3
 v3:=Tryz.zeroValue3
 t4:=Tryz.underlying4
 a4:=Tryz.isAgg4
 z4:=Tryz.sizeOf4
 v4:=Tryz.zeroValue4
 t5:=Tryz.underlying5
 a5:=Tryz.isAgg5
 z5:=Tryz.sizeOf5
 v5:=Tryz.zeroValue5
 t9:=Tryz.underlying9
 a9:=Tryz.isAgg9
 z9:=Tryz.sizeOf9
 v9:=Tryz.zeroValue9
 t46:=Tryz.underlying380
 a46:=Tryz.isAgg380
 z46:=Tryz.sizeOf380
 v46:=Tryz.zeroValue380
 t51:=Tryz.underlying434
 a51:=Tryz.isAgg434
 z51:=Tryz.sizeOf434
 v51:=Tryz.zeroValue434
 t146:=Tryz.underlying519
 a146:=Tryz.isAgg519
 z146:=Tryz.sizeOf519
 v146:=Tryz.zeroValue519
 g1:=by kernel_rfl}
open Go.RowKit Go.Lib in
theorem Tryz.strings_Count_one (s:ByteArray) (c:UInt8) (w:World):
  Calls Tryz.prog 109 #[.string s,.string ⟨#[c]⟩] w fun e a=>e= .returned (.int .i64 (Lib.countByte s.data.toList c))/\a=w:=Any.strings_Count_one Tryz.Db s c w
def Tryz.mB:Go.Shelf.Ren:=⟨fun|240=>102|276=>158|n=>n,fun|0=>0|4=>4|9=>9|20=>20|70=>139|72=>141|37=>93|164=>352|n=>n,fun|n=>n⟩
theorem Tryz.yQ:Go.Proofs.Lays.n240 Tryz.prog Tryz.mB:={
 mixed:=by kernel_rfl
 f240:=Tryz.func102.trans (congrArg some (by kernel_rfl))
 f276:=Tryz.func158.trans (congrArg some (by kernel_rfl))
 t0:=Tryz.underlying0
 a0:=Tryz.isAgg0
 z0:=Tryz.sizeOf0
 v0:=Tryz.zeroValue0
 t4:=Tryz.underlying4
 a4:=Tryz.isAgg4
 z4:=Tryz.sizeOf4
 v4:=Tryz.zeroValue4
 t9:=Tryz.underlying9
 a9:=Tryz.isAgg9
 z9:=Tryz.sizeOf9
 v9:=Tryz.zeroValue9
 t20:=Tryz.underlying20
 a20:=Tryz.isAgg20
 z20:=Tryz.sizeOf20
 v20:=Tryz.zeroValue20
 t70:=Tryz.underlying139
 a70:=Tryz.isAgg139
 z70:=Tryz.sizeOf139
 v70:=Tryz.zeroValue139
 t72:=Tryz.underlying141
 a72:=Tryz.isAgg141
 z72:=Tryz.sizeOf141
 v72:=Tryz.zeroValue141
 t164:=Tryz.underlying352
 a164:=Tryz.isAgg352
 z164:=Tryz.sizeOf352
 v164:=Tryz.zeroValue352}
theorem Tryz.hI:Builder.X72 Tryz.prog Tryz.mB:={
 sizeBuilder:=by kernel_rfl
 liesBuilder:=by kernel_rfl}
end
end Go.Proofs
namespace Go.Proofs
open Go.Shelf Go.RowKit
section
variable {P:Program} {ρ:Ren} {w:World}
theorem Tryz.zB {e:TypeId} (c:P.cellsOf e=1) (count a n:Nat) (d:a+n<=count):liesAt P P.depth e count a e n=true:=by
 have b:P.depth=(2*(P.types.size+Made.depth)+1)+1:=rfl;rw[b];simp only[liesAt,Bool.or_eq_true];left;rw[b];simp[rowAt,c,d,sameLayout,Nat.mod_one]
theorem Tryz.jB (pt it ty e:TypeId) (v:P.underlying pt=some (.pointer e)) (o:P.cellsOf e=1) (g q cells:Nat) (m:w.shape? g=some (e,cells)) (l:List UInt8) (p:l≠[]) (u:q+l.length<=cells) (r:l.length<=9223372036854775807)
  (a:∀j x,l[j]?=some x->w.cell? ((⟨g,q,none⟩:Addr).add j)=some (.int .u8 x.toNat)):
  (Builtin.unsafeString_ #[pt,it] ty #[.pointer (some ⟨g,q,none⟩),.int .i64 l.length]).run P w= .ok (.string ⟨l.toArray⟩) (w.freeze ⟨g,q,none⟩ l.length):=by
 have t:l.length≠0:=by simpa using p
 have k:=Lib.run_loadBytes (P:=P) w l ⟨g,q,none⟩ .empty a
 have b:=Tryz.zB (P:=P) o (cells/P.cellsOf e) q l.length (by rw[o];simpa using u)
 have c:¬(9223372036854775807:Int)<(l.length:Int):=by omega
 have d:Builtin.unsafeString_ #[pt,it] ty #[.pointer (some ⟨g,q,none⟩),.int .i64 l.length]=
   (do
    let n<-asInt (.int .i64 l.length)
    if n<0 then runtimePanic (.error "unsafe.String: len out of range")
    if n>IntKind.i64.max then unsupported (.unsafePointer "String: a length above the largest int")
    if n=0 then pure (.string .empty)
    else if<-variablesAt ⟨g,q,none⟩ (<-elemOf pt) n.toNat then do
     let s<-loadBytes ⟨g,q,none⟩ .empty n.toNat
     freeze ⟨g,q,none⟩ n.toNat
     pure (.string s)
    else unsupported (.unsafePointer "String: not so many bytes at ptr")):=rfl
 rw[d]
 have f:IntKind.i64.max=9223372036854775807:=rfl
 have i:¬(l.length:Int)<0:=by omega
 simp[asInt,asIntOf,f,c,i,t,variablesAt,m,elemOf,run_underlying v,b,k]
set_option maxHeartbeats 2000000 in
set_option maxRecDepth 100000 in
theorem Tryz.zH (L:Lays.n169 P ρ) (X:Builder.Extra P ρ) (b g q c cells:Nat) (l:List UInt8) (w:World) (s:w.cell? ⟨b,1,none⟩=some (.slice (some ⟨g,q,none⟩) l.length c)) (d:c≠0) (n:l≠[])
  (f:w.shape? g=some (ρ.t 5,cells)) (k:q+l.length<=cells) (o:l.length<=1000000) (a:∀(j:Nat) (x:UInt8),l[j]?=some x->w.cell? ⟨g,q+j,none⟩=some (.int .u8 x.toNat)):
  Calls P (ρ.f 169) #[.pointer (some ⟨b,0,none⟩)] w fun e z=>e= .returned (.string ⟨l.toArray⟩)/\z=w.drew.freeze ⟨g,q,none⟩ l.length:=by
 have A:w.drew.cell? ⟨b,1,none⟩=some (.slice (some ⟨g,q,none⟩) l.length c):=s
 have p:(Builtin.unsafeSliceData_ #[(ρ.t 37)] (ρ.t 127) #[.slice (some ⟨g,q,none⟩) l.length c]).run P w.drew= .ok (.pointer (some ⟨g,q,none⟩)) w.drew:=
  Lib.run_unsafeSliceData_row _ _ _ _ _ _ d
 have r:(Builtin.unsafeString_ #[(ρ.t 127),(ρ.t 3)] (ρ.t 9) #[.pointer (some ⟨g,q,none⟩),.int .i64 l.length]).run P w.drew= .ok (.string ⟨l.toArray⟩) (w.drew.freeze ⟨g,q,none⟩ l.length):=by
  refine Tryz.jB (w:=w.drew) (ρ.t 127) (ρ.t 3) (ρ.t 9) (ρ.t 5) L.t127 X.cellsByte g q cells f l n k (by omega) ?_;intro j x t;have:=a j x t;have e:(⟨g,q,none⟩:Addr).add j=⟨g,q+j,none⟩:=by
   unfold Addr.add;by_cases i:j=0;subst i;simp;simp[i]
  rw[e];exact this
 clear a f k
 have mixed:=L.mixed
 have t72:=L.t72;have a72:=L.a72;have z72:=L.z72;have v72:=L.v72;have y:=run_underlying L.t72
 have t70:=L.t70;have a70:=L.a70;have z70:=L.z70;have v70:=L.v70;have v:=run_underlying L.t70
 have t37:=L.t37;have a37:=L.a37;have z37:=L.z37;have v37:=L.v37;have u:=run_underlying L.t37
 have t127:=L.t127;have a127:=L.a127;have z127:=L.z127;have v127:=L.v127;have m:=run_underlying L.t127
 have t3:=L.t3;have a3:=L.a3;have z3:=L.z3;have v3:=L.v3;have B:=run_underlying L.t3
 have t9:=L.t9;have a9:=L.a9;have z9:=L.z9;have v9:=L.v9;have D:=run_underlying L.t9
 have t5:=X.t5;have a5:=X.a5;have z5:=X.z5;have v5:=X.v5;have C:=run_underlying X.t5
 go_enter L.f169,Body.n169_ntmps ρ
 go_wp2
 go_region_o
 all_goals (go_wp2;go_ret;exact⟨rfl,rfl⟩)
set_option maxHeartbeats 2000000 in
set_option maxRecDepth 100000 in
theorem Tryz.wY (L:Lays.n169 P ρ) (X:Builder.Extra P ρ) (b:Nat) (w:World) (f:w.cell? ⟨b,1,none⟩=some (.slice none 0 0)):
  Calls P (ρ.f 169) #[.pointer (some ⟨b,0,none⟩)] w fun e k=>e= .returned (.string ⟨#[]⟩)/\k=w.drew:=by
 have d:=Any.unsafeString_none L X
 have l:w.drew.cell? ⟨b,1,none⟩=some (.slice none 0 0):=f
 have c:(Builtin.unsafeSliceData_ #[(ρ.t 37)] (ρ.t 127) #[.slice none 0 0]).run P w.drew= .ok (.pointer none) w.drew:=rfl
 have mixed:=L.mixed
 have t72:=L.t72;have a72:=L.a72;have z72:=L.z72;have v72:=L.v72;have j:=run_underlying L.t72
 have t70:=L.t70;have a70:=L.a70;have z70:=L.z70;have v70:=L.v70;have i:=run_underlying L.t70
 have t37:=L.t37;have a37:=L.a37;have z37:=L.z37;have v37:=L.v37;have g:=run_underlying L.t37
 have t127:=L.t127;have a127:=L.a127;have z127:=L.z127;have v127:=L.v127;have a:=run_underlying L.t127
 have t3:=L.t3;have a3:=L.a3;have z3:=L.z3;have v3:=L.v3;have m:=run_underlying L.t3
 have t9:=L.t9;have a9:=L.a9;have z9:=L.z9;have v9:=L.v9;have o:=run_underlying L.t9
 have t5:=X.t5;have a5:=X.a5;have z5:=X.z5;have v5:=X.v5;have n:=run_underlying X.t5
 go_enter L.f169,Body.n169_ntmps ρ
 go_wp2
 go_region_o
 all_goals (go_wp2;go_ret;exact⟨rfl,rfl⟩)
end
end Go.Proofs
section
namespace Go.Ab
variable {P:Program} {K:FuncId->List Value->Option bZ} {G:Bg} {h:AH} {L L' M:List HP}
theorem Hs.E9 {W:Nat} {e:TypeId} {a:Option Addr} {b:Nat} {x:Nat×List Value} (f:Hs G h (mN W e a b x::L)):x.1<=b:=by
 obtain⟨r,_,d,_⟩:=f.fst;rcases d.2.2 with⟨c,_⟩|⟨c,_⟩|⟨c,_⟩;omega;omega;exact c
theorem qS:∀l:List (List UInt8),lU (l.map tx)=some (l.map fun x=>(⟨x.toArray⟩:ByteArray))
 |[]=>rfl
 |x::l=>by
  show(lU (l.map tx)).map _=_;rw[qS l];rfl
theorem A2 {l:List (List UInt8)} {s:List UInt8}:nU (l.map fun x=>(⟨x.toArray⟩:ByteArray)) ⟨s.toArray⟩=Lib.join l s:=by
 unfold nU;rw[List.map_map];congr 1;exact List.map_id' l
theorem C4 {f:FuncId} {e:TypeId} {a:Option Addr} {c n:Nat} {l:List (List UInt8)} {s:List UInt8} {Q:Value->AH->Prop}
  (x:∀b o,K f [.slice (some ⟨b,o,none⟩) n c,tx s]=some (.host (qT b o n c ⟨s.toArray⟩))) (m:l.length=n) (B:0<n) (hle:n<=1000) (y:(Lib.join l s).length<=1000000)
  (p:Hs G h (mN 1 e a c (n,l.map tx)::L)) (z:∀i,Hs G i (mN 1 e a c (n,l.map tx)::L)->Q (tx (Lib.join l s)) i):Cl P K f [.slice a n c,tx s] h Q:=by
 have d:=p.E9
 simp only at d
 have r:=p
 obtain⟨b,o,rfl,q⟩:=p.vA (by omega)
 have A:aG h ⟨b,o,none⟩ n=some (l.map tx):=by
  obtain⟨v,t,rfl⟩:=tL (b:=b) (o:=o) (c:=l.map tx) (l:=l.map tx) (n:=n) (j:=0) (k:=fun v=>v= .agg ⟨l.map tx⟩) q (by omega) (by rw[List.drop_zero,List.take_of_length_le (by rw[List.length_map,m];exact Nat.le_refl _)]) (by rw[List.length_map,m]) rfl;simp only[Co,pt,Nat.add_zero,Option.map_eq_some_iff] at t;obtain⟨C,u,g⟩:=t;rw[u];injection g with g;injection g with g;rw[g]
 refine D3 (x b o) (v:=tx (Lib.join l s)) (h':=h) ?_ (z h r)
 unfold qT
 rw[A]
 simp only
 rw[qS]
 simp only
 rw[A2,List.length_map,Kx (by rw[m,Nat.beq_refl,Nat.ble_eq_true_of_le d,Nat.ble_eq_true_of_le hle,Nat.ble_eq_true_of_le y];rfl)]
end Go.Ab
end
