/- Part of a proof; own work. -/
import Derived.Below
import Derived.KernelRfl
import Derived.Shelf.SlGeneric
import Derived.Ground.NamesProg
import Derived.Ground.Names8Prog
import Derived.Shelf.Strconv.Itoa3
import Derived.Shelf.Strings.Repeat
import Derived.Shelf.Strings.Split
import Derived.Shelf.Strings.OnBuilder
import Derived.Shelf.Strings.Search3
import Derived.Shelf.Strings.Count
import Derived.Shelf.Strings.Runes
import Derived.Shelf.Strings.BuilderK
import Derived.Shelf.Spec.SlicesGrow
import Derived.Test.YtjkbgcgljnldeaaGreatDoorProg
import Derived.Shelf.Strings.Builder1
import Derived.Test.YtjkbgcgljnldeaaGreatDoorR0
import Derived.Test.YtjkbgcgljnldeaaGreatDoorRS5
set_option linter.unusedVariables false
set_option linter.unusedSimpArgs false
namespace Go.Proofs
open Go.Shelf
def Tryz.af8:Go.Shelf.Ren:=⟨fun|171=>123|243=>179|246=>202|283=>216|284=>217|285=>218|286=>219|129=>226|317=>225|318=>227|319=>228|320=>229|337=>232|338=>233|n=>n,fun|3=>3|9=>9|2=>2|4=>4|171=>252|0=>0|53=>249|37=>57|5=>5|173=>255|212=>261|51=>246|20=>20|213=>262|46=>237|232=>270|233=>271|n=>n,fun|17=>1|18=>4|19=>5|n=>n⟩
theorem Tryz.af7:Go.Proofs.LaysM.n171 Tryz.prog Tryz.af8:={
 mixed:=by kernel_rfl
 f129:=Tryz.func226.trans (congrArg some (by kernel_rfl))
 f171:=Tryz.func123.trans (congrArg some (by kernel_rfl))
 f243:=Tryz.func179.trans (congrArg some (by kernel_rfl))
 f246:=Tryz.func202.trans (congrArg some (by kernel_rfl))
 f283:=Tryz.func216.trans (congrArg some (by kernel_rfl))
 f284:=Tryz.func217.trans (congrArg some (by kernel_rfl))
 f285:=Tryz.func218.trans (congrArg some (by kernel_rfl))
 f286:=Tryz.func219.trans (congrArg some (by kernel_rfl))
 f317:=Tryz.func225.trans (congrArg some (by kernel_rfl))
 f318:=Tryz.func227.trans (congrArg some (by kernel_rfl))
 f319:=Tryz.func228.trans (congrArg some (by kernel_rfl))
 f320:=Tryz.func229.trans (congrArg some (by kernel_rfl))
 f337:=Tryz.func232.trans (congrArg some (by kernel_rfl))
 f338:=Tryz.func233.trans (congrArg some (by kernel_rfl))
 t0:=Tryz.underlying0
 a0:=Tryz.isAgg0
 z0:=Tryz.sizeOf0
 v0:=Tryz.zeroValue0
 t2:=Tryz.underlying2
 a2:=Tryz.isAgg2
 z2:=Tryz.sizeOf2
 v2:=Tryz.zeroValue2
 t3:=Tryz.underlying3
 a3:=Tryz.isAgg3
 z3:=Tryz.sizeOf3
 v3:=Tryz.zeroValue3
 t4:=Tryz.underlying4
 a4:=Tryz.isAgg4
 z4:=Tryz.sizeOf4
 v4:=Tryz.zeroValue4
 t5:=Tryz.underlying5
 a5:=Tryz.isAgg5
 z5:=Tryz.sizeOf5
 v5:=Tryz.zeroValue5
 t9:=Tryz.underlying9
 a9:=Tryz.isAgg9
 z9:=Tryz.sizeOf9
 v9:=Tryz.zeroValue9
 t20:=Tryz.underlying20
 a20:=Tryz.isAgg20
 z20:=Tryz.sizeOf20
 v20:=Tryz.zeroValue20
 t37:=Tryz.underlying57
 a37:=Tryz.isAgg57
 z37:=Tryz.sizeOf57
 v37:=Tryz.zeroValue57
 t46:=Tryz.underlying237
 a46:=Tryz.isAgg237
 z46:=Tryz.sizeOf237
 v46:=Tryz.zeroValue237
 t51:=Tryz.underlying246
 a51:=Tryz.isAgg246
 z51:=Tryz.sizeOf246
 v51:=Tryz.zeroValue246
 t53:=Tryz.underlying249
 a53:=Tryz.isAgg249
 z53:=Tryz.sizeOf249
 v53:=Tryz.zeroValue249
 t171:=Tryz.underlying252
 a171:=Tryz.isAgg252
 z171:=Tryz.sizeOf252
 v171:=Tryz.zeroValue252
 t173:=Tryz.underlying255
 a173:=Tryz.isAgg255
 z173:=Tryz.sizeOf255
 v173:=Tryz.zeroValue255
 t212:=Tryz.underlying261
 a212:=Tryz.isAgg261
 z212:=Tryz.sizeOf261
 v212:=Tryz.zeroValue261
 t213:=Tryz.underlying262
 a213:=Tryz.isAgg262
 z213:=Tryz.sizeOf262
 t232:=Tryz.underlying270
 a232:=Tryz.isAgg270
 z232:=Tryz.sizeOf270
 v232:=Tryz.zeroValue270
 t233:=Tryz.underlying271
 a233:=Tryz.isAgg271
 z233:=Tryz.sizeOf271
 v233:=Tryz.zeroValue271
 g17:=by kernel_rfl
 g18:=by kernel_rfl
 g19:=by kernel_rfl
 i0:=by kernel_rfl
 i2:=by kernel_rfl
 i3:=by kernel_rfl
 i4:=by kernel_rfl
 i5:=by kernel_rfl
 i9:=by kernel_rfl
 i20:=by kernel_rfl
 i37:=by kernel_rfl
 i46:=by kernel_rfl
 i51:=by kernel_rfl
 i53:=by kernel_rfl
 i171:=by kernel_rfl
 i173:=by kernel_rfl
 i212:=by kernel_rfl
 i232:=by kernel_rfl
 i233:=by kernel_rfl
 m17:=by kernel_rfl
 m18:=by kernel_rfl
 m19:=by kernel_rfl}
def Tryz.af2:Go.Shelf.Ren:=⟨fun|144=>147|143=>189|219=>208|217=>188|225=>206|224=>205|267=>221|266=>207|314=>230|n=>n,fun|9=>9|4=>4|3=>3|5=>5|46=>237|146=>247|51=>246|n=>n,fun|1=>0|n=>n⟩
theorem Tryz.af1:Go.Proofs.Lays.n144 Tryz.prog Tryz.af2:={
 mixed:=by kernel_rfl
 f143:=Tryz.func189.trans (congrArg some (by kernel_rfl))
 f144:=Tryz.func147.trans (congrArg some (by kernel_rfl))
 f217:=Tryz.func188.trans (congrArg some (by kernel_rfl))
 f219:=Tryz.func208.trans (congrArg some (by kernel_rfl))
 f224:=Tryz.func205.trans (congrArg some (by kernel_rfl))
 f225:=Tryz.func206.trans (congrArg some (by kernel_rfl))
 f266:=Tryz.func207.trans (congrArg some (by kernel_rfl))
 f267:=Tryz.func221.trans (congrArg some (by kernel_rfl))
 f314:=Tryz.func230.trans (congrArg some (by kernel_rfl))
 t3:=Tryz.underlying3
 a3:=Tryz.isAgg3
 z3:=Tryz.sizeOf3
 v3:=Tryz.zeroValue3
 t4:=Tryz.underlying4
 a4:=Tryz.isAgg4
 z4:=Tryz.sizeOf4
 v4:=Tryz.zeroValue4
 t5:=Tryz.underlying5
 a5:=Tryz.isAgg5
 z5:=Tryz.sizeOf5
 v5:=Tryz.zeroValue5
 t9:=Tryz.underlying9
 a9:=Tryz.isAgg9
 z9:=Tryz.sizeOf9
 v9:=Tryz.zeroValue9
 t46:=Tryz.underlying237
 a46:=Tryz.isAgg237
 z46:=Tryz.sizeOf237
 v46:=Tryz.zeroValue237
 t51:=Tryz.underlying246
 a51:=Tryz.isAgg246
 z51:=Tryz.sizeOf246
 v51:=Tryz.zeroValue246
 t146:=Tryz.underlying247
 a146:=Tryz.isAgg247
 z146:=Tryz.sizeOf247
 v146:=Tryz.zeroValue247
 g1:=by kernel_rfl}
def Tryz.af4:Go.Shelf.Ren:=⟨fun|151=>144|152=>186|137=>146|119=>204|224=>205|225=>206|217=>188|266=>207|n=>n,fun|9=>9|21=>21|4=>4|3=>3|5=>5|0=>0|46=>237|n=>n,fun|n=>n⟩
theorem Tryz.EI:Go.Proofs.Lays.n151 Tryz.prog Tryz.af4:={
 mixed:=by kernel_rfl
 f119:=Tryz.func204.trans (congrArg some (by kernel_rfl))
 f137:=Tryz.func146.trans (congrArg some (by kernel_rfl))
 f151:=Tryz.func144.trans (congrArg some (by kernel_rfl))
 f152:=Tryz.func186.trans (congrArg some (by kernel_rfl))
 f217:=Tryz.func188.trans (congrArg some (by kernel_rfl))
 f224:=Tryz.func205.trans (congrArg some (by kernel_rfl))
 f225:=Tryz.func206.trans (congrArg some (by kernel_rfl))
 f266:=Tryz.func207.trans (congrArg some (by kernel_rfl))
 t0:=Tryz.underlying0
 a0:=Tryz.isAgg0
 z0:=Tryz.sizeOf0
 v0:=Tryz.zeroValue0
 t3:=Tryz.underlying3
 a3:=Tryz.isAgg3
 z3:=Tryz.sizeOf3
 v3:=Tryz.zeroValue3
 t4:=Tryz.underlying4
 a4:=Tryz.isAgg4
 z4:=Tryz.sizeOf4
 v4:=Tryz.zeroValue4
 t5:=Tryz.underlying5
 a5:=Tryz.isAgg5
 z5:=Tryz.sizeOf5
 v5:=Tryz.zeroValue5
 t9:=Tryz.underlying9
 a9:=Tryz.isAgg9
 z9:=Tryz.sizeOf9
 v9:=Tryz.zeroValue9
 t21:=Tryz.underlying21
 a21:=Tryz.isAgg21
 z21:=Tryz.sizeOf21
 v21:=Tryz.zeroValue21
 t46:=Tryz.underlying237
 a46:=Tryz.isAgg237
 z46:=Tryz.sizeOf237
 v46:=Tryz.zeroValue237}
def Tryz.BG:Go.Shelf.Ren:=⟨fun|146=>166|221=>196|268=>211|138=>212|143=>189|195=>222|197=>223|218=>224|219=>208|260=>231|217=>188|225=>206|224=>205|267=>221|266=>207|314=>230|n=>n,fun|9=>9|31=>48|3=>3|4=>4|0=>0|105=>258|21=>21|5=>5|46=>237|119=>266|139=>269|138=>268|146=>247|51=>246|n=>n,fun|1=>0|3=>2|4=>3|n=>n⟩
theorem Tryz.af3:Go.Proofs.Lays.n146 Tryz.prog Tryz.BG:={
 mixed:=by kernel_rfl
 f138:=Tryz.func212.trans (congrArg some (by kernel_rfl))
 f143:=Tryz.func189.trans (congrArg some (by kernel_rfl))
 f146:=Tryz.func166.trans (congrArg some (by kernel_rfl))
 f195:=Tryz.func222.trans (congrArg some (by kernel_rfl))
 f197:=Tryz.func223.trans (congrArg some (by kernel_rfl))
 f217:=Tryz.func188.trans (congrArg some (by kernel_rfl))
 f218:=Tryz.func224.trans (congrArg some (by kernel_rfl))
 f219:=Tryz.func208.trans (congrArg some (by kernel_rfl))
 f221:=Tryz.func196.trans (congrArg some (by kernel_rfl))
 f224:=Tryz.func205.trans (congrArg some (by kernel_rfl))
 f225:=Tryz.func206.trans (congrArg some (by kernel_rfl))
 f260:=Tryz.func231.trans (congrArg some (by kernel_rfl))
 f266:=Tryz.func207.trans (congrArg some (by kernel_rfl))
 f267:=Tryz.func221.trans (congrArg some (by kernel_rfl))
 f268:=Tryz.func211.trans (congrArg some (by kernel_rfl))
 f314:=Tryz.func230.trans (congrArg some (by kernel_rfl))
 t0:=Tryz.underlying0
 a0:=Tryz.isAgg0
 z0:=Tryz.sizeOf0
 v0:=Tryz.zeroValue0
 t3:=Tryz.underlying3
 a3:=Tryz.isAgg3
 z3:=Tryz.sizeOf3
 v3:=Tryz.zeroValue3
 t4:=Tryz.underlying4
 a4:=Tryz.isAgg4
 z4:=Tryz.sizeOf4
 v4:=Tryz.zeroValue4
 t5:=Tryz.underlying5
 a5:=Tryz.isAgg5
 z5:=Tryz.sizeOf5
 v5:=Tryz.zeroValue5
 t9:=Tryz.underlying9
 a9:=Tryz.isAgg9
 z9:=Tryz.sizeOf9
 v9:=Tryz.zeroValue9
 t21:=Tryz.underlying21
 a21:=Tryz.isAgg21
 z21:=Tryz.sizeOf21
 v21:=Tryz.zeroValue21
 t31:=Tryz.underlying48
 a31:=Tryz.isAgg48
 z31:=Tryz.sizeOf48
 v31:=Tryz.zeroValue48
 t46:=Tryz.underlying237
 a46:=Tryz.isAgg237
 z46:=Tryz.sizeOf237
 v46:=Tryz.zeroValue237
 t51:=Tryz.underlying246
 a51:=Tryz.isAgg246
 z51:=Tryz.sizeOf246
 v51:=Tryz.zeroValue246
 t105:=Tryz.underlying258
 a105:=Tryz.isAgg258
 z105:=Tryz.sizeOf258
 v105:=Tryz.zeroValue258
 t119:=Tryz.underlying266
 a119:=Tryz.isAgg266
 z119:=Tryz.sizeOf266
 t138:=Tryz.underlying268
 a138:=Tryz.isAgg268
 z138:=Tryz.sizeOf268
 v138:=Tryz.zeroValue268
 t139:=Tryz.underlying269
 a139:=Tryz.isAgg269
 z139:=Tryz.sizeOf269
 v139:=Tryz.zeroValue269
 t146:=Tryz.underlying247
 a146:=Tryz.isAgg247
 z146:=Tryz.sizeOf247
 v146:=Tryz.zeroValue247
 g1:=by kernel_rfl
 g3:=by kernel_rfl
 g4:=by kernel_rfl}
def Tryz.ME:Go.Shelf.Ren:=⟨fun|105=>177|212=>200|99=>145|165=>181|166=>176|170=>201|169=>129|263=>214|264=>215|206=>187|240=>199|241=>203|276=>213|277=>220|n=>n,fun|9=>9|3=>3|4=>4|20=>20|0=>0|46=>237|109=>238|5=>5|72=>180|76=>217|51=>246|146=>247|53=>249|148=>250|70=>178|37=>57|75=>216|127=>224|164=>244|80=>89|n=>n,fun|n=>n⟩
theorem Tryz.af0:Go.Proofs.Lays.n105 Tryz.prog Tryz.ME:={
 mixed:=by kernel_rfl
 f99:=Tryz.func145.trans (congrArg some (by kernel_rfl))
 f105:=Tryz.func177.trans (congrArg some (by kernel_rfl))
 f165:=Tryz.func181.trans (congrArg some (by kernel_rfl))
 f166:=Tryz.func176.trans (congrArg some (by kernel_rfl))
 f169:=Tryz.func129.trans (congrArg some (by kernel_rfl))
 f170:=Tryz.func201.trans (congrArg some (by kernel_rfl))
 f206:=Tryz.func187.trans (congrArg some (by kernel_rfl))
 f212:=Tryz.func200.trans (congrArg some (by kernel_rfl))
 f240:=Tryz.func199.trans (congrArg some (by kernel_rfl))
 f241:=Tryz.func203.trans (congrArg some (by kernel_rfl))
 f263:=Tryz.func214.trans (congrArg some (by kernel_rfl))
 f264:=Tryz.func215.trans (congrArg some (by kernel_rfl))
 f276:=Tryz.func213.trans (congrArg some (by kernel_rfl))
 f277:=Tryz.func220.trans (congrArg some (by kernel_rfl))
 t0:=Tryz.underlying0
 a0:=Tryz.isAgg0
 z0:=Tryz.sizeOf0
 v0:=Tryz.zeroValue0
 t3:=Tryz.underlying3
 a3:=Tryz.isAgg3
 z3:=Tryz.sizeOf3
 v3:=Tryz.zeroValue3
 t4:=Tryz.underlying4
 a4:=Tryz.isAgg4
 z4:=Tryz.sizeOf4
 v4:=Tryz.zeroValue4
 t5:=Tryz.underlying5
 a5:=Tryz.isAgg5
 z5:=Tryz.sizeOf5
 v5:=Tryz.zeroValue5
 t9:=Tryz.underlying9
 a9:=Tryz.isAgg9
 z9:=Tryz.sizeOf9
 v9:=Tryz.zeroValue9
 t20:=Tryz.underlying20
 a20:=Tryz.isAgg20
 z20:=Tryz.sizeOf20
 v20:=Tryz.zeroValue20
 t37:=Tryz.underlying57
 a37:=Tryz.isAgg57
 z37:=Tryz.sizeOf57
 v37:=Tryz.zeroValue57
 t46:=Tryz.underlying237
 a46:=Tryz.isAgg237
 z46:=Tryz.sizeOf237
 v46:=Tryz.zeroValue237
 t51:=Tryz.underlying246
 a51:=Tryz.isAgg246
 z51:=Tryz.sizeOf246
 v51:=Tryz.zeroValue246
 t53:=Tryz.underlying249
 a53:=Tryz.isAgg249
 z53:=Tryz.sizeOf249
 v53:=Tryz.zeroValue249
 t70:=Tryz.underlying178
 a70:=Tryz.isAgg178
 z70:=Tryz.sizeOf178
 v70:=Tryz.zeroValue178
 t72:=Tryz.underlying180
 a72:=Tryz.isAgg180
 z72:=Tryz.sizeOf180
 v72:=Tryz.zeroValue180
 t75:=Tryz.underlying216
 a75:=Tryz.isAgg216
 z75:=Tryz.sizeOf216
 v75:=Tryz.zeroValue216
 t76:=Tryz.underlying217
 a76:=Tryz.isAgg217
 z76:=Tryz.sizeOf217
 v76:=Tryz.zeroValue217
 t109:=Tryz.underlying238
 a109:=Tryz.isAgg238
 z109:=Tryz.sizeOf238
 v109:=Tryz.zeroValue238
 t127:=Tryz.underlying224
 a127:=Tryz.isAgg224
 z127:=Tryz.sizeOf224
 v127:=Tryz.zeroValue224
 t146:=Tryz.underlying247
 a146:=Tryz.isAgg247
 z146:=Tryz.sizeOf247
 v146:=Tryz.zeroValue247
 t148:=Tryz.underlying250
 a148:=Tryz.isAgg250
 z148:=Tryz.sizeOf250
 v148:=Tryz.zeroValue250
 t164:=Tryz.underlying244
 a164:=Tryz.isAgg244
 z164:=Tryz.sizeOf244
 v164:=Tryz.zeroValue244}
def Tryz.za:Go.Shelf.Ren:=⟨fun|156=>125|165=>181|166=>176|169=>129|240=>199|241=>203|276=>213|277=>220|n=>n,fun|31=>48|9=>9|3=>3|4=>4|0=>0|20=>20|72=>180|76=>217|70=>178|37=>57|75=>216|127=>224|164=>244|5=>5|80=>89|n=>n,fun|n=>n⟩
theorem Tryz.y9:Go.Proofs.Lays.n156 Tryz.prog Tryz.za:={
 mixed:=by kernel_rfl
 f156:=Tryz.func125.trans (congrArg some (by kernel_rfl))
 f165:=Tryz.func181.trans (congrArg some (by kernel_rfl))
 f166:=Tryz.func176.trans (congrArg some (by kernel_rfl))
 f169:=Tryz.func129.trans (congrArg some (by kernel_rfl))
 f240:=Tryz.func199.trans (congrArg some (by kernel_rfl))
 f241:=Tryz.func203.trans (congrArg some (by kernel_rfl))
 f276:=Tryz.func213.trans (congrArg some (by kernel_rfl))
 f277:=Tryz.func220.trans (congrArg some (by kernel_rfl))
 t0:=Tryz.underlying0
 a0:=Tryz.isAgg0
 z0:=Tryz.sizeOf0
 v0:=Tryz.zeroValue0
 t3:=Tryz.underlying3
 a3:=Tryz.isAgg3
 z3:=Tryz.sizeOf3
 v3:=Tryz.zeroValue3
 t4:=Tryz.underlying4
 a4:=Tryz.isAgg4
 z4:=Tryz.sizeOf4
 v4:=Tryz.zeroValue4
 t9:=Tryz.underlying9
 a9:=Tryz.isAgg9
 z9:=Tryz.sizeOf9
 v9:=Tryz.zeroValue9
 t20:=Tryz.underlying20
 a20:=Tryz.isAgg20
 z20:=Tryz.sizeOf20
 v20:=Tryz.zeroValue20
 t31:=Tryz.underlying48
 a31:=Tryz.isAgg48
 z31:=Tryz.sizeOf48
 v31:=Tryz.zeroValue48
 t37:=Tryz.underlying57
 a37:=Tryz.isAgg57
 z37:=Tryz.sizeOf57
 v37:=Tryz.zeroValue57
 t70:=Tryz.underlying178
 a70:=Tryz.isAgg178
 z70:=Tryz.sizeOf178
 v70:=Tryz.zeroValue178
 t72:=Tryz.underlying180
 a72:=Tryz.isAgg180
 z72:=Tryz.sizeOf180
 v72:=Tryz.zeroValue180
 t75:=Tryz.underlying216
 a75:=Tryz.isAgg216
 z75:=Tryz.sizeOf216
 v75:=Tryz.zeroValue216
 t76:=Tryz.underlying217
 a76:=Tryz.isAgg217
 z76:=Tryz.sizeOf217
 v76:=Tryz.zeroValue217
 t127:=Tryz.underlying224
 a127:=Tryz.isAgg224
 z127:=Tryz.sizeOf224
 v127:=Tryz.zeroValue224
 t164:=Tryz.underlying244
 a164:=Tryz.isAgg244
 z164:=Tryz.sizeOf244
 v164:=Tryz.zeroValue244}
def Tryz.Ye:Go.Shelf.Ren:=⟨fun|4=>172|n=>n,fun|22=>72|25=>131|3=>3|4=>4|9=>9|20=>20|0=>0|n=>n,fun|n=>n⟩
theorem Tryz.K8:Go.Proofs.Lays8.n4 Tryz.prog Tryz.Ye:={
 mixed:=by kernel_rfl
 f4:=⟨Tryz.f172.name,by decide,Tryz.func172.trans (congrArg some (by kernel_rfl))⟩
 t0:=Tryz.underlying0
 a0:=Tryz.isAgg0
 z0:=Tryz.sizeOf0
 v0:=Tryz.zeroValue0
 t3:=Tryz.underlying3
 a3:=Tryz.isAgg3
 z3:=Tryz.sizeOf3
 v3:=Tryz.zeroValue3
 t4:=Tryz.underlying4
 a4:=Tryz.isAgg4
 z4:=Tryz.sizeOf4
 v4:=Tryz.zeroValue4
 t9:=Tryz.underlying9
 a9:=Tryz.isAgg9
 z9:=Tryz.sizeOf9
 v9:=Tryz.zeroValue9
 t20:=Tryz.underlying20
 a20:=Tryz.isAgg20
 z20:=Tryz.sizeOf20
 v20:=Tryz.zeroValue20
 t22:=Tryz.underlying72
 a22:=Tryz.isAgg72
 z22:=Tryz.sizeOf72
 v22:=Tryz.zeroValue72}
def Tryz.Yf:Go.Shelf.Ren:=⟨fun|4=>194|n=>n,fun|22=>107|25=>133|3=>3|4=>4|9=>9|20=>20|0=>0|n=>n,fun|n=>n⟩
theorem Tryz.K9:Go.Proofs.Lays8.n4 Tryz.prog Tryz.Yf:={
 mixed:=by kernel_rfl
 f4:=⟨Tryz.f194.name,by decide,Tryz.func194.trans (congrArg some (by kernel_rfl))⟩
 t0:=Tryz.underlying0
 a0:=Tryz.isAgg0
 z0:=Tryz.sizeOf0
 v0:=Tryz.zeroValue0
 t3:=Tryz.underlying3
 a3:=Tryz.isAgg3
 z3:=Tryz.sizeOf3
 v3:=Tryz.zeroValue3
 t4:=Tryz.underlying4
 a4:=Tryz.isAgg4
 z4:=Tryz.sizeOf4
 v4:=Tryz.zeroValue4
 t9:=Tryz.underlying9
 a9:=Tryz.isAgg9
 z9:=Tryz.sizeOf9
 v9:=Tryz.zeroValue9
 t20:=Tryz.underlying20
 a20:=Tryz.isAgg20
 z20:=Tryz.sizeOf20
 v20:=Tryz.zeroValue20
 t22:=Tryz.underlying107
 a22:=Tryz.isAgg107
 z22:=Tryz.sizeOf107
 v22:=Tryz.zeroValue107}
theorem Tryz.af6:Go.Proofs.Lays.n240 Tryz.prog Tryz.za:={Tryz.y9 with}
theorem Tryz.af5:Go.Proofs.Lays.n169 Tryz.prog Tryz.za:={Tryz.y9 with}
theorem Tryz.yB:Builder.Extra Tryz.prog Tryz.za:={
 sizeBuilder:=by kernel_rfl
 liesBuilder:=by kernel_rfl
 t5:=Tryz.underlying5
 a5:=Tryz.isAgg5
 z5:=Tryz.sizeOf5
 v5:=Tryz.zeroValue5
 infoByte:=by kernel_rfl
 cellsByte:=by kernel_rfl
 sizeByte:=by kernel_rfl
 neB5:=by decide}
theorem Tryz.XG:Builder.Extra Tryz.prog Tryz.ME:={
 sizeBuilder:=by kernel_rfl
 liesBuilder:=by kernel_rfl
 t5:=Tryz.underlying5
 a5:=Tryz.isAgg5
 z5:=Tryz.sizeOf5
 v5:=Tryz.zeroValue5
 infoByte:=by kernel_rfl
 cellsByte:=by kernel_rfl
 sizeByte:=by kernel_rfl
 neB5:=by decide}
end Go.Proofs
namespace Go.bc
open Go Go.Proofs Go.Shelf Go.RowKit
variable {P:Program}{ρ:Ren}
set_option maxHeartbeats 1000000 in
set_option maxRecDepth 100000 in
theorem Wu (L:Lays.n240 P ρ) (X:Builder.X72 P ρ){T:TypeId}{n:Nat}(hn:0<n) (hl:liesAt P P.depth T (n/P.cellsOf T) 0 (ρ.t 72) 1=true) (b:Nat) (w:World) (h0:w.cell? ⟨b,0,none⟩=some (.pointer none)) (hsh:w.shape? b=some (T,n)) (hfz:w.frozen? ⟨b,0,none⟩=false):
  Calls P (ρ.f 240) #[.pointer (some ⟨b,0,none⟩)] w fun e w'=>e= .returned (.tuple #[])∧w'=w.setCell ⟨b,0,none⟩ (.pointer (some ⟨b,0,none⟩)):=by
 obtain⟨j,hj,hjs⟩:=Option.map_eq_some_iff.1 X.sizeBuilder
 have mixed:=L.mixed
 have t72:=L.t72; have a72:=L.a72; have z72:=L.z72; have v72:=L.v72; have u72:=run_underlying L.t72
 have t70:=L.t70; have a70:=L.a70; have z70:=L.z70; have v70:=L.v70; have u70:=run_underlying L.t70
 have t9:=L.t9; have a9:=L.a9; have z9:=L.z9; have v9:=L.v9; have u9:=run_underlying L.t9
 have t4:=L.t4; have a4:=L.a4; have z4:=L.z4; have v4:=L.v4; have u4:=run_underlying L.t4
 have t164:=L.t164; have a164:=L.a164; have z164:=L.z164; have v164:=L.v164; have u164:=run_underlying L.t164
 go_enter L.f240,Body.n240_ntmps ρ
 go_wp2
 rw[Lib.run_to_unsafe w ⟨b,0,none⟩ L.t70 L.t164 hj (by rw[hjs]; decide) hsh hn]
 simp only[Result.andThen]
 rw[Oper.upon_value]
 go_wp2
 rw[run_callFunc_extern L.f276 (by kernel_rfl) (by kernel_rfl) (by kernel_rfl) (e:=Extern.AbiNoEscape.same) (by kernel_rfl)]
 rw[Lib.run_noEscape]
 simp only[Result.andThen]
 rw[Oper.upon_value]
 go_wp2
 rw[Lib.run_from_unsafe w ⟨b,0,none⟩ L.t164 L.t70 hj hsh hl]
 simp only[Result.andThen]
 rw[Oper.upon_value]
 go_wp2
 go_end0
 exact⟨rfl,rfl⟩
set_option maxHeartbeats 1000000 in
set_option maxRecDepth 100000 in
theorem aI2 (L:Lays.n169 P ρ) (X:Builder.Extra P ρ) (b g cap:Nat) (cur:Array Value) (l:List UInt8) (w:World) (c1:w.drew.cell? ⟨b,1,none⟩=some (.slice (some ⟨g,0,none⟩) l.length cap)) (h0:l≠[]) (hg:w.drew.heap[g]? =some (.cells cur (ρ.t 5) (0,0))) (hnc:l.length≤cap) (hcm:cap≤maxLen) (hcs:cur.size=cap*1)
  (hcell: ∀j x,l[j]? =some x→w.drew.cell? ((⟨g,0,none⟩:Addr).add j)=some (.int .u8 x.toNat)):
  Calls P (ρ.f 169) #[.pointer (some ⟨b,0,none⟩)] w fun e w'=>e= .returned (.string ⟨l.toArray⟩)∧w'=w.drew.freeze ⟨g,0,none⟩ l.length:=by
 have hl0:l.length≠0:=by simpa using h0
 have hSD:(Builtin.unsafeSliceData_ #[(ρ.t 37)] (ρ.t 127) #[.slice (some ⟨g,0,none⟩) l.length cap]).run P w.drew= .ok (.pointer (some ⟨g,0,none⟩)) w.drew:=
  Lib.run_unsafeSliceData_row _ _ _ _ _ _ (by omega)
 have hUS:(Builtin.unsafeString_ #[(ρ.t 127),(ρ.t 3)] (ρ.t 9) #[.pointer (some ⟨g,0,none⟩),.int .i64 l.length]).run P w.drew= .ok (.string ⟨l.toArray⟩) (w.drew.freeze ⟨g,0,none⟩ l.length):=
  Lib.run_unsafeString_row w.drew (ρ.t 127) (ρ.t 3) (ρ.t 9) (ρ.t 5) L.t127 X.cellsByte g cur.size (by simp [World.shape?,hg]) l h0 (by omega) (by unfold maxLen at hcm; omega) hcell
 have mixed:=L.mixed
 have t72:=L.t72; have a72:=L.a72; have z72:=L.z72; have v72:=L.v72; have u72:=run_underlying L.t72
 have t70:=L.t70; have a70:=L.a70; have z70:=L.z70; have v70:=L.v70; have u70:=run_underlying L.t70
 have t37:=L.t37; have a37:=L.a37; have z37:=L.z37; have v37:=L.v37; have u37:=run_underlying L.t37
 have t127:=L.t127; have a127:=L.a127; have z127:=L.z127; have v127:=L.v127; have u127:=run_underlying L.t127
 have t3:=L.t3; have a3:=L.a3; have z3:=L.z3; have v3:=L.v3; have u3:=run_underlying L.t3
 have t9:=L.t9; have a9:=L.a9; have z9:=L.z9; have v9:=L.v9; have u9:=run_underlying L.t9
 have t5:=X.t5; have a5:=X.a5; have z5:=X.z5; have v5:=X.v5; have u5:=run_underlying X.t5
 go_enter L.f169,Body.n169_ntmps ρ
 go_wp2
 go_region_o
 all_goals (go_wp2; go_ret; exact⟨rfl,rfl⟩)
end Go.bc
namespace Go.bc
open Go Go.Proofs Go.Shelf Go.RowKit
def hL (c:UInt8):List I:=[.int .u8 c.toNat]
def Mem.vn (m:Mem) (w':World) (t:Nat) (i:b2):Mem:=⟨w',m.H.cA t (.bS i.ty i.size (i.bg+1) []),fun x=>if x=t then .slice none 0 0 else m.L x,m.T⟩
section
variable {m:Mem}{w':World}{t g:Nat}{i:b2}
theorem yL {t':Nat}{i':b2}(h:(m.vn w' t i).H.tok t'=some i'):(t'=t∧i'= .bS i.ty i.size (i.bg+1) []∧(m.vn w' t i).L t'= .slice none 0 0)∨(t'≠t∧m.H.tok t'=some i'∧(m.vn w' t i).L t'=m.L t'):=by
 simp only[Mem.vn,aA.cA]at h ⊢
 by_cases e:t'=t
 ·rw[if_pos e]at h
  cases h
  exact .inl ⟨e,rfl,if_pos e⟩
 ·rw[if_neg e]at h
  exact .inr ⟨e,h,if_neg e⟩
theorem b0.vk (ai:m.H.tok t=some i) (hg:(m.L t).ownBlock=some g) (h1:w'.os=m.w.os) (h2:w'.tape=m.w.tape) (h3:w'.output=m.w.output) (h4:w'.heap.size=m.w.heap.size) (h5: ∀k,k≠g→w'.heap[k]? =m.w.heap[k]?) (h6: ∀k o,w'.cell? ⟨k,o,none⟩=m.w.cell? ⟨k,o,none⟩):b0 m (m.vn w' t i) where
 os:=h1
 tape:=h2
 output:=h3
 size:=by show m.w.heap.size≤w'.heap.size; omega
 T:=Nat.le_refl _
 block:=fun b hb h h'=>⟨h5 b fun e=>h' t i ai (by rw[hg,e]),h,fun t' i' ht'=>by
  rcases yL ht' with ⟨_,_,e⟩|⟨_,e1,e2⟩
  ·rw[e]; simp [Value.ownBlock]
  ·rw[e2]; exact h' t' i' e1⟩
 cell:=fun b o ap=>⟨⟨by show b<w'.heap.size; rw[h4]; exact ap.lt,ap.aU,fun t' i' ht' hb'=>by
  rcases yL ht' with ⟨_,_,e⟩|⟨_,e1,e2⟩
  ·rw[e]at hb'; simp [Value.ownBlock]at hb'
  ·rw[e2]at hb'; exact ap.tok t' i' e1 hb'⟩,h6 b o⟩
 tok:=fun t' i' _ h=>by
  rcases yL h with ⟨rfl,rfl,e⟩|⟨_,e1,e2⟩
  ·exact⟨i,ai,Nat.le_succ _,rfl,fun e=>absurd e (Nat.succ_ne_self _)⟩
  ·exact⟨i',e1,Nat.le_refl _,rfl,fun _=>e2⟩
theorem b5.vk (r:b5 m) (ai:m.H.tok t=some i) (hg:(m.L t).ownBlock=some g) (h1:w'.os=m.w.os) (h2:w'.tape=m.w.tape) (h3:w'.output=m.w.output) (h4:w'.heap.size=m.w.heap.size) (h5: ∀k,k≠g→w'.heap[k]? =m.w.heap[k]?) (h6: ∀k o,w'.cell? ⟨k,o,none⟩=m.w.cell? ⟨k,o,none⟩):b5 (m.vn w' t i) where
 kH:=(pt.aJ (b0.vk ai hg h1 h2 h3 h4 h5 h6) r.kH r.kI).1
 kI:=(pt.aJ (b0.vk ai hg h1 h2 h3 h4 h5 h6) r.kH r.kI).2
 aU:=fun b T cs hb=>by
  obtain⟨l,e1,e2,cw⟩:=r.aU b T cs hb
  have hne:b≠g:=fun e=>by
   have:=((r.tok t i ai).2.2.2 g hg).1
   rw[←e]at this
   rw[show (m.vn w' t i).H.aU b=m.H.aU b from rfl,this]at hb
   cases hb
  exact⟨l,(h5 b hne).trans e1,aS.aJ (b0.vk ai hg h1 h2 h3 h4 h5 h6) _ l e2,cw⟩
 tok:=fun t' i' ht'=>by
  rcases yL ht' with ⟨rfl,rfl,e⟩|⟨hne,aO,e2⟩
  ·obtain⟨k1,k2,_,_⟩:=r.tok t' i ai
   refine⟨k1,k2,⟨[],by rw[e]; exact World.ownsRow_nil _ _ _ _,fun rows ag=> ?_⟩,fun b hb=>by rw[e]at hb; simp [Value.ownBlock]at hb⟩
   simp only[b2.bS,Option.some.injEq]at ag
   subst ag
   exact⟨by simp [aS],fun _ h=>by simp at h,fun _ h=>by simp at h⟩
  ·obtain⟨k1,k2,⟨xs,k3,k5⟩,k4⟩:=r.tok t' i' aO
   rw[e2]
   refine⟨k1,k2,⟨xs,zp k3 fun k hk=>h5 k fun e=> ?_,fun rows ag=>⟨aS.aJ (b0.vk ai hg h1 h2 h3 h4 h5 h6) _ _ (k5 rows ag).1,(k5 rows ag).2⟩⟩,fun b hb=> ?_⟩
   ·subst e
    exact hne ((r.tok t i ai).2.2.2 k hg|>.2 t' i' aO hk)
   ·obtain⟨g1,g2⟩:=k4 b hb
    refine⟨g1,fun t2 i2 h2' hb2=> ?_⟩
    rcases yL h2' with ⟨_,_,e⟩|⟨_,e1,cw⟩
    ·rw[e]at hb2; simp [Value.ownBlock]at hb2
    ·rw[cw]at hb2; exact g2 t2 i2 e1 hb2
end
section
variable {P:Program}{ρ:Ren}{H:aA}
theorem Wc (L:Lays.n240 P ρ) (X:Builder.X72 P ρ){T:TypeId}{b:Nat}{a:I}{cs:List I}(hl:liesAt P P.depth T ((cs.length+1)/P.cellsOf T) 0 (ρ.t 72) 1=true) (hb:H.aU b=some (T,a::cs)) (aP:a= .dQ (.pointer none)∨a= .ptr b 0):
  jr P (ρ.f 240) [.ptr b 0] H fun o H'=>o= .ret (.di [])∧H'=H.ch b T (.ptr b 0::cs):=by
 intro m ay hH rh hv
 subst hH
 simp only[aS,aR]at hv
 obtain⟨_,_,rfl,rfl,rfl⟩:=hv
 obtain⟨l,g1,g2,g3⟩:=rh.aU b T _ hb
 have hlen:=aS.length g2
 simp only[aS]at g2
 obtain⟨v,l,rfl,hva,hvl⟩:=g2
 have hlt:b<m.w.heap.size:=(Array.getElem?_eq_some_iff.1 g1).1
 have c0:m.w.cell? ⟨b,0,none⟩=some v:=by simp [World.cell?,g1]
 have e1:aS m (.ptr b 0::cs) (.pointer (some ⟨b,0,none⟩)::l):=by simp only[aS,aR]; exact⟨_,_,rfl,rfl,hvl⟩
 have e2: ∀v∈Value.pointer (some ⟨b,0,none⟩)::l,v.oneCell'=true:=fun x hx=>by
  rcases List.mem_cons.1 hx with rfl|hx
  ·rfl
  ·exact g3 x (List.mem_cons_of_mem _ hx)
 rcases aP with rfl|rfl
 ·simp only[aR]at hva
  subst hva
  have hsh:m.w.shape? b=some (T,cs.length+1):=by
   simp only[List.length_cons]at hlen
   simp [World.shape?,g1]; omega
  have hfz:m.w.frozen? ⟨b,0,none⟩=false:=by simp [World.frozen?,g1]
  refine (Wu L X (Nat.succ_pos _) hl b m.w c0 hsh hfz).mono ?_
  rintro e w' ⟨rfl,rfl⟩
  have h5: ∀k,k≠b→(m.w.setCell ⟨b,0,none⟩ (.pointer (some ⟨b,0,none⟩))).heap[k]? =m.w.heap[k]? :=fun k hk=>by
   simp only[World.setCell,Array.getElem?_modify]
   rw[if_neg (fun e=>hk e.symm)]
  have h6:(m.w.setCell ⟨b,0,none⟩ (.pointer (some ⟨b,0,none⟩))).heap[b]? =some (.cells ⟨.pointer (some ⟨b,0,none⟩)::l⟩ T (0,0)):=by
   simp [World.setCell,Array.getElem?_modify,g1]
  exact⟨.ret (.di []),_,m.L,m.T,b5.jS rh hb rfl rfl rfl (by simp [World.setCell]) h5 h6 e1 e2,b0.jS rh hb rfl rfl rfl (by simp [World.setCell]) h5,⟨_,rfl,by simp only[aR,aS]; exact⟨_,rfl,rfl⟩⟩,rfl,rfl⟩
 ·simp only[aR]at hva
  subst hva
  refine (Any.Builder_copyCheck_used L X b m.w c0).mono ?_
  rintro e w' ⟨rfl,rfl⟩
  exact⟨.ret (.di []),_,m.L,m.T,b5.jS (w':=m.w) rh hb rfl rfl rfl rfl (fun _ _=>rfl) g1 e1 e2,b0.jS (w':=m.w) rh hb rfl rfl rfl rfl (fun _ _=>rfl),⟨_,rfl,by simp only[aR,aS]; exact⟨_,rfl,rfl⟩⟩,rfl,rfl⟩
theorem aI0 (L:Lays.n169 P ρ) (X:Builder.Extra P ρ){T:TypeId}{b t:Nat}{cs:List I}{l:List UInt8}(hb:H.aU b=some (T,cs)) (hc:cs[1]? =some (.own t 1 (l.map hL))) (aO:H.tok t=some (.bJ (ρ.t 5) 1 l.length)) (h0:l≠[]):
  jr P (ρ.f 169) [.ptr b 0] H fun o H'=>o= .ret (.str l)∧H'=H.cA t (.bS (ρ.t 5) 1 (l.length+1) []):=by
 intro m ay hH rh hv
 subst hH
 simp only[aS,aR]at hv
 obtain⟨_,_,rfl,rfl,rfl⟩:=hv
 have hl0:l.length≠0:=by simpa using h0
 obtain⟨lv,g1,g2,g3⟩:=rh.aU b T _ hb
 obtain⟨v,hv1,hv2⟩:=aS.get g2 1 _ hc
 simp only[aR,List.length_map]at hv2
 obtain⟨⟨a,len,cap,rfl,rfl,⟨hcap,hmax⟩,h4⟩,c4,h6⟩:=hv2
 obtain⟨_,h6'⟩:=h6 _ aO
 have hLt:m.L t= .slice a l.length cap:=(h6' rfl).1
 obtain⟨_,_,⟨xs,k3,_⟩,k4⟩:=rh.tok t _ aO
 rcases h4 with h4|⟨g,o,rfl,hR⟩
 ·exact absurd h4 hl0
 obtain⟨g',cap',cur,hv,_,hg,hnc,hcm,hcs,htake⟩: ∃g' cap' cur,m.L t= .slice (some ⟨g',0,none⟩) l.length cap'∧0≤g'∧m.w.heap[g']? =some (.cells cur (ρ.t 5) (0,0))∧l.length≤cap'∧cap'≤maxLen∧cur.size=cap'*1∧cur.toList.take (l.length*1)=xs:=by
  rcases k3.2 with ⟨_,aB⟩|⟨g',cap',cur,r⟩
  ·exact absurd aB hl0
  ·exact⟨g',cap',cur,r⟩
 rw[hLt]at hv
 obtain⟨hgo,rfl⟩:(g=g'∧o=0)∧cap=cap':=by
  injection hv with e1 _ cw
  injection e1 with e1
  injection e1 with e1 e2
  exact⟨⟨e1,e2⟩,cw⟩
 obtain⟨rfl,rfl⟩:=hgo
 have hg1:(m.L t).ownBlock=some g:=by rw[hLt]; rfl
 have hcell: ∀j x,l[j]? =some x→m.w.drew.cell? ((⟨g,0,none⟩:Addr).add j)=some (.int .u8 x.toNat):=fun j x hx=>by
  obtain⟨_,hC⟩:=dE.get hR j (hL x) (by simp [hx])
  simp only[hL,ff,aR]at hC
  obtain⟨⟨_,cI,_,_,rfl⟩,_⟩:=hC
  have:m.w.drew.cell? ⟨g,0+j*1,none⟩=some (.int .u8 x.toNat):=cI
  rw[Nat.zero_add,Nat.mul_one]at this
  unfold Addr.add
  by_cases hj:j=0
  ·subst hj; exact this
  ·rw[if_neg hj]; show m.w.drew.cell? ⟨g,0+j,none⟩= _; rw[Nat.zero_add]; exact this
 have c1:m.w.drew.cell? ⟨b,1,none⟩=some (.slice (some ⟨g,0,none⟩) l.length cap):=by
  show m.w.cell? ⟨b,1,none⟩= _
  simp [World.cell?,g1,hv1]
 refine (aI2 L X b g cap cur l m.w c1 h0 hg hnc hmax hcs hcell).mono ?_
 rintro e w' ⟨rfl,rfl⟩
 have hf:(m.w.drew.freeze ⟨g,0,none⟩ l.length)={m.w.drew with heap:=m.w.heap.modify g fun
   | .cells c elem (cz,ai)=> .cells c elem (if cz==ai then (0,0+l.length) else (min cz 0,max ai (0+l.length)))
   |o=>o}:=by
  unfold World.freeze
  rw[if_neg hl0]
  rfl
 have pb: ∀k,k≠g→(m.w.drew.freeze ⟨g,0,none⟩ l.length).heap[k]? =m.w.heap[k]? :=fun k hk=>by
  rw[hf]
  simp only[Array.getElem?_modify]
  rw[if_neg (fun e=>hk e.symm)]
 have O3: ∀k o,(m.w.drew.freeze ⟨g,0,none⟩ l.length).cell? ⟨k,o,none⟩=m.w.cell? ⟨k,o,none⟩:=fun k o=>by
  by_cases e:k=g
  ·subst e
   rw[hf]
   have hg':m.w.heap[k]? =some (.cells cur (ρ.t 5) (0,0)):=hg
   simp [World.cell?,Array.getElem?_modify,hg']
  ·exact World.cell?_of_block (a:=⟨k,o,none⟩) (pb k e)
 have gw:(m.w.drew.freeze ⟨g,0,none⟩ l.length).heap.size=m.w.heap.size:=by rw[hf]; simp
 have cI:(m.w.drew.freeze ⟨g,0,none⟩ l.length).os=m.w.os:=by rw[hf]; rfl
 have c8:(m.w.drew.freeze ⟨g,0,none⟩ l.length).tape=m.w.tape:=by rw[hf]; rfl
 have ep:(m.w.drew.freeze ⟨g,0,none⟩ l.length).output=m.w.output:=by rw[hf]; rfl
 exact⟨.ret (.str l),_,_,m.T,b5.vk rh aO hg1 cI c8 ep gw pb O3,b0.vk aO hg1 cI c8 ep gw pb O3,⟨_,rfl,by simp only[aR]; exact⟨trivial,by omega⟩⟩,rfl,rfl⟩
end
end Go.bc
namespace Go.bc
open Go Go.Proofs Go.Shelf Go.RowKit
variable {P:Program}{ρ:Ren}{c:a1}
def BP (b:Nat):I→Bool
 | .dQ (.pointer none)=>true
 | .ptr b' 0=>b'==b
 | _=>false
theorem Wd (L:Lays.n240 P ρ) (X:Builder.X72 P ρ){T:TypeId}{b:Nat}{a:I}{cs:List I}(hl:liesAt P P.depth T ((cs.length+1)/P.cellsOf T) 0 (ρ.t 72) 1=true) (hb:c.H.aU b=some (T,a::cs)) (aP:BP b a=true):bz P (ρ.f 240) [.ptr b 0] c (nw (.di []) (c.ch b T (.ptr b 0::cs))):=by
 intro H0 s xs' H hv ag
 simp only[bs,aN]at hv
 obtain⟨_,_,rfl,⟨x,hx,rfl⟩,rfl⟩:=hv
 obtain⟨y,cs',g1,g2,g3⟩:=ag.aU _ _ _ hb
 rw[hx]at g1
 cases g1
 have hlen:=bs.length g3
 simp only[bs]at g3
 obtain⟨a',cs',rfl,h1,h2⟩:=g3
 have hok:a'= .dQ (.pointer none)∨a'= .ptr x 0:=by
  unfold BP at aP
  split at aP
  ·left; simpa only[aN] using h1
  ·right
   simp only[beq_iff_eq]at aP
   subst aP
   simp only[aN]at h1
   obtain⟨z,e1,e2⟩:=h1
   rw[hx]at e1
   cases e1
   exact e2
  ·cases aP
 simp only[List.length_cons]at hlen
 refine (Wc L X (by rw[show cs'.length=cs.length by omega]; exact hl) g2 hok).mono fun o H' ⟨e1,e2⟩=> ?_
 subst e1 e2
 refine⟨.ret (.di []),_,by exact eI.refl _,HSub.refl _,s,.ret (.di []),_,bt.et.refl s,⟨rfl,rfl⟩,by simp only[mQ,aN,bs]; exact⟨_,rfl,rfl⟩,ag.ch hx ?_⟩
 simp only[bs,aN]
 exact⟨_,_,rfl,⟨x,hx,rfl⟩,h2⟩
theorem Hy {s:bt}: ∀(l:List UInt8) (r:List (List I)),cn s (l.map hL) r→r=l.map hL
 |[],_,h=>by simp only[List.map_nil,cn]at h; exact h
 |x::l,_,h=>by
  simp only[List.map_cons,cn,hL,bs,aN]at h
  obtain⟨_,_,rfl,⟨_,_,rfl,rfl,rfl⟩,h⟩:=h
  rw[Hy l _ h]
  rfl
theorem aI1 (L:Lays.n169 P ρ) (X:Builder.Extra P ρ){T:TypeId}{b t:Nat}{cs:List I}{l:List UInt8}(hb:c.H.aU b=some (T,cs)) (hc:cs[1]? =some (.own t 1 (l.map hL))) (aO:c.H.tok t=some (.bJ (ρ.t 5) 1 l.length)) (h0:l≠[]):
  bz P (ρ.f 169) [.ptr b 0] c (nw (.str l) (c.cA t (.bS (ρ.t 5) 1 (l.length+1) []))):=by
 intro H0 s xs' H hv ag
 simp only[bs,aN]at hv
 obtain⟨_,_,rfl,⟨x,hx,rfl⟩,rfl⟩:=hv
 obtain⟨y,cs',g1,g2,g3⟩:=ag.aU _ _ _ hb
 rw[hx]at g1
 cases g1
 obtain⟨z,i',k1,k2,k3⟩:=ag.tok _ _ aO
 obtain⟨e1,e2,cw,fq,lB⟩:=k3
 obtain⟨v,hv1,hv2⟩:=bs.get g3 1 _ hc
 simp only[aN]at hv2
 obtain⟨z',r',cI,rfl,ep⟩:=hv2
 rw[k1]at cI
 cases cI
 have hr':=Hy _ _ ep
 subst hr'
 have ai:i'= .bJ (ρ.t 5) 1 l.length:=by
  obtain⟨i1,i2,i3,i4,i5⟩:=i'
  simp only[b2.bJ]at e1 e2 cw fq lB ⊢
  subst e1 e2 cw fq lB
  rfl
 subst ai
 refine (aI0 L X g2 hv1 k2 h0).mono fun o H' ⟨e1,e2⟩=> ?_
 subst e1 e2
 exact⟨.ret (.str l),_,by exact eI.refl _,HSub.refl _,s,.ret (.str l),_,bt.et.refl s,⟨rfl,rfl⟩,by simp only[mQ,aN],ag.cA k1 ⟨rfl,rfl,rfl,rfl,[],rfl,by simp only[cn]⟩⟩
end Go.bc
namespace Go.bc
open Go Go.Proofs Go.Shelf Go.RowKit
variable {P:Program}{ρ:Ren}
set_option maxHeartbeats 1000000 in
theorem aG8 (L:Lays.n146 P ρ) (hi9:(P.info? (ρ.t 9)).map (fun i=>(i.zero,i.size,i.bytes))=some (some (.string ByteArray.empty),1,16)) (s:ByteArray) (b:UInt8) (w:World) (ap:s.size<4294967281):
  Calls P (ρ.f 146) #[.string s,.string ⟨#[b]⟩] w fun e w'=>
   e= .returned (.slice (some ⟨w.heap.size,0,none⟩) (Lib.countB s ⟨#[b]⟩+1) (Lib.countB s ⟨#[b]⟩+1))∧w'=w.alloc (.cells ((Lib.splitB ⟨#[b]⟩ 0 (Lib.countB s ⟨#[b]⟩) s).map Value.string).toArray (ρ.t 9)):=by
 have h1:1≤(⟨#[b]⟩:ByteArray).size:=Nat.le_refl _
 have hle:=Lib.countB_le ⟨#[b]⟩ h1 s.size s (Nat.le_refl _)
 have hlen:=Lib.splitB_all ⟨#[b]⟩ h1 0 _ s rfl
 have hC: ∀w,Calls P (ρ.f 138) #[.string s,.string ⟨#[b]⟩] w fun e w'=>e= .returned (.int .i64 (Lib.countB s ⟨#[b]⟩))∧w'=w:=fun w=>by
  refine (Any.strings_Count_one {L with} s b w).mono fun e w' ⟨he,hw⟩=>⟨?_,hw⟩
  rw[he]
  show _=Ending.returned (Value.int .i64 ((Lib.count s.data.toList [b]:Nat):Int))
  rw[Lib.count_one]
  rfl
 have hI: ∀(x:ByteArray) (w:World),Calls P (ρ.f 143) #[.string x,.string ⟨#[b]⟩] w fun e w'=>e= .returned (.int .i64 (Lib.indexB x ⟨#[b]⟩))∧w'=w:=fun x w=>by
  refine (Any.strings_Index_one {L with} x b w).mono fun e w' ⟨he,hw⟩=>⟨?_,hw⟩
  rw[he]
  show _=Ending.returned (Value.int .i64 (Lib.index x.data.toList [b]))
  rw[Lib.index_one]
 have c:=Any.strings_genSplit_core {L with} hi9 s ⟨#[b]⟩ 0 (-1) (Lib.countB s ⟨#[b]⟩+1) w ap h1 (Nat.zero_le _) (fun x c hx=>hI x _) (hC w) (by decide) (by decide) (by rw[if_pos (by decide)]; omega)
 rw[Nat.add_sub_cancel,hlen]at c
 have e2:Lib.cellsOf (Lib.splitB ⟨#[b]⟩ 0 (Lib.countB s ⟨#[b]⟩) s) (Lib.countB s ⟨#[b]⟩+1)=((Lib.splitB ⟨#[b]⟩ 0 (Lib.countB s ⟨#[b]⟩) s).map Value.string).toArray:=by rw[←hlen]; exact Lib.cellsOf_full _
 rw[e2]at c
 have t3:=L.t3; have t9:=L.t9; have t31:=L.t31
 have a3:=L.a3; have a9:=L.a9; have a31:=L.a31
 have z3:=L.z3; have v3:=L.v3; have z9:=L.z9; have v9:=L.v9; have z31:=L.z31; have v31:=L.v31
 have e221: ∀args w,(callFunc (ρ.f 221) args).run P w= .ok (.enter (ρ.f 221) args) w:=enters_of L.f221 (by kernel_rfl) rfl
 go_enter L.f146,Body.n146_ntmps ρ
 go_wp2_with (go_at_fn (ρ.f 221); refine c.mono ?_; rintro e w' ⟨rfl,hw⟩; rw[hw])
 go_ret
 exact⟨rfl,rfl⟩
end Go.bc
namespace Go.bc
open Go Go.Proofs Go.Shelf Go.RowKit
variable {P:Program}{ρ:Ren}{H:aA}{c:a1}
theorem Yg (L:Lays8.n4 P ρ){i0:TypeInfo}{z:Value}(hi0:P.info? (ρ.t 25)=some i0) (hz0:i0.zero=some z) (hs0:0<i0.size) (pT:z.cells.size=i0.size){n:Nat}(h0:0<n) (hb:n*i0.bytes≤140737488355328) (hn:n≤4611686018427387904):
  jr P (ρ.f 4) [.aV,.int .i64 n] H fun o H'=> ∃t,H.tok t=none∧o= .ret (.own t i0.size [])∧H'=H.cA t (.bJ (ρ.t 25) i0.size 0):=by
 intro m ay hH rh hv
 subst hH
 simp only[aS,aR]at hv
 obtain⟨_,_,rfl,rfl,_,_,rfl,rfl,rfl⟩:=hv
 refine (Any8.slices_Grow_grow L i0 z hi0 hz0 hs0 none 0 0 n [] m.w (Nat.le_refl _) (by omega) (by simpa using hb) (by omega) (by simp) (fun _=>rfl) (fun a h=>by cases h)).mono ?_
 rintro e w' ⟨rfl,rfl⟩
 simp only[Nat.zero_add,Nat.sub_zero]
 have hge:=grownCap_ge m.w n 0 (ρ.t 25)
 have hle:=grownCap_le_maxLen m.w n 0 (ρ.t 25) (by unfold maxLen; omega)
 generalize grownCap m.w n 0 (ρ.t 25)=cap at hge hle
 generalize hob:Obj.cells ([].toArray++Builtin.zeroCells z.cells n++Builtin.zeroCells z.cells (cap-n)) (ρ.t 25)=ob
 have hnew:(m.w.drew.alloc ob).heap[m.w.heap.size]? =some ob:=vs m.w ob
 have hv: ∀b,(Value.slice (some ⟨m.w.heap.size,0,none⟩) 0 cap).ownBlock=some b→m.w.heap.size≤b:=fun b e=>by simp [Value.ownBlock]at e; omega
 have r:=b5.bF rh (w':=m.w.drew.alloc ob) (v:= .slice (some ⟨m.w.heap.size,0,none⟩) 0 cap) (o:= .bJ (ρ.t 25) i0.size 0) rfl rfl rfl (by rw[show (m.w.drew.alloc ob).heap.size=m.w.drew.heap.size+1 by simp]; exact Nat.le_succ _) (fun b hb=>sW m.w ob b hb) hv (by simp [b2.bJ]; omega)
  ⟨[],⟨by simp [b2.bJ,b2.len],.inr ⟨m.w.heap.size,cap,[].toArray++Builtin.zeroCells z.cells n++Builtin.zeroCells z.cells (cap-n),rfl,Nat.zero_le _,by rw[hnew,←hob]; rfl,Nat.zero_le _,hle,by
   simp only[Array.size_append,x9,pT,b2.bJ]
   simp only[List.size_toArray,List.length_nil,Nat.zero_add]
   rw[←Nat.add_mul]
   congr 1
   omega,by simp [b2.len,b2.bJ]⟩⟩,fun _ h=>by cases h⟩
 have e:=b0.bF rh (w':=m.w.drew.alloc ob) (v:= .slice (some ⟨m.w.heap.size,0,none⟩) 0 cap) (o:= .bJ (ρ.t 25) i0.size 0) rfl rfl rfl (by rw[show (m.w.drew.alloc ob).heap.size=m.w.drew.heap.size+1 by simp]; exact Nat.le_succ _) (fun b hb=>sW m.w ob b hb) hv
 exact⟨.ret (.own m.T i0.size []),_,_,_,r,e,⟨_,rfl,NW r (i:= .bJ (ρ.t 25) i0.size 0) (by simp [Mem.bF,aA.cA]) (by simp [Mem.bF]) ⟨_,cap,rfl,hle⟩ rfl rfl⟩,m.T,uS rh,rfl,rfl⟩
theorem La (L:Lays8.n4 P ρ){i0:TypeInfo}{z:Value}(hi0:P.info? (ρ.t 25)=some i0) (hz0:i0.zero=some z) (hs0:0<i0.size) (pT:z.cells.size=i0.size){n:Nat}(h0:0<n) (hb:n*i0.bytes≤140737488355328) (hn:n≤4611686018427387904):
  bz P (ρ.f 4) [.aV,.int .i64 n] c (nw (.own c.bF i0.size []) (c.ig (.bJ (ρ.t 25) i0.size 0))):=by
 intro H0 s xs' H hv ag
 simp only[bs,aN]at hv
 obtain⟨_,_,rfl,rfl,_,_,rfl,rfl,rfl⟩:=hv
 refine (Yg L hi0 hz0 hs0 pT h0 hb hn).mono fun o H' ⟨t,e0,e1,e2⟩=> ?_
 subst e1 e2
 refine⟨.ret (.own t i0.size []),_,by exact eI.refl _,HSub.refl _,⟨s.b,s.t++[t]⟩,.ret (.own c.bF i0.size []),_,bt.l0 s t,⟨rfl,rfl⟩,?_,ag.ig iV.bJ e0⟩
 simp only[mQ,aN,cn]
 exact⟨t,[],by rw[ag.bF]; exact pz,rfl,rfl⟩
theorem K7 (L:Lays8.n4 P ρ):bz P (ρ.f 4) [.aV,.int .i64 0] c (nw .aV c):=by
 intro H0 s xs' H hv ag
 simp only[bs,aN]at hv
 obtain⟨_,_,rfl,rfl,_,_,rfl,rfl,rfl⟩:=hv
 have:jr P (ρ.f 4) [.aV,.int .i64 0] H fun o H'=>o= .ret .aV∧H'=H:=by
  intro m ay hH rh hv
  subst hH
  simp only[aS,aR]at hv
  obtain⟨_,_,rfl,rfl,_,_,rfl,rfl,rfl⟩:=hv
  refine (Any8.slices_Grow_room L none 0 0 0 m.w (Nat.le_refl _) (by omega) (by omega) (by omega)).mono ?_
  rintro e w' ⟨rfl,rfl⟩
  exact⟨.ret .aV,m.H,m.L,m.T,rh,b0.refl m,⟨_,rfl,by simp only[aR]⟩,rfl,rfl⟩
 refine this.mono fun o H' ⟨e1,e2⟩=> ?_
 subst e1 e2
 exact⟨.ret .aV,_,by exact eI.refl _,HSub.refl _,s,.ret .aV,c,bt.et.refl s,⟨rfl,rfl⟩,by simp only[mQ,aN],ag⟩
end Go.bc
namespace Go.bc
open Go
inductive ad where
 |mk (kind:Int) (op name text:List UInt8) (n:Int) (args:List ad)
mutual
def ad.row:ad→List I
 | .mk k o m t n l=>[.int .i64 k,.str o,.str m,.str t,.int .i64 n,.ay 6 (ad.rows l)]
def ad.rows:List ad→List (List I)
 |[]=>[]
 |x::l=>x.row::ad.rows l
end
theorem ad.l8: ∀l:List ad,ad.rows l=l.map ad.row
 |[]=>rfl
 |x::l=>by simp only[ad.rows,List.map_cons,ad.l8 l]
inductive ac where
 |mk (kind:Int) (name:List UInt8) (expr:ad) (times:Int) (body els:List ac)
mutual
def ac.row:ac→List I
 | .mk k m x t a b=>[.int .i64 k,.str m]++x.row++[.int .i64 t,.ay 11 (ac.rows a),.ay 11 (ac.rows b)]
def ac.rows:List ac→List (List I)
 |[]=>[]
 |x::l=>x.row::ac.rows l
end
theorem ac.l8: ∀l:List ac,ac.rows l=l.map ac.row
 |[]=>rfl
 |x::l=>by simp only[ac.rows,List.map_cons,ac.l8 l]
def sy (n:Int):Prop:=(Lit.int .i64 n).wf=true
mutual
def ad.ok (R:Nat):ad→Prop
 | .mk k o m t n l=>sy k∧o.length≤R∧m.length≤R∧t.length≤R∧sy n∧l.length*88≤R∧ad.lk R l
def ad.lk (R:Nat):List ad→Prop
 |[]=>True
 |x::l=>x.ok R∧ad.lk R l
end
theorem ad.r9 {R:Nat}: ∀ {l:List ad},(∀x∈l,x.ok R)→ad.lk R l
 |[],_=>trivial
 |x::l,h=>⟨h x (by simp),ad.r9 fun y hy=>h y (by simp [hy])⟩
theorem ad.qU {R:Nat}: ∀ {l:List ad}{i:Nat}{x:ad},ad.lk R l→l[i]? =some x→x.ok R
 |y::l,0,x,h,e=>by simp at e; subst e; exact h.1
 |y::l,i+1,x,h,e=>ad.qU (l:=l) (i:=i) h.2 (by simpa using e)
 |[],_,_,_,e=>by simp at e
mutual
def ac.ok (R:Nat):ac→Prop
 | .mk k m x t a b=>sy k∧m.length≤R∧x.ok R∧sy t∧a.length*168≤R∧b.length*168≤R∧ac.lk R a∧ac.lk R b
def ac.lk (R:Nat):List ac→Prop
 |[]=>True
 |x::l=>x.ok R∧ac.lk R l
end
theorem ac.r9 {R:Nat}: ∀ {l:List ac},(∀x∈l,x.ok R)→ac.lk R l
 |[],_=>trivial
 |x::l,h=>⟨h x (by simp),ac.r9 fun y hy=>h y (by simp [hy])⟩
theorem ac.qU {R:Nat}: ∀ {l:List ac}{i:Nat}{x:ac},ac.lk R l→l[i]? =some x→x.ok R
 |y::l,0,x,h,e=>by simp at e; subst e; exact h.1
 |y::l,i+1,x,h,e=>ac.qU (l:=l) (i:=i) h.2 (by simpa using e)
 |[],_,_,_,e=>by simp at e
theorem qP {α:Type}{f:α→List I}{p:α→Prop}: ∀ {rows:List (List I)},(∀r∈rows,∃x,r=f x∧p x)→∃l:List α,rows=l.map f∧∀x∈l,p x
 |[],_=>⟨[],rfl,fun _ h=>by simp at h⟩
 |r::rows,h=>by
  obtain⟨x,rfl,hx⟩:=h r (by simp)
  obtain⟨l,rfl,hl⟩:=qP (rows:=rows) (f:=f) (p:=p) fun r ag=>h r (List.mem_cons_of_mem _ ag)
  exact⟨x::l,rfl,fun y hy=>by
   rcases List.mem_cons.1 hy with rfl|hy
   ·exact hx
   ·exact hl y hy⟩
section
variable {P:Program}{E:List TypeId}{R:Nat}{te ts:TypeId}
theorem D0 (c4:lK P E 8 te=some [.ey (.i .i64),.ey .s,.ey .s,.ey .s,.ey (.i .i64),.io te]) (hc:P.cellsOf te=6) (hb:P.bytesOf te=88): ∀(n:Nat) (r:List I),ov P E R n te r→∃x:ad,r=x.row∧x.ok R
 |0,_,h=>h.elim
 |n+1,r,h=>by
  obtain⟨ks,h1,h2⟩:=h
  rw[c4]at h1
  cases h1
  simp only[jW,iq.ok,hc,hb]at h2
  obtain⟨_,_,rfl,⟨k,rfl,w1⟩,_,_,rfl,⟨o,rfl,w2⟩,_,_,rfl,⟨m,rfl,w3⟩,_,_,rfl,⟨t,rfl,w4⟩,_,_,rfl,⟨i,rfl,w5⟩,_,_,rfl,⟨rows,rfl,w6,h3⟩,rfl⟩:=h2
  obtain⟨l,rfl,hl⟩:=qP (f:=ad.row) (p:=ad.ok R) fun r hm=>D0 c4 hc hb n r (h3 r hm)
  exact⟨.mk k o m t i l,by simp only[ad.row,ad.l8],w1,w2,w3,w4,w5,by simpa using w6,ad.r9 hl⟩
theorem Gc (c4:lK P E 8 te=some [.ey (.i .i64),.ey .s,.ey .s,.ey .s,.ey (.i .i64),.io te]) (hc:P.cellsOf te=6) (hb:P.bytesOf te=88)
  (hS:lK P E 8 ts=some [.ey (.i .i64),.ey .s,.ey (.i .i64),.ey .s,.ey .s,.ey .s,.ey (.i .i64),.io te,.ey (.i .i64),.io ts,.io ts]) (ap:P.cellsOf ts=11) (hsb:P.bytesOf ts=168): ∀(n:Nat) (r:List I),ov P E R n ts r→∃x:ac,r=x.row∧x.ok R
 |0,_,h=>h.elim
 |n+1,r,h=>by
  obtain⟨ks,h1,h2⟩:=h
  rw[hS]at h1
  cases h1
  simp only[jW,iq.ok,hc,ap,hb,hsb]at h2
  obtain⟨_,_,rfl,⟨k,rfl,w1⟩,_,_,rfl,⟨nm,rfl,w2⟩,_,_,rfl,⟨k2,rfl,v1⟩,_,_,rfl,⟨o,rfl,v2⟩,_,_,rfl,⟨m,rfl,v3⟩,_,_,rfl,⟨t,rfl,v4⟩,_,_,rfl,⟨i,rfl,v5⟩,_,_,rfl,⟨rows,rfl,v6,h3⟩,_,_,rfl,⟨cy,rfl,w3⟩,_,_,rfl,⟨ra,rfl,w4,h4⟩,_,_,rfl,⟨rb,rfl,w5,h5⟩,rfl⟩:=h2
  obtain⟨l,rfl,hl⟩:=qP (f:=ad.row) (p:=ad.ok R) fun r hm=>D0 c4 hc hb n r (h3 r hm)
  obtain⟨la,rfl,aP⟩:=qP (f:=ac.row) (p:=ac.ok R) fun r hm=>Gc c4 hc hb hS ap hsb n r (h4 r hm)
  obtain⟨lb,rfl,hb'⟩:=qP (f:=ac.row) (p:=ac.ok R) fun r hm=>Gc c4 hc hb hS ap hsb n r (h5 r hm)
  exact⟨.mk k nm (.mk k2 o m t i l) cy la lb,by simp only[ac.row,ad.row,ad.l8,ac.l8,List.cons_append,List.nil_append],w1,w2,⟨v1,v2,v3,v4,v5,by simpa using v6,ad.r9 hl⟩,w3,by simpa using w4,by simpa using w5,ac.r9 aP,ac.r9 hb'⟩
end
end Go.bc
namespace Go.bc
open Go
def eL {α:Type}(e:α→α→Bool):List α→List α→Bool
 |[],[]=>true
 |x::l,y::l'=>e x y&&eL e l l'
 | _,_=>false
theorem KJ {α:Type}{e:α→α→Bool}: ∀ {a b:List α},eL e a b=true→a.length=b.length
 |[],[],_=>rfl
 |x::l,y::l',h=>by
  simp only[eL,Bool.and_eq_true]at h
  simp [KJ h.2]
 |[],_:: _,h=>by simp [eL]at h
 | _:: _,[],h=>by simp [eL]at h
theorem pK {α:Type}{e:α→α→Bool}{a b:List α}(h:a.length≠b.length):eL e a b=false:=by
 cases h':eL e a b with
 |false=>rfl
 |true=>exact absurd (KJ h') h
theorem oT {α:Type}{e:α→α→Bool}: ∀ {i:Nat}{a b:List α}{x y:α},a[i]? =some x→b[i]? =some y→eL e (a.drop i) (b.drop i)=(e x y&&eL e (a.drop (i+1)) (b.drop (i+1)))
 |0,x::l,y::l',_,_,h,k=>by simp at h k; subst h k; simp [eL]
 |i+1,x::l,y::l',_,_,h,k=>by
  simp only[List.drop_succ_cons]
  exact oT (by simpa using h) (by simpa using k)
 |0,[],_,_,_,h,_=>by simp at h
 |i+1,[],_,_,_,h,_=>by simp at h
 |0,_:: _,[],_,_,_,k=>by simp at k
 |i+1,_:: _,[],_,_,_,k=>by simp at k
theorem pJ {α:Type}{e:α→α→Bool}{i:Nat}{a b:List α}(h:a.length≤i) (k:b.length≤i):eL e (a.drop i) (b.drop i)=true:=by
 rw[List.drop_eq_nil_of_le h,List.drop_eq_nil_of_le k]
 rfl
mutual
def nF:ad→ad→Bool
 | .mk k o m t n l,.mk k' o' m' t' n' l'=>decide (k=k')&&(decide (o=o')&&(decide (m=m')&&(decide (t=t')&&(decide (n=n')&&lW l l'))))
def lW:List ad→List ad→Bool
 |[],[]=>true
 |x::l,y::l'=>nF x y&&lW l l'
 | _,_=>false
end
theorem AY: ∀a b:List ad,lW a b=eL nF a b
 |[],[]=>rfl
 |x::l,y::l'=>by simp only[lW,eL,AY l l']
 |[],_:: _=>rfl
 | _:: _,[]=>rfl
mutual
def q3:ac→ac→Bool
 | .mk k m x t a b,.mk k' m' x' t' a' b'=>decide (k=k')&&(decide (m=m')&&(decide (t=t')&&(nF x x'&&(mH a a'&&mH b b'))))
def mH:List ac→List ac→Bool
 |[],[]=>true
 |x::l,y::l'=>q3 x y&&mH l l'
 | _,_=>false
end
theorem Ct: ∀a b:List ac,mH a b=eL q3 a b
 |[],[]=>rfl
 |x::l,y::l'=>by simp only[mH,eL,Ct l l']
 |[],_:: _=>rfl
 | _:: _,[]=>rfl
mutual
theorem KP: ∀x:ad,nF x x=true
 | .mk k o m t n l=>by simp [nF,DJ l]
theorem DJ: ∀l:List ad,lW l l=true
 |[]=>rfl
 |x::l=>by simp [lW,KP x,DJ l]
end
mutual
theorem aH5: ∀x:ac,q3 x x=true
 | .mk k m x t a b=>by simp [q3,KP x,Cu a,Cu b]
theorem Cu: ∀l:List ac,mH l l=true
 |[]=>rfl
 |x::l=>by simp [mH,aH5 x,Cu l]
end
theorem DG {α:Type}{e:α→α→Bool}(h: ∀x,e x x=true): ∀l:List α,eL e l l=true
 |[]=>rfl
 |x::l=>by simp [eL,h x,DG h l]
structure cb where
 name:List UInt8
 hV:Int
 cz:Int
 ai:Int
 ik:Int
 n:Int
 s:List UInt8
deriving DecidableEq
def cb.row (v:cb):List I:=[.str v.name,.int .i64 v.hV,.int .i64 v.cz,.int .i64 v.ai,.int .i64 v.ik,.int .i64 v.n,.str v.s]
structure cd where
 eK:List UInt8
 peer:List UInt8
 ps:List (List UInt8)
 body:List ac
def cj (s:List UInt8):List I:=[.str s]
def cd.row (h:cd):List I:=[.str h.eK,.str h.peer,.ay 1 (h.ps.map cj),.ay 11 (ac.rows h.body)]
structure ca where
 eK:List UInt8
 peer:List UInt8
 args:List ad
 dT:List ad
def ca.row (o:ca):List I:=[.str o.eK,.str o.peer,.ay 6 (ad.rows o.args),.ay 6 (ad.rows o.dT)]
structure e9 where
 name:List UInt8
 hD:List UInt8
 hA:List UInt8
 vars:List cb
 ap:List cd
 os:List ca
def e9.cells (x:e9):List I:=[.str x.name,.str x.hD,.str x.hA,.ay 7 (x.vars.map cb.row),.ay 4 (x.ap.map cd.row),.ay 4 (x.os.map ca.row)]
def e9.ir (x:e9):I:= .agg x.cells
def qE (a b:cd):Bool:=decide (a.eK=b.eK)&&(decide (a.peer=b.peer)&&(decide (a.ps=b.ps)&&mH a.body b.body))
def qT (a b:ca):Bool:=decide (a.eK=b.eK)&&(decide (a.peer=b.peer)&&(lW a.args b.args&&lW a.dT b.dT))
def xR (x y:e9):Bool:=decide (x.name=y.name)&&(decide (x.hD=y.hD)&&(decide (x.hA=y.hA)&&(decide (x.vars=y.vars)&&(eL qE x.ap y.ap&&eL qT x.os y.os))))
theorem YB (a:cd):qE a a=true:=by simp [qE,Cu]
theorem aj8 (a:ca):qT a a=true:=by simp [qT,DJ]
theorem R4 (x:e9):xR x x=true:=by simp [xR,DG YB,DG aj8]
theorem yA {α:Type}[DecidableEq α]: ∀a b:List α,eL (fun x y=>decide (x=y)) a b=decide (a=b)
 |[],[]=>by simp [eL]
 |x::l,y::l'=>by simp [eL,yA l l',Bool.decide_and]
 |[],_:: _=>by simp [eL]
 | _:: _,[]=>by simp [eL]
mutual
def ad.bI:ad→Nat
 | .mk _ _ _ _ _ l=>1+ad.bB l
def ad.bB:List ad→Nat
 |[]=>0
 |x::l=>x.bI+ad.bB l
end
mutual
def ac.bI:ac→Nat
 | .mk _ _ x _ a b=>1+x.bI+ac.bB a+ac.bB b
def ac.bB:List ac→Nat
 |[]=>0
 |x::l=>x.bI+ac.bB l
end
theorem ad.CX {l:List ad}{i:Nat}{x:ad}(h:l[i]? =some x):ad.bB (l.take (i+1))=ad.bB (l.take i)+x.bI:=by
 rw[List.take_add_one,h]
 induction l.take i with
 |nil=>simp [ad.bB]
 |cons y l ih=>simp only[List.cons_append,ad.bB,ih]; omega
theorem ac.CX {l:List ac}{i:Nat}{x:ac}(h:l[i]? =some x):ac.bB (l.take (i+1))=ac.bB (l.take i)+x.bI:=by
 rw[List.take_add_one,h]
 induction l.take i with
 |nil=>simp [ac.bB]
 |cons y l ih=>simp only[List.cons_append,ac.bB,ih]; omega
mutual
theorem ad.z7: ∀x:ad,x.bI+4≤iI x.row
 | .mk k o m t n l=>by
  have:=ad.sA l
  simp only[ad.bI,ad.row,iI,I.oJ]
  omega
theorem ad.sA: ∀l:List ad,ad.bB l≤pd (ad.rows l)
 |[]=>by simp [ad.bB]
 |x::l=>by
  have:=ad.z7 x
  have:=ad.sA l
  simp only[ad.bB,ad.rows,pd]
  omega
end
mutual
theorem ac.z7: ∀x:ac,x.bI≤iI x.row
 | .mk k m x t a b=>by
  have:=ac.sA a
  have:=ac.sA b
  have:=ad.z7 x
  simp only[ac.bI,ac.row,Df,iI,I.oJ]
  omega
theorem ac.sA: ∀l:List ac,ac.bB l≤pd (ac.rows l)
 |[]=>by simp [ac.bB]
 |x::l=>by
  have:=ac.z7 x
  have:=ac.sA l
  simp only[ac.bB,ac.rows,pd]
  omega
end
theorem ad.lh {l:List ad}{i:Nat}{x:ad}(h:l[i]? =some x):x.bI≤ad.bB l:=by
 have h1:=ad.CX h
 have h2:ad.bB (l.take (i+1))≤ad.bB l:=by
  conv=>rhs; rw[←List.take_append_drop (i+1) l]
  induction l.take (i+1) with
  |nil=>simp [ad.bB]
  |cons y l ih=>simp only[List.cons_append,ad.bB]; omega
 omega
theorem ac.lh {l:List ac}{i:Nat}{x:ac}(h:l[i]? =some x):x.bI≤ac.bB l:=by
 have h1:=ac.CX h
 have h2:ac.bB (l.take (i+1))≤ac.bB l:=by
  conv=>rhs; rw[←List.take_append_drop (i+1) l]
  induction l.take (i+1) with
  |nil=>simp [ac.bB]
  |cons y l ih=>simp only[List.cons_append,ac.bB]; omega
 omega
theorem ad.hZ: ∀l:List ad,l.length≤ad.bB l
 |[]=>by simp
 |x::l=>by
  have:=ad.hZ l
  have:1≤x.bI:=by cases x; simp [ad.bI]
  simp only[List.length_cons,ad.bB]
  omega
theorem ac.hZ: ∀l:List ac,l.length≤ac.bB l
 |[]=>by simp
 |x::l=>by
  have:=ac.hZ l
  have:1≤x.bI:=by cases x; simp [ac.bI]; omega
  simp only[List.length_cons,ac.bB]
  omega
mutual
theorem ad.de: ∀x:ad,b3 x.row=true
 | .mk k o m t n l=>by simp only[ad.row,b3,I.flat,ad.q1 l,Bool.and_self]
theorem ad.q1: ∀l:List ad,fP (ad.rows l)=true
 |[]=>rfl
 |x::l=>by simp only[ad.rows,fP,ad.de x,ad.q1 l,Bool.and_self]
end
theorem KX: ∀(a b:List I),b3 (a++b)=(b3 a&&b3 b)
 |[],b=>by simp [b3]
 |x::a,b=>by simp only[List.cons_append,b3,KX a b,Bool.and_assoc]
mutual
theorem ac.de: ∀x:ac,b3 x.row=true
 | .mk k m x t a b=>by simp only[ac.row,KX,b3,I.flat,ad.de x,ac.q1 a,ac.q1 b,Bool.and_self]
theorem ac.q1: ∀l:List ac,fP (ac.rows l)=true
 |[]=>rfl
 |x::l=>by simp only[ac.rows,fP,ac.de x,ac.q1 l,Bool.and_self]
end
mutual
def ad.am:ad→Int
 | .mk _ _ _ _ _ l=>ad.iH l (l.length:Int)
def ad.iH:List ad→Int→Int
 |[],n=>n
 |x::l,n=>ad.iH l (IntKind.i64.wrap (n+x.am))
end
mutual
def ac.am:ac→Int
 | .mk _ _ x _ a b=>IntKind.i64.wrap (IntKind.i64.wrap (IntKind.i64.wrap (1+x.am)+ac.iH a (a.length:Int))+ac.iH b (b.length:Int))
def ac.iH:List ac→Int→Int
 |[],n=>n
 |x::l,n=>ac.iH l (IntKind.i64.wrap (n+x.am))
end
def rF:List cd→Int→Option Int
 |[],n=>some n
 |h::l,n=>if 60<h.ps.length then none else rF l (IntKind.i64.wrap (n+ac.iH h.body (h.body.length:Int)))
def rR:List ca→Int→Int
 |[],n=>n
 |o::l,n=>rR l (IntKind.i64.wrap (n+IntKind.i64.wrap (ad.iH o.args (o.args.length:Int)+ad.iH o.dT (o.dT.length:Int))))
def ti (x:e9):Bool:=match rF x.ap 0 with
 |none=>false
 |some n=>decide (rR x.os n≤500)&&(decide (x.vars.length≤60)&&(decide (x.ap.length≤60)&&decide (x.os.length≤60)))
theorem iM {α:Type}{l:List α}{i:Nat}{v:α}(h:l[i]? =some v):l.drop i=v::l.drop (i+1):=by
 obtain⟨h3,e⟩:=List.getElem?_eq_some_iff.1 h
 rw[List.drop_eq_getElem_cons h3,e]
theorem zx {α β:Type}(f:α→β){l:List α}{i:Nat}{v:α}(h:l[i]? =some v):(l.take (i+1)).map f=(l.take i).map f++[f v]:=by
 rw[List.take_add_one,h]; simp
theorem ad.ct (k:Int) (o m t:List UInt8) (n:Int) (l:List ad):(ad.mk k o m t n l).row=[.int .i64 k,.str o,.str m,.str t,.int .i64 n,.ay 6 (l.map ad.row)]:=by rw[ad.row,ad.l8]
theorem ac.ct (k:Int) (m:List UInt8) (x:ad) (t:Int) (a b:List ac):(ac.mk k m x t a b).row=[.int .i64 k,.str m]++x.row++[.int .i64 t,.ay 11 (a.map ac.row),.ay 11 (b.map ac.row)]:=by rw[ac.row,ac.l8,ac.l8]
theorem ad.b9 (l:List ad):fP (l.map ad.row)=true:=by rw[←ad.l8]; exact ad.q1 l
theorem ac.b9 (l:List ac):fP (l.map ac.row)=true:=by rw[←ac.l8]; exact ac.q1 l
def cb.ok (R:Nat) (v:cb):Prop:=(v.name.length≤R∧v.s.length≤R)∧sy v.hV∧sy v.cz∧sy v.ai∧sy v.ik∧sy v.n
def cd.ok (R:Nat) (h:cd):Prop:=h.eK.length≤R∧h.peer.length≤R∧h.ps.length*16≤R∧(∀s∈h.ps,s.length≤R)∧h.body.length*168≤R∧ac.lk R h.body
def ca.ok (R:Nat) (o:ca):Prop:=o.eK.length≤R∧o.peer.length≤R∧o.args.length*88≤R∧ad.lk R o.args∧o.dT.length*88≤R∧ad.lk R o.dT
structure e9.ok (R:Nat) (x:e9):Prop where
 name:x.name.length≤R
 hD:x.hD.length≤R
 hA:x.hA.length≤R
 nS:x.vars.length*72≤R
 vars: ∀v∈x.vars,v.ok R
 nh:x.ap.length*80≤R
 ap: ∀h∈x.ap,h.ok R
 no:x.os.length*80≤R
 os: ∀o∈x.os,o.ok R
end Go.bc
namespace Go.bc.T.N
open Go Go.bc Go.Proofs Go.RowKit
theorem nv.below {w w':World}(h:nv w){n:Nat}(hn:w.heap.size≤n) (hb:Below n w w'):nv w':=fun p hp=>by
 obtain⟨ob,h1,h2⟩:=h p hp
 exact⟨ob,(hb.block p.1 (Nat.lt_of_lt_of_le (Array.getElem?_eq_some_iff.1 h1).1 hn)).trans h1,h2⟩
theorem uH {P:Program}{f:FuncId}{args:List I}{r:I}(h: ∀(m:Mem) (ay:List Value),nv m.w→aS m args ay→Calls P f ⟨ay⟩ m.w fun e w'=> ∃v,e= .returned v∧(∀m',aR m' r v)∧Below m.w.heap.size m.w w'):Pure P f args r:=by
 intro H m ay hH rh hv
 subst hH
 refine (h m ay rh.kH hv).mono fun e w' ⟨v,e1,e2,hb⟩=> ?_
 exact⟨.ret r,m.H,m.L,m.T,b5.hid rh hb.os hb.tape hb.output hb.size hb.block,b0.hid hb.os hb.tape hb.output hb.size hb.block,⟨v,e1,e2 _⟩,rfl,rfl⟩
theorem yw {u:Nat}(h: ¬u<10):Lib.decDigits u=Lib.decDigits (u/10)++[UInt8.ofNat (48+u%10)]:=by rw[Lib.decDigits,dif_neg h]
theorem wK {u:Nat}(h:u<10):Lib.decDigits u=[UInt8.ofNat (48+u)]:=by rw[Lib.decDigits,dif_pos h]
theorem It (u:Nat):(Lib.decDigits u).length≤u+1:=by
 induction u using Nat.strongRecOn with
 |ind u ih=>
  by_cases h:u<10
  ·rw[wK h]; simp
  ·rw[yw h]
   have:=ih (u/10) (by omega)
   rw[List.length_append,List.length_cons,List.length_nil]
   omega
theorem vB {z:Int}(h0: -1000000000≤z) (h1:z≤1000000000):(Lib.itoa z).length≤1000000002:=by
 unfold Lib.itoa
 split
 ·have:=It z.natAbs; simp only[List.length_cons]; omega
 ·have:=It z.toNat; omega
theorem Tz (w:World) (q:Nat) (os:Array Obj):Below w.heap.size w (Go.Sort.grow (w.drewN q) os):=
 ⟨rfl,rfl,rfl,by simp [Go.Sort.grow,World.drewN],fun i ai=>by
  show ((w.drewN q).heap++os)[i]? = _
  rw[Array.getElem?_append_left (by exact ai)]
  rfl⟩
theorem A8:Tryz.prog.globalNamed "internal/strconv.uint64pow10" =some 1:=by kernel_rfl
theorem X7 {w:World}(hG:nv w):Lib.TabIs Tryz.prog w "internal/strconv.uint64pow10" .u64 Lib.pow10Tab:=by
 obtain⟨ob,h1,T,pM,h2⟩:=hG (1,_) (by simp only[yH]; exact List.mem_cons_self)
 subst h2
 simp only at h1
 unfold Lib.TabIs World.var?
 rw[A8]
 simp only[Option.bind_some,h1]
 rfl
theorem zq (n:Int) (h0: -1000000000≤n) (h1:n≤1000000000):Pure Tryz.prog 123 [.int .i64 n] (.str (Lib.itoa n)):=by
 refine uH fun m ay hG hv=> ?_
 simp only[aS,aR]at hv
 obtain⟨_,_,rfl,rfl,rfl⟩:=hv
 refine (Any.strconv_Itoa Tryz.af7 n (by omega) (by omega) m.w (X7 hG)).mono ?_
 rintro e w' ⟨rfl,q,os,rfl⟩
 have hl:=vB h0 h1
 exact⟨_,rfl,fun m'=>by simp only[aR]; exact⟨trivial,by unfold maxLen; omega⟩,Tz m.w q os⟩
theorem al7 (n:Nat) (hn:n≤1000000):Pure Tryz.prog 177 [.str [9],.int .i64 (n:Int)] (.str (List.replicate n 9)):=by
 refine uH fun m ay hG hv=> ?_
 simp only[aS,aR]at hv
 obtain⟨v1,t1,rfl,h1,v2,t2,rfl,h2,rfl⟩:=hv
 obtain⟨h1,_⟩:=h1
 subst h1
 subst h2
 refine (Any.strings_Repeat Tryz.af0 Tryz.XG ⟨⟨[9]⟩⟩ n m.w (by omega) (by simp [ByteArray.size]; omega)).mono ?_
 rintro e w' ⟨rfl,hb⟩
 refine⟨_,rfl,fun m'=> ?_,hb⟩
 have e:=Go.Lib.repeatL_replicate 9 1 n
 rw[Nat.mul_one]at e
 simp only[aR]
 refine⟨?_,by simp [maxLen]; omega⟩
 change Value.string ⟨(Go.Lib.repeatL (List.replicate 1 9) n).toArray⟩= _
 rw[e]
theorem RM {m:Mem}: ∀ {xs:List (List UInt8)}{b o:Nat},dE m 1 (xs.map cj) b o→∀(j:Nat) x,xs[j]? =some x→m.w.cell? ⟨b,o+j,none⟩=some (.string ⟨⟨x⟩⟩)∧b<m.w.heap.size
 |[],_,_,_,j,x,hx=>by simp at hx
 |s::xs,b,o,h,j,x,hx=>by
  simp only[List.map_cons,cj,dE,ff,aR]at h
  obtain⟨_,⟨⟨v,h1,h2,h3,rfl,_⟩,_⟩,h4⟩:=h
  cases j with
  |zero=>simp at hx; subst hx; exact⟨h1,h3.lt⟩
  |succ j=>
   have:=RM h4 j x (by simpa using hx)
   rw[show o+1+j=o+(j+1) by omega]at this
   exact this
theorem NX (xs:List (List UInt8)) (sep:List UInt8) (hN:xs.length≤1000000) (hlen:(Lib.join xs sep).length≤1000000000):Pure Tryz.prog 125 [.ay 1 (xs.map cj),.str sep] (.str (Lib.join xs sep)):=by
 refine uH fun m ay hG h=> ?_
 simp only[aS,aR]at h
 obtain⟨_,_,rfl,⟨a,len,cap,rfl,rfl,⟨hc1,hc2⟩,hcase⟩,_,_,rfl,⟨rfl,_⟩,rfl⟩:=h
 rw[List.length_map]at hcase hc1 ⊢
 have fin: ∀m':Mem,aR m' (.str (Lib.join xs sep)) (.string ⟨⟨Lib.join xs sep⟩⟩):=fun m'=>by simp only[aR]; exact⟨trivial,by unfold maxLen; omega⟩
 rcases hcase with h0|⟨b,o,rfl,hR⟩
 ·have hx:xs=[]:=List.length_eq_zero_iff.1 h0
  subst hx
  refine (Any.strings_Join_none Tryz.y9 Tryz.yB a cap ⟨⟨sep⟩⟩ m.w).mono ?_
  rintro e w' ⟨rfl,rfl⟩
  exact⟨_,rfl,fin,Below.refl _ _⟩
 ·by_cases h0:xs.length=0
  ·have hx:xs=[]:=List.length_eq_zero_iff.1 h0
   subst hx
   refine (Any.strings_Join_none Tryz.y9 Tryz.yB _ cap ⟨⟨sep⟩⟩ m.w).mono ?_
   rintro e w' ⟨rfl,rfl⟩
   exact⟨_,rfl,fin,Below.refl _ _⟩
  ·have hcells:=RM hR
   have hx0:=List.getElem?_eq_getElem (l:=xs) (i:=0) (by omega)
   have ej:(xs.map fun s=>(⟨⟨s⟩⟩:ByteArray)).map (·.data.toList)=xs:=by
    rw[List.map_map]
    exact (List.map_congr_left (fun _ _=>rfl)).trans (List.map_id xs)
   have:=Any.strings_Join Tryz.y9 Tryz.yB b o cap (xs.map fun s=>⟨⟨s⟩⟩) ⟨⟨sep⟩⟩ m.w (fun j x hx=>by
    rw[List.getElem?_map,Option.map_eq_some_iff]at hx
    obtain⟨y,hy,rfl⟩:=hx
    exact (hcells j y hy).1) (hcells 0 _ hx0).2 (by simp; omega) (by simpa using hc1) (by rw[ej]; show (Lib.join xs sep).length≤ _; omega)
   rw[ej,List.length_map]at this
   refine this.mono ?_
   rintro e w' ⟨rfl,hb⟩
   exact⟨_,rfl,fin,hb⟩
theorem al0 (s:List UInt8) (r:Int) (h0:0≤r) (h1:r<128):Pure Tryz.prog 144 [.str s,.int .i32 r] (.bool (decide (0≤Lib.indexByte s r.toNat.toUInt8))):=by
 refine uH fun m ay hG hv=> ?_
 simp only[aS,aR]at hv
 obtain⟨_,_,rfl,⟨rfl,_⟩,_,_,rfl,rfl,rfl⟩:=hv
 refine (Any.strings_ContainsRune_ascii Tryz.EI ⟨⟨s⟩⟩ r m.w h0 h1).mono ?_
 rintro e w' ⟨rfl,rfl⟩
 exact⟨_,rfl,fun m'=>by simp only[aR],Below.refl _ _⟩
theorem al3 (s:List UInt8) (c:UInt8):Pure Tryz.prog 147 [.str s,.str [c]] (.bool (decide (0≤Lib.indexByte s c))):=by
 refine uH fun m ay hG hv=> ?_
 simp only[aS,aR]at hv
 obtain⟨_,_,rfl,⟨rfl,_⟩,_,_,rfl,⟨rfl,_⟩,rfl⟩:=hv
 refine (Any.strings_Contains_one Tryz.af1 ⟨⟨s⟩⟩ c m.w).mono ?_
 rintro e w' ⟨rfl,rfl⟩
 exact⟨_,rfl,fun m'=>by simp only[aR],Below.refl _ _⟩
theorem al2 (s:List UInt8) (c:Int):Pure Tryz.prog 146 [.str s,.int .u8 c] (.int .i64 (Lib.indexByte s c.toNat.toUInt8)):=by
 refine uH fun m ay hG hv=> ?_
 simp only[aS,aR]at hv
 obtain⟨_,_,rfl,⟨rfl,_⟩,_,_,rfl,rfl,rfl⟩:=hv
 refine (Any.strings_IndexByte {Tryz.EI with} ⟨⟨s⟩⟩ c m.w).mono ?_
 rintro e w' ⟨rfl,rfl⟩
 exact⟨_,rfl,fun m'=>by simp only[aR],Below.refl _ _⟩
def pG:ByteArray:=⟨#[46]⟩
def sf (s:List UInt8):List (List UInt8):=(Lib.splitB pG 0 (Lib.countB ⟨⟨s⟩⟩ pG) ⟨⟨s⟩⟩).map (·.data.toList)
theorem RW (sep:ByteArray): ∀(k:Nat) (s:ByteArray),∀x∈Lib.splitB sep 0 k s,x.size≤s.size
 |0,s,x,h=>by rw[Lib.splitB_zero]at h; simp at h; subst h; exact Nat.le_refl _
 |k+1,s,x,h=>by
  unfold Lib.splitB at h
  split at h
  ·simp at h; subst h; exact Nat.le_refl _
  ·rcases List.mem_cons.1 h with rfl|h
   ·rw[ByteArray.size_extract]; omega
   ·have:=RW sep k _ x h
    rw[ByteArray.size_extract]at this
    omega
theorem al6 (s:List UInt8) (ap:s.length≤1000):Pure Tryz.prog 166 [.str s,.str [46]] (.ay 1 ((sf s).map cj)):=by
 intro H m ay hH rh hv
 subst hH
 simp only[aS,aR]at hv
 obtain⟨_,_,rfl,⟨rfl,_⟩,_,_,rfl,⟨rfl,_⟩,rfl⟩:=hv
 refine (aG8 Tryz.af3 (by kernel_rfl) ⟨⟨s⟩⟩ 46 m.w (by show s.length< _; omega)).mono ?_
 rintro e w' ⟨rfl,rfl⟩
 have hlen:=Lib.splitB_all pG (Nat.le_refl _) 0 _ ⟨⟨s⟩⟩ rfl
 have hn:(sf s).length=Lib.countB ⟨⟨s⟩⟩ pG+1:=by rw[sf,List.length_map,hlen]
 have hle:=Lib.countB_le pG (Nat.le_refl _) s.length ⟨⟨s⟩⟩ (Nat.le_refl _)
 have hcl:(⟨⟨s⟩⟩:ByteArray).size=s.length:=rfl
 refine⟨.ret (.ay 1 ((sf s).map cj)),m.H,m.L,m.T,rh.alloc _,b0.alloc m _,⟨_,rfl,?_⟩,rfl,rfl⟩
 have hnew:(m.w.alloc (.cells ((Lib.splitB ⟨#[46]⟩ 0 (Lib.countB ⟨⟨s⟩⟩ ⟨#[46]⟩) ⟨⟨s⟩⟩).map Value.string).toArray (Tryz.BG.t 9))).heap[m.w.heap.size]? =some (.cells ((Lib.splitB ⟨#[46]⟩ 0 (Lib.countB ⟨⟨s⟩⟩ ⟨#[46]⟩) ⟨⟨s⟩⟩).map Value.string).toArray (Tryz.BG.t 9)):=vz m.w _
 simp only[aR]
 refine⟨_,_,_,rfl,by rw[List.length_map]; exact hn.symm,⟨Nat.le_refl _,by unfold maxLen; have:Lib.countB ⟨⟨s⟩⟩ ⟨#[46]⟩=Lib.countB ⟨⟨s⟩⟩ pG:=rfl; omega⟩,.inr ⟨m.w.heap.size,0,rfl,?_⟩⟩
 refine dE.of (l:=(Lib.splitB ⟨#[46]⟩ 0 (Lib.countB ⟨⟨s⟩⟩ ⟨#[46]⟩) ⟨⟨s⟩⟩).map Value.string) (fun r ag=>by obtain⟨x,_,rfl⟩:=List.mem_map.1 ag; rfl) ?_ fun j v hj=>⟨?_,?_,?_,wB rh,fun t i aO hb=> ?_⟩
 ·have key: ∀(l:List ByteArray),(∀x∈l,x.size≤s.length)→aS ⟨m.w.alloc (.cells ((Lib.splitB ⟨#[46]⟩ 0 (Lib.countB ⟨⟨s⟩⟩ ⟨#[46]⟩) ⟨⟨s⟩⟩).map Value.string).toArray (Tryz.BG.t 9)),m.H,m.L,m.T⟩ ((l.map (·.data.toList)).map cj).flatten (l.map Value.string):=by
   intro l
   induction l with
   |nil=>intro _; simp [aS]
   |cons x l ih=>
    intro h
    simp only[List.map_cons,List.flatten_cons,cj,List.cons_append,List.nil_append,aS,aR]
    refine⟨_,_,rfl,⟨rfl,?_⟩,ih fun y hy=>h y (List.mem_cons_of_mem _ hy)⟩
    have:x.size≤s.length:=h x List.mem_cons_self
    show x.data.toList.length≤maxLen
    have e:x.data.toList.length=x.size:=rfl
    rw[e]; unfold maxLen; omega
  exact key _ fun x hx=>RW _ _ _ x hx
 ·rw[Nat.zero_add]
  simp only[World.cell?,hnew]
  simpa using hj
 ·obtain⟨x,_,rfl⟩:=List.mem_map.1 (List.mem_of_getElem? hj)
  rfl
 ·exact (Array.getElem?_eq_some_iff.1 hnew).1
 ·exact absurd (uR rh aO hb) (Nat.lt_irrefl _)
end Go.bc.T.N
namespace Go.bc.T.N
open Go Go.bc Go.Proofs
theorem Ii (caps:List I) (hc:caps.length=3):Ab Tryz.prog 31 caps:=by
 intro m ay rh hv
 have hl:=aS.length hv
 match ay,hl with
 |[p,q,r],_=>
  refine (aa4 p q r m.w).mono ?_
  rintro e u' w' ⟨rfl,rfl,h1,h2,h3,h4,h5⟩
  exact⟨⟨_,rfl⟩,rfl,m.L,m.T,b5.hid rh h1 h2 h3 (by omega) h5,b0.hid h1 h2 h3 (by omega) h5⟩
 |[],h=>simp [hc]at h
 |[_],h=>simp [hc]at h
 |[_,_],h=>simp [hc]at h
 | _:: _:: _:: _:: _,h=>simp [hc]at h
end Go.bc.T.N
