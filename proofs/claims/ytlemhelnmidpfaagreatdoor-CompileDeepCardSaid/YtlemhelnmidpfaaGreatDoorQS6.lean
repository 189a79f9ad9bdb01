/- Part of a proof; own work. -/
import Derived.Below
import Derived.KernelRfl
import Derived.Shelf.SlGeneric
import Derived.Ground.NamesProg
import Derived.Ground.Names8Prog
import Derived.Shelf.Strconv.Itoa3
import Derived.Shelf.Strings.Repeat
import Derived.Shelf.Strings.Split
import Derived.Shelf.Strings.OnBuilder
import Derived.Shelf.Strings.Search3
import Derived.Shelf.Strings.Count
import Derived.Shelf.Strings.Runes
import Derived.Shelf.Strings.BuilderK
import Derived.Shelf.Spec.SlicesGrow
import Derived.Test.YtlemhelnmidpfaaGreatDoorProg
import Derived.Shelf.Strings.Builder1
import Derived.Test.YtlemhelnmidpfaaGreatDoorQS5
set_option linter.unusedVariables false
set_option linter.unusedSimpArgs false
set_option maxRecDepth 100000
namespace Go.Proofs
open Go.Shelf
def Tryz.aA1:Go.Shelf.Ren:=⟨fun|171=>217|243=>310|246=>362|283=>389|284=>390|285=>391|286=>392|129=>287|317=>405|318=>406|319=>407|320=>408|337=>411|338=>412|n=>n,fun|3=>3|9=>9|2=>2|4=>4|171=>451|0=>0|53=>365|37=>65|5=>5|173=>453|212=>461|51=>363|20=>20|213=>462|46=>281|232=>468|233=>469|n=>n,fun|17=>0|18=>4|19=>5|n=>n⟩
theorem Tryz.aA0:Go.Proofs.LaysM.n171 Tryz.prog Tryz.aA1:={
 mixed:=by kernel_rfl
 f129:=Tryz.func287.trans (congrArg some (by kernel_rfl))
 f171:=Tryz.func217.trans (congrArg some (by kernel_rfl))
 f243:=Tryz.func310.trans (congrArg some (by kernel_rfl))
 f246:=Tryz.func362.trans (congrArg some (by kernel_rfl))
 f283:=Tryz.func389.trans (congrArg some (by kernel_rfl))
 f284:=Tryz.func390.trans (congrArg some (by kernel_rfl))
 f285:=Tryz.func391.trans (congrArg some (by kernel_rfl))
 f286:=Tryz.func392.trans (congrArg some (by kernel_rfl))
 f317:=Tryz.func405.trans (congrArg some (by kernel_rfl))
 f318:=Tryz.func406.trans (congrArg some (by kernel_rfl))
 f319:=Tryz.func407.trans (congrArg some (by kernel_rfl))
 f320:=Tryz.func408.trans (congrArg some (by kernel_rfl))
 f337:=Tryz.func411.trans (congrArg some (by kernel_rfl))
 f338:=Tryz.func412.trans (congrArg some (by kernel_rfl))
 t0:=Tryz.underlying0
 a0:=Tryz.isAgg0
 z0:=Tryz.sizeOf0
 v0:=Tryz.zeroValue0
 t2:=Tryz.underlying2
 a2:=Tryz.isAgg2
 z2:=Tryz.sizeOf2
 v2:=Tryz.zeroValue2
 t3:=Tryz.underlying3
 a3:=Tryz.isAgg3
 z3:=Tryz.sizeOf3
 v3:=Tryz.zeroValue3
 t4:=Tryz.underlying4
 a4:=Tryz.isAgg4
 z4:=Tryz.sizeOf4
 v4:=Tryz.zeroValue4
 t5:=Tryz.underlying5
 a5:=Tryz.isAgg5
 z5:=Tryz.sizeOf5
 v5:=Tryz.zeroValue5
 t9:=Tryz.underlying9
 a9:=Tryz.isAgg9
 z9:=Tryz.sizeOf9
 v9:=Tryz.zeroValue9
 t20:=Tryz.underlying20
 a20:=Tryz.isAgg20
 z20:=Tryz.sizeOf20
 v20:=Tryz.zeroValue20
 t37:=Tryz.underlying65
 a37:=Tryz.isAgg65
 z37:=Tryz.sizeOf65
 v37:=Tryz.zeroValue65
 t46:=Tryz.underlying281
 a46:=Tryz.isAgg281
 z46:=Tryz.sizeOf281
 v46:=Tryz.zeroValue281
 t51:=Tryz.underlying363
 a51:=Tryz.isAgg363
 z51:=Tryz.sizeOf363
 v51:=Tryz.zeroValue363
 t53:=Tryz.underlying365
 a53:=Tryz.isAgg365
 z53:=Tryz.sizeOf365
 v53:=Tryz.zeroValue365
 t171:=Tryz.underlying451
 a171:=Tryz.isAgg451
 z171:=Tryz.sizeOf451
 v171:=Tryz.zeroValue451
 t173:=Tryz.underlying453
 a173:=Tryz.isAgg453
 z173:=Tryz.sizeOf453
 v173:=Tryz.zeroValue453
 t212:=Tryz.underlying461
 a212:=Tryz.isAgg461
 z212:=Tryz.sizeOf461
 v212:=Tryz.zeroValue461
 t213:=Tryz.underlying462
 a213:=Tryz.isAgg462
 z213:=Tryz.sizeOf462
 t232:=Tryz.underlying468
 a232:=Tryz.isAgg468
 z232:=Tryz.sizeOf468
 v232:=Tryz.zeroValue468
 t233:=Tryz.underlying469
 a233:=Tryz.isAgg469
 z233:=Tryz.sizeOf469
 v233:=Tryz.zeroValue469
 g17:=by kernel_rfl
 g18:=by kernel_rfl
 g19:=by kernel_rfl
 i0:=by kernel_rfl
 i2:=by kernel_rfl
 i3:=by kernel_rfl
 i4:=by kernel_rfl
 i5:=by kernel_rfl
 i9:=by kernel_rfl
 i20:=by kernel_rfl
 i37:=by kernel_rfl
 i46:=by kernel_rfl
 i51:=by kernel_rfl
 i53:=by kernel_rfl
 i171:=by kernel_rfl
 i173:=by kernel_rfl
 i212:=by kernel_rfl
 i232:=by kernel_rfl
 i233:=by kernel_rfl
 m17:=by kernel_rfl
 m18:=by kernel_rfl
 m19:=by kernel_rfl}
def Tryz.Ex:Go.Shelf.Ren:=⟨fun|146=>297|221=>357|268=>386|138=>387|143=>371|195=>402|197=>403|218=>404|219=>398|260=>410|217=>370|225=>396|224=>395|267=>409|266=>397|314=>413|n=>n,fun|9=>9|31=>27|3=>3|4=>4|0=>0|105=>459|21=>21|5=>5|46=>281|119=>464|139=>467|138=>466|146=>440|51=>363|n=>n,fun|1=>1|3=>2|4=>3|n=>n⟩
theorem Tryz.az7:Go.Proofs.Lays.n146 Tryz.prog Tryz.Ex:={
 mixed:=by kernel_rfl
 f138:=Tryz.func387.trans (congrArg some (by kernel_rfl))
 f143:=Tryz.func371.trans (congrArg some (by kernel_rfl))
 f146:=Tryz.func297.trans (congrArg some (by kernel_rfl))
 f195:=Tryz.func402.trans (congrArg some (by kernel_rfl))
 f197:=Tryz.func403.trans (congrArg some (by kernel_rfl))
 f217:=Tryz.func370.trans (congrArg some (by kernel_rfl))
 f218:=Tryz.func404.trans (congrArg some (by kernel_rfl))
 f219:=Tryz.func398.trans (congrArg some (by kernel_rfl))
 f221:=Tryz.func357.trans (congrArg some (by kernel_rfl))
 f224:=Tryz.func395.trans (congrArg some (by kernel_rfl))
 f225:=Tryz.func396.trans (congrArg some (by kernel_rfl))
 f260:=Tryz.func410.trans (congrArg some (by kernel_rfl))
 f266:=Tryz.func397.trans (congrArg some (by kernel_rfl))
 f267:=Tryz.func409.trans (congrArg some (by kernel_rfl))
 f268:=Tryz.func386.trans (congrArg some (by kernel_rfl))
 f314:=Tryz.func413.trans (congrArg some (by kernel_rfl))
 t0:=Tryz.underlying0
 a0:=Tryz.isAgg0
 z0:=Tryz.sizeOf0
 v0:=Tryz.zeroValue0
 t3:=Tryz.underlying3
 a3:=Tryz.isAgg3
 z3:=Tryz.sizeOf3
 v3:=Tryz.zeroValue3
 t4:=Tryz.underlying4
 a4:=Tryz.isAgg4
 z4:=Tryz.sizeOf4
 v4:=Tryz.zeroValue4
 t5:=Tryz.underlying5
 a5:=Tryz.isAgg5
 z5:=Tryz.sizeOf5
 v5:=Tryz.zeroValue5
 t9:=Tryz.underlying9
 a9:=Tryz.isAgg9
 z9:=Tryz.sizeOf9
 v9:=Tryz.zeroValue9
 t21:=Tryz.underlying21
 a21:=Tryz.isAgg21
 z21:=Tryz.sizeOf21
 v21:=Tryz.zeroValue21
 t31:=Tryz.underlying27
 a31:=Tryz.isAgg27
 z31:=Tryz.sizeOf27
 v31:=Tryz.zeroValue27
 t46:=Tryz.underlying281
 a46:=Tryz.isAgg281
 z46:=Tryz.sizeOf281
 v46:=Tryz.zeroValue281
 t51:=Tryz.underlying363
 a51:=Tryz.isAgg363
 z51:=Tryz.sizeOf363
 v51:=Tryz.zeroValue363
 t105:=Tryz.underlying459
 a105:=Tryz.isAgg459
 z105:=Tryz.sizeOf459
 v105:=Tryz.zeroValue459
 t119:=Tryz.underlying464
 a119:=Tryz.isAgg464
 z119:=Tryz.sizeOf464
 t138:=Tryz.underlying466
 a138:=Tryz.isAgg466
 z138:=Tryz.sizeOf466
 v138:=Tryz.zeroValue466
 t139:=Tryz.underlying467
 a139:=Tryz.isAgg467
 z139:=Tryz.sizeOf467
 v139:=Tryz.zeroValue467
 t146:=Tryz.underlying440
 a146:=Tryz.isAgg440
 z146:=Tryz.sizeOf440
 v146:=Tryz.zeroValue440
 g1:=by kernel_rfl
 g3:=by kernel_rfl
 g4:=by kernel_rfl}
def Tryz.Qg:Go.Shelf.Ren:=⟨fun|105=>308|212=>340|99=>324|165=>312|166=>307|170=>361|169=>223|263=>381|264=>382|206=>369|240=>360|241=>363|276=>388|277=>393|n=>n,fun|9=>9|3=>3|4=>4|20=>20|0=>0|46=>281|109=>403|5=>5|72=>302|76=>377|51=>363|146=>440|53=>365|148=>442|70=>300|37=>65|75=>376|127=>382|164=>449|80=>310|n=>n,fun|n=>n⟩
theorem Tryz.az6:Go.Proofs.Lays.n105 Tryz.prog Tryz.Qg:={
 mixed:=by kernel_rfl
 f99:=Tryz.func324.trans (congrArg some (by kernel_rfl))
 f105:=Tryz.func308.trans (congrArg some (by kernel_rfl))
 f165:=Tryz.func312.trans (congrArg some (by kernel_rfl))
 f166:=Tryz.func307.trans (congrArg some (by kernel_rfl))
 f169:=Tryz.func223.trans (congrArg some (by kernel_rfl))
 f170:=Tryz.func361.trans (congrArg some (by kernel_rfl))
 f206:=Tryz.func369.trans (congrArg some (by kernel_rfl))
 f212:=Tryz.func340.trans (congrArg some (by kernel_rfl))
 f240:=Tryz.func360.trans (congrArg some (by kernel_rfl))
 f241:=Tryz.func363.trans (congrArg some (by kernel_rfl))
 f263:=Tryz.func381.trans (congrArg some (by kernel_rfl))
 f264:=Tryz.func382.trans (congrArg some (by kernel_rfl))
 f276:=Tryz.func388.trans (congrArg some (by kernel_rfl))
 f277:=Tryz.func393.trans (congrArg some (by kernel_rfl))
 t0:=Tryz.underlying0
 a0:=Tryz.isAgg0
 z0:=Tryz.sizeOf0
 v0:=Tryz.zeroValue0
 t3:=Tryz.underlying3
 a3:=Tryz.isAgg3
 z3:=Tryz.sizeOf3
 v3:=Tryz.zeroValue3
 t4:=Tryz.underlying4
 a4:=Tryz.isAgg4
 z4:=Tryz.sizeOf4
 v4:=Tryz.zeroValue4
 t5:=Tryz.underlying5
 a5:=Tryz.isAgg5
 z5:=Tryz.sizeOf5
 v5:=Tryz.zeroValue5
 t9:=Tryz.underlying9
 a9:=Tryz.isAgg9
 z9:=Tryz.sizeOf9
 v9:=Tryz.zeroValue9
 t20:=Tryz.underlying20
 a20:=Tryz.isAgg20
 z20:=Tryz.sizeOf20
 v20:=Tryz.zeroValue20
 t37:=Tryz.underlying65
 a37:=Tryz.isAgg65
 z37:=Tryz.sizeOf65
 v37:=Tryz.zeroValue65
 t46:=Tryz.underlying281
 a46:=Tryz.isAgg281
 z46:=Tryz.sizeOf281
 v46:=Tryz.zeroValue281
 t51:=Tryz.underlying363
 a51:=Tryz.isAgg363
 z51:=Tryz.sizeOf363
 v51:=Tryz.zeroValue363
 t53:=Tryz.underlying365
 a53:=Tryz.isAgg365
 z53:=Tryz.sizeOf365
 v53:=Tryz.zeroValue365
 t70:=Tryz.underlying300
 a70:=Tryz.isAgg300
 z70:=Tryz.sizeOf300
 v70:=Tryz.zeroValue300
 t72:=Tryz.underlying302
 a72:=Tryz.isAgg302
 z72:=Tryz.sizeOf302
 v72:=Tryz.zeroValue302
 t75:=Tryz.underlying376
 a75:=Tryz.isAgg376
 z75:=Tryz.sizeOf376
 v75:=Tryz.zeroValue376
 t76:=Tryz.underlying377
 a76:=Tryz.isAgg377
 z76:=Tryz.sizeOf377
 v76:=Tryz.zeroValue377
 t109:=Tryz.underlying403
 a109:=Tryz.isAgg403
 z109:=Tryz.sizeOf403
 v109:=Tryz.zeroValue403
 t127:=Tryz.underlying382
 a127:=Tryz.isAgg382
 z127:=Tryz.sizeOf382
 v127:=Tryz.zeroValue382
 t146:=Tryz.underlying440
 a146:=Tryz.isAgg440
 z146:=Tryz.sizeOf440
 v146:=Tryz.zeroValue440
 t148:=Tryz.underlying442
 a148:=Tryz.isAgg442
 z148:=Tryz.sizeOf442
 v148:=Tryz.zeroValue442
 t164:=Tryz.underlying449
 a164:=Tryz.isAgg449
 z164:=Tryz.sizeOf449
 v164:=Tryz.zeroValue449}
def Tryz.B4:Go.Shelf.Ren:=⟨fun|156=>219|165=>312|166=>307|169=>223|240=>360|241=>363|276=>388|277=>393|n=>n,fun|31=>27|9=>9|3=>3|4=>4|0=>0|20=>20|72=>302|76=>377|70=>300|37=>65|75=>376|127=>382|164=>449|5=>5|80=>310|n=>n,fun|n=>n⟩
theorem Tryz.B3:Go.Proofs.Lays.n156 Tryz.prog Tryz.B4:={
 mixed:=by kernel_rfl
 f156:=Tryz.func219.trans (congrArg some (by kernel_rfl))
 f165:=Tryz.func312.trans (congrArg some (by kernel_rfl))
 f166:=Tryz.func307.trans (congrArg some (by kernel_rfl))
 f169:=Tryz.func223.trans (congrArg some (by kernel_rfl))
 f240:=Tryz.func360.trans (congrArg some (by kernel_rfl))
 f241:=Tryz.func363.trans (congrArg some (by kernel_rfl))
 f276:=Tryz.func388.trans (congrArg some (by kernel_rfl))
 f277:=Tryz.func393.trans (congrArg some (by kernel_rfl))
 t0:=Tryz.underlying0
 a0:=Tryz.isAgg0
 z0:=Tryz.sizeOf0
 v0:=Tryz.zeroValue0
 t3:=Tryz.underlying3
 a3:=Tryz.isAgg3
 z3:=Tryz.sizeOf3
 v3:=Tryz.zeroValue3
 t4:=Tryz.underlying4
 a4:=Tryz.isAgg4
 z4:=Tryz.sizeOf4
 v4:=Tryz.zeroValue4
 t9:=Tryz.underlying9
 a9:=Tryz.isAgg9
 z9:=Tryz.sizeOf9
 v9:=Tryz.zeroValue9
 t20:=Tryz.underlying20
 a20:=Tryz.isAgg20
 z20:=Tryz.sizeOf20
 v20:=Tryz.zeroValue20
 t31:=Tryz.underlying27
 a31:=Tryz.isAgg27
 z31:=Tryz.sizeOf27
 v31:=Tryz.zeroValue27
 t37:=Tryz.underlying65
 a37:=Tryz.isAgg65
 z37:=Tryz.sizeOf65
 v37:=Tryz.zeroValue65
 t70:=Tryz.underlying300
 a70:=Tryz.isAgg300
 z70:=Tryz.sizeOf300
 v70:=Tryz.zeroValue300
 t72:=Tryz.underlying302
 a72:=Tryz.isAgg302
 z72:=Tryz.sizeOf302
 v72:=Tryz.zeroValue302
 t75:=Tryz.underlying376
 a75:=Tryz.isAgg376
 z75:=Tryz.sizeOf376
 v75:=Tryz.zeroValue376
 t76:=Tryz.underlying377
 a76:=Tryz.isAgg377
 z76:=Tryz.sizeOf377
 v76:=Tryz.zeroValue377
 t127:=Tryz.underlying382
 a127:=Tryz.isAgg382
 z127:=Tryz.sizeOf382
 v127:=Tryz.zeroValue382
 t164:=Tryz.underlying449
 a164:=Tryz.isAgg449
 z164:=Tryz.sizeOf449
 v164:=Tryz.zeroValue449}
def Tryz.ah6:Go.Shelf.Ren:=⟨fun|4=>303|n=>n,fun|22=>78|25=>80|3=>3|4=>4|9=>9|20=>20|0=>0|n=>n,fun|n=>n⟩
theorem Tryz.OW:Go.Proofs.Lays8.n4 Tryz.prog Tryz.ah6:={
 mixed:=by kernel_rfl
 f4:=⟨Tryz.f303.name,by decide,Tryz.func303.trans (congrArg some (by kernel_rfl))⟩
 t0:=Tryz.underlying0
 a0:=Tryz.isAgg0
 z0:=Tryz.sizeOf0
 v0:=Tryz.zeroValue0
 t3:=Tryz.underlying3
 a3:=Tryz.isAgg3
 z3:=Tryz.sizeOf3
 v3:=Tryz.zeroValue3
 t4:=Tryz.underlying4
 a4:=Tryz.isAgg4
 z4:=Tryz.sizeOf4
 v4:=Tryz.zeroValue4
 t9:=Tryz.underlying9
 a9:=Tryz.isAgg9
 z9:=Tryz.sizeOf9
 v9:=Tryz.zeroValue9
 t20:=Tryz.underlying20
 a20:=Tryz.isAgg20
 z20:=Tryz.sizeOf20
 v20:=Tryz.zeroValue20
 t22:=Tryz.underlying78
 a22:=Tryz.isAgg78
 z22:=Tryz.sizeOf78
 v22:=Tryz.zeroValue78}
def Tryz.ah7:Go.Shelf.Ren:=⟨fun|4=>355|n=>n,fun|22=>77|25=>82|3=>3|4=>4|9=>9|20=>20|0=>0|n=>n,fun|n=>n⟩
theorem Tryz.OX:Go.Proofs.Lays8.n4 Tryz.prog Tryz.ah7:={
 mixed:=by kernel_rfl
 f4:=⟨Tryz.f355.name,by decide,Tryz.func355.trans (congrArg some (by kernel_rfl))⟩
 t0:=Tryz.underlying0
 a0:=Tryz.isAgg0
 z0:=Tryz.sizeOf0
 v0:=Tryz.zeroValue0
 t3:=Tryz.underlying3
 a3:=Tryz.isAgg3
 z3:=Tryz.sizeOf3
 v3:=Tryz.zeroValue3
 t4:=Tryz.underlying4
 a4:=Tryz.isAgg4
 z4:=Tryz.sizeOf4
 v4:=Tryz.zeroValue4
 t9:=Tryz.underlying9
 a9:=Tryz.isAgg9
 z9:=Tryz.sizeOf9
 v9:=Tryz.zeroValue9
 t20:=Tryz.underlying20
 a20:=Tryz.isAgg20
 z20:=Tryz.sizeOf20
 v20:=Tryz.zeroValue20
 t22:=Tryz.underlying77
 a22:=Tryz.isAgg77
 z22:=Tryz.sizeOf77
 v22:=Tryz.zeroValue77}
theorem Tryz.az9:Go.Proofs.Lays.n240 Tryz.prog Tryz.B4:={Tryz.B3 with}
theorem Tryz.az8:Go.Proofs.Lays.n169 Tryz.prog Tryz.B4:={Tryz.B3 with}
theorem Tryz.Bb:Builder.Extra Tryz.prog Tryz.B4:={
 sizeBuilder:=by kernel_rfl
 liesBuilder:=by kernel_rfl
 t5:=Tryz.underlying5
 a5:=Tryz.isAgg5
 z5:=Tryz.sizeOf5
 v5:=Tryz.zeroValue5
 infoByte:=by kernel_rfl
 cellsByte:=by kernel_rfl
 sizeByte:=by kernel_rfl
 neB5:=by decide}
theorem Tryz.ae8:Builder.Extra Tryz.prog Tryz.Qg:={
 sizeBuilder:=by kernel_rfl
 liesBuilder:=by kernel_rfl
 t5:=Tryz.underlying5
 a5:=Tryz.isAgg5
 z5:=Tryz.sizeOf5
 v5:=Tryz.zeroValue5
 infoByte:=by kernel_rfl
 cellsByte:=by kernel_rfl
 sizeByte:=by kernel_rfl
 neB5:=by decide}
end Go.Proofs
namespace Go.aO
open Go Go.Proofs Go.Shelf Go.RowKit
variable {P:Program}{ρ:Ren}
set_option maxHeartbeats 1000000 in
set_option maxRecDepth 100000 in
theorem ZK (L:Lays.n240 P ρ) (X:Builder.X72 P ρ){T:TypeId}{n:Nat}(hn:0<n) (hl:liesAt P P.depth T (n/P.cellsOf T) 0 (ρ.t 72) 1=true) (b:Nat) (w:World) (h0:w.cell? ⟨b,0,none⟩=some (.pointer none)) (hsh:w.shape? b=some (T,n)) (hfz:w.frozen? ⟨b,0,none⟩=false):
  Calls P (ρ.f 240) #[.pointer (some ⟨b,0,none⟩)] w fun e w'=>e= .returned (.tuple #[])∧w'=w.setCell ⟨b,0,none⟩ (.pointer (some ⟨b,0,none⟩)):=by
 obtain⟨j,hj,hjs⟩:=Option.map_eq_some_iff.1 X.sizeBuilder
 have mixed:=L.mixed
 have t72:=L.t72; have a72:=L.a72; have z72:=L.z72; have v72:=L.v72; have u72:=run_underlying L.t72
 have t70:=L.t70; have a70:=L.a70; have z70:=L.z70; have v70:=L.v70; have u70:=run_underlying L.t70
 have t9:=L.t9; have a9:=L.a9; have z9:=L.z9; have v9:=L.v9; have u9:=run_underlying L.t9
 have t4:=L.t4; have a4:=L.a4; have z4:=L.z4; have v4:=L.v4; have u4:=run_underlying L.t4
 have t164:=L.t164; have a164:=L.a164; have z164:=L.z164; have v164:=L.v164; have J0:=run_underlying L.t164
 go_enter L.f240,Body.n240_ntmps ρ
 go_wp2
 rw[Lib.run_to_unsafe w ⟨b,0,none⟩ L.t70 L.t164 hj (by rw[hjs]; decide) hsh hn]
 simp only[Result.andThen]
 rw[Oper.upon_value]
 go_wp2
 rw[run_callFunc_extern L.f276 (by kernel_rfl) (by kernel_rfl) (by kernel_rfl) (e:=Extern.AbiNoEscape.same) (by kernel_rfl)]
 rw[Lib.run_noEscape]
 simp only[Result.andThen]
 rw[Oper.upon_value]
 go_wp2
 rw[Lib.run_from_unsafe w ⟨b,0,none⟩ L.t164 L.t70 hj hsh hl]
 simp only[Result.andThen]
 rw[Oper.upon_value]
 go_wp2
 go_end0
 exact⟨rfl,rfl⟩
set_option maxHeartbeats 1000000 in
set_option maxRecDepth 100000 in
theorem aY0 (L:Lays.n169 P ρ) (X:Builder.Extra P ρ) (b g cap:Nat) (cur:Array Value) (l:List UInt8) (w:World) (c1:w.drew.cell? ⟨b,1,none⟩=some (.slice (some ⟨g,0,none⟩) l.length cap)) (h0:l≠[]) (hg:w.drew.heap[g]? =some (.cells cur (ρ.t 5) (0,0))) (hnc:l.length≤cap) (hcm:cap≤maxLen) (hcs:cur.size=cap*1)
  (hcell: ∀j x,l[j]? =some x→w.drew.cell? ((⟨g,0,none⟩:Addr).add j)=some (.int .u8 x.toNat)):
  Calls P (ρ.f 169) #[.pointer (some ⟨b,0,none⟩)] w fun e w'=>e= .returned (.string ⟨l.toArray⟩)∧w'=w.drew.freeze ⟨g,0,none⟩ l.length:=by
 have hl0:l.length≠0:=by simpa using h0
 have hSD:(Builtin.unsafeSliceData_ #[(ρ.t 37)] (ρ.t 127) #[.slice (some ⟨g,0,none⟩) l.length cap]).run P w.drew= .ok (.pointer (some ⟨g,0,none⟩)) w.drew:=
  Lib.run_unsafeSliceData_row _ _ _ _ _ _ (by omega)
 have hUS:(Builtin.unsafeString_ #[(ρ.t 127),(ρ.t 3)] (ρ.t 9) #[.pointer (some ⟨g,0,none⟩),.int .i64 l.length]).run P w.drew= .ok (.string ⟨l.toArray⟩) (w.drew.freeze ⟨g,0,none⟩ l.length):=
  Lib.run_unsafeString_row w.drew (ρ.t 127) (ρ.t 3) (ρ.t 9) (ρ.t 5) L.t127 X.cellsByte g cur.size (by simp [World.shape?,hg]) l h0 (by omega) (by unfold maxLen at hcm; omega) hcell
 have mixed:=L.mixed
 have t72:=L.t72; have a72:=L.a72; have z72:=L.z72; have v72:=L.v72; have u72:=run_underlying L.t72
 have t70:=L.t70; have a70:=L.a70; have z70:=L.z70; have v70:=L.v70; have u70:=run_underlying L.t70
 have t37:=L.t37; have a37:=L.a37; have z37:=L.z37; have v37:=L.v37; have u37:=run_underlying L.t37
 have t127:=L.t127; have a127:=L.a127; have z127:=L.z127; have v127:=L.v127; have VD:=run_underlying L.t127
 have t3:=L.t3; have a3:=L.a3; have z3:=L.z3; have v3:=L.v3; have u3:=run_underlying L.t3
 have t9:=L.t9; have a9:=L.a9; have z9:=L.z9; have v9:=L.v9; have u9:=run_underlying L.t9
 have t5:=X.t5; have a5:=X.a5; have z5:=X.z5; have v5:=X.v5; have u5:=run_underlying X.t5
 go_enter L.f169,Body.n169_ntmps ρ
 go_wp2
 go_region_o
 all_goals (go_wp2; go_ret; exact⟨rfl,rfl⟩)
end Go.aO
namespace Go.aO
open Go Go.Proofs Go.Shelf Go.RowKit
def iY (c:UInt8):List I:=[.int .u8 c.toNat]
def Mem.xR (m:Mem) (w':World) (t:Nat) (i:cb):Mem:=⟨w',m.H.cj t (.bA i.ty i.size (i.ver+1) []),fun x=>if x=t then .slice none 0 0 else m.L x,m.T⟩
section
variable {m:Mem}{w':World}{t g:Nat}{i:cb}
theorem Bj {t':Nat}{i':cb}(h:(m.xR w' t i).H.tok t'=some i'):(t'=t∧i'= .bA i.ty i.size (i.ver+1) []∧(m.xR w' t i).L t'= .slice none 0 0)∨(t'≠t∧m.H.tok t'=some i'∧(m.xR w' t i).L t'=m.L t'):=by
 simp only[Mem.xR,aA.cj]at h ⊢
 by_cases e:t'=t
 ·rw[if_pos e]at h
  cases h
  exact .inl ⟨e,rfl,if_pos e⟩
 ·rw[if_neg e]at h
  exact .inr ⟨e,h,if_neg e⟩
theorem b8.xN (ad:m.H.tok t=some i) (hg:(m.L t).e4=some g) (h1:w'.os=m.w.os) (h2:w'.tape=m.w.tape) (h3:w'.output=m.w.output) (h4:w'.heap.size=m.w.heap.size) (h5: ∀k,k≠g→w'.heap[k]? =m.w.heap[k]?) (h6: ∀k o,w'.cell? ⟨k,o,none⟩=m.w.cell? ⟨k,o,none⟩):b8 m (m.xR w' t i) where
 os:=h1
 tape:=h2
 output:=h3
 size:=by show m.w.heap.size≤w'.heap.size; omega
 T:=Nat.le_refl _
 block:=fun b hb h h'=>⟨h5 b fun e=>h' t i ad (by rw[hg,e]),h,fun t' i' ht'=>by
  rcases Bj ht' with ⟨_,_,e⟩|⟨_,e1,e2⟩
  ·rw[e]; simp [Value.e4]
  ·rw[e2]; exact h' t' i' e1⟩
 cell:=fun b o hs=>⟨⟨by show b<w'.heap.size; rw[h4]; exact hs.lt,hs.aZ,fun t' i' ht' hb'=>by
  rcases Bj ht' with ⟨_,_,e⟩|⟨_,e1,e2⟩
  ·rw[e]at hb'; simp [Value.e4]at hb'
  ·rw[e2]at hb'; exact hs.tok t' i' e1 hb'⟩,h6 b o⟩
 tok:=fun t' i' _ h=>by
  rcases Bj h with ⟨rfl,rfl,e⟩|⟨_,e1,e2⟩
  ·exact⟨i,ad,Nat.le_succ _,rfl,fun e=>absurd e (Nat.succ_ne_self _)⟩
  ·exact⟨i',e1,Nat.le_refl _,rfl,fun _=>e2⟩
theorem b9.xN (r:b9 m) (ad:m.H.tok t=some i) (hg:(m.L t).e4=some g) (h1:w'.os=m.w.os) (h2:w'.tape=m.w.tape) (h3:w'.output=m.w.output) (h4:w'.heap.size=m.w.heap.size) (h5: ∀k,k≠g→w'.heap[k]? =m.w.heap[k]?) (h6: ∀k o,w'.cell? ⟨k,o,none⟩=m.w.cell? ⟨k,o,none⟩):b9 (m.xR w' t i) where
 mx:=(q5.aI (b8.xN ad hg h1 h2 h3 h4 h5 h6) r.mx r.my).1
 my:=(q5.aI (b8.xN ad hg h1 h2 h3 h4 h5 h6) r.mx r.my).2
 aZ:=fun b T cs hb=>by
  obtain⟨l,e1,e2,bU⟩:=r.aZ b T cs hb
  have hne:b≠g:=fun e=>by
   have:=((r.tok t i ad).2.2.2 g hg).1
   rw[←e]at this
   rw[show (m.xR w' t i).H.aZ b=m.H.aZ b from rfl,this]at hb
   cases hb
  exact⟨l,(h5 b hne).trans e1,aR.aI (b8.xN ad hg h1 h2 h3 h4 h5 h6) _ l e2,bU⟩
 tok:=fun t' i' ht'=>by
  rcases Bj ht' with ⟨rfl,rfl,e⟩|⟨hne,ht,e2⟩
  ·obtain⟨k1,k2,_,_⟩:=r.tok t' i ad
   refine⟨k1,k2,⟨[],by rw[e]; exact⟨by simp [cb.bA,cb.len],.inl ⟨rfl,rfl⟩⟩,fun rows ac=> ?_⟩,fun b hb=>by rw[e]at hb; simp [Value.e4]at hb⟩
   simp only[cb.bA,Option.some.injEq]at ac
   subst ac
   exact⟨by simp [aR],fun _ h=>by simp at h,fun _ h=>by simp at h⟩
  ·obtain⟨k1,k2,⟨xs,k3,k5⟩,k4⟩:=r.tok t' i' ht
   rw[e2]
   refine⟨k1,k2,⟨xs,zU k3 fun k hk=>h5 k fun e=> ?_,fun rows ac=>⟨aR.aI (b8.xN ad hg h1 h2 h3 h4 h5 h6) _ _ (k5 rows ac).1,(k5 rows ac).2⟩⟩,fun b hb=> ?_⟩
   ·subst e
    exact hne ((r.tok t i ad).2.2.2 k hg|>.2 t' i' ht hk)
   ·obtain⟨g1,g2⟩:=k4 b hb
    refine⟨g1,fun t2 i2 h2' hb2=> ?_⟩
    rcases Bj h2' with ⟨_,_,e⟩|⟨_,e1,bU⟩
    ·rw[e]at hb2; simp [Value.e4]at hb2
    ·rw[bU]at hb2; exact g2 t2 i2 e1 hb2
end
section
variable {P:Program}{ρ:Ren}{H:aA}
theorem Zm (L:Lays.n240 P ρ) (X:Builder.X72 P ρ){T:TypeId}{b:Nat}{a:I}{cs:List I}(hl:liesAt P P.depth T ((cs.length+1)/P.cellsOf T) 0 (ρ.t 72) 1=true) (hb:H.aZ b=some (T,a::cs)) (aL:a= .ev (.pointer none)∨a= .ptr b 0):
  ko P (ρ.f 240) [.ptr b 0] H fun o H'=>o= .ret (.cT [])∧H'=H.cp b T (.ptr b 0::cs):=by
 intro m af hH rh hv
 subst hH
 simp only[aR,aP]at hv
 obtain⟨_,_,rfl,rfl,rfl⟩:=hv
 obtain⟨l,g1,g2,g3⟩:=rh.aZ b T _ hb
 have hlen:=aR.length g2
 simp only[aR]at g2
 obtain⟨v,l,rfl,hva,hvl⟩:=g2
 have hlt:b<m.w.heap.size:=(Array.getElem?_eq_some_iff.1 g1).1
 have c0:m.w.cell? ⟨b,0,none⟩=some v:=by simp [World.cell?,g1]
 have e1:aR m (.ptr b 0::cs) (.pointer (some ⟨b,0,none⟩)::l):=by simp only[aR,aP]; exact⟨_,_,rfl,rfl,hvl⟩
 have e2: ∀v∈Value.pointer (some ⟨b,0,none⟩)::l,v.oneCell'=true:=fun x hx=>by
  rcases List.mem_cons.1 hx with rfl|hx
  ·rfl
  ·exact g3 x (List.mem_cons_of_mem _ hx)
 rcases aL with rfl|rfl
 ·simp only[aP]at hva
  subst hva
  have hsh:m.w.shape? b=some (T,cs.length+1):=by
   simp only[List.length_cons]at hlen
   simp [World.shape?,g1]; omega
  have hfz:m.w.frozen? ⟨b,0,none⟩=false:=by simp [World.frozen?,g1]
  refine (ZK L X (Nat.succ_pos _) hl b m.w c0 hsh hfz).mono ?_
  rintro e w' ⟨rfl,rfl⟩
  have h5: ∀k,k≠b→(m.w.setCell ⟨b,0,none⟩ (.pointer (some ⟨b,0,none⟩))).heap[k]? =m.w.heap[k]? :=fun k hk=>by
   simp only[World.setCell,Array.getElem?_modify]
   rw[if_neg (fun e=>hk e.symm)]
  have h6:(m.w.setCell ⟨b,0,none⟩ (.pointer (some ⟨b,0,none⟩))).heap[b]? =some (.cells ⟨.pointer (some ⟨b,0,none⟩)::l⟩ T (0,0)):=by
   simp [World.setCell,Array.getElem?_modify,g1]
  exact⟨.ret (.cT []),_,m.L,m.T,b9.ju rh hb rfl rfl rfl (by simp [World.setCell]) h5 h6 e1 e2,b8.ju rh hb rfl rfl rfl (by simp [World.setCell]) h5,⟨_,rfl,by simp only[aP,aR]; exact⟨_,rfl,rfl⟩⟩,rfl,rfl⟩
 ·simp only[aP]at hva
  subst hva
  refine (Any.Builder_copyCheck_used L X b m.w c0).mono ?_
  rintro e w' ⟨rfl,rfl⟩
  exact⟨.ret (.cT []),_,m.L,m.T,b9.ju (w':=m.w) rh hb rfl rfl rfl rfl (fun _ _=>rfl) g1 e1 e2,b8.ju (w':=m.w) rh hb rfl rfl rfl rfl (fun _ _=>rfl),⟨_,rfl,by simp only[aP,aR]; exact⟨_,rfl,rfl⟩⟩,rfl,rfl⟩
theorem aX8 (L:Lays.n169 P ρ) (X:Builder.Extra P ρ){T:TypeId}{b t:Nat}{cs:List I}{l:List UInt8}(hb:H.aZ b=some (T,cs)) (hc:cs[1]? =some (.own t 1 (l.map iY))) (ht:H.tok t=some (.bX (ρ.t 5) 1 l.length)) (h0:l≠[]):
  ko P (ρ.f 169) [.ptr b 0] H fun o H'=>o= .ret (.str l)∧H'=H.cj t (.bA (ρ.t 5) 1 (l.length+1) []):=by
 intro m af hH rh hv
 subst hH
 simp only[aR,aP]at hv
 obtain⟨_,_,rfl,rfl,rfl⟩:=hv
 have hl0:l.length≠0:=by simpa using h0
 obtain⟨lv,g1,g2,g3⟩:=rh.aZ b T _ hb
 obtain⟨v,hv1,hv2⟩:=aR.get g2 1 _ hc
 simp only[aP,List.length_map]at hv2
 obtain⟨⟨a,len,cap,rfl,rfl,⟨hcap,hmax⟩,h4⟩,dF,h6⟩:=hv2
 obtain⟨_,h6'⟩:=h6 _ ht
 have hLt:m.L t= .slice a l.length cap:=(h6' rfl).1
 obtain⟨_,_,⟨xs,k3,_⟩,k4⟩:=rh.tok t _ ht
 rcases h4 with h4|⟨g,o,rfl,hR⟩
 ·exact absurd h4 hl0
 obtain⟨g',cap',cur,hv,_,hg,hnc,hcm,hcs,htake⟩: ∃g' cap' cur,m.L t= .slice (some ⟨g',0,none⟩) l.length cap'∧0≤g'∧m.w.heap[g']? =some (.cells cur (ρ.t 5) (0,0))∧l.length≤cap'∧cap'≤maxLen∧cur.size=cap'*1∧cur.toList.take (l.length*1)=xs:=by
  rcases k3.2 with ⟨_,aG⟩|⟨g',cap',cur,r⟩
  ·exact absurd aG hl0
  ·exact⟨g',cap',cur,r⟩
 rw[hLt]at hv
 obtain⟨hgo,rfl⟩:(g=g'∧o=0)∧cap=cap':=by
  injection hv with e1 _ bU
  injection e1 with e1
  injection e1 with e1 e2
  exact⟨⟨e1,e2⟩,bU⟩
 obtain⟨rfl,rfl⟩:=hgo
 have hg1:(m.L t).e4=some g:=by rw[hLt]; rfl
 have hcell: ∀j x,l[j]? =some x→m.w.drew.cell? ((⟨g,0,none⟩:Addr).add j)=some (.int .u8 x.toNat):=fun j x hx=>by
  obtain⟨_,hC⟩:=ef.get hR j (iY x) (by simp [hx])
  simp only[iY,fr,aP]at hC
  obtain⟨⟨_,b0,_,_,rfl⟩,_⟩:=hC
  have:m.w.drew.cell? ⟨g,0+j*1,none⟩=some (.int .u8 x.toNat):=b0
  rw[Nat.zero_add,Nat.mul_one]at this
  unfold Addr.add
  by_cases hj:j=0
  ·subst hj; exact this
  ·rw[if_neg hj]; show m.w.drew.cell? ⟨g,0+j,none⟩= _; rw[Nat.zero_add]; exact this
 have c1:m.w.drew.cell? ⟨b,1,none⟩=some (.slice (some ⟨g,0,none⟩) l.length cap):=by
  show m.w.cell? ⟨b,1,none⟩= _
  simp [World.cell?,g1,hv1]
 refine (aY0 L X b g cap cur l m.w c1 h0 hg hnc hmax hcs hcell).mono ?_
 rintro e w' ⟨rfl,rfl⟩
 have hf:(m.w.drew.freeze ⟨g,0,none⟩ l.length)={m.w.drew with heap:=m.w.heap.modify g fun
   | .cells c elem (cJ,ad)=> .cells c elem (if cJ==ad then (0,0+l.length) else (min cJ 0,max ad (0+l.length)))
   |o=>o}:=by
  unfold World.freeze
  rw[if_neg hl0]
  rfl
 have l7: ∀k,k≠g→(m.w.drew.freeze ⟨g,0,none⟩ l.length).heap[k]? =m.w.heap[k]? :=fun k hk=>by
  rw[hf]
  simp only[Array.getElem?_modify]
  rw[if_neg (fun e=>hk e.symm)]
 have q6: ∀k o,(m.w.drew.freeze ⟨g,0,none⟩ l.length).cell? ⟨k,o,none⟩=m.w.cell? ⟨k,o,none⟩:=fun k o=>by
  by_cases e:k=g
  ·subst e
   rw[hf]
   have hg':m.w.heap[k]? =some (.cells cur (ρ.t 5) (0,0)):=hg
   simp [World.cell?,Array.getElem?_modify,hg']
  ·exact World.cell?_of_block (a:=⟨k,o,none⟩) (l7 k e)
 have gE:(m.w.drew.freeze ⟨g,0,none⟩ l.length).heap.size=m.w.heap.size:=by rw[hf]; simp
 have b0:(m.w.drew.freeze ⟨g,0,none⟩ l.length).os=m.w.os:=by rw[hf]; rfl
 have cN:(m.w.drew.freeze ⟨g,0,none⟩ l.length).tape=m.w.tape:=by rw[hf]; rfl
 have du:(m.w.drew.freeze ⟨g,0,none⟩ l.length).output=m.w.output:=by rw[hf]; rfl
 exact⟨.ret (.str l),_,_,m.T,b9.xN rh ht hg1 b0 cN du gE l7 q6,b8.xN ht hg1 b0 cN du gE l7 q6,⟨_,rfl,by simp only[aP]; exact⟨trivial,by omega⟩⟩,rfl,rfl⟩
end
end Go.aO
namespace Go.aO
open Go Go.Proofs Go.Shelf Go.RowKit
variable {P:Program}{ρ:Ren}{c:aQ}
def EH (b:Nat):I→Bool
 | .ev (.pointer none)=>true
 | .ptr b' 0=>b'==b
 | _=>false
theorem Zn (L:Lays.n240 P ρ) (X:Builder.X72 P ρ){T:TypeId}{b:Nat}{a:I}{cs:List I}(hl:liesAt P P.depth T ((cs.length+1)/P.cellsOf T) 0 (ρ.t 72) 1=true) (hb:c.H.aZ b=some (T,a::cs)) (aL:EH b a=true):aY P (ρ.f 240) [.ptr b 0] c (ng (.cT []) (c.cp b T (.ptr b 0::cs))):=by
 intro H0 s xs' H hv ac
 simp only[bk,aN]at hv
 obtain⟨_,_,rfl,⟨x,hx,rfl⟩,rfl⟩:=hv
 obtain⟨y,cs',g1,g2,g3⟩:=ac.aZ _ _ _ hb
 rw[hx]at g1
 cases g1
 have hlen:=bk.length g3
 simp only[bk]at g3
 obtain⟨a',cs',rfl,h1,h2⟩:=g3
 have hok:a'= .ev (.pointer none)∨a'= .ptr x 0:=by
  unfold EH at aL
  split at aL
  ·left; simpa only[aN] using h1
  ·right
   simp only[beq_iff_eq]at aL
   subst aL
   simp only[aN]at h1
   obtain⟨z,e1,e2⟩:=h1
   rw[hx]at e1
   cases e1
   exact e2
  ·cases aL
 simp only[List.length_cons]at hlen
 refine (Zm L X (by rw[show cs'.length=cs.length by omega]; exact hl) g2 hok).mono fun o H' ⟨e1,e2⟩=> ?_
 subst e1 e2
 refine⟨.ret (.cT []),_,by exact bh.refl _,HSub.refl _,s,.ret (.cT []),_,bC.e8.refl s,⟨rfl,rfl⟩,by simp only[oj,aN,bk]; exact⟨_,rfl,rfl⟩,ac.cp hx ?_⟩
 simp only[bk,aN]
 exact⟨_,_,rfl,⟨x,hx,rfl⟩,h2⟩
theorem Li {s:bC}: ∀(l:List UInt8) (r:List (List I)),cq s (l.map iY) r→r=l.map iY
 |[],_,h=>by simp only[List.map_nil,cq]at h; exact h
 |x::l,_,h=>by
  simp only[List.map_cons,cq,iY,bk,aN]at h
  obtain⟨_,_,rfl,⟨_,_,rfl,rfl,rfl⟩,h⟩:=h
  rw[Li l _ h]
  rfl
theorem aX9 (L:Lays.n169 P ρ) (X:Builder.Extra P ρ){T:TypeId}{b t:Nat}{cs:List I}{l:List UInt8}(hb:c.H.aZ b=some (T,cs)) (hc:cs[1]? =some (.own t 1 (l.map iY))) (ht:c.H.tok t=some (.bX (ρ.t 5) 1 l.length)) (h0:l≠[]):
  aY P (ρ.f 169) [.ptr b 0] c (ng (.str l) (c.cj t (.bA (ρ.t 5) 1 (l.length+1) []))):=by
 intro H0 s xs' H hv ac
 simp only[bk,aN]at hv
 obtain⟨_,_,rfl,⟨x,hx,rfl⟩,rfl⟩:=hv
 obtain⟨y,cs',g1,g2,g3⟩:=ac.aZ _ _ _ hb
 rw[hx]at g1
 cases g1
 obtain⟨z,i',k1,k2,k3⟩:=ac.tok _ _ ht
 obtain⟨e1,e2,bU,dl,gn⟩:=k3
 obtain⟨v,hv1,hv2⟩:=bk.get g3 1 _ hc
 simp only[aN]at hv2
 obtain⟨z',r',b0,rfl,du⟩:=hv2
 rw[k1]at b0
 cases b0
 have hr':=Li _ _ du
 subst hr'
 have ad:i'= .bX (ρ.t 5) 1 l.length:=by
  obtain⟨i1,i2,i3,i4,i5⟩:=i'
  simp only[cb.bX]at e1 e2 bU dl gn ⊢
  subst e1 e2 bU dl gn
  rfl
 subst ad
 refine (aX8 L X g2 hv1 k2 h0).mono fun o H' ⟨e1,e2⟩=> ?_
 subst e1 e2
 exact⟨.ret (.str l),_,by exact bh.refl _,HSub.refl _,s,.ret (.str l),_,bC.e8.refl s,⟨rfl,rfl⟩,by simp only[oj,aN],ac.cj k1 ⟨rfl,rfl,rfl,rfl,[],rfl,by simp only[cq]⟩⟩
end Go.aO
namespace Go.aO
open Go Go.Proofs Go.Shelf Go.RowKit
variable {P:Program}{ρ:Ren}
set_option maxHeartbeats 1000000 in
theorem aW8 (L:Lays.n146 P ρ) (hi9:(P.info? (ρ.t 9)).map (fun i=>(i.zero,i.size,i.bytes))=some (some (.string ByteArray.empty),1,16)) (s:ByteArray) (b:UInt8) (w:World) (hs:s.size<4294967281):
  Calls P (ρ.f 146) #[.string s,.string ⟨#[b]⟩] w fun e w'=>
   e= .returned (.slice (some ⟨w.heap.size,0,none⟩) (Lib.countB s ⟨#[b]⟩+1) (Lib.countB s ⟨#[b]⟩+1))∧w'=w.alloc (.cells ((Lib.splitB ⟨#[b]⟩ 0 (Lib.countB s ⟨#[b]⟩) s).map Value.string).toArray (ρ.t 9)):=by
 have h1:1≤(⟨#[b]⟩:ByteArray).size:=Nat.le_refl _
 have hle:=Lib.countB_le ⟨#[b]⟩ h1 s.size s (Nat.le_refl _)
 have hlen:=Lib.splitB_all ⟨#[b]⟩ h1 0 _ s rfl
 have hC: ∀w,Calls P (ρ.f 138) #[.string s,.string ⟨#[b]⟩] w fun e w'=>e= .returned (.int .i64 (Lib.countB s ⟨#[b]⟩))∧w'=w:=fun w=>by
  refine (Any.strings_Count_one {L with} s b w).mono fun e w' ⟨he,hw⟩=>⟨?_,hw⟩
  rw[he]
  show _=Ending.returned (Value.int .i64 ((Lib.count s.data.toList [b]:Nat):Int))
  rw[Lib.count_one]
  rfl
 have hI: ∀(x:ByteArray) (w:World),Calls P (ρ.f 143) #[.string x,.string ⟨#[b]⟩] w fun e w'=>e= .returned (.int .i64 (Lib.indexB x ⟨#[b]⟩))∧w'=w:=fun x w=>by
  refine (Any.strings_Index_one {L with} x b w).mono fun e w' ⟨he,hw⟩=>⟨?_,hw⟩
  rw[he]
  show _=Ending.returned (Value.int .i64 (Lib.index x.data.toList [b]))
  rw[Lib.index_one]
 have c:=Any.strings_genSplit_core {L with} hi9 s ⟨#[b]⟩ 0 (-1) (Lib.countB s ⟨#[b]⟩+1) w hs h1 (Nat.zero_le _) (fun x c hx=>hI x _) (hC w) (by decide) (by decide) (by rw[if_pos (by decide)]; omega)
 rw[Nat.add_sub_cancel,hlen]at c
 have e2:Lib.cellsOf (Lib.splitB ⟨#[b]⟩ 0 (Lib.countB s ⟨#[b]⟩) s) (Lib.countB s ⟨#[b]⟩+1)=((Lib.splitB ⟨#[b]⟩ 0 (Lib.countB s ⟨#[b]⟩) s).map Value.string).toArray:=by rw[←hlen]; exact Lib.cellsOf_full _
 rw[e2]at c
 have t3:=L.t3; have t9:=L.t9; have t31:=L.t31
 have a3:=L.a3; have a9:=L.a9; have a31:=L.a31
 have z3:=L.z3; have v3:=L.v3; have z9:=L.z9; have v9:=L.v9; have z31:=L.z31; have v31:=L.v31
 have GC: ∀args w,(callFunc (ρ.f 221) args).run P w= .ok (.enter (ρ.f 221) args) w:=enters_of L.f221 (by kernel_rfl) rfl
 go_enter L.f146,Body.n146_ntmps ρ
 go_wp2_with (go_at_fn (ρ.f 221); refine c.mono ?_; rintro e w' ⟨rfl,hw⟩; rw[hw])
 go_ret
 exact⟨rfl,rfl⟩
end Go.aO
namespace Go.aO
open Go Go.Proofs Go.Shelf Go.RowKit
variable {P:Program}{ρ:Ren}{H:aA}{c:aQ}
theorem ah8 (L:Lays8.n4 P ρ){i0:TypeInfo}{z:Value}(hi0:P.info? (ρ.t 25)=some i0) (hz0:i0.zero=some z) (hs0:0<i0.size) (rA:z.cells.size=i0.size){n:Nat}(h0:0<n) (hb:n*i0.bytes≤140737488355328) (hn:n≤4611686018427387904):
  ko P (ρ.f 4) [.aD,.int .i64 n] H fun o H'=> ∃t,H.tok t=none∧o= .ret (.own t i0.size [])∧H'=H.cj t (.bX (ρ.t 25) i0.size 0):=by
 intro m af hH rh hv
 subst hH
 simp only[aR,aP]at hv
 obtain⟨_,_,rfl,rfl,_,_,rfl,rfl,rfl⟩:=hv
 refine (Any8.slices_Grow_grow L i0 z hi0 hz0 hs0 none 0 0 n [] m.w (Nat.le_refl _) (by omega) (by simpa using hb) (by omega) (by simp) (fun _=>rfl) (fun a h=>by cases h)).mono ?_
 rintro e w' ⟨rfl,rfl⟩
 simp only[Nat.zero_add,Nat.sub_zero]
 have hge:=grownCap_ge m.w n 0 (ρ.t 25)
 have hle:=grownCap_le_maxLen m.w n 0 (ρ.t 25) (by unfold maxLen; omega)
 generalize grownCap m.w n 0 (ρ.t 25)=cap at hge hle
 generalize hob:Obj.cells ([].toArray++Builtin.zeroCells z.cells n++Builtin.zeroCells z.cells (cap-n)) (ρ.t 25)=ob
 have hnew:(m.w.drew.alloc ob).heap[m.w.heap.size]? =some ob:=x0 m.w ob
 have hv: ∀b,(Value.slice (some ⟨m.w.heap.size,0,none⟩) 0 cap).e4=some b→m.w.heap.size≤b:=fun b e=>by simp [Value.e4]at e; omega
 have r:=b9.bj rh (w':=m.w.drew.alloc ob) (v:= .slice (some ⟨m.w.heap.size,0,none⟩) 0 cap) (o:= .bX (ρ.t 25) i0.size 0) rfl rfl rfl (by rw[show (m.w.drew.alloc ob).heap.size=m.w.drew.heap.size+1 by simp]; exact Nat.le_succ _) (fun b hb=>uU m.w ob b hb) hv (by simp [cb.bX]; omega)
  ⟨[],⟨by simp [cb.bX,cb.len],.inr ⟨m.w.heap.size,cap,[].toArray++Builtin.zeroCells z.cells n++Builtin.zeroCells z.cells (cap-n),rfl,Nat.zero_le _,by rw[hnew,←hob]; rfl,Nat.zero_le _,hle,by
   simp only[Array.size_append,At,rA,cb.bX]
   simp only[List.size_toArray,List.length_nil,Nat.zero_add]
   rw[←Nat.add_mul]
   congr 1
   omega,by simp [cb.len,cb.bX]⟩⟩,fun _ h=>by cases h⟩
 have e:=b8.bj rh (w':=m.w.drew.alloc ob) (v:= .slice (some ⟨m.w.heap.size,0,none⟩) 0 cap) (o:= .bX (ρ.t 25) i0.size 0) rfl rfl rfl (by rw[show (m.w.drew.alloc ob).heap.size=m.w.drew.heap.size+1 by simp]; exact Nat.le_succ _) (fun b hb=>uU m.w ob b hb) hv
 exact⟨.ret (.own m.T i0.size []),_,_,_,r,e,⟨_,rfl,RT r (i:= .bX (ρ.t 25) i0.size 0) (by simp [Mem.bj,aA.cj]) (by simp [Mem.bj]) ⟨_,cap,rfl,hle⟩ rfl rfl⟩,m.T,s3 rh,rfl,rfl⟩
theorem OY (L:Lays8.n4 P ρ){i0:TypeInfo}{z:Value}(hi0:P.info? (ρ.t 25)=some i0) (hz0:i0.zero=some z) (hs0:0<i0.size) (rA:z.cells.size=i0.size){n:Nat}(h0:0<n) (hb:n*i0.bytes≤140737488355328) (hn:n≤4611686018427387904):
  aY P (ρ.f 4) [.aD,.int .i64 n] c (ng (.own c.bj i0.size []) (c.hz (.bX (ρ.t 25) i0.size 0))):=by
 intro H0 s xs' H hv ac
 simp only[bk,aN]at hv
 obtain⟨_,_,rfl,rfl,_,_,rfl,rfl,rfl⟩:=hv
 refine (ah8 L hi0 hz0 hs0 rA h0 hb hn).mono fun o H' ⟨t,e0,e1,e2⟩=> ?_
 subst e1 e2
 refine⟨.ret (.own t i0.size []),_,by exact bh.refl _,HSub.refl _,⟨s.b,s.t++[t]⟩,.ret (.own c.bj i0.size []),_,bC.lF s t,⟨rfl,rfl⟩,?_,ac.hz iz.bX e0⟩
 simp only[oj,aN,cq]
 exact⟨t,[],by rw[ac.bj]; exact pf,rfl,rfl⟩
theorem OV (L:Lays8.n4 P ρ):aY P (ρ.f 4) [.aD,.int .i64 0] c (ng .aD c):=by
 intro H0 s xs' H hv ac
 simp only[bk,aN]at hv
 obtain⟨_,_,rfl,rfl,_,_,rfl,rfl,rfl⟩:=hv
 have:ko P (ρ.f 4) [.aD,.int .i64 0] H fun o H'=>o= .ret .aD∧H'=H:=by
  intro m af hH rh hv
  subst hH
  simp only[aR,aP]at hv
  obtain⟨_,_,rfl,rfl,_,_,rfl,rfl,rfl⟩:=hv
  refine (Any8.slices_Grow_room L none 0 0 0 m.w (Nat.le_refl _) (by omega) (by omega) (by omega)).mono ?_
  rintro e w' ⟨rfl,rfl⟩
  exact⟨.ret .aD,m.H,m.L,m.T,rh,b8.refl m,⟨_,rfl,by simp only[aP]⟩,rfl,rfl⟩
 refine this.mono fun o H' ⟨e1,e2⟩=> ?_
 subst e1 e2
 exact⟨.ret .aD,_,by exact bh.refl _,HSub.refl _,s,.ret .aD,c,bC.e8.refl s,⟨rfl,rfl⟩,by simp only[oj,aN],ac⟩
end Go.aO
namespace Go.aO
open Go
inductive al where
 |mk (kind:Int) (op name text:List UInt8) (n:Int) (args:List al)
mutual
def al.row:al→List I
 | .mk k o m t n l=>[.int .i64 k,.str o,.str m,.str t,.int .i64 n,.af 6 (al.rows l)]
def al.rows:List al→List (List I)
 |[]=>[]
 |x::l=>x.row::al.rows l
end
theorem al.nG: ∀l:List al,al.rows l=l.map al.row
 |[]=>rfl
 |x::l=>by simp only[al.rows,List.map_cons,al.nG l]
inductive ai where
 |mk (kind:Int) (name:List UInt8) (expr:al) (times:Int) (body wq:List ai)
mutual
def ai.row:ai→List I
 | .mk k m x t a b=>[.int .i64 k,.str m]++x.row++[.int .i64 t,.af 11 (ai.rows a),.af 11 (ai.rows b)]
def ai.rows:List ai→List (List I)
 |[]=>[]
 |x::l=>x.row::ai.rows l
end
theorem ai.nG: ∀l:List ai,ai.rows l=l.map ai.row
 |[]=>rfl
 |x::l=>by simp only[ai.rows,List.map_cons,ai.nG l]
def um (n:Int):Prop:=(Lit.int .i64 n).wf=true
mutual
def al.ok (R:Nat):al→Prop
 | .mk k o m t n l=>um k∧o.length≤R∧m.length≤R∧t.length≤R∧um n∧l.length*88≤R∧al.oD R l
def al.oD (R:Nat):List al→Prop
 |[]=>True
 |x::l=>x.ok R∧al.oD R l
end
theorem al.tY {R:Nat}: ∀ {l:List al},(∀x∈l,x.ok R)→al.oD R l
 |[],_=>trivial
 |x::l,h=>⟨h x (by simp),al.tY fun y hy=>h y (by simp [hy])⟩
theorem al.yq {R:Nat}: ∀ {l:List al}{i:Nat}{x:al},al.oD R l→l[i]? =some x→x.ok R
 |y::l,0,x,h,e=>by simp at e; subst e; exact h.1
 |y::l,i+1,x,h,e=>al.yq (l:=l) (i:=i) h.2 (by simpa using e)
 |[],_,_,_,e=>by simp at e
mutual
def ai.ok (R:Nat):ai→Prop
 | .mk k m x t a b=>um k∧m.length≤R∧x.ok R∧um t∧a.length*168≤R∧b.length*168≤R∧ai.oD R a∧ai.oD R b
def ai.oD (R:Nat):List ai→Prop
 |[]=>True
 |x::l=>x.ok R∧ai.oD R l
end
theorem ai.tY {R:Nat}: ∀ {l:List ai},(∀x∈l,x.ok R)→ai.oD R l
 |[],_=>trivial
 |x::l,h=>⟨h x (by simp),ai.tY fun y hy=>h y (by simp [hy])⟩
theorem ai.yq {R:Nat}: ∀ {l:List ai}{i:Nat}{x:ai},ai.oD R l→l[i]? =some x→x.ok R
 |y::l,0,x,h,e=>by simp at e; subst e; exact h.1
 |y::l,i+1,x,h,e=>ai.yq (l:=l) (i:=i) h.2 (by simpa using e)
 |[],_,_,_,e=>by simp at e
theorem mY {α:Type}{f:α→List I}{p:α→Prop}: ∀ {rows:List (List I)},(∀r∈rows,∃x,r=f x∧p x)→∃l:List α,rows=l.map f∧∀x∈l,p x
 |[],_=>⟨[],rfl,fun _ h=>by simp at h⟩
 |r::rows,h=>by
  obtain⟨x,rfl,hx⟩:=h r (by simp)
  obtain⟨l,rfl,hl⟩:=mY (rows:=rows) (f:=f) (p:=p) fun r ac=>h r (List.mem_cons_of_mem _ ac)
  exact⟨x::l,rfl,fun y hy=>by
   rcases List.mem_cons.1 hy with rfl|hy
   ·exact hx
   ·exact hl y hy⟩
section
variable {P:Program}{E:List TypeId}{R:Nat}{te ts:TypeId}
theorem GW (dF:iV P E 8 te=some [.dD (.i .i64),.dD .s,.dD .s,.dD .s,.dD (.i .i64),.hJ te]) (hc:P.cellsOf te=6) (hb:P.bytesOf te=88): ∀(n:Nat) (r:List I),kq P E R n te r→∃x:al,r=x.row∧x.ok R
 |0,_,h=>h.elim
 |n+1,r,h=>by
  obtain⟨aT,h1,h2⟩:=h
  rw[dF]at h1
  cases h1
  simp only[h7,gM.ok,hc,hb]at h2
  obtain⟨_,_,rfl,⟨k,rfl,w1⟩,_,_,rfl,⟨o,rfl,w2⟩,_,_,rfl,⟨m,rfl,q3⟩,_,_,rfl,⟨t,rfl,q4⟩,_,_,rfl,⟨i,rfl,vI⟩,_,_,rfl,⟨rows,rfl,yL,h3⟩,rfl⟩:=h2
  obtain⟨l,rfl,hl⟩:=mY (f:=al.row) (p:=al.ok R) fun r hm=>GW dF hc hb n r (h3 r hm)
  exact⟨.mk k o m t i l,by simp only[al.row,al.nG],w1,w2,q3,q4,vI,by simpa using yL,al.tY hl⟩
theorem JC (dF:iV P E 8 te=some [.dD (.i .i64),.dD .s,.dD .s,.dD .s,.dD (.i .i64),.hJ te]) (hc:P.cellsOf te=6) (hb:P.bytesOf te=88)
  (hS:iV P E 8 ts=some [.dD (.i .i64),.dD .s,.dD (.i .i64),.dD .s,.dD .s,.dD .s,.dD (.i .i64),.hJ te,.dD (.i .i64),.hJ ts,.hJ ts]) (hs:P.cellsOf ts=11) (hsb:P.bytesOf ts=168): ∀(n:Nat) (r:List I),kq P E R n ts r→∃x:ai,r=x.row∧x.ok R
 |0,_,h=>h.elim
 |n+1,r,h=>by
  obtain⟨aT,h1,h2⟩:=h
  rw[hS]at h1
  cases h1
  simp only[h7,gM.ok,hc,hs,hb,hsb]at h2
  obtain⟨_,_,rfl,⟨k,rfl,w1⟩,_,_,rfl,⟨nm,rfl,w2⟩,_,_,rfl,⟨k2,rfl,v1⟩,_,_,rfl,⟨o,rfl,v2⟩,_,_,rfl,⟨m,rfl,v3⟩,_,_,rfl,⟨t,rfl,v4⟩,_,_,rfl,⟨i,rfl,v5⟩,_,_,rfl,⟨rows,rfl,v6,h3⟩,_,_,rfl,⟨tm,rfl,q3⟩,_,_,rfl,⟨ra,rfl,q4,h4⟩,_,_,rfl,⟨rb,rfl,vI,h5⟩,rfl⟩:=h2
  obtain⟨l,rfl,hl⟩:=mY (f:=al.row) (p:=al.ok R) fun r hm=>GW dF hc hb n r (h3 r hm)
  obtain⟨la,rfl,aL⟩:=mY (f:=ai.row) (p:=ai.ok R) fun r hm=>JC dF hc hb hS hs hsb n r (h4 r hm)
  obtain⟨lb,rfl,hb'⟩:=mY (f:=ai.row) (p:=ai.ok R) fun r hm=>JC dF hc hb hS hs hsb n r (h5 r hm)
  exact⟨.mk k nm (.mk k2 o m t i l) tm la lb,by simp only[ai.row,al.row,al.nG,ai.nG,List.cons_append,List.nil_append],w1,w2,⟨v1,v2,v3,v4,v5,by simpa using v6,al.tY hl⟩,q3,by simpa using q4,by simpa using vI,ai.tY aL,ai.tY hb'⟩
end
end Go.aO
namespace Go.aO
open Go
mutual
def DR:al→al→Bool
 | .mk k o m t n l,.mk k' o' m' t' n' l'=>decide (k=k')&&(decide (o=o')&&(decide (m=m')&&(decide (t=t')&&(decide (n=n')&&DS l l'))))
def DS:List al→List al→Bool
 |[],[]=>true
 |x::l,y::l'=>DR x y&&DS l l'
 | _,_=>false
end
mutual
def JA:ai→ai→Bool
 | .mk k m x t a b,.mk k' m' x' t' a' b'=>decide (k=k')&&(decide (m=m')&&(decide (t=t')&&(DR x x'&&(CG a a'&&CG b b'))))
def CG:List ai→List ai→Bool
 |[],[]=>true
 |x::l,y::l'=>JA x y&&CG l l'
 | _,_=>false
end
mutual
theorem OB: ∀x:al,DR x x=true
 | .mk k o m t n l=>by simp [DR,OC l]
theorem OC: ∀l:List al,DS l l=true
 |[]=>rfl
 |x::l=>by simp [DS,OB x,OC l]
end
mutual
theorem aX4: ∀x:ai,JA x x=true
 | .mk k m x t a b=>by simp [JA,OB x,JB a,JB b]
theorem JB: ∀l:List ai,CG l l=true
 |[]=>rfl
 |x::l=>by simp [CG,aX4 x,JB l]
end
structure ba where
 name:List UInt8
 ig:Int
 cJ:Int
 ad:Int
 fg:Int
 n:Int
 s:List UInt8
deriving DecidableEq
def ba.row (v:ba):List I:=[.str v.name,.int .i64 v.ig,.int .i64 v.cJ,.int .i64 v.ad,.int .i64 v.fg,.int .i64 v.n,.str v.s]
structure bL where
 c7:List UInt8
 peer:List UInt8
 ps:List (List UInt8)
 body:List ai
def b6 (s:List UInt8):List I:=[.str s]
def bL.row (h:bL):List I:=[.str h.c7,.str h.peer,.af 1 (h.ps.map b6),.af 11 (ai.rows h.body)]
structure cf where
 c7:List UInt8
 peer:List UInt8
 args:List al
 dk:List al
def cf.row (o:cf):List I:=[.str o.c7,.str o.peer,.af 6 (al.rows o.args),.af 6 (al.rows o.dk)]
structure b3 where
 name:List UInt8
 bM:List UInt8
 gJ:List UInt8
 vars:List ba
 hs:List bL
 os:List cf
def b3.cells (x:b3):List I:=[.str x.name,.str x.bM,.str x.gJ,.af 7 (x.vars.map ba.row),.af 4 (x.hs.map bL.row),.af 4 (x.os.map cf.row)]
def b3.cQ (x:b3):I:= .agg x.cells
mutual
def al.bJ:al→Nat
 | .mk _ _ _ _ _ l=>1+al.bz l
def al.bz:List al→Nat
 |[]=>0
 |x::l=>x.bJ+al.bz l
end
mutual
def ai.bJ:ai→Nat
 | .mk _ _ x _ a b=>1+x.bJ+ai.bz a+ai.bz b
def ai.bz:List ai→Nat
 |[]=>0
 |x::l=>x.bJ+ai.bz l
end
theorem al.FB {l:List al}{i:Nat}{x:al}(h:l[i]? =some x):al.bz (l.take (i+1))=al.bz (l.take i)+x.bJ:=by
 rw[List.take_add_one,h]
 induction l.take i with
 |nil=>simp [al.bz]
 |cons y l ih=>simp only[List.cons_append,al.bz,ih]; omega
theorem ai.FB {l:List ai}{i:Nat}{x:ai}(h:l[i]? =some x):ai.bz (l.take (i+1))=ai.bz (l.take i)+x.bJ:=by
 rw[List.take_add_one,h]
 induction l.take i with
 |nil=>simp [ai.bz]
 |cons y l ih=>simp only[List.cons_append,ai.bz,ih]; omega
mutual
theorem al.Dc: ∀x:al,x.bJ+4≤cG x.row
 | .mk k o m t n l=>by
  have:=al.nS l
  simp only[al.bJ,al.row,cG,I.eY]
  omega
theorem al.nS: ∀l:List al,al.bz l≤fo (al.rows l)
 |[]=>by simp [al.bz]
 |x::l=>by
  have:=al.Dc x
  have:=al.nS l
  simp only[al.bz,al.rows,fo]
  omega
end
mutual
theorem ai.Dc: ∀x:ai,x.bJ≤cG x.row
 | .mk k m x t a b=>by
  have:=ai.nS a
  have:=ai.nS b
  have:=al.Dc x
  simp only[ai.bJ,ai.row,FI,cG,I.eY]
  omega
theorem ai.nS: ∀l:List ai,ai.bz l≤fo (ai.rows l)
 |[]=>by simp [ai.bz]
 |x::l=>by
  have:=ai.Dc x
  have:=ai.nS l
  simp only[ai.bz,ai.rows,fo]
  omega
end
theorem al.nx {l:List al}{i:Nat}{x:al}(h:l[i]? =some x):x.bJ≤al.bz l:=by
 have h1:=al.FB h
 have h2:al.bz (l.take (i+1))≤al.bz l:=by
  conv=>rhs; rw[←List.take_append_drop (i+1) l]
  induction l.take (i+1) with
  |nil=>simp [al.bz]
  |cons y l ih=>simp only[List.cons_append,al.bz]; omega
 omega
theorem ai.nx {l:List ai}{i:Nat}{x:ai}(h:l[i]? =some x):x.bJ≤ai.bz l:=by
 have h1:=ai.FB h
 have h2:ai.bz (l.take (i+1))≤ai.bz l:=by
  conv=>rhs; rw[←List.take_append_drop (i+1) l]
  induction l.take (i+1) with
  |nil=>simp [ai.bz]
  |cons y l ih=>simp only[List.cons_append,ai.bz]; omega
 omega
theorem al.fT: ∀l:List al,l.length≤al.bz l
 |[]=>by simp
 |x::l=>by
  have:=al.fT l
  have:1≤x.bJ:=by cases x; simp [al.bJ]
  simp only[List.length_cons,al.bz]
  omega
theorem ai.fT: ∀l:List ai,l.length≤ai.bz l
 |[]=>by simp
 |x::l=>by
  have:=ai.fT l
  have:1≤x.bJ:=by cases x; simp [ai.bJ]; omega
  simp only[List.length_cons,ai.bz]
  omega
mutual
theorem al.ew: ∀x:al,b7 x.row=true
 | .mk k o m t n l=>by simp only[al.row,b7,I.flat,al.sR l,Bool.and_self]
theorem al.sR: ∀l:List al,eN (al.rows l)=true
 |[]=>rfl
 |x::l=>by simp only[al.rows,eN,al.ew x,al.sR l,Bool.and_self]
end
theorem OG: ∀(a b:List I),b7 (a++b)=(b7 a&&b7 b)
 |[],b=>by simp [b7]
 |x::a,b=>by simp only[List.cons_append,b7,OG a b,Bool.and_assoc]
mutual
theorem ai.ew: ∀x:ai,b7 x.row=true
 | .mk k m x t a b=>by simp only[ai.row,OG,b7,I.flat,al.ew x,ai.sR a,ai.sR b,Bool.and_self]
theorem ai.sR: ∀l:List ai,eN (ai.rows l)=true
 |[]=>rfl
 |x::l=>by simp only[ai.rows,eN,ai.ew x,ai.sR l,Bool.and_self]
end
mutual
def al.am:al→Int
 | .mk _ _ _ _ _ l=>al.gg l (l.length:Int)
def al.gg:List al→Int→Int
 |[],n=>n
 |x::l,n=>al.gg l (IntKind.i64.wrap (n+x.am))
end
mutual
def ai.am:ai→Int
 | .mk _ _ x _ a b=>IntKind.i64.wrap (IntKind.i64.wrap (IntKind.i64.wrap (1+x.am)+ai.gg a (a.length:Int))+ai.gg b (b.length:Int))
def ai.gg:List ai→Int→Int
 |[],n=>n
 |x::l,n=>ai.gg l (IntKind.i64.wrap (n+x.am))
end
def kQ:List bL→Int→Option Int
 |[],n=>some n
 |h::l,n=>if 60<h.ps.length then none else kQ l (IntKind.i64.wrap (n+ai.gg h.body (h.body.length:Int)))
def nq:List cf→Int→Int
 |[],n=>n
 |o::l,n=>nq l (IntKind.i64.wrap (n+IntKind.i64.wrap (al.gg o.args (o.args.length:Int)+al.gg o.dk (o.dk.length:Int))))
def iP (x:b3):Bool:=match kQ x.hs 0 with
 |none=>false
 |some n=>decide (nq x.os n≤500)&&(decide (x.vars.length≤60)&&(decide (x.hs.length≤60)&&decide (x.os.length≤60)))
theorem fY {α:Type}{l:List α}{i:Nat}{v:α}(h:l[i]? =some v):l.drop i=v::l.drop (i+1):=by
 obtain⟨h3,e⟩:=List.getElem?_eq_some_iff.1 h
 rw[List.drop_eq_getElem_cons h3,e]
theorem rP {α β:Type}(f:α→β){l:List α}{i:Nat}{v:α}(h:l[i]? =some v):(l.take (i+1)).map f=(l.take i).map f++[f v]:=by
 rw[List.take_add_one,h]; simp
theorem al.cr (k:Int) (o m t:List UInt8) (n:Int) (l:List al):(al.mk k o m t n l).row=[.int .i64 k,.str o,.str m,.str t,.int .i64 n,.af 6 (l.map al.row)]:=by rw[al.row,al.nG]
theorem ai.cr (k:Int) (m:List UInt8) (x:al) (t:Int) (a b:List ai):(ai.mk k m x t a b).row=[.int .i64 k,.str m]++x.row++[.int .i64 t,.af 11 (a.map ai.row),.af 11 (b.map ai.row)]:=by rw[ai.row,ai.nG,ai.nG]
theorem al.ch (l:List al):eN (l.map al.row)=true:=by rw[←al.nG]; exact al.sR l
theorem ai.ch (l:List ai):eN (l.map ai.row)=true:=by rw[←ai.nG]; exact ai.sR l
def ba.ok (R:Nat) (v:ba):Prop:=(v.name.length≤R∧v.s.length≤R)∧um v.ig∧um v.cJ∧um v.ad∧um v.fg∧um v.n
def bL.ok (R:Nat) (h:bL):Prop:=h.c7.length≤R∧h.peer.length≤R∧h.ps.length*16≤R∧(∀s∈h.ps,s.length≤R)∧h.body.length*168≤R∧ai.oD R h.body
def cf.ok (R:Nat) (o:cf):Prop:=o.c7.length≤R∧o.peer.length≤R∧o.args.length*88≤R∧al.oD R o.args∧o.dk.length*88≤R∧al.oD R o.dk
structure b3.ok (R:Nat) (x:b3):Prop where
 name:x.name.length≤R
 bM:x.bM.length≤R
 gJ:x.gJ.length≤R
 kn:x.vars.length*72≤R
 vars: ∀v∈x.vars,v.ok R
 l5:x.hs.length*80≤R
 hs: ∀h∈x.hs,h.ok R
 no:x.os.length*80≤R
 os: ∀o∈x.os,o.ok R
end Go.aO
namespace Go.aO.T.N
open Go Go.aO Go.Proofs Go.RowKit
theorem lR.below {w w':World}(h:lR w){n:Nat}(hn:w.heap.size≤n) (hb:Below n w w'):lR w':=fun p hp=>by
 obtain⟨ob,h1,h2⟩:=h p hp
 exact⟨ob,(hb.block p.1 (Nat.lt_of_lt_of_le (Array.getElem?_eq_some_iff.1 h1).1 hn)).trans h1,h2⟩
theorem Cr {P:Program}{f:FuncId}{args:List I}{r:I}(h: ∀(m:Mem) (af:List Value),lR m.w→aR m args af→Calls P f ⟨af⟩ m.w fun e w'=> ∃v,e= .returned v∧(∀m',aP m' r v)∧Below m.w.heap.size m.w w'):Pure P f args r:=by
 intro H m af hH rh hv
 subst hH
 refine (h m af rh.mx hv).mono fun e w' ⟨v,e1,e2,hb⟩=> ?_
 exact⟨.ret r,m.H,m.L,m.T,b9.hid rh hb.os hb.tape hb.output hb.size hb.block,b8.hid hb.os hb.tape hb.output hb.size hb.block,⟨v,e1,e2 _⟩,rfl,rfl⟩
theorem aa8 {u:Nat}(h: ¬u<10):Lib.decDigits u=Lib.decDigits (u/10)++[UInt8.ofNat (48+u%10)]:=by rw[Lib.decDigits,dif_neg h]
theorem aa7 {u:Nat}(h:u<10):Lib.decDigits u=[UInt8.ofNat (48+u)]:=by rw[Lib.decDigits,dif_pos h]
theorem Mj (u:Nat):(Lib.decDigits u).length≤u+1:=by
 induction u using Nat.strongRecOn with
 |ind u ih=>
  by_cases h:u<10
  ·rw[aa7 h]; simp
  ·rw[aa8 h]
   have:=ih (u/10) (by omega)
   rw[List.length_append,List.length_cons,List.length_nil]
   omega
theorem ya {z:Int}(h0: -1000000000≤z) (h1:z≤1000000000):(Lib.itoa z).length≤1000000002:=by
 unfold Lib.itoa
 split
 ·have:=Mj z.natAbs; simp only[List.length_cons]; omega
 ·have:=Mj z.toNat; omega
theorem WK (w:World) (q:Nat) (os:Array Obj):Below w.heap.size w (Go.Sort.grow (w.drewN q) os):=
 ⟨rfl,rfl,rfl,by simp [Go.Sort.grow,World.drewN],fun i ad=>by
  show ((w.drewN q).heap++os)[i]? = _
  rw[Array.getElem?_append_left (by exact ad)]
  rfl⟩
theorem DZ:Tryz.prog.globalNamed "internal/strconv.uint64pow10" =some 0:=by kernel_rfl
theorem ah1 {w:World}(hG:lR w):Lib.TabIs Tryz.prog w "internal/strconv.uint64pow10" .u64 Lib.pow10Tab:=by
 obtain⟨ob,h1,T,p2,h2⟩:=hG (0,_) (by simp only[Bh]; exact List.mem_cons_self)
 subst h2
 simp only at h1
 unfold Lib.TabIs World.var?
 rw[DZ]
 simp only[Option.bind_some,h1]
 rfl
theorem Cp (n:Int) (h0: -1000000000≤n) (h1:n≤1000000000):Pure Tryz.prog 217 [.int .i64 n] (.str (Lib.itoa n)):=by
 refine Cr fun m af hG hv=> ?_
 simp only[aR,aP]at hv
 obtain⟨_,_,rfl,rfl,rfl⟩:=hv
 refine (Any.strconv_Itoa Tryz.aA0 n (by omega) (by omega) m.w (ah1 hG)).mono ?_
 rintro e w' ⟨rfl,q,os,rfl⟩
 have hl:=ya h0 h1
 exact⟨_,rfl,fun m'=>by simp only[aP]; exact⟨trivial,by unfold maxLen; omega⟩,WK m.w q os⟩
theorem aG8 (n:Nat) (hn:n≤1000000):Pure Tryz.prog 308 [.str [9],.int .i64 (n:Int)] (.str (List.replicate n 9)):=by
 refine Cr fun m af hG hv=> ?_
 simp only[aR,aP]at hv
 obtain⟨v1,t1,rfl,h1,v2,t2,rfl,h2,rfl⟩:=hv
 obtain⟨h1,_⟩:=h1
 subst h1
 subst h2
 refine (Any.strings_Repeat Tryz.az6 Tryz.ae8 ⟨⟨[9]⟩⟩ n m.w (by omega) (by simp [ByteArray.size]; omega)).mono ?_
 rintro e w' ⟨rfl,hb⟩
 refine⟨_,rfl,fun m'=> ?_,hb⟩
 have e:=Go.Lib.repeatL_replicate 9 1 n
 rw[Nat.mul_one]at e
 simp only[aP]
 refine⟨?_,by simp [maxLen]; omega⟩
 change Value.string ⟨(Go.Lib.repeatL (List.replicate 1 9) n).toArray⟩= _
 rw[e]
theorem UT {m:Mem}: ∀ {xs:List (List UInt8)}{b o:Nat},ef m 1 (xs.map b6) b o→∀(j:Nat) x,xs[j]? =some x→m.w.cell? ⟨b,o+j,none⟩=some (.string ⟨⟨x⟩⟩)∧b<m.w.heap.size
 |[],_,_,_,j,x,hx=>by simp at hx
 |s::xs,b,o,h,j,x,hx=>by
  simp only[List.map_cons,b6,ef,fr,aP]at h
  obtain⟨_,⟨⟨v,h1,h2,h3,rfl,_⟩,_⟩,h4⟩:=h
  cases j with
  |zero=>simp at hx; subst hx; exact⟨h1,h3.lt⟩
  |succ j=>
   have:=UT h4 j x (by simpa using hx)
   rw[show o+1+j=o+(j+1) by omega]at this
   exact this
theorem RU (xs:List (List UInt8)) (sep:List UInt8) (hN:xs.length≤1000000) (hlen:(Lib.join xs sep).length≤1000000000):Pure Tryz.prog 219 [.af 1 (xs.map b6),.str sep] (.str (Lib.join xs sep)):=by
 refine Cr fun m af hG h=> ?_
 simp only[aR,aP]at h
 obtain⟨_,_,rfl,⟨a,len,cap,rfl,rfl,⟨hc1,hc2⟩,hcase⟩,_,_,rfl,⟨rfl,_⟩,rfl⟩:=h
 rw[List.length_map]at hcase hc1 ⊢
 have fin: ∀m':Mem,aP m' (.str (Lib.join xs sep)) (.string ⟨⟨Lib.join xs sep⟩⟩):=fun m'=>by simp only[aP]; exact⟨trivial,by unfold maxLen; omega⟩
 rcases hcase with h0|⟨b,o,rfl,hR⟩
 ·have hx:xs=[]:=List.length_eq_zero_iff.1 h0
  subst hx
  refine (Any.strings_Join_none Tryz.B3 Tryz.Bb a cap ⟨⟨sep⟩⟩ m.w).mono ?_
  rintro e w' ⟨rfl,rfl⟩
  exact⟨_,rfl,fin,Below.refl _ _⟩
 ·by_cases h0:xs.length=0
  ·have hx:xs=[]:=List.length_eq_zero_iff.1 h0
   subst hx
   refine (Any.strings_Join_none Tryz.B3 Tryz.Bb _ cap ⟨⟨sep⟩⟩ m.w).mono ?_
   rintro e w' ⟨rfl,rfl⟩
   exact⟨_,rfl,fin,Below.refl _ _⟩
  ·have hcells:=UT hR
   have hx0:=List.getElem?_eq_getElem (l:=xs) (i:=0) (by omega)
   have ej:(xs.map fun s=>(⟨⟨s⟩⟩:ByteArray)).map (·.data.toList)=xs:=by
    rw[List.map_map]
    exact (List.map_congr_left (fun _ _=>rfl)).trans (List.map_id xs)
   have:=Any.strings_Join Tryz.B3 Tryz.Bb b o cap (xs.map fun s=>⟨⟨s⟩⟩) ⟨⟨sep⟩⟩ m.w (fun j x hx=>by
    rw[List.getElem?_map,Option.map_eq_some_iff]at hx
    obtain⟨y,hy,rfl⟩:=hx
    exact (hcells j y hy).1) (hcells 0 _ hx0).2 (by simp; omega) (by simpa using hc1) (by rw[ej]; show (Lib.join xs sep).length≤ _; omega)
   rw[ej,List.length_map]at this
   refine this.mono ?_
   rintro e w' ⟨rfl,hb⟩
   exact⟨_,rfl,fin,hb⟩
def wg:ByteArray:=⟨#[46]⟩
def w5 (s:List UInt8):List (List UInt8):=(Lib.splitB wg 0 (Lib.countB ⟨⟨s⟩⟩ wg) ⟨⟨s⟩⟩).map (·.data.toList)
theorem U7 (sep:ByteArray): ∀(k:Nat) (s:ByteArray),∀x∈Lib.splitB sep 0 k s,x.size≤s.size
 |0,s,x,h=>by rw[Lib.splitB_zero]at h; simp at h; subst h; exact Nat.le_refl _
 |k+1,s,x,h=>by
  unfold Lib.splitB at h
  split at h
  ·simp at h; subst h; exact Nat.le_refl _
  ·rcases List.mem_cons.1 h with rfl|h
   ·rw[ByteArray.size_extract]; omega
   ·have:=U7 sep k _ x h
    rw[ByteArray.size_extract]at this
    omega
theorem aG7 (s:List UInt8) (hs:s.length≤1000):Pure Tryz.prog 297 [.str s,.str [46]] (.af 1 ((w5 s).map b6)):=by
 intro H m af hH rh hv
 subst hH
 simp only[aR,aP]at hv
 obtain⟨_,_,rfl,⟨rfl,_⟩,_,_,rfl,⟨rfl,_⟩,rfl⟩:=hv
 refine (aW8 Tryz.az7 (by kernel_rfl) ⟨⟨s⟩⟩ 46 m.w (by show s.length< _; omega)).mono ?_
 rintro e w' ⟨rfl,rfl⟩
 have hlen:=Lib.splitB_all wg (Nat.le_refl _) 0 _ ⟨⟨s⟩⟩ rfl
 have hn:(w5 s).length=Lib.countB ⟨⟨s⟩⟩ wg+1:=by rw[w5,List.length_map,hlen]
 have hle:=Lib.countB_le wg (Nat.le_refl _) s.length ⟨⟨s⟩⟩ (Nat.le_refl _)
 have hcl:(⟨⟨s⟩⟩:ByteArray).size=s.length:=rfl
 refine⟨.ret (.af 1 ((w5 s).map b6)),m.H,m.L,m.T,rh.alloc _,b8.alloc m _,⟨_,rfl,?_⟩,rfl,rfl⟩
 have hnew:(m.w.alloc (.cells ((Lib.splitB ⟨#[46]⟩ 0 (Lib.countB ⟨⟨s⟩⟩ ⟨#[46]⟩) ⟨⟨s⟩⟩).map Value.string).toArray (Tryz.Ex.t 9))).heap[m.w.heap.size]? =some (.cells ((Lib.splitB ⟨#[46]⟩ 0 (Lib.countB ⟨⟨s⟩⟩ ⟨#[46]⟩) ⟨⟨s⟩⟩).map Value.string).toArray (Tryz.Ex.t 9)):=u2 m.w _
 simp only[aP]
 refine⟨_,_,_,rfl,by rw[List.length_map]; exact hn.symm,⟨Nat.le_refl _,by unfold maxLen; have:Lib.countB ⟨⟨s⟩⟩ ⟨#[46]⟩=Lib.countB ⟨⟨s⟩⟩ wg:=rfl; omega⟩,.inr ⟨m.w.heap.size,0,rfl,?_⟩⟩
 refine ef.of (l:=(Lib.splitB ⟨#[46]⟩ 0 (Lib.countB ⟨⟨s⟩⟩ ⟨#[46]⟩) ⟨⟨s⟩⟩).map Value.string) (fun r ac=>by obtain⟨x,_,rfl⟩:=List.mem_map.1 ac; rfl) ?_ fun j v hj=>⟨?_,?_,?_,y3 rh,fun t i ht hb=> ?_⟩
 ·have key: ∀(l:List ByteArray),(∀x∈l,x.size≤s.length)→aR ⟨m.w.alloc (.cells ((Lib.splitB ⟨#[46]⟩ 0 (Lib.countB ⟨⟨s⟩⟩ ⟨#[46]⟩) ⟨⟨s⟩⟩).map Value.string).toArray (Tryz.Ex.t 9)),m.H,m.L,m.T⟩ ((l.map (·.data.toList)).map b6).flatten (l.map Value.string):=by
   intro l
   induction l with
   |nil=>intro _; simp [aR]
   |cons x l ih=>
    intro h
    simp only[List.map_cons,List.flatten_cons,b6,List.cons_append,List.nil_append,aR,aP]
    refine⟨_,_,rfl,⟨rfl,?_⟩,ih fun y hy=>h y (List.mem_cons_of_mem _ hy)⟩
    have:x.size≤s.length:=h x List.mem_cons_self
    show x.data.toList.length≤maxLen
    have e:x.data.toList.length=x.size:=rfl
    rw[e]; unfold maxLen; omega
  exact key _ fun x hx=>U7 _ _ _ x hx
 ·rw[Nat.zero_add]
  simp only[World.cell?,hnew]
  simpa using hj
 ·obtain⟨x,_,rfl⟩:=List.mem_map.1 (List.mem_of_getElem? hj)
  rfl
 ·exact (Array.getElem?_eq_some_iff.1 hnew).1
 ·exact absurd (w9 rh ht hb) (Nat.lt_irrefl _)
end Go.aO.T.N
