/- Part of a proof; own work. -/
import Derived.Below
import Derived.KernelRfl
import Derived.Shelf.SlGeneric
import Derived.Ground.NamesProg
import Derived.Ground.Names8Prog
import Derived.Shelf.Strconv.Itoa3
import Derived.Shelf.Strings.Repeat
import Derived.Shelf.Strings.Split
import Derived.Shelf.Strings.OnBuilder
import Derived.Shelf.Strings.Search3
import Derived.Shelf.Strings.Count
import Derived.Shelf.Strings.Runes
import Derived.Shelf.Strings.BuilderK
import Derived.Shelf.Spec.SlicesGrow
import Derived.Test.YtlemhelnmidpfaaGreatDoorProg
import Derived.Shelf.Strings.Builder1
import Derived.Test.YtlemhelnmidpfaaGreatDoorVS5
set_option linter.unusedVariables false
set_option linter.unusedSimpArgs false
set_option maxRecDepth 100000
open Array renaming getElem?_modify→bc3
open Bool renaming and_self→aT7
open List renaming mem_cons_of_mem→aY7,length_cons→aT3,length_map→aT1,map_cons→aU5,length_nil→aU1,cons_append→aU4,nil_append→aV1,take_add_one→aW8,take_append_drop→bc1,replicate→aU2,length_drop→bd3,length_take→aX3,length_append→aT2
open Nat renaming le_refl→aT4,le_succ→bf1,zero_add→aW6,zero_le→aT8,reduceBEq→bd1,le_of_ble_eq_true→aZ3,reduceAdd→bd2
open Go.Proofs.Tryz renaming prog→aS9,underlying0→bd4,isAgg0→bh7,sizeOf0→bg8,zeroValue0→be0,underlying3→bd5,isAgg3→bh8,sizeOf3→bg9,zeroValue3→be1,underlying4→bb9,isAgg4→bh9,sizeOf4→bh0,zeroValue4→be2,underlying5→bf3,isAgg5→bj3,sizeOf5→bi7,zeroValue5→bf8,underlying9→bd6,isAgg9→bi0,sizeOf9→bh1,zeroValue9→be3,underlying20→bg2,isAgg20→bj6,sizeOf20→bj4,zeroValue20→bh6,underlying65→bk8,sizeOf65→bl9,zeroValue65→bk9,underlying281→bi3,isAgg281→bk3,sizeOf281→bj8,zeroValue281→bj0,underlying363→bi4,isAgg363→bk4,sizeOf363→bj9,zeroValue363→bj1
namespace Go.Proofs
open Go.Shelf
def Tryz.ZE:Go.Shelf.Ren:=⟨fun|171=>217|243=>310|246=>362|283=>389|284=>390|285=>391|286=>392|129=>287|317=>405|318=>406|319=>407|320=>408|337=>411|338=>412|n=>n,fun|3=>3|9=>9|2=>2|4=>4|171=>451|0=>0|53=>365|37=>65|5=>5|173=>453|212=>461|51=>363|20=>20|213=>462|46=>281|232=>468|233=>469|n=>n,fun|17=>0|18=>4|19=>5|n=>n⟩
theorem Tryz.ZD:Go.Proofs.LaysM.n171 aS9 Tryz.ZE:={
 mixed:=by kernel_rfl
 f129:=Tryz.func287.trans (congrArg some (by kernel_rfl))
 f171:=Tryz.func217.trans (congrArg some (by kernel_rfl))
 f243:=Tryz.func310.trans (congrArg some (by kernel_rfl))
 f246:=Tryz.func362.trans (congrArg some (by kernel_rfl))
 f283:=Tryz.func389.trans (congrArg some (by kernel_rfl))
 f284:=Tryz.func390.trans (congrArg some (by kernel_rfl))
 f285:=Tryz.func391.trans (congrArg some (by kernel_rfl))
 f286:=Tryz.func392.trans (congrArg some (by kernel_rfl))
 f317:=Tryz.func405.trans (congrArg some (by kernel_rfl))
 f318:=Tryz.func406.trans (congrArg some (by kernel_rfl))
 f319:=Tryz.func407.trans (congrArg some (by kernel_rfl))
 f320:=Tryz.func408.trans (congrArg some (by kernel_rfl))
 f337:=Tryz.func411.trans (congrArg some (by kernel_rfl))
 f338:=Tryz.func412.trans (congrArg some (by kernel_rfl))
 t0:=bd4
 a0:=bh7
 z0:=bg8
 v0:=be0
 t2:=Tryz.underlying2
 a2:=Tryz.isAgg2
 z2:=Tryz.sizeOf2
 v2:=Tryz.zeroValue2
 t3:=bd5
 a3:=bh8
 z3:=bg9
 v3:=be1
 t4:=bb9
 a4:=bh9
 z4:=bh0
 v4:=be2
 t5:=bf3
 a5:=bj3
 z5:=bi7
 v5:=bf8
 t9:=bd6
 a9:=bi0
 z9:=bh1
 v9:=be3
 t20:=bg2
 a20:=bj6
 z20:=bj4
 v20:=bh6
 t37:=bk8
 a37:=Tryz.isAgg65
 z37:=bl9
 v37:=bk9
 t46:=bi3
 a46:=bk3
 z46:=bj8
 v46:=bj0
 t51:=bi4
 a51:=bk4
 z51:=bj9
 v51:=bj1
 t53:=Tryz.underlying365
 a53:=Tryz.isAgg365
 z53:=Tryz.sizeOf365
 v53:=Tryz.zeroValue365
 t171:=Tryz.underlying451
 a171:=Tryz.isAgg451
 z171:=Tryz.sizeOf451
 v171:=Tryz.zeroValue451
 t173:=Tryz.underlying453
 a173:=Tryz.isAgg453
 z173:=Tryz.sizeOf453
 v173:=Tryz.zeroValue453
 t212:=Tryz.underlying461
 a212:=Tryz.isAgg461
 z212:=Tryz.sizeOf461
 v212:=Tryz.zeroValue461
 t213:=Tryz.underlying462
 a213:=Tryz.isAgg462
 z213:=Tryz.sizeOf462
 t232:=Tryz.underlying468
 a232:=Tryz.isAgg468
 z232:=Tryz.sizeOf468
 v232:=Tryz.zeroValue468
 t233:=Tryz.underlying469
 a233:=Tryz.isAgg469
 z233:=Tryz.sizeOf469
 v233:=Tryz.zeroValue469
 g17:=by kernel_rfl
 g18:=by kernel_rfl
 g19:=by kernel_rfl
 i0:=by kernel_rfl
 i2:=by kernel_rfl
 i3:=by kernel_rfl
 i4:=by kernel_rfl
 i5:=by kernel_rfl
 i9:=by kernel_rfl
 i20:=by kernel_rfl
 i37:=by kernel_rfl
 i46:=by kernel_rfl
 i51:=by kernel_rfl
 i53:=by kernel_rfl
 i171:=by kernel_rfl
 i173:=by kernel_rfl
 i212:=by kernel_rfl
 i232:=by kernel_rfl
 i233:=by kernel_rfl
 m17:=by kernel_rfl
 m18:=by kernel_rfl
 m19:=by kernel_rfl}
def Tryz.Bd:Go.Shelf.Ren:=⟨fun|146=>297|221=>357|268=>386|138=>387|143=>371|195=>402|197=>403|218=>404|219=>398|260=>410|217=>370|225=>396|224=>395|267=>409|266=>397|314=>413|n=>n,fun|9=>9|31=>27|3=>3|4=>4|0=>0|105=>459|21=>21|5=>5|46=>281|119=>464|139=>467|138=>466|146=>440|51=>363|n=>n,fun|1=>1|3=>2|4=>3|n=>n⟩
theorem Tryz.ZA:Go.Proofs.Lays.n146 aS9 Tryz.Bd:={
 mixed:=by kernel_rfl
 f138:=Tryz.func387.trans (congrArg some (by kernel_rfl))
 f143:=Tryz.func371.trans (congrArg some (by kernel_rfl))
 f146:=Tryz.func297.trans (congrArg some (by kernel_rfl))
 f195:=Tryz.func402.trans (congrArg some (by kernel_rfl))
 f197:=Tryz.func403.trans (congrArg some (by kernel_rfl))
 f217:=Tryz.func370.trans (congrArg some (by kernel_rfl))
 f218:=Tryz.func404.trans (congrArg some (by kernel_rfl))
 f219:=Tryz.func398.trans (congrArg some (by kernel_rfl))
 f221:=Tryz.func357.trans (congrArg some (by kernel_rfl))
 f224:=Tryz.func395.trans (congrArg some (by kernel_rfl))
 f225:=Tryz.func396.trans (congrArg some (by kernel_rfl))
 f260:=Tryz.func410.trans (congrArg some (by kernel_rfl))
 f266:=Tryz.func397.trans (congrArg some (by kernel_rfl))
 f267:=Tryz.func409.trans (congrArg some (by kernel_rfl))
 f268:=Tryz.func386.trans (congrArg some (by kernel_rfl))
 f314:=Tryz.func413.trans (congrArg some (by kernel_rfl))
 t0:=bd4
 a0:=bh7
 z0:=bg8
 v0:=be0
 t3:=bd5
 a3:=bh8
 z3:=bg9
 v3:=be1
 t4:=bb9
 a4:=bh9
 z4:=bh0
 v4:=be2
 t5:=bf3
 a5:=bj3
 z5:=bi7
 v5:=bf8
 t9:=bd6
 a9:=bi0
 z9:=bh1
 v9:=be3
 t21:=Tryz.underlying21
 a21:=Tryz.isAgg21
 z21:=Tryz.sizeOf21
 v21:=Tryz.zeroValue21
 t31:=Tryz.underlying27
 a31:=Tryz.isAgg27
 z31:=Tryz.sizeOf27
 v31:=Tryz.zeroValue27
 t46:=bi3
 a46:=bk3
 z46:=bj8
 v46:=bj0
 t51:=bi4
 a51:=bk4
 z51:=bj9
 v51:=bj1
 t105:=Tryz.underlying459
 a105:=Tryz.isAgg459
 z105:=Tryz.sizeOf459
 v105:=Tryz.zeroValue459
 t119:=Tryz.underlying464
 a119:=Tryz.isAgg464
 z119:=Tryz.sizeOf464
 t138:=Tryz.underlying466
 a138:=Tryz.isAgg466
 z138:=Tryz.sizeOf466
 v138:=Tryz.zeroValue466
 t139:=Tryz.underlying467
 a139:=Tryz.isAgg467
 z139:=Tryz.sizeOf467
 v139:=Tryz.zeroValue467
 t146:=Tryz.underlying440
 a146:=Tryz.isAgg440
 z146:=Tryz.sizeOf440
 v146:=Tryz.zeroValue440
 g1:=by kernel_rfl
 g3:=by kernel_rfl
 g4:=by kernel_rfl}
def Tryz.L6:Go.Shelf.Ren:=⟨fun|105=>308|212=>340|99=>324|165=>312|166=>307|170=>361|169=>223|263=>381|264=>382|206=>369|240=>360|241=>363|276=>388|277=>393|n=>n,fun|9=>9|3=>3|4=>4|20=>20|0=>0|46=>281|109=>403|5=>5|72=>302|76=>377|51=>363|146=>440|53=>365|148=>442|70=>300|37=>65|75=>376|127=>382|164=>449|80=>310|n=>n,fun|n=>n⟩
theorem Tryz.Zz:Go.Proofs.Lays.n105 aS9 Tryz.L6:={
 mixed:=by kernel_rfl
 f99:=Tryz.func324.trans (congrArg some (by kernel_rfl))
 f105:=Tryz.func308.trans (congrArg some (by kernel_rfl))
 f165:=Tryz.func312.trans (congrArg some (by kernel_rfl))
 f166:=Tryz.func307.trans (congrArg some (by kernel_rfl))
 f169:=Tryz.func223.trans (congrArg some (by kernel_rfl))
 f170:=Tryz.func361.trans (congrArg some (by kernel_rfl))
 f206:=Tryz.func369.trans (congrArg some (by kernel_rfl))
 f212:=Tryz.func340.trans (congrArg some (by kernel_rfl))
 f240:=Tryz.func360.trans (congrArg some (by kernel_rfl))
 f241:=Tryz.func363.trans (congrArg some (by kernel_rfl))
 f263:=Tryz.func381.trans (congrArg some (by kernel_rfl))
 f264:=Tryz.func382.trans (congrArg some (by kernel_rfl))
 f276:=Tryz.func388.trans (congrArg some (by kernel_rfl))
 f277:=Tryz.func393.trans (congrArg some (by kernel_rfl))
 t0:=bd4
 a0:=bh7
 z0:=bg8
 v0:=be0
 t3:=bd5
 a3:=bh8
 z3:=bg9
 v3:=be1
 t4:=bb9
 a4:=bh9
 z4:=bh0
 v4:=be2
 t5:=bf3
 a5:=bj3
 z5:=bi7
 v5:=bf8
 t9:=bd6
 a9:=bi0
 z9:=bh1
 v9:=be3
 t20:=bg2
 a20:=bj6
 z20:=bj4
 v20:=bh6
 t37:=bk8
 a37:=Tryz.isAgg65
 z37:=bl9
 v37:=bk9
 t46:=bi3
 a46:=bk3
 z46:=bj8
 v46:=bj0
 t51:=bi4
 a51:=bk4
 z51:=bj9
 v51:=bj1
 t53:=Tryz.underlying365
 a53:=Tryz.isAgg365
 z53:=Tryz.sizeOf365
 v53:=Tryz.zeroValue365
 t70:=Tryz.underlying300
 a70:=Tryz.isAgg300
 z70:=Tryz.sizeOf300
 v70:=Tryz.zeroValue300
 t72:=Tryz.underlying302
 a72:=Tryz.isAgg302
 z72:=Tryz.sizeOf302
 v72:=Tryz.zeroValue302
 t75:=Tryz.underlying376
 a75:=Tryz.isAgg376
 z75:=Tryz.sizeOf376
 v75:=Tryz.zeroValue376
 t76:=Tryz.underlying377
 a76:=Tryz.isAgg377
 z76:=Tryz.sizeOf377
 v76:=Tryz.zeroValue377
 t109:=Tryz.underlying403
 a109:=Tryz.isAgg403
 z109:=Tryz.sizeOf403
 v109:=Tryz.zeroValue403
 t127:=Tryz.underlying382
 a127:=Tryz.isAgg382
 z127:=Tryz.sizeOf382
 v127:=Tryz.zeroValue382
 t146:=Tryz.underlying440
 a146:=Tryz.isAgg440
 z146:=Tryz.sizeOf440
 v146:=Tryz.zeroValue440
 t148:=Tryz.underlying442
 a148:=Tryz.isAgg442
 z148:=Tryz.sizeOf442
 v148:=Tryz.zeroValue442
 t164:=Tryz.underlying449
 a164:=Tryz.isAgg449
 z164:=Tryz.sizeOf449
 v164:=Tryz.zeroValue449}
def Tryz.yL:Go.Shelf.Ren:=⟨fun|156=>219|165=>312|166=>307|169=>223|240=>360|241=>363|276=>388|277=>393|n=>n,fun|31=>27|9=>9|3=>3|4=>4|0=>0|20=>20|72=>302|76=>377|70=>300|37=>65|75=>376|127=>382|164=>449|5=>5|80=>310|n=>n,fun|n=>n⟩
theorem Tryz.yK:Go.Proofs.Lays.n156 aS9 Tryz.yL:={
 mixed:=by kernel_rfl
 f156:=Tryz.func219.trans (congrArg some (by kernel_rfl))
 f165:=Tryz.func312.trans (congrArg some (by kernel_rfl))
 f166:=Tryz.func307.trans (congrArg some (by kernel_rfl))
 f169:=Tryz.func223.trans (congrArg some (by kernel_rfl))
 f240:=Tryz.func360.trans (congrArg some (by kernel_rfl))
 f241:=Tryz.func363.trans (congrArg some (by kernel_rfl))
 f276:=Tryz.func388.trans (congrArg some (by kernel_rfl))
 f277:=Tryz.func393.trans (congrArg some (by kernel_rfl))
 t0:=bd4
 a0:=bh7
 z0:=bg8
 v0:=be0
 t3:=bd5
 a3:=bh8
 z3:=bg9
 v3:=be1
 t4:=bb9
 a4:=bh9
 z4:=bh0
 v4:=be2
 t9:=bd6
 a9:=bi0
 z9:=bh1
 v9:=be3
 t20:=bg2
 a20:=bj6
 z20:=bj4
 v20:=bh6
 t31:=Tryz.underlying27
 a31:=Tryz.isAgg27
 z31:=Tryz.sizeOf27
 v31:=Tryz.zeroValue27
 t37:=bk8
 a37:=Tryz.isAgg65
 z37:=bl9
 v37:=bk9
 t70:=Tryz.underlying300
 a70:=Tryz.isAgg300
 z70:=Tryz.sizeOf300
 v70:=Tryz.zeroValue300
 t72:=Tryz.underlying302
 a72:=Tryz.isAgg302
 z72:=Tryz.sizeOf302
 v72:=Tryz.zeroValue302
 t75:=Tryz.underlying376
 a75:=Tryz.isAgg376
 z75:=Tryz.sizeOf376
 v75:=Tryz.zeroValue376
 t76:=Tryz.underlying377
 a76:=Tryz.isAgg377
 z76:=Tryz.sizeOf377
 v76:=Tryz.zeroValue377
 t127:=Tryz.underlying382
 a127:=Tryz.isAgg382
 z127:=Tryz.sizeOf382
 v127:=Tryz.zeroValue382
 t164:=Tryz.underlying449
 a164:=Tryz.isAgg449
 z164:=Tryz.sizeOf449
 v164:=Tryz.zeroValue449}
def Tryz.Wt:Go.Shelf.Ren:=⟨fun|4=>303|n=>n,fun|22=>78|25=>80|3=>3|4=>4|9=>9|20=>20|0=>0|n=>n,fun|n=>n⟩
theorem Tryz.KN:Go.Proofs.Lays8.n4 aS9 Tryz.Wt:={
 mixed:=by kernel_rfl
 f4:=⟨Tryz.f303.name,by decide,Tryz.func303.trans (congrArg some (by kernel_rfl))⟩
 t0:=bd4
 a0:=bh7
 z0:=bg8
 v0:=be0
 t3:=bd5
 a3:=bh8
 z3:=bg9
 v3:=be1
 t4:=bb9
 a4:=bh9
 z4:=bh0
 v4:=be2
 t9:=bd6
 a9:=bi0
 z9:=bh1
 v9:=be3
 t20:=bg2
 a20:=bj6
 z20:=bj4
 v20:=bh6
 t22:=Tryz.underlying78
 a22:=Tryz.isAgg78
 z22:=Tryz.sizeOf78
 v22:=Tryz.zeroValue78}
def Tryz.Wu:Go.Shelf.Ren:=⟨fun|4=>355|n=>n,fun|22=>77|25=>82|3=>3|4=>4|9=>9|20=>20|0=>0|n=>n,fun|n=>n⟩
theorem Tryz.KO:Go.Proofs.Lays8.n4 aS9 Tryz.Wu:={
 mixed:=by kernel_rfl
 f4:=⟨Tryz.f355.name,by decide,Tryz.func355.trans (congrArg some (by kernel_rfl))⟩
 t0:=bd4
 a0:=bh7
 z0:=bg8
 v0:=be0
 t3:=bd5
 a3:=bh8
 z3:=bg9
 v3:=be1
 t4:=bb9
 a4:=bh9
 z4:=bh0
 v4:=be2
 t9:=bd6
 a9:=bi0
 z9:=bh1
 v9:=be3
 t20:=bg2
 a20:=bj6
 z20:=bj4
 v20:=bh6
 t22:=Tryz.underlying77
 a22:=Tryz.isAgg77
 z22:=Tryz.sizeOf77
 v22:=Tryz.zeroValue77}
theorem Tryz.ZC:Go.Proofs.Lays.n240 aS9 Tryz.yL:={Tryz.yK with}
theorem Tryz.ZB:Go.Proofs.Lays.n169 aS9 Tryz.yL:={Tryz.yK with}
theorem Tryz.yb:Builder.Extra aS9 Tryz.yL:={
 sizeBuilder:=by kernel_rfl
 liesBuilder:=by kernel_rfl
 t5:=bf3
 a5:=bj3
 z5:=bi7
 v5:=bf8
 infoByte:=by kernel_rfl
 cellsByte:=by kernel_rfl
 sizeByte:=by kernel_rfl
 neB5:=by decide}
theorem Tryz.VY:Builder.Extra aS9 Tryz.L6:={
 sizeBuilder:=by kernel_rfl
 liesBuilder:=by kernel_rfl
 t5:=bf3
 a5:=bj3
 z5:=bi7
 v5:=bf8
 infoByte:=by kernel_rfl
 cellsByte:=by kernel_rfl
 sizeByte:=by kernel_rfl
 neB5:=by decide}
end Go.Proofs
namespace Go.aX
open Go Go.Proofs Go.Shelf Go.RowKit
variable {P:Program}{ρ:Ren}
set_option maxHeartbeats 1000000 in
set_option maxRecDepth 100000 in
theorem UN (L:Lays.n240 P ρ) (X:Builder.X72 P ρ){T:TypeId}{n:Nat}(hn:0<n) (hl:liesAt P P.depth T (n/P.cellsOf T) 0 (ρ.t 72) 1=true) (b:Nat) (w:World) (h0:w.cell? ⟨b,0,none⟩=some (.pointer none)) (hsh:w.shape? b=some (T,n)) (hfz:w.frozen? ⟨b,0,none⟩=false):
  Calls P (ρ.f 240) #[.pointer (some ⟨b,0,none⟩)] w fun e w'=>e= .returned (.tuple #[])∧w'=w.setCell ⟨b,0,none⟩ (.pointer (some ⟨b,0,none⟩)):=by
 obtain⟨j,hj,hjs⟩:=Option.map_eq_some_iff.1 X.sizeBuilder
 have mixed:=L.mixed
 have t72:=L.t72; have a72:=L.a72; have z72:=L.z72; have v72:=L.v72; have u72:=run_underlying L.t72
 have t70:=L.t70; have a70:=L.a70; have z70:=L.z70; have v70:=L.v70; have u70:=run_underlying L.t70
 have t9:=L.t9; have a9:=L.a9; have z9:=L.z9; have v9:=L.v9; have u9:=run_underlying L.t9
 have t4:=L.t4; have a4:=L.a4; have z4:=L.z4; have v4:=L.v4; have u4:=run_underlying L.t4
 have t164:=L.t164; have a164:=L.a164; have z164:=L.z164; have v164:=L.v164; have F3:=run_underlying L.t164
 go_enter L.f240,Body.n240_ntmps ρ
 go_wp2
 rw[Lib.run_to_unsafe w ⟨b,0,none⟩ L.t70 L.t164 hj (by rw[hjs]; decide) hsh hn]
 simp only[Result.andThen]
 rw[Oper.upon_value]
 go_wp2
 rw[run_callFunc_extern L.f276 (by kernel_rfl) (by kernel_rfl) (by kernel_rfl) (e:=Extern.AbiNoEscape.same) (by kernel_rfl)]
 rw[Lib.run_noEscape]
 simp only[Result.andThen]
 rw[Oper.upon_value]
 go_wp2
 rw[Lib.run_from_unsafe w ⟨b,0,none⟩ L.t164 L.t70 hj hsh hl]
 simp only[Result.andThen]
 rw[Oper.upon_value]
 go_wp2
 go_end0
 exact⟨rfl,rfl⟩
set_option maxHeartbeats 1000000 in
set_option maxRecDepth 100000 in
theorem aw1 (L:Lays.n169 P ρ) (X:Builder.Extra P ρ) (b g cap:Nat) (cur:Array Value) (l:List UInt8) (w:World) (c1:w.drew.cell? ⟨b,1,none⟩=some (.slice (some ⟨g,0,none⟩) l.length cap)) (h0:l≠[]) (hg:w.drew.heap[g]? =some (.cells cur (ρ.t 5) (0,0))) (hnc:l.length≤cap) (hcm:cap≤maxLen) (hcs:cur.size=cap*1)
  (hcell: ∀j x,l[j]? =some x→w.drew.cell? ((⟨g,0,none⟩:Addr).add j)=some (.int .u8 x.toNat)):
  Calls P (ρ.f 169) #[.pointer (some ⟨b,0,none⟩)] w fun e w'=>e= .returned (.string ⟨l.toArray⟩)∧w'=w.drew.freeze ⟨g,0,none⟩ l.length:=by
 have hl0:l.length≠0:=by simpa using h0
 have hSD:(Builtin.unsafeSliceData_ #[(ρ.t 37)] (ρ.t 127) #[.slice (some ⟨g,0,none⟩) l.length cap]).run P w.drew= .ok (.pointer (some ⟨g,0,none⟩)) w.drew:=
  Lib.run_unsafeSliceData_row _ _ _ _ _ _ (by omega)
 have hUS:(Builtin.unsafeString_ #[(ρ.t 127),(ρ.t 3)] (ρ.t 9) #[.pointer (some ⟨g,0,none⟩),.int .i64 l.length]).run P w.drew= .ok (.string ⟨l.toArray⟩) (w.drew.freeze ⟨g,0,none⟩ l.length):=
  Lib.run_unsafeString_row w.drew (ρ.t 127) (ρ.t 3) (ρ.t 9) (ρ.t 5) L.t127 X.cellsByte g cur.size (by simp [World.shape?,hg]) l h0 (by omega) (by unfold maxLen at hcm; omega) hcell
 have mixed:=L.mixed
 have t72:=L.t72; have a72:=L.a72; have z72:=L.z72; have v72:=L.v72; have u72:=run_underlying L.t72
 have t70:=L.t70; have a70:=L.a70; have z70:=L.z70; have v70:=L.v70; have u70:=run_underlying L.t70
 have t37:=L.t37; have a37:=L.a37; have z37:=L.z37; have v37:=L.v37; have u37:=run_underlying L.t37
 have t127:=L.t127; have a127:=L.a127; have z127:=L.z127; have v127:=L.v127; have QS:=run_underlying L.t127
 have t3:=L.t3; have a3:=L.a3; have z3:=L.z3; have v3:=L.v3; have u3:=run_underlying L.t3
 have t9:=L.t9; have a9:=L.a9; have z9:=L.z9; have v9:=L.v9; have u9:=run_underlying L.t9
 have t5:=X.t5; have a5:=X.a5; have z5:=X.z5; have v5:=X.v5; have u5:=run_underlying X.t5
 go_enter L.f169,Body.n169_ntmps ρ
 go_wp2
 go_region_o
 all_goals (go_wp2; go_ret; exact⟨rfl,rfl⟩)
end Go.aX
namespace Go.aX
open Go Go.Proofs Go.Shelf Go.RowKit
def gQ (c:UInt8):List I:=[.int .u8 c.toNat]
def Mem.uL (m:Mem) (w':World) (t:Nat) (i:bB):Mem:=⟨w',m.H.b7 t (.bc i.ty i.size (i.ver+1) []),fun x=>if x=t then .slice none 0 0 else m.L x,m.T⟩
section
variable {m:Mem}{w':World}{t g:Nat}{i:bB}
theorem yg {t':Nat}{i':bB}(h:(m.uL w' t i).H.tok t'=some i'):(t'=t∧i'= .bc i.ty i.size (i.ver+1) []∧(m.uL w' t i).L t'= .slice none 0 0)∨(t'≠t∧m.H.tok t'=some i'∧(m.uL w' t i).L t'=m.L t'):=by
 simp only[Mem.uL,aw.b7]at h ⊢
 by_cases e:t'=t
 ·rw[if_pos e]at h
  cases h
  exact .inl ⟨e,rfl,if_pos e⟩
 ·rw[if_neg e]at h
  exact .inr ⟨e,h,if_neg e⟩
theorem bH.uI (ae:m.H.tok t=some i) (hg:(m.L t).dV=some g) (h1:w'.os=m.w.os) (h2:w'.tape=m.w.tape) (h3:w'.output=m.w.output) (h4:w'.heap.size=m.w.heap.size) (h5: ∀k,k≠g→w'.heap[k]? =m.w.heap[k]?) (h6: ∀k o,w'.cell? ⟨k,o,none⟩=m.w.cell? ⟨k,o,none⟩):bH m (m.uL w' t i) where
 os:=h1
 tape:=h2
 output:=h3
 size:=by show m.w.heap.size≤w'.heap.size; omega
 T:=aT4 _
 block:=fun b hb h h'=>⟨h5 b fun e=>h' t i ae (by rw[hg,e]),h,fun t' i' ht'=>by
  rcases yg ht' with ⟨_,_,e⟩|⟨_,e1,e2⟩
  ·rw[e]; simp [Value.dV]
  ·rw[e2]; exact h' t' i' e1⟩
 cell:=fun b o an=>⟨⟨by show b<w'.heap.size; rw[h4]; exact an.lt,an.aV,fun t' i' ht' hb'=>by
  rcases yg ht' with ⟨_,_,e⟩|⟨_,e1,e2⟩
  ·rw[e]at hb'; simp [Value.dV]at hb'
  ·rw[e2]at hb'; exact an.tok t' i' e1 hb'⟩,h6 b o⟩
 tok:=fun t' i' _ h=>by
  rcases yg h with ⟨rfl,rfl,e⟩|⟨_,e1,e2⟩
  ·exact⟨i,ae,bf1 _,rfl,fun e=>absurd e (Nat.succ_ne_self _)⟩
  ·exact⟨i',e1,aT4 _,rfl,fun _=>e2⟩
theorem bG.uI (r:bG m) (ae:m.H.tok t=some i) (hg:(m.L t).dV=some g) (h1:w'.os=m.w.os) (h2:w'.tape=m.w.tape) (h3:w'.output=m.w.output) (h4:w'.heap.size=m.w.heap.size) (h5: ∀k,k≠g→w'.heap[k]? =m.w.heap[k]?) (h6: ∀k o,w'.cell? ⟨k,o,none⟩=m.w.cell? ⟨k,o,none⟩):bG (m.uL w' t i) where
 kr:=(pd.aC (bH.uI ae hg h1 h2 h3 h4 h5 h6) r.kr r.ks).1
 ks:=(pd.aC (bH.uI ae hg h1 h2 h3 h4 h5 h6) r.kr r.ks).2
 aV:=fun b T cs hb=>by
  obtain⟨l,e1,e2,bD⟩:=r.aV b T cs hb
  have hne:b≠g:=fun e=>by
   have:=((r.tok t i ae).2.2.2 g hg).1
   rw[←e]at this
   rw[show (m.uL w' t i).H.aV b=m.H.aV b from rfl,this]at hb
   cases hb
  exact⟨l,(h5 b hne).trans e1,aM.aC (bH.uI ae hg h1 h2 h3 h4 h5 h6) _ l e2,bD⟩
 tok:=fun t' i' ht'=>by
  rcases yg ht' with ⟨rfl,rfl,e⟩|⟨hne,aF,e2⟩
  ·obtain⟨k1,k2,_,_⟩:=r.tok t' i ae
   refine⟨k1,k2,⟨[],by rw[e]; exact⟨by simp [bB.bc,bB.len],.inl ⟨rfl,rfl⟩⟩,fun rows ab=> ?_⟩,fun b hb=>by rw[e]at hb; simp [Value.dV]at hb⟩
   simp only[bB.bc,Option.some.injEq]at ab
   subst ab
   exact⟨by simp [aM],fun _ h=>by simp at h,fun _ h=>by simp at h⟩
  ·obtain⟨k1,k2,⟨xs,k3,k5⟩,k4⟩:=r.tok t' i' aF
   rw[e2]
   refine⟨k1,k2,⟨xs,w8 k3 fun k hk=>h5 k fun e=> ?_,fun rows ab=>⟨aM.aC (bH.uI ae hg h1 h2 h3 h4 h5 h6) _ _ (k5 rows ab).1,(k5 rows ab).2⟩⟩,fun b hb=> ?_⟩
   ·subst e
    exact hne ((r.tok t i ae).2.2.2 k hg|>.2 t' i' aF hk)
   ·obtain⟨g1,g2⟩:=k4 b hb
    refine⟨g1,fun t2 i2 h2' hb2=> ?_⟩
    rcases yg h2' with ⟨_,_,e⟩|⟨_,e1,bD⟩
    ·rw[e]at hb2; simp [Value.dV]at hb2
    ·rw[bD]at hb2; exact g2 t2 i2 e1 hb2
end
section
variable {P:Program}{ρ:Ren}{H:aw}
theorem Uv (L:Lays.n240 P ρ) (X:Builder.X72 P ρ){T:TypeId}{b:Nat}{a:I}{cs:List I}(hl:liesAt P P.depth T ((cs.length+1)/P.cellsOf T) 0 (ρ.t 72) 1=true) (hb:H.aV b=some (T,a::cs)) (aL:a= .dI (.pointer none)∨a= .ptr b 0):
  iu P (ρ.f 240) [.ptr b 0] H fun o H'=>o= .ret (.cV [])∧H'=H.cc b T (.ptr b 0::cs):=by
 intro m ak hH rh hv
 subst hH
 simp only[aM,aK]at hv
 obtain⟨_,_,rfl,rfl,rfl⟩:=hv
 obtain⟨l,g1,g2,g3⟩:=rh.aV b T _ hb
 have hlen:=aM.length g2
 simp only[aM]at g2
 obtain⟨v,l,rfl,hva,hvl⟩:=g2
 have hlt:b<m.w.heap.size:=(Array.getElem?_eq_some_iff.1 g1).1
 have c0:m.w.cell? ⟨b,0,none⟩=some v:=by simp [World.cell?,g1]
 have e1:aM m (.ptr b 0::cs) (.pointer (some ⟨b,0,none⟩)::l):=by simp only[aM,aK]; exact⟨_,_,rfl,rfl,hvl⟩
 have e2: ∀v∈Value.pointer (some ⟨b,0,none⟩)::l,v.oneCell'=true:=fun x hx=>by
  rcases List.mem_cons.1 hx with rfl|hx
  ·rfl
  ·exact g3 x (aY7 _ hx)
 rcases aL with rfl|rfl
 ·simp only[aK]at hva
  subst hva
  have hsh:m.w.shape? b=some (T,cs.length+1):=by
   simp only[aT3]at hlen
   simp [World.shape?,g1]; omega
  have hfz:m.w.frozen? ⟨b,0,none⟩=false:=by simp [World.frozen?,g1]
  refine (UN L X (Nat.succ_pos _) hl b m.w c0 hsh hfz).mono ?_
  rintro e w' ⟨rfl,rfl⟩
  have h5: ∀k,k≠b→(m.w.setCell ⟨b,0,none⟩ (.pointer (some ⟨b,0,none⟩))).heap[k]? =m.w.heap[k]? :=fun k hk=>by
   simp only[World.setCell,bc3]
   rw[if_neg (fun e=>hk e.symm)]
  have h6:(m.w.setCell ⟨b,0,none⟩ (.pointer (some ⟨b,0,none⟩))).heap[b]? =some (.cells ⟨.pointer (some ⟨b,0,none⟩)::l⟩ T (0,0)):=by
   simp [World.setCell,bc3,g1]
  exact⟨.ret (.cV []),_,m.L,m.T,bG.ic rh hb rfl rfl rfl (by simp [World.setCell]) h5 h6 e1 e2,bH.ic rh hb rfl rfl rfl (by simp [World.setCell]) h5,⟨_,rfl,by simp only[aK,aM]; exact⟨_,rfl,rfl⟩⟩,rfl,rfl⟩
 ·simp only[aK]at hva
  subst hva
  refine (Any.Builder_copyCheck_used L X b m.w c0).mono ?_
  rintro e w' ⟨rfl,rfl⟩
  exact⟨.ret (.cV []),_,m.L,m.T,bG.ic (w':=m.w) rh hb rfl rfl rfl rfl (fun _ _=>rfl) g1 e1 e2,bH.ic (w':=m.w) rh hb rfl rfl rfl rfl (fun _ _=>rfl),⟨_,rfl,by simp only[aK,aM]; exact⟨_,rfl,rfl⟩⟩,rfl,rfl⟩
theorem av9 (L:Lays.n169 P ρ) (X:Builder.Extra P ρ){T:TypeId}{b t:Nat}{cs:List I}{l:List UInt8}(hb:H.aV b=some (T,cs)) (hc:cs[1]? =some (.own t 1 (l.map gQ))) (aF:H.tok t=some (.bP (ρ.t 5) 1 l.length)) (h0:l≠[]):
  iu P (ρ.f 169) [.ptr b 0] H fun o H'=>o= .ret (.str l)∧H'=H.b7 t (.bc (ρ.t 5) 1 (l.length+1) []):=by
 intro m ak hH rh hv
 subst hH
 simp only[aM,aK]at hv
 obtain⟨_,_,rfl,rfl,rfl⟩:=hv
 have hl0:l.length≠0:=by simpa using h0
 obtain⟨lv,g1,g2,g3⟩:=rh.aV b T _ hb
 obtain⟨v,hv1,hv2⟩:=aM.get g2 1 _ hc
 simp only[aK,aT1]at hv2
 obtain⟨⟨a,len,cap,rfl,rfl,⟨hcap,hmax⟩,h4⟩,dj,h6⟩:=hv2
 obtain⟨_,h6'⟩:=h6 _ aF
 have hLt:m.L t= .slice a l.length cap:=(h6' rfl).1
 obtain⟨_,_,⟨xs,k3,_⟩,k4⟩:=rh.tok t _ aF
 rcases h4 with h4|⟨g,o,rfl,hR⟩
 ·exact absurd h4 hl0
 obtain⟨g',cap',cur,hv,_,hg,hnc,hcm,hcs,htake⟩: ∃g' cap' cur,m.L t= .slice (some ⟨g',0,none⟩) l.length cap'∧0≤g'∧m.w.heap[g']? =some (.cells cur (ρ.t 5) (0,0))∧l.length≤cap'∧cap'≤maxLen∧cur.size=cap'*1∧cur.toList.take (l.length*1)=xs:=by
  rcases k3.2 with ⟨_,aD⟩|⟨g',cap',cur,r⟩
  ·exact absurd aD hl0
  ·exact⟨g',cap',cur,r⟩
 rw[hLt]at hv
 obtain⟨hgo,rfl⟩:(g=g'∧o=0)∧cap=cap':=by
  injection hv with e1 _ bD
  injection e1 with e1
  injection e1 with e1 e2
  exact⟨⟨e1,e2⟩,bD⟩
 obtain⟨rfl,rfl⟩:=hgo
 have hg1:(m.L t).dV=some g:=by rw[hLt]; rfl
 have hcell: ∀j x,l[j]? =some x→m.w.drew.cell? ((⟨g,0,none⟩:Addr).add j)=some (.int .u8 x.toNat):=fun j x hx=>by
  obtain⟨_,hC⟩:=dy.get hR j (gQ x) (by simp [hx])
  simp only[gQ,ez,aK]at hC
  obtain⟨⟨_,b5,_,_,rfl⟩,_⟩:=hC
  have:m.w.drew.cell? ⟨g,0+j*1,none⟩=some (.int .u8 x.toNat):=b5
  rw[aW6,Nat.mul_one]at this
  unfold Addr.add
  by_cases hj:j=0
  ·subst hj; exact this
  ·rw[if_neg hj]; show m.w.drew.cell? ⟨g,0+j,none⟩= _; rw[aW6]; exact this
 have c1:m.w.drew.cell? ⟨b,1,none⟩=some (.slice (some ⟨g,0,none⟩) l.length cap):=by
  show m.w.cell? ⟨b,1,none⟩= _
  simp [World.cell?,g1,hv1]
 refine (aw1 L X b g cap cur l m.w c1 h0 hg hnc hmax hcs hcell).mono ?_
 rintro e w' ⟨rfl,rfl⟩
 have hf:(m.w.drew.freeze ⟨g,0,none⟩ l.length)={m.w.drew with heap:=m.w.heap.modify g fun
   | .cells c elem (cm,ae)=> .cells c elem (if cm==ae then (0,0+l.length) else (min cm 0,max ae (0+l.length)))
   |o=>o}:=by
  unfold World.freeze
  rw[if_neg hl0]
  rfl
 have lS: ∀k,k≠g→(m.w.drew.freeze ⟨g,0,none⟩ l.length).heap[k]? =m.w.heap[k]? :=fun k hk=>by
  rw[hf]
  simp only[bc3]
  rw[if_neg (fun e=>hk e.symm)]
 have q6: ∀k o,(m.w.drew.freeze ⟨g,0,none⟩ l.length).cell? ⟨k,o,none⟩=m.w.cell? ⟨k,o,none⟩:=fun k o=>by
  by_cases e:k=g
  ·subst e
   rw[hf]
   have hg':m.w.heap[k]? =some (.cells cur (ρ.t 5) (0,0)):=hg
   simp [World.cell?,bc3,hg']
  ·exact World.cell?_of_block (a:=⟨k,o,none⟩) (lS k e)
 have fC:(m.w.drew.freeze ⟨g,0,none⟩ l.length).heap.size=m.w.heap.size:=by rw[hf]; simp
 have b5:(m.w.drew.freeze ⟨g,0,none⟩ l.length).os=m.w.os:=by rw[hf]; rfl
 have cA:(m.w.drew.freeze ⟨g,0,none⟩ l.length).tape=m.w.tape:=by rw[hf]; rfl
 have dh:(m.w.drew.freeze ⟨g,0,none⟩ l.length).output=m.w.output:=by rw[hf]; rfl
 exact⟨.ret (.str l),_,_,m.T,bG.uI rh aF hg1 b5 cA dh fC lS q6,bH.uI aF hg1 b5 cA dh fC lS q6,⟨_,rfl,by simp only[aK]; exact⟨trivial,by omega⟩⟩,rfl,rfl⟩
end
end Go.aX
namespace Go.aX
open Go Go.Proofs Go.Shelf Go.RowKit
variable {P:Program}{ρ:Ren}{c:aJ}
def Bp (b:Nat):I→Bool
 | .dI (.pointer none)=>true
 | .ptr b' 0=>b'==b
 | _=>false
theorem Uw (L:Lays.n240 P ρ) (X:Builder.X72 P ρ){T:TypeId}{b:Nat}{a:I}{cs:List I}(hl:liesAt P P.depth T ((cs.length+1)/P.cellsOf T) 0 (ρ.t 72) 1=true) (hb:c.H.aV b=some (T,a::cs)) (aL:Bp b a=true):aY P (ρ.f 240) [.ptr b 0] c (lB (.cV []) (c.cc b T (.ptr b 0::cs))):=by
 intro H0 s xs' H hv ab
 simp only[bd,aI]at hv
 obtain⟨_,_,rfl,⟨x,hx,rfl⟩,rfl⟩:=hv
 obtain⟨y,cs',g1,g2,g3⟩:=ab.aV _ _ _ hb
 rw[hx]at g1
 cases g1
 have hlen:=bd.length g3
 simp only[bd]at g3
 obtain⟨a',cs',rfl,h1,h2⟩:=g3
 have hok:a'= .dI (.pointer none)∨a'= .ptr x 0:=by
  unfold Bp at aL
  split at aL
  ·left; simpa only[aI] using h1
  ·right
   simp only[beq_iff_eq]at aL
   subst aL
   simp only[aI]at h1
   obtain⟨z,e1,e2⟩:=h1
   rw[hx]at e1
   cases e1
   exact e2
  ·cases aL
 simp only[aT3]at hlen
 refine (Uv L X (by rw[show cs'.length=cs.length by omega]; exact hl) g2 hok).mono fun o H' ⟨e1,e2⟩=> ?_
 subst e1 e2
 refine⟨.ret (.cV []),_,by exact cR.refl _,HSub.refl _,s,.ret (.cV []),_,bl.dU.refl s,⟨rfl,rfl⟩,by simp only[jy,aI,bd]; exact⟨_,rfl,rfl⟩,ab.cc hx ?_⟩
 simp only[bd,aI]
 exact⟨_,_,rfl,⟨x,hx,rfl⟩,h2⟩
theorem Hh {s:bl}: ∀(l:List UInt8) (r:List (List I)),bV s (l.map gQ) r→r=l.map gQ
 |[],_,h=>by simp only[List.map_nil,bV]at h; exact h
 |x::l,_,h=>by
  simp only[aU5,bV,gQ,bd,aI]at h
  obtain⟨_,_,rfl,⟨_,_,rfl,rfl,rfl⟩,h⟩:=h
  rw[Hh l _ h]
  rfl
theorem aw0 (L:Lays.n169 P ρ) (X:Builder.Extra P ρ){T:TypeId}{b t:Nat}{cs:List I}{l:List UInt8}(hb:c.H.aV b=some (T,cs)) (hc:cs[1]? =some (.own t 1 (l.map gQ))) (aF:c.H.tok t=some (.bP (ρ.t 5) 1 l.length)) (h0:l≠[]):
  aY P (ρ.f 169) [.ptr b 0] c (lB (.str l) (c.b7 t (.bc (ρ.t 5) 1 (l.length+1) []))):=by
 intro H0 s xs' H hv ab
 simp only[bd,aI]at hv
 obtain⟨_,_,rfl,⟨x,hx,rfl⟩,rfl⟩:=hv
 obtain⟨y,cs',g1,g2,g3⟩:=ab.aV _ _ _ hb
 rw[hx]at g1
 cases g1
 obtain⟨z,i',k1,k2,k3⟩:=ab.tok _ _ aF
 obtain⟨e1,e2,bD,da,fh⟩:=k3
 obtain⟨v,hv1,hv2⟩:=bd.get g3 1 _ hc
 simp only[aI]at hv2
 obtain⟨z',r',b5,rfl,dh⟩:=hv2
 rw[k1]at b5
 cases b5
 have hr':=Hh _ _ dh
 subst hr'
 have ae:i'= .bP (ρ.t 5) 1 l.length:=by
  obtain⟨i1,i2,i3,i4,i5⟩:=i'
  simp only[bB.bP]at e1 e2 bD da fh ⊢
  subst e1 e2 bD da fh
  rfl
 subst ae
 refine (av9 L X g2 hv1 k2 h0).mono fun o H' ⟨e1,e2⟩=> ?_
 subst e1 e2
 exact⟨.ret (.str l),_,by exact cR.refl _,HSub.refl _,s,.ret (.str l),_,bl.dU.refl s,⟨rfl,rfl⟩,by simp only[jy,aI],ab.b7 k1 ⟨rfl,rfl,rfl,rfl,[],rfl,by simp only[bV]⟩⟩
end Go.aX
namespace Go.aX
open Go Go.Proofs Go.Shelf Go.RowKit
variable {P:Program}{ρ:Ren}
set_option maxHeartbeats 1000000 in
theorem au7 (L:Lays.n146 P ρ) (hi9:(P.info? (ρ.t 9)).map (fun i=>(i.zero,i.size,i.bytes))=some (some (.string ByteArray.empty),1,16)) (s:ByteArray) (b:UInt8) (w:World) (an:s.size<4294967281):
  Calls P (ρ.f 146) #[.string s,.string ⟨#[b]⟩] w fun e w'=>
   e= .returned (.slice (some ⟨w.heap.size,0,none⟩) (Lib.countB s ⟨#[b]⟩+1) (Lib.countB s ⟨#[b]⟩+1))∧w'=w.alloc (.cells ((Lib.splitB ⟨#[b]⟩ 0 (Lib.countB s ⟨#[b]⟩) s).map Value.string).toArray (ρ.t 9)):=by
 have h1:1≤(⟨#[b]⟩:ByteArray).size:=aT4 _
 have hle:=Lib.countB_le ⟨#[b]⟩ h1 s.size s (aT4 _)
 have hlen:=Lib.splitB_all ⟨#[b]⟩ h1 0 _ s rfl
 have hC: ∀w,Calls P (ρ.f 138) #[.string s,.string ⟨#[b]⟩] w fun e w'=>e= .returned (.int .i64 (Lib.countB s ⟨#[b]⟩))∧w'=w:=fun w=>by
  refine (Any.strings_Count_one {L with} s b w).mono fun e w' ⟨he,hw⟩=>⟨?_,hw⟩
  rw[he]
  show _=Ending.returned (Value.int .i64 ((Lib.count s.data.toList [b]:Nat):Int))
  rw[Lib.count_one]
  rfl
 have hI: ∀(x:ByteArray) (w:World),Calls P (ρ.f 143) #[.string x,.string ⟨#[b]⟩] w fun e w'=>e= .returned (.int .i64 (Lib.indexB x ⟨#[b]⟩))∧w'=w:=fun x w=>by
  refine (Any.strings_Index_one {L with} x b w).mono fun e w' ⟨he,hw⟩=>⟨?_,hw⟩
  rw[he]
  show _=Ending.returned (Value.int .i64 (Lib.index x.data.toList [b]))
  rw[Lib.index_one]
 have c:=Any.strings_genSplit_core {L with} hi9 s ⟨#[b]⟩ 0 (-1) (Lib.countB s ⟨#[b]⟩+1) w an h1 (aT8 _) (fun x c hx=>hI x _) (hC w) (by decide) (by decide) (by rw[if_pos (by decide)]; omega)
 rw[Nat.add_sub_cancel,hlen]at c
 have e2:Lib.cellsOf (Lib.splitB ⟨#[b]⟩ 0 (Lib.countB s ⟨#[b]⟩) s) (Lib.countB s ⟨#[b]⟩+1)=((Lib.splitB ⟨#[b]⟩ 0 (Lib.countB s ⟨#[b]⟩) s).map Value.string).toArray:=by rw[←hlen]; exact Lib.cellsOf_full _
 rw[e2]at c
 have t3:=L.t3; have t9:=L.t9; have t31:=L.t31
 have a3:=L.a3; have a9:=L.a9; have a31:=L.a31
 have z3:=L.z3; have v3:=L.v3; have z9:=L.z9; have v9:=L.v9; have z31:=L.z31; have v31:=L.v31
 have Dg: ∀args w,(callFunc (ρ.f 221) args).run P w= .ok (.enter (ρ.f 221) args) w:=enters_of L.f221 (by kernel_rfl) rfl
 go_enter L.f146,Body.n146_ntmps ρ
 go_wp2_with (go_at_fn (ρ.f 221); refine c.mono ?_; rintro e w' ⟨rfl,hw⟩; rw[hw])
 go_ret
 exact⟨rfl,rfl⟩
end Go.aX
namespace Go.aX
open Go Go.Proofs Go.Shelf Go.RowKit
variable {P:Program}{ρ:Ren}{H:aw}{c:aJ}
theorem Wv (L:Lays8.n4 P ρ){i0:TypeInfo}{z:Value}(hi0:P.info? (ρ.t 25)=some i0) (hz0:i0.zero=some z) (hs0:0<i0.size) (pB:z.cells.size=i0.size){n:Nat}(h0:0<n) (hb:n*i0.bytes≤140737488355328) (hn:n≤4611686018427387904):
  iu P (ρ.f 4) [.bn,.int .i64 n] H fun o H'=> ∃t,H.tok t=none∧o= .ret (.own t i0.size [])∧H'=H.b7 t (.bP (ρ.t 25) i0.size 0):=by
 intro m ak hH rh hv
 subst hH
 simp only[aM,aK]at hv
 obtain⟨_,_,rfl,rfl,_,_,rfl,rfl,rfl⟩:=hv
 refine (Any8.slices_Grow_grow L i0 z hi0 hz0 hs0 none 0 0 n [] m.w (aT4 _) (by omega) (by simpa using hb) (by omega) (by simp) (fun _=>rfl) (fun a h=>by cases h)).mono ?_
 rintro e w' ⟨rfl,rfl⟩
 simp only[aW6,Nat.sub_zero]
 have hge:=grownCap_ge m.w n 0 (ρ.t 25)
 have hle:=grownCap_le_maxLen m.w n 0 (ρ.t 25) (by unfold maxLen; omega)
 generalize grownCap m.w n 0 (ρ.t 25)=cap at hge hle
 generalize hob:Obj.cells ([].toArray++Builtin.zeroCells z.cells n++Builtin.zeroCells z.cells (cap-n)) (ρ.t 25)=ob
 have hnew:(m.w.drew.alloc ob).heap[m.w.heap.size]? =some ob:=uV m.w ob
 have hv: ∀b,(Value.slice (some ⟨m.w.heap.size,0,none⟩) 0 cap).dV=some b→m.w.heap.size≤b:=fun b e=>by simp [Value.dV]at e; omega
 have r:=bG.bf rh (w':=m.w.drew.alloc ob) (v:= .slice (some ⟨m.w.heap.size,0,none⟩) 0 cap) (o:= .bP (ρ.t 25) i0.size 0) rfl rfl rfl (by rw[show (m.w.drew.alloc ob).heap.size=m.w.drew.heap.size+1 by simp]; exact bf1 _) (fun b hb=>su m.w ob b hb) hv (by simp [bB.bP]; omega)
  ⟨[],⟨by simp [bB.bP,bB.len],.inr ⟨m.w.heap.size,cap,[].toArray++Builtin.zeroCells z.cells n++Builtin.zeroCells z.cells (cap-n),rfl,aT8 _,by rw[hnew,←hob]; rfl,aT8 _,hle,by
   simp only[Array.size_append,xA,pB,bB.bP]
   simp only[List.size_toArray,aU1,aW6]
   rw[←Nat.add_mul]
   congr 1
   omega,by simp [bB.len,bB.bP]⟩⟩,fun _ h=>by cases h⟩
 have e:=bH.bf rh (w':=m.w.drew.alloc ob) (v:= .slice (some ⟨m.w.heap.size,0,none⟩) 0 cap) (o:= .bP (ρ.t 25) i0.size 0) rfl rfl rfl (by rw[show (m.w.drew.alloc ob).heap.size=m.w.drew.heap.size+1 by simp]; exact bf1 _) (fun b hb=>su m.w ob b hb) hv
 exact⟨.ret (.own m.T i0.size []),_,_,_,r,e,⟨_,rfl,NB r (i:= .bP (ρ.t 25) i0.size 0) (by simp [Mem.bf,aw.b7]) (by simp [Mem.bf]) ⟨_,cap,rfl,hle⟩ rfl rfl⟩,m.T,qL rh,rfl,rfl⟩
theorem KP (L:Lays8.n4 P ρ){i0:TypeInfo}{z:Value}(hi0:P.info? (ρ.t 25)=some i0) (hz0:i0.zero=some z) (hs0:0<i0.size) (pB:z.cells.size=i0.size){n:Nat}(h0:0<n) (hb:n*i0.bytes≤140737488355328) (hn:n≤4611686018427387904):
  aY P (ρ.f 4) [.bn,.int .i64 n] c (lB (.own c.bf i0.size []) (c.fw (.bP (ρ.t 25) i0.size 0))):=by
 intro H0 s xs' H hv ab
 simp only[bd,aI]at hv
 obtain⟨_,_,rfl,rfl,_,_,rfl,rfl,rfl⟩:=hv
 refine (Wv L hi0 hz0 hs0 pB h0 hb hn).mono fun o H' ⟨t,e0,e1,e2⟩=> ?_
 subst e1 e2
 refine⟨.ret (.own t i0.size []),_,by exact cR.refl _,HSub.refl _,⟨s.b,s.t++[t]⟩,.ret (.own c.bf i0.size []),_,bl.jJ s t,⟨rfl,rfl⟩,?_,ab.fw gm.bP e0⟩
 simp only[jy,aI,bV]
 exact⟨t,[],by rw[ab.bf]; exact mE,rfl,rfl⟩
theorem KM (L:Lays8.n4 P ρ):aY P (ρ.f 4) [.bn,.int .i64 0] c (lB .bn c):=by
 intro H0 s xs' H hv ab
 simp only[bd,aI]at hv
 obtain⟨_,_,rfl,rfl,_,_,rfl,rfl,rfl⟩:=hv
 have:iu P (ρ.f 4) [.bn,.int .i64 0] H fun o H'=>o= .ret .bn∧H'=H:=by
  intro m ak hH rh hv
  subst hH
  simp only[aM,aK]at hv
  obtain⟨_,_,rfl,rfl,_,_,rfl,rfl,rfl⟩:=hv
  refine (Any8.slices_Grow_room L none 0 0 0 m.w (aT4 _) (by omega) (by omega) (by omega)).mono ?_
  rintro e w' ⟨rfl,rfl⟩
  exact⟨.ret .bn,m.H,m.L,m.T,rh,bH.refl m,⟨_,rfl,by simp only[aK]⟩,rfl,rfl⟩
 refine this.mono fun o H' ⟨e1,e2⟩=> ?_
 subst e1 e2
 exact⟨.ret .bn,_,by exact cR.refl _,HSub.refl _,s,.ret .bn,c,bl.dU.refl s,⟨rfl,rfl⟩,by simp only[jy,aI],ab⟩
end Go.aX
namespace Go.aX
open Go
inductive au where
 |mk (kind:Int) (op name text:List UInt8) (n:Int) (args:List au)
mutual
def au.row:au→List I
 | .mk k o m t n l=>[.int .i64 k,.str o,.str m,.str t,.int .i64 n,.ak 6 (au.rows l)]
def au.rows:List au→List (List I)
 |[]=>[]
 |x::l=>x.row::au.rows l
end
theorem au.lr: ∀l:List au,au.rows l=l.map au.row
 |[]=>rfl
 |x::l=>by simp only[au.rows,aU5,au.lr l]
inductive ao where
 |mk (kind:Int) (name:List UInt8) (expr:au) (times:Int) (body tr:List ao)
mutual
def ao.row:ao→List I
 | .mk k m x t a b=>[.int .i64 k,.str m]++x.row++[.int .i64 t,.ak 11 (ao.rows a),.ak 11 (ao.rows b)]
def ao.rows:List ao→List (List I)
 |[]=>[]
 |x::l=>x.row::ao.rows l
end
theorem ao.lr: ∀l:List ao,ao.rows l=l.map ao.row
 |[]=>rfl
 |x::l=>by simp only[ao.rows,aU5,ao.lr l]
def r5 (n:Int):Prop:=(Lit.int .i64 n).wf=true
mutual
def au.ok (R:Nat):au→Prop
 | .mk k o m t n l=>r5 k∧o.length≤R∧m.length≤R∧t.length≤R∧r5 n∧l.length*88≤R∧au.ml R l
def au.ml (R:Nat):List au→Prop
 |[]=>True
 |x::l=>x.ok R∧au.ml R l
end
theorem au.rK {R:Nat}: ∀ {l:List au},(∀x∈l,x.ok R)→au.ml R l
 |[],_=>trivial
 |x::l,h=>⟨h x (by simp),au.rK fun y hy=>h y (by simp [hy])⟩
theorem au.vu {R:Nat}: ∀ {l:List au}{i:Nat}{x:au},au.ml R l→l[i]? =some x→x.ok R
 |y::l,0,x,h,e=>by simp at e; subst e; exact h.1
 |y::l,i+1,x,h,e=>au.vu (l:=l) (i:=i) h.2 (by simpa using e)
 |[],_,_,_,e=>by simp at e
mutual
def ao.ok (R:Nat):ao→Prop
 | .mk k m x t a b=>r5 k∧m.length≤R∧x.ok R∧r5 t∧a.length*168≤R∧b.length*168≤R∧ao.ml R a∧ao.ml R b
def ao.ml (R:Nat):List ao→Prop
 |[]=>True
 |x::l=>x.ok R∧ao.ml R l
end
theorem ao.rK {R:Nat}: ∀ {l:List ao},(∀x∈l,x.ok R)→ao.ml R l
 |[],_=>trivial
 |x::l,h=>⟨h x (by simp),ao.rK fun y hy=>h y (by simp [hy])⟩
theorem ao.vu {R:Nat}: ∀ {l:List ao}{i:Nat}{x:ao},ao.ml R l→l[i]? =some x→x.ok R
 |y::l,0,x,h,e=>by simp at e; subst e; exact h.1
 |y::l,i+1,x,h,e=>ao.vu (l:=l) (i:=i) h.2 (by simpa using e)
 |[],_,_,_,e=>by simp at e
theorem ls {α:Type}{f:α→List I}{p:α→Prop}: ∀ {rows:List (List I)},(∀r∈rows,∃x,r=f x∧p x)→∃l:List α,rows=l.map f∧∀x∈l,p x
 |[],_=>⟨[],rfl,fun _ h=>by simp at h⟩
 |r::rows,h=>by
  obtain⟨x,rfl,hx⟩:=h r (by simp)
  obtain⟨l,rfl,hl⟩:=ls (rows:=rows) (f:=f) (p:=p) fun r ab=>h r (aY7 _ ab)
  exact⟨x::l,rfl,fun y hy=>by
   rcases List.mem_cons.1 hy with rfl|hy
   ·exact hx
   ·exact hl y hy⟩
section
variable {P:Program}{E:List TypeId}{R:Nat}{te ts:TypeId}
theorem Dv (dj:iH P E 8 te=some [.de (.i .i64),.de .s,.de .s,.de .s,.de (.i .i64),.fV te]) (hc:P.cellsOf te=6) (hb:P.bytesOf te=88): ∀(n:Nat) (r:List I),kK P E R n te r→∃x:au,r=x.row∧x.ok R
 |0,_,h=>h.elim
 |n+1,r,h=>by
  obtain⟨bx,h1,h2⟩:=h
  rw[dj]at h1
  cases h1
  simp only[hz,ga.ok,hc,hb]at h2
  obtain⟨_,_,rfl,⟨k,rfl,w1⟩,_,_,rfl,⟨o,rfl,w2⟩,_,_,rfl,⟨m,rfl,w3⟩,_,_,rfl,⟨t,rfl,qT⟩,_,_,rfl,⟨i,rfl,w5⟩,_,_,rfl,⟨rows,rfl,zG,h3⟩,rfl⟩:=h2
  obtain⟨l,rfl,hl⟩:=ls (f:=au.row) (p:=au.ok R) fun r hm=>Dv dj hc hb n r (h3 r hm)
  exact⟨.mk k o m t i l,by simp only[au.row,au.lr],w1,w2,w3,qT,w5,by simpa using zG,au.rK hl⟩
theorem FQ (dj:iH P E 8 te=some [.de (.i .i64),.de .s,.de .s,.de .s,.de (.i .i64),.fV te]) (hc:P.cellsOf te=6) (hb:P.bytesOf te=88)
  (hS:iH P E 8 ts=some [.de (.i .i64),.de .s,.de (.i .i64),.de .s,.de .s,.de .s,.de (.i .i64),.fV te,.de (.i .i64),.fV ts,.fV ts]) (an:P.cellsOf ts=11) (hsb:P.bytesOf ts=168): ∀(n:Nat) (r:List I),kK P E R n ts r→∃x:ao,r=x.row∧x.ok R
 |0,_,h=>h.elim
 |n+1,r,h=>by
  obtain⟨bx,h1,h2⟩:=h
  rw[hS]at h1
  cases h1
  simp only[hz,ga.ok,hc,an,hb,hsb]at h2
  obtain⟨_,_,rfl,⟨k,rfl,w1⟩,_,_,rfl,⟨nm,rfl,w2⟩,_,_,rfl,⟨k2,rfl,v1⟩,_,_,rfl,⟨o,rfl,v2⟩,_,_,rfl,⟨m,rfl,v3⟩,_,_,rfl,⟨t,rfl,v4⟩,_,_,rfl,⟨i,rfl,v5⟩,_,_,rfl,⟨rows,rfl,v6,h3⟩,_,_,rfl,⟨tm,rfl,w3⟩,_,_,rfl,⟨ra,rfl,qT,h4⟩,_,_,rfl,⟨rb,rfl,w5,h5⟩,rfl⟩:=h2
  obtain⟨l,rfl,hl⟩:=ls (f:=au.row) (p:=au.ok R) fun r hm=>Dv dj hc hb n r (h3 r hm)
  obtain⟨la,rfl,aL⟩:=ls (f:=ao.row) (p:=ao.ok R) fun r hm=>FQ dj hc hb hS an hsb n r (h4 r hm)
  obtain⟨lb,rfl,hb'⟩:=ls (f:=ao.row) (p:=ao.ok R) fun r hm=>FQ dj hc hb hS an hsb n r (h5 r hm)
  exact⟨.mk k nm (.mk k2 o m t i l) tm la lb,by simp only[ao.row,au.row,au.lr,ao.lr,aU4,aV1],w1,w2,⟨v1,v2,v3,v4,v5,by simpa using v6,au.rK hl⟩,w3,by simpa using qT,by simpa using w5,ao.rK aL,ao.rK hb'⟩
end
end Go.aX
namespace Go.aX
open Go
mutual
def AG:au→au→Bool
 | .mk k o m t n l,.mk k' o' m' t' n' l'=>decide (k=k')&&(decide (o=o')&&(decide (m=m')&&(decide (t=t')&&(decide (n=n')&&AH l l'))))
def AH:List au→List au→Bool
 |[],[]=>true
 |x::l,y::l'=>AG x y&&AH l l'
 | _,_=>false
end
mutual
def FO:ao→ao→Bool
 | .mk k m x t a b,.mk k' m' x' t' a' b'=>decide (k=k')&&(decide (m=m')&&(decide (t=t')&&(AG x x'&&(zs a a'&&zs b b'))))
def zs:List ao→List ao→Bool
 |[],[]=>true
 |x::l,y::l'=>FO x y&&zs l l'
 | _,_=>false
end
mutual
theorem Kp: ∀x:au,AG x x=true
 | .mk k o m t n l=>by simp [AG,Kq l]
theorem Kq: ∀l:List au,AH l l=true
 |[]=>rfl
 |x::l=>by simp [AH,Kp x,Kq l]
end
mutual
theorem av4: ∀x:ao,FO x x=true
 | .mk k m x t a b=>by simp [FO,Kp x,FP a,FP b]
theorem FP: ∀l:List ao,zs l l=true
 |[]=>rfl
 |x::l=>by simp [zs,av4 x,FP l]
end
structure bQ where
 name:List UInt8
 gj:Int
 cm:Int
 ae:Int
 ei:Int
 n:Int
 s:List UInt8
deriving DecidableEq
def bQ.row (v:bQ):List I:=[.str v.name,.int .i64 v.gj,.int .i64 v.cm,.int .i64 v.ae,.int .i64 v.ei,.int .i64 v.n,.str v.s]
structure bK where
 dw:List UInt8
 peer:List UInt8
 ps:List (List UInt8)
 body:List ao
def ca (s:List UInt8):List I:=[.str s]
def bK.row (h:bK):List I:=[.str h.dw,.str h.peer,.ak 1 (h.ps.map ca),.ak 11 (ao.rows h.body)]
structure cC where
 dw:List UInt8
 peer:List UInt8
 args:List au
 eF:List au
def cC.row (o:cC):List I:=[.str o.dw,.str o.peer,.ak 6 (au.rows o.args),.ak 6 (au.rows o.eF)]
structure c9 where
 name:List UInt8
 role:List UInt8
 gh:List UInt8
 vars:List bQ
 an:List bK
 os:List cC
def c9.cells (x:c9):List I:=[.str x.name,.str x.role,.str x.gh,.ak 7 (x.vars.map bQ.row),.ak 4 (x.an.map bK.row),.ak 4 (x.os.map cC.row)]
def c9.eU (x:c9):I:= .agg x.cells
mutual
def au.cJ:au→Nat
 | .mk _ _ _ _ _ l=>1+au.cf l
def au.cf:List au→Nat
 |[]=>0
 |x::l=>x.cJ+au.cf l
end
mutual
def ao.cJ:ao→Nat
 | .mk _ _ x _ a b=>1+x.cJ+ao.cf a+ao.cf b
def ao.cf:List ao→Nat
 |[]=>0
 |x::l=>x.cJ+ao.cf l
end
theorem au.Cn {l:List au}{i:Nat}{x:au}(h:l[i]? =some x):au.cf (l.take (i+1))=au.cf (l.take i)+x.cJ:=by
 rw[aW8,h]
 induction l.take i with
 |nil=>simp [au.cf]
 |cons y l ih=>simp only[aU4,au.cf,ih]; omega
theorem ao.Cn {l:List ao}{i:Nat}{x:ao}(h:l[i]? =some x):ao.cf (l.take (i+1))=ao.cf (l.take i)+x.cJ:=by
 rw[aW8,h]
 induction l.take i with
 |nil=>simp [ao.cf]
 |cons y l ih=>simp only[aU4,ao.cf,ih]; omega
mutual
theorem au.zY: ∀x:au,x.cJ+4≤e6 x.row
 | .mk k o m t n l=>by
  have:=au.r7 l
  simp only[au.cJ,au.row,e6,I.jX]
  omega
theorem au.r7: ∀l:List au,au.cf l≤kk (au.rows l)
 |[]=>by simp [au.cf]
 |x::l=>by
  have:=au.zY x
  have:=au.r7 l
  simp only[au.cf,au.rows,kk]
  omega
end
mutual
theorem ao.zY: ∀x:ao,x.cJ≤e6 x.row
 | .mk k m x t a b=>by
  have:=ao.r7 a
  have:=ao.r7 b
  have:=au.zY x
  simp only[ao.cJ,ao.row,Cw,e6,I.jX]
  omega
theorem ao.r7: ∀l:List ao,ao.cf l≤kk (ao.rows l)
 |[]=>by simp [ao.cf]
 |x::l=>by
  have:=ao.zY x
  have:=ao.r7 l
  simp only[ao.cf,ao.rows,kk]
  omega
end
theorem au.lQ {l:List au}{i:Nat}{x:au}(h:l[i]? =some x):x.cJ≤au.cf l:=by
 have h1:=au.Cn h
 have h2:au.cf (l.take (i+1))≤au.cf l:=by
  conv=>rhs; rw[←bc1 (i+1) l]
  induction l.take (i+1) with
  |nil=>simp [au.cf]
  |cons y l ih=>simp only[aU4,au.cf]; omega
 omega
theorem ao.lQ {l:List ao}{i:Nat}{x:ao}(h:l[i]? =some x):x.cJ≤ao.cf l:=by
 have h1:=ao.Cn h
 have h2:ao.cf (l.take (i+1))≤ao.cf l:=by
  conv=>rhs; rw[←bc1 (i+1) l]
  induction l.take (i+1) with
  |nil=>simp [ao.cf]
  |cons y l ih=>simp only[aU4,ao.cf]; omega
 omega
theorem au.iE: ∀l:List au,l.length≤au.cf l
 |[]=>by simp
 |x::l=>by
  have:=au.iE l
  have:1≤x.cJ:=by cases x; simp [au.cJ]
  simp only[aT3,au.cf]
  omega
theorem ao.iE: ∀l:List ao,l.length≤ao.cf l
 |[]=>by simp
 |x::l=>by
  have:=ao.iE l
  have:1≤x.cJ:=by cases x; simp [ao.cJ]; omega
  simp only[aT3,ao.cf]
  omega
mutual
theorem au.er: ∀x:au,b9 x.row=true
 | .mk k o m t n l=>by simp only[au.row,b9,I.flat,au.qG l,aT7]
theorem au.qG: ∀l:List au,eD (au.rows l)=true
 |[]=>rfl
 |x::l=>by simp only[au.rows,eD,au.er x,au.qG l,aT7]
end
theorem Ky: ∀(a b:List I),b9 (a++b)=(b9 a&&b9 b)
 |[],b=>by simp [b9]
 |x::a,b=>by simp only[aU4,b9,Ky a b,Bool.and_assoc]
mutual
theorem ao.er: ∀x:ao,b9 x.row=true
 | .mk k m x t a b=>by simp only[ao.row,Ky,b9,I.flat,au.er x,ao.qG a,ao.qG b,aT7]
theorem ao.qG: ∀l:List ao,eD (ao.rows l)=true
 |[]=>rfl
 |x::l=>by simp only[ao.rows,eD,ao.er x,ao.qG l,aT7]
end
mutual
def au.am:au→Int
 | .mk _ _ _ _ _ l=>au.h8 l (l.length:Int)
def au.h8:List au→Int→Int
 |[],n=>n
 |x::l,n=>au.h8 l (IntKind.i64.wrap (n+x.am))
end
mutual
def ao.am:ao→Int
 | .mk _ _ x _ a b=>IntKind.i64.wrap (IntKind.i64.wrap (IntKind.i64.wrap (1+x.am)+ao.h8 a (a.length:Int))+ao.h8 b (b.length:Int))
def ao.h8:List ao→Int→Int
 |[],n=>n
 |x::l,n=>ao.h8 l (IntKind.i64.wrap (n+x.am))
end
def ql:List bK→Int→Option Int
 |[],n=>some n
 |h::l,n=>if 60<h.ps.length then none else ql l (IntKind.i64.wrap (n+ao.h8 h.body (h.body.length:Int)))
def rp:List cC→Int→Int
 |[],n=>n
 |o::l,n=>rp l (IntKind.i64.wrap (n+IntKind.i64.wrap (au.h8 o.args (o.args.length:Int)+au.h8 o.eF (o.eF.length:Int))))
def pt (x:c9):Bool:=match ql x.an 0 with
 |none=>false
 |some n=>decide (rp x.os n≤500)&&(decide (x.vars.length≤60)&&(decide (x.an.length≤60)&&decide (x.os.length≤60)))
theorem fe {α:Type}{l:List α}{i:Nat}{v:α}(h:l[i]? =some v):l.drop i=v::l.drop (i+1):=by
 obtain⟨h3,e⟩:=List.getElem?_eq_some_iff.1 h
 rw[List.drop_eq_getElem_cons h3,e]
theorem zu {α β:Type}(f:α→β){l:List α}{i:Nat}{v:α}(h:l[i]? =some v):(l.take (i+1)).map f=(l.take i).map f++[f v]:=by
 rw[aW8,h]; simp
theorem au.di (k:Int) (o m t:List UInt8) (n:Int) (l:List au):(au.mk k o m t n l).row=[.int .i64 k,.str o,.str m,.str t,.int .i64 n,.ak 6 (l.map au.row)]:=by rw[au.row,au.lr]
theorem ao.di (k:Int) (m:List UInt8) (x:au) (t:Int) (a b:List ao):(ao.mk k m x t a b).row=[.int .i64 k,.str m]++x.row++[.int .i64 t,.ak 11 (a.map ao.row),.ak 11 (b.map ao.row)]:=by rw[ao.row,ao.lr,ao.lr]
theorem au.cQ (l:List au):eD (l.map au.row)=true:=by rw[←au.lr]; exact au.qG l
theorem ao.cQ (l:List ao):eD (l.map ao.row)=true:=by rw[←ao.lr]; exact ao.qG l
def bQ.ok (R:Nat) (v:bQ):Prop:=(v.name.length≤R∧v.s.length≤R)∧r5 v.gj∧r5 v.cm∧r5 v.ae∧r5 v.ei∧r5 v.n
def bK.ok (R:Nat) (h:bK):Prop:=h.dw.length≤R∧h.peer.length≤R∧h.ps.length*16≤R∧(∀s∈h.ps,s.length≤R)∧h.body.length*168≤R∧ao.ml R h.body
def cC.ok (R:Nat) (o:cC):Prop:=o.dw.length≤R∧o.peer.length≤R∧o.args.length*88≤R∧au.ml R o.args∧o.eF.length*88≤R∧au.ml R o.eF
structure c9.ok (R:Nat) (x:c9):Prop where
 name:x.name.length≤R
 role:x.role.length≤R
 gh:x.gh.length≤R
 mi:x.vars.length*72≤R
 vars: ∀v∈x.vars,v.ok R
 mh:x.an.length*80≤R
 an: ∀h∈x.an,h.ok R
 no:x.os.length*80≤R
 os: ∀o∈x.os,o.ok R
end Go.aX
namespace Go.aX.T.N
open Go Go.aX Go.Proofs Go.RowKit
theorem lz.below {w w':World}(h:lz w){n:Nat}(hn:w.heap.size≤n) (hb:Below n w w'):lz w':=fun p hp=>by
 obtain⟨ob,h1,h2⟩:=h p hp
 exact⟨ob,(hb.block p.1 (Nat.lt_of_lt_of_le (Array.getElem?_eq_some_iff.1 h1).1 hn)).trans h1,h2⟩
theorem zd {P:Program}{f:FuncId}{args:List I}{r:I}(h: ∀(m:Mem) (ak:List Value),lz m.w→aM m args ak→Calls P f ⟨ak⟩ m.w fun e w'=> ∃v,e= .returned v∧(∀m',aK m' r v)∧Below m.w.heap.size m.w w'):Pure P f args r:=by
 intro H m ak hH rh hv
 subst hH
 refine (h m ak rh.kr hv).mono fun e w' ⟨v,e1,e2,hb⟩=> ?_
 exact⟨.ret r,m.H,m.L,m.T,bG.hid rh hb.os hb.tape hb.output hb.size hb.block,bH.hid hb.os hb.tape hb.output hb.size hb.block,⟨v,e1,e2 _⟩,rfl,rfl⟩
theorem Vk {u:Nat}(h: ¬u<10):Lib.decDigits u=Lib.decDigits (u/10)++[UInt8.ofNat (48+u%10)]:=by rw[Lib.decDigits,dif_neg h]
theorem Vj {u:Nat}(h:u<10):Lib.decDigits u=[UInt8.ofNat (48+u)]:=by rw[Lib.decDigits,dif_pos h]
theorem Ik (u:Nat):(Lib.decDigits u).length≤u+1:=by
 induction u using Nat.strongRecOn with
 |ind u ih=>
  by_cases h:u<10
  ·rw[Vj h]; simp
  ·rw[Vk h]
   have:=ih (u/10) (by omega)
   rw[aT2,aT3,aU1]
   omega
theorem ve {z:Int}(h0: -1000000000≤z) (h1:z≤1000000000):(Lib.itoa z).length≤1000000002:=by
 unfold Lib.itoa
 split
 ·have:=Ik z.natAbs; simp only[aT3]; omega
 ·have:=Ik z.toNat; omega
theorem R6 (w:World) (q:Nat) (os:Array Obj):Below w.heap.size w (Go.Sort.grow (w.drewN q) os):=
 ⟨rfl,rfl,rfl,by simp [Go.Sort.grow,World.drewN],fun i ae=>by
  show ((w.drewN q).heap++os)[i]? = _
  rw[Array.getElem?_append_left (by exact ae)]
  rfl⟩
theorem AP:Tryz.prog.globalNamed "internal/strconv.uint64pow10" =some 0:=by kernel_rfl
theorem Wo {w:World}(hG:lz w):Lib.TabIs aS9 w "internal/strconv.uint64pow10" .u64 Lib.pow10Tab:=by
 obtain⟨ob,h1,T,oH,h2⟩:=hG (0,_) (by simp only[yd]; exact List.mem_cons_self)
 subst h2
 simp only at h1
 unfold Lib.TabIs World.var?
 rw[AP]
 simp only[Option.bind_some,h1]
 rfl
theorem zb (n:Int) (h0: -1000000000≤n) (h1:n≤1000000000):Pure aS9 217 [.int .i64 n] (.str (Lib.itoa n)):=by
 refine zd fun m ak hG hv=> ?_
 simp only[aM,aK]at hv
 obtain⟨_,_,rfl,rfl,rfl⟩:=hv
 refine (Any.strconv_Itoa Tryz.ZD n (by omega) (by omega) m.w (Wo hG)).mono ?_
 rintro e w' ⟨rfl,q,os,rfl⟩
 have hl:=ve h0 h1
 exact⟨_,rfl,fun m'=>by simp only[aK]; exact⟨trivial,by unfold maxLen; omega⟩,R6 m.w q os⟩
theorem ad8 (n:Nat) (hn:n≤1000000):Pure aS9 308 [.str [9],.int .i64 (n:Int)] (.str (aU2 n 9)):=by
 refine zd fun m ak hG hv=> ?_
 simp only[aM,aK]at hv
 obtain⟨v1,t1,rfl,h1,v2,t2,rfl,h2,rfl⟩:=hv
 obtain⟨h1,_⟩:=h1
 subst h1
 subst h2
 refine (Any.strings_Repeat Tryz.Zz Tryz.VY ⟨⟨[9]⟩⟩ n m.w (by omega) (by simp [ByteArray.size]; omega)).mono ?_
 rintro e w' ⟨rfl,hb⟩
 refine⟨_,rfl,fun m'=> ?_,hb⟩
 have e:=Go.Lib.repeatL_replicate 9 1 n
 rw[Nat.mul_one]at e
 simp only[aK]
 refine⟨?_,by simp [maxLen]; omega⟩
 change Value.string ⟨(Go.Lib.repeatL (aU2 1 9) n).toArray⟩= _
 rw[e]
theorem Qd {m:Mem}: ∀ {xs:List (List UInt8)}{b o:Nat},dy m 1 (xs.map ca) b o→∀(j:Nat) x,xs[j]? =some x→m.w.cell? ⟨b,o+j,none⟩=some (.string ⟨⟨x⟩⟩)∧b<m.w.heap.size
 |[],_,_,_,j,x,hx=>by simp at hx
 |s::xs,b,o,h,j,x,hx=>by
  simp only[aU5,ca,dy,ez,aK]at h
  obtain⟨_,⟨⟨v,h1,h2,h3,rfl,_⟩,_⟩,h4⟩:=h
  cases j with
  |zero=>simp at hx; subst hx; exact⟨h1,h3.lt⟩
  |succ j=>
   have:=Qd h4 j x (by simpa using hx)
   rw[show o+1+j=o+(j+1) by omega]at this
   exact this
theorem NC (xs:List (List UInt8)) (sep:List UInt8) (hN:xs.length≤1000000) (hlen:(Lib.join xs sep).length≤1000000000):Pure aS9 219 [.ak 1 (xs.map ca),.str sep] (.str (Lib.join xs sep)):=by
 refine zd fun m ak hG h=> ?_
 simp only[aM,aK]at h
 obtain⟨_,_,rfl,⟨a,len,cap,rfl,rfl,⟨hc1,hc2⟩,hcase⟩,_,_,rfl,⟨rfl,_⟩,rfl⟩:=h
 rw[aT1]at hcase hc1 ⊢
 have fin: ∀m':Mem,aK m' (.str (Lib.join xs sep)) (.string ⟨⟨Lib.join xs sep⟩⟩):=fun m'=>by simp only[aK]; exact⟨trivial,by unfold maxLen; omega⟩
 rcases hcase with h0|⟨b,o,rfl,hR⟩
 ·have hx:xs=[]:=List.length_eq_zero_iff.1 h0
  subst hx
  refine (Any.strings_Join_none Tryz.yK Tryz.yb a cap ⟨⟨sep⟩⟩ m.w).mono ?_
  rintro e w' ⟨rfl,rfl⟩
  exact⟨_,rfl,fin,Below.refl _ _⟩
 ·by_cases h0:xs.length=0
  ·have hx:xs=[]:=List.length_eq_zero_iff.1 h0
   subst hx
   refine (Any.strings_Join_none Tryz.yK Tryz.yb _ cap ⟨⟨sep⟩⟩ m.w).mono ?_
   rintro e w' ⟨rfl,rfl⟩
   exact⟨_,rfl,fin,Below.refl _ _⟩
  ·have hcells:=Qd hR
   have hx0:=List.getElem?_eq_getElem (l:=xs) (i:=0) (by omega)
   have ej:(xs.map fun s=>(⟨⟨s⟩⟩:ByteArray)).map (·.data.toList)=xs:=by
    rw[List.map_map]
    exact (List.map_congr_left (fun _ _=>rfl)).trans (List.map_id xs)
   have:=Any.strings_Join Tryz.yK Tryz.yb b o cap (xs.map fun s=>⟨⟨s⟩⟩) ⟨⟨sep⟩⟩ m.w (fun j x hx=>by
    rw[List.getElem?_map,Option.map_eq_some_iff]at hx
    obtain⟨y,hy,rfl⟩:=hx
    exact (hcells j y hy).1) (hcells 0 _ hx0).2 (by simp; omega) (by simpa using hc1) (by rw[ej]; show (Lib.join xs sep).length≤ _; omega)
   rw[ej,aT1]at this
   refine this.mono ?_
   rintro e w' ⟨rfl,hb⟩
   exact⟨_,rfl,fin,hb⟩
def ti:ByteArray:=⟨#[46]⟩
def tX (s:List UInt8):List (List UInt8):=(Lib.splitB ti 0 (Lib.countB ⟨⟨s⟩⟩ ti) ⟨⟨s⟩⟩).map (·.data.toList)
theorem Qr (sep:ByteArray): ∀(k:Nat) (s:ByteArray),∀x∈Lib.splitB sep 0 k s,x.size≤s.size
 |0,s,x,h=>by rw[Lib.splitB_zero]at h; simp at h; subst h; exact aT4 _
 |k+1,s,x,h=>by
  unfold Lib.splitB at h
  split at h
  ·simp at h; subst h; exact aT4 _
  ·rcases List.mem_cons.1 h with rfl|h
   ·rw[ByteArray.size_extract]; omega
   ·have:=Qr sep k _ x h
    rw[ByteArray.size_extract]at this
    omega
theorem ad7 (s:List UInt8) (an:s.length≤1000):Pure aS9 297 [.str s,.str [46]] (.ak 1 ((tX s).map ca)):=by
 intro H m ak hH rh hv
 subst hH
 simp only[aM,aK]at hv
 obtain⟨_,_,rfl,⟨rfl,_⟩,_,_,rfl,⟨rfl,_⟩,rfl⟩:=hv
 refine (au7 Tryz.ZA (by kernel_rfl) ⟨⟨s⟩⟩ 46 m.w (by show s.length< _; omega)).mono ?_
 rintro e w' ⟨rfl,rfl⟩
 have hlen:=Lib.splitB_all ti (aT4 _) 0 _ ⟨⟨s⟩⟩ rfl
 have hn:(tX s).length=Lib.countB ⟨⟨s⟩⟩ ti+1:=by rw[tX,aT1,hlen]
 have hle:=Lib.countB_le ti (aT4 _) s.length ⟨⟨s⟩⟩ (aT4 _)
 have hcl:(⟨⟨s⟩⟩:ByteArray).size=s.length:=rfl
 refine⟨.ret (.ak 1 ((tX s).map ca)),m.H,m.L,m.T,rh.alloc _,bH.alloc m _,⟨_,rfl,?_⟩,rfl,rfl⟩
 have hnew:(m.w.alloc (.cells ((Lib.splitB ⟨#[46]⟩ 0 (Lib.countB ⟨⟨s⟩⟩ ⟨#[46]⟩) ⟨⟨s⟩⟩).map Value.string).toArray (Tryz.Bd.t 9))).heap[m.w.heap.size]? =some (.cells ((Lib.splitB ⟨#[46]⟩ 0 (Lib.countB ⟨⟨s⟩⟩ ⟨#[46]⟩) ⟨⟨s⟩⟩).map Value.string).toArray (Tryz.Bd.t 9)):=sx m.w _
 simp only[aK]
 refine⟨_,_,_,rfl,by rw[aT1]; exact hn.symm,⟨aT4 _,by unfold maxLen; have:Lib.countB ⟨⟨s⟩⟩ ⟨#[46]⟩=Lib.countB ⟨⟨s⟩⟩ ti:=rfl; omega⟩,.inr ⟨m.w.heap.size,0,rfl,?_⟩⟩
 refine dy.of (l:=(Lib.splitB ⟨#[46]⟩ 0 (Lib.countB ⟨⟨s⟩⟩ ⟨#[46]⟩) ⟨⟨s⟩⟩).map Value.string) (fun r ab=>by obtain⟨x,_,rfl⟩:=List.mem_map.1 ab; rfl) ?_ fun j v hj=>⟨?_,?_,?_,vY rh,fun t i aF hb=> ?_⟩
 ·have key: ∀(l:List ByteArray),(∀x∈l,x.size≤s.length)→aM ⟨m.w.alloc (.cells ((Lib.splitB ⟨#[46]⟩ 0 (Lib.countB ⟨⟨s⟩⟩ ⟨#[46]⟩) ⟨⟨s⟩⟩).map Value.string).toArray (Tryz.Bd.t 9)),m.H,m.L,m.T⟩ ((l.map (·.data.toList)).map ca).flatten (l.map Value.string):=by
   intro l
   induction l with
   |nil=>intro _; simp [aM]
   |cons x l ih=>
    intro h
    simp only[aU5,List.flatten_cons,ca,aU4,aV1,aM,aK]
    refine⟨_,_,rfl,⟨rfl,?_⟩,ih fun y hy=>h y (aY7 _ hy)⟩
    have:x.size≤s.length:=h x List.mem_cons_self
    show x.data.toList.length≤maxLen
    have e:x.data.toList.length=x.size:=rfl
    rw[e]; unfold maxLen; omega
  exact key _ fun x hx=>Qr _ _ _ x hx
 ·rw[aW6]
  simp only[World.cell?,hnew]
  simpa using hj
 ·obtain⟨x,_,rfl⟩:=List.mem_map.1 (List.mem_of_getElem? hj)
  rfl
 ·exact (Array.getElem?_eq_some_iff.1 hnew).1
 ·exact absurd (ua rh aF hb) (Nat.lt_irrefl _)
end Go.aX.T.N
