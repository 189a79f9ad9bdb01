/- Part of a proof; own work. -/
import Derived.Below
import Derived.KernelRfl
import Derived.Shelf.SlGeneric
import Derived.Ground.NamesProg
import Derived.Ground.Names8Prog
import Derived.Shelf.Strconv.Itoa3
import Derived.Shelf.Strings.Repeat
import Derived.Shelf.Strings.Split
import Derived.Shelf.Strings.OnBuilder
import Derived.Shelf.Strings.Search3
import Derived.Shelf.Strings.Count
import Derived.Shelf.Strings.Runes
import Derived.Shelf.Strings.BuilderK
import Derived.Shelf.Spec.SlicesGrow
import Derived.Test.YtlemhelnmidpfaaGreatDoorProg
import Derived.Shelf.Strings.Builder1
import Derived.Test.YtlemhelnmidpfaaGreatDoorRS5
set_option linter.unusedVariables false
set_option linter.unusedSimpArgs false
set_option maxRecDepth 100000
open Array renaming getElem?_modify→bo8
open Bool renaming and_self→bc0
open List renaming mem_cons_of_mem→bh4,length_cons→bb9,length_map→bb5,map_cons→bd4,length_nil→bc4,cons_append→bd2,nil_append→bd6,take_add_one→bf5,take_append_drop→bj5,replicate→bc9,length_append→bb7,length_drop→bl7,length_take→be9
open Nat renaming le_refl→bc1,le_succ→bm9,zero_add→bf6,zero_le→bc3,le_of_ble_eq_true→bh6,reduceBEq→bl3,reduceAdd→bl4
open Go.Proofs.Tryz renaming prog→bb4,underlying0→bn2,isAgg0→br1,sizeOf0→bq2,zeroValue0→bn9,underlying3→bn3,isAgg3→br2,sizeOf3→bq3,zeroValue3→bo0,underlying4→bl6,isAgg4→br3,sizeOf4→bq4,zeroValue4→bo1,underlying5→bl5,isAgg5→bs3,sizeOf5→br6,zeroValue5→bp7,underlying9→bn4,isAgg9→br4,sizeOf9→bq5,zeroValue9→bo2,underlying20→bo7,isAgg20→br7,sizeOf20→br5,zeroValue20→bp6,underlying65→bs7,sizeOf65→bu2,zeroValue65→bt0,underlying281→bs0,isAgg281→bu3,sizeOf281→bt8,zeroValue281→bs8,underlying363→bs1,isAgg363→bu4,sizeOf363→bt9,zeroValue363→bs9
namespace Go.Proofs
open Go.Shelf
def Tryz.ap1:Go.Shelf.Ren:=⟨fun|171=>217|243=>310|246=>362|283=>389|284=>390|285=>391|286=>392|129=>287|317=>405|318=>406|319=>407|320=>408|337=>411|338=>412|n=>n,fun|3=>3|9=>9|2=>2|4=>4|171=>451|0=>0|53=>365|37=>65|5=>5|173=>453|212=>461|51=>363|20=>20|213=>462|46=>281|232=>468|233=>469|n=>n,fun|17=>0|18=>4|19=>5|n=>n⟩
theorem Tryz.ap0:Go.Proofs.LaysM.n171 bb4 Tryz.ap1:={
 mixed:=by kernel_rfl
 f129:=Tryz.func287.trans (congrArg some (by kernel_rfl))
 f171:=Tryz.func217.trans (congrArg some (by kernel_rfl))
 f243:=Tryz.func310.trans (congrArg some (by kernel_rfl))
 f246:=Tryz.func362.trans (congrArg some (by kernel_rfl))
 f283:=Tryz.func389.trans (congrArg some (by kernel_rfl))
 f284:=Tryz.func390.trans (congrArg some (by kernel_rfl))
 f285:=Tryz.func391.trans (congrArg some (by kernel_rfl))
 f286:=Tryz.func392.trans (congrArg some (by kernel_rfl))
 f317:=Tryz.func405.trans (congrArg some (by kernel_rfl))
 f318:=Tryz.func406.trans (congrArg some (by kernel_rfl))
 f319:=Tryz.func407.trans (congrArg some (by kernel_rfl))
 f320:=Tryz.func408.trans (congrArg some (by kernel_rfl))
 f337:=Tryz.func411.trans (congrArg some (by kernel_rfl))
 f338:=Tryz.func412.trans (congrArg some (by kernel_rfl))
 t0:=bn2
 a0:=br1
 z0:=bq2
 v0:=bn9
 t2:=Tryz.underlying2
 a2:=Tryz.isAgg2
 z2:=Tryz.sizeOf2
 v2:=Tryz.zeroValue2
 t3:=bn3
 a3:=br2
 z3:=bq3
 v3:=bo0
 t4:=bl6
 a4:=br3
 z4:=bq4
 v4:=bo1
 t5:=bl5
 a5:=bs3
 z5:=br6
 v5:=bp7
 t9:=bn4
 a9:=br4
 z9:=bq5
 v9:=bo2
 t20:=bo7
 a20:=br7
 z20:=br5
 v20:=bp6
 t37:=bs7
 a37:=Tryz.isAgg65
 z37:=bu2
 v37:=bt0
 t46:=bs0
 a46:=bu3
 z46:=bt8
 v46:=bs8
 t51:=bs1
 a51:=bu4
 z51:=bt9
 v51:=bs9
 t53:=Tryz.underlying365
 a53:=Tryz.isAgg365
 z53:=Tryz.sizeOf365
 v53:=Tryz.zeroValue365
 t171:=Tryz.underlying451
 a171:=Tryz.isAgg451
 z171:=Tryz.sizeOf451
 v171:=Tryz.zeroValue451
 t173:=Tryz.underlying453
 a173:=Tryz.isAgg453
 z173:=Tryz.sizeOf453
 v173:=Tryz.zeroValue453
 t212:=Tryz.underlying461
 a212:=Tryz.isAgg461
 z212:=Tryz.sizeOf461
 v212:=Tryz.zeroValue461
 t213:=Tryz.underlying462
 a213:=Tryz.isAgg462
 z213:=Tryz.sizeOf462
 t232:=Tryz.underlying468
 a232:=Tryz.isAgg468
 z232:=Tryz.sizeOf468
 v232:=Tryz.zeroValue468
 t233:=Tryz.underlying469
 a233:=Tryz.isAgg469
 z233:=Tryz.sizeOf469
 v233:=Tryz.zeroValue469
 g17:=by kernel_rfl
 g18:=by kernel_rfl
 g19:=by kernel_rfl
 i0:=by kernel_rfl
 i2:=by kernel_rfl
 i3:=by kernel_rfl
 i4:=by kernel_rfl
 i5:=by kernel_rfl
 i9:=by kernel_rfl
 i20:=by kernel_rfl
 i37:=by kernel_rfl
 i46:=by kernel_rfl
 i51:=by kernel_rfl
 i53:=by kernel_rfl
 i171:=by kernel_rfl
 i173:=by kernel_rfl
 i212:=by kernel_rfl
 i232:=by kernel_rfl
 i233:=by kernel_rfl
 m17:=by kernel_rfl
 m18:=by kernel_rfl
 m19:=by kernel_rfl}
def Tryz.B4:Go.Shelf.Ren:=⟨fun|146=>297|221=>357|268=>386|138=>387|143=>371|195=>402|197=>403|218=>404|219=>398|260=>410|217=>370|225=>396|224=>395|267=>409|266=>397|314=>413|n=>n,fun|9=>9|31=>27|3=>3|4=>4|0=>0|105=>459|21=>21|5=>5|46=>281|119=>464|139=>467|138=>466|146=>440|51=>363|n=>n,fun|1=>1|3=>2|4=>3|n=>n⟩
theorem Tryz.ao7:Go.Proofs.Lays.n146 bb4 Tryz.B4:={
 mixed:=by kernel_rfl
 f138:=Tryz.func387.trans (congrArg some (by kernel_rfl))
 f143:=Tryz.func371.trans (congrArg some (by kernel_rfl))
 f146:=Tryz.func297.trans (congrArg some (by kernel_rfl))
 f195:=Tryz.func402.trans (congrArg some (by kernel_rfl))
 f197:=Tryz.func403.trans (congrArg some (by kernel_rfl))
 f217:=Tryz.func370.trans (congrArg some (by kernel_rfl))
 f218:=Tryz.func404.trans (congrArg some (by kernel_rfl))
 f219:=Tryz.func398.trans (congrArg some (by kernel_rfl))
 f221:=Tryz.func357.trans (congrArg some (by kernel_rfl))
 f224:=Tryz.func395.trans (congrArg some (by kernel_rfl))
 f225:=Tryz.func396.trans (congrArg some (by kernel_rfl))
 f260:=Tryz.func410.trans (congrArg some (by kernel_rfl))
 f266:=Tryz.func397.trans (congrArg some (by kernel_rfl))
 f267:=Tryz.func409.trans (congrArg some (by kernel_rfl))
 f268:=Tryz.func386.trans (congrArg some (by kernel_rfl))
 f314:=Tryz.func413.trans (congrArg some (by kernel_rfl))
 t0:=bn2
 a0:=br1
 z0:=bq2
 v0:=bn9
 t3:=bn3
 a3:=br2
 z3:=bq3
 v3:=bo0
 t4:=bl6
 a4:=br3
 z4:=bq4
 v4:=bo1
 t5:=bl5
 a5:=bs3
 z5:=br6
 v5:=bp7
 t9:=bn4
 a9:=br4
 z9:=bq5
 v9:=bo2
 t21:=Tryz.underlying21
 a21:=Tryz.isAgg21
 z21:=Tryz.sizeOf21
 v21:=Tryz.zeroValue21
 t31:=Tryz.underlying27
 a31:=Tryz.isAgg27
 z31:=Tryz.sizeOf27
 v31:=Tryz.zeroValue27
 t46:=bs0
 a46:=bu3
 z46:=bt8
 v46:=bs8
 t51:=bs1
 a51:=bu4
 z51:=bt9
 v51:=bs9
 t105:=Tryz.underlying459
 a105:=Tryz.isAgg459
 z105:=Tryz.sizeOf459
 v105:=Tryz.zeroValue459
 t119:=Tryz.underlying464
 a119:=Tryz.isAgg464
 z119:=Tryz.sizeOf464
 t138:=Tryz.underlying466
 a138:=Tryz.isAgg466
 z138:=Tryz.sizeOf466
 v138:=Tryz.zeroValue466
 t139:=Tryz.underlying467
 a139:=Tryz.isAgg467
 z139:=Tryz.sizeOf467
 v139:=Tryz.zeroValue467
 t146:=Tryz.underlying440
 a146:=Tryz.isAgg440
 z146:=Tryz.sizeOf440
 v146:=Tryz.zeroValue440
 g1:=by kernel_rfl
 g3:=by kernel_rfl
 g4:=by kernel_rfl}
def Tryz.NY:Go.Shelf.Ren:=⟨fun|105=>308|212=>340|99=>324|165=>312|166=>307|170=>361|169=>223|263=>381|264=>382|206=>369|240=>360|241=>363|276=>388|277=>393|n=>n,fun|9=>9|3=>3|4=>4|20=>20|0=>0|46=>281|109=>403|5=>5|72=>302|76=>377|51=>363|146=>440|53=>365|148=>442|70=>300|37=>65|75=>376|127=>382|164=>449|80=>310|n=>n,fun|n=>n⟩
theorem Tryz.ao6:Go.Proofs.Lays.n105 bb4 Tryz.NY:={
 mixed:=by kernel_rfl
 f99:=Tryz.func324.trans (congrArg some (by kernel_rfl))
 f105:=Tryz.func308.trans (congrArg some (by kernel_rfl))
 f165:=Tryz.func312.trans (congrArg some (by kernel_rfl))
 f166:=Tryz.func307.trans (congrArg some (by kernel_rfl))
 f169:=Tryz.func223.trans (congrArg some (by kernel_rfl))
 f170:=Tryz.func361.trans (congrArg some (by kernel_rfl))
 f206:=Tryz.func369.trans (congrArg some (by kernel_rfl))
 f212:=Tryz.func340.trans (congrArg some (by kernel_rfl))
 f240:=Tryz.func360.trans (congrArg some (by kernel_rfl))
 f241:=Tryz.func363.trans (congrArg some (by kernel_rfl))
 f263:=Tryz.func381.trans (congrArg some (by kernel_rfl))
 f264:=Tryz.func382.trans (congrArg some (by kernel_rfl))
 f276:=Tryz.func388.trans (congrArg some (by kernel_rfl))
 f277:=Tryz.func393.trans (congrArg some (by kernel_rfl))
 t0:=bn2
 a0:=br1
 z0:=bq2
 v0:=bn9
 t3:=bn3
 a3:=br2
 z3:=bq3
 v3:=bo0
 t4:=bl6
 a4:=br3
 z4:=bq4
 v4:=bo1
 t5:=bl5
 a5:=bs3
 z5:=br6
 v5:=bp7
 t9:=bn4
 a9:=br4
 z9:=bq5
 v9:=bo2
 t20:=bo7
 a20:=br7
 z20:=br5
 v20:=bp6
 t37:=bs7
 a37:=Tryz.isAgg65
 z37:=bu2
 v37:=bt0
 t46:=bs0
 a46:=bu3
 z46:=bt8
 v46:=bs8
 t51:=bs1
 a51:=bu4
 z51:=bt9
 v51:=bs9
 t53:=Tryz.underlying365
 a53:=Tryz.isAgg365
 z53:=Tryz.sizeOf365
 v53:=Tryz.zeroValue365
 t70:=Tryz.underlying300
 a70:=Tryz.isAgg300
 z70:=Tryz.sizeOf300
 v70:=Tryz.zeroValue300
 t72:=Tryz.underlying302
 a72:=Tryz.isAgg302
 z72:=Tryz.sizeOf302
 v72:=Tryz.zeroValue302
 t75:=Tryz.underlying376
 a75:=Tryz.isAgg376
 z75:=Tryz.sizeOf376
 v75:=Tryz.zeroValue376
 t76:=Tryz.underlying377
 a76:=Tryz.isAgg377
 z76:=Tryz.sizeOf377
 v76:=Tryz.zeroValue377
 t109:=Tryz.underlying403
 a109:=Tryz.isAgg403
 z109:=Tryz.sizeOf403
 v109:=Tryz.zeroValue403
 t127:=Tryz.underlying382
 a127:=Tryz.isAgg382
 z127:=Tryz.sizeOf382
 v127:=Tryz.zeroValue382
 t146:=Tryz.underlying440
 a146:=Tryz.isAgg440
 z146:=Tryz.sizeOf440
 v146:=Tryz.zeroValue440
 t148:=Tryz.underlying442
 a148:=Tryz.isAgg442
 z148:=Tryz.sizeOf442
 v148:=Tryz.zeroValue442
 t164:=Tryz.underlying449
 a164:=Tryz.isAgg449
 z164:=Tryz.sizeOf449
 v164:=Tryz.zeroValue449}
def Tryz.zr:Go.Shelf.Ren:=⟨fun|156=>219|165=>312|166=>307|169=>223|240=>360|241=>363|276=>388|277=>393|n=>n,fun|31=>27|9=>9|3=>3|4=>4|0=>0|20=>20|72=>302|76=>377|70=>300|37=>65|75=>376|127=>382|164=>449|5=>5|80=>310|n=>n,fun|n=>n⟩
theorem Tryz.zq:Go.Proofs.Lays.n156 bb4 Tryz.zr:={
 mixed:=by kernel_rfl
 f156:=Tryz.func219.trans (congrArg some (by kernel_rfl))
 f165:=Tryz.func312.trans (congrArg some (by kernel_rfl))
 f166:=Tryz.func307.trans (congrArg some (by kernel_rfl))
 f169:=Tryz.func223.trans (congrArg some (by kernel_rfl))
 f240:=Tryz.func360.trans (congrArg some (by kernel_rfl))
 f241:=Tryz.func363.trans (congrArg some (by kernel_rfl))
 f276:=Tryz.func388.trans (congrArg some (by kernel_rfl))
 f277:=Tryz.func393.trans (congrArg some (by kernel_rfl))
 t0:=bn2
 a0:=br1
 z0:=bq2
 v0:=bn9
 t3:=bn3
 a3:=br2
 z3:=bq3
 v3:=bo0
 t4:=bl6
 a4:=br3
 z4:=bq4
 v4:=bo1
 t9:=bn4
 a9:=br4
 z9:=bq5
 v9:=bo2
 t20:=bo7
 a20:=br7
 z20:=br5
 v20:=bp6
 t31:=Tryz.underlying27
 a31:=Tryz.isAgg27
 z31:=Tryz.sizeOf27
 v31:=Tryz.zeroValue27
 t37:=bs7
 a37:=Tryz.isAgg65
 z37:=bu2
 v37:=bt0
 t70:=Tryz.underlying300
 a70:=Tryz.isAgg300
 z70:=Tryz.sizeOf300
 v70:=Tryz.zeroValue300
 t72:=Tryz.underlying302
 a72:=Tryz.isAgg302
 z72:=Tryz.sizeOf302
 v72:=Tryz.zeroValue302
 t75:=Tryz.underlying376
 a75:=Tryz.isAgg376
 z75:=Tryz.sizeOf376
 v75:=Tryz.zeroValue376
 t76:=Tryz.underlying377
 a76:=Tryz.isAgg377
 z76:=Tryz.sizeOf377
 v76:=Tryz.zeroValue377
 t127:=Tryz.underlying382
 a127:=Tryz.isAgg382
 z127:=Tryz.sizeOf382
 v127:=Tryz.zeroValue382
 t164:=Tryz.underlying449
 a164:=Tryz.isAgg449
 z164:=Tryz.sizeOf449
 v164:=Tryz.zeroValue449}
def Tryz.Zr:Go.Shelf.Ren:=⟨fun|4=>303|n=>n,fun|22=>78|25=>80|3=>3|4=>4|9=>9|20=>20|0=>0|n=>n,fun|n=>n⟩
theorem Tryz.My:Go.Proofs.Lays8.n4 bb4 Tryz.Zr:={
 mixed:=by kernel_rfl
 f4:=⟨Tryz.f303.name,by decide,Tryz.func303.trans (congrArg some (by kernel_rfl))⟩
 t0:=bn2
 a0:=br1
 z0:=bq2
 v0:=bn9
 t3:=bn3
 a3:=br2
 z3:=bq3
 v3:=bo0
 t4:=bl6
 a4:=br3
 z4:=bq4
 v4:=bo1
 t9:=bn4
 a9:=br4
 z9:=bq5
 v9:=bo2
 t20:=bo7
 a20:=br7
 z20:=br5
 v20:=bp6
 t22:=Tryz.underlying78
 a22:=Tryz.isAgg78
 z22:=Tryz.sizeOf78
 v22:=Tryz.zeroValue78}
def Tryz.Zs:Go.Shelf.Ren:=⟨fun|4=>355|n=>n,fun|22=>77|25=>82|3=>3|4=>4|9=>9|20=>20|0=>0|n=>n,fun|n=>n⟩
theorem Tryz.Mz:Go.Proofs.Lays8.n4 bb4 Tryz.Zs:={
 mixed:=by kernel_rfl
 f4:=⟨Tryz.f355.name,by decide,Tryz.func355.trans (congrArg some (by kernel_rfl))⟩
 t0:=bn2
 a0:=br1
 z0:=bq2
 v0:=bn9
 t3:=bn3
 a3:=br2
 z3:=bq3
 v3:=bo0
 t4:=bl6
 a4:=br3
 z4:=bq4
 v4:=bo1
 t9:=bn4
 a9:=br4
 z9:=bq5
 v9:=bo2
 t20:=bo7
 a20:=br7
 z20:=br5
 v20:=bp6
 t22:=Tryz.underlying77
 a22:=Tryz.isAgg77
 z22:=Tryz.sizeOf77
 v22:=Tryz.zeroValue77}
theorem Tryz.ao9:Go.Proofs.Lays.n240 bb4 Tryz.zr:={Tryz.zq with}
theorem Tryz.ao8:Go.Proofs.Lays.n169 bb4 Tryz.zr:={Tryz.zq with}
theorem Tryz.yI:Builder.Extra bb4 Tryz.zr:={
 sizeBuilder:=by kernel_rfl
 liesBuilder:=by kernel_rfl
 t5:=bl5
 a5:=bs3
 z5:=br6
 v5:=bp7
 infoByte:=by kernel_rfl
 cellsByte:=by kernel_rfl
 sizeByte:=by kernel_rfl
 neB5:=by decide}
theorem Tryz.YQ:Builder.Extra bb4 Tryz.NY:={
 sizeBuilder:=by kernel_rfl
 liesBuilder:=by kernel_rfl
 t5:=bl5
 a5:=bs3
 z5:=br6
 v5:=bp7
 infoByte:=by kernel_rfl
 cellsByte:=by kernel_rfl
 sizeByte:=by kernel_rfl
 neB5:=by decide}
end Go.Proofs
namespace Go.ba
open Go Go.Proofs Go.Shelf Go.RowKit
variable {P:Program}{ρ:Ren}
set_option maxHeartbeats 1000000 in
set_option maxRecDepth 100000 in
theorem XH (L:Lays.n240 P ρ) (X:Builder.X72 P ρ){T:TypeId}{n:Nat}(hn:0<n) (hl:liesAt P P.depth T (n/P.cellsOf T) 0 (ρ.t 72) 1=true) (b:Nat) (w:World) (h0:w.cell? ⟨b,0,none⟩=some (.pointer none)) (hsh:w.shape? b=some (T,n)) (hfz:w.frozen? ⟨b,0,none⟩=false):
  Calls P (ρ.f 240) #[.pointer (some ⟨b,0,none⟩)] w fun e w'=>e= .returned (.tuple #[])∧w'=w.setCell ⟨b,0,none⟩ (.pointer (some ⟨b,0,none⟩)):=by
 obtain⟨j,hj,hjs⟩:=Option.map_eq_some_iff.1 X.sizeBuilder
 have mixed:=L.mixed
 have t72:=L.t72; have a72:=L.a72; have z72:=L.z72; have v72:=L.v72; have u72:=run_underlying L.t72
 have t70:=L.t70; have a70:=L.a70; have z70:=L.z70; have v70:=L.v70; have u70:=run_underlying L.t70
 have t9:=L.t9; have a9:=L.a9; have z9:=L.z9; have v9:=L.v9; have u9:=run_underlying L.t9
 have t4:=L.t4; have a4:=L.a4; have z4:=L.z4; have v4:=L.v4; have u4:=run_underlying L.t4
 have t164:=L.t164; have a164:=L.a164; have z164:=L.z164; have v164:=L.v164; have Ht:=run_underlying L.t164
 go_enter L.f240,Body.n240_ntmps ρ
 go_wp2
 rw[Lib.run_to_unsafe w ⟨b,0,none⟩ L.t70 L.t164 hj (by rw[hjs]; decide) hsh hn]
 simp only[Result.andThen]
 rw[Oper.upon_value]
 go_wp2
 rw[run_callFunc_extern L.f276 (by kernel_rfl) (by kernel_rfl) (by kernel_rfl) (e:=Extern.AbiNoEscape.same) (by kernel_rfl)]
 rw[Lib.run_noEscape]
 simp only[Result.andThen]
 rw[Oper.upon_value]
 go_wp2
 rw[Lib.run_from_unsafe w ⟨b,0,none⟩ L.t164 L.t70 hj hsh hl]
 simp only[Result.andThen]
 rw[Oper.upon_value]
 go_wp2
 go_end0
 exact⟨rfl,rfl⟩
set_option maxHeartbeats 1000000 in
set_option maxRecDepth 100000 in
theorem aO2 (L:Lays.n169 P ρ) (X:Builder.Extra P ρ) (b g cap:Nat) (cur:Array Value) (l:List UInt8) (w:World) (c1:w.drew.cell? ⟨b,1,none⟩=some (.slice (some ⟨g,0,none⟩) l.length cap)) (h0:l≠[]) (hg:w.drew.heap[g]? =some (.cells cur (ρ.t 5) (0,0))) (hnc:l.length≤cap) (hcm:cap≤maxLen) (hcs:cur.size=cap*1)
  (hcell: ∀j x,l[j]? =some x→w.drew.cell? ((⟨g,0,none⟩:Addr).add j)=some (.int .u8 x.toNat)):
  Calls P (ρ.f 169) #[.pointer (some ⟨b,0,none⟩)] w fun e w'=>e= .returned (.string ⟨l.toArray⟩)∧w'=w.drew.freeze ⟨g,0,none⟩ l.length:=by
 have hl0:l.length≠0:=by simpa using h0
 have hSD:(Builtin.unsafeSliceData_ #[(ρ.t 37)] (ρ.t 127) #[.slice (some ⟨g,0,none⟩) l.length cap]).run P w.drew= .ok (.pointer (some ⟨g,0,none⟩)) w.drew:=
  Lib.run_unsafeSliceData_row _ _ _ _ _ _ (by omega)
 have hUS:(Builtin.unsafeString_ #[(ρ.t 127),(ρ.t 3)] (ρ.t 9) #[.pointer (some ⟨g,0,none⟩),.int .i64 l.length]).run P w.drew= .ok (.string ⟨l.toArray⟩) (w.drew.freeze ⟨g,0,none⟩ l.length):=
  Lib.run_unsafeString_row w.drew (ρ.t 127) (ρ.t 3) (ρ.t 9) (ρ.t 5) L.t127 X.cellsByte g cur.size (by simp [World.shape?,hg]) l h0 (by omega) (by unfold maxLen at hcm; omega) hcell
 have mixed:=L.mixed
 have t72:=L.t72; have a72:=L.a72; have z72:=L.z72; have v72:=L.v72; have u72:=run_underlying L.t72
 have t70:=L.t70; have a70:=L.a70; have z70:=L.z70; have v70:=L.v70; have u70:=run_underlying L.t70
 have t37:=L.t37; have a37:=L.a37; have z37:=L.z37; have v37:=L.v37; have u37:=run_underlying L.t37
 have t127:=L.t127; have a127:=L.a127; have z127:=L.z127; have v127:=L.v127; have Tl:=run_underlying L.t127
 have t3:=L.t3; have a3:=L.a3; have z3:=L.z3; have v3:=L.v3; have u3:=run_underlying L.t3
 have t9:=L.t9; have a9:=L.a9; have z9:=L.z9; have v9:=L.v9; have u9:=run_underlying L.t9
 have t5:=X.t5; have a5:=X.a5; have z5:=X.z5; have v5:=X.v5; have u5:=run_underlying X.t5
 go_enter L.f169,Body.n169_ntmps ρ
 go_wp2
 go_region_o
 all_goals (go_wp2; go_ret; exact⟨rfl,rfl⟩)
end Go.ba
namespace Go.ba
open Go Go.Proofs Go.Shelf Go.RowKit
def ib (c:UInt8):List I:=[.int .u8 c.toNat]
def Mem.vk (m:Mem) (w':World) (t:Nat) (i:bM):Mem:=⟨w',m.H.ck t (.bC i.ty i.size (i.aU+1) []),fun x=>if x=t then .slice none 0 0 else m.L x,m.T⟩
section
variable {m:Mem}{w':World}{t g:Nat}{i:bM}
theorem yP {t':Nat}{i':bM}(h:(m.vk w' t i).H.tok t'=some i'):(t'=t∧i'= .bC i.ty i.size (i.aU+1) []∧(m.vk w' t i).L t'= .slice none 0 0)∨(t'≠t∧m.H.tok t'=some i'∧(m.vk w' t i).L t'=m.L t'):=by
 simp only[Mem.vk,aA.ck]at h ⊢
 by_cases e:t'=t
 ·rw[if_pos e]at h
  cases h
  exact .inl ⟨e,rfl,if_pos e⟩
 ·rw[if_neg e]at h
  exact .inr ⟨e,h,if_neg e⟩
theorem bV.vh (af:m.H.tok t=some i) (hg:(m.L t).ew=some g) (h1:w'.os=m.w.os) (h2:w'.tape=m.w.tape) (h3:w'.output=m.w.output) (h4:w'.heap.size=m.w.heap.size) (h5: ∀k,k≠g→w'.heap[k]? =m.w.heap[k]?) (h6: ∀k o,w'.cell? ⟨k,o,none⟩=m.w.cell? ⟨k,o,none⟩):bV m (m.vk w' t i) where
 os:=h1
 tape:=h2
 output:=h3
 size:=by show m.w.heap.size≤w'.heap.size; omega
 T:=bc1 _
 block:=fun b hb h h'=>⟨h5 b fun e=>h' t i af (by rw[hg,e]),h,fun t' i' ht'=>by
  rcases yP ht' with ⟨_,_,e⟩|⟨_,e1,e2⟩
  ·rw[e]; simp [Value.ew]
  ·rw[e2]; exact h' t' i' e1⟩
 cell:=fun b o ao=>⟨⟨by show b<w'.heap.size; rw[h4]; exact ao.lt,ao.aY,fun t' i' ht' hb'=>by
  rcases yP ht' with ⟨_,_,e⟩|⟨_,e1,e2⟩
  ·rw[e]at hb'; simp [Value.ew]at hb'
  ·rw[e2]at hb'; exact ao.tok t' i' e1 hb'⟩,h6 b o⟩
 tok:=fun t' i' _ h=>by
  rcases yP h with ⟨rfl,rfl,e⟩|⟨_,e1,e2⟩
  ·exact⟨i,af,bm9 _,rfl,fun e=>absurd e (Nat.succ_ne_self _)⟩
  ·exact⟨i',e1,bc1 _,rfl,fun _=>e2⟩
theorem bW.vh (r:bW m) (af:m.H.tok t=some i) (hg:(m.L t).ew=some g) (h1:w'.os=m.w.os) (h2:w'.tape=m.w.tape) (h3:w'.output=m.w.output) (h4:w'.heap.size=m.w.heap.size) (h5: ∀k,k≠g→w'.heap[k]? =m.w.heap[k]?) (h6: ∀k o,w'.cell? ⟨k,o,none⟩=m.w.cell? ⟨k,o,none⟩):bW (m.vk w' t i) where
 kZ:=(pF.aI (bV.vh af hg h1 h2 h3 h4 h5 h6) r.kZ r.k0).1
 k0:=(pF.aI (bV.vh af hg h1 h2 h3 h4 h5 h6) r.kZ r.k0).2
 aY:=fun b T cs hb=>by
  obtain⟨l,e1,e2,b1⟩:=r.aY b T cs hb
  have hne:b≠g:=fun e=>by
   have:=((r.tok t i af).2.2.2 g hg).1
   rw[←e]at this
   rw[show (m.vk w' t i).H.aY b=m.H.aY b from rfl,this]at hb
   cases hb
  exact⟨l,(h5 b hne).trans e1,aR.aI (bV.vh af hg h1 h2 h3 h4 h5 h6) _ l e2,b1⟩
 tok:=fun t' i' ht'=>by
  rcases yP ht' with ⟨rfl,rfl,e⟩|⟨hne,aL,e2⟩
  ·obtain⟨k1,k2,_,_⟩:=r.tok t' i af
   refine⟨k1,k2,⟨[],by rw[e]; exact⟨by simp [bM.bC,bM.len],.inl ⟨rfl,rfl⟩⟩,fun rows ac=> ?_⟩,fun b hb=>by rw[e]at hb; simp [Value.ew]at hb⟩
   simp only[bM.bC,Option.some.injEq]at ac
   subst ac
   exact⟨by simp [aR],fun _ h=>by simp at h,fun _ h=>by simp at h⟩
  ·obtain⟨k1,k2,⟨xs,k3,k5⟩,k4⟩:=r.tok t' i' aL
   rw[e2]
   refine⟨k1,k2,⟨xs,xF k3 fun k hk=>h5 k fun e=> ?_,fun rows ac=>⟨aR.aI (bV.vh af hg h1 h2 h3 h4 h5 h6) _ _ (k5 rows ac).1,(k5 rows ac).2⟩⟩,fun b hb=> ?_⟩
   ·subst e
    exact hne ((r.tok t i af).2.2.2 k hg|>.2 t' i' aL hk)
   ·obtain⟨g1,g2⟩:=k4 b hb
    refine⟨g1,fun t2 i2 h2' hb2=> ?_⟩
    rcases yP h2' with ⟨_,_,e⟩|⟨_,e1,b1⟩
    ·rw[e]at hb2; simp [Value.ew]at hb2
    ·rw[b1]at hb2; exact g2 t2 i2 e1 hb2
end
section
variable {P:Program}{ρ:Ren}{H:aA}
theorem Xr (L:Lays.n240 P ρ) (X:Builder.X72 P ρ){T:TypeId}{b:Nat}{a:I}{cs:List I}(hl:liesAt P P.depth T ((cs.length+1)/P.cellsOf T) 0 (ρ.t 72) 1=true) (hb:H.aY b=some (T,a::cs)) (aS:a= .dV (.pointer none)∨a= .ptr b 0):
  jE P (ρ.f 240) [.ptr b 0] H fun o H'=>o= .ret (.c3 [])∧H'=H.cp b T (.ptr b 0::cs):=by
 intro m aq hH rh hv
 subst hH
 simp only[aR,aP]at hv
 obtain⟨_,_,rfl,rfl,rfl⟩:=hv
 obtain⟨l,g1,g2,g3⟩:=rh.aY b T _ hb
 have hlen:=aR.length g2
 simp only[aR]at g2
 obtain⟨v,l,rfl,hva,hvl⟩:=g2
 have hlt:b<m.w.heap.size:=(Array.getElem?_eq_some_iff.1 g1).1
 have c0:m.w.cell? ⟨b,0,none⟩=some v:=by simp [World.cell?,g1]
 have e1:aR m (.ptr b 0::cs) (.pointer (some ⟨b,0,none⟩)::l):=by simp only[aR,aP]; exact⟨_,_,rfl,rfl,hvl⟩
 have e2: ∀v∈Value.pointer (some ⟨b,0,none⟩)::l,v.oneCell'=true:=fun x hx=>by
  rcases List.mem_cons.1 hx with rfl|hx
  ·rfl
  ·exact g3 x (bh4 _ hx)
 rcases aS with rfl|rfl
 ·simp only[aP]at hva
  subst hva
  have hsh:m.w.shape? b=some (T,cs.length+1):=by
   simp only[bb9]at hlen
   simp [World.shape?,g1]; omega
  have hfz:m.w.frozen? ⟨b,0,none⟩=false:=by simp [World.frozen?,g1]
  refine (XH L X (Nat.succ_pos _) hl b m.w c0 hsh hfz).mono ?_
  rintro e w' ⟨rfl,rfl⟩
  have h5: ∀k,k≠b→(m.w.setCell ⟨b,0,none⟩ (.pointer (some ⟨b,0,none⟩))).heap[k]? =m.w.heap[k]? :=fun k hk=>by
   simp only[World.setCell,bo8]
   rw[if_neg (fun e=>hk e.symm)]
  have h6:(m.w.setCell ⟨b,0,none⟩ (.pointer (some ⟨b,0,none⟩))).heap[b]? =some (.cells ⟨.pointer (some ⟨b,0,none⟩)::l⟩ T (0,0)):=by
   simp [World.setCell,bo8,g1]
  exact⟨.ret (.c3 []),_,m.L,m.T,bW.iW rh hb rfl rfl rfl (by simp [World.setCell]) h5 h6 e1 e2,bV.iW rh hb rfl rfl rfl (by simp [World.setCell]) h5,⟨_,rfl,by simp only[aP,aR]; exact⟨_,rfl,rfl⟩⟩,rfl,rfl⟩
 ·simp only[aP]at hva
  subst hva
  refine (Any.Builder_copyCheck_used L X b m.w c0).mono ?_
  rintro e w' ⟨rfl,rfl⟩
  exact⟨.ret (.c3 []),_,m.L,m.T,bW.iW (w':=m.w) rh hb rfl rfl rfl rfl (fun _ _=>rfl) g1 e1 e2,bV.iW (w':=m.w) rh hb rfl rfl rfl rfl (fun _ _=>rfl),⟨_,rfl,by simp only[aP,aR]; exact⟨_,rfl,rfl⟩⟩,rfl,rfl⟩
theorem aO0 (L:Lays.n169 P ρ) (X:Builder.Extra P ρ){T:TypeId}{b t:Nat}{cs:List I}{l:List UInt8}(hb:H.aY b=some (T,cs)) (hc:cs[1]? =some (.own t 1 (l.map ib))) (aL:H.tok t=some (.bY (ρ.t 5) 1 l.length)) (h0:l≠[]):
  jE P (ρ.f 169) [.ptr b 0] H fun o H'=>o= .ret (.str l)∧H'=H.ck t (.bC (ρ.t 5) 1 (l.length+1) []):=by
 intro m aq hH rh hv
 subst hH
 simp only[aR,aP]at hv
 obtain⟨_,_,rfl,rfl,rfl⟩:=hv
 have hl0:l.length≠0:=by simpa using h0
 obtain⟨lv,g1,g2,g3⟩:=rh.aY b T _ hb
 obtain⟨v,hv1,hv2⟩:=aR.get g2 1 _ hc
 simp only[aP,bb5]at hv2
 obtain⟨⟨a,len,cap,rfl,rfl,⟨hcap,hmax⟩,h4⟩,c4,h6⟩:=hv2
 obtain⟨_,h6'⟩:=h6 _ aL
 have hLt:m.L t= .slice a l.length cap:=(h6' rfl).1
 obtain⟨_,_,⟨xs,k3,_⟩,k4⟩:=rh.tok t _ aL
 rcases h4 with h4|⟨g,o,rfl,hR⟩
 ·exact absurd h4 hl0
 obtain⟨g',cap',cur,hv,_,hg,hnc,hcm,hcs,htake⟩: ∃g' cap' cur,m.L t= .slice (some ⟨g',0,none⟩) l.length cap'∧0≤g'∧m.w.heap[g']? =some (.cells cur (ρ.t 5) (0,0))∧l.length≤cap'∧cap'≤maxLen∧cur.size=cap'*1∧cur.toList.take (l.length*1)=xs:=by
  rcases k3.2 with ⟨_,aw⟩|⟨g',cap',cur,r⟩
  ·exact absurd aw hl0
  ·exact⟨g',cap',cur,r⟩
 rw[hLt]at hv
 obtain⟨hgo,rfl⟩:(g=g'∧o=0)∧cap=cap':=by
  injection hv with e1 _ b1
  injection e1 with e1
  injection e1 with e1 e2
  exact⟨⟨e1,e2⟩,b1⟩
 obtain⟨rfl,rfl⟩:=hgo
 have hg1:(m.L t).ew=some g:=by rw[hLt]; rfl
 have hcell: ∀j x,l[j]? =some x→m.w.drew.cell? ((⟨g,0,none⟩:Addr).add j)=some (.int .u8 x.toNat):=fun j x hx=>by
  obtain⟨_,hC⟩:=dK.get hR j (ib x) (by simp [hx])
  simp only[ib,eS,aP]at hC
  obtain⟨⟨_,ci,_,_,rfl⟩,_⟩:=hC
  have:m.w.drew.cell? ⟨g,0+j*1,none⟩=some (.int .u8 x.toNat):=ci
  rw[bf6,Nat.mul_one]at this
  unfold Addr.add
  by_cases hj:j=0
  ·subst hj; exact this
  ·rw[if_neg hj]; show m.w.drew.cell? ⟨g,0+j,none⟩= _; rw[bf6]; exact this
 have c1:m.w.drew.cell? ⟨b,1,none⟩=some (.slice (some ⟨g,0,none⟩) l.length cap):=by
  show m.w.cell? ⟨b,1,none⟩= _
  simp [World.cell?,g1,hv1]
 refine (aO2 L X b g cap cur l m.w c1 h0 hg hnc hmax hcs hcell).mono ?_
 rintro e w' ⟨rfl,rfl⟩
 have hf:(m.w.drew.freeze ⟨g,0,none⟩ l.length)={m.w.drew with heap:=m.w.heap.modify g fun
   | .cells c elem (b3,af)=> .cells c elem (if b3==af then (0,0+l.length) else (min b3 0,max af (0+l.length)))
   |o=>o}:=by
  unfold World.freeze
  rw[if_neg hl0]
  rfl
 have mz: ∀k,k≠g→(m.w.drew.freeze ⟨g,0,none⟩ l.length).heap[k]? =m.w.heap[k]? :=fun k hk=>by
  rw[hf]
  simp only[bo8]
  rw[if_neg (fun e=>hk e.symm)]
 have q6: ∀k o,(m.w.drew.freeze ⟨g,0,none⟩ l.length).cell? ⟨k,o,none⟩=m.w.cell? ⟨k,o,none⟩:=fun k o=>by
  by_cases e:k=g
  ·subst e
   rw[hf]
   have hg':m.w.heap[k]? =some (.cells cur (ρ.t 5) (0,0)):=hg
   simp [World.cell?,bo8,hg']
  ·exact World.cell?_of_block (a:=⟨k,o,none⟩) (mz k e)
 have gU:(m.w.drew.freeze ⟨g,0,none⟩ l.length).heap.size=m.w.heap.size:=by rw[hf]; simp
 have ci:(m.w.drew.freeze ⟨g,0,none⟩ l.length).os=m.w.os:=by rw[hf]; rfl
 have cM:(m.w.drew.freeze ⟨g,0,none⟩ l.length).tape=m.w.tape:=by rw[hf]; rfl
 have dE:(m.w.drew.freeze ⟨g,0,none⟩ l.length).output=m.w.output:=by rw[hf]; rfl
 exact⟨.ret (.str l),_,_,m.T,bW.vh rh aL hg1 ci cM dE gU mz q6,bV.vh aL hg1 ci cM dE gU mz q6,⟨_,rfl,by simp only[aP]; exact⟨trivial,by omega⟩⟩,rfl,rfl⟩
end
end Go.ba
namespace Go.ba
open Go Go.Proofs Go.Shelf Go.RowKit
variable {P:Program}{ρ:Ren}{c:aN}
def Ch (b:Nat):I→Bool
 | .dV (.pointer none)=>true
 | .ptr b' 0=>b'==b
 | _=>false
theorem Xs (L:Lays.n240 P ρ) (X:Builder.X72 P ρ){T:TypeId}{b:Nat}{a:I}{cs:List I}(hl:liesAt P P.depth T ((cs.length+1)/P.cellsOf T) 0 (ρ.t 72) 1=true) (hb:c.H.aY b=some (T,a::cs)) (aS:Ch b a=true):bg P (ρ.f 240) [.ptr b 0] c (mH (.c3 []) (c.cp b T (.ptr b 0::cs))):=by
 intro H0 s xs' H hv ac
 simp only[bk,aM]at hv
 obtain⟨_,_,rfl,⟨x,hx,rfl⟩,rfl⟩:=hv
 obtain⟨y,cs',g1,g2,g3⟩:=ac.aY _ _ _ hb
 rw[hx]at g1
 cases g1
 have hlen:=bk.length g3
 simp only[bk]at g3
 obtain⟨a',cs',rfl,h1,h2⟩:=g3
 have hok:a'= .dV (.pointer none)∨a'= .ptr x 0:=by
  unfold Ch at aS
  split at aS
  ·left; simpa only[aM] using h1
  ·right
   simp only[beq_iff_eq]at aS
   subst aS
   simp only[aM]at h1
   obtain⟨z,e1,e2⟩:=h1
   rw[hx]at e1
   cases e1
   exact e2
  ·cases aS
 simp only[bb9]at hlen
 refine (Xr L X (by rw[show cs'.length=cs.length by omega]; exact hl) g2 hok).mono fun o H' ⟨e1,e2⟩=> ?_
 subst e1 e2
 refine⟨.ret (.c3 []),_,by exact c5.refl _,HSub.refl _,s,.ret (.c3 []),_,bx.eH.refl s,⟨rfl,rfl⟩,by simp only[mG,aM,bk]; exact⟨_,rfl,rfl⟩,ac.cp hx ?_⟩
 simp only[bk,aM]
 exact⟨_,_,rfl,⟨x,hx,rfl⟩,h2⟩
theorem IJ {s:bx}: ∀(l:List UInt8) (r:List (List I)),cd s (l.map ib) r→r=l.map ib
 |[],_,h=>by simp only[List.map_nil,cd]at h; exact h
 |x::l,_,h=>by
  simp only[bd4,cd,ib,bk,aM]at h
  obtain⟨_,_,rfl,⟨_,_,rfl,rfl,rfl⟩,h⟩:=h
  rw[IJ l _ h]
  rfl
theorem aO1 (L:Lays.n169 P ρ) (X:Builder.Extra P ρ){T:TypeId}{b t:Nat}{cs:List I}{l:List UInt8}(hb:c.H.aY b=some (T,cs)) (hc:cs[1]? =some (.own t 1 (l.map ib))) (aL:c.H.tok t=some (.bY (ρ.t 5) 1 l.length)) (h0:l≠[]):
  bg P (ρ.f 169) [.ptr b 0] c (mH (.str l) (c.ck t (.bC (ρ.t 5) 1 (l.length+1) []))):=by
 intro H0 s xs' H hv ac
 simp only[bk,aM]at hv
 obtain⟨_,_,rfl,⟨x,hx,rfl⟩,rfl⟩:=hv
 obtain⟨y,cs',g1,g2,g3⟩:=ac.aY _ _ _ hb
 rw[hx]at g1
 cases g1
 obtain⟨z,i',k1,k2,k3⟩:=ac.tok _ _ aL
 obtain⟨e1,e2,b1,dC,gF⟩:=k3
 obtain⟨v,hv1,hv2⟩:=bk.get g3 1 _ hc
 simp only[aM]at hv2
 obtain⟨z',r',ci,rfl,dE⟩:=hv2
 rw[k1]at ci
 cases ci
 have hr':=IJ _ _ dE
 subst hr'
 have af:i'= .bY (ρ.t 5) 1 l.length:=by
  obtain⟨i1,i2,i3,i4,i5⟩:=i'
  simp only[bM.bY]at e1 e2 b1 dC gF ⊢
  subst e1 e2 b1 dC gF
  rfl
 subst af
 refine (aO0 L X g2 hv1 k2 h0).mono fun o H' ⟨e1,e2⟩=> ?_
 subst e1 e2
 exact⟨.ret (.str l),_,by exact c5.refl _,HSub.refl _,s,.ret (.str l),_,bx.eH.refl s,⟨rfl,rfl⟩,by simp only[mG,aM],ac.ck k1 ⟨rfl,rfl,rfl,rfl,[],rfl,by simp only[cd]⟩⟩
end Go.ba
namespace Go.ba
open Go Go.Proofs Go.Shelf Go.RowKit
variable {P:Program}{ρ:Ren}
set_option maxHeartbeats 1000000 in
theorem aM7 (L:Lays.n146 P ρ) (hi9:(P.info? (ρ.t 9)).map (fun i=>(i.zero,i.size,i.bytes))=some (some (.string ByteArray.empty),1,16)) (s:ByteArray) (b:UInt8) (w:World) (ao:s.size<4294967281):
  Calls P (ρ.f 146) #[.string s,.string ⟨#[b]⟩] w fun e w'=>
   e= .returned (.slice (some ⟨w.heap.size,0,none⟩) (Lib.countB s ⟨#[b]⟩+1) (Lib.countB s ⟨#[b]⟩+1))∧w'=w.alloc (.cells ((Lib.splitB ⟨#[b]⟩ 0 (Lib.countB s ⟨#[b]⟩) s).map Value.string).toArray (ρ.t 9)):=by
 have h1:1≤(⟨#[b]⟩:ByteArray).size:=bc1 _
 have hle:=Lib.countB_le ⟨#[b]⟩ h1 s.size s (bc1 _)
 have hlen:=Lib.splitB_all ⟨#[b]⟩ h1 0 _ s rfl
 have hC: ∀w,Calls P (ρ.f 138) #[.string s,.string ⟨#[b]⟩] w fun e w'=>e= .returned (.int .i64 (Lib.countB s ⟨#[b]⟩))∧w'=w:=fun w=>by
  refine (Any.strings_Count_one {L with} s b w).mono fun e w' ⟨he,hw⟩=>⟨?_,hw⟩
  rw[he]
  show _=Ending.returned (Value.int .i64 ((Lib.count s.data.toList [b]:Nat):Int))
  rw[Lib.count_one]
  rfl
 have hI: ∀(x:ByteArray) (w:World),Calls P (ρ.f 143) #[.string x,.string ⟨#[b]⟩] w fun e w'=>e= .returned (.int .i64 (Lib.indexB x ⟨#[b]⟩))∧w'=w:=fun x w=>by
  refine (Any.strings_Index_one {L with} x b w).mono fun e w' ⟨he,hw⟩=>⟨?_,hw⟩
  rw[he]
  show _=Ending.returned (Value.int .i64 (Lib.index x.data.toList [b]))
  rw[Lib.index_one]
 have c:=Any.strings_genSplit_core {L with} hi9 s ⟨#[b]⟩ 0 (-1) (Lib.countB s ⟨#[b]⟩+1) w ao h1 (bc3 _) (fun x c hx=>hI x _) (hC w) (by decide) (by decide) (by rw[if_pos (by decide)]; omega)
 rw[Nat.add_sub_cancel,hlen]at c
 have e2:Lib.cellsOf (Lib.splitB ⟨#[b]⟩ 0 (Lib.countB s ⟨#[b]⟩) s) (Lib.countB s ⟨#[b]⟩+1)=((Lib.splitB ⟨#[b]⟩ 0 (Lib.countB s ⟨#[b]⟩) s).map Value.string).toArray:=by rw[←hlen]; exact Lib.cellsOf_full _
 rw[e2]at c
 have t3:=L.t3; have t9:=L.t9; have t31:=L.t31
 have a3:=L.a3; have a9:=L.a9; have a31:=L.a31
 have z3:=L.z3; have v3:=L.v3; have z9:=L.z9; have v9:=L.v9; have z31:=L.z31; have v31:=L.v31
 have Ed: ∀args w,(callFunc (ρ.f 221) args).run P w= .ok (.enter (ρ.f 221) args) w:=enters_of L.f221 (by kernel_rfl) rfl
 go_enter L.f146,Body.n146_ntmps ρ
 go_wp2_with (go_at_fn (ρ.f 221); refine c.mono ?_; rintro e w' ⟨rfl,hw⟩; rw[hw])
 go_ret
 exact⟨rfl,rfl⟩
end Go.ba
namespace Go.ba
open Go Go.Proofs Go.Shelf Go.RowKit
variable {P:Program}{ρ:Ren}{H:aA}{c:aN}
theorem Zt (L:Lays8.n4 P ρ){i0:TypeInfo}{z:Value}(hi0:P.info? (ρ.t 25)=some i0) (hz0:i0.zero=some z) (hs0:0<i0.size) (pZ:z.cells.size=i0.size){n:Nat}(h0:0<n) (hb:n*i0.bytes≤140737488355328) (hn:n≤4611686018427387904):
  jE P (ρ.f 4) [.bi,.int .i64 n] H fun o H'=> ∃t,H.tok t=none∧o= .ret (.own t i0.size [])∧H'=H.ck t (.bY (ρ.t 25) i0.size 0):=by
 intro m aq hH rh hv
 subst hH
 simp only[aR,aP]at hv
 obtain⟨_,_,rfl,rfl,_,_,rfl,rfl,rfl⟩:=hv
 refine (Any8.slices_Grow_grow L i0 z hi0 hz0 hs0 none 0 0 n [] m.w (bc1 _) (by omega) (by simpa using hb) (by omega) (by simp) (fun _=>rfl) (fun a h=>by cases h)).mono ?_
 rintro e w' ⟨rfl,rfl⟩
 simp only[bf6,Nat.sub_zero]
 have hge:=grownCap_ge m.w n 0 (ρ.t 25)
 have hle:=grownCap_le_maxLen m.w n 0 (ρ.t 25) (by unfold maxLen; omega)
 generalize grownCap m.w n 0 (ρ.t 25)=cap at hge hle
 generalize hob:Obj.cells ([].toArray++Builtin.zeroCells z.cells n++Builtin.zeroCells z.cells (cap-n)) (ρ.t 25)=ob
 have hnew:(m.w.drew.alloc ob).heap[m.w.heap.size]? =some ob:=vs m.w ob
 have hv: ∀b,(Value.slice (some ⟨m.w.heap.size,0,none⟩) 0 cap).ew=some b→m.w.heap.size≤b:=fun b e=>by simp [Value.ew]at e; omega
 have r:=bW.bh rh (w':=m.w.drew.alloc ob) (v:= .slice (some ⟨m.w.heap.size,0,none⟩) 0 cap) (o:= .bY (ρ.t 25) i0.size 0) rfl rfl rfl (by rw[show (m.w.drew.alloc ob).heap.size=m.w.drew.heap.size+1 by simp]; exact bm9 _) (fun b hb=>sE m.w ob b hb) hv (by simp [bM.bY]; omega)
  ⟨[],⟨by simp [bM.bY,bM.len],.inr ⟨m.w.heap.size,cap,[].toArray++Builtin.zeroCells z.cells n++Builtin.zeroCells z.cells (cap-n),rfl,bc3 _,by rw[hnew,←hob]; rfl,bc3 _,hle,by
   simp only[Array.size_append,x6,pZ,bM.bY]
   simp only[List.size_toArray,bc4,bf6]
   rw[←Nat.add_mul]
   congr 1
   omega,by simp [bM.len,bM.bY]⟩⟩,fun _ h=>by cases h⟩
 have e:=bV.bh rh (w':=m.w.drew.alloc ob) (v:= .slice (some ⟨m.w.heap.size,0,none⟩) 0 cap) (o:= .bY (ρ.t 25) i0.size 0) rfl rfl rfl (by rw[show (m.w.drew.alloc ob).heap.size=m.w.drew.heap.size+1 by simp]; exact bm9 _) (fun b hb=>sE m.w ob b hb) hv
 exact⟨.ret (.own m.T i0.size []),_,_,_,r,e,⟨_,rfl,Pr r (i:= .bY (ρ.t 25) i0.size 0) (by simp [Mem.bh,aA.ck]) (by simp [Mem.bh]) ⟨_,cap,rfl,hle⟩ rfl rfl⟩,m.T,r2 rh,rfl,rfl⟩
theorem MA (L:Lays8.n4 P ρ){i0:TypeInfo}{z:Value}(hi0:P.info? (ρ.t 25)=some i0) (hz0:i0.zero=some z) (hs0:0<i0.size) (pZ:z.cells.size=i0.size){n:Nat}(h0:0<n) (hb:n*i0.bytes≤140737488355328) (hn:n≤4611686018427387904):
  bg P (ρ.f 4) [.bi,.int .i64 n] c (mH (.own c.bh i0.size []) (c.gO (.bY (ρ.t 25) i0.size 0))):=by
 intro H0 s xs' H hv ac
 simp only[bk,aM]at hv
 obtain⟨_,_,rfl,rfl,_,_,rfl,rfl,rfl⟩:=hv
 refine (Zt L hi0 hz0 hs0 pZ h0 hb hn).mono fun o H' ⟨t,e0,e1,e2⟩=> ?_
 subst e1 e2
 refine⟨.ret (.own t i0.size []),_,by exact c5.refl _,HSub.refl _,⟨s.b,s.t++[t]⟩,.ret (.own c.bh i0.size []),_,bx.lH s t,⟨rfl,rfl⟩,?_,ac.gO h8.bY e0⟩
 simp only[mG,aM,cd]
 exact⟨t,[],by rw[ac.bh]; exact oj,rfl,rfl⟩
theorem Mx (L:Lays8.n4 P ρ):bg P (ρ.f 4) [.bi,.int .i64 0] c (mH .bi c):=by
 intro H0 s xs' H hv ac
 simp only[bk,aM]at hv
 obtain⟨_,_,rfl,rfl,_,_,rfl,rfl,rfl⟩:=hv
 have:jE P (ρ.f 4) [.bi,.int .i64 0] H fun o H'=>o= .ret .bi∧H'=H:=by
  intro m aq hH rh hv
  subst hH
  simp only[aR,aP]at hv
  obtain⟨_,_,rfl,rfl,_,_,rfl,rfl,rfl⟩:=hv
  refine (Any8.slices_Grow_room L none 0 0 0 m.w (bc1 _) (by omega) (by omega) (by omega)).mono ?_
  rintro e w' ⟨rfl,rfl⟩
  exact⟨.ret .bi,m.H,m.L,m.T,rh,bV.refl m,⟨_,rfl,by simp only[aP]⟩,rfl,rfl⟩
 refine this.mono fun o H' ⟨e1,e2⟩=> ?_
 subst e1 e2
 exact⟨.ret .bi,_,by exact c5.refl _,HSub.refl _,s,.ret .bi,c,bx.eH.refl s,⟨rfl,rfl⟩,by simp only[mG,aM],ac⟩
end Go.ba
namespace Go.ba
open Go
inductive au where
 |mk (kind:Int) (op name text:List UInt8) (n:Int) (args:List au)
mutual
def au.row:au→List I
 | .mk k o m t n l=>[.int .i64 k,.str o,.str m,.str t,.int .i64 n,.aq 6 (au.rows l)]
def au.rows:List au→List (List I)
 |[]=>[]
 |x::l=>x.row::au.rows l
end
theorem au.l0: ∀l:List au,au.rows l=l.map au.row
 |[]=>rfl
 |x::l=>by simp only[au.rows,bd4,au.l0 l]
inductive ai where
 |mk (kind:Int) (name:List UInt8) (expr:au) (times:Int) (body tE:List ai)
mutual
def ai.row:ai→List I
 | .mk k m x t a b=>[.int .i64 k,.str m]++x.row++[.int .i64 t,.aq 11 (ai.rows a),.aq 11 (ai.rows b)]
def ai.rows:List ai→List (List I)
 |[]=>[]
 |x::l=>x.row::ai.rows l
end
theorem ai.l0: ∀l:List ai,ai.rows l=l.map ai.row
 |[]=>rfl
 |x::l=>by simp only[ai.rows,bd4,ai.l0 l]
def si (n:Int):Prop:=(Lit.int .i64 n).wf=true
mutual
def au.ok (R:Nat):au→Prop
 | .mk k o m t n l=>si k∧o.length≤R∧m.length≤R∧t.length≤R∧si n∧l.length*88≤R∧au.mW R l
def au.mW (R:Nat):List au→Prop
 |[]=>True
 |x::l=>x.ok R∧au.mW R l
end
theorem au.rW {R:Nat}: ∀ {l:List au},(∀x∈l,x.ok R)→au.mW R l
 |[],_=>trivial
 |x::l,h=>⟨h x (by simp),au.rW fun y hy=>h y (by simp [hy])⟩
theorem au.vT {R:Nat}: ∀ {l:List au}{i:Nat}{x:au},au.mW R l→l[i]? =some x→x.ok R
 |y::l,0,x,h,e=>by simp at e; subst e; exact h.1
 |y::l,i+1,x,h,e=>au.vT (l:=l) (i:=i) h.2 (by simpa using e)
 |[],_,_,_,e=>by simp at e
mutual
def ai.ok (R:Nat):ai→Prop
 | .mk k m x t a b=>si k∧m.length≤R∧x.ok R∧si t∧a.length*168≤R∧b.length*168≤R∧ai.mW R a∧ai.mW R b
def ai.mW (R:Nat):List ai→Prop
 |[]=>True
 |x::l=>x.ok R∧ai.mW R l
end
theorem ai.rW {R:Nat}: ∀ {l:List ai},(∀x∈l,x.ok R)→ai.mW R l
 |[],_=>trivial
 |x::l,h=>⟨h x (by simp),ai.rW fun y hy=>h y (by simp [hy])⟩
theorem ai.vT {R:Nat}: ∀ {l:List ai}{i:Nat}{x:ai},ai.mW R l→l[i]? =some x→x.ok R
 |y::l,0,x,h,e=>by simp at e; subst e; exact h.1
 |y::l,i+1,x,h,e=>ai.vT (l:=l) (i:=i) h.2 (by simpa using e)
 |[],_,_,_,e=>by simp at e
theorem l1 {α:Type}{f:α→List I}{p:α→Prop}: ∀ {rows:List (List I)},(∀r∈rows,∃x,r=f x∧p x)→∃l:List α,rows=l.map f∧∀x∈l,p x
 |[],_=>⟨[],rfl,fun _ h=>by simp at h⟩
 |r::rows,h=>by
  obtain⟨x,rfl,hx⟩:=h r (by simp)
  obtain⟨l,rfl,hl⟩:=l1 (rows:=rows) (f:=f) (p:=p) fun r ac=>h r (bh4 _ ac)
  exact⟨x::l,rfl,fun y hy=>by
   rcases List.mem_cons.1 hy with rfl|hy
   ·exact hx
   ·exact hl y hy⟩
section
variable {P:Program}{E:List TypeId}{R:Nat}{te ts:TypeId}
theorem Es (c4:jz P E 8 te=some [.dr (.i .i64),.dr .s,.dr .s,.dr .s,.dr (.i .i64),.gW te]) (hc:P.cellsOf te=6) (hb:P.bytesOf te=88): ∀(n:Nat) (r:List I),lp P E R n te r→∃x:au,r=x.row∧x.ok R
 |0,_,h=>h.elim
 |n+1,r,h=>by
  obtain⟨bH,h1,h2⟩:=h
  rw[c4]at h1
  cases h1
  simp only[ix,gZ.ok,hc,hb]at h2
  obtain⟨_,_,rfl,⟨k,rfl,w1⟩,_,_,rfl,⟨o,rfl,w2⟩,_,_,rfl,⟨m,rfl,oU⟩,_,_,rfl,⟨t,rfl,q4⟩,_,_,rfl,⟨i,rfl,wl⟩,_,_,rfl,⟨rows,rfl,Ap,h3⟩,rfl⟩:=h2
  obtain⟨l,rfl,hl⟩:=l1 (f:=au.row) (p:=au.ok R) fun r hm=>Es c4 hc hb n r (h3 r hm)
  exact⟨.mk k o m t i l,by simp only[au.row,au.l0],w1,w2,oU,q4,wl,by simpa using Ap,au.rW hl⟩
theorem G9 (c4:jz P E 8 te=some [.dr (.i .i64),.dr .s,.dr .s,.dr .s,.dr (.i .i64),.gW te]) (hc:P.cellsOf te=6) (hb:P.bytesOf te=88)
  (hS:jz P E 8 ts=some [.dr (.i .i64),.dr .s,.dr (.i .i64),.dr .s,.dr .s,.dr .s,.dr (.i .i64),.gW te,.dr (.i .i64),.gW ts,.gW ts]) (ao:P.cellsOf ts=11) (hsb:P.bytesOf ts=168): ∀(n:Nat) (r:List I),lp P E R n ts r→∃x:ai,r=x.row∧x.ok R
 |0,_,h=>h.elim
 |n+1,r,h=>by
  obtain⟨bH,h1,h2⟩:=h
  rw[hS]at h1
  cases h1
  simp only[ix,gZ.ok,hc,ao,hb,hsb]at h2
  obtain⟨_,_,rfl,⟨k,rfl,w1⟩,_,_,rfl,⟨nm,rfl,w2⟩,_,_,rfl,⟨k2,rfl,v1⟩,_,_,rfl,⟨o,rfl,v2⟩,_,_,rfl,⟨m,rfl,v3⟩,_,_,rfl,⟨t,rfl,v4⟩,_,_,rfl,⟨i,rfl,v5⟩,_,_,rfl,⟨rows,rfl,v6,h3⟩,_,_,rfl,⟨tm,rfl,oU⟩,_,_,rfl,⟨ra,rfl,q4,h4⟩,_,_,rfl,⟨rb,rfl,wl,h5⟩,rfl⟩:=h2
  obtain⟨l,rfl,hl⟩:=l1 (f:=au.row) (p:=au.ok R) fun r hm=>Es c4 hc hb n r (h3 r hm)
  obtain⟨la,rfl,aS⟩:=l1 (f:=ai.row) (p:=ai.ok R) fun r hm=>G9 c4 hc hb hS ao hsb n r (h4 r hm)
  obtain⟨lb,rfl,hb'⟩:=l1 (f:=ai.row) (p:=ai.ok R) fun r hm=>G9 c4 hc hb hS ao hsb n r (h5 r hm)
  exact⟨.mk k nm (.mk k2 o m t i l) tm la lb,by simp only[ai.row,au.row,au.l0,ai.l0,bd2,bd6],w1,w2,⟨v1,v2,v3,v4,v5,by simpa using v6,au.rW hl⟩,oU,by simpa using q4,by simpa using wl,ai.rW aS,ai.rW hb'⟩
end
end Go.ba
namespace Go.ba
open Go
mutual
def Bp:au→au→Bool
 | .mk k o m t n l,.mk k' o' m' t' n' l'=>decide (k=k')&&(decide (o=o')&&(decide (m=m')&&(decide (t=t')&&(decide (n=n')&&Bq l l'))))
def Bq:List au→List au→Bool
 |[],[]=>true
 |x::l,y::l'=>Bp x y&&Bq l l'
 | _,_=>false
end
mutual
def G7:ai→ai→Bool
 | .mk k m x t a b,.mk k' m' x' t' a' b'=>decide (k=k')&&(decide (m=m')&&(decide (t=t')&&(Bp x x'&&(z1 a a'&&z1 b b'))))
def z1:List ai→List ai→Bool
 |[],[]=>true
 |x::l,y::l'=>G7 x y&&z1 l l'
 | _,_=>false
end
mutual
theorem Mf: ∀x:au,Bp x x=true
 | .mk k o m t n l=>by simp [Bp,Mg l]
theorem Mg: ∀l:List au,Bq l l=true
 |[]=>rfl
 |x::l=>by simp [Bq,Mf x,Mg l]
end
mutual
theorem aN4: ∀x:ai,G7 x x=true
 | .mk k m x t a b=>by simp [G7,Mf x,G8 a,G8 b]
theorem G8: ∀l:List ai,z1 l l=true
 |[]=>rfl
 |x::l=>by simp [z1,aN4 x,G8 l]
end
structure bJ where
 name:List UInt8
 fB:Int
 b3:Int
 af:Int
 dG:Int
 n:Int
 s:List UInt8
deriving DecidableEq
def bJ.row (v:bJ):List I:=[.str v.name,.int .i64 v.fB,.int .i64 v.b3,.int .i64 v.af,.int .i64 v.dG,.int .i64 v.n,.str v.s]
structure bS where
 da:List UInt8
 peer:List UInt8
 ps:List (List UInt8)
 body:List ai
def cf (s:List UInt8):List I:=[.str s]
def bS.row (h:bS):List I:=[.str h.da,.str h.peer,.aq 1 (h.ps.map cf),.aq 11 (ai.rows h.body)]
structure cn where
 da:List UInt8
 peer:List UInt8
 args:List au
 eb:List au
def cn.row (o:cn):List I:=[.str o.da,.str o.peer,.aq 6 (au.rows o.args),.aq 6 (au.rows o.eb)]
structure cQ where
 name:List UInt8
 bO:List UInt8
 fM:List UInt8
 vars:List bJ
 ao:List bS
 os:List cn
def cQ.cells (x:cQ):List I:=[.str x.name,.str x.bO,.str x.fM,.aq 7 (x.vars.map bJ.row),.aq 4 (x.ao.map bS.row),.aq 4 (x.os.map cn.row)]
def cQ.eL (x:cQ):I:= .agg x.cells
mutual
def au.cv:au→Nat
 | .mk _ _ _ _ _ l=>1+au.ch l
def au.ch:List au→Nat
 |[]=>0
 |x::l=>x.cv+au.ch l
end
mutual
def ai.cv:ai→Nat
 | .mk _ _ x _ a b=>1+x.cv+ai.ch a+ai.ch b
def ai.ch:List ai→Nat
 |[]=>0
 |x::l=>x.cv+ai.ch l
end
theorem au.Dh {l:List au}{i:Nat}{x:au}(h:l[i]? =some x):au.ch (l.take (i+1))=au.ch (l.take i)+x.cv:=by
 rw[bf5,h]
 induction l.take i with
 |nil=>simp [au.ch]
 |cons y l ih=>simp only[bd2,au.ch,ih]; omega
theorem ai.Dh {l:List ai}{i:Nat}{x:ai}(h:l[i]? =some x):ai.ch (l.take (i+1))=ai.ch (l.take i)+x.cv:=by
 rw[bf5,h]
 induction l.take i with
 |nil=>simp [ai.ch]
 |cons y l ih=>simp only[bd2,ai.ch,ih]; omega
mutual
theorem au.AK: ∀x:au,x.cv+4≤fk x.row
 | .mk k o m t n l=>by
  have:=au.sk l
  simp only[au.cv,au.row,fk,I.ks]
  omega
theorem au.sk: ∀l:List au,au.ch l≤kQ (au.rows l)
 |[]=>by simp [au.ch]
 |x::l=>by
  have:=au.AK x
  have:=au.sk l
  simp only[au.ch,au.rows,kQ]
  omega
end
mutual
theorem ai.AK: ∀x:ai,x.cv≤fk x.row
 | .mk k m x t a b=>by
  have:=ai.sk a
  have:=ai.sk b
  have:=au.AK x
  simp only[ai.cv,ai.row,Dr,fk,I.ks]
  omega
theorem ai.sk: ∀l:List ai,ai.ch l≤kQ (ai.rows l)
 |[]=>by simp [ai.ch]
 |x::l=>by
  have:=ai.AK x
  have:=ai.sk l
  simp only[ai.ch,ai.rows,kQ]
  omega
end
theorem au.lI {l:List au}{i:Nat}{x:au}(h:l[i]? =some x):x.cv≤au.ch l:=by
 have h1:=au.Dh h
 have h2:au.ch (l.take (i+1))≤au.ch l:=by
  conv=>rhs; rw[←bj5 (i+1) l]
  induction l.take (i+1) with
  |nil=>simp [au.ch]
  |cons y l ih=>simp only[bd2,au.ch]; omega
 omega
theorem ai.lI {l:List ai}{i:Nat}{x:ai}(h:l[i]? =some x):x.cv≤ai.ch l:=by
 have h1:=ai.Dh h
 have h2:ai.ch (l.take (i+1))≤ai.ch l:=by
  conv=>rhs; rw[←bj5 (i+1) l]
  induction l.take (i+1) with
  |nil=>simp [ai.ch]
  |cons y l ih=>simp only[bd2,ai.ch]; omega
 omega
theorem au.ic: ∀l:List au,l.length≤au.ch l
 |[]=>by simp
 |x::l=>by
  have:=au.ic l
  have:1≤x.cv:=by cases x; simp [au.cv]
  simp only[bb9,au.ch]
  omega
theorem ai.ic: ∀l:List ai,l.length≤ai.ch l
 |[]=>by simp
 |x::l=>by
  have:=ai.ic l
  have:1≤x.cv:=by cases x; simp [ai.cv]; omega
  simp only[bb9,ai.ch]
  omega
mutual
theorem au.dd: ∀x:au,b2 x.row=true
 | .mk k o m t n l=>by simp only[au.row,b2,I.flat,au.qY l,bc0]
theorem au.qY: ∀l:List au,eY (au.rows l)=true
 |[]=>rfl
 |x::l=>by simp only[au.rows,eY,au.dd x,au.qY l,bc0]
end
theorem Mm: ∀(a b:List I),b2 (a++b)=(b2 a&&b2 b)
 |[],b=>by simp [b2]
 |x::a,b=>by simp only[bd2,b2,Mm a b,Bool.and_assoc]
mutual
theorem ai.dd: ∀x:ai,b2 x.row=true
 | .mk k m x t a b=>by simp only[ai.row,Mm,b2,I.flat,au.dd x,ai.qY a,ai.qY b,bc0]
theorem ai.qY: ∀l:List ai,eY (ai.rows l)=true
 |[]=>rfl
 |x::l=>by simp only[ai.rows,eY,ai.dd x,ai.qY l,bc0]
end
mutual
def au.am:au→Int
 | .mk _ _ _ _ _ l=>au.iQ l (l.length:Int)
def au.iQ:List au→Int→Int
 |[],n=>n
 |x::l,n=>au.iQ l (IntKind.i64.wrap (n+x.am))
end
mutual
def ai.am:ai→Int
 | .mk _ _ x _ a b=>IntKind.i64.wrap (IntKind.i64.wrap (IntKind.i64.wrap (1+x.am)+ai.iQ a (a.length:Int))+ai.iQ b (b.length:Int))
def ai.iQ:List ai→Int→Int
 |[],n=>n
 |x::l,n=>ai.iQ l (IntKind.i64.wrap (n+x.am))
end
def qB:List bS→Int→Option Int
 |[],n=>some n
 |h::l,n=>if 60<h.ps.length then none else qB l (IntKind.i64.wrap (n+ai.iQ h.body (h.body.length:Int)))
def rC:List cn→Int→Int
 |[],n=>n
 |o::l,n=>rC l (IntKind.i64.wrap (n+IntKind.i64.wrap (au.iQ o.args (o.args.length:Int)+au.iQ o.eb (o.eb.length:Int))))
def pU (x:cQ):Bool:=match qB x.ao 0 with
 |none=>false
 |some n=>decide (rC x.os n≤500)&&(decide (x.vars.length≤60)&&(decide (x.ao.length≤60)&&decide (x.os.length≤60)))
theorem eN {α:Type}{l:List α}{i:Nat}{v:α}(h:l[i]? =some v):l.drop i=v::l.drop (i+1):=by
 obtain⟨h3,e⟩:=List.getElem?_eq_some_iff.1 h
 rw[List.drop_eq_getElem_cons h3,e]
theorem z6 {α β:Type}(f:α→β){l:List α}{i:Nat}{v:α}(h:l[i]? =some v):(l.take (i+1)).map f=(l.take i).map f++[f v]:=by
 rw[bf5,h]; simp
theorem au.cO (k:Int) (o m t:List UInt8) (n:Int) (l:List au):(au.mk k o m t n l).row=[.int .i64 k,.str o,.str m,.str t,.int .i64 n,.aq 6 (l.map au.row)]:=by rw[au.row,au.l0]
theorem ai.cO (k:Int) (m:List UInt8) (x:au) (t:Int) (a b:List ai):(ai.mk k m x t a b).row=[.int .i64 k,.str m]++x.row++[.int .i64 t,.aq 11 (a.map ai.row),.aq 11 (b.map ai.row)]:=by rw[ai.row,ai.l0,ai.l0]
theorem au.cx (l:List au):eY (l.map au.row)=true:=by rw[←au.l0]; exact au.qY l
theorem ai.cx (l:List ai):eY (l.map ai.row)=true:=by rw[←ai.l0]; exact ai.qY l
def bJ.ok (R:Nat) (v:bJ):Prop:=(v.name.length≤R∧v.s.length≤R)∧si v.fB∧si v.b3∧si v.af∧si v.dG∧si v.n
def bS.ok (R:Nat) (h:bS):Prop:=h.da.length≤R∧h.peer.length≤R∧h.ps.length*16≤R∧(∀s∈h.ps,s.length≤R)∧h.body.length*168≤R∧ai.mW R h.body
def cn.ok (R:Nat) (o:cn):Prop:=o.da.length≤R∧o.peer.length≤R∧o.args.length*88≤R∧au.mW R o.args∧o.eb.length*88≤R∧au.mW R o.eb
structure cQ.ok (R:Nat) (x:cQ):Prop where
 name:x.name.length≤R
 bO:x.bO.length≤R
 fM:x.fM.length≤R
 lZ:x.vars.length*72≤R
 vars: ∀v∈x.vars,v.ok R
 lY:x.ao.length*80≤R
 ao: ∀h∈x.ao,h.ok R
 no:x.os.length*80≤R
 os: ∀o∈x.os,o.ok R
end Go.ba
namespace Go.ba.T.N
open Go Go.ba Go.Proofs Go.RowKit
theorem l7.below {w w':World}(h:l7 w){n:Nat}(hn:w.heap.size≤n) (hb:Below n w w'):l7 w':=fun p hp=>by
 obtain⟨ob,h1,h2⟩:=h p hp
 exact⟨ob,(hb.block p.1 (Nat.lt_of_lt_of_le (Array.getElem?_eq_some_iff.1 h1).1 hn)).trans h1,h2⟩
theorem zN {P:Program}{f:FuncId}{args:List I}{r:I}(h: ∀(m:Mem) (aq:List Value),l7 m.w→aR m args aq→Calls P f ⟨aq⟩ m.w fun e w'=> ∃v,e= .returned v∧(∀m',aP m' r v)∧Below m.w.heap.size m.w w'):Pure P f args r:=by
 intro H m aq hH rh hv
 subst hH
 refine (h m aq rh.kZ hv).mono fun e w' ⟨v,e1,e2,hb⟩=> ?_
 exact⟨.ret r,m.H,m.L,m.T,bW.hid rh hb.os hb.tape hb.output hb.size hb.block,bV.hid hb.os hb.tape hb.output hb.size hb.block,⟨v,e1,e2 _⟩,rfl,rfl⟩
theorem DX {u:Nat}(h: ¬u<10):Lib.decDigits u=Lib.decDigits (u/10)++[UInt8.ofNat (48+u%10)]:=by rw[Lib.decDigits,dif_neg h]
theorem DW {u:Nat}(h:u<10):Lib.decDigits u=[UInt8.ofNat (48+u)]:=by rw[Lib.decDigits,dif_pos h]
theorem JJ (u:Nat):(Lib.decDigits u).length≤u+1:=by
 induction u using Nat.strongRecOn with
 |ind u ih=>
  by_cases h:u<10
  ·rw[DW h]; simp
  ·rw[DX h]
   have:=ih (u/10) (by omega)
   rw[bb7,bb9,bc4]
   omega
theorem vE {z:Int}(h0: -1000000000≤z) (h1:z≤1000000000):(Lib.itoa z).length≤1000000002:=by
 unfold Lib.itoa
 split
 ·have:=JJ z.natAbs; simp only[bb9]; omega
 ·have:=JJ z.toNat; omega
theorem UB (w:World) (q:Nat) (os:Array Obj):Below w.heap.size w (Go.Sort.grow (w.drewN q) os):=
 ⟨rfl,rfl,rfl,by simp [Go.Sort.grow,World.drewN],fun i af=>by
  show ((w.drewN q).heap++os)[i]? = _
  rw[Array.getElem?_append_left (by exact af)]
  rfl⟩
theorem Bz:Tryz.prog.globalNamed "internal/strconv.uint64pow10" =some 0:=by kernel_rfl
theorem Zj {w:World}(hG:l7 w):Lib.TabIs bb4 w "internal/strconv.uint64pow10" .u64 Lib.pow10Tab:=by
 obtain⟨ob,h1,T,o6,h2⟩:=hG (0,_) (by simp only[yM]; exact List.mem_cons_self)
 subst h2
 simp only at h1
 unfold Lib.TabIs World.var?
 rw[Bz]
 simp only[Option.bind_some,h1]
 rfl
theorem zM (n:Int) (h0: -1000000000≤n) (h1:n≤1000000000):Pure bb4 217 [.int .i64 n] (.str (Lib.itoa n)):=by
 refine zN fun m aq hG hv=> ?_
 simp only[aR,aP]at hv
 obtain⟨_,_,rfl,rfl,rfl⟩:=hv
 refine (Any.strconv_Itoa Tryz.ap0 n (by omega) (by omega) m.w (Zj hG)).mono ?_
 rintro e w' ⟨rfl,q,os,rfl⟩
 have hl:=vE h0 h1
 exact⟨_,rfl,fun m'=>by simp only[aP]; exact⟨trivial,by unfold maxLen; omega⟩,UB m.w q os⟩
theorem aw0 (n:Nat) (hn:n≤1000000):Pure bb4 308 [.str [9],.int .i64 (n:Int)] (.str (bc9 n 9)):=by
 refine zN fun m aq hG hv=> ?_
 simp only[aR,aP]at hv
 obtain⟨v1,t1,rfl,h1,v2,t2,rfl,h2,rfl⟩:=hv
 obtain⟨h1,_⟩:=h1
 subst h1
 subst h2
 refine (Any.strings_Repeat Tryz.ao6 Tryz.YQ ⟨⟨[9]⟩⟩ n m.w (by omega) (by simp [ByteArray.size]; omega)).mono ?_
 rintro e w' ⟨rfl,hb⟩
 refine⟨_,rfl,fun m'=> ?_,hb⟩
 have e:=Go.Lib.repeatL_replicate 9 1 n
 rw[Nat.mul_one]at e
 simp only[aP]
 refine⟨?_,by simp [maxLen]; omega⟩
 change Value.string ⟨(Go.Lib.repeatL (bc9 1 9) n).toArray⟩= _
 rw[e]
theorem Sx {m:Mem}: ∀ {xs:List (List UInt8)}{b o:Nat},dK m 1 (xs.map cf) b o→∀(j:Nat) x,xs[j]? =some x→m.w.cell? ⟨b,o+j,none⟩=some (.string ⟨⟨x⟩⟩)∧b<m.w.heap.size
 |[],_,_,_,j,x,hx=>by simp at hx
 |s::xs,b,o,h,j,x,hx=>by
  simp only[bd4,cf,dK,eS,aP]at h
  obtain⟨_,⟨⟨v,h1,h2,h3,rfl,_⟩,_⟩,h4⟩:=h
  cases j with
  |zero=>simp at hx; subst hx; exact⟨h1,h3.lt⟩
  |succ j=>
   have:=Sx h4 j x (by simpa using hx)
   rw[show o+1+j=o+(j+1) by omega]at this
   exact this
theorem Ps (xs:List (List UInt8)) (sep:List UInt8) (hN:xs.length≤1000000) (hlen:(Lib.join xs sep).length≤1000000000):Pure bb4 219 [.aq 1 (xs.map cf),.str sep] (.str (Lib.join xs sep)):=by
 refine zN fun m aq hG h=> ?_
 simp only[aR,aP]at h
 obtain⟨_,_,rfl,⟨a,len,cap,rfl,rfl,⟨hc1,hc2⟩,hcase⟩,_,_,rfl,⟨rfl,_⟩,rfl⟩:=h
 rw[bb5]at hcase hc1 ⊢
 have fin: ∀m':Mem,aP m' (.str (Lib.join xs sep)) (.string ⟨⟨Lib.join xs sep⟩⟩):=fun m'=>by simp only[aP]; exact⟨trivial,by unfold maxLen; omega⟩
 rcases hcase with h0|⟨b,o,rfl,hR⟩
 ·have hx:xs=[]:=List.length_eq_zero_iff.1 h0
  subst hx
  refine (Any.strings_Join_none Tryz.zq Tryz.yI a cap ⟨⟨sep⟩⟩ m.w).mono ?_
  rintro e w' ⟨rfl,rfl⟩
  exact⟨_,rfl,fin,Below.refl _ _⟩
 ·by_cases h0:xs.length=0
  ·have hx:xs=[]:=List.length_eq_zero_iff.1 h0
   subst hx
   refine (Any.strings_Join_none Tryz.zq Tryz.yI _ cap ⟨⟨sep⟩⟩ m.w).mono ?_
   rintro e w' ⟨rfl,rfl⟩
   exact⟨_,rfl,fin,Below.refl _ _⟩
  ·have hcells:=Sx hR
   have hx0:=List.getElem?_eq_getElem (l:=xs) (i:=0) (by omega)
   have ej:(xs.map fun s=>(⟨⟨s⟩⟩:ByteArray)).map (·.data.toList)=xs:=by
    rw[List.map_map]
    exact (List.map_congr_left (fun _ _=>rfl)).trans (List.map_id xs)
   have:=Any.strings_Join Tryz.zq Tryz.yI b o cap (xs.map fun s=>⟨⟨s⟩⟩) ⟨⟨sep⟩⟩ m.w (fun j x hx=>by
    rw[List.getElem?_map,Option.map_eq_some_iff]at hx
    obtain⟨y,hy,rfl⟩:=hx
    exact (hcells j y hy).1) (hcells 0 _ hx0).2 (by simp; omega) (by simpa using hc1) (by rw[ej]; show (Lib.join xs sep).length≤ _; omega)
   rw[ej,bb5]at this
   refine this.mono ?_
   rintro e w' ⟨rfl,hb⟩
   exact⟨_,rfl,fin,hb⟩
def pR:ByteArray:=⟨#[46]⟩
def rZ (s:List UInt8):List (List UInt8):=(Lib.splitB pR 0 (Lib.countB ⟨⟨s⟩⟩ pR) ⟨⟨s⟩⟩).map (·.data.toList)
theorem SO (sep:ByteArray): ∀(k:Nat) (s:ByteArray),∀x∈Lib.splitB sep 0 k s,x.size≤s.size
 |0,s,x,h=>by rw[Lib.splitB_zero]at h; simp at h; subst h; exact bc1 _
 |k+1,s,x,h=>by
  unfold Lib.splitB at h
  split at h
  ·simp at h; subst h; exact bc1 _
  ·rcases List.mem_cons.1 h with rfl|h
   ·rw[ByteArray.size_extract]; omega
   ·have:=SO sep k _ x h
    rw[ByteArray.size_extract]at this
    omega
theorem av9 (s:List UInt8) (ao:s.length≤1000):Pure bb4 297 [.str s,.str [46]] (.aq 1 ((rZ s).map cf)):=by
 intro H m aq hH rh hv
 subst hH
 simp only[aR,aP]at hv
 obtain⟨_,_,rfl,⟨rfl,_⟩,_,_,rfl,⟨rfl,_⟩,rfl⟩:=hv
 refine (aM7 Tryz.ao7 (by kernel_rfl) ⟨⟨s⟩⟩ 46 m.w (by show s.length< _; omega)).mono ?_
 rintro e w' ⟨rfl,rfl⟩
 have hlen:=Lib.splitB_all pR (bc1 _) 0 _ ⟨⟨s⟩⟩ rfl
 have hn:(rZ s).length=Lib.countB ⟨⟨s⟩⟩ pR+1:=by rw[rZ,bb5,hlen]
 have hle:=Lib.countB_le pR (bc1 _) s.length ⟨⟨s⟩⟩ (bc1 _)
 have hcl:(⟨⟨s⟩⟩:ByteArray).size=s.length:=rfl
 refine⟨.ret (.aq 1 ((rZ s).map cf)),m.H,m.L,m.T,rh.alloc _,bV.alloc m _,⟨_,rfl,?_⟩,rfl,rfl⟩
 have hnew:(m.w.alloc (.cells ((Lib.splitB ⟨#[46]⟩ 0 (Lib.countB ⟨⟨s⟩⟩ ⟨#[46]⟩) ⟨⟨s⟩⟩).map Value.string).toArray (Tryz.B4.t 9))).heap[m.w.heap.size]? =some (.cells ((Lib.splitB ⟨#[46]⟩ 0 (Lib.countB ⟨⟨s⟩⟩ ⟨#[46]⟩) ⟨⟨s⟩⟩).map Value.string).toArray (Tryz.B4.t 9)):=sI m.w _
 simp only[aP]
 refine⟨_,_,_,rfl,by rw[bb5]; exact hn.symm,⟨bc1 _,by unfold maxLen; have:Lib.countB ⟨⟨s⟩⟩ ⟨#[46]⟩=Lib.countB ⟨⟨s⟩⟩ pR:=rfl; omega⟩,.inr ⟨m.w.heap.size,0,rfl,?_⟩⟩
 refine dK.of (l:=(Lib.splitB ⟨#[46]⟩ 0 (Lib.countB ⟨⟨s⟩⟩ ⟨#[46]⟩) ⟨⟨s⟩⟩).map Value.string) (fun r ac=>by obtain⟨x,_,rfl⟩:=List.mem_map.1 ac; rfl) ?_ fun j v hj=>⟨?_,?_,?_,wF rh,fun t i aL hb=> ?_⟩
 ·have key: ∀(l:List ByteArray),(∀x∈l,x.size≤s.length)→aR ⟨m.w.alloc (.cells ((Lib.splitB ⟨#[46]⟩ 0 (Lib.countB ⟨⟨s⟩⟩ ⟨#[46]⟩) ⟨⟨s⟩⟩).map Value.string).toArray (Tryz.B4.t 9)),m.H,m.L,m.T⟩ ((l.map (·.data.toList)).map cf).flatten (l.map Value.string):=by
   intro l
   induction l with
   |nil=>intro _; simp [aR]
   |cons x l ih=>
    intro h
    simp only[bd4,List.flatten_cons,cf,bd2,bd6,aR,aP]
    refine⟨_,_,rfl,⟨rfl,?_⟩,ih fun y hy=>h y (bh4 _ hy)⟩
    have:x.size≤s.length:=h x List.mem_cons_self
    show x.data.toList.length≤maxLen
    have e:x.data.toList.length=x.size:=rfl
    rw[e]; unfold maxLen; omega
  exact key _ fun x hx=>SO _ _ _ x hx
 ·rw[bf6]
  simp only[World.cell?,hnew]
  simpa using hj
 ·obtain⟨x,_,rfl⟩:=List.mem_map.1 (List.mem_of_getElem? hj)
  rfl
 ·exact (Array.getElem?_eq_some_iff.1 hnew).1
 ·exact absurd (uz rh aL hb) (Nat.lt_irrefl _)
end Go.ba.T.N
