/- Part of a proof; own work. -/
import Derived.WalkMore
import Derived.RegionTactic
import Derived.StillTailTactics
import Derived.Shelf.SlSortCmp.NoneTotal
import Derived.Shelf.SlLaysF0
import Derived.KernelRfl
import Derived.Test.YtlemhelnmidpfaaGreatDoorProg
import Derived.Test.YtlemhelnmidpfaaGreatDoorVS18
set_option linter.unusedVariables false
set_option linter.unusedSimpArgs false
set_option maxHeartbeats 16000000
open Array renaming getElem?_toList→bc2,getElem?_eq_getElem→aY5,getElem?_append_left→bh5,getElem?_modify→bc3
open Bool renaming and_eq_true→aT0,and_self→aT7,false_and→ba2,false_eq_true→aU6,not_true→bc0,true_and→aU7,and_false→bc4,not_false→aZ2,not_eq_true'→aX1
open Int renaming toNat_natCast→aY6,natCast_add→aT5
open List renaming mem_cons→aV8,not_mem_nil→aY4,map_cons→aU5,flatMap_cons→aZ6,length_append→aT2,length_cons→aT3,ext_getElem?→bc8,getElem?_eq_getElem→aU0,getElem?_eq_none→aY3,getElem?_take→aV6,getElem?_drop→aZ0,map_nil→aX6,length_map→aT1,drop_eq_nil_of_le→aT9,mem_of_getElem?→aT6,length_nil→aU1,map_append→aV4,nodup_nil→bl4,range→bb6,range_succ→bi1,length_range→bk5,length_drop→bd3,length_take→aX3
open Nat renaming mod_lt→bl7,le_refl→aT4,le_trans→aX0,zero_le→aT8,reduceBEq→bd1,le_of_ble_eq_true→aZ3,reduceAdd→bd2
open Option renaming map_some→aV5,getD_some→aX2
open Go.Proofs.Tryz renaming prog→aS9
namespace Go.Proofs
open Go.RowKit Go.Shelf Go.Lib Go.Sort
set_option maxRecDepth 1000000
theorem Fh (a:Int) (w:World):Calls aS9 186 #[.int .i64 a] w fun e w'=>e= .returned (.bool false)∧w'=w:=by
 go_enter Tryz.func186,Tryz.ntmps186
 go_wp2
 go_ret
 exact⟨rfl,rfl⟩
theorem N4 (a b:Int) (w:World):Calls aS9 100 #[.int .i64 a,.int .i64 b] w fun e w'=>e= .returned (.int .i64 (Lib.compareInt a b))∧w'=w:=by
 unfold Lib.compareInt
 go_enter Tryz.func100,Tryz.ntmps100
 by_cases h1:a<b
 ·rw[if_pos h1]
  go_wp2_with (go_at_call 186; refine (Fh _ _).mono ?_; rintro e w' ⟨rfl,hw⟩; rw[hw])
  go_ret
  exact⟨rfl,rfl⟩
 ·rw[if_neg h1]
  by_cases h2:b<a
  ·rw[if_pos h2]
   go_wp2_with (go_at_call 186; refine (Fh _ _).mono ?_; rintro e w' ⟨rfl,hw⟩; rw[hw])
   go_ret
   exact⟨rfl,rfl⟩
  ·rw[if_neg h2]
   go_wp2_with (go_at_call 186; refine (Fh _ _).mono ?_; rintro e w' ⟨rfl,hw⟩; rw[hw])
   go_ret
   exact⟨rfl,rfl⟩
theorem an8 (x y R:Int) (hR:R=if x=0 then y else x) (b:Nat) (w:World) (h0:w.cell? ⟨b,0,none⟩=some (.int .i64 x)) (h1:w.cell? ⟨b,1,none⟩=some (.int .i64 y)):Calls aS9 99 #[.slice (some ⟨b,0,none⟩) 2 2] w fun e w'=>e= .returned (.int .i64 R)∧w'=w:=by
 go_enter Tryz.func99,Tryz.ntmps99
 go_wp2
 refine wp_loop_rounds 3 ?_
 rw[rounds_succ]
 by_cases hx:x=0
 ·rw[if_pos hx]at hR
  subst hx
  go_wp2
  rw[rounds_succ]
  by_cases hy:y=0
  ·subst hy
   go_wp2
   rw[rounds_succ]
   go_wp2
   go_ret
   subst hR
   exact⟨rfl,rfl⟩
  ·go_wp2
   go_ret
   subst hR
   exact⟨rfl,rfl⟩
 ·rw[if_neg hx]at hR
  go_wp2
  go_ret
  subst hR
  exact⟨rfl,rfl⟩
def qc (x y:Int×Int):Int:=if Lib.compareInt x.1 y.1=0 then Lib.compareInt x.2 y.2 else Lib.compareInt x.1 y.1
theorem ay6 (W W3:World) (A B:Array Value) (t:TypeId) (h:W3=((W.alloc (.cells A t)).alloc (.cells B t)).drew):
  (∀i,W3.cell? ⟨W.heap.size,i,none⟩=A[i]?)∧(∀i,W3.cell? ⟨W.heap.size+1,i,none⟩=B[i]?)∧∀(C:Array Value) (u:TypeId),∃q os',W3.alloc (.cells C u)=grow (W.drewN q) os':=by
 subst h
 have an:(W.alloc (.cells A t)).heap.size=W.heap.size+1:=Array.size_push _
 refine⟨fun i=> ?_,fun i=> ?_,fun C u=>⟨1,#[.cells A t,.cells B t,.cells C u],?_⟩⟩
 ·show World.cell? ((W.alloc _).alloc _) _= _
  rw[World.cell?_alloc_lt _ _ _ (by rw[an]; exact Nat.lt_succ_self _),World.cell?_alloc_at _ _ _ _ rfl]
 ·show World.cell? ((W.alloc _).alloc _) _= _
  rw[World.cell?_alloc_at _ _ _ _ an.symm]
 ·show (grow (grow (grow (W.drewN 1) #[.cells A t]) #[.cells B t]) #[.cells C u])= _
  rw[grow_grow,grow_grow]
  rfl
theorem an7 (a1 a2 a3 b1 b2 b3:Int) (W:World):Calls aS9 98 #[.agg #[.int .i64 a1,.int .i64 a2,.int .i64 a3],.agg #[.int .i64 b1,.int .i64 b2,.int .i64 b3]] W fun e w'=>e= .returned (.int .i64 (qc (a1,a3) (b1,b3)))∧∃q os',w'=grow (W.drewN q) os':=by
 obtain⟨R,hR⟩: ∃R,R=qc (a1,a3) (b1,b3):=⟨_,rfl⟩
 rw[←hR]
 unfold qc at hR
 simp only at hR
 have c1:=fun w=>N4 a1 b1 w
 have c2:=fun w=>N4 a3 b3 w
 generalize Lib.compareInt a1 b1=x at c1 hR
 generalize Lib.compareInt a3 b3=y at c2 hR
 go_enter Tryz.func98,Tryz.ntmps98
 go_wp2
 obtain⟨W2,h2⟩: ∃W2,W2=((W.alloc (.cells #[.int .i64 a1,.int .i64 a2,.int .i64 a3] 74)).alloc (.cells #[.int .i64 b1,.int .i64 b2,.int .i64 b3] 74)):=⟨_,rfl⟩
 rw[←h2]
 refine wp_region_still_tail 10 (by kernel_rfl) (by kernel_rfl) ?_
 obtain⟨W3,h3⟩: ∃W3,W3=({W2 with drawn:=W2.drawn+1}:World):=⟨_,rfl⟩
 rw[←h3]
 obtain⟨kA,kB,yI⟩:=ay6 W W3 _ _ 74 (by rw[h3,h2]; rfl)
 have k1:W3.cell? ⟨W.heap.size,0,none⟩=some (.int .i64 a1):=kA 0
 have k2:W3.cell? ⟨W.heap.size,2,none⟩=some (.int .i64 a3):=kA 2
 have k3:W3.cell? ⟨W.heap.size+1,0,none⟩=some (.int .i64 b1):=kB 0
 have k4:W3.cell? ⟨W.heap.size+1,2,none⟩=some (.int .i64 b3):=kB 2
 have k5:=yI #[.int .i64 x,.int .i64 y] 3
 clear kA kB yI
 have e99:=an8 x y R hR W3.heap.size (W3.alloc (.cells #[.int .i64 x,.int .i64 y] 3)) (by rw[World.cell?_alloc_at _ _ _ _ rfl]; rfl) (by rw[World.cell?_alloc_at _ _ _ _ rfl]; rfl)
 clear h2 h3 hR
 simp only[List.take_succ_cons,List.take_zero,List.drop_succ_cons,List.drop_zero]
 iterate 4 still_step
 still_call (c1 _)
 iterate 4 still_step
 still_call (c2 _)
 refine wpStill_nil ?_
 clear c1 c2 k1 k2 k3 k4
 go_wp2_with (go_at_call 99; refine e99.mono ?_; rintro e w' ⟨rfl,hw⟩; rw[hw])
 go_ret
 exact⟨rfl,k5⟩
end Go.Proofs
set_option maxRecDepth 100000
namespace Go.Proofs
open Go.Shelf
def Tryz.au4:Go.Shelf.Ren:=⟨fun|6=>97|15=>185|14=>184|28=>286|29=>287|20=>278|21=>279|22=>280|23=>281|24=>282|25=>283|26=>284|27=>285|46=>348|47=>349|48=>350|49=>351|50=>352|57=>384|n=>n,fun|22=>105|24=>74|25=>203|3=>3|39=>281|0=>0|53=>363|55=>365|4=>4|46=>357|45=>356|50=>101|5=>5|9=>9|66=>410|70=>414|76=>445|77=>154|n=>n,fun|n=>n⟩
theorem Tryz.Qq:Go.Proofs.SlLaysF0.n6 aS9 Tryz.au4:={
 mixed:=by kernel_rfl
 f6:=⟨Tryz.f97.name,by decide,Tryz.func97.trans (congrArg some (by kernel_rfl))⟩
 f14:=⟨Tryz.f184.name,by decide,Tryz.func184.trans (congrArg some (by kernel_rfl))⟩
 f15:=Tryz.func185.trans (congrArg some (by kernel_rfl))
 f20:=⟨Tryz.f278.name,by decide,Tryz.func278.trans (congrArg some (by kernel_rfl))⟩
 f21:=⟨Tryz.f279.name,by decide,Tryz.func279.trans (congrArg some (by kernel_rfl))⟩
 f22:=⟨Tryz.f280.name,by decide,Tryz.func280.trans (congrArg some (by kernel_rfl))⟩
 f23:=⟨Tryz.f281.name,by decide,Tryz.func281.trans (congrArg some (by kernel_rfl))⟩
 f24:=⟨Tryz.f282.name,by decide,Tryz.func282.trans (congrArg some (by kernel_rfl))⟩
 f25:=⟨Tryz.f283.name,by decide,Tryz.func283.trans (congrArg some (by kernel_rfl))⟩
 f26:=⟨Tryz.f284.name,by decide,Tryz.func284.trans (congrArg some (by kernel_rfl))⟩
 f27:=⟨Tryz.f285.name,by decide,Tryz.func285.trans (congrArg some (by kernel_rfl))⟩
 f28:=Tryz.func286.trans (congrArg some (by kernel_rfl))
 f29:=Tryz.func287.trans (congrArg some (by kernel_rfl))
 f46:=⟨Tryz.f348.name,by decide,Tryz.func348.trans (congrArg some (by kernel_rfl))⟩
 f47:=Tryz.func349.trans (congrArg some (by kernel_rfl))
 f48:=Tryz.func350.trans (congrArg some (by kernel_rfl))
 f49:=⟨Tryz.f351.name,by decide,Tryz.func351.trans (congrArg some (by kernel_rfl))⟩
 f50:=⟨Tryz.f352.name,by decide,Tryz.func352.trans (congrArg some (by kernel_rfl))⟩
 f57:=⟨Tryz.f384.name,by decide,Tryz.func384.trans (congrArg some (by kernel_rfl))⟩
 t0:=Tryz.underlying0
 a0:=Tryz.isAgg0
 z0:=Tryz.sizeOf0
 v0:=Tryz.zeroValue0
 t3:=Tryz.underlying3
 a3:=Tryz.isAgg3
 z3:=Tryz.sizeOf3
 v3:=Tryz.zeroValue3
 t4:=Tryz.underlying4
 a4:=Tryz.isAgg4
 z4:=Tryz.sizeOf4
 v4:=Tryz.zeroValue4
 t5:=Tryz.underlying5
 a5:=Tryz.isAgg5
 z5:=Tryz.sizeOf5
 v5:=Tryz.zeroValue5
 t9:=Tryz.underlying9
 a9:=Tryz.isAgg9
 z9:=Tryz.sizeOf9
 v9:=Tryz.zeroValue9
 t22:=Tryz.underlying105
 a22:=Tryz.isAgg105
 z22:=Tryz.sizeOf105
 v22:=Tryz.zeroValue105
 t25:=Tryz.underlying203
 a25:=Tryz.isAgg203
 z25:=Tryz.sizeOf203
 v25:=Tryz.zeroValue203
 t39:=Tryz.underlying281
 a39:=Tryz.isAgg281
 z39:=Tryz.sizeOf281
 v39:=Tryz.zeroValue281
 t45:=Tryz.underlying356
 a45:=Tryz.isAgg356
 z45:=Tryz.sizeOf356
 v45:=Tryz.zeroValue356
 t46:=Tryz.underlying357
 a46:=Tryz.isAgg357
 z46:=Tryz.sizeOf357
 v46:=Tryz.zeroValue357
 t50:=Tryz.underlying101
 a50:=Tryz.isAgg101
 z50:=Tryz.sizeOf101
 v50:=Tryz.zeroValue101
 t53:=Tryz.underlying363
 a53:=Tryz.isAgg363
 z53:=Tryz.sizeOf363
 v53:=Tryz.zeroValue363
 t55:=Tryz.underlying365
 a55:=Tryz.isAgg365
 z55:=Tryz.sizeOf365
 v55:=Tryz.zeroValue365
 t66:=Tryz.underlying410
 a66:=Tryz.isAgg410
 z66:=Tryz.sizeOf410
 v66:=Tryz.zeroValue410
 t70:=Tryz.underlying414
 a70:=Tryz.isAgg414
 z70:=Tryz.sizeOf414
 v70:=Tryz.zeroValue414
 t76:=Tryz.underlying445
 a76:=Tryz.isAgg445
 z76:=Tryz.sizeOf445
 v76:=Tryz.zeroValue445
 t77:=Tryz.underlying154
 a77:=Tryz.isAgg154
 z77:=Tryz.sizeOf154
 v77:=Tryz.zeroValue154}
end Go.Proofs
namespace Go.Proofs
open Go.RowKit Go.Shelf Go.Lib Go.Sort
set_option maxRecDepth 1000000
theorem Bf (x y:Int×Int):ltOf qc x y=decide (x.1<y.1∨(x.1=y.1∧x.2<y.2)):=by
 obtain⟨a,b⟩:=x
 obtain⟨c,d⟩:=y
 have key:qc (a,b) (c,d)<0↔(a<c∨(a=c∧b<d)):=by
  unfold qc Lib.compareInt
  simp only
  repeat' split
  all_goals omega
 exact decide_eq_decide.2 key
theorem aw6:SWO (ltOf qc) where
 irrefl x:=by rw[Bf]; simp
 trans x y z h1 h2:=by rw[Bf]at*; simp only[decide_eq_true_eq]at*; omega
 ntrans x y z h1 h2:=by rw[Bf]at*; simp only[decide_eq_false_iff_not]at*; omega
theorem ay4 (x y:Int×Int) (h1:ltOf qc x y=false) (h2:ltOf qc y x=false):x=y:=by
 rw[Bf]at h1 h2
 simp only[decide_eq_false_iff_not]at h1 h2
 exact Prod.ext (by omega) (by omega)
def hT (role:Int) (x:Int×Int):List Value:=[.int .i64 x.1,.int .i64 role,.int .i64 x.2]
def lu (l:List (Int×Int)):List (Int×Int):=l.mergeSort fun x y=> !(ltOf qc) y x
theorem an5 (role:Int) (aV off cap:Nat) (d:Array (Int×Int)) (w:World) (hH:HoldsK (hT role) 3 w aV off d) (hblk:aV<w.heap.size) (hsz:d.size<4611686018427387904):
  Calls aS9 97 #[.slice (some ⟨aV,off,none⟩) d.size cap,.func (.func 98) #[] #[]] w fun e w'=>e= .returned (.tuple #[])∧∃n os,w'=sortWorldK (hT role) 3 w aV off n (lu d.toList).toArray os:=by
 have eg: ∀args w,(callFunc 98 args).run aS9 w= .ok (.enter 98 args) w:=enters_of Tryz.func98 (by kernel_rfl) rfl
 exact AnyQ.slices_SortFunc_total Tryz.Qq 3 Tryz.isAgg74 Tryz.sizeOf74 (hT role) (fun _=>rfl) (fun x v hv=>by simp only[hT,aV8,aY4,or_false]at hv; rcases hv with rfl|rfl|rfl<;>rfl) qc aw6 98 #[] aV off cap d w eg (fun _ _ _ _ x y=>an7 x.1 role x.2 y.1 role y.2 _) hH hblk hsz ay4
theorem an6 (p:Option Addr) (cap:Nat) (fv:Value) (w:World):Calls aS9 97 #[.slice p 0 cap,fv] w fun e w'=>e= .returned (.tuple #[])∧w'=w:=
 AnyF.slices_SortFunc_none {Tryz.Qq with} p cap fv w
end Go.Proofs
namespace Go.aX.T.N
open Go Go.aX Go.Proofs Go.Sort Go.Shelf
set_option maxRecDepth 100000
def gK (role:Int) (x:Int×Int):List I:=[.int .i64 x.1,.int .i64 role,.int .i64 x.2]
theorem sC (role:Int) (l:List (Int×Int)):eD (l.map (gK role))=true:=lN (fun _=>rfl) l
theorem L9 {role:Int}{l:List (Int×Int)}{r:List I}(h:r∈l.map (gK role)):r.length=3:=by
 obtain⟨x,_,rfl⟩:=List.mem_map.1 h
 rfl
theorem BU (l:List (Int×Int)):(lu l).length=l.length:=List.length_mergeSort _
theorem BP {m:Mem}{role:Int}: ∀ {l:List (Int×Int)}{xs:List Value},aM m (l.map (gK role)).flatten xs↔xs=l.flatMap (hT role)
 |[],xs=>by simp [aM]
 |x::l,xs=>by
  simp only[aU5,List.flatten_cons,gK,List.cons_append,List.nil_append,aM,aK,aZ6,hT]
  constructor
  ·rintro⟨_,_,rfl,rfl,_,_,rfl,rfl,_,_,rfl,rfl,h⟩
   rw[BP.1 h]
  ·rintro rfl
   exact⟨_,_,rfl,rfl,_,_,rfl,rfl,_,_,rfl,rfl,BP.2 rfl⟩
theorem Kg {role:Int}: ∀(l:List (Int×Int)) (i c:Nat),c<3→(l.flatMap (hT role))[i*3+c]? =(l[i]?).bind fun x=>(hT role x)[c]?
 |[],i,c,h=>by simp
 |x::l,0,c,h=>by
  rw[aZ6,List.getElem?_append_left (by simp [hT]; omega)]
  simp
 |x::l,i+1,c,h=>by
  rw[aZ6,List.getElem?_append_right (by simp [hT]; omega),show (i+1)*3+c-(hT role x).length=i*3+c by simp [hT]; omega,Kg l i c h]
  simp
theorem Dr {role:Int}(l:List (Int×Int)):(l.flatMap (hT role)).length=l.length*3:=by
 induction l with
 |nil=>rfl
 |cons x l ih=>rw[aZ6,aT2,ih,aT3]; simp [hT]; omega
theorem Kx (role:Int) (l:List (Int×Int)):(flatK (hT role) 3 l.toArray).toList=l.flatMap (hT role):=by
 apply bc8
 intro t
 by_cases aF:t<l.length*3
 ·have h1:=get_flatK (hT role) 3 l.toArray t (by simpa using aF)
  have an:t<(flatK (hT role) 3 l.toArray).size:=by rw[size_flatK]; simpa using aF
  rw[getElem!_pos (flatK (hT role) 3 l.toArray) t an]at h1
  have h3:=Kg (role:=role) l (t/3) (t%3) (bl7 _ (by decide))
  rw[show t/3*3+t%3=t by omega]at h3
  have ae:t/3<l.length:=by omega
  rw[h3,bc2,aY5 an,h1,aU0 ae]
  have hc:t%3<(hT role l[t/3]).length:=bl7 _ (by decide)
  have e:l.toArray[t/3]! =l[t/3]:=by simp [ae]
  rw[e,getElem!_pos (hT role l[t/3]) (t%3) hc]
  simp [hc]
 ·rw[aY3 (by simp; omega),aY3 (by rw[Dr]; omega)]
theorem ah0 (F:Array Value) (p:Nat) (cur:Array Value) (h:p+F.size≤cur.size):(putCells id p F cur).size=cur.size∧((putCells id p F cur).toList.drop p).take F.size=F.toList:=by
 refine⟨by simp [putCells],?_⟩
 apply bc8
 intro t
 rw[aV6]
 by_cases aF:t<F.size
 ·rw[if_pos aF,aZ0,bc2,bc2,aY5 aF]
  have h1:p+t<cur.size:=by omega
  unfold putCells
  rw[Array.getElem?_mapIdx,aY5 h1]
  simp only[aV5,id]
  rw[if_pos ⟨by omega,by omega⟩,show p+t-p=t by omega,getElem!_pos F t aF]
 ·rw[if_neg aF,aY3 (by simp; omega)]
theorem ZX (role:Int) (ver:Nat) (l:List (Int×Int)) (hl:l.length≤1000000000):aY aS9 97 [.cz 0 ver,.fn 98 []] (aJ.of 0 1 [] [(0,.bc 74 3 ver (l.map (gK role)))]) (c8 (.cV []) [] [(0,.bc 74 3 ver ((lu l).map (gK role)))]):=by
 intro H0 s az' H aL ab
 have ht0:(aJ.of 0 1 [] [(0,.bc 74 3 ver (l.map (gK role)))]).H.tok 0=some (.bc 74 3 ver (l.map (gK role))):=rfl
 obtain⟨z,l0,f1,f2,f3⟩:=ab.bc ht0
 obtain rfl:=(nB _ (sC role l) _).1 f3
 simp only[bd,aI]at aL
 obtain⟨_,_,rfl,⟨z',g1,rfl⟩,_,_,rfl,⟨lc,rfl,rfl⟩,rfl⟩:=aL
 rw[f1]at g1
 cases g1
 intro m ak hH rh hv
 subst hH
 simp only[aM]at hv
 obtain⟨v,_,rfl,hv1,fv,_,rfl,hv2,rfl⟩:=hv
 simp only[aK,aM]at hv2
 obtain⟨l3,rfl,rfl⟩:=hv2
 have fin: ∀(w':World),bG (m.gt w' z (m.L z) (.bc 74 3 ver ((lu l).map (gK role))))→bH m (m.gt w' z (m.L z) (.bc 74 3 ver ((lu l).map (gK role))))→∃o H' L' T',bG ⟨w',H',L',T'⟩∧bH m ⟨w',H',L',T'⟩∧pU ⟨w',H',L',T'⟩ o (.returned (.tuple #[]))∧∃s' o1 c1,bl.dU s s'∧c8 (.cV []) [] [(0,.bc 74 3 ver ((lu l).map (gK role)))] o1 c1∧jy s' o1 o∧ea H0 s' c1 H':=fun w' h1 h2=>by
  refine⟨.ret (.cV []),_,_,_,h1,h2,⟨_,rfl,?_⟩,s,.ret (.cV []),_,bl.dU.refl s,⟨rfl,trivial,?_,trivial⟩,?_,ab.b7 (b:=0) f1 (gm.bc ((nB _ (sC role (lu l)) _).2 rfl))⟩
  ·simp only[aK]; exact⟨[],rfl,rfl⟩
  ·rfl
  ·simp only[jy,aI]; exact⟨[],rfl,rfl⟩
 obtain⟨hL,h0,an,hc⟩:=tP rh f2 hv1
 rcases hc with ⟨rfl,hnil⟩|⟨g,p,cap,cur,rfl,hg,hcap,hcm,hcz,hrv,hone⟩
 ·have hl0:l=[]:=List.map_eq_nil_iff.1 hnil
  subst hl0
  have e0:lu []=[]:=by simp [lu]
  simp only[e0,aX6]at fin f2 ⊢
  refine (an6 none 0 _ m.w).mono ?_
  rintro e w' ⟨rfl,rfl⟩
  have gr0:Grows0 m m.w z (.bc 74 3 ver []) (m.L z) (.bc 74 3 ver []):=⟨rfl,rfl,rfl,aT4 _,fun _ _ _=>rfl,fun _ _ _ _=>rfl,fun k hk=> .inl hk,aT4 _,rfl,rfl,aT4 _,fun _=>rfl⟩
  have gr:ov m m.w z (.bc 74 3 ver []) (m.L z) (.bc 74 3 ver []):=⟨gr0,[],⟨by simp [bB.bc,bB.len],.inl ⟨hL,rfl⟩⟩,fun rows' h=>by cases h; exact⟨by simp [aM],by simp,by simp⟩⟩
  exact fin m.w (bG.gt rh f2 gr) (bH.gt rh f2 gr0)
 ·have hx:=BP.1 hrv
  rw[aT1]at hv1 hcap hrv hone hx ⊢
  have hsz:(flatK (hT role) 3 l.toArray).size=l.length*3:=by simp
  have hle:p+l.length*3≤cur.size:=aX0 (Nat.add_le_add_left (Nat.mul_le_mul_right _ hcap) _) hcz
  have hblk:g<m.w.heap.size:=(Array.getElem?_eq_some_iff.1 hg).1
  have hH:HoldsK (hT role) 3 m.w g p l.toArray:=by
   intro j hj
   rw[hsz]at hj
   have e1:(flatK (hT role) 3 l.toArray).toList[j]? =((cur.toList.drop p).take (l.length*3))[j]? :=by rw[Kx,hx]
   rw[bc2,aY5 (by rw[hsz]; exact hj),aV6,if_pos hj,aZ0,bc2]at e1
   refine⟨?_,?_⟩
   ·rw[cell_of_row m.w g (p+j) cur 74 (0,0) hg,←e1,getElem!_pos (flatK (hT role) 3 l.toArray) j (by rw[hsz]; exact hj)]
    rfl
   ·simp [World.frozen?,hg]
  refine (an5 role g p cap l.toArray m.w hH hblk (by simp; omega)).mono ?_
  rintro e w' ⟨rfl,n,os,rfl⟩
  obtain⟨c1,c2⟩:=ah0 (flatK (hT role) 3 (lu l).toArray) p cur (by simp [BU]; exact hle)
  rw[Kx]at c2
  have hs3:(flatK (hT role) 3 (lu l).toArray).size=l.length*3:=by simp [BU]
  rw[hs3]at c2
  have key:=RD rh (w':=sortWorldK (hT role) 3 m.w g p n (lu l).toArray os) (rows':=(lu l).map (gK role)) (cur':=putCells id p (flatK (hT role) 3 (lu l).toArray) cur) (by rw[aT1]; exact hv1) f2 hg (by simp [BU]) (fun r ab=>L9 ab) rfl rfl rfl
   (by simp [sortWorldK,grow,putRowK,putRow,mapBlock,Sort.ahead])
   (fun b hb hne=>by
    simp only[sortWorldK,grow,putRowK,putRow,mapBlock,Sort.ahead]
    rw[bh5 (by simpa using hb),bc3,if_neg (Ne.symm hne)])
   (by
    simp only[sortWorldK,grow,putRowK,putRow,mapBlock,Sort.ahead]
    rw[bh5 (by simpa using hblk),bc3,if_pos rfl,hg]
    rfl)
   c1 (by rw[aT1]; exact c2) (BP.2 rfl) (fun u hu=>by
    obtain⟨x,_,hx⟩:=List.mem_flatMap.1 hu
    simp only[hT,aV8,aY4,or_false]at hx
    rcases hx with rfl|rfl|rfl<;>rfl)
  exact fin _ key.1 key.2
end Go.aX.T.N
namespace Go.aX.T.N
open Go Go.aX Go.Proofs Go.RowKit
set_option maxRecDepth 100000
attribute [local irreducible] Go.aX.ay Go.aX.ai Go.aX.aY
section
set_option maxRecDepth 1000000
attribute [local go_sem] au.di ao.di au.cQ ao.cQ ca dB gz ht eb of_flat bQ.row dZ k7 hQ
attribute [local go_sem] fS fz fy fR e8 fa eI dv Fd.row ep eN cG.row et.row bS.row gK sC
theorem EA (T size ver:Nat) (rows:List (List I)):(bB.bc T size ver rows).kq=some rows:=rfl
attribute [local go_sem] EA
theorem Zh:cT aS9 94=true:=by kernel_rfl
def wm (g:cI) (i:Int):bT:=((g.decls[i.toNat]?).map bS.name).getD []
def xc (g:cI) (i:Int):bT:=(g.cD[i.toNat]?).getD []
def nE (g:cI) (a b:Int) (h:bK):Bool:=decide (h.dw=wm g b)&&decide (h.peer=xc g a)
theorem ZU (g:cI) (a r b:Int) (h1:0≤a) (h2:a<g.cD.length) (h3:0≤b) (h4:b<g.decls.length) (h:bK):aY aS9 94 [.agg (bK.row h),.ptr 0 0,.ptr 1 0] (aJ.of 2 0 [(0,32,g.cells),(1,74,[.int .i64 a,.int .i64 r,.int .i64 b])] []) (c8 (.bool (nE g a b h)) [(0,32,g.cells),(1,74,[.int .i64 a,.int .i64 r,.int .i64 b])] []):=by
 obtain⟨p,rfl⟩: ∃p:Nat,a=p:=⟨a.toNat,by omega⟩
 obtain⟨q,rfl⟩: ∃q:Nat,b=q:=⟨b.toNat,by omega⟩
 obtain⟨d,e1⟩: ∃d,g.decls[q]? =some d:=⟨_,aU0 (by omega)⟩
 obtain⟨n,e2⟩: ∃n,g.cD[p]? =some n:=⟨_,aU0 (by omega)⟩
 have bD:(g.decls.map bS.row)[q]? =some (bS.row d):=vr e1
 have da:(g.cD.map ca)[p]? =some (ca n):=vr e2
 have fh:nE g p q h=(decide (h.dw=d.name)&&decide (h.peer=n)):=by
  simp only[nE,wm,xc,aY6,e1,e2,aV5,aX2]
 rw[fh,oI]
 clear e1 e2 fh
 obtain⟨dw,peer,ps,body⟩:=h
 simp only
 by_cases c1:dw=d.name
 ·have d1:decide (dw=d.name)=true:=decide_eq_true c1
  rw[d1]
  refine aY.intro bk Tryz.func94 Hy ?_
  unfold Dp Fq
  simp(disch:=omega)only[go_sem,simprocAttr]
  refine ap ?_
  refine D.oj (bD) ?_
  (have ax:=d1;refine sY ?_;clear ax)
  refine D.oj (da) ?_
  refine ap ?_
  refine D.r ?_
  exact⟨rfl,⟨rfl,rfl,trivial⟩,trivial⟩
 ·have d1:decide (dw=d.name)=false:=decide_eq_false c1
  rw[d1]
  refine aY.intro bk Tryz.func94 Hy ?_
  unfold Dp Fq
  simp(disch:=omega)only[go_sem,simprocAttr]
  refine ap ?_
  refine D.oj (bD) ?_
  (have ax:=d1;refine bI ?_;clear ax)
  refine D.r ?_
  exact⟨rfl,⟨rfl,rfl,trivial⟩,trivial⟩
theorem ZT (g:cI) (a r b:Int) (h1:0≤a) (h2:a<g.cD.length) (h3:0≤b) (h4:b<g.decls.length) (l:List bK) (hl:l.length≤1000000000):aY aS9 183 [.ak 4 (l.map bK.row),.fn 94 [.ptr 0 0,.ptr 1 0]] (aJ.of 2 0 [(0,32,g.cells),(1,74,[.int .i64 a,.int .i64 r,.int .i64 b])] []) (c8 (.int .i64 (cW (fun v=> !nE g a b v) l 0)) [(0,32,g.cells),(1,74,[.int .i64 a,.int .i64 r,.int .i64 b])] []):=by
 have e:=ZU g a r b h1 h2 h3 h4
 clear h1 h2 h3 h4
 simp only[oI]at e ⊢
 generalize nE g a b=f at e ⊢
 refine aY.intro bk Tryz.func183 CD ?_
 unfold Ax BC
 simp(disch:=omega)only[go_sem,simprocAttr]
 refine ap ?_
 refine ay.dq (X:=Nat) 0 (fun i=>[(0,.ak 4 (l.map bK.row)),(1,.fn 94 [.ptr 0 0,.ptr 1 0]),(7,.int .i64 ((l.map bK.row).length:Int)),(8,.int .i64 (i:Int))]) (fun _=>[(0,32,[.str g.name,.ak 1 (g.cD.map ca),.ak 5 (g.decls.map bS.row),.int .i64 g.hX,.int .i64 g.start,.int .i64 g.fin,.ak 6 (g.bY.map cG.row),.ak 3 (g.hM.map et.row)]),(1,74,[.int .i64 a,.int .i64 r,.int .i64 b])]) (fun _=>[]) (fun i=>i≤l.length∧cW (fun v=> !f v) (l.drop i) i=cW (fun v=> !f v) l 0) (fun i=>l.length-i) ⟨aT8 _,rfl⟩ ⟨rfl,rfl,rfl,rfl,trivial⟩ ⟨rfl,rfl,trivial⟩ trivial ?_
 rintro i ⟨ae,aD⟩
 try simp only at ae aD ⊢
 cases hv:l[i]? with
 |some v=>
  have hlt:=(List.getElem?_eq_some_iff.1 hv).1
  rw[fe hv]at aD
  simp only[cW]at aD
  have d1:(i:Int)<((l.map bK.row).length:Int):=by rw[aT1]; omega
  have e:=e v
  generalize f v=y at e aD
  rcases v with ⟨b5,cA,dh,fC⟩
  simp only[gz]at e
  (have ax:=d1;refine bI ?_;clear ax)
  refine D.r3 ⟨[0,1],[]⟩ Zh e ?_
  cases y
  ·refine ap ?_
   refine ay.fH (i+1) ⟨by omega,aD⟩ ⟨rfl,rfl,rfl,by simp only[aT5]; rfl,trivial⟩ ⟨rfl,rfl,trivial⟩ trivial rfl rfl (by show l.length-(i+1)<l.length-i; omega)
  ·refine ap ?_
   refine D.r ?_
   exact⟨by rw[←aD]; rfl,⟨rfl,rfl,trivial⟩,trivial⟩
 |none=>
  have hge:=List.getElem?_eq_none_iff.1 hv
  have d1: ¬(i:Int)<((l.map bK.row).length:Int):=by rw[aT1]; omega
  rw[aT9 hge]at aD
  (have ax:=d1;refine bI ?_;clear ax)
  refine D.r ?_
  exact⟨by rw[←aD]; rfl,⟨rfl,rfl,trivial⟩,trivial⟩
theorem ZW (g:cI) (a r b:Int) (h1:0≤a) (h2:a<g.cD.length) (h3:0≤b) (h4:b<g.decls.length) (l:List bK) (hl:l.length≤1000000000):aY aS9 96 [.ak 4 (l.map bK.row),.fn 94 [.ptr 0 0,.ptr 1 0]] (aJ.of 2 0 [(0,32,g.cells),(1,74,[.int .i64 a,.int .i64 r,.int .i64 b])] []) (c8 (.bool (l.any (nE g a b))) [(0,32,g.cells),(1,74,[.int .i64 a,.int .i64 r,.int .i64 b])] []):=by
 have e:=ZT g a r b h1 h2 h3 h4 l hl
 rw[←sK]
 clear h1 h2 h3 h4
 simp only[oI]at e ⊢
 generalize cW (fun v=> !nE g a b v) l 0=z at e ⊢
 refine aY.intro bk Tryz.func96 CI ?_
 unfold tl BI
 simp(disch:=omega)only[go_sem,simprocAttr]
 refine ap ?_
 refine D.F ⟨[0,1],[]⟩ (e) ?_
 refine ap ?_
 refine D.r ?_
 exact⟨rfl,⟨rfl,rfl,trivial⟩,trivial⟩
theorem ZS (role:Int) (ver:Nat) (l:List (Int×Int)) (a b:Int) (hl:l.length≤1000000000):aY aS9 182 [.cz 0 ver,.agg [.int .i64 a,.int .i64 role,.int .i64 b]] (aJ.of 0 1 [] [(0,.bc 74 3 ver (l.map (gK role)))]) (c8 (.int .i64 (cW (fun v=> !decide ((a,b)=v)) l 0)) [] [(0,.bc 74 3 ver (l.map (gK role)))]):=by
 have zl:((l.map (gK role)).length:Int)=(l.length:Int):=by rw[aT1]
 have hrs: ∀r∈l.map (gK role),r.length=3:=fun r ab=>L9 ab
 refine aY.intro bk Tryz.func182 SR ?_
 unfold IZ OA
 simp(disch:=omega)only[go_sem,simprocAttr]
 refine ap ?_
 refine D.yS ?_
 refine ap ?_
 refine ay.dq (X:=Nat) 0 (fun i=>[(0,.cz 0 ver),(3,.ptr 0 0),(7,.int .i64 ((l.map (gK role)).length:Int)),(8,.int .i64 (i:Int))]) (fun _=>[(0,74,[.int .i64 a,.int .i64 role,.int .i64 b])]) (fun _=>[(0,.bc 74 3 ver (l.map (gK role)))]) (fun i=>i≤l.length∧cW (fun v=> !decide ((a,b)=v)) (l.drop i) i=cW (fun v=> !decide ((a,b)=v)) l 0) (fun i=>l.length-i) ⟨aT8 _,rfl⟩ ⟨rfl,rfl,rfl,rfl,trivial⟩ ⟨rfl,trivial⟩ ⟨rfl,trivial⟩ ?_
 rintro i ⟨ae,aD⟩
 try simp only at ae aD ⊢
 cases hv:l[i]? with
 |some v=>
  obtain⟨v1,v2⟩:=v
  have hlt:=(List.getElem?_eq_some_iff.1 hv).1
  have d1:(i:Int)<(l.length:Int):=by omega
  have hvr:(l.map (gK role))[i]? =some [.int .i64 v1,.int .i64 role,.int .i64 v2]:=vr hv
  rw[fe hv]at aD
  simp only[cW]at aD
  clear hv
  by_cases h:(a,b)=(v1,v2)
  ·simp only[Prod.mk.injEq]at h
   obtain⟨rfl,rfl⟩:=h
   (have ax:=zl;have z2:=d1;refine fX ?_;clear ax z2)
   refine D.qx (rows:=l.map (gK role)) (size:=3) (T:=74) i (by rw[aT1]; omega) ?_
   refine dM ?_
   refine D.tM hvr hrs ?_
   refine ap ?_
   refine D.r ?_
   exact⟨by rw[←aD]; simp,trivial,⟨rfl,trivial⟩⟩
  ·have hd:(decide (a=v1)&&decide (b=v2))=false:=by
    rw[Bool.eq_false_iff]
    intro k
    simp only[aT0,decide_eq_true_eq]at k
    exact h (by rw[k.1,k.2])
   rw[decide_eq_false h]at aD
   (have ax:=zl;have z2:=d1;refine fX ?_;clear ax z2)
   refine D.qx (rows:=l.map (gK role)) (size:=3) (T:=74) i (by rw[aT1]; omega) ?_
   refine dM ?_
   refine D.tM hvr hrs ?_
   (have ax:=hd;refine bI ?_;clear ax)
   refine ay.fH (i+1) ⟨by omega,aD⟩ ⟨rfl,rfl,rfl,by simp only[aT5]; rfl,trivial⟩ ⟨rfl,trivial⟩ ⟨rfl,trivial⟩ rfl rfl (by show l.length-(i+1)<l.length-i; omega)
 |none=>
  have hge:=List.getElem?_eq_none_iff.1 hv
  have d1: ¬(i:Int)<(l.length:Int):=by omega
  rw[aT9 hge]at aD
  (have ax:=zl;have z2:=d1;refine fX ?_;clear ax z2)
  refine D.r ?_
  exact⟨by rw[←aD]; rfl,trivial,⟨rfl,trivial⟩⟩
theorem ZV (role:Int) (ver:Nat) (l:List (Int×Int)) (a b:Int) (hl:l.length≤1000000000):aY aS9 95 [.cz 0 ver,.agg [.int .i64 a,.int .i64 role,.int .i64 b]] (aJ.of 0 1 [] [(0,.bc 74 3 ver (l.map (gK role)))]) (c8 (.bool (l.any fun v=>decide ((a,b)=v))) [] [(0,.bc 74 3 ver (l.map (gK role)))]):=by
 have e:=ZS role ver l a b hl
 rw[←sK]
 generalize cW (fun v=> !decide ((a,b)=v)) l 0=z at e ⊢
 refine aY.intro bk Tryz.func95 Uh ?_
 unfold x7 PV
 simp(disch:=omega)only[go_sem,simprocAttr]
 refine ap ?_
 refine D.F ⟨[],[0]⟩ (e) ?_
 refine ap ?_
 refine D.r ?_
 exact⟨rfl,trivial,⟨rfl,trivial⟩⟩
end
section
set_option maxRecDepth 1000000
attribute [local go_sem] au.di ao.di au.cQ ao.cQ ca dB gz ht eb of_flat bQ.row dZ k7 hQ
attribute [local go_sem] fS fz fy fR e8 fa eI dv Fd.row ep eN cG.row et.row bS.row gK sC EA
def om (g:cI) (role:Int) (an:List bK):List (Int×Int)→List cG→List (Int×Int)
 |acc,[]=>acc
 |acc,e::es=>om g role an (if decide (e.l1=role)&&(!(acc.any fun v=>decide ((e.gZ,e.ii)=v))&& !an.any (nE g e.gZ e.ii)) then acc++[(e.gZ,e.ii)] else acc) es
def oY (x:c9) (g:cI):Int:=max (fF g.cD x.role) 0
def jr (x:c9) (g:cI):List (Int×Int):=if (iz x g).2=0 then lu (om g (oY x g) x.an [] g.bY) else[]
theorem Q2 {g:cI}(h:kJ g=true){e:cG}(he:e∈g.bY):0≤e.gZ∧e.gZ<g.cD.length∧0≤e.ii∧e.ii<g.decls.length:=by
 simp only[kJ,rJ,aT0]at h
 have h1:=List.all_eq_true.1 h.2.1.2.2.2.2.2.2.2 e he
 simp only[wu,aT0,decide_eq_true_eq]at h1
 exact⟨h1.2.2.1,h1.2.2.2.2.2.2.2.1,h1.2.2.2.2.1,h1.2.2.2.2.2.2.2.2.2.2⟩
theorem Eu (x:c9) (g:cI) (hb:pV x) (hg:pc g):Pure aS9 36 [x.eU,g.eU] (.ak 3 ((jr x g).map (gK (oY x g)))):=by
 obtain⟨R,hR⟩: ∃R,R=jr x g:=⟨_,rfl⟩
 rw[←hR]
 have j0:=ze x g hb hg
 have jD:=F6 x g (by have:=hg.EK; omega)
 have hv:(iz x g).2=0→kJ g=true:=fun h=>(se.1 h).2.1
 have n1:=hb.mh
 have n2:=hg.ne
 unfold jr at hR
 rcases hC:iz x g with ⟨nm,e1⟩
 rw[hC]at j0 hR hv
 simp only[wb]at j0 hR hv
 change Pure aS9 33 _ (.cV [.int .i64 (oY x g),_]) at jD
 generalize oY x g=role at jD hR ⊢
 generalize decide (0≤fF g.cD x.role)=isr at jD
 have gc:=oI g
 rw[nO]at j0 jD ⊢
 simp only[pu]at j0 jD ⊢
 refine NQ bk Tryz.func36 TU (by simp only[b9,I.flat,dZ,eb,of_flat,dB,eI,e8,fa,aT7]) ?_
 unfold JV PC
 simp(disch:=omega)only[go_sem,simprocAttr]
 refine ap ?_
 refine D.P (j0) ?_
 by_cases h0:e1=0
 rotate_left
 ·rw[if_neg h0]at hR
  (have ax:=h0;refine bI ?_;clear ax)
  refine D.r ?_
  rw[hR]
  exact⟨_,rfl,.nil⟩
 rw[if_pos h0]at hR
 have hve:=hv h0
 clear hv
 (have ax:=h0;refine bI ?_;clear ax)
 refine D.P (jD) ?_
 clear j0 jD hC
 refine ap ?_
 refine ay.Wl 9 3 74 rfl (by decide) ?_
 simp(disch:=omega)only[go_sem,simprocAttr]
 refine ay.dq (X:=Nat×List (Int×Int)) (0,[]) (fun q=>[(2,.ptr 0 0),(3,.ptr 1 0),(7,.int .i64 role),(9,.cz 0 q.2.length),(29,.ak 6 (g.bY.map cG.row)),(30,.int .i64 ((g.bY.map cG.row).length:Int)),(31,.int .i64 (q.1:Int))]) (fun _=>[(0,48,[.str x.name,.str x.role,.str x.gh,.ak 7 (x.vars.map bQ.row),.ak 4 (x.an.map bK.row),.ak 4 (x.os.map cC.row)]),(1,32,[.str g.name,.ak 1 (g.cD.map ca),.ak 5 (g.decls.map bS.row),.int .i64 g.hX,.int .i64 g.start,.int .i64 g.fin,.ak 6 (g.bY.map cG.row),.ak 3 (g.hM.map et.row)])]) (fun q=>[(0,.bc 74 3 q.2.length (q.2.map (gK role)))]) (fun q=>q.1≤g.bY.length∧q.2.length≤q.1∧R=lu (om g role x.an q.2 (g.bY.drop q.1))) (fun q=>g.bY.length-q.1) ⟨aT8 _,aT4 _,hR⟩ ⟨rfl,rfl,rfl,rfl,rfl,rfl,rfl,trivial⟩ ⟨rfl,rfl,trivial⟩ ⟨rfl,trivial⟩ ?_
 clear hR
 rintro⟨i,acc⟩ ⟨ae,hl,hR⟩
 try simp only at ae hl hR ⊢
 cases hv:g.bY[i]? with
 |none=>
  have hge:=List.getElem?_eq_none_iff.1 hv
  have d1: ¬(i:Int)<((g.bY.map cG.row).length:Int):=by rw[aT1]; omega
  rw[aT9 hge]at hR
  simp only[om]at hR
  have VE:=ZX role acc.length acc (by omega)
  (have ax:=d1;refine bI ?_;clear ax)
  refine D.F ⟨[],[0]⟩ (VE) ?_
  refine ap ?_
  refine D.r ?_
  rw[hR]
  exact⟨_,rfl,.cz rfl (sC _ _)⟩
 |some e=>
  have hlt:=(List.getElem?_eq_some_iff.1 hv).1
  have d1:(i:Int)<((g.bY.map cG.row).length:Int):=by rw[aT1]; omega
  rw[fe hv]at hR
  simp only[om]at hR
  obtain⟨k1,k2,k3,k4⟩:=Q2 hve (aT6 hv)
  have hvr:(g.bY.map cG.row)[i]? =some (cG.row e):=vr hv
  obtain⟨fK,a,tg,b,dst,ag⟩:=e
  simp only at hR k1 k2 k3 k4
  have x7:=ZV role acc.length acc a b (by omega)
  have tl:=ZW g a role b k1 k2 k3 k4 x.an (by omega)
  rw[gc]at tl
  generalize (acc.any fun v=>decide ((a,b)=v))=y1 at x7 hR
  generalize x.an.any (nE g a b)=y2 at tl hR
  clear hv
  by_cases aF:tg=role
  rotate_left
  ·rw[decide_eq_false aF]at hR
   simp only[ba2,aU6,if_false]at hR
   have d2:decide (tg=role)=false:=decide_eq_false aF
   (have ax:=d1;refine bI ?_;clear ax)
   refine D.oj (hvr) ?_
   (have ax:=d2;refine bI ?_;clear ax)
   refine ay.lU (i+1,acc) ⟨by simp only; omega,by simp only; omega,hR⟩ ⟨rfl,rfl,rfl,rfl,rfl,rfl,by simp only[aT5]; rfl,trivial⟩ ⟨rfl,rfl,trivial⟩ ⟨rfl,trivial⟩ rfl (by simp only[jp,dE,eP,eQ,jg,I.dC,bB.bc,dZ,eb,of_flat,go_sem]<;>rfl) (by show g.bY.length-(i+1)<g.bY.length-i; omega)
  subst aF
  have d2:decide (tg=tg)=true:=decide_eq_true rfl
  rw[d2]at hR
  (have ax:=d1;refine bI ?_;clear ax)
  refine D.oj (hvr) ?_
  (have ax:=d2;refine bI ?_;clear ax)
  refine D.F ⟨[],[0]⟩ (x7) ?_
  cases y1 with
  |true=>
   simp only[bc0,aU7,ba2,bc4,aU6,if_false]at hR
   refine ap ?_
   refine ay.lU (i+1,acc) ⟨by simp only; omega,by simp only; omega,hR⟩ ⟨rfl,rfl,rfl,rfl,rfl,rfl,by simp only[aT5]; rfl,trivial⟩ ⟨rfl,rfl,trivial⟩ ⟨rfl,trivial⟩ rfl (by simp only[jp,dE,eP,eQ,jg,I.dC,bB.bc,dZ,eb,of_flat,go_sem]<;>rfl) (by show g.bY.length-(i+1)<g.bY.length-i; omega)
  |false=>
  refine ap ?_
  refine D.F ⟨[1,3],[]⟩ (tl) ?_
  cases y2 with
  |true=>
   simp only[bc0,aZ2,aU7,ba2,bc4,aU6,if_false]at hR
   refine ap ?_
   refine ay.lU (i+1,acc) ⟨by simp only; omega,by simp only; omega,hR⟩ ⟨rfl,rfl,rfl,rfl,rfl,rfl,by simp only[aT5]; rfl,trivial⟩ ⟨rfl,rfl,trivial⟩ ⟨rfl,trivial⟩ rfl (by simp only[jp,dE,eP,eQ,jg,I.dC,bB.bc,dZ,eb,of_flat,go_sem]<;>rfl) (by show g.bY.length-(i+1)<g.bY.length-i; omega)
  |false=>
   simp only[aZ2,aU7,if_true]at hR
   refine ap ?_
   refine D.Cm ?_
   refine dM ?_
   refine ap ?_
   refine ay.lU (i+1,acc++[(a,b)]) ⟨by simp only; omega,by simp only[aT2,aT3,aU1]; omega,hR⟩ ⟨rfl,rfl,rfl,by simp only[aT2,aT3,aU1]; rfl,rfl,rfl,by simp only[aT5]; rfl,trivial⟩ ⟨rfl,rfl,trivial⟩ ⟨by simp only[aT2,aT3,aU1,aV4,aU5,aX6]; rfl,trivial⟩ rfl (by simp only[jp,dE,eP,eQ,jg,I.dC,bB.bc,dZ,eb,of_flat,sC,go_sem]<;>rfl) (by show g.bY.length-(i+1)<g.bY.length-i; omega)
end
section
theorem Ml (g:cI) (role:Int) (an:List bK) (a:Int×Int): ∀(es:List cG) (acc:List (Int×Int)),a∈om g role an acc es↔a∈acc∨∃e∈es,e.l1=role∧an.any (nE g e.gZ e.ii)=false∧a=(e.gZ,e.ii)
 |[],acc=>by simp [om]
 |e::es,acc=>by
  simp only[om,Ml g role an a es,aV8,exists_eq_or_imp]
  by_cases h1:e.l1=role
  ·by_cases h2:an.any (nE g e.gZ e.ii)=true
   ·simp [h1,h2]
   ·rw[Bool.not_eq_true]at h2
    by_cases h3:(e.gZ,e.ii)∈acc
    ·have h4:(acc.any fun v=>decide ((e.gZ,e.ii)=v))=true:=List.any_eq_true.2 ⟨_,h3,decide_eq_true rfl⟩
     rw[h4,h2,decide_eq_true h1]
     simp only[bc0,ba2,bc4,aU6,if_false]
     constructor
     ·rintro (h|h)
      ·exact .inl h
      ·exact .inr (.inr h)
     ·rintro (h|⟨_,_,rfl⟩|h)
      ·exact .inl h
      ·exact .inl h3
      ·exact .inr h
    ·have h4:(acc.any fun v=>decide ((e.gZ,e.ii)=v))=false:=by
      rw[Bool.eq_false_iff]
      intro h
      obtain⟨v,hv,k⟩:=List.any_eq_true.1 h
      rw[←of_decide_eq_true k]at hv
      exact h3 hv
     rw[h4,h2,decide_eq_true h1]
     simp only[aZ2,aU7,if_true,List.mem_append,List.mem_singleton,or_assoc,h1,true_and]
  ·simp [h1]
theorem Mm (g:cI) (role:Int) (an:List bK): ∀(es:List cG) (acc:List (Int×Int)),acc.Nodup→(om g role an acc es).Nodup
 |[],acc,h=>h
 |e::es,acc,h=>by
  simp only[om]
  refine Mm g role an es _ ?_
  split
  ·rename_i k
   simp only[aT0,aX1]at k
   refine List.nodup_append.2 ⟨h,by simp,fun a aL b hb=> ?_⟩
   rw[List.mem_singleton.1 hb]
   intro e2
   have:=List.any_eq_false.1 k.2.1 a aL
   rw[e2]at this
   simp at this
  ·exact h
theorem au2 {a:Int×Int}{l:List (Int×Int)}:a∈lu l↔a∈l:=List.mem_mergeSort
theorem au3 {l:List (Int×Int)}(h:l.Nodup):(lu l).Nodup:=(List.mergeSort_perm l _).nodup_iff.2 h
theorem yV {x:c9}{g:cI}(h:(iz x g).2=0){a:Int×Int}:a∈jr x g↔ ∃e∈g.bY,e.l1=oY x g∧x.an.any (nE g e.gZ e.ii)=false∧a=(e.gZ,e.ii):=by
 unfold jr
 rw[if_pos h,au2,Ml]
 simp
theorem Z1 (x:c9) (g:cI):(jr x g).Nodup:=by
 unfold jr
 split
 ·exact au3 (Mm g _ _ _ _ bl4)
 ·exact bl4
theorem Mn (x:c9) (g:cI):(jr x g).length≤400:=by
 have key: ∀(es:List cG) (acc:List (Int×Int)) (r:Int) (an:List bK),(om g r an acc es).length≤acc.length+es.length:=by
  intro es
  induction es with
  |nil=>intro acc r an; simp [om]
  |cons e es ih=>
   intro acc r an
   simp only[om,aT3]
   refine aX0 (ih _ _ _) ?_
   split<;>simp<;>omega
 unfold jr
 split
 ·rename_i h
  have hv:=(se.1 h).2.1
  simp only[kJ,rJ,aT0,decide_eq_true_eq]at hv
  have:=key g.bY [] (oY x g) x.an
  rw[BU]
  simp only[aU1]at this
  omega
 ·simp
theorem yU {x:c9}{g:cI}{a:Int×Int}(h:a∈jr x g):0≤a.1∧a.1<g.cD.length∧0≤a.2∧a.2<g.decls.length:=by
 by_cases hc:(iz x g).2=0
 ·obtain⟨e,he,_,_,rfl⟩:=(yV hc).1 h
  exact Q2 (se.1 hc).2.1 he
 ·unfold jr at h
  rw[if_neg hc]at h
  cases h
theorem Ij {all:List Fd}: ∀(l ahead:List bS) (i:Int),qg all ahead i l=true→(∀a∈ahead,∀d∈l,a.name≠d.name)∧l.Pairwise (fun a d=>a.name≠d.name)
 |[],_,_,_=>⟨fun _ _ _ h=>(by cases h),List.Pairwise.nil⟩
 |d::l,ahead,i,h=>by
  simp only[qg,aT0,aX1]at h
  obtain⟨h1,h2⟩:=Ij l (ahead++[d]) _ h.2.2.2.2.2.2
  have h3:=List.any_eq_false.1 h.2.2.2.1
  refine⟨fun a aL b hb=> ?_,.cons (fun b hb=>h1 d (by simp) b hb) h2⟩
  rcases List.mem_cons.1 hb with rfl|hb
  ·have:=h3 a aL
   simpa using this
  ·exact h1 a (by simp [aL]) b hb
theorem Q0 {g:cI}(h:kJ g=true):g.decls.Pairwise (fun a d=>a.name≠d.name):=by
 simp only[kJ,aT0,uD,Bool.or_eq_true,decide_eq_true_eq]at h
 rcases h.2.2.1 with h0|h0
 ·rw[List.length_eq_zero_iff.1 h0]
  exact .nil
 ·simp only[qS,aT0]at h0
  exact (Ij _ _ _ h0.2.2).2
theorem P4: ∀(l ahead:List bT),vB ahead l=true→(∀a∈ahead,a∉l)∧l.Nodup
 |[],_,_=>⟨fun _ _ k=>(by cases k),bl4⟩
 |x::l,ahead,h=>by
  simp only[vB,aT0,aX1]at h
  obtain⟨h1,h2⟩:=P4 l (ahead++[x]) h.2.2
  have h3:x∉ahead:=by
   intro k
   have:ahead.contains x=true:=by simpa using k
   rw[h.2.1]at this
   cases this
  refine⟨fun a aL k=> ?_,List.nodup_cons.2 ⟨h1 x (by simp),h2⟩⟩
  rcases List.mem_cons.1 k with rfl|k
  ·exact h3 aL
  ·exact h1 a (by simp [aL]) k
theorem Q1 {g:cI}(h:kJ g=true):g.cD.Nodup:=by
 simp only[kJ,wY,aT0]at h
 exact (P4 _ _ h.1.2.2.2).2
theorem Bx {α:Type}{R:α→α→Prop}{l:List α}(h:l.Pairwise R) (an: ∀a b,R a b→R b a){i j:Nat}{a b:α}(ae:l[i]? =some a) (hj:l[j]? =some b) (hn: ¬R a b):i=j:=by
 obtain⟨h1,rfl⟩:=List.getElem?_eq_some_iff.1 ae
 obtain⟨h2,rfl⟩:=List.getElem?_eq_some_iff.1 hj
 rcases Nat.lt_trichotomy i j with k|k|k
 ·exact absurd (List.pairwise_iff_getElem.1 h i j h1 h2 k) hn
 ·exact k
 ·exact absurd (an _ _ (List.pairwise_iff_getElem.1 h j i h2 h1 k)) hn
theorem Vl {g:cI}(h:kJ g=true){b:Nat}{d:bS}(hb:g.decls[b]? =some d):mF g d.name=b:=by
 rcases Bt (fun v:bS=>decide (v.name=d.name)) g.decls 0 with ⟨p,v,h1,h2,h3,_⟩|⟨_,h2⟩
 ·have:p=b:=Bx (Q0 h) (fun _ _ k=>Ne.symm k) h2 hb (by simpa using h3)
  show cW (fun v=> !decide (v.name=d.name)) g.decls 0=b
  rw[h1,this]
  omega
 ·have:=List.find?_eq_none.1 h2 d (aT6 hb)
  simp at this
theorem LQ {l:List bT}{s:bT}: ∀(k i:Nat),0≤og l s k i→∃p:Nat,og l s k i=p∧l[p]? =some s
 |0,i,h=>by simp only[og]at h; omega
 |k+1,i,h=>by
  simp only[og]at h ⊢
  cases hv:l[i]? with
  |none=>rw[hv]at h; simp only at h; omega
  |some y=>
   rw[hv]at h
   simp only at h ⊢
   split
   ·rename_i e
    exact⟨i,rfl,by rw[hv,e]⟩
   ·rename_i e
    rw[if_neg e]at h
    exact LQ k (i+1) h
theorem ag0 {g:cI}(h:kJ g=true){a:Nat}{r:bT}(aL:g.cD[a]? =some r):fF g.cD r=a:=by
 obtain⟨p,h1,h2⟩:=LQ _ _ (ag1 (aT6 aL))
 have:p=a:=Bx (Q1 h) (fun _ _ k=>Ne.symm k) h2 aL (by simp)
 exact h1.trans (by rw[this])
def j9 (k:Nat):bT:=[112,48+UInt8.ofNat (k%4),112]
def Kv (g:cI) (b:Int):List Fd:=((g.decls[b.toNat]?).map bS.fields).getD []
def kX (g:cI) (a:Int×Int):bK:=⟨wm g a.2,xc g a.1,(bb6 (Kv g a.2).length).map j9,[]⟩
def ns (x:c9) (g:cI):c9:=x.sub (x.an++(jr x g).map (kX g)) x.os
theorem yW {g:cI}{a:Int×Int}(h:0≤a.1∧a.1<g.cD.length∧0≤a.2∧a.2<g.decls.length): ∃(i j:Nat) (r:bT) (d:bS),a=((i:Int),(j:Int))∧g.cD[i]? =some r∧g.decls[j]? =some d∧kX g a=⟨d.name,r,(bb6 d.fields.length).map j9,[]⟩∧xc g a.1=r∧wm g a.2=d.name:=by
 obtain⟨a1,a2⟩:=a
 simp only at h
 obtain⟨i,rfl⟩: ∃i:Nat,a1=i:=⟨a1.toNat,by omega⟩
 obtain⟨j,rfl⟩: ∃j:Nat,a2=j:=⟨a2.toNat,by omega⟩
 have e1:=aU0 (show i<g.cD.length by omega)
 have e2:=aU0 (show j<g.decls.length by omega)
 refine⟨i,j,_,_,rfl,e1,e2,?_,?_,?_⟩
 ·simp only[kX,wm,xc,Kv,aY6,e1,e2,aV5,aX2]
 ·simp only[xc,aY6,e1,aX2]
 ·simp only[wm,aY6,e2,aV5,aX2]
theorem ae8 {vars:List bQ}(hv: ∀k,varOf vars (j9 k)=none): ∀b6:List Fd,b6.length≤4→∃m,mU vars [] ((bb6 b6.length).map j9) b6= .ok m:=by
 have h0:varOf vars [112,48,112]=none:=hv 0
 have h1:varOf vars [112,49,112]=none:=hv 1
 have h2:varOf vars [112,50,112]=none:=hv 2
 have h3:varOf vars [112,51,112]=none:=hv 3
 intro b6 hl
 match b6,hl with
 |[],_=>exact⟨_,rfl⟩
 |[a],_=>simp [mU,bi1,h0,kD,e5,c7.bind,j9]
 |[a,b],_=>simp [mU,bi1,h0,h1,kD,e5,c7.bind,j9]
 |[a,b,c],_=>simp [mU,bi1,h0,h1,h2,kD,e5,c7.bind,j9]
 |[a,b,c,d],_=>simp [mU,bi1,h0,h1,h2,h3,kD,e5,c7.bind,j9]
 |a::b::c::d::e::l,h=>simp at h
theorem aa9 {x:c9}{g:cI}(h:(iz x g).2=0) (hv: ∀k,varOf x.vars (j9 k)=none){a:Int×Int}(aL:a∈jr x g) (y:c9) (hy:y.vars=x.vars):ma ⟨y,g,oY x g,none⟩ [] (kX g a)= .ok ():=by
 have hg:=(se.1 h).2.1
 obtain⟨e,he,h1,h2,rfl⟩:=(yV h).1 aL
 obtain⟨i,j,r,d,e1,e2,bD,da,fh,l6⟩:=yW (yU aL)
 simp only[Prod.mk.injEq]at e1
 have k1:=Vl hg bD
 have k2:=ag0 hg e2
 have k3:=Gc hg d (aT6 bD)
 obtain⟨m,hm⟩:=ae8 hv d.fields k3
 rw[da]
 simp only[ma,sD,k1,k2]
 have k4:(g.bY.any fun e=>decide (e.gZ=(i:Int))&&(decide (e.l1=oY x g)&&decide (e.ii=(j:Int))))=true:=List.any_eq_true.2 ⟨e,he,by simp [e1.1,e1.2,h1]⟩
 simp only[if_true,k4,e5,c7.bind,aY6,bD,show decide (0≤(j:Int))=true from decide_eq_true (by omega),show decide (0≤(i:Int))=true from decide_eq_true (by omega),List.any_nil,aZ2,aT1,bk5,decide_true,hy,hm,kH]
theorem UJ {x:c9}{g:cI}(h:(iz x g).2=0):((jr x g).map (kX g)).Pairwise (fun o h=> ¬wh o h):=by
 have hg:=(se.1 h).2.1
 rw[List.pairwise_map]
 refine (Z1 x g).imp_of_mem fun {a b} aL hb hn hc=>hn ?_
 obtain⟨i,j,r,d,e1,e2,bD,da,_⟩:=yW (yU aL)
 obtain⟨i2,j2,r2,d2,f1,f2,f3,f4,_⟩:=yW (yU hb)
 rw[da,f4]at hc
 obtain⟨c1,c2⟩:=hc
 simp only at c1 c2
 subst c2
 have k1:i=i2:=Bx (Q1 hg) (fun _ _ k=>Ne.symm k) e2 f2 (by simp)
 have k2:j=j2:=Bx (Q0 hg) (fun _ _ k=>Ne.symm k) bD f3 (by simp [c1])
 rw[e1,f1,k1,k2]
theorem UK {x:c9}{g:cI}(h:(iz x g).2=0) (hgood:sr (ns x g)=true) (hu: ∀k,k<4→o7 x (j9 k)=false):(iz (ns x g) g).2=0∧jr (ns x g) g=[]:=by
 obtain⟨_,hg,hp⟩:=se.1 h
 obtain⟨p1,p2,p3,p4,p5⟩:=af1 hp
 have hv: ∀k,varOf x.vars (j9 k)=none:=fun k=>by
  have:=hu (k%4) (bl7 _ (by decide))
  simp only[o7,Bool.or_eq_false_iff]at this
  have e:j9 (k%4)=j9 k:=by simp [j9]
  rw[e]at this
  refine List.find?_eq_none.2 fun v hv=> ?_
  simpa using List.any_eq_false.1 this.1 v hv
 have hc:(iz (ns x g) g).2=0:=by
  refine se.2 ⟨hgood,hg,af0 p1 p2 p3 ?_ ?_⟩
  ·have fC:=(DS _ _ _).1 p4
   refine (DS _ _ _).2 ⟨fun y hy=> ?_,(fun _ _ _ k=>by cases k),List.pairwise_append.2 ⟨fC.2.2,UJ h,fun o ho y hy=> ?_⟩⟩
   ·rcases List.mem_append.1 hy with hy|hy
    ·rw[WY (x:=ns x g) (y:=x) rfl]
     exact fC.1 y hy
    ·obtain⟨a,aL,rfl⟩:=List.mem_map.1 hy
     exact aa9 h hv aL _ rfl
   ·obtain⟨a,aL,rfl⟩:=List.mem_map.1 hy
    rintro⟨c1,c2⟩
    obtain⟨e,_,_,h2,rfl⟩:=(yV h).1 aL
    have:=List.any_eq_false.1 h2 o ho
    simp only[kX]at c1 c2
    simp [nE,c1,c2]at this
  ·refine (EQ _ _).2 fun o ho=> ?_
   rw[ab5 (x:=ns x g) (y:=x) rfl]
   exact (EQ _ _).1 p5 o ho
 refine⟨hc,List.eq_nil_iff_forall_not_mem.2 fun a aL=> ?_⟩
 obtain⟨e,he,h1,h2,rfl⟩:=(yV hc).1 aL
 have k:=List.any_eq_false.1 h2
 by_cases hh:x.an.any (nE g e.gZ e.ii)=true
 ·obtain⟨y,hy,hy2⟩:=List.any_eq_true.1 hh
  exact k y (List.mem_append_left _ hy) hy2
 ·rw[Bool.not_eq_true]at hh
  have hm:(e.gZ,e.ii)∈jr x g:=(yV h).2 ⟨e,he,h1,hh,rfl⟩
  refine k _ (List.mem_append_right _ (List.mem_map.2 ⟨_,hm,rfl⟩)) ?_
  simp [nE,kX]
end
section
set_option maxRecDepth 1000000
attribute [local go_sem] au.di ao.di au.cQ ao.cQ ca dB gz ht eb of_flat bQ.row dZ k7 hQ
attribute [local go_sem] fS fz fy fR e8 fa eI dv Fd.row ep eN cG.row et.row bS.row uR w0 px vq tb gw.row gK sC
theorem Z0:jr pR gR=[(0,0)]:=by
 have h:(iz pR gR).2=0:=by rw[HK]
 have h2:om gR (oY pR gR) pR.an [] gR.bY=[(0,0)]:=by kernel_rfl
 unfold jr
 rw[if_pos h,h2]
 simp [lu]
theorem n29:Pure aS9 29 [] (.bool true):=by
 have uE:=(ak0 (R:=1000) (by decide) uc ac0).le (fc aI8 pZ)
 have j0:=(ze uc gR aw4 DF).le (fc (cR.refl _) (fc AN pZ))
 have e32:=(ze pR gR QB DF).le (fc (cR.refl _) (fc AN pZ))
 have jD:=(F6 pR gR (by decide)).le (fc (cR.refl _) (fc AN pZ))
 have oG:=(Eu pR gR QB DF).le (fc (cR.refl _) (fc AN pZ))
 rw[Z0,show oY pR gR=1 by kernel_rfl]at oG
 have wo:=aH7 [(0,1,0)] (by decide)
 rw[UC]at j0
 rw[HK]at e32
 rw[show pR.role=[98] by rfl,af9,show max (1:Int) 0=1 by decide]at jD
 simp only[wb]at j0 e32
 rw[nO]at uE j0 e32 jD oG
 simp only[uc,pR,aU5,aX6,KD]at uE j0 e32 jD oG wo
 try (simp (disch:=omega) only[go_sem,simprocAttr]at uE)
 try (simp (disch:=omega) only[go_sem,simprocAttr]at j0)
 try (simp (disch:=omega) only[go_sem,simprocAttr]at e32)
 try (simp (disch:=omega) only[go_sem,simprocAttr]at jD)
 try (simp (disch:=omega) only[go_sem,simprocAttr]at wo)
 try (simp (disch:=omega) only[go_sem,simprocAttr]at oG)
 refine dt bk Tryz.func29 Tu rfl rfl ?_
 unfold Jy Pb
 simp(disch:=omega)only[go_sem,simprocAttr]
 refine ap ?_
 refine D.P (uE) ?_
 refine ap ?_
 refine D.P (j0) ?_
 refine dM ?_
 (repeat (apply ay.s true true;(·simp(disch:=omega)only[go_sem,simprocAttr,]<;>with_reducible rfl)))
 refine ay.dr ?_
 refine dM ?_
 refine ay.aI5 1 4 4 rfl rfl ?_
 simp(disch:=omega)only[go_sem,simprocAttr]
 refine ap ?_
 refine D.P (e32) ?_
 refine ap ?_
 refine D.P (oG) ?_
 refine ap ?_
 refine D.P (jD) ?_
 refine ap ?_
 refine D.P (wo) ?_
 refine ap ?_
 exact D.rx
end
section
attribute [local go_sem] au.di ao.di au.cQ ao.cQ ca dB gz ht eb of_flat bQ.row dZ k7 hQ
attribute [local go_sem] fS fz fy fR e8 fa eI dv Fd.row ep eN cG.row et.row bS.row gK sC EA
theorem ay2 (k:Nat):(k:Int).tmod 4=((k%4:Nat):Int):=by
 rw[Int.tmod_eq_emod_of_nonneg (by omega)]
 omega
theorem af6 (k:Nat):([[.str [112,48,112]],[.str [112,49,112]],[.str [112,50,112]],[.str [112,51,112]]]:List (List I))[k%4]? =some (ca (j9 k)):=by
 have h:=bl7 k (show 0<4 by decide)
 unfold j9
 generalize k%4=j at h
 match j,h with
 |0,_=>rfl
 |1,_=>rfl
 |2,_=>rfl
 |3,_=>rfl
theorem PW (n:Nat):((bb6 (n+1)).map j9).map ca=((bb6 n).map j9).map ca++[[.str (j9 n)]]:=by
 simp [bi1,ca]
theorem UI {x:c9}{g:cI}(hb:pV x) (h1:x.an.length≤60) (hv:kJ g=true):pV (ns x g) where
 aL:=fun h hh=>by
  rcases List.mem_append.1 hh with hh|hh
  ·exact hb.aL h hh
  ·obtain⟨a,_,rfl⟩:=List.mem_map.1 hh
   simp [kX,ao.cf]
 hp:=fun h hh=>by
  rcases List.mem_append.1 hh with hh|hh
  ·exact hb.hp h hh
  ·obtain⟨a,aL,rfl⟩:=List.mem_map.1 hh
   obtain⟨i,j,r,d,_,_,bD,da,_⟩:=yW (yU aL)
   rw[da]
   have:=Gc hv d (aT6 bD)
   simp
   omega
 sH:=hb.sH
 mi:=hb.mi
 mh:=by
  have:=Mn x g
  show (x.an++(jr x g).map (kX g)).length≤ _
  simp
  omega
 no:=hb.no
theorem aH1 {R:Nat}(hR:R≤140737488355328) (x:c9) (g:cI) (hx:x.ok R) (hbk:e6 x.cells≤100000000) (hgk:e6 g.cells≤100000000):Pure aS9 12 [x.eU,g.eU] (.bool true):=by
 obtain⟨hgB,hsD⟩:=Wm hgk
 have f1:=aH6 hR x g hx hgB (by omega)
 have o1:=NA hR x hx
 have h29:=n29
 cases hf:(pt x&&tv g) with
 |false=>
  rw[hf]at f1
  rw[nO]at*
  simp only[pu]at*
  refine dt bk Tryz.func12 Ag (by simp only[b9,I.flat,dZ,eb,of_flat,dB,eI,e8,fa,aT7]) rfl ?_
  unfold Da Fc
  simp(disch:=omega)only[go_sem,simprocAttr]
  refine ap ?_
  refine D.P (h29) ?_
  refine ap ?_
  refine D.P (f1) ?_
  refine ap ?_
  exact D.rx
 |true=>
 rw[hf]at f1
 simp only[aT0]at hf
 have hb:=Sl hbk hf.1
 obtain⟨v1,v2,v3⟩:=V4 hf.1
 have j0:=ze x g hb hgB
 have oG:=Eu x g hb hgB
 have hn0:(iz x g).2≠0→jr x g=[]:=fun h=>by unfold jr; rw[if_neg h]
 have hck: ∀n e,iz x g=(n,e)→e=0→(iz x g).2=0:=fun n e h k=>by rw[h]; exact k
 have hin:=fun a=>yU (x:=x) (g:=g) (a:=a)
 have hlm:=Mn x g
 rcases hC:iz x g with ⟨n1,e1⟩
 rw[hC]at j0 hn0
 simp only[wb]at j0 hn0
 have gc:=oI g
 rw[nO]at f1 o1 j0 oG ⊢
 simp only[pu]at*
 refine dt bk Tryz.func12 Ag (by simp only[b9,I.flat,dZ,eb,of_flat,dB,eI,e8,fa,aT7]) rfl ?_
 unfold Da Fc
 simp(disch:=omega)only[go_sem,simprocAttr]
 refine ap ?_
 refine D.P (h29) ?_
 refine ap ?_
 refine D.P (f1) ?_
 refine ap ?_
 refine ai.re rfl (aY.EM (j:=1) (T:=84) (size:=4) (k:=(x.an.map bK.row).length) (ds:=[.str x.name,.str x.role,.str x.gh,.ak 7 (x.vars.map bQ.row),.own 0 4 (x.an.map bK.row),.ak 4 (x.os.map cC.row)]) (al:=[.agg [.str x.name,.str x.role,.str x.gh,.ak 7 (x.vars.map bQ.row),.ak 4 (x.an.map bK.row),.ak 4 (x.os.map cC.row)]]) o1 (by simp only[b9,I.flat,dZ,eb,of_flat,aT7]) rfl (fun o c1 ⟨h1,h2⟩=>⟨_,h1,?_,h2⟩)) rfl ?_
 ·exact⟨_,_,rfl,.inl ⟨rfl,rfl⟩,_,_,rfl,.inl ⟨rfl,rfl⟩,_,_,rfl,.inl ⟨rfl,rfl⟩,_,_,rfl,.inl ⟨rfl,by simp only[I.flat,dZ]⟩,_,_,rfl,.inr ⟨_,_,rfl,rfl,eb _⟩,_,_,rfl,.inl ⟨rfl,by simp only[I.flat,of_flat]⟩,rfl⟩
 simp only[vz]
 refine ap ?_
 refine D.P (j0) ?_
 by_cases h0:e1=0
 rotate_left
 ·rw[hn0 h0]at oG
  (have ax:=h0;refine bI ?_;clear ax)
  refine D.P (oG) ?_
  refine ap ?_
  exact D.rx
 have hok:=hck n1 e1 hC h0
 have hcp:=UK (x:=x) (g:=g) hok
 have eh:=UI hb v2 (se.1 hok).2.1
 have p40:=NV (ns x g) eh
 have p31:=ze (ns x g) g eh hgB
 have p36:=Eu (ns x g) g eh hgB
 have u38:=fun n=>aH8 x n hb.mi hb.mh hb.hp
 have hfl:=Gc (se.1 hok).2.1
 have cav:(ns x g).eU= .agg [.str x.name,.str x.role,.str x.gh,.ak 7 (x.vars.map bQ.row),.ak 4 ((x.an++(jr x g).map (kX g)).map bK.row),.ak 4 (x.os.map cC.row)]:=nO _
 rw[cav]at p40 p31 p36
 rw[show oY (ns x g) g=oY x g from rfl]at p36
 simp only[pu]at p31 p36
 rcases c2:iz (ns x g) g with ⟨n2,e2⟩
 rw[c2]at hcp p31
 simp only[wb]at hcp p31
 generalize sr (ns x g)=gs at p40 hcp
 generalize jr (ns x g) g=l2 at p36 hcp
 generalize oY x g=role at oG p36
 have b0:=hcp
 clear cav hck hC hn0 c2 eh hok hb f1 o1 j0 h29 b0
 generalize jr x g=l at*
 rw[nO]at u38
 (have ax:=h0;refine bI ?_;clear ax)
 refine D.P (oG) ?_
 refine ap ?_
 refine ay.dq (X:=Nat) 0 (fun i=>[(2,.ptr 0 0),(3,.ptr 1 0),(5,.ptr 2 0),(8,.ak 3 (l.map (gK role))),(9,.int .i64 (i:Int))]) (fun i=>[(0,26,[.str x.name,.str x.role,.str x.gh,.ak 7 (x.vars.map bQ.row),.ak 4 (x.an.map bK.row),.ak 4 (x.os.map cC.row)]),(1,32,[.str g.name,.ak 1 (g.cD.map ca),.ak 5 (g.decls.map bS.row),.int .i64 g.hX,.int .i64 g.start,.int .i64 g.fin,.ak 6 (g.bY.map cG.row),.ak 3 (g.hM.map et.row)]),(2,48,[.str x.name,.str x.role,.str x.gh,.ak 7 (x.vars.map bQ.row),.own 0 4 ((x.an++(l.take i).map (kX g)).map bK.row),.ak 4 (x.os.map cC.row)])]) (fun i=>[(0,.bP 84 4 ((x.an++(l.take i).map (kX g)).map bK.row).length)]) (fun i=>i≤l.length) (fun i=>l.length-i) (aT8 _) ⟨rfl,rfl,rfl,rfl,rfl,trivial⟩ ⟨rfl,rfl,by simp; rfl,trivial⟩ ⟨by simp; rfl,trivial⟩ ?_
 intro i ae
 try simp only at ae ⊢
 cases hv:l[i]? with
 |none=>
  have hge:=List.getElem?_eq_none_iff.1 hv
  have e:i=l.length:=by omega
  subst e
  have d1: ¬(l.length:Int)<((l.map (gK role)).length:Int):=by rw[aT1]; omega
  rw[List.take_length]
  have a0:=u38 [112,48,112]
  have a1:=u38 [112,49,112]
  have a2:=u38 [112,50,112]
  have a3:=u38 [112,51,112]
  have hall:gs=true→o7 x [112,48,112]=false→o7 x [112,49,112]=false→o7 x [112,50,112]=false→o7 x [112,51,112]=false→e2=0∧l2=[]:=fun k y0 y1 y2 y3=>hcp k fun k hk=>match k,hk with
   |0,_=>y0
   |1,_=>y1
   |2,_=>y2
   |3,_=>y3
  generalize o7 x [112,48,112]=y0 at a0 hall
  generalize o7 x [112,49,112]=y1 at a1 hall
  generalize o7 x [112,50,112]=y2 at a2 hall
  generalize o7 x [112,51,112]=y3 at a3 hall
  clear hcp u38 hfl hin oG hge hv ae
  (have ax:=d1;refine bI ?_;clear ax)
  refine D.P (p40) ?_
  cases gs with
  |false=>
   refine ap ?_
   exact D.rx
  |true=>
  refine ap ?_
  refine D.P (a0) ?_
  cases y0 with
  |true=>
   refine ap ?_
   exact D.rx
  |false=>
  refine ap ?_
  refine D.P (a1) ?_
  cases y1 with
  |true=>
   refine ap ?_
   exact D.rx
  |false=>
  refine ap ?_
  refine D.P (a2) ?_
  cases y2 with
  |true=>
   refine ap ?_
   exact D.rx
  |false=>
  refine ap ?_
  refine D.P (a3) ?_
  cases y3 with
  |true=>
   refine ap ?_
   exact D.rx
  |false=>
  obtain⟨rfl,rfl⟩:=hall rfl rfl rfl rfl rfl
  rw[aX6]at p36
  refine ap ?_
  refine D.P (p31) ?_
  refine ap ?_
  refine D.P (p36) ?_
  refine ap ?_
  exact D.rx
 |some a=>
  have hlt:=(List.getElem?_eq_some_iff.1 hv).1
  have d1:(i:Int)<((l.map (gK role)).length:Int):=by rw[aT1]; omega
  obtain⟨p,q,r,d,rfl,e2,bD,da,fh,l6⟩:=yW (hin a (aT6 hv))
  have hvr:(l.map (gK role))[i]? =some [.int .i64 (p:Int),.int .i64 role,.int .i64 (q:Int)]:=vr hv
  have hdr:(g.decls.map bS.row)[q]? =some (bS.row d):=vr bD
  have hrr:(g.cD.map ca)[p]? =some (ca r):=vr e2
  have hlp:=(List.getElem?_eq_some_iff.1 e2).1
  have hlq:=(List.getElem?_eq_some_iff.1 bD).1
  have k1: ¬(q:Int)<0:=by omega
  have k2: ¬((g.decls.map bS.row).length:Int)≤(q:Int):=by rw[aT1]; omega
  have k3: ¬(p:Int)<0:=by omega
  have k4: ¬((g.cD.map ca).length:Int)≤(p:Int):=by rw[aT1]; omega
  have hsn:(l.take (i+1)).map (kX g)=(l.take i).map (kX g)++[kX g ((p:Int),(q:Int))]:=by rw[List.take_add_one,hv,aV4]; rfl
  have hd4:=hfl d (aT6 bD)
  clear hv e2 bD hfl hcp u38 p31 p36 p40 oG hin
  (have ax:=d1;refine bI ?_;clear ax)
  refine D.oj (hvr) ?_
  (have ax:=k1;refine sY ?_;clear ax)
  refine D.oj (hvr) ?_
  (have ax:=k2;refine sY ?_;clear ax)
  refine D.oj (hvr) ?_
  (have ax:=k3;refine sY ?_;clear ax)
  refine D.oj (hvr) ?_
  (have ax:=k4;refine bI ?_;clear ax)
  refine D.oj (hvr) ?_
  refine dM ?_
  refine D.oj (hdr) ?_
  refine ap ?_
  refine D.oj (hvr) ?_
  refine dM ?_
  refine D.oj (hrr) ?_
  refine ap ?_
  clear hvr hdr hrr k1 k2 k3 k4 d1
  refine ay.tx 4 2 1 9 rfl rfl (by decide) ?_
  simp(disch:=omega)only[go_sem,simprocAttr]
  have zf:((d.fields.map Fd.row).length:Int)=(d.fields.length:Int):=by rw[aT1]
  refine ay.dq (X:=Nat) 0 (fun k=>[(2,.ptr 0 0),(3,.ptr 1 0),(5,.ptr 2 0),(8,.ak 3 (l.map (gK role))),(9,.int .i64 (i:Int)),(10,.ptr 3 0),(11,.ptr 4 0),(12,.int .i64 (k:Int))]) (fun k=>[(0,26,[.str x.name,.str x.role,.str x.gh,.ak 7 (x.vars.map bQ.row),.ak 4 (x.an.map bK.row),.ak 4 (x.os.map cC.row)]),(1,32,[.str g.name,.ak 1 (g.cD.map ca),.ak 5 (g.decls.map bS.row),.int .i64 g.hX,.int .i64 g.start,.int .i64 g.fin,.ak 6 (g.bY.map cG.row),.ak 3 (g.hM.map et.row)]),(2,48,[.str x.name,.str x.role,.str x.gh,.ak 7 (x.vars.map bQ.row),.own 0 4 ((x.an++(l.take i).map (kX g)).map bK.row),.ak 4 (x.os.map cC.row)]),(3,72,[.str d.name,.ak 4 (d.fields.map Fd.row),.int .i64 d.first,.ak 3 (d.eM.map ep),.ak 2 (d.eqs.map eN)]),(4,84,[.str d.name,.str r,.own 1 1 (((bb6 k).map j9).map ca),.bn])]) (fun k=>[(0,.bP 84 4 ((x.an++(l.take i).map (kX g)).map bK.row).length),(1,.bP 9 1 (((bb6 k).map j9).map ca).length)]) (fun k=>k≤d.fields.length) (fun k=>d.fields.length-k) (aT8 _) ⟨rfl,rfl,rfl,rfl,rfl,rfl,rfl,rfl,trivial⟩ ⟨rfl,rfl,rfl,rfl,rfl,trivial⟩ ⟨rfl,rfl,trivial⟩ ?_
  intro k hk
  try simp only at hk ⊢
  by_cases hkl:k<d.fields.length
  ·have m1:(k:Int)<(d.fields.length:Int):=by omega
   have zt:=ay2 k
   (have ax:=zf;have z2:=m1;have z3:=zt;refine fY ?_;clear ax z2 z3)
   refine D.oj (af6 k) ?_
   refine ap ?_
   refine D.jz ?_ (hb:=by simp only[aT1,bk5,aT3,aU1,maxLen]<;>omega) (hm:=by simp only[aT1,bk5,aT3,aU1,maxLen]<;>omega)
   refine ap ?_
   refine ay.fH (k+1) (by omega) ⟨rfl,rfl,rfl,rfl,rfl,rfl,rfl,by simp only[aT5]; rfl,trivial⟩ (by refine⟨rfl,rfl,rfl,rfl,?_,trivial⟩; simp only[PW]; rfl) (by refine⟨rfl,?_,trivial⟩; simp only[PW,aT2]; rfl) rfl rfl (by show d.fields.length-(k+1)<d.fields.length-k; omega)
  have e:k=d.fields.length:=by omega
  subst e
  have m1: ¬(d.fields.length:Int)<(d.fields.length:Int):=by omega
  (repeat (apply ay.s true true;(·simp(disch:=omega)only[go_sem,simprocAttr,]<;>with_reducible rfl)))
  refine ay.dr ?_
  (have ax:=zf;have z2:=m1;refine Ru ?_;clear ax z2)
  (have ax:=m1;refine Cc ?_;clear ax)
  refine ay.Gj 4 2 1 1 rfl rfl (dB _) ?_
  simp(disch:=omega)only[go_sem,simprocAttr]
  refine ay.aI6 4 3 11 rfl rfl ?_
  simp(disch:=omega)only[go_sem,simprocAttr]
  have hrow:(x.an++(l.take i).map (kX g)).map bK.row++[[.str d.name,.str r,.ak 1 (((bb6 d.fields.length).map j9).map ca),.ak 11 []]]=(x.an++(l.take (i+1)).map (kX g)).map bK.row:=by
   rw[hsn,da,←List.append_assoc,aV4 (l₁:=x.an++ _)]
   rfl
  have hln:((x.an++(l.take i).map (kX g)).map bK.row).length≤1000:=by simp; omega
  refine ap ?_
  refine D.jz ?_ (hb:=by simp only[aT3,aU1,maxLen]<;>omega) (hm:=by simp only[aT3,aU1,maxLen]<;>omega)
  refine ap ?_
  refine ay.lU (i+1) (by omega) ⟨rfl,rfl,rfl,rfl,by simp only[aT5]; rfl,trivial⟩ (by refine⟨rfl,rfl,?_,trivial⟩; simp only[←hrow]; rfl) (by refine⟨?_,trivial⟩; simp only[←hrow,aT2]; rfl) rfl (by simp only[jp,dE,eP,eQ,jg,I.dC,bB.bP,dZ,eb,of_flat,sC,go_sem]<;>rfl) (by show l.length-(i+1)<l.length-i; omega)
end
section
theorem aH3 (x:c9) (g:cI) (hx:x.ok reachBytes) (h1:e6 x.cells≤1048576) (h2:e6 g.cells≤1048576):Pure aS9 12 [x.eU,g.eU] (.bool true):=aH1 (R:=reachBytes) (by decide) x g hx (by omega) (by omega)
end
end Go.aX.T.N
