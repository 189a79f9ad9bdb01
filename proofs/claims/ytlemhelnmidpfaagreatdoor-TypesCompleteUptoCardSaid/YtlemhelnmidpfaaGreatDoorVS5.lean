/- Part of a proof; own work. -/
import Derived.Below
import Derived.Deep.Slices
import Derived.Deep.Fields
import Derived.ChangeSame
import Derived.WideShapes
import Derived.OpenShut
import Derived.SizedLaws
import Derived.Test.YtlemhelnmidpfaaGreatDoorVS4
set_option linter.unusedVariables false
set_option linter.unusedSimpArgs false
open List renaming cons_append→aU4,map_cons→aU5,replicate→aU2,getElem?_eq_getElem→aU0,getElem?_map→aZ7,drop_drop→bg5,drop_zero→bb0,length_map→aT1,length_drop→bd3,length_cons→aT3,length_take→aX3,length_append→aT2,length_nil→aU1
open Nat renaming le_refl→aT4,add_mul→aW4,le_trans→aX0,zero_le→aT8,zero_mul→bi6,reduceBEq→bd1,le_of_ble_eq_true→aZ3,reduceAdd→bd2
namespace Go.aX
open Go Go.ChangeShapes Go.WideShapes Go.Deep Go.RowKit
theorem Ui {P:Program}{f:FuncId}{args:List I}{r:I}(h:Pure P f args r) (w:World) (ak:List Value) (bm:lz w) (aL: ∀m:Mem,m.w=w→m.H=aw.none→aM m args ak):
  Calls P f ⟨ak⟩ w fun e w'=>(∃v,e= .returned v∧∃m:Mem,aK m r v)∧Below w.heap.size w w':=by
 have:=h aw.none ⟨w,aw.none,fun _=> .nilFunc,0⟩ ak rfl ⟨fun b T cs hb=>by simp [aw.none]at hb,fun t i ae=>by simp [aw.none]at ae,bm,fun p hp=>⟨rfl,fun t i ae=>by simp [aw.none]at ae⟩⟩ (aL _ rfl rfl)
 refine this.mono fun e w' ⟨o,av,fI,cu,g1,g2,g3,g4,g5⟩=> ?_
 subst g4
 simp only[pU]at g3
 obtain⟨v,aj,aq⟩:=g3
 exact⟨⟨v,aj,_,aq⟩,⟨g2.os,g2.tape,g2.output,g2.size,fun b hb=>(g2.block b hb rfl (fun t i ae=>by simp [aw.none]at ae)).1⟩⟩
theorem Qb {m:Mem}: ∀ {x y:List I}{u v:List Value},aM m x u→aM m y v→aM m (x++y) (u++v)
 |[],_,_,_,h,k=>by simp only[aM]at h; subst h; exact k
 |a::az,_,_,_,h,k=>by
  simp only[aM]at h
  obtain⟨v,ak,rfl,h1,J⟩:=h
  simp only[aU4,aM]
  exact⟨v,_,rfl,h1,Qb J k⟩
section
variable {H:Type}{enc:TypeId×Value→H}{P:Program}{w:World}{base:Nat}{spare:Nat→Bool}{held:Bool}
theorem ar4 {m:Mem}{s:ByteArray}(h:s.size≤maxLen):aK m (.str s.data.toList) (.string s):=by
 simp only[aK]
 exact⟨trivial,by simpa using h⟩
theorem av5 {m:Mem}{b o:Nat}{v:Value}(hH:m.H=aw.none) (ah:m.w.cell? ⟨b,o,none⟩=some v):lC m b o where
 lt:=World.block_lt_of_cell? m.w _ (by rw[ah])
 aV:=by rw[hH]; rfl
 tok:=fun t i ae=>by rw[hH]at ae; simp [aw.none]at ae
theorem Qe {m:Mem}{size b o:Nat}{R:Nat→List I}: ∀(n i:Nat),(∀j,i≤j→j<i+n→(R j).length=size∧ez m (R j) b (o+j*size))→dy m size ((List.range' i n).map R) b (o+i*size)
 |0,_,_=>by simp [dy]
 |n+1,i,h=>by
  obtain⟨h1,J⟩:=h i (aT4 _) (by omega)
  simp only[List.range'_succ,aU5,dy]
  refine⟨h1,J,?_⟩
  have:=Qe n (i+1) fun j h1 J=>h j (by omega) (by omega)
  rw[show o+i*size+size=o+(i+1)*size by rw[aW4]; omega]
  exact this
inductive aK3 where
 |de (k:lA)
 |fV (bx:List lA)
 deriving DecidableEq
end
theorem lr {α:Type}{f:α→List I}: ∀ {rows:List (List I)},(∀r∈rows,∃v,r=f v)→∃xs:List α,rows=xs.map f
 |[],_=>⟨[],rfl⟩
 |r::aN,h=>by
  obtain⟨v,ad⟩:=h r (by simp)
  obtain⟨xs,U⟩:=lr (rows:=aN) fun r ab=>h r (by simp [ab])
  exact⟨v::xs,by rw[ad,U]; rfl⟩
end Go.aX
namespace Go.aX
open Go Go.ChangeShapes Go.WideShapes Go.Deep Go.RowKit
inductive Rz where
 |de (k:lA)
 |fV (bx:List Rz)
theorem Qa {m:Mem}(hH:m.H=aw.none): ∀ {jW:List I}{cs:List Value}{b o:Nat},aM m jW cs→(∀v∈cs,v.oneCell'=true)→(∀j v,cs[j]? =some v→m.w.cell? ⟨b,o+j,none⟩=some v)→ez m jW b o
 |[],_,_,_,h,_,_=>by simp only[ez]
 | _:: _,cs,b,o,ad,h1,ah=>by
  simp only[aM]at ad
  obtain⟨v,ak,rfl,J,aA⟩:=ad
  simp only[ez]
  have aW:=ah 0 v rfl
  refine⟨⟨v,aW,h1 v (by simp),av5 hH aW,J⟩,Qa hH aA (fun u hu=>h1 u (by simp [hu])) fun j u hu=> ?_⟩
  have:=ah (j+1) u (by simpa using hu)
  rw[show o+1+j=o+(j+1) by omega]
  exact this
section
variable {H:Type}{enc:TypeId×Value→H}{P:Program}{w:World}{base:Nat}{spare:Nat→Bool}{held:Bool}
end
inductive ga where
 |de (k:lA)
 |fV (e:TypeId)
def ga.ok (P:Program) (R:Nat) (g:TypeId→List I→Prop):ga→I→Prop
 | .de .b,a=> ∃x,a= .bool x
 | .de (.i k),a=> ∃n,a= .int k n∧(Lit.int k n).wf=true
 | .de .s,a=> ∃s,a= .str s∧s.length≤R
 | .fV e,a=> ∃rows,a= .ak (P.cellsOf e) rows∧rows.length*P.bytesOf e≤R∧∀r∈rows,g e r
def hz (P:Program) (R:Nat) (g:TypeId→List I→Prop):List ga→List I→Prop
 |[],l=>l=[]
 |k::bx,l=> ∃a bM,l=a::bM∧ga.ok P R g k a∧hz P R g bx bM
def zj (P:Program) (g:TypeId→Option (List ga)):Nat→List Field→Option (List ga)
 | _,[]=>some []
 |off,f::b6=>match g f.type with
  |some bx=>if f.offset=off∧P.cellsOf f.type=bx.length then (zj P g (off+bx.length) b6).map (bx++ ·) else none
  |none=>none
def iH (P:Program) (E:List TypeId):Nat→TypeId→Option (List ga)
 |0,_=>none
 |d+1,t=>match P.underlying t with
  |some (.int k)=>some [.de (.i k)]
  |some .string=>some [.de .s]
  |some .bool=>some [.de .b]
  |some (.slice e)=>if E.contains e then some [.fV e] else none
  |some (.array n e)=>match iH P E d e with
   |some bx=>if P.cellsOf e=bx.length∧P.cellsOf t=n*bx.length then some (aU2 n bx).flatten else none
   |none=>none
  |some (.struct b6)=>match zj P (iH P E d) 0 b6.toList with
   |some bx=>if P.cellsOf t=bx.length then some bx else none
   |none=>none
  | _=>none
def Fz (P:Program) (E:List TypeId):Bool:=E.all fun e=>match iH P E 8 e with
 |some bx=>decide (P.cellsOf e=bx.length)&&decide (0<bx.length)
 |none=>false
def kK (P:Program) (E:List TypeId) (R:Nat):Nat→TypeId→List I→Prop
 |0,_,_=>False
 |n+1,e,r=> ∃bx,iH P E 8 e=some bx∧hz P R (kK P E R n) bx r
theorem ga.ab9 {P:Program}{R:Nat}{g g':TypeId→List I→Prop}(h: ∀e r,g e r→g' e r): ∀ {k:ga}{a:I},ga.ok P R g k a→ga.ok P R g' k a
 | .de .b,_,k=>k
 | .de (.i _),_,k=>k
 | .de .s,_,k=>k
 | .fV e,_,k=>by
  obtain⟨rows,h1,aW,J⟩:=k
  exact⟨rows,h1,aW,fun r ab=>h e r (J r ab)⟩
theorem Ci {P:Program}{R:Nat}{g g':TypeId→List I→Prop}(h: ∀e r,g e r→g' e r): ∀ {bx:List ga}{l:List I},hz P R g bx l→hz P R g' bx l
 |[],_,k=>k
 | _:: _,_,k=>by
  simp only[hz]at k ⊢
  obtain⟨a,l,e,h1,J⟩:=k
  exact⟨a,l,e,ga.ab9 h h1,Ci h J⟩
theorem GC {P:Program}{E:List TypeId}{R:Nat}: ∀ {n:Nat}{e:TypeId}{r:List I},kK P E R n e r→kK P E R (n+1) e r
 |0,_,_,h=>h.elim
 |n+1,e,r,h=>by
  obtain⟨bx,h1,J⟩:=h
  exact⟨bx,h1,Ci (fun e r=>GC) J⟩
theorem GA {P:Program}{R:Nat}{g:TypeId→List I→Prop}: ∀ {a b:List ga}{x y:List I},hz P R g a x→hz P R g b y→hz P R g (a++b) (x++y)
 |[],_,_,_,h,k=>by simp only[hz]at h; subst h; exact k
 | _:: _,_,_,_,h,k=>by
  simp only[hz]at h
  obtain⟨a,l,rfl,h1,h⟩:=h
  simp only[aU4,hz]
  exact⟨a,_,rfl,h1,GA h k⟩
theorem GB {P:Program}{R:Nat}{g:TypeId→List I→Prop}: ∀ {a:List ga}{x:List I},hz P R g a x→x.length=a.length
 |[],_,h=>by simp only[hz]at h; subst h; rfl
 | _:: _,_,h=>by
  simp only[hz]at h
  obtain⟨a,l,rfl,h1,h⟩:=h
  simp [GB h]
mutual
def I.jX:I→Nat
 | .str s=>s.length+1
 | .ak _ rows=>kk rows+1
 | _=>1
def e6:List I→Nat
 |[]=>0
 |a::l=>a.jX+e6 l
def kk:List (List I)→Nat
 |[]=>0
 |r::l=>e6 r+kk l
end
mutual
def ik {H:Type}:DataW H→Nat
 | .lit (.string bytes)=>bytes.length+1
 | .slice qi spare=>lL qi+lL spare+1
 | .agg parts=>lL parts+1
 | .lit _=>1
 | .nil=>1
 | .ptr _=>1
 | .iface _ _=>1
 | .map _=>1
 | .held _=>1
def lL {H:Type}:List (DataW H)→Nat
 |[]=>0
 |d::r=>ik d+lL r
end
theorem Cw: ∀(a b:List I),e6 (a++b)=e6 a+e6 b
 |[],b=>by simp [e6]
 |x::a,b=>by simp only[aU4,e6,Cw a b]; omega
theorem G7 {H:Type}: ∀(l:List (DataW H×List MemPlace)) (R:Nat→List I) (s:Nat),(∀i x,l[i]? =some x→e6 (R (s+i))≤ik x.1)→kk ((List.range' s l.length).map R)≤lL (l.map (·.1))
 |[],_,_,_=>by simp [kk]
 |x::l,R,s,h=>by
  have aW:=h 0 x rfl
  have h1:=G7 l R (s+1) fun i y bg=>by have:=h (i+1) y (by simpa using bg); rwa [show s+(i+1)=s+1+i by omega]at this
  simp only[aT3,List.range'_succ,aU5,kk,lL]
  simp only[Nat.add_zero]at aW
  omega
theorem CX {H:Type}: ∀(i:Nat){l:List (DataW H)}{x:DataW H},l[i]? =some x→lL (l.drop i)=ik x+lL (l.drop (i+1))
 |0,y::l,x,h=>by simp at h; subst h; simp [lL]
 |i+1,y::l,x,h=>by simpa using CX i (l:=l) (by simpa using h)
 |0,[],_,h=>by simp at h
 |i+1,[],_,h=>by simp at h
theorem Gg {H:Type}{P:Program}{e:TypeId}: ∀ {l:List (DataW H)}{i:Nat}{d:DataW H},l[i]? =some d→∀n∈DataW.weights P e d,n∈DataW.weightsAll P e l
 |x::l,0,d,h,n,bb=>by simp at h; subst h; simp only[DataW.weightsAll]; exact List.mem_append_left _ bb
 |x::l,i+1,d,h,n,bb=>by simp only[DataW.weightsAll]; exact List.mem_append_right _ (Gg (l:=l) (i:=i) (by simpa using h) n bb)
 |[],_,_,h,_,_=>by simp at h
section
variable {H:Type}{enc:TypeId×Value→H}{P:Program}{E:List TypeId}{R:Nat}{w:World}{base:Nat}{spare:Nat→Bool}{held:Bool}
abbrev mB (P:Program) (E:List TypeId) (R:Nat) (w:World) (n:Nat) (bx:List ga) (cs:List Value) (B:Nat):Prop:=∃jW,(hz P R (kK P E R n) bx jW∧e6 jW≤B)∧cs.length=bx.length∧(∀v∈cs,v.oneCell'=true)∧∀m:Mem,m.w=w→m.H=aw.none→aM m jW cs
theorem mB.mono {n:Nat}{bx:List ga}{cs:List Value}{B xC:Nat}(h:mB P E R w n bx cs B) (eh:B≤xC):mB P E R w (n+1) bx cs xC:=by
 obtain⟨jW,⟨h1,aW⟩,J⟩:=h
 exact⟨jW,⟨Ci (fun e r=>GC) h1,aX0 aW eh⟩,J⟩
theorem mB.eH {n:Nat}{a b:List ga}{u v:List Value}{B xC:Nat}(h:mB P E R w n a u B) (k:mB P E R w n b v xC):mB P E R w n (a++b) (u++v) (B+xC):=by
 obtain⟨x,⟨h1,aW⟩,J,aA,bz⟩:=h
 obtain⟨y,⟨br,sz⟩,bA,cy,eR⟩:=k
 refine⟨x++y,⟨GA h1 br,by rw[Cw]; omega⟩,by simp [J,bA],fun z aD=> ?_,fun m hw hH=>Qb (bz m hw hH) (eR m hw hH)⟩
 rcases List.mem_append.1 aD with aD|aD
 ·exact aA z aD
 ·exact cy z aD
theorem mB.nil {n B:Nat}:mB P E R w n [] [] B:=⟨[],⟨rfl,aT8 _⟩,rfl,fun v ad=>by simp at ad,fun m _ _=>by simp [aM]⟩
theorem ar2 {t e:TypeId}{bx:List ga}{jq:Nat}{cs:List Value}{x:DataW H×List MemPlace}(aF:P.underlying t=some (.slice e)) (ah:P.cellsOf e=bx.length) (aW:0<bx.length)
  (hk:iH P E 8 e=some bx) (aD: ∀n∈DataW.weights P t x.1,n≤R) (b8: ∀(n:Nat),jq=n+1→∀(cs:List Value) (x:DataW H×List MemPlace),DataW.trod enc P w base spare held n e cs=some x→(∀n∈DataW.weights P e x.1,n≤R)→mB P E R w n bx cs (ik x.1))
  (h:DataW.trod enc P w base spare held jq t cs=some x):mB P E R w jq [.fV e] cs (ik x.1):=by
 rcases DataW.trod_slice aF h with ⟨h1,U⟩|⟨a,len,cap,qi,rest,n,aO,jE,U,hb,aE,hm,e9,ae,_⟩
 ·subst h1
  refine⟨[.ak (P.cellsOf e) []],⟨⟨_,_,rfl,⟨[],rfl,by simp,fun r ab=>by simp at ab⟩,rfl⟩,by rw[U]; simp [e6,I.jX,kk,ik]⟩,rfl,fun v ad=>by simp at ad; subst ad; rfl,fun m _ _=> ?_⟩
  simp only[aM,aK]
  exact⟨_,_,rfl,⟨none,0,0,rfl,rfl,⟨aT4 _,aT8 _⟩,.inl rfl⟩,rfl⟩
 ·subst jE
  have key: ∀i,∃r cs,i<len→(hz P R (kK P E R n) bx r∧∀y,qi[i]? =some y→e6 r≤ik y.1)∧(∀m:Mem,m.w=w→m.H=aw.none→aM m r cs)∧(∀v∈cs,v.oneCell'=true)∧cs.length=bx.length∧∀j,j<bx.length→w.cell? ((a.add (i*bx.length)).add j)=cs[j]? :=by
   intro i
   by_cases Lp:i<len
   ·have aW:=ae i Lp
    rw[aU0 (by omega:i<qi.length)]at aW
    obtain⟨cn,h1,J⟩:=Option.bind_eq_some_iff.1 aW
    rw[ah]at h1
    obtain⟨_,aA,bz⟩:=World.cells?_some h1
    obtain⟨jW,⟨g1,g0⟩,g2,g3,g4⟩:=b8 n aO _ _ J (fun k hk=>aD k (by
     rw[U]
     simp only[DataW.weights,aF]
     exact List.mem_cons_of_mem _ (List.mem_append_left _ (Gg (i:=i) (by rw[aZ7,aU0 (by omega:i<qi.length)]; rfl) k hk))))
    exact⟨jW,cn,fun _=>⟨⟨g1,fun y bg=>by rw[aU0 (by omega:i<qi.length)]at bg; cases bg; exact g0⟩,g4,g3,aA,bz⟩⟩
   ·exact⟨[],[],fun h=>absurd h Lp⟩
  obtain⟨R,ac⟩:=Classical.skolem.1 key
  subst aO
  rw[show ([.fV e]:List ga)=[.fV e] from rfl]
  refine⟨[.ak bx.length ((List.range' 0 len).map R)],⟨⟨_,_,rfl,⟨_,by rw[ah],?_,fun r ab=> ?_⟩,rfl⟩,?_⟩,rfl,fun v ad=>by simp at ad; subst ad; rfl,fun m hw hH=> ?_⟩
  ·have hm:=aD ((qi.length+rest.length)*P.bytesOf e) (by rw[U]; simp [DataW.weights,aF])
   rw[aT1,List.length_range',←e9]
   exact aX0 (Nat.mul_le_mul_right _ (Nat.le_add_right _ _)) hm
  ·obtain⟨i,h1,rfl⟩:=List.mem_map.1 ab
   obtain⟨cs,J⟩:=ac i
   exact⟨bx,hk,(J (by have:=List.mem_range'_1.1 h1; omega)).1.1⟩
  ·have hb:=G7 qi R 0 fun i y bg=>by
    obtain⟨cs,J⟩:=ac i
    have cL:i<qi.length:=(List.getElem?_eq_some_iff.1 bg).1
    rw[Nat.zero_add]
    exact (J (by omega)).1.2 y bg
   rw[e9]at hb
   rw[U]
   simp only[e6,I.jX,ik]
   omega
  ·simp only[aM,aK]
   refine⟨_,_,rfl,⟨_,_,_,rfl,by simp,⟨aE,hm⟩,?_⟩,rfl⟩
   by_cases aD:len=0
   ·left; simp [aD]
   ·right
    have X7: ∃b o,a=⟨b,o,none⟩:=by
     obtain⟨cs,J⟩:=ac 0
     obtain⟨_,_,_,aA,bz⟩:=J (by omega)
     have bZ:=bz 0 aW
     rw[aU0 (by omega)]at bZ
     simp only[bi6,Addr.add,if_true]at bZ
     obtain⟨aK7,aK8,az⟩:=a
     cases az with
     |none=>exact⟨_,_,rfl⟩
     |some _=>
      exfalso
      unfold World.cell? at bZ
      split at bZ
      ·simp at bZ
      ·cases bZ
    obtain⟨b,o,rfl⟩:=X7
    refine⟨b,o,rfl,?_⟩
    have:=Qe (m:=m) (size:=bx.length) (b:=b) (o:=o) (R:=R) len 0 fun j _ bq=> ?_
    ·simpa using this
    ·obtain⟨cs,J⟩:=ac j
     obtain⟨⟨g1,_⟩,g2,g5,g3,g4⟩:=J (by omega)
     refine⟨GB g1,Qa hH (g2 m hw hH) g5 fun i v ad=> ?_⟩
     have gB:i<bx.length:=by rw[←g3]; exact (List.getElem?_eq_some_iff.1 ad).1
     have ef:=g4 i gB
     rw[ad]at ef
     rw[hw,←ef]
     congr 1
     unfold Addr.add
     by_cases aj:j*bx.length=0
     ·by_cases aq:i=0
      ·simp [aj,aq]
      ·simp [aj,aq]
     ·by_cases aq:i=0
      ·simp [aj,aq]
      ·simp [aj,aq]
theorem BM (dp:Fz P E=true): ∀(jq d:Nat) (t:TypeId) (bx:List ga) (cs:List Value) (x:DataW H×List MemPlace),iH P E d t=some bx→DataW.trod enc P w base spare held jq t cs=some x→(∀n∈DataW.weights P t x.1,n≤R)→mB P E R w jq bx cs (ik x.1)
 |jq,0,_,_,_,_,h,_,_=>by simp [iH]at h
 |jq,d+1,t,bx,cs,x,h,aF,aD=>by
  simp only[iH]at h
  split at h
  ·rename_i k hu
   simp at h
   subst h
   obtain⟨n,rfl,U,hw⟩:=DataW.trod_int hu aF
   exact⟨[.int k n],⟨⟨_,_,rfl,⟨n,rfl,hw⟩,rfl⟩,by rw[U]; simp [e6,I.jX,ik]⟩,rfl,fun v ad=>by simp at ad; subst ad; rfl,fun m _ _=>by simp only[aM,aK]; exact⟨_,_,rfl,rfl,rfl⟩⟩
  ·rename_i hu
   simp at h
   subst h
   obtain⟨s,rfl,U,aE⟩:=DataW.trod_string hu aF
   exact⟨[.str s.data.toList],⟨⟨_,_,rfl,⟨_,rfl,aD _ (by rw[U]; simp [DataW.weights])⟩,rfl⟩,by rw[U]; simp [e6,I.jX,ik]⟩,rfl,fun v ad=>by simp at ad; subst ad; rfl,fun m _ _=>by simp only[aM]; exact⟨_,_,rfl,ar4 aE,rfl⟩⟩
  ·rename_i hu
   simp at h
   subst h
   obtain⟨b,rfl,U⟩:=DataW.trod_bool hu aF
   exact⟨[.bool b],⟨⟨_,_,rfl,⟨_,rfl⟩,rfl⟩,by rw[U]; simp [e6,I.jX,ik]⟩,rfl,fun v ad=>by simp at ad; subst ad; rfl,fun m _ _=>by simp only[aM,aK]; exact⟨_,_,rfl,rfl,rfl⟩⟩
  ·rename_i e hu
   split at h
   ·rename_i he
    simp at h
    subst h
    have tB:=List.all_eq_true.1 dp e (by simpa using he)
    split at tB
    ·rename_i bx hk
     simp only[Bool.and_eq_true,decide_eq_true_eq]at tB
     exact ar2 hu tB.1 tB.2 hk aD (fun n aO cs x J LL=>by subst aO; exact BM dp n 8 e bx cs x hk J LL) aF
    ·cases tB
   ·cases h
  ·rename_i n e hu
   split at h
   ·rename_i bx hk
    split at h
    ·rename_i ah
     obtain⟨ah,Xf⟩:=ah
     simp at h
     subst h
     obtain⟨xs,m,yp,U,hlen,Yk,aO⟩:=DataW.trod_array hu aF
     subst yp
     have key: ∀(c i:Nat),i+c=n→mB P E R w (m+1) (aU2 c bx).flatten (cs.drop (i*bx.length)) (lL ((xs.map (·.1)).drop i)):=by
      intro c
      induction c with
      |zero=>
       intro i ae
       have ch:cs.drop (i*bx.length)=[]:=List.drop_eq_nil_of_le (by rw[hlen,Xf,show i=n by omega]; exact aT4 _)
       rw[ch]
       exact mB.nil
      |succ c b8=>
       intro i ae
       have h1:=aO i (by omega)
       rw[aU0 (by omega:i<xs.length),ah]at h1
       have A9: ∀k∈DataW.weights P e (xs[i]'(by omega)).1,k≤R:=fun k hk=>aD k (by
        rw[U]
        simp only[DataW.weights,hu]
        exact Gg (i:=i) (by rw[aZ7,aU0 (by omega:i<xs.length)]; rfl) k hk)
       have a:=(BM dp m d _ _ _ _ hk h1 A9).mono (aT4 _)
       have b:=b8 (i+1) (by omega)
       have iN:lL ((xs.map (·.1)).drop i)=ik (xs[i]'(by omega)).1+lL ((xs.map (·.1)).drop (i+1)):=CX i (by rw[aZ7,aU0 (by omega:i<xs.length)]; rfl)
       have es:cs.drop (i*bx.length)=(cs.drop (i*bx.length)).take bx.length++cs.drop ((i+1)*bx.length):=by
        rw[aW4,Nat.one_mul,←bg5,List.take_append_drop]
       rw[es,iN,List.replicate_succ,List.flatten_cons]
       exact a.eH b
     have:=key n 0 (by omega)
     simp only[bi6,bb0]at this
     obtain⟨jW,⟨b5,cA⟩,dh⟩:=this
     exact⟨jW,⟨b5,by rw[U]; simp only[ik]at cA ⊢; omega⟩,dh⟩
    ·cases h
   ·cases h
  ·rename_i b6 hu
   obtain⟨xs,n,yp,U,hlen,Yk,aO⟩:=DataW.trod_struct hu aF
   subst yp
   split at h
   ·rename_i vi hk
    split at h
    ·rename_i ah
     simp at h
     subst h
     have key: ∀(l:List Field) (off i:Nat) (bx:List ga),zj P (iH P E d) off l=some bx→(∀j,l[j]? =b6.toList[i+j]?)→mB P E R w (n+1) bx ((cs.drop off).take bx.length) (lL ((xs.map (·.1)).drop i)):=by
      intro l
      induction l with
      |nil=>
       intro off i bx h _
       simp [zj]at h
       subst h
       exact mB.nil
      |cons f l b8=>
       intro off i bx h bq
       simp only[zj]at h
       split at h
       ·rename_i br h1
        split at h
        ·rename_i J
         obtain⟨J,aA⟩:=J
         simp only[Option.map_eq_some_iff]at h
         obtain⟨bA,bz,rfl⟩:=h
         have b:=b8 (off+br.length) (i+1) bA bz (fun j=>by have:=bq (j+1); simpa [Nat.add_assoc,Nat.add_comm 1 j] using this)
         have D2:b6[i]? =some f:=by have:=bq 0; simpa using this.symm
         have ae:i<b6.size:=(Array.getElem?_eq_some_iff.1 D2).1
         have aj:=aO i f D2
         rw[aU0 (by omega:i<xs.length),J,aA]at aj
         have A9: ∀k∈DataW.weights P f.type (xs[i]'(by omega)).1,k≤R:=fun k hk=>aD k (by
          rw[U]
          simp only[DataW.weights,hu]
          exact DataW.weights_mem_each (j:=i) (t:=f.type) (by rw[aZ7,Array.getElem?_toList,D2]; rfl) (by rw[aZ7,aU0 (by omega:i<xs.length)]; rfl) k hk)
         have a:=(BM dp n d _ _ _ _ h1 aj A9).mono (aT4 _)
         have iN:lL ((xs.map (·.1)).drop i)=ik (xs[i]'(by omega)).1+lL ((xs.map (·.1)).drop (i+1)):=CX i (by rw[aZ7,aU0 (by omega:i<xs.length)]; rfl)
         have es:(cs.drop off).take (br++bA).length=(cs.drop off).take br.length++(cs.drop (off+br.length)).take bA.length:=by
          rw[aT2,List.take_add,bg5]
         rw[es,iN]
         exact a.eH b
        ·cases h
       ·cases h
     have:=key b6.toList 0 0 vi hk (fun j=>by simp)
     have e:(cs.drop 0).take vi.length=cs:=by rw[bb0]; exact List.take_of_length_le (by omega)
     rw[e]at this
     obtain⟨jW,⟨b5,cA⟩,dh⟩:=this
     exact⟨jW,⟨b5,by rw[U]; simp only[ik,bb0]at cA ⊢; omega⟩,dh⟩
    ·cases h
   ·cases h
  ·cases h
termination_by jq d=>(jq,d)
theorem P7 (dp:Fz P E=true){d:Nat}{t:TypeId}{b6:Array Field}{bx:List ga}{v:Value}{x:DataW H}{p:List MemPlace}{r:Reach}{ix:Nat}(aF:P.underlying t=some (.struct b6)) (hk:iH P E d t=some bx) (aD: ∀n∈DataW.weights P t x,n≤R) (ad:Value.okWide P w r ix t v) (h:DataW.Trod enc P w base spare held t v x p):
  ∃n jW,(hz P R (kK P E R n) bx jW∧e6 jW≤ik x)∧∀m:Mem,m.w=w→m.H=aw.none→aK m (.agg jW) v:=by
 obtain⟨cs,rfl,dd⟩:=okWide_struct aF ad
 obtain⟨l⟩:=cs
 obtain⟨jq,aO⟩:=h
 obtain⟨jW,h1,J,aA,bz⟩:=BM dp _ _ _ _ _ _ hk aO aD
 refine⟨_,jW,h1,fun m hw hH=> ?_⟩
 simp only[aK]
 exact⟨l,rfl,bz m hw hH⟩
end
end Go.aX
