/- Part of a proof; own work. -/
import Derived.Below
import Derived.Deep.Slices
import Derived.Deep.Fields
import Derived.ChangeSame
import Derived.WideShapes
import Derived.OpenShut
import Derived.SizedLaws
import Derived.Test.YtlemhelnmidpfaaGreatDoorRS4
set_option linter.unusedVariables false
set_option linter.unusedSimpArgs false
open List renaming cons_append→bd2,map_cons→bd4,replicate→bc9,getElem?_eq_getElem→bd1,getElem?_map→bi0,drop_drop→bm5,drop_zero→bk5,length_append→bb7,length_drop→bl7,length_take→be9,length_nil→bc4,length_map→bb5,length_cons→bb9
open Nat renaming le_refl→bc1,add_mul→bf3,le_trans→bg1,zero_le→bc3,zero_mul→bq0,le_of_ble_eq_true→bh6,reduceBEq→bl3,reduceAdd→bl4
namespace Go.ba
open Go Go.ChangeShapes Go.WideShapes Go.Deep Go.RowKit
theorem Xe {P:Program}{f:FuncId}{args:List I}{r:I}(h:Pure P f args r) (w:World) (aq:List Value) (bo:l7 w) (aS: ∀m:Mem,m.w=w→m.H=aA.none→aR m args aq):
  Calls P f ⟨aq⟩ w fun e w'=>(∃v,e= .returned v∧∃m:Mem,aP m r v)∧Below w.heap.size w w':=by
 have:=h aA.none ⟨w,aA.none,fun _=> .nilFunc,0⟩ aq rfl ⟨fun b T cs hb=>by simp [aA.none]at hb,fun t i af=>by simp [aA.none]at af,bo,fun p hp=>⟨rfl,fun t i af=>by simp [aA.none]at af⟩⟩ (aS _ rfl rfl)
 refine this.mono fun e w' ⟨o,aC,gw,cG,g1,g2,g3,g4,g5⟩=> ?_
 subst g4
 simp only[rk]at g3
 obtain⟨v,ap,ay⟩:=g3
 exact⟨⟨v,ap,_,ay⟩,⟨g2.os,g2.tape,g2.output,g2.size,fun b hb=>(g2.block b hb rfl (fun t i af=>by simp [aA.none]at af)).1⟩⟩
theorem Sv {m:Mem}: ∀ {x y:List I}{u v:List Value},aR m x u→aR m y v→aR m (x++y) (u++v)
 |[],_,_,_,h,k=>by simp only[aR]at h; subst h; exact k
 |a::az,_,_,_,h,k=>by
  simp only[aR]at h
  obtain⟨v,aq,rfl,U,aa⟩:=h
  simp only[bd2,aR]
  exact⟨v,_,rfl,U,Sv aa k⟩
section
variable {H:Type}{enc:TypeId×Value→H}{P:Program}{w:World}{base:Nat}{spare:Nat→Bool}{held:Bool}
theorem aJ7 {m:Mem}{s:ByteArray}(h:s.size≤maxLen):aP m (.str s.data.toList) (.string s):=by
 simp only[aP]
 exact⟨trivial,by simpa using h⟩
theorem aN5 {m:Mem}{b o:Nat}{v:Value}(fL:m.H=aA.none) (an:m.w.cell? ⟨b,o,none⟩=some v):l9 m b o where
 lt:=World.block_lt_of_cell? m.w _ (by rw[an])
 aY:=by rw[fL]; rfl
 tok:=fun t i af=>by rw[fL]at af; simp [aA.none]at af
theorem Sy {m:Mem}{size b o:Nat}{R:Nat→List I}: ∀(n i:Nat),(∀j,i≤j→j<i+n→(R j).length=size∧eS m (R j) b (o+j*size))→dK m size ((List.range' i n).map R) b (o+i*size)
 |0,_,_=>by simp [dK]
 |n+1,i,h=>by
  obtain⟨U,aa⟩:=h i (bc1 _) (by omega)
  simp only[List.range'_succ,bd4,dK]
  refine⟨U,aa,?_⟩
  have:=Sy n (i+1) fun j U aa=>h j (by omega) (by omega)
  rw[show o+i*size+size=o+(i+1)*size by rw[bf3]; omega]
  exact this
inductive a13 where
 |dr (k:l8)
 |gW (bH:List l8)
 deriving DecidableEq
end
theorem l0 {α:Type}{f:α→List I}: ∀ {rows:List (List I)},(∀r∈rows,∃v,r=f v)→∃xs:List α,rows=xs.map f
 |[],_=>⟨[],rfl⟩
 |r::aQ,h=>by
  obtain⟨v,ad⟩:=h r (by simp)
  obtain⟨xs,ab⟩:=l0 (rows:=aQ) fun r ac=>h r (by simp [ac])
  exact⟨v::xs,by rw[ad,ab]; rfl⟩
end Go.ba
namespace Go.ba
open Go Go.ChangeShapes Go.WideShapes Go.Deep Go.RowKit
inductive T5 where
 |dr (k:l8)
 |gW (bH:List T5)
theorem Su {m:Mem}(fL:m.H=aA.none): ∀ {kr:List I}{cs:List Value}{b o:Nat},aR m kr cs→(∀v∈cs,v.oneCell'=true)→(∀j v,cs[j]? =some v→m.w.cell? ⟨b,o+j,none⟩=some v)→eS m kr b o
 |[],_,_,_,h,_,_=>by simp only[eS]
 | _:: _,cs,b,o,ad,U,an=>by
  simp only[aR]at ad
  obtain⟨v,aq,rfl,aa,aD⟩:=ad
  simp only[eS]
  have aW:=an 0 v rfl
  refine⟨⟨v,aW,U v (by simp),aN5 fL aW,aa⟩,Su fL aD (fun u hu=>U u (by simp [hu])) fun j u hu=> ?_⟩
  have:=an (j+1) u (by simpa using hu)
  rw[show o+1+j=o+(j+1) by omega]
  exact this
section
variable {H:Type}{enc:TypeId×Value→H}{P:Program}{w:World}{base:Nat}{spare:Nat→Bool}{held:Bool}
end
inductive gZ where
 |dr (k:l8)
 |gW (e:TypeId)
def gZ.ok (P:Program) (R:Nat) (g:TypeId→List I→Prop):gZ→I→Prop
 | .dr .b,a=> ∃x,a= .bool x
 | .dr (.i k),a=> ∃n,a= .int k n∧(Lit.int k n).wf=true
 | .dr .s,a=> ∃s,a= .str s∧s.length≤R
 | .gW e,a=> ∃rows,a= .aq (P.cellsOf e) rows∧rows.length*P.bytesOf e≤R∧∀r∈rows,g e r
def ix (P:Program) (R:Nat) (g:TypeId→List I→Prop):List gZ→List I→Prop
 |[],l=>l=[]
 |k::bH,l=> ∃a bZ,l=a::bZ∧gZ.ok P R g k a∧ix P R g bH bZ
def zS (P:Program) (g:TypeId→Option (List gZ)):Nat→List Field→Option (List gZ)
 | _,[]=>some []
 |off,f::cg=>match g f.type with
  |some bH=>if f.offset=off∧P.cellsOf f.type=bH.length then (zS P g (off+bH.length) cg).map (bH++ ·) else none
  |none=>none
def jz (P:Program) (E:List TypeId):Nat→TypeId→Option (List gZ)
 |0,_=>none
 |d+1,t=>match P.underlying t with
  |some (.int k)=>some [.dr (.i k)]
  |some .string=>some [.dr .s]
  |some .bool=>some [.dr .b]
  |some (.slice e)=>if E.contains e then some [.gW e] else none
  |some (.array n e)=>match jz P E d e with
   |some bH=>if P.cellsOf e=bH.length∧P.cellsOf t=n*bH.length then some (bc9 n bH).flatten else none
   |none=>none
  |some (.struct cg)=>match zS P (jz P E d) 0 cg.toList with
   |some bH=>if P.cellsOf t=bH.length then some bH else none
   |none=>none
  | _=>none
def GP (P:Program) (E:List TypeId):Bool:=E.all fun e=>match jz P E 8 e with
 |some bH=>decide (P.cellsOf e=bH.length)&&decide (0<bH.length)
 |none=>false
def lp (P:Program) (E:List TypeId) (R:Nat):Nat→TypeId→List I→Prop
 |0,_,_=>False
 |n+1,e,r=> ∃bH,jz P E 8 e=some bH∧ix P R (lp P E R n) bH r
theorem gZ.au3 {P:Program}{R:Nat}{g g':TypeId→List I→Prop}(h: ∀e r,g e r→g' e r): ∀ {k:gZ}{a:I},gZ.ok P R g k a→gZ.ok P R g' k a
 | .dr .b,_,k=>k
 | .dr (.i _),_,k=>k
 | .dr .s,_,k=>k
 | .gW e,_,k=>by
  obtain⟨rows,U,aW,aa⟩:=k
  exact⟨rows,U,aW,fun r ac=>h e r (aa r ac)⟩
theorem Dc {P:Program}{R:Nat}{g g':TypeId→List I→Prop}(h: ∀e r,g e r→g' e r): ∀ {bH:List gZ}{l:List I},ix P R g bH l→ix P R g' bH l
 |[],_,k=>k
 | _:: _,_,k=>by
  simp only[ix]at k ⊢
  obtain⟨a,l,e,U,aa⟩:=k
  exact⟨a,l,e,gZ.au3 h U,Dc h aa⟩
theorem H2 {P:Program}{E:List TypeId}{R:Nat}: ∀ {n:Nat}{e:TypeId}{r:List I},lp P E R n e r→lp P E R (n+1) e r
 |0,_,_,h=>h.elim
 |n+1,e,r,h=>by
  obtain⟨bH,U,aa⟩:=h
  exact⟨bH,U,Dc (fun e r=>H2) aa⟩
theorem HY {P:Program}{R:Nat}{g:TypeId→List I→Prop}: ∀ {a b:List gZ}{x y:List I},ix P R g a x→ix P R g b y→ix P R g (a++b) (x++y)
 |[],_,_,_,h,k=>by simp only[ix]at h; subst h; exact k
 | _:: _,_,_,_,h,k=>by
  simp only[ix]at h
  obtain⟨a,l,rfl,U,h⟩:=h
  simp only[bd2,ix]
  exact⟨a,_,rfl,U,HY h k⟩
theorem HZ {P:Program}{R:Nat}{g:TypeId→List I→Prop}: ∀ {a:List gZ}{x:List I},ix P R g a x→x.length=a.length
 |[],_,h=>by simp only[ix]at h; subst h; rfl
 | _:: _,_,h=>by
  simp only[ix]at h
  obtain⟨a,l,rfl,U,h⟩:=h
  simp [HZ h]
mutual
def I.ks:I→Nat
 | .str s=>s.length+1
 | .aq _ rows=>kQ rows+1
 | _=>1
def fk:List I→Nat
 |[]=>0
 |a::l=>a.ks+fk l
def kQ:List (List I)→Nat
 |[]=>0
 |r::l=>fk r+kQ l
end
mutual
def jc {H:Type}:DataW H→Nat
 | .lit (.string bytes)=>bytes.length+1
 | .slice qy spare=>mj qy+mj spare+1
 | .agg parts=>mj parts+1
 | .lit _=>1
 | .nil=>1
 | .ptr _=>1
 | .iface _ _=>1
 | .map _=>1
 | .held _=>1
def mj {H:Type}:List (DataW H)→Nat
 |[]=>0
 |d::r=>jc d+mj r
end
theorem Dr: ∀(a b:List I),fk (a++b)=fk a+fk b
 |[],b=>by simp [fk]
 |x::a,b=>by simp only[bd2,fk,Dr a b]; omega
theorem Iy {H:Type}: ∀(l:List (DataW H×List MemPlace)) (R:Nat→List I) (s:Nat),(∀i x,l[i]? =some x→fk (R (s+i))≤jc x.1)→kQ ((List.range' s l.length).map R)≤mj (l.map (·.1))
 |[],_,_,_=>by simp [kQ]
 |x::l,R,s,h=>by
  have aW:=h 0 x rfl
  have U:=Iy l R (s+1) fun i y a8=>by have:=h (i+1) y (by simpa using a8); rwa [show s+(i+1)=s+1+i by omega]at this
  simp only[bb9,List.range'_succ,bd4,kQ,mj]
  simp only[Nat.add_zero]at aW
  omega
theorem DS {H:Type}: ∀(i:Nat){l:List (DataW H)}{x:DataW H},l[i]? =some x→mj (l.drop i)=jc x+mj (l.drop (i+1))
 |0,y::l,x,h=>by simp at h; subst h; simp [mj]
 |i+1,y::l,x,h=>by simpa using DS i (l:=l) (by simpa using h)
 |0,[],_,h=>by simp at h
 |i+1,[],_,h=>by simp at h
theorem HE {H:Type}{P:Program}{e:TypeId}: ∀ {l:List (DataW H)}{i:Nat}{d:DataW H},l[i]? =some d→∀n∈DataW.weights P e d,n∈DataW.weightsAll P e l
 |x::l,0,d,h,n,a1=>by simp at h; subst h; simp only[DataW.weightsAll]; exact List.mem_append_left _ a1
 |x::l,i+1,d,h,n,a1=>by simp only[DataW.weightsAll]; exact List.mem_append_right _ (HE (l:=l) (i:=i) (by simpa using h) n a1)
 |[],_,_,h,_,_=>by simp at h
section
variable {H:Type}{enc:TypeId×Value→H}{P:Program}{E:List TypeId}{R:Nat}{w:World}{base:Nat}{spare:Nat→Bool}{held:Bool}
abbrev nn (P:Program) (E:List TypeId) (R:Nat) (w:World) (n:Nat) (bH:List gZ) (cs:List Value) (B:Nat):Prop:=∃kr,(ix P R (lp P E R n) bH kr∧fk kr≤B)∧cs.length=bH.length∧(∀v∈cs,v.oneCell'=true)∧∀m:Mem,m.w=w→m.H=aA.none→aR m kr cs
theorem nn.mono {n:Nat}{bH:List gZ}{cs:List Value}{B x7:Nat}(h:nn P E R w n bH cs B) (dD:B≤x7):nn P E R w (n+1) bH cs x7:=by
 obtain⟨kr,⟨U,aW⟩,aa⟩:=h
 exact⟨kr,⟨Dc (fun e r=>H2) U,bg1 aW dD⟩,aa⟩
theorem nn.eV {n:Nat}{a b:List gZ}{u v:List Value}{B x7:Nat}(h:nn P E R w n a u B) (k:nn P E R w n b v x7):nn P E R w n (a++b) (u++v) (B+x7):=by
 obtain⟨x,⟨U,aW⟩,aa,aD,bA⟩:=h
 obtain⟨y,⟨br,sM⟩,bB,cu,eO⟩:=k
 refine⟨x++y,⟨HY U br,by rw[Dr]; omega⟩,by simp [aa,bB],fun z aw=> ?_,fun m hw fL=>Sv (bA m hw fL) (eO m hw fL)⟩
 rcases List.mem_append.1 aw with aw|aw
 ·exact aD z aw
 ·exact cu z aw
theorem nn.nil {n B:Nat}:nn P E R w n [] [] B:=⟨[],⟨rfl,bc3 _⟩,rfl,fun v ad=>by simp at ad,fun m _ _=>by simp [aR]⟩
theorem aJ5 {t e:TypeId}{bH:List gZ}{j0:Nat}{cs:List Value}{x:DataW H×List MemPlace}(aL:P.underlying t=some (.slice e)) (an:P.cellsOf e=bH.length) (aW:0<bH.length)
  (av:jz P E 8 e=some bH) (aw: ∀n∈DataW.weights P t x.1,n≤R) (b7: ∀(n:Nat),j0=n+1→∀(cs:List Value) (x:DataW H×List MemPlace),DataW.trod enc P w base spare held n e cs=some x→(∀n∈DataW.weights P e x.1,n≤R)→nn P E R w n bH cs (jc x.1))
  (h:DataW.trod enc P w base spare held j0 t cs=some x):nn P E R w j0 [.gW e] cs (jc x.1):=by
 rcases DataW.trod_slice aL h with ⟨U,ab⟩|⟨a,len,cap,qy,rest,n,aT,ka,ab,hb,aG,hm,fv,af,_⟩
 ·subst U
  refine⟨[.aq (P.cellsOf e) []],⟨⟨_,_,rfl,⟨[],rfl,by simp,fun r ac=>by simp at ac⟩,rfl⟩,by rw[ab]; simp [fk,I.ks,kQ,jc]⟩,rfl,fun v ad=>by simp at ad; subst ad; rfl,fun m _ _=> ?_⟩
  simp only[aR,aP]
  exact⟨_,_,rfl,⟨none,0,0,rfl,rfl,⟨bc1 _,bc3 _⟩,.inl rfl⟩,rfl⟩
 ·subst ka
  have key: ∀i,∃r cs,i<len→(ix P R (lp P E R n) bH r∧∀y,qy[i]? =some y→fk r≤jc y.1)∧(∀m:Mem,m.w=w→m.H=aA.none→aR m r cs)∧(∀v∈cs,v.oneCell'=true)∧cs.length=bH.length∧∀j,j<bH.length→w.cell? ((a.add (i*bH.length)).add j)=cs[j]? :=by
   intro i
   by_cases Nf:i<len
   ·have aW:=af i Nf
    rw[bd1 (by omega:i<qy.length)]at aW
    obtain⟨cC,U,aa⟩:=Option.bind_eq_some_iff.1 aW
    rw[an]at U
    obtain⟨_,aD,bA⟩:=World.cells?_some U
    obtain⟨kr,⟨g1,g0⟩,g2,g3,g4⟩:=b7 n aT _ _ aa (fun k av=>aw k (by
     rw[ab]
     simp only[DataW.weights,aL]
     exact List.mem_cons_of_mem _ (List.mem_append_left _ (HE (i:=i) (by rw[bi0,bd1 (by omega:i<qy.length)]; rfl) k av))))
    exact⟨kr,cC,fun _=>⟨⟨g1,fun y a8=>by rw[bd1 (by omega:i<qy.length)]at a8; cases a8; exact g0⟩,g4,g3,aD,bA⟩⟩
   ·exact⟨[],[],fun h=>absurd h Nf⟩
  obtain⟨R,ag⟩:=Classical.skolem.1 key
  subst aT
  rw[show ([.gW e]:List gZ)=[.gW e] from rfl]
  refine⟨[.aq bH.length ((List.range' 0 len).map R)],⟨⟨_,_,rfl,⟨_,by rw[an],?_,fun r ac=> ?_⟩,rfl⟩,?_⟩,rfl,fun v ad=>by simp at ad; subst ad; rfl,fun m hw fL=> ?_⟩
  ·have hm:=aw ((qy.length+rest.length)*P.bytesOf e) (by rw[ab]; simp [DataW.weights,aL])
   rw[bb5,List.length_range',←fv]
   exact bg1 (Nat.mul_le_mul_right _ (Nat.le_add_right _ _)) hm
  ·obtain⟨i,U,rfl⟩:=List.mem_map.1 ac
   obtain⟨cs,aa⟩:=ag i
   exact⟨bH,av,(aa (by have:=List.mem_range'_1.1 U; omega)).1.1⟩
  ·have hb:=Iy qy R 0 fun i y a8=>by
    obtain⟨cs,aa⟩:=ag i
    have cz:i<qy.length:=(List.getElem?_eq_some_iff.1 a8).1
    rw[Nat.zero_add]
    exact (aa (by omega)).1.2 y a8
   rw[fv]at hb
   rw[ab]
   simp only[fk,I.ks,jc]
   omega
  ·simp only[aR,aP]
   refine⟨_,_,rfl,⟨_,_,_,rfl,by simp,⟨aG,hm⟩,?_⟩,rfl⟩
   by_cases aw:len=0
   ·left; simp [aw]
   ·right
    have af6: ∃b o,a=⟨b,o,none⟩:=by
     obtain⟨cs,aa⟩:=ag 0
     obtain⟨_,_,_,aD,bA⟩:=aa (by omega)
     have b6:=bA 0 aW
     rw[bd1 (by omega)]at b6
     simp only[bq0,Addr.add,if_true]at b6
     obtain⟨a17,a18,az⟩:=a
     cases az with
     |none=>exact⟨_,_,rfl⟩
     |some _=>
      exfalso
      unfold World.cell? at b6
      split at b6
      ·simp at b6
      ·cases b6
    obtain⟨b,o,rfl⟩:=af6
    refine⟨b,o,rfl,?_⟩
    have:=Sy (m:=m) (size:=bH.length) (b:=b) (o:=o) (R:=R) len 0 fun j _ bm=> ?_
    ·simpa using this
    ·obtain⟨cs,aa⟩:=ag j
     obtain⟨⟨g1,_⟩,g2,g5,g3,g4⟩:=aa (by omega)
     refine⟨HZ g1,Su fL (g2 m hw fL) g5 fun i v ad=> ?_⟩
     have gR:i<bH.length:=by rw[←g3]; exact (List.getElem?_eq_some_iff.1 ad).1
     have dx:=g4 i gR
     rw[ad]at dx
     rw[hw,←dx]
     congr 1
     unfold Addr.add
     by_cases ap:j*bH.length=0
     ·by_cases ay:i=0
      ·simp [ap,ay]
      ·simp [ap,ay]
     ·by_cases ay:i=0
      ·simp [ap,ay]
      ·simp [ap,ay]
theorem CF (dc:GP P E=true): ∀(j0 d:Nat) (t:TypeId) (bH:List gZ) (cs:List Value) (x:DataW H×List MemPlace),jz P E d t=some bH→DataW.trod enc P w base spare held j0 t cs=some x→(∀n∈DataW.weights P t x.1,n≤R)→nn P E R w j0 bH cs (jc x.1)
 |j0,0,_,_,_,_,h,_,_=>by simp [jz]at h
 |j0,d+1,t,bH,cs,x,h,aL,aw=>by
  simp only[jz]at h
  split at h
  ·rename_i k hu
   simp at h
   subst h
   obtain⟨n,rfl,ab,hw⟩:=DataW.trod_int hu aL
   exact⟨[.int k n],⟨⟨_,_,rfl,⟨n,rfl,hw⟩,rfl⟩,by rw[ab]; simp [fk,I.ks,jc]⟩,rfl,fun v ad=>by simp at ad; subst ad; rfl,fun m _ _=>by simp only[aR,aP]; exact⟨_,_,rfl,rfl,rfl⟩⟩
  ·rename_i hu
   simp at h
   subst h
   obtain⟨s,rfl,ab,aG⟩:=DataW.trod_string hu aL
   exact⟨[.str s.data.toList],⟨⟨_,_,rfl,⟨_,rfl,aw _ (by rw[ab]; simp [DataW.weights])⟩,rfl⟩,by rw[ab]; simp [fk,I.ks,jc]⟩,rfl,fun v ad=>by simp at ad; subst ad; rfl,fun m _ _=>by simp only[aR]; exact⟨_,_,rfl,aJ7 aG,rfl⟩⟩
  ·rename_i hu
   simp at h
   subst h
   obtain⟨b,rfl,ab⟩:=DataW.trod_bool hu aL
   exact⟨[.bool b],⟨⟨_,_,rfl,⟨_,rfl⟩,rfl⟩,by rw[ab]; simp [fk,I.ks,jc]⟩,rfl,fun v ad=>by simp at ad; subst ad; rfl,fun m _ _=>by simp only[aR,aP]; exact⟨_,_,rfl,rfl,rfl⟩⟩
  ·rename_i e hu
   split at h
   ·rename_i he
    simp at h
    subst h
    have rJ:=List.all_eq_true.1 dc e (by simpa using he)
    split at rJ
    ·rename_i bH av
     simp only[Bool.and_eq_true,decide_eq_true_eq]at rJ
     exact aJ5 hu rJ.1 rJ.2 av aw (fun n aT cs x aa mu=>by subst aT; exact CF dc n 8 e bH cs x av aa mu) aL
    ·cases rJ
   ·cases h
  ·rename_i n e hu
   split at h
   ·rename_i bH av
    split at h
    ·rename_i an
     obtain⟨an,aa4⟩:=an
     simp at h
     subst h
     obtain⟨xs,m,y3,ab,hlen,ag9,aT⟩:=DataW.trod_array hu aL
     subst y3
     have key: ∀(c i:Nat),i+c=n→nn P E R w (m+1) (bc9 c bH).flatten (cs.drop (i*bH.length)) (mj ((xs.map (·.1)).drop i)):=by
      intro c
      induction c with
      |zero=>
       intro i af
       have bN:cs.drop (i*bH.length)=[]:=List.drop_eq_nil_of_le (by rw[hlen,aa4,show i=n by omega]; exact bc1 _)
       rw[bN]
       exact nn.nil
      |succ c b7=>
       intro i af
       have U:=aT i (by omega)
       rw[bd1 (by omega:i<xs.length),an]at U
       have B0: ∀k∈DataW.weights P e (xs[i]'(by omega)).1,k≤R:=fun k av=>aw k (by
        rw[ab]
        simp only[DataW.weights,hu]
        exact HE (i:=i) (by rw[bi0,bd1 (by omega:i<xs.length)]; rfl) k av)
       have a:=(CF dc m d _ _ _ _ av U B0).mono (bc1 _)
       have b:=b7 (i+1) (by omega)
       have je:mj ((xs.map (·.1)).drop i)=jc (xs[i]'(by omega)).1+mj ((xs.map (·.1)).drop (i+1)):=DS i (by rw[bi0,bd1 (by omega:i<xs.length)]; rfl)
       have es:cs.drop (i*bH.length)=(cs.drop (i*bH.length)).take bH.length++cs.drop ((i+1)*bH.length):=by
        rw[bf3,Nat.one_mul,←bm5,List.take_append_drop]
       rw[es,je,List.replicate_succ,List.flatten_cons]
       exact a.eV b
     have:=key n 0 (by omega)
     simp only[bq0,bk5]at this
     obtain⟨kr,⟨ci,cM⟩,dE⟩:=this
     exact⟨kr,⟨ci,by rw[ab]; simp only[jc]at cM ⊢; omega⟩,dE⟩
    ·cases h
   ·cases h
  ·rename_i cg hu
   obtain⟨xs,n,y3,ab,hlen,ag9,aT⟩:=DataW.trod_struct hu aL
   subst y3
   split at h
   ·rename_i vI av
    split at h
    ·rename_i an
     simp at h
     subst h
     have key: ∀(l:List Field) (off i:Nat) (bH:List gZ),zS P (jz P E d) off l=some bH→(∀j,l[j]? =cg.toList[i+j]?)→nn P E R w (n+1) bH ((cs.drop off).take bH.length) (mj ((xs.map (·.1)).drop i)):=by
      intro l
      induction l with
      |nil=>
       intro off i bH h _
       simp [zS]at h
       subst h
       exact nn.nil
      |cons f l b7=>
       intro off i bH h bm
       simp only[zS]at h
       split at h
       ·rename_i br U
        split at h
        ·rename_i aa
         obtain⟨aa,aD⟩:=aa
         simp only[Option.map_eq_some_iff]at h
         obtain⟨bB,bA,rfl⟩:=h
         have b:=b7 (off+br.length) (i+1) bB bA (fun j=>by have:=bm (j+1); simpa [Nat.add_assoc,Nat.add_comm 1 j] using this)
         have E4:cg[i]? =some f:=by have:=bm 0; simpa using this.symm
         have af:i<cg.size:=(Array.getElem?_eq_some_iff.1 E4).1
         have ap:=aT i f E4
         rw[bd1 (by omega:i<xs.length),aa,aD]at ap
         have B0: ∀k∈DataW.weights P f.type (xs[i]'(by omega)).1,k≤R:=fun k av=>aw k (by
          rw[ab]
          simp only[DataW.weights,hu]
          exact DataW.weights_mem_each (j:=i) (t:=f.type) (by rw[bi0,Array.getElem?_toList,E4]; rfl) (by rw[bi0,bd1 (by omega:i<xs.length)]; rfl) k av)
         have a:=(CF dc n d _ _ _ _ U ap B0).mono (bc1 _)
         have je:mj ((xs.map (·.1)).drop i)=jc (xs[i]'(by omega)).1+mj ((xs.map (·.1)).drop (i+1)):=DS i (by rw[bi0,bd1 (by omega:i<xs.length)]; rfl)
         have es:(cs.drop off).take (br++bB).length=(cs.drop off).take br.length++(cs.drop (off+br.length)).take bB.length:=by
          rw[bb7,List.take_add,bm5]
         rw[es,je]
         exact a.eV b
        ·cases h
       ·cases h
     have:=key cg.toList 0 0 vI av (fun j=>by simp)
     have e:(cs.drop 0).take vI.length=cs:=by rw[bk5]; exact List.take_of_length_le (by omega)
     rw[e]at this
     obtain⟨kr,⟨ci,cM⟩,dE⟩:=this
     exact⟨kr,⟨ci,by rw[ab]; simp only[jc,bk5]at cM ⊢; omega⟩,dE⟩
    ·cases h
   ·cases h
  ·cases h
termination_by j0 d=>(j0,d)
theorem Sr (dc:GP P E=true){d:Nat}{t:TypeId}{cg:Array Field}{bH:List gZ}{v:Value}{x:DataW H}{p:List MemPlace}{r:Reach}{h9:Nat}(aL:P.underlying t=some (.struct cg)) (av:jz P E d t=some bH) (aw: ∀n∈DataW.weights P t x,n≤R) (ad:Value.okWide P w r h9 t v) (h:DataW.Trod enc P w base spare held t v x p):
  ∃n kr,(ix P R (lp P E R n) bH kr∧fk kr≤jc x)∧∀m:Mem,m.w=w→m.H=aA.none→aP m (.agg kr) v:=by
 obtain⟨cs,rfl,dq⟩:=okWide_struct aL ad
 obtain⟨l⟩:=cs
 obtain⟨j0,aT⟩:=h
 obtain⟨kr,U,aa,aD,bA⟩:=CF dc _ _ _ _ _ _ av aT aw
 refine⟨_,kr,U,fun m hw fL=> ?_⟩
 simp only[aP]
 exact⟨l,rfl,bA m hw fL⟩
end
end Go.ba
