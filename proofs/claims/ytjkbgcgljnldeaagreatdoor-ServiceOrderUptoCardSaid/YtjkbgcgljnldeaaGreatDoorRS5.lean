/- Part of a proof; own work. -/
import Derived.Below
import Derived.Deep.Slices
import Derived.Deep.Fields
import Derived.ChangeSame
import Derived.WideShapes
import Derived.OpenShut
import Derived.SizedLaws
import Derived.Test.YtjkbgcgljnldeaaGreatDoorRS4
set_option linter.unusedVariables false
set_option linter.unusedSimpArgs false
namespace Go.bc
open Go Go.ChangeShapes Go.WideShapes Go.Deep Go.RowKit
theorem V2 {P:Program}{f:FuncId}{args:List I}{r:I}(h:Pure P f args r) (w:World) (ay:List Value) (aY:nv w) (aP: ∀m:Mem,m.w=w→m.H=aA.none→aS m args ay):
  Calls P f ⟨ay⟩ w fun e w'=>(∃v,e= .returned v∧∃m:Mem,aR m r v)∧Below w.heap.size w w':=by
 have:=h aA.none ⟨w,aA.none,fun _=> .nilFunc,0⟩ ay rfl ⟨fun b T cs hb=>by simp [aA.none]at hb,fun t i ai=>by simp [aA.none]at ai,aY,fun p hp=>⟨rfl,fun t i ai=>by simp [aA.none]at ai⟩⟩ (aP _ rfl rfl)
 refine this.mono fun e w' ⟨o,aF,gb,cQ,g1,g2,g3,g4,g5⟩=> ?_
 subst g4
 simp only[rl]at g3
 obtain⟨v,ar,ax⟩:=g3
 exact⟨⟨v,ar,_,ax⟩,⟨g2.os,g2.tape,g2.output,g2.size,fun b hb=>(g2.block b hb rfl (fun t i ai=>by simp [aA.none]at ai)).1⟩⟩
theorem RN {m:Mem}: ∀ {x y:List I}{u v:List Value},aS m x u→aS m y v→aS m (x++y) (u++v)
 |[],_,_,_,h,k=>by simp only[aS]at h; subst h; exact k
 |a::az,_,_,_,h,k=>by
  simp only[aS]at h
  obtain⟨v,ay,rfl,J,aa⟩:=h
  simp only[List.cons_append,aS]
  exact⟨v,_,rfl,J,RN aa k⟩
section
variable {H:Type}{enc:TypeId×Value→H}{P:Program}{w:World}{base:Nat}{spare:Nat→Bool}{held:Bool}
theorem aD7 {m:Mem}{s:ByteArray}(h:s.size≤maxLen):aR m (.str s.data.toList) (.string s):=by
 simp only[aR]
 exact⟨trivial,by simpa using h⟩
theorem aE7 {m:Mem}{b o:Nat}{v:Value}(eD:m.H=aA.none) (ah:m.w.cell? ⟨b,o,none⟩=some v):lR m b o where
 lt:=World.block_lt_of_cell? m.w _ (by rw[ah])
 aU:=by rw[eD]; rfl
 tok:=fun t i ai=>by rw[eD]at ai; simp [aA.none]at ai
theorem RS {m:Mem}{size b o:Nat}{R:Nat→List I}: ∀(n i:Nat),(∀j,i≤j→j<i+n→(R j).length=size∧ff m (R j) b (o+j*size))→dE m size ((List.range' i n).map R) b (o+i*size)
 |0,_,_=>by simp [dE]
 |n+1,i,h=>by
  obtain⟨J,aa⟩:=h i (Nat.le_refl _) (by omega)
  simp only[List.range'_succ,List.map_cons,dE]
  refine⟨J,aa,?_⟩
  have:=RS n (i+1) fun j J aa=>h j (by omega) (by omega)
  rw[show o+i*size+size=o+(i+1)*size by rw[Nat.add_mul]; omega]
  exact this
inductive aO0 where
 |ey (k:lQ)
 |io (cu:List lQ)
 deriving DecidableEq
end
theorem l8 {α:Type}{f:α→List I}: ∀ {rows:List (List I)},(∀r∈rows,∃v,r=f v)→∃xs:List α,rows=xs.map f
 |[],_=>⟨[],rfl⟩
 |r::aL,h=>by
  obtain⟨v,af⟩:=h r (by simp)
  obtain⟨xs,ab⟩:=l8 (rows:=aL) fun r ag=>h r (by simp [ag])
  exact⟨v::xs,by rw[af,ab]; rfl⟩
end Go.bc
namespace Go.bc
open Go Go.ChangeShapes Go.WideShapes Go.Deep Go.RowKit
inductive tK where
 |ey (k:lQ)
 |io (cu:List tK)
theorem RJ {m:Mem}(eD:m.H=aA.none): ∀ {lf:List I}{cs:List Value}{b o:Nat},aS m lf cs→(∀v∈cs,v.oneCell'=true)→(∀j v,cs[j]? =some v→m.w.cell? ⟨b,o+j,none⟩=some v)→ff m lf b o
 |[],_,_,_,h,_,_=>by simp only[ff]
 | _:: _,cs,b,o,af,J,ah=>by
  simp only[aS]at af
  obtain⟨v,ay,rfl,aa,au⟩:=af
  simp only[ff]
  have aw:=ah 0 v rfl
  refine⟨⟨v,aw,J v (by simp),aE7 eD aw,aa⟩,RJ eD au (fun u hu=>J u (by simp [hu])) fun j u hu=> ?_⟩
  have:=ah (j+1) u (by simpa using hu)
  rw[show o+1+j=o+(j+1) by omega]
  exact this
section
variable {H:Type}{enc:TypeId×Value→H}{P:Program}{w:World}{base:Nat}{spare:Nat→Bool}{held:Bool}
end
inductive iq where
 |ey (k:lQ)
 |io (e:TypeId)
def iq.ok (P:Program) (R:Nat) (g:TypeId→List I→Prop):iq→I→Prop
 | .ey .b,a=> ∃x,a= .bool x
 | .ey (.i k),a=> ∃n,a= .int k n∧(Lit.int k n).wf=true
 | .ey .s,a=> ∃s,a= .str s∧s.length≤R
 | .io e,a=> ∃rows,a= .ay (P.cellsOf e) rows∧rows.length*P.bytesOf e≤R∧∀r∈rows,g e r
def jW (P:Program) (R:Nat) (g:TypeId→List I→Prop):List iq→List I→Prop
 |[],l=>l=[]
 |k::cu,l=> ∃a b8,l=a::b8∧iq.ok P R g k a∧jW P R g cu b8
def zh (P:Program) (g:TypeId→Option (List iq)):Nat→List Field→Option (List iq)
 | _,[]=>some []
 |off,f::fg=>match g f.type with
  |some cu=>if f.offset=off∧P.cellsOf f.type=cu.length then (zh P g (off+cu.length) fg).map (cu++ ·) else none
  |none=>none
def lK (P:Program) (E:List TypeId):Nat→TypeId→Option (List iq)
 |0,_=>none
 |d+1,t=>match P.underlying t with
  |some (.int k)=>some [.ey (.i k)]
  |some .string=>some [.ey .s]
  |some .bool=>some [.ey .b]
  |some (.slice e)=>if E.contains e then some [.io e] else none
  |some (.struct fg)=>match zh P (lK P E d) 0 fg.toList with
   |some cu=>if P.cellsOf t=cu.length then some cu else none
   |none=>none
  | _=>none
def FU (P:Program) (E:List TypeId):Bool:=E.all fun e=>match lK P E 8 e with
 |some cu=>decide (P.cellsOf e=cu.length)&&decide (0<cu.length)
 |none=>false
def ov (P:Program) (E:List TypeId) (R:Nat):Nat→TypeId→List I→Prop
 |0,_,_=>False
 |n+1,e,r=> ∃cu,lK P E 8 e=some cu∧jW P R (ov P E R n) cu r
theorem iq.am0 {P:Program}{R:Nat}{g g':TypeId→List I→Prop}(h: ∀e r,g e r→g' e r): ∀ {k:iq}{a:I},iq.ok P R g k a→iq.ok P R g' k a
 | .ey .b,_,k=>k
 | .ey (.i _),_,k=>k
 | .ey .s,_,k=>k
 | .io e,_,k=>by
  obtain⟨rows,J,aw,aa⟩:=k
  exact⟨rows,J,aw,fun r ag=>h e r (aa r ag)⟩
theorem CS {P:Program}{R:Nat}{g g':TypeId→List I→Prop}(h: ∀e r,g e r→g' e r): ∀ {cu:List iq}{l:List I},jW P R g cu l→jW P R g' cu l
 |[],_,k=>k
 | _:: _,_,k=>by
  simp only[jW]at k ⊢
  obtain⟨a,l,e,J,aa⟩:=k
  exact⟨a,l,e,iq.am0 h J,CS h aa⟩
theorem G6 {P:Program}{E:List TypeId}{R:Nat}: ∀ {n:Nat}{e:TypeId}{r:List I},ov P E R n e r→ov P E R (n+1) e r
 |0,_,_,h=>h.elim
 |n+1,e,r,h=>by
  obtain⟨cu,J,aa⟩:=h
  exact⟨cu,J,CS (fun e r=>G6) aa⟩
theorem G2 {P:Program}{R:Nat}{g:TypeId→List I→Prop}: ∀ {a b:List iq}{x y:List I},jW P R g a x→jW P R g b y→jW P R g (a++b) (x++y)
 |[],_,_,_,h,k=>by simp only[jW]at h; subst h; exact k
 | _:: _,_,_,_,h,k=>by
  simp only[jW]at h
  obtain⟨a,l,rfl,J,h⟩:=h
  simp only[List.cons_append,jW]
  exact⟨a,_,rfl,J,G2 h k⟩
theorem G3 {P:Program}{R:Nat}{g:TypeId→List I→Prop}: ∀ {a:List iq}{x:List I},jW P R g a x→x.length=a.length
 |[],_,h=>by simp only[jW]at h; subst h; rfl
 | _:: _,_,h=>by
  simp only[jW]at h
  obtain⟨a,l,rfl,J,h⟩:=h
  simp [G3 h]
mutual
def I.oJ:I→Nat
 | .str s=>s.length+1
 | .ay _ rows=>pd rows+1
 | _=>1
def iI:List I→Nat
 |[]=>0
 |a::l=>a.oJ+iI l
def pd:List (List I)→Nat
 |[]=>0
 |r::l=>iI r+pd l
end
mutual
def jE {H:Type}:DataW H→Nat
 | .lit (.string bytes)=>bytes.length+1
 | .slice qR spare=>od qR+od spare+1
 | .agg parts=>od parts+1
 | .lit _=>1
 | .nil=>1
 | .ptr _=>1
 | .iface _ _=>1
 | .map _=>1
 | .held _=>1
def od {H:Type}:List (DataW H)→Nat
 |[]=>0
 |d::r=>jE d+od r
end
theorem Df: ∀(a b:List I),iI (a++b)=iI a+iI b
 |[],b=>by simp [iI]
 |x::a,b=>by simp only[List.cons_append,iI,Df a b]; omega
theorem Hx {H:Type}: ∀(l:List (DataW H×List MemPlace)) (R:Nat→List I) (s:Nat),(∀i x,l[i]? =some x→iI (R (s+i))≤jE x.1)→pd ((List.range' s l.length).map R)≤od (l.map (·.1))
 |[],_,_,_=>by simp [pd]
 |x::l,R,s,h=>by
  have aw:=h 0 x rfl
  have J:=Hx l R (s+1) fun i y aZ=>by have:=h (i+1) y (by simpa using aZ); rwa [show s+(i+1)=s+1+i by omega]at this
  simp only[List.length_cons,List.range'_succ,List.map_cons,pd,od]
  simp only[Nat.add_zero]at aw
  omega
theorem Ir {H:Type}: ∀(i:Nat){l:List (DataW H)}{x:DataW H},l[i]? =some x→od (l.drop i)=jE x+od (l.drop (i+1))
 |0,y::l,x,h=>by simp at h; subst h; simp [od]
 |i+1,y::l,x,h=>by simpa using Ir i (l:=l) (by simpa using h)
 |0,[],_,h=>by simp at h
 |i+1,[],_,h=>by simp at h
theorem SG {H:Type}{P:Program}{e:TypeId}: ∀ {l:List (DataW H)}{i:Nat}{d:DataW H},l[i]? =some d→∀n∈DataW.weights P e d,n∈DataW.weightsAll P e l
 |x::l,0,d,h,n,a6=>by simp at h; subst h; simp only[DataW.weightsAll]; exact List.mem_append_left _ a6
 |x::l,i+1,d,h,n,a6=>by simp only[DataW.weightsAll]; exact List.mem_append_right _ (SG (l:=l) (i:=i) (by simpa using h) n a6)
 |[],_,_,h,_,_=>by simp at h
section
variable {H:Type}{enc:TypeId×Value→H}{P:Program}{E:List TypeId}{R:Nat}{w:World}{base:Nat}{spare:Nat→Bool}{held:Bool}
abbrev om (P:Program) (E:List TypeId) (R:Nat) (w:World) (n:Nat) (cu:List iq) (cs:List Value) (B:Nat):Prop:=∃lf,(jW P R (ov P E R n) cu lf∧iI lf≤B)∧cs.length=cu.length∧(∀v∈cs,v.oneCell'=true)∧∀m:Mem,m.w=w→m.H=aA.none→aS m lf cs
theorem om.mono {n:Nat}{cu:List iq}{cs:List Value}{B qb:Nat}(h:om P E R w n cu cs B) (dX:B≤qb):om P E R w (n+1) cu cs qb:=by
 obtain⟨lf,⟨J,aw⟩,aa⟩:=h
 exact⟨lf,⟨CS (fun e r=>G6) J,Nat.le_trans aw dX⟩,aa⟩
theorem om.dM {n:Nat}{a b:List iq}{u v:List Value}{B qb:Nat}(h:om P E R w n a u B) (k:om P E R w n b v qb):om P E R w n (a++b) (u++v) (B+qb):=by
 obtain⟨x,⟨J,aw⟩,aa,au,bn⟩:=h
 obtain⟨y,⟨bC,s4⟩,bA,cO,fC⟩:=k
 refine⟨x++y,⟨G2 J bC,by rw[Df]; omega⟩,by simp [aa,bA],fun z aB=> ?_,fun m hw eD=>RN (bn m hw eD) (fC m hw eD)⟩
 rcases List.mem_append.1 aB with aB|aB
 ·exact au z aB
 ·exact cO z aB
theorem om.nil {n B:Nat}:om P E R w n [] [] B:=⟨[],⟨rfl,Nat.zero_le _⟩,rfl,fun v af=>by simp at af,fun m _ _=>by simp [aS]⟩
theorem aD5 {t e:TypeId}{cu:List iq}{jY:Nat}{cs:List Value}{x:DataW H×List MemPlace}(aO:P.underlying t=some (.slice e)) (ah:P.cellsOf e=cu.length) (aw:0<cu.length)
  (aC:lK P E 8 e=some cu) (aB: ∀n∈DataW.weights P t x.1,n≤R) (cv: ∀(n:Nat),jY=n+1→∀(cs:List Value) (x:DataW H×List MemPlace),DataW.trod enc P w base spare held n e cs=some x→(∀n∈DataW.weights P e x.1,n≤R)→om P E R w n cu cs (jE x.1))
  (h:DataW.trod enc P w base spare held jY t cs=some x):om P E R w jY [.io e] cs (jE x.1):=by
 rcases DataW.trod_slice aO h with ⟨J,ab⟩|⟨a,len,cap,qR,rest,n,aW,jc,ab,hb,aH,hm,eU,ai,_⟩
 ·subst J
  refine⟨[.ay (P.cellsOf e) []],⟨⟨_,_,rfl,⟨[],rfl,by simp,fun r ag=>by simp at ag⟩,rfl⟩,by rw[ab]; simp [iI,I.oJ,pd,jE]⟩,rfl,fun v af=>by simp at af; subst af; rfl,fun m _ _=> ?_⟩
  simp only[aS,aR]
  exact⟨_,_,rfl,⟨none,0,0,rfl,rfl,⟨Nat.le_refl _,Nat.zero_le _⟩,.inl rfl⟩,rfl⟩
 ·subst jc
  have key: ∀i,∃r cs,i<len→(jW P R (ov P E R n) cu r∧∀y,qR[i]? =some y→iI r≤jE y.1)∧(∀m:Mem,m.w=w→m.H=aA.none→aS m r cs)∧(∀v∈cs,v.oneCell'=true)∧cs.length=cu.length∧∀j,j<cu.length→w.cell? ((a.add (i*cu.length)).add j)=cs[j]? :=by
   intro i
   by_cases Mt:i<len
   ·have aw:=ai i Mt
    rw[List.getElem?_eq_getElem (by omega:i<qR.length)]at aw
    obtain⟨c3,J,aa⟩:=Option.bind_eq_some_iff.1 aw
    rw[ah]at J
    obtain⟨_,au,bn⟩:=World.cells?_some J
    obtain⟨lf,⟨g1,g0⟩,g2,g3,g4⟩:=cv n aW _ _ aa (fun k aC=>aB k (by
     rw[ab]
     simp only[DataW.weights,aO]
     exact List.mem_cons_of_mem _ (List.mem_append_left _ (SG (i:=i) (by rw[List.getElem?_map,List.getElem?_eq_getElem (by omega:i<qR.length)]; rfl) k aC))))
    exact⟨lf,c3,fun _=>⟨⟨g1,fun y aZ=>by rw[List.getElem?_eq_getElem (by omega:i<qR.length)]at aZ; cases aZ; exact g0⟩,g4,g3,au,bn⟩⟩
   ·exact⟨[],[],fun h=>absurd h Mt⟩
  obtain⟨R,an⟩:=Classical.skolem.1 key
  subst aW
  rw[show ([.io e]:List iq)=[.io e] from rfl]
  refine⟨[.ay cu.length ((List.range' 0 len).map R)],⟨⟨_,_,rfl,⟨_,by rw[ah],?_,fun r ag=> ?_⟩,rfl⟩,?_⟩,rfl,fun v af=>by simp at af; subst af; rfl,fun m hw eD=> ?_⟩
  ·have hm:=aB ((qR.length+rest.length)*P.bytesOf e) (by rw[ab]; simp [DataW.weights,aO])
   rw[List.length_map,List.length_range',←eU]
   exact Nat.le_trans (Nat.mul_le_mul_right _ (Nat.le_add_right _ _)) hm
  ·obtain⟨i,J,rfl⟩:=List.mem_map.1 ag
   obtain⟨cs,aa⟩:=an i
   exact⟨cu,aC,(aa (by have:=List.mem_range'_1.1 J; omega)).1.1⟩
  ·have hb:=Hx qR R 0 fun i y aZ=>by
    obtain⟨cs,aa⟩:=an i
    have cK:i<qR.length:=(List.getElem?_eq_some_iff.1 aZ).1
    rw[Nat.zero_add]
    exact (aa (by omega)).1.2 y aZ
   rw[eU]at hb
   rw[ab]
   simp only[iI,I.oJ,jE]
   omega
  ·simp only[aS,aR]
   refine⟨_,_,rfl,⟨_,_,_,rfl,by simp,⟨aH,hm⟩,?_⟩,rfl⟩
   by_cases aB:len=0
   ·left; simp [aB]
   ·right
    have ac0: ∃b o,a=⟨b,o,none⟩:=by
     obtain⟨cs,aa⟩:=an 0
     obtain⟨_,_,_,au,bn⟩:=aa (by omega)
     have bL:=bn 0 aw
     rw[List.getElem?_eq_getElem (by omega)]at bL
     simp only[Nat.zero_mul,Addr.add,if_true]at bL
     obtain⟨aN1,aO1,az⟩:=a
     cases az with
     |none=>exact⟨_,_,rfl⟩
     |some _=>
      exfalso
      unfold World.cell? at bL
      split at bL
      ·simp at bL
      ·cases bL
    obtain⟨b,o,rfl⟩:=ac0
    refine⟨b,o,rfl,?_⟩
    have:=RS (m:=m) (size:=cu.length) (b:=b) (o:=o) (R:=R) len 0 fun j _ bq=> ?_
    ·simpa using this
    ·obtain⟨cs,aa⟩:=an j
     obtain⟨⟨g1,_⟩,g2,g5,g3,g4⟩:=aa (by omega)
     refine⟨G3 g1,RJ eD (g2 m hw eD) g5 fun i v af=> ?_⟩
     have gB:i<cu.length:=by rw[←g3]; exact (List.getElem?_eq_some_iff.1 af).1
     have cq:=g4 i gB
     rw[af]at cq
     rw[hw,←cq]
     congr 1
     unfold Addr.add
     by_cases ar:j*cu.length=0
     ·by_cases ax:i=0
      ·simp [ar,ax]
      ·simp [ar,ax]
     ·by_cases ax:i=0
      ·simp [ar,ax]
      ·simp [ar,ax]
theorem FZ (dc:FU P E=true): ∀(jY d:Nat) (t:TypeId) (cu:List iq) (cs:List Value) (x:DataW H×List MemPlace),lK P E d t=some cu→DataW.trod enc P w base spare held jY t cs=some x→(∀n∈DataW.weights P t x.1,n≤R)→om P E R w jY cu cs (jE x.1)
 |jY,0,_,_,_,_,h,_,_=>by simp [lK]at h
 |jY,d+1,t,cu,cs,x,h,aO,aB=>by
  simp only[lK]at h
  split at h
  ·rename_i k hu
   simp at h
   subst h
   obtain⟨n,rfl,ab,hw⟩:=DataW.trod_int hu aO
   exact⟨[.int k n],⟨⟨_,_,rfl,⟨n,rfl,hw⟩,rfl⟩,by rw[ab]; simp [iI,I.oJ,jE]⟩,rfl,fun v af=>by simp at af; subst af; rfl,fun m _ _=>by simp only[aS,aR]; exact⟨_,_,rfl,rfl,rfl⟩⟩
  ·rename_i hu
   simp at h
   subst h
   obtain⟨s,rfl,ab,aH⟩:=DataW.trod_string hu aO
   exact⟨[.str s.data.toList],⟨⟨_,_,rfl,⟨_,rfl,aB _ (by rw[ab]; simp [DataW.weights])⟩,rfl⟩,by rw[ab]; simp [iI,I.oJ,jE]⟩,rfl,fun v af=>by simp at af; subst af; rfl,fun m _ _=>by simp only[aS]; exact⟨_,_,rfl,aD7 aH,rfl⟩⟩
  ·rename_i hu
   simp at h
   subst h
   obtain⟨b,rfl,ab⟩:=DataW.trod_bool hu aO
   exact⟨[.bool b],⟨⟨_,_,rfl,⟨_,rfl⟩,rfl⟩,by rw[ab]; simp [iI,I.oJ,jE]⟩,rfl,fun v af=>by simp at af; subst af; rfl,fun m _ _=>by simp only[aS,aR]; exact⟨_,_,rfl,rfl,rfl⟩⟩
  ·rename_i e hu
   split at h
   ·rename_i he
    simp at h
    subst h
    have j7:=List.all_eq_true.1 dc e (by simpa using he)
    split at j7
    ·rename_i cu aC
     simp only[Bool.and_eq_true,decide_eq_true_eq]at j7
     exact aD5 hu j7.1 j7.2 aC aB (fun n aW cs x aa mv=>by subst aW; exact FZ dc n 8 e cu cs x aC aa mv) aO
    ·cases j7
   ·cases h
  ·rename_i fg hu
   obtain⟨xs,n,Zv,ab,hlen,aR1,aW⟩:=DataW.trod_struct hu aO
   subst Zv
   split at h
   ·rename_i vE aC
    split at h
    ·rename_i ah
     simp at h
     subst h
     have key: ∀(l:List Field) (off i:Nat) (cu:List iq),zh P (lK P E d) off l=some cu→(∀j,l[j]? =fg.toList[i+j]?)→om P E R w (n+1) cu ((cs.drop off).take cu.length) (od ((xs.map (·.1)).drop i)):=by
      intro l
      induction l with
      |nil=>
       intro off i cu h _
       simp [zh]at h
       subst h
       exact om.nil
      |cons f l cv=>
       intro off i cu h bq
       simp only[zh]at h
       split at h
       ·rename_i bC J
        split at h
        ·rename_i aa
         obtain⟨aa,au⟩:=aa
         simp only[Option.map_eq_some_iff]at h
         obtain⟨bA,bn,rfl⟩:=h
         have b:=cv (off+bC.length) (i+1) bA bn (fun j=>by have:=bq (j+1); simpa [Nat.add_assoc,Nat.add_comm 1 j] using this)
         have EC:fg[i]? =some f:=by have:=bq 0; simpa using this.symm
         have ai:i<fg.size:=(Array.getElem?_eq_some_iff.1 EC).1
         have ar:=aW i f EC
         rw[List.getElem?_eq_getElem (by omega:i<xs.length),aa,au]at ar
         have Mg: ∀k∈DataW.weights P f.type (xs[i]'(by omega)).1,k≤R:=fun k aC=>aB k (by
          rw[ab]
          simp only[DataW.weights,hu]
          exact DataW.weights_mem_each (j:=i) (t:=f.type) (by rw[List.getElem?_map,Array.getElem?_toList,EC]; rfl) (by rw[List.getElem?_map,List.getElem?_eq_getElem (by omega:i<xs.length)]; rfl) k aC)
         have a:=(FZ dc n d _ _ _ _ J ar Mg).mono (Nat.le_refl _)
         have kG:od ((xs.map (·.1)).drop i)=jE (xs[i]'(by omega)).1+od ((xs.map (·.1)).drop (i+1)):=Ir i (by rw[List.getElem?_map,List.getElem?_eq_getElem (by omega:i<xs.length)]; rfl)
         have es:(cs.drop off).take (bC++bA).length=(cs.drop off).take bC.length++(cs.drop (off+bC.length)).take bA.length:=by
          rw[List.length_append,List.take_add,List.drop_drop]
         rw[es,kG]
         exact a.dM b
        ·cases h
       ·cases h
     have:=key fg.toList 0 0 vE aC (fun j=>by simp)
     have e:(cs.drop 0).take vE.length=cs:=by rw[List.drop_zero]; exact List.take_of_length_le (by omega)
     rw[e]at this
     obtain⟨lf,⟨cI,c8⟩,ep⟩:=this
     exact⟨lf,⟨cI,by rw[ab]; simp only[jE,List.drop_zero]at c8 ⊢; omega⟩,ep⟩
    ·cases h
   ·cases h
  ·cases h
termination_by jY d=>(jY,d)
theorem aD6 (dc:FU P E=true){d:Nat}{t:TypeId}{fg:Array Field}{cu:List iq}{v:Value}{x:DataW H}{p:List MemPlace}{r:Reach}{hi:Nat}(aO:P.underlying t=some (.struct fg)) (aC:lK P E d t=some cu) (aB: ∀n∈DataW.weights P t x,n≤R) (af:Value.okWide P w r hi t v) (h:DataW.Trod enc P w base spare held t v x p):
  ∃n lf,(jW P R (ov P E R n) cu lf∧iI lf≤jE x)∧∀m:Mem,m.w=w→m.H=aA.none→aR m (.agg lf) v:=by
 obtain⟨cs,rfl,dm⟩:=okWide_struct aO af
 obtain⟨l⟩:=cs
 obtain⟨jY,aW⟩:=h
 obtain⟨lf,J,aa,au,bn⟩:=FZ dc _ _ _ _ _ _ aC aW aB
 refine⟨_,lf,J,fun m hw eD=> ?_⟩
 simp only[aR]
 exact⟨l,rfl,bn m hw eD⟩
end
end Go.bc
