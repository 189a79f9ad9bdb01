/- Part of a proof; own work. -/
import Derived.Below
import Derived.Deep.Slices
import Derived.Deep.Fields
import Derived.ChangeSame
import Derived.WideShapes
import Derived.OpenShut
import Derived.SizedLaws
import Derived.Test.YtjkbgcgljnldeaaGreatDoorUS4
set_option linter.unusedVariables false
set_option linter.unusedSimpArgs false
namespace Go.bc
open Go Go.ChangeShapes Go.WideShapes Go.Deep Go.RowKit
theorem V2 {P:Program}{f:FuncId}{args:List I}{r:I}(h:Pure P f args r) (w:World) (ay:List Value) (aY:nv w) (aP: ∀m:Mem,m.w=w→m.H=aA.none→aS m args ay):
  Calls P f ⟨ay⟩ w fun e w'=>(∃v,e= .returned v∧∃m:Mem,aR m r v)∧Below w.heap.size w w':=by
 have:=h aA.none ⟨w,aA.none,fun _=> .nilFunc,0⟩ ay rfl ⟨fun b T cs hb=>by simp [aA.none]at hb,fun t i ai=>by simp [aA.none]at ai,aY,fun p hp=>⟨rfl,fun t i ai=>by simp [aA.none]at ai⟩⟩ (aP _ rfl rfl)
 refine this.mono fun e w' ⟨o,aF,gb,cQ,g1,g2,g3,g4,g5⟩=> ?_
 subst g4
 simp only[rl]at g3
 obtain⟨v,ar,ax⟩:=g3
 exact⟨⟨v,ar,_,ax⟩,⟨g2.os,g2.tape,g2.output,g2.size,fun b hb=>(g2.block b hb rfl (fun t i ai=>by simp [aA.none]at ai)).1⟩⟩
def cu:List lQ→List I→Prop
 |[],l=>l=[]
 | .b::ks,l=>False
 | .i k::ks,l=> ∃n b8,l= .int k n::b8∧(Lit.int k n).wf=true∧cu ks b8
 | .s::ks,l=> ∃s b8,l= .str s::b8∧cu ks b8
theorem uD: ∀ {a b:List lQ}{x y:List I},cu a x→cu b y→cu (a++b) (x++y)
 |[],_,_,_,h,k=>by simp only[cu]at h; subst h; exact k
 | .b:: _,_,_,_,h,_=>by simp only[cu]at h
 | .i _::az,_,_,_,h,k=>by
  simp only[cu]at h
  obtain⟨n,l,rfl,hw,h⟩:=h
  exact⟨n,_,rfl,hw,uD h k⟩
 | .s::az,_,_,_,h,k=>by
  simp only[cu]at h
  obtain⟨n,l,rfl,h⟩:=h
  exact⟨n,_,rfl,uD h k⟩
theorem vf: ∀ {a:List lQ}{x:List I},cu a x→x.length=a.length
 |[],_,h=>by simp only[cu]at h; subst h; rfl
 | .b:: _,_,h=>by simp only[cu]at h
 | .i _::az,_,h=>by
  simp only[cu]at h
  obtain⟨n,l,rfl,hw,h⟩:=h
  simp [vf h]
 | .s::az,_,h=>by
  simp only[cu]at h
  obtain⟨n,l,rfl,h⟩:=h
  simp [vf h]
theorem FZ {m:Mem}: ∀ {x y:List I}{u v:List Value},aS m x u→aS m y v→aS m (x++y) (u++v)
 |[],_,_,_,h,k=>by simp only[aS]at h; subst h; exact k
 |a::az,_,_,_,h,k=>by
  simp only[aS]at h
  obtain⟨v,ay,rfl,J,aa⟩:=h
  simp only[List.cons_append,aS]
  exact⟨v,_,rfl,J,FZ aa k⟩
def so (P:Program) (g:TypeId→Option (List lQ)):Nat→List Field→Option (List lQ)
 | _,[]=>some []
 |off,f::fg=>match g f.type with
  |some ks=>if f.offset=off∧P.cellsOf f.type=ks.length then (so P g (off+ks.length) fg).map (ks++ ·) else none
  |none=>none
def rb (P:Program):Nat→TypeId→Option (List lQ)
 |0,_=>none
 |d+1,t=>match P.underlying t with
  |some (.int k)=>some [.i k]
  |some .string=>some [.s]
  |some (.struct fg)=>match so P (rb P d) 0 fg.toList with
   |some ks=>if P.cellsOf t=ks.length then some ks else none
   |none=>none
  | _=>none
section
variable {H:Type}{enc:TypeId×Value→H}{P:Program}{w:World}{base:Nat}{spare:Nat→Bool}{held:Bool}
theorem aE1 {m:Mem}{s:ByteArray}(h:s.size≤maxLen):aR m (.str s.data.toList) (.string s):=by
 simp only[aR]
 exact⟨trivial,by simpa using h⟩
theorem w2: ∀ {d:Nat}{t:TypeId}{ks:List lQ}{jY:Nat}{cs:List Value}{x:DataW H×List MemPlace},rb P d t=some ks→DataW.trod enc P w base spare held jY t cs=some x→∃kf,cu ks kf∧cs.length=ks.length∧∀m:Mem,aS m kf cs
 |0,_,_,_,_,_,h,_=>by simp [rb]at h
 |d+1,t,ks,jY,cs,x,h,aO=>by
  simp only[rb]at h
  split at h
  ·rename_i k hu
   simp at h
   subst h
   obtain⟨n,rfl,_,hw⟩:=DataW.trod_int hu aO
   exact⟨[.int k n],⟨n,[],rfl,hw,rfl⟩,rfl,fun m=>by simp only[aS,aR]; exact⟨_,_,rfl,rfl,rfl⟩⟩
  ·rename_i hu
   simp at h
   subst h
   obtain⟨s,rfl,_,aH⟩:=DataW.trod_string hu aO
   exact⟨[.str s.data.toList],⟨_,[],rfl,rfl⟩,rfl,fun m=>by simp only[aS]; exact⟨_,_,rfl,aE1 aH,rfl⟩⟩
  ·rename_i fg hu
   obtain⟨xs,n,_,_,hlen,aR3,aW⟩:=DataW.trod_struct hu aO
   split at h
   ·rename_i vE aC
    split at h
    ·rename_i ah
     simp at h
     subst h
     have key: ∀(l:List Field) (off i:Nat) (ks:List lQ),so P (rb P d) off l=some ks→(∀j,l[j]? =fg.toList[i+j]?)→∃kf,cu ks kf∧((cs.drop off).take ks.length).length=ks.length∧∀m:Mem,aS m kf ((cs.drop off).take ks.length):=by
      intro l
      induction l with
      |nil=>
       intro off i ks h _
       simp [so]at h
       subst h
       exact⟨[],rfl,by simp,fun m=>by simp [aS]⟩
      |cons f l cv=>
       intro off i ks h bq
       simp only[so]at h
       split at h
       ·rename_i bC J
        split at h
        ·rename_i aa
         obtain⟨aa,au⟩:=aa
         simp only[Option.map_eq_some_iff]at h
         obtain⟨bA,bn,rfl⟩:=h
         obtain⟨a2,dU,CQ,c2⟩:=cv (off+bC.length) (i+1) bA bn (fun j=>by have:=bq (j+1); simpa [Nat.add_assoc,Nat.add_comm 1 j] using this)
         have Ed:fg[i]? =some f:=by have:=bq 0; simpa using this.symm
         have ai:i<fg.size:=(Array.getElem?_eq_some_iff.1 Ed).1
         have ar:=aW i f Ed
         rw[List.getElem?_eq_getElem (by omega:i<xs.length),aa,au]at ar
         obtain⟨fN,eB,CO,c1⟩:=w2 J ar
         have es:(cs.drop off).take (bC++bA).length=(cs.drop off).take bC.length++(cs.drop (off+bC.length)).take bA.length:=by
          rw[List.length_append,List.take_add,List.drop_drop]
         refine⟨fN++a2,uD eB dU,?_,fun m=> ?_⟩
         ·rw[es,List.length_append,CO,CQ,List.length_append]
         ·rw[es]; exact FZ (c1 m) (c2 m)
        ·cases h
       ·cases h
     obtain⟨kf,fN,a2,a3⟩:=key fg.toList 0 0 vE aC (fun j=>by simp)
     have e:(cs.drop 0).take vE.length=cs:=by rw[List.drop_zero]; exact List.take_of_length_le (by omega)
     rw[e]at a2 a3
     exact⟨kf,fN,a2,a3⟩
    ·cases h
   ·cases h
  ·cases h
theorem aH7 {m:Mem}{b o:Nat}{v:Value}(eD:m.H=aA.none) (ah:m.w.cell? ⟨b,o,none⟩=some v):lR m b o where
 lt:=World.block_lt_of_cell? m.w _ (by rw[ah])
 aU:=by rw[eD]; rfl
 tok:=fun t i ai=>by rw[eD]at ai; simp [aA.none]at ai
theorem wj {m:Mem}(eD:m.H=aA.none): ∀ {ks:List lQ}{kf:List I}{cs:List Value}{b o:Nat},cu ks kf→aS m kf cs→(∀j v,cs[j]? =some v→m.w.cell? ⟨b,o+j,none⟩=some v)→ff m kf b o
 |[],_,_,_,_,h,_,_=>by simp only[cu]at h; subst h; simp only[ff]
 | .b:: _,_,_,_,_,h,_,_=>by simp only[cu]at h
 | .i k::ks,kf,cs,b,o,h,af,ah=>by
  simp only[cu]at h
  obtain⟨n,l,rfl,hw,h⟩:=h
  simp only[aS]at af
  obtain⟨v,ay,rfl,J,aa⟩:=af
  simp only[ff]
  have aw:=ah 0 v rfl
  refine⟨⟨v,aw,?_,aH7 eD aw,J⟩,wj eD h aa fun j u hu=> ?_⟩
  ·simp only[aR]at J; subst J; rfl
  ·have:=ah (j+1) u (by simpa using hu)
   rw[show o+1+j=o+(j+1) by omega]
   exact this
 | .s::ks,kf,cs,b,o,h,af,ah=>by
  simp only[cu]at h
  obtain⟨n,l,rfl,h⟩:=h
  simp only[aS]at af
  obtain⟨v,ay,rfl,J,aa⟩:=af
  simp only[ff]
  have aw:=ah 0 v rfl
  refine⟨⟨v,aw,?_,aH7 eD aw,J⟩,wj eD h aa fun j u hu=> ?_⟩
  ·simp only[aR]at J; obtain⟨J,_⟩:=J; subst J; rfl
  ·have:=ah (j+1) u (by simpa using hu)
   rw[show o+1+j=o+(j+1) by omega]
   exact this
theorem RN {m:Mem}{size b o:Nat}{R:Nat→List I}: ∀(n i:Nat),(∀j,i≤j→j<i+n→(R j).length=size∧ff m (R j) b (o+j*size))→dE m size ((List.range' i n).map R) b (o+i*size)
 |0,_,_=>by simp [dE]
 |n+1,i,h=>by
  obtain⟨J,aa⟩:=h i (Nat.le_refl _) (by omega)
  simp only[List.range'_succ,List.map_cons,dE]
  refine⟨J,aa,?_⟩
  have:=RN n (i+1) fun j J aa=>h j (by omega) (by omega)
  rw[show o+i*size+size=o+(i+1)*size by rw[Nat.add_mul]; omega]
  exact this
theorem HJ {t e:TypeId}{ks:List lQ}{jY:Nat}{v:Value}{x:DataW H×List MemPlace}(aO:P.underlying t=some (.slice e)) (aC:rb P 8 e=some ks) (ah:P.cellsOf e=ks.length) (aw:0<ks.length)
  (h:DataW.trod enc P w base spare held jY t [v]=some x): ∃rows,(∀r∈rows,cu ks r)∧∀m:Mem,m.w=w→m.H=aA.none→aR m (.ay ks.length rows) v:=by
 rcases open_slice aO h with ⟨J,_⟩|⟨a,len,cap,Fx,n,D,I9,jc,hb,aH,hm,Bp,_,ai⟩
 ·simp at J
  subst J
  refine⟨[],fun r ag=>by simp at ag,fun m _ _=> ?_⟩
  simp only[aR]
  exact⟨none,0,0,rfl,rfl,⟨Nat.le_refl _,Nat.zero_le _⟩,.inl rfl⟩
 ·simp at jc
  subst jc
  have Jc:len≤Fx:=by rw[Bp]; split<;>omega
  have key: ∀i,∃r cs,i<len→cu ks r∧(∀m:Mem,aS m r cs)∧cs.length=ks.length∧∀j,j<ks.length→w.cell? ((a.add (i*ks.length)).add j)=cs[j]? :=by
   intro i
   by_cases LJ:i<len
   ·obtain⟨c3,J,aa⟩:=ai i (by omega)
    rw[ah]at J
    obtain⟨_,au,bn⟩:=World.cells?_some J
    obtain⟨kf,g1,g2,g3⟩:=w2 aC aa
    exact⟨kf,c3,fun _=>⟨g1,g3,au,bn⟩⟩
   ·exact⟨[],[],fun h=>absurd h LJ⟩
  obtain⟨R,an⟩:=Classical.skolem.1 key
  refine⟨(List.range' 0 len).map R,fun r ag=> ?_,fun m hw eD=> ?_⟩
  ·obtain⟨i,J,rfl⟩:=List.mem_map.1 ag
   obtain⟨cs,aa⟩:=an i
   exact (aa (by have:=List.mem_range'_1.1 J; omega)).1
  ·simp only[aR]
   refine⟨_,_,_,rfl,by simp,⟨aH,hm⟩,?_⟩
   by_cases aB:len=0
   ·left; simp [aB]
   ·right
    have ZU: ∃b o,a=⟨b,o,none⟩:=by
     obtain⟨cs,aa⟩:=an 0
     obtain⟨_,_,au,bn⟩:=aa (by omega)
     have bL:=bn 0 aw
     rw[List.getElem?_eq_getElem (by omega)]at bL
     simp only[Nat.zero_mul,Addr.add,if_true]at bL
     obtain⟨aO1,aO2,az⟩:=a
     cases az with
     |none=>exact⟨_,_,rfl⟩
     |some _=>
      exfalso
      unfold World.cell? at bL
      split at bL
      ·simp at bL
      ·cases bL
    obtain⟨b,o,rfl⟩:=ZU
    refine⟨b,o,rfl,?_⟩
    have:=RN (m:=m) (size:=ks.length) (b:=b) (o:=o) (R:=R) len 0 fun j _ bq=> ?_
    ·simpa using this
    ·obtain⟨cs,aa⟩:=an j
     obtain⟨g1,g2,g3,g4⟩:=aa (by omega)
     refine⟨vf g1,wj eD g1 (g2 m) fun i v af=> ?_⟩
     have gB:i<ks.length:=by rw[←g3]; exact (List.getElem?_eq_some_iff.1 af).1
     have cq:=g4 i gB
     rw[af]at cq
     rw[hw,←cq]
     congr 1
     unfold Addr.add
     by_cases ar:j*ks.length=0
     ·by_cases ax:i=0
      ·simp [ar,ax]
      ·simp [ar,ax]
     ·by_cases ax:i=0
      ·simp [ar,ax]
      ·simp [ar,ax]
inductive aO0 where
 |ey (k:lQ)
 |io (ks:List lQ)
 deriving DecidableEq
end
theorem l8 {α:Type}{f:α→List I}: ∀ {rows:List (List I)},(∀r∈rows,∃v,r=f v)→∃xs:List α,rows=xs.map f
 |[],_=>⟨[],rfl⟩
 |r::aL,h=>by
  obtain⟨v,af⟩:=h r (by simp)
  obtain⟨xs,ab⟩:=l8 (rows:=aL) fun r ag=>h r (by simp [ag])
  exact⟨v::xs,by rw[af,ab]; rfl⟩
end Go.bc
namespace Go.bc
open Go Go.ChangeShapes Go.WideShapes Go.Deep Go.RowKit
inductive tK where
 |ey (k:lQ)
 |io (ks:List tK)
mutual
def tK.ok:tK→I→Prop
 | .ey .b,a=> ∃x,a= .bool x
 | .ey (.i k),a=> ∃n,a= .int k n∧(Lit.int k n).wf=true
 | .ey .s,a=> ∃s,a= .str s
 | .io ks,a=> ∃rows,a= .ay ks.length rows∧∀r∈rows,sA ks r
def sA:List tK→List I→Prop
 |[],l=>l=[]
 |k::ks,l=> ∃a b8,l=a::b8∧tK.ok k a∧sA ks b8
end
theorem G6: ∀ {a b:List tK}{x y:List I},sA a x→sA b y→sA (a++b) (x++y)
 |[],_,_,_,h,k=>by simp only[sA]at h; subst h; exact k
 | _:: _,_,_,_,h,k=>by
  simp only[sA]at h
  obtain⟨a,l,rfl,J,h⟩:=h
  simp only[List.cons_append,sA]
  exact⟨a,_,rfl,J,G6 h k⟩
section
variable {H:Type}{enc:TypeId×Value→H}{P:Program}{w:World}{base:Nat}{spare:Nat→Bool}{held:Bool}
abbrev ww (w:World) (ks:List tK) (cs:List Value):Prop:=∃kf,sA ks kf∧cs.length=ks.length∧(∀v∈cs,v.oneCell'=true)∧∀m:Mem,m.w=w→m.H=aA.none→aS m kf cs
theorem ww.dM {a b:List tK}{u v:List Value}(h:ww w a u) (k:ww w b v):ww w (a++b) (u++v):=by
 obtain⟨x,J,aa,au,bn⟩:=h
 obtain⟨y,bC,bA,cO,fC⟩:=k
 refine⟨x++y,G6 J bC,by simp [aa,bA],fun z aB=> ?_,fun m hw eD=>FZ (bn m hw eD) (fC m hw eD)⟩
 rcases List.mem_append.1 aB with aB|aB
 ·exact au z aB
 ·exact cO z aB
theorem ww.nil:ww w [] []:=⟨[],rfl,rfl,fun v af=>by simp at af,fun m _ _=>by simp [aS]⟩
end
inductive iq where
 |ey (k:lQ)
 |io (e:TypeId)
def iq.ok (P:Program) (R:Nat) (g:TypeId→List I→Prop):iq→I→Prop
 | .ey .b,a=> ∃x,a= .bool x
 | .ey (.i k),a=> ∃n,a= .int k n∧(Lit.int k n).wf=true
 | .ey .s,a=> ∃s,a= .str s∧s.length≤R
 | .io e,a=> ∃rows,a= .ay (P.cellsOf e) rows∧rows.length*P.bytesOf e≤R∧∀r∈rows,g e r
def jW (P:Program) (R:Nat) (g:TypeId→List I→Prop):List iq→List I→Prop
 |[],l=>l=[]
 |k::ks,l=> ∃a b8,l=a::b8∧iq.ok P R g k a∧jW P R g ks b8
def zx (P:Program) (g:TypeId→Option (List iq)):Nat→List Field→Option (List iq)
 | _,[]=>some []
 |off,f::fg=>match g f.type with
  |some ks=>if f.offset=off∧P.cellsOf f.type=ks.length then (zx P g (off+ks.length) fg).map (ks++ ·) else none
  |none=>none
def lK (P:Program) (E:List TypeId):Nat→TypeId→Option (List iq)
 |0,_=>none
 |d+1,t=>match P.underlying t with
  |some (.int k)=>some [.ey (.i k)]
  |some .string=>some [.ey .s]
  |some .bool=>some [.ey .b]
  |some (.slice e)=>if E.contains e then some [.io e] else none
  |some (.struct fg)=>match zx P (lK P E d) 0 fg.toList with
   |some ks=>if P.cellsOf t=ks.length then some ks else none
   |none=>none
  | _=>none
def n1 (P:Program) (E:List TypeId) (R:Nat):Nat→TypeId→List I→Prop
 |0,_,_=>False
 |n+1,e,r=> ∃ks,lK P E 8 e=some ks∧jW P R (n1 P E R n) ks r
theorem iq.ak4 {P:Program}{R:Nat}{g g':TypeId→List I→Prop}(h: ∀e r,g e r→g' e r): ∀ {k:iq}{a:I},iq.ok P R g k a→iq.ok P R g' k a
 | .ey .b,_,k=>k
 | .ey (.i _),_,k=>k
 | .ey .s,_,k=>k
 | .io e,_,k=>by
  obtain⟨rows,J,aw,aa⟩:=k
  exact⟨rows,J,aw,fun r ag=>h e r (aa r ag)⟩
theorem CS {P:Program}{R:Nat}{g g':TypeId→List I→Prop}(h: ∀e r,g e r→g' e r): ∀ {ks:List iq}{l:List I},jW P R g ks l→jW P R g' ks l
 |[],_,k=>k
 | _:: _,_,k=>by
  simp only[jW]at k ⊢
  obtain⟨a,l,e,J,aa⟩:=k
  exact⟨a,l,e,iq.ak4 h J,CS h aa⟩
theorem G3 {P:Program}{E:List TypeId}{R:Nat}: ∀ {n:Nat}{e:TypeId}{r:List I},n1 P E R n e r→n1 P E R (n+1) e r
 |0,_,_,h=>h.elim
 |n+1,e,r,h=>by
  obtain⟨ks,J,aa⟩:=h
  exact⟨ks,J,CS (fun e r=>G3) aa⟩
theorem G1 {P:Program}{R:Nat}{g:TypeId→List I→Prop}: ∀ {a b:List iq}{x y:List I},jW P R g a x→jW P R g b y→jW P R g (a++b) (x++y)
 |[],_,_,_,h,k=>by simp only[jW]at h; subst h; exact k
 | _:: _,_,_,_,h,k=>by
  simp only[jW]at h
  obtain⟨a,l,rfl,J,h⟩:=h
  simp only[List.cons_append,jW]
  exact⟨a,_,rfl,J,G1 h k⟩
mutual
def I.oJ:I→Nat
 | .str s=>s.length+1
 | .ay _ rows=>n5 rows+1
 | _=>1
def iI:List I→Nat
 |[]=>0
 |a::l=>a.oJ+iI l
def n5:List (List I)→Nat
 |[]=>0
 |r::l=>iI r+n5 l
end
theorem C4: ∀(a b:List I),iI (a++b)=iI a+iI b
 |[],b=>by simp [iI]
 |x::a,b=>by simp only[List.cons_append,iI,C4 a b]; omega
section
variable {H:Type}{enc:TypeId×Value→H}{P:Program}{E:List TypeId}{R:Nat}{w:World}{base:Nat}{spare:Nat→Bool}{held:Bool}
abbrev Gc (P:Program) (E:List TypeId) (R:Nat) (w:World) (n:Nat) (ks:List iq) (cs:List Value) (B:Nat):Prop:=∃kf,(jW P R (n1 P E R n) ks kf∧iI kf≤B)∧cs.length=ks.length∧(∀v∈cs,v.oneCell'=true)∧∀m:Mem,m.w=w→m.H=aA.none→aS m kf cs
theorem Gc.mono {n:Nat}{ks:List iq}{cs:List Value}{B qb:Nat}(h:Gc P E R w n ks cs B) (dX:B≤qb):Gc P E R w (n+1) ks cs qb:=by
 obtain⟨kf,⟨J,aw⟩,aa⟩:=h
 exact⟨kf,⟨CS (fun e r=>G3) J,Nat.le_trans aw dX⟩,aa⟩
theorem Gc.dM {n:Nat}{a b:List iq}{u v:List Value}{B qb:Nat}(h:Gc P E R w n a u B) (k:Gc P E R w n b v qb):Gc P E R w n (a++b) (u++v) (B+qb):=by
 obtain⟨x,⟨J,aw⟩,aa,au,bn⟩:=h
 obtain⟨y,⟨bC,s4⟩,bA,cO,fC⟩:=k
 refine⟨x++y,⟨G1 J bC,by rw[C4]; omega⟩,by simp [aa,bA],fun z aB=> ?_,fun m hw eD=>FZ (bn m hw eD) (fC m hw eD)⟩
 rcases List.mem_append.1 aB with aB|aB
 ·exact au z aB
 ·exact cO z aB
theorem Gc.nil {n B:Nat}:Gc P E R w n [] [] B:=⟨[],⟨rfl,Nat.zero_le _⟩,rfl,fun v af=>by simp at af,fun m _ _=>by simp [aS]⟩
end
end Go.bc
