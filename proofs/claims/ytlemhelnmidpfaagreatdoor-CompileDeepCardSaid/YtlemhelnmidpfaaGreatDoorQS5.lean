/- Part of a proof; own work. -/
import Derived.Below
import Derived.Deep.Slices
import Derived.Deep.Fields
import Derived.ChangeSame
import Derived.WideShapes
import Derived.OpenShut
import Derived.SizedLaws
import Derived.Test.YtlemhelnmidpfaaGreatDoorQS4
set_option linter.unusedVariables false
set_option linter.unusedSimpArgs false
namespace Go.aO
open Go Go.ChangeShapes Go.WideShapes Go.Deep Go.RowKit
theorem AO {P:Program}{f:FuncId}{args:List I}{r:I}(h:Pure P f args r) (w:World) (af:List Value) (a7:lR w) (aL: ∀m:Mem,m.w=w→m.H=aA.none→aR m args af):
  Calls P f ⟨af⟩ w fun e w'=>(∃v,e= .returned v∧∃m:Mem,aP m r v)∧Below w.heap.size w w':=by
 have:=h aA.none ⟨w,aA.none,fun _=> .nilFunc,0⟩ af rfl ⟨fun b T cs hb=>by simp [aA.none]at hb,fun t i ad=>by simp [aA.none]at ad,a7,fun p hp=>⟨rfl,fun t i ad=>by simp [aA.none]at ad⟩⟩ (aL _ rfl rfl)
 refine this.mono fun e w' ⟨o,aB,hr,cO,g1,g2,g3,g4,g5⟩=> ?_
 subst g4
 simp only[ti]at g3
 obtain⟨v,ar,ax⟩:=g3
 exact⟨⟨v,ar,_,ax⟩,⟨g2.os,g2.tape,g2.output,g2.size,fun b hb=>(g2.block b hb rfl (fun t i ad=>by simp [aA.none]at ad)).1⟩⟩
theorem UR {m:Mem}: ∀ {x y:List I}{u v:List Value},aR m x u→aR m y v→aR m (x++y) (u++v)
 |[],_,_,_,h,k=>by simp only[aR]at h; subst h; exact k
 |a::az,_,_,_,h,k=>by
  simp only[aR]at h
  obtain⟨v,af,rfl,U,aa⟩:=h
  simp only[List.cons_append,aR]
  exact⟨v,_,rfl,U,UR aa k⟩
section
variable {H:Type}{enc:TypeId×Value→H}{P:Program}{w:World}{base:Nat}{spare:Nat→Bool}{held:Bool}
theorem aT6 {m:Mem}{s:ByteArray}(h:s.size≤maxLen):aP m (.str s.data.toList) (.string s):=by
 simp only[aP]
 exact⟨trivial,by simpa using h⟩
theorem aX5 {m:Mem}{b o:Nat}{v:Value}(eO:m.H=aA.none) (aq:m.w.cell? ⟨b,o,none⟩=some v):nR m b o where
 lt:=World.block_lt_of_cell? m.w _ (by rw[aq])
 aZ:=by rw[eO]; rfl
 tok:=fun t i ad=>by rw[eO]at ad; simp [aA.none]at ad
theorem UU {m:Mem}{size b o:Nat}{R:Nat→List I}: ∀(n i:Nat),(∀j,i≤j→j<i+n→(R j).length=size∧fr m (R j) b (o+j*size))→ef m size ((List.range' i n).map R) b (o+i*size)
 |0,_,_=>by simp [ef]
 |n+1,i,h=>by
  obtain⟨U,aa⟩:=h i (Nat.le_refl _) (by omega)
  simp only[List.range'_succ,List.map_cons,ef]
  refine⟨U,aa,?_⟩
  have:=UU n (i+1) fun j U aa=>h j (by omega) (by omega)
  rw[show o+i*size+size=o+(i+1)*size by rw[Nat.add_mul]; omega]
  exact this
inductive bg9 where
 |dD (k:nP)
 |hJ (aT:List nP)
 deriving DecidableEq
end
theorem nG {α:Type}{f:α→List I}: ∀ {rows:List (List I)},(∀r∈rows,∃v,r=f v)→∃xs:List α,rows=xs.map f
 |[],_=>⟨[],rfl⟩
 |r::aS,h=>by
  obtain⟨v,ae⟩:=h r (by simp)
  obtain⟨xs,ab⟩:=nG (rows:=aS) fun r ac=>h r (by simp [ac])
  exact⟨v::xs,by rw[ae,ab]; rfl⟩
end Go.aO
namespace Go.aO
open Go Go.ChangeShapes Go.WideShapes Go.Deep Go.RowKit
inductive We where
 |dD (k:nP)
 |hJ (aT:List We)
theorem UQ {m:Mem}(eO:m.H=aA.none): ∀ {lp:List I}{cs:List Value}{b o:Nat},aR m lp cs→(∀v∈cs,v.oneCell'=true)→(∀j v,cs[j]? =some v→m.w.cell? ⟨b,o+j,none⟩=some v)→fr m lp b o
 |[],_,_,_,h,_,_=>by simp only[fr]
 | _:: _,cs,b,o,ae,U,aq=>by
  simp only[aR]at ae
  obtain⟨v,af,rfl,aa,ay⟩:=ae
  simp only[fr]
  have aU:=aq 0 v rfl
  refine⟨⟨v,aU,U v (by simp),aX5 eO aU,aa⟩,UQ eO ay (fun u hu=>U u (by simp [hu])) fun j u hu=> ?_⟩
  have:=aq (j+1) u (by simpa using hu)
  rw[show o+1+j=o+(j+1) by omega]
  exact this
section
variable {H:Type}{enc:TypeId×Value→H}{P:Program}{w:World}{base:Nat}{spare:Nat→Bool}{held:Bool}
end
inductive gM where
 |dD (k:nP)
 |hJ (e:TypeId)
def gM.ok (P:Program) (R:Nat) (g:TypeId→List I→Prop):gM→I→Prop
 | .dD .b,a=> ∃x,a= .bool x
 | .dD (.i k),a=> ∃n,a= .int k n∧(Lit.int k n).wf=true
 | .dD .s,a=> ∃s,a= .str s∧s.length≤R
 | .hJ e,a=> ∃rows,a= .af (P.cellsOf e) rows∧rows.length*P.bytesOf e≤R∧∀r∈rows,g e r
def h7 (P:Program) (R:Nat) (g:TypeId→List I→Prop):List gM→List I→Prop
 |[],l=>l=[]
 |k::aT,l=> ∃a cc,l=a::cc∧gM.ok P R g k a∧h7 P R g aT cc
def Cy (P:Program) (g:TypeId→Option (List gM)):Nat→List Field→Option (List gM)
 | _,[]=>some []
 |off,f::b2=>match g f.type with
  |some aT=>if f.offset=off∧P.cellsOf f.type=aT.length then (Cy P g (off+aT.length) b2).map (aT++ ·) else none
  |none=>none
def iV (P:Program) (E:List TypeId):Nat→TypeId→Option (List gM)
 |0,_=>none
 |d+1,t=>match P.underlying t with
  |some (.int k)=>some [.dD (.i k)]
  |some .string=>some [.dD .s]
  |some .bool=>some [.dD .b]
  |some (.slice e)=>if E.contains e then some [.hJ e] else none
  |some (.array n e)=>match iV P E d e with
   |some aT=>if P.cellsOf e=aT.length∧P.cellsOf t=n*aT.length then some (List.replicate n aT).flatten else none
   |none=>none
  |some (.struct b2)=>match Cy P (iV P E d) 0 b2.toList with
   |some aT=>if P.cellsOf t=aT.length then some aT else none
   |none=>none
  | _=>none
def Cx (P:Program) (E:List TypeId):Bool:=E.all fun e=>match iV P E 8 e with
 |some aT=>decide (P.cellsOf e=aT.length)&&decide (0<aT.length)
 |none=>false
def kq (P:Program) (E:List TypeId) (R:Nat):Nat→TypeId→List I→Prop
 |0,_,_=>False
 |n+1,e,r=> ∃aT,iV P E 8 e=some aT∧h7 P R (kq P E R n) aT r
theorem gM.aF1 {P:Program}{R:Nat}{g g':TypeId→List I→Prop}(h: ∀e r,g e r→g' e r): ∀ {k:gM}{a:I},gM.ok P R g k a→gM.ok P R g' k a
 | .dD .b,_,k=>k
 | .dD (.i _),_,k=>k
 | .dD .s,_,k=>k
 | .hJ e,_,k=>by
  obtain⟨rows,U,aU,aa⟩:=k
  exact⟨rows,U,aU,fun r ac=>h e r (aa r ac)⟩
theorem Fz {P:Program}{R:Nat}{g g':TypeId→List I→Prop}(h: ∀e r,g e r→g' e r): ∀ {aT:List gM}{l:List I},h7 P R g aT l→h7 P R g' aT l
 |[],_,k=>k
 | _:: _,_,k=>by
  simp only[h7]at k ⊢
  obtain⟨a,l,e,U,aa⟩:=k
  exact⟨a,l,e,gM.aF1 h U,Fz h aa⟩
theorem KE {P:Program}{E:List TypeId}{R:Nat}: ∀ {n:Nat}{e:TypeId}{r:List I},kq P E R n e r→kq P E R (n+1) e r
 |0,_,_,h=>h.elim
 |n+1,e,r,h=>by
  obtain⟨aT,U,aa⟩:=h
  exact⟨aT,U,Fz (fun e r=>KE) aa⟩
theorem KC {P:Program}{R:Nat}{g:TypeId→List I→Prop}: ∀ {a b:List gM}{x y:List I},h7 P R g a x→h7 P R g b y→h7 P R g (a++b) (x++y)
 |[],_,_,_,h,k=>by simp only[h7]at h; subst h; exact k
 | _:: _,_,_,_,h,k=>by
  simp only[h7]at h
  obtain⟨a,l,rfl,U,h⟩:=h
  simp only[List.cons_append,h7]
  exact⟨a,_,rfl,U,KC h k⟩
theorem KD {P:Program}{R:Nat}{g:TypeId→List I→Prop}: ∀ {a:List gM}{x:List I},h7 P R g a x→x.length=a.length
 |[],_,h=>by simp only[h7]at h; subst h; rfl
 | _:: _,_,h=>by
  simp only[h7]at h
  obtain⟨a,l,rfl,U,h⟩:=h
  simp [KD h]
mutual
def I.eY:I→Nat
 | .str s=>s.length+1
 | .af _ rows=>fo rows+1
 | _=>1
def cG:List I→Nat
 |[]=>0
 |a::l=>a.eY+cG l
def fo:List (List I)→Nat
 |[]=>0
 |r::l=>cG r+fo l
end
mutual
def jI {H:Type}:DataW H→Nat
 | .lit (.string bytes)=>bytes.length+1
 | .slice sg spare=>n0 sg+n0 spare+1
 | .agg parts=>n0 parts+1
 | .lit _=>1
 | .nil=>1
 | .ptr _=>1
 | .iface _ _=>1
 | .map _=>1
 | .held _=>1
def n0 {H:Type}:List (DataW H)→Nat
 |[]=>0
 |d::r=>jI d+n0 r
end
theorem FI: ∀(a b:List I),cG (a++b)=cG a+cG b
 |[],b=>by simp [cG]
 |x::a,b=>by simp only[List.cons_append,cG,FI a b]; omega
theorem K7 {H:Type}: ∀(l:List (DataW H×List MemPlace)) (R:Nat→List I) (s:Nat),(∀i x,l[i]? =some x→cG (R (s+i))≤jI x.1)→fo ((List.range' s l.length).map R)≤n0 (l.map (·.1))
 |[],_,_,_=>by simp [fo]
 |x::l,R,s,h=>by
  have aU:=h 0 x rfl
  have U:=K7 l R (s+1) fun i y aV=>by have:=h (i+1) y (by simpa using aV); rwa [show s+(i+1)=s+1+i by omega]at this
  simp only[List.length_cons,List.range'_succ,List.map_cons,fo,n0]
  simp only[Nat.add_zero]at aU
  omega
theorem Gf {H:Type}: ∀(i:Nat){l:List (DataW H)}{x:DataW H},l[i]? =some x→n0 (l.drop i)=jI x+n0 (l.drop (i+1))
 |0,y::l,x,h=>by simp at h; subst h; simp [n0]
 |i+1,y::l,x,h=>by simpa using Gf i (l:=l) (by simpa using h)
 |0,[],_,h=>by simp at h
 |i+1,[],_,h=>by simp at h
theorem Kf {H:Type}{P:Program}{e:TypeId}: ∀ {l:List (DataW H)}{i:Nat}{d:DataW H},l[i]? =some d→∀n∈DataW.weights P e d,n∈DataW.weightsAll P e l
 |x::l,0,d,h,n,aW=>by simp at h; subst h; simp only[DataW.weightsAll]; exact List.mem_append_left _ aW
 |x::l,i+1,d,h,n,aW=>by simp only[DataW.weightsAll]; exact List.mem_append_right _ (Kf (l:=l) (i:=i) (by simpa using h) n aW)
 |[],_,_,h,_,_=>by simp at h
section
variable {H:Type}{enc:TypeId×Value→H}{P:Program}{E:List TypeId}{R:Nat}{w:World}{base:Nat}{spare:Nat→Bool}{held:Bool}
abbrev oM (P:Program) (E:List TypeId) (R:Nat) (w:World) (n:Nat) (aT:List gM) (cs:List Value) (B:Nat):Prop:=∃lp,(h7 P R (kq P E R n) aT lp∧cG lp≤B)∧cs.length=aT.length∧(∀v∈cs,v.oneCell'=true)∧∀m:Mem,m.w=w→m.H=aA.none→aR m lp cs
theorem oM.mono {n:Nat}{aT:List gM}{cs:List Value}{B Av:Nat}(h:oM P E R w n aT cs B) (fa:B≤Av):oM P E R w (n+1) aT cs Av:=by
 obtain⟨lp,⟨U,aU⟩,aa⟩:=h
 exact⟨lp,⟨Fz (fun e r=>KE) U,Nat.le_trans aU fa⟩,aa⟩
theorem oM.dV {n:Nat}{a b:List gM}{u v:List Value}{B Av:Nat}(h:oM P E R w n a u B) (k:oM P E R w n b v Av):oM P E R w n (a++b) (u++v) (B+Av):=by
 obtain⟨x,⟨U,aU⟩,aa,ay,bl⟩:=h
 obtain⟨y,⟨bf,kS⟩,bi,cz,eu⟩:=k
 refine⟨x++y,⟨KC U bf,by rw[FI]; omega⟩,by simp [aa,bi],fun z aG=> ?_,fun m hw eO=>UR (bl m hw eO) (eu m hw eO)⟩
 rcases List.mem_append.1 aG with aG|aG
 ·exact ay z aG
 ·exact cz z aG
theorem oM.nil {n B:Nat}:oM P E R w n [] [] B:=⟨[],⟨rfl,Nat.zero_le _⟩,rfl,fun v ae=>by simp at ae,fun m _ _=>by simp [aR]⟩
theorem aT3 {t e:TypeId}{aT:List gM}{kR:Nat}{cs:List Value}{x:DataW H×List MemPlace}(ht:P.underlying t=some (.slice e)) (aq:P.cellsOf e=aT.length) (aU:0<aT.length)
  (aw:iV P E 8 e=some aT) (aG: ∀n∈DataW.weights P t x.1,n≤R) (bB: ∀(n:Nat),kR=n+1→∀(cs:List Value) (x:DataW H×List MemPlace),DataW.trod enc P w base spare held n e cs=some x→(∀n∈DataW.weights P e x.1,n≤R)→oM P E R w n aT cs (jI x.1))
  (h:DataW.trod enc P w base spare held kR t cs=some x):oM P E R w kR [.hJ e] cs (jI x.1):=by
 rcases DataW.trod_slice ht h with ⟨U,ab⟩|⟨a,len,cap,sg,rest,n,hf,j3,ab,hb,aC,hm,gq,ad,_⟩
 ·subst U
  refine⟨[.af (P.cellsOf e) []],⟨⟨_,_,rfl,⟨[],rfl,by simp,fun r ac=>by simp at ac⟩,rfl⟩,by rw[ab]; simp [cG,I.eY,fo,jI]⟩,rfl,fun v ae=>by simp at ae; subst ae; rfl,fun m _ _=> ?_⟩
  simp only[aR,aP]
  exact⟨_,_,rfl,⟨none,0,0,rfl,rfl,⟨Nat.le_refl _,Nat.zero_le _⟩,.inl rfl⟩,rfl⟩
 ·subst j3
  have key: ∀i,∃r cs,i<len→(h7 P R (kq P E R n) aT r∧∀y,sg[i]? =some y→cG r≤jI y.1)∧(∀m:Mem,m.w=w→m.H=aA.none→aR m r cs)∧(∀v∈cs,v.oneCell'=true)∧cs.length=aT.length∧∀j,j<aT.length→w.cell? ((a.add (i*aT.length)).add j)=cs[j]? :=by
   intro i
   by_cases PE:i<len
   ·have aU:=ad i PE
    rw[List.getElem?_eq_getElem (by omega:i<sg.length)]at aU
    obtain⟨cE,U,aa⟩:=Option.bind_eq_some_iff.1 aU
    rw[aq]at U
    obtain⟨_,ay,bl⟩:=World.cells?_some U
    obtain⟨lp,⟨g1,g0⟩,g2,g3,g4⟩:=bB n hf _ _ aa (fun k aw=>aG k (by
     rw[ab]
     simp only[DataW.weights,ht]
     exact List.mem_cons_of_mem _ (List.mem_append_left _ (Kf (i:=i) (by rw[List.getElem?_map,List.getElem?_eq_getElem (by omega:i<sg.length)]; rfl) k aw))))
    exact⟨lp,cE,fun _=>⟨⟨g1,fun y aV=>by rw[List.getElem?_eq_getElem (by omega:i<sg.length)]at aV; cases aV; exact g0⟩,g4,g3,ay,bl⟩⟩
   ·exact⟨[],[],fun h=>absurd h PE⟩
  obtain⟨R,ak⟩:=Classical.skolem.1 key
  subst hf
  rw[show ([.hJ e]:List gM)=[.hJ e] from rfl]
  refine⟨[.af aT.length ((List.range' 0 len).map R)],⟨⟨_,_,rfl,⟨_,by rw[aq],?_,fun r ac=> ?_⟩,rfl⟩,?_⟩,rfl,fun v ae=>by simp at ae; subst ae; rfl,fun m hw eO=> ?_⟩
  ·have hm:=aG ((sg.length+rest.length)*P.bytesOf e) (by rw[ab]; simp [DataW.weights,ht])
   rw[List.length_map,List.length_range',←gq]
   exact Nat.le_trans (Nat.mul_le_mul_right _ (Nat.le_add_right _ _)) hm
  ·obtain⟨i,U,rfl⟩:=List.mem_map.1 ac
   obtain⟨cs,aa⟩:=ak i
   exact⟨aT,aw,(aa (by have:=List.mem_range'_1.1 U; omega)).1.1⟩
  ·have hb:=K7 sg R 0 fun i y aV=>by
    obtain⟨cs,aa⟩:=ak i
    have cB:i<sg.length:=(List.getElem?_eq_some_iff.1 aV).1
    rw[Nat.zero_add]
    exact (aa (by omega)).1.2 y aV
   rw[gq]at hb
   rw[ab]
   simp only[cG,I.eY,jI]
   omega
  ·simp only[aR,aP]
   refine⟨_,_,rfl,⟨_,_,_,rfl,by simp,⟨aC,hm⟩,?_⟩,rfl⟩
   by_cases aG:len=0
   ·left; simp [aG]
   ·right
    have as3: ∃b o,a=⟨b,o,none⟩:=by
     obtain⟨cs,aa⟩:=ak 0
     obtain⟨_,_,_,ay,bl⟩:=aa (by omega)
     have bW:=bl 0 aU
     rw[List.getElem?_eq_getElem (by omega)]at bW
     simp only[Nat.zero_mul,Addr.add,if_true]at bW
     obtain⟨bh1,bh2,az⟩:=a
     cases az with
     |none=>exact⟨_,_,rfl⟩
     |some _=>
      exfalso
      unfold World.cell? at bW
      split at bW
      ·simp at bW
      ·cases bW
    obtain⟨b,o,rfl⟩:=as3
    refine⟨b,o,rfl,?_⟩
    have:=UU (m:=m) (size:=aT.length) (b:=b) (o:=o) (R:=R) len 0 fun j _ bx=> ?_
    ·simpa using this
    ·obtain⟨cs,aa⟩:=ak j
     obtain⟨⟨g1,_⟩,g2,g5,g3,g4⟩:=aa (by omega)
     refine⟨KD g1,UQ eO (g2 m hw eO) g5 fun i v ae=> ?_⟩
     have iD:i<aT.length:=by rw[←g3]; exact (List.getElem?_eq_some_iff.1 ae).1
     have eL:=g4 i iD
     rw[ae]at eL
     rw[hw,←eL]
     congr 1
     unfold Addr.add
     by_cases ar:j*aT.length=0
     ·by_cases ax:i=0
      ·simp [ar,ax]
      ·simp [ar,ax]
     ·by_cases ax:i=0
      ·simp [ar,ax]
      ·simp [ar,ax]
theorem Cz (dC:Cx P E=true): ∀(kR d:Nat) (t:TypeId) (aT:List gM) (cs:List Value) (x:DataW H×List MemPlace),iV P E d t=some aT→DataW.trod enc P w base spare held kR t cs=some x→(∀n∈DataW.weights P t x.1,n≤R)→oM P E R w kR aT cs (jI x.1)
 |kR,0,_,_,_,_,h,_,_=>by simp [iV]at h
 |kR,d+1,t,aT,cs,x,h,ht,aG=>by
  simp only[iV]at h
  split at h
  ·rename_i k hu
   simp at h
   subst h
   obtain⟨n,rfl,ab,hw⟩:=DataW.trod_int hu ht
   exact⟨[.int k n],⟨⟨_,_,rfl,⟨n,rfl,hw⟩,rfl⟩,by rw[ab]; simp [cG,I.eY,jI]⟩,rfl,fun v ae=>by simp at ae; subst ae; rfl,fun m _ _=>by simp only[aR,aP]; exact⟨_,_,rfl,rfl,rfl⟩⟩
  ·rename_i hu
   simp at h
   subst h
   obtain⟨s,rfl,ab,aC⟩:=DataW.trod_string hu ht
   exact⟨[.str s.data.toList],⟨⟨_,_,rfl,⟨_,rfl,aG _ (by rw[ab]; simp [DataW.weights])⟩,rfl⟩,by rw[ab]; simp [cG,I.eY,jI]⟩,rfl,fun v ae=>by simp at ae; subst ae; rfl,fun m _ _=>by simp only[aR]; exact⟨_,_,rfl,aT6 aC,rfl⟩⟩
  ·rename_i hu
   simp at h
   subst h
   obtain⟨b,rfl,ab⟩:=DataW.trod_bool hu ht
   exact⟨[.bool b],⟨⟨_,_,rfl,⟨_,rfl⟩,rfl⟩,by rw[ab]; simp [cG,I.eY,jI]⟩,rfl,fun v ae=>by simp at ae; subst ae; rfl,fun m _ _=>by simp only[aR,aP]; exact⟨_,_,rfl,rfl,rfl⟩⟩
  ·rename_i e hu
   split at h
   ·rename_i he
    simp at h
    subst h
    have rs:=List.all_eq_true.1 dC e (by simpa using he)
    split at rs
    ·rename_i aT aw
     simp only[Bool.and_eq_true,decide_eq_true_eq]at rs
     exact aT3 hu rs.1 rs.2 aw aG (fun n hf cs x aa PZ=>by subst hf; exact Cz dC n 8 e aT cs x aw aa PZ) ht
    ·cases rs
   ·cases h
  ·rename_i n e hu
   split at h
   ·rename_i aT aw
    split at h
    ·rename_i aq
     obtain⟨aq,am3⟩:=aq
     simp at h
     subst h
     obtain⟨xs,m,Bv,ab,hlen,at5,hf⟩:=DataW.trod_array hu ht
     subst Bv
     have key: ∀(c i:Nat),i+c=n→oM P E R w (m+1) (List.replicate c aT).flatten (cs.drop (i*aT.length)) (n0 ((xs.map (·.1)).drop i)):=by
      intro c
      induction c with
      |zero=>
       intro i ad
       have cA:cs.drop (i*aT.length)=[]:=List.drop_eq_nil_of_le (by rw[hlen,am3,show i=n by omega]; exact Nat.le_refl _)
       rw[cA]
       exact oM.nil
      |succ c bB=>
       intro i ad
       have U:=hf i (by omega)
       rw[List.getElem?_eq_getElem (by omega:i<xs.length),aq]at U
       have Es: ∀k∈DataW.weights P e (xs[i]'(by omega)).1,k≤R:=fun k aw=>aG k (by
        rw[ab]
        simp only[DataW.weights,hu]
        exact Kf (i:=i) (by rw[List.getElem?_map,List.getElem?_eq_getElem (by omega:i<xs.length)]; rfl) k aw)
       have a:=(Cz dC m d _ _ _ _ aw U Es).mono (Nat.le_refl _)
       have b:=bB (i+1) (by omega)
       have iB:n0 ((xs.map (·.1)).drop i)=jI (xs[i]'(by omega)).1+n0 ((xs.map (·.1)).drop (i+1)):=Gf i (by rw[List.getElem?_map,List.getElem?_eq_getElem (by omega:i<xs.length)]; rfl)
       have es:cs.drop (i*aT.length)=(cs.drop (i*aT.length)).take aT.length++cs.drop ((i+1)*aT.length):=by
        rw[Nat.add_mul,Nat.one_mul,←List.drop_drop,List.take_append_drop]
       rw[es,iB,List.replicate_succ,List.flatten_cons]
       exact a.dV b
     have:=key n 0 (by omega)
     simp only[Nat.zero_mul,List.drop_zero]at this
     obtain⟨lp,⟨b0,cN⟩,du⟩:=this
     exact⟨lp,⟨b0,by rw[ab]; simp only[jI]at cN ⊢; omega⟩,du⟩
    ·cases h
   ·cases h
  ·rename_i b2 hu
   obtain⟨xs,n,Bv,ab,hlen,at5,hf⟩:=DataW.trod_struct hu ht
   subst Bv
   split at h
   ·rename_i yc aw
    split at h
    ·rename_i aq
     simp at h
     subst h
     have key: ∀(l:List Field) (off i:Nat) (aT:List gM),Cy P (iV P E d) off l=some aT→(∀j,l[j]? =b2.toList[i+j]?)→oM P E R w (n+1) aT ((cs.drop off).take aT.length) (n0 ((xs.map (·.1)).drop i)):=by
      intro l
      induction l with
      |nil=>
       intro off i aT h _
       simp [Cy]at h
       subst h
       exact oM.nil
      |cons f l bB=>
       intro off i aT h bx
       simp only[Cy]at h
       split at h
       ·rename_i bf U
        split at h
        ·rename_i aa
         obtain⟨aa,ay⟩:=aa
         simp only[Option.map_eq_some_iff]at h
         obtain⟨bi,bl,rfl⟩:=h
         have b:=bB (off+bf.length) (i+1) bi bl (fun j=>by have:=bx (j+1); simpa [Nat.add_assoc,Nat.add_comm 1 j] using this)
         have HA:b2[i]? =some f:=by have:=bx 0; simpa using this.symm
         have ad:i<b2.size:=(Array.getElem?_eq_some_iff.1 HA).1
         have ar:=hf i f HA
         rw[List.getElem?_eq_getElem (by omega:i<xs.length),aa,ay]at ar
         have Es: ∀k∈DataW.weights P f.type (xs[i]'(by omega)).1,k≤R:=fun k aw=>aG k (by
          rw[ab]
          simp only[DataW.weights,hu]
          exact DataW.weights_mem_each (j:=i) (t:=f.type) (by rw[List.getElem?_map,Array.getElem?_toList,HA]; rfl) (by rw[List.getElem?_map,List.getElem?_eq_getElem (by omega:i<xs.length)]; rfl) k aw)
         have a:=(Cz dC n d _ _ _ _ U ar Es).mono (Nat.le_refl _)
         have iB:n0 ((xs.map (·.1)).drop i)=jI (xs[i]'(by omega)).1+n0 ((xs.map (·.1)).drop (i+1)):=Gf i (by rw[List.getElem?_map,List.getElem?_eq_getElem (by omega:i<xs.length)]; rfl)
         have es:(cs.drop off).take (bf++bi).length=(cs.drop off).take bf.length++(cs.drop (off+bf.length)).take bi.length:=by
          rw[List.length_append,List.take_add,List.drop_drop]
         rw[es,iB]
         exact a.dV b
        ·cases h
       ·cases h
     have:=key b2.toList 0 0 yc aw (fun j=>by simp)
     have e:(cs.drop 0).take yc.length=cs:=by rw[List.drop_zero]; exact List.take_of_length_le (by omega)
     rw[e]at this
     obtain⟨lp,⟨b0,cN⟩,du⟩:=this
     exact⟨lp,⟨b0,by rw[ab]; simp only[jI,List.drop_zero]at cN ⊢; omega⟩,du⟩
    ·cases h
   ·cases h
  ·cases h
termination_by kR d=>(kR,d)
theorem aT4 (dC:Cx P E=true){d:Nat}{t e:TypeId}{v:Value}{x:DataW H}{p:List MemPlace}{r:Reach}{gS:Nat}(ht:P.underlying t=some (.slice e)) (aw:iV P E d t=some [.hJ e]) (aG: ∀n∈DataW.weights P t x,n≤R) (ae:Value.okWide P w r gS t v) (h:DataW.Trod enc P w base spare held t v x p):
  ∃n rows,((rows.length*P.bytesOf e≤R∧∀r∈rows,kq P E R n e r)∧fo rows+1≤jI x)∧∀m:Mem,m.w=w→m.H=aA.none→aP m (.af (P.cellsOf e) rows) v:=by
 obtain⟨a0,len,cap,rfl⟩:=okWide_slice ht ae
 obtain⟨kR,hf⟩:=h
 obtain⟨lp,⟨U,aU⟩,aa,ay,bl⟩:=Cz dC _ _ _ _ _ _ aw hf aG
 simp only[h7,gM.ok]at U
 obtain⟨a,l,rfl,⟨rows,rfl,eL,bW⟩,rfl⟩:=U
 simp only[cG,I.eY,Nat.add_zero]at aU
 refine⟨_,rows,⟨⟨eL,bW⟩,aU⟩,fun m hw eO=> ?_⟩
 have uN:=bl m hw eO
 simp only[aR,Value.cells]at uN
 obtain⟨u,us,ar,ax,bU⟩:=uN
 simp at ar
 rw[ar.1]
 exact ax
theorem UN (dC:Cx P E=true){d:Nat}{t:TypeId}{b2:Array Field}{aT:List gM}{v:Value}{x:DataW H}{p:List MemPlace}{r:Reach}{gS:Nat}(ht:P.underlying t=some (.struct b2)) (aw:iV P E d t=some aT) (aG: ∀n∈DataW.weights P t x,n≤R) (ae:Value.okWide P w r gS t v) (h:DataW.Trod enc P w base spare held t v x p):
  ∃n lp,(h7 P R (kq P E R n) aT lp∧cG lp≤jI x)∧∀m:Mem,m.w=w→m.H=aA.none→aP m (.agg lp) v:=by
 obtain⟨cs,rfl,dq⟩:=okWide_struct ht ae
 obtain⟨l⟩:=cs
 obtain⟨kR,hf⟩:=h
 obtain⟨lp,U,aa,ay,bl⟩:=Cz dC _ _ _ _ _ _ aw hf aG
 refine⟨_,lp,U,fun m hw eO=> ?_⟩
 simp only[aP]
 exact⟨l,rfl,bl m hw eO⟩
end
end Go.aO
