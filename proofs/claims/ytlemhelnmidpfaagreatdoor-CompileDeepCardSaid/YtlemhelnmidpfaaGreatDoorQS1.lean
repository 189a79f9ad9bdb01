/- Part of a proof; own work. -/
import Derived.WalkKit
import Derived.Recover
import Derived.Lib.Strings
import Derived.Lib.SmallJoins
import Derived.MapKept
set_option linter.unusedVariables false
set_option linter.unusedSimpArgs false
namespace Go.aO
open Go
def Bh:List (Nat×(Obj→Prop)):=[
 (0,fun o2=> ∃T p2,o2= .cells (((List.range 20).map fun i=>((10^i:Nat):Int)).map fun z=>Value.int .u64 z).toArray T p2)]
def lR (w:World):Prop:=∀p∈Bh,∃o2,w.heap[p.1]? =some o2∧p.2 o2
def ke:Nat:=1000000
def sl (f:FuncId) (l:List Value):Value:=if f<ke then .func (.func f) #[] ⟨l⟩ else .func (.func (f-ke)) ⟨l⟩ #[]
theorem xL {f:FuncId}(h:f<ke) (l:List Value):sl f l= .func (.func f) #[] ⟨l⟩:=if_pos h
theorem OM (f:FuncId) (l:List Value):sl (f+ke) l= .func (.func f) ⟨l⟩ #[]:=by
 unfold sl
 rw[if_neg (Nat.not_lt.2 (Nat.le_add_left ke f)),Nat.add_sub_cancel]
inductive I where
 |eX
 |bool (b:Bool)
 |int (k:IntKind) (n:Int)
 |str (s:List UInt8)
 |ev (v:Value)
 |ptr (b o:Nat)
 |agg (cs:List I)
 |cT (cs:List I)
 |af (size:Nat) (rows:List (List I))
 |own (t:Nat) (size:Nat) (rows:List (List I))
 |c6 (t ver:Nat)
 |mp (t ver k:Nat)
 |eK (row:List I) (off:Nat)
 |fn (f:FuncId) (cap:List I)
 |iE (t:TypeId) (v:I)
structure cb where
 ty:TypeId
 size:Nat
 n:Nat
 ver:Nat
 lU:Option (List (List I))
def cb.len (i:cb):Nat:=match i.lU with|none=>i.n|some rows=>rows.length
structure aA where
 aZ:Nat→Option (TypeId×List I)
 tok:Nat→Option cb
def aA.none:aA:=⟨fun _=>Option.none,fun _=>Option.none⟩
def aA.cp (H:aA) (b:Nat) (T:TypeId) (cs:List I):aA:={H with aZ:=fun x=>if x=b then some (T,cs) else H.aZ x}
def aA.qz (H:aA) (b:Nat):aA:={H with aZ:=fun x=>if x=b then Option.none else H.aZ x}
def aA.cj (H:aA) (t:Nat) (o:cb):aA:={H with tok:=fun x=>if x=t then some o else H.tok x}
def _root_.Go.Value.e4:Value→Option Nat
 | .slice (some a) _ _=>some a.block
 | .map (some b)=>some b
 | _=>Option.none
def _root_.Go.World.Co (w:World) (e:TypeId) (size:Nat) (v:Value) (n:Nat) (xs:List Value):Prop:=
 xs.length=n*size∧((v= .slice none 0 0∧n=0)∨∃g p cap cur,v= .slice (some ⟨g,p,none⟩) n cap∧w.heap[g]? =some (.cells cur e (0,0))∧n≤cap∧cap≤maxLen∧p+cap*size≤cur.size∧(cur.toList.drop p).take (n*size)=xs)
def _root_.Go.World.sI (w:World) (i:cb) (v:Value) (xs:List Value):Prop:=
 match i.lU with
 |Option.none=>w.ownsRow 0 i.ty i.size v i.len xs
 |some _=>match i.n with
  |0=>w.Co i.ty i.size v i.len xs
  | _+1=> ∃b es pi,v= .map (some b)∧w.heap[b]? =some (.map es pi)∧xs=es.toList.flatMap fun e=>[e.key,e.val]
structure Mem where
 w:World
 H:aA
 L:Nat→Value
 T:Nat
structure nR (m:Mem) (b o:Nat):Prop where
 lt:b<m.w.heap.size
 aZ:m.H.aZ b=Option.none
 tok: ∀t i,m.H.tok t=some i→(m.L t).e4=some b→o<i.n*i.size
mutual
def aP (m:Mem):I→Value→Prop
 | .eX,_=>True
 | .bool b,v=>v= .bool b
 | .int k n,v=>v= .int k n
 | .str s,v=>v= .string ⟨⟨s⟩⟩∧s.length≤maxLen
 | .ev x,v=>v=x
 | .ptr b o,v=>v= .pointer (some ⟨b,o,none⟩)
 | .agg cs,v=> ∃l,v= .agg ⟨l⟩∧aR m cs l
 | .cT cs,v=> ∃l,v= .tuple ⟨l⟩∧aR m cs l
 | .af size rows,v=> ∃a len cap,v= .slice a len cap∧len=rows.length∧(len≤cap∧cap≤maxLen)∧(rows.length=0∨∃b o,a=some ⟨b,o,none⟩∧ef m size rows b o)
 | .own t size rows,v=>(∃a len cap,v= .slice a len cap∧len=rows.length∧(len≤cap∧cap≤maxLen)∧(rows.length=0∨∃b o,a=some ⟨b,o,none⟩∧ef m size rows b o))∧t<m.T∧(∀i,m.H.tok t=some i→rows.length≤i.ver∧(i.ver=rows.length→m.L t=v∧i.size=size))
 | .c6 t ver,v=>v.oneCell'=true∧t<m.T∧(∀i,m.H.tok t=some i→ver≤i.ver∧(i.ver=ver→m.L t=v))
 | .mp t ver k,v=>v.oneCell'=true∧t<m.T∧(∀i,m.H.tok t=some i→ver≤i.ver∧(i.ver=ver→∃b p len cap,m.L t= .slice (some ⟨b,p,none⟩) len cap∧v= .pointer (some ⟨b,p+k,none⟩)))
 | .eK row off,v=> ∃b o,v= .pointer (some ⟨b,o+off,none⟩)∧fr m row b o
 | .fn f cap,v=> ∃l,v=sl f l∧aR m cap l
 | .iE t a,v=> ∃x,v= .iface t x∧aP m a x
def aR (m:Mem):List I→List Value→Prop
 |[],l=>l=[]
 |a::az,l=> ∃v af,l=v::af∧aP m a v∧aR m az af
def fr (m:Mem):List I→Nat→Nat→Prop
 |[],_,_=>True
 |a::az,b,o=>(∃v,m.w.cell? ⟨b,o,none⟩=some v∧v.oneCell'=true∧nR m b o∧aP m a v)∧fr m az b (o+1)
def ef (m:Mem) (size:Nat):List (List I)→Nat→Nat→Prop
 |[],_,_=>True
 |r::aS,b,o=>r.length=size∧fr m r b o∧ef m size aS b (o+size)
end
structure b8 (m aX:Mem):Prop where
 os:aX.w.os=m.w.os
 tape:aX.w.tape=m.w.tape
 output:aX.w.output=m.w.output
 size:m.w.heap.size≤aX.w.heap.size
 T:m.T≤aX.T
 block: ∀b,b<m.w.heap.size→m.H.aZ b=Option.none→(∀t i,m.H.tok t=some i→(m.L t).e4≠some b)→aX.w.heap[b]? =m.w.heap[b]? ∧aX.H.aZ b=Option.none∧(∀t i,aX.H.tok t=some i→(aX.L t).e4≠some b)
 cell: ∀b o,nR m b o→nR aX b o∧aX.w.cell? ⟨b,o,none⟩=m.w.cell? ⟨b,o,none⟩
 tok: ∀t dB,t<m.T→aX.H.tok t=some dB→∃i,m.H.tok t=some i∧i.ver≤dB.ver∧dB.size=i.size∧(dB.ver=i.ver→aX.L t=m.L t)
theorem b8.refl (m:Mem):b8 m m:=⟨rfl,rfl,rfl,Nat.le_refl _,Nat.le_refl _,fun _ _ h jp=>⟨rfl,h,jp⟩,fun _ _ h=>⟨h,rfl⟩,fun _ dB _ h=>⟨dB,h,Nat.le_refl _,rfl,fun _=>rfl⟩⟩
theorem b8.trans {a b c:Mem}(h:b8 a b) (k:b8 b c):b8 a c where
 os:=k.os.trans h.os
 tape:=k.tape.trans h.tape
 output:=k.output.trans h.output
 size:=Nat.le_trans h.size k.size
 T:=Nat.le_trans h.T k.T
 block:=fun x ab hb ht=>by
  obtain⟨ar,ax,bU⟩:=h.block x ab hb ht
  obtain⟨f1,f2,f3⟩:=k.block x (Nat.lt_of_lt_of_le ab h.size) ax bU
  exact⟨f1.trans ar,f2,f3⟩
 cell:=fun x o hs=>by
  obtain⟨ar,ax⟩:=h.cell x o hs
  obtain⟨f1,f2⟩:=k.cell x o ar
  exact⟨f1,f2.trans ax⟩
 tok:=fun t au7 ht ad=>by
  obtain⟨dB,U,aa,ay,bl⟩:=k.tok t au7 (Nat.lt_of_lt_of_le ht h.T) ad
  obtain⟨i,g1,g2,g3,g4⟩:=h.tok t dB ht U
  refine⟨i,g1,Nat.le_trans g2 aa,ay.trans g3,fun e=> ?_⟩
  rw[bl (by omega),g4 (by omega)]
mutual
theorem aP.aI {m aX:Mem}(e:b8 m aX): ∀(a:I) (v:Value),aP m a v→aP aX a v
 | .eX,_,_=>by simp only[aP]
 | .bool _,_,h=>by simp only[aP]at*; exact h
 | .int _ _,_,h=>by simp only[aP]at*; exact h
 | .str _,_,h=>by simp only[aP]at*; exact h
 | .ev _,_,h=>by simp only[aP]at*; exact h
 | .ptr _ _,_,h=>by simp only[aP]at*; exact h
 | .agg cs,_,h=>by simp only[aP]at*; obtain⟨l,ar,ax⟩:=h; exact⟨l,ar,aR.aI e cs l ax⟩
 | .cT cs,_,h=>by simp only[aP]at*; obtain⟨l,ar,ax⟩:=h; exact⟨l,ar,aR.aI e cs l ax⟩
 | .af size rows,_,h=>by
  simp only[aP]at*
  obtain⟨a,len,cap,U,aa,ay,bl⟩:=h
  exact⟨a,len,cap,U,aa,ay,bl.imp id fun⟨b,o,g1,g2⟩=>⟨b,o,g1,ef.aI e size rows b o g2⟩⟩
 | .own t size rows,_,h=>by
  simp only[aP]at*
  obtain⟨⟨a,len,cap,U,aa,ay,bl⟩,bW,eL⟩:=h
  refine⟨⟨a,len,cap,U,aa,ay,bl.imp id fun⟨b,o,g1,g2⟩=>⟨b,o,g1,ef.aI e size rows b o g2⟩⟩,Nat.lt_of_lt_of_le bW e.T,fun i ad=> ?_⟩
  obtain⟨i0,bf,bi,cz,eu⟩:=e.tok t i bW ad
  obtain⟨iH,cu⟩:=eL i0 bf
  refine⟨by omega,fun aW=> ?_⟩
  obtain⟨cu,cL⟩:=cu (by omega)
  exact⟨(eu (by omega)).trans cu,cz.trans cL⟩
 | .c6 t ver,_,h=>by
  simp only[aP]at*
  obtain⟨aU,bW,eL⟩:=h
  refine⟨aU,Nat.lt_of_lt_of_le bW e.T,fun i ad=> ?_⟩
  obtain⟨i0,bf,bi,cz,eu⟩:=e.tok t i bW ad
  obtain⟨iH,cu⟩:=eL i0 bf
  exact⟨by omega,fun aW=>(eu (by omega)).trans (cu (by omega))⟩
 | .mp t ver k,_,h=>by
  simp only[aP]at*
  obtain⟨aU,bW,eL⟩:=h
  refine⟨aU,Nat.lt_of_lt_of_le bW e.T,fun i ad=> ?_⟩
  obtain⟨i0,bf,bi,cz,eu⟩:=e.tok t i bW ad
  obtain⟨iH,cu⟩:=eL i0 bf
  refine⟨by omega,fun aW=> ?_⟩
  obtain⟨b,p,len,cap,g1,g2⟩:=cu (by omega)
  exact⟨b,p,len,cap,(eu (by omega)).trans g1,g2⟩
 | .eK row off,_,h=>by
  simp only[aP]at*
  obtain⟨b,o,U,aa⟩:=h
  exact⟨b,o,U,fr.aI e row b o aa⟩
 | .fn f cs,_,h=>by simp only[aP]at*; obtain⟨l,ar,ax⟩:=h; exact⟨l,ar,aR.aI e cs l ax⟩
 | .iE t a,_,h=>by simp only[aP]at*; obtain⟨x,ar,ax⟩:=h; exact⟨x,ar,aP.aI e a x ax⟩
theorem aR.aI {m aX:Mem}(e:b8 m aX): ∀(az:List I) (l:List Value),aR m az l→aR aX az l
 |[],_,h=>by simp only[aR]at*; exact h
 |a::az,_,h=>by simp only[aR]at*; obtain⟨v,af,U,aa,ay⟩:=h; exact⟨v,af,U,aP.aI e a v aa,aR.aI e az af ay⟩
theorem fr.aI {m aX:Mem}(e:b8 m aX): ∀(az:List I) (b o:Nat),fr m az b o→fr aX az b o
 |[],_,_,_=>by simp only[fr]
 |a::az,b,o,h=>by
  simp only[fr]at*
  obtain⟨⟨v,U,so,aa,ay⟩,bl⟩:=h
  obtain⟨s1,s2⟩:=e.cell b o aa
  exact⟨⟨v,s2.trans U,so,s1,aP.aI e a v ay⟩,fr.aI e az b (o+1) bl⟩
theorem ef.aI {m aX:Mem}(e:b8 m aX) (size:Nat): ∀(aS:List (List I)) (b o:Nat),ef m size aS b o→ef aX size aS b o
 |[],_,_,_=>by simp only[ef]
 |r::aS,b,o,h=>by
  simp only[ef]at*
  exact⟨h.1,fr.aI e r b o h.2.1,ef.aI e size aS b (o+size) h.2.2⟩
end
def Fx (m:Mem):Prop:=∀p∈Bh,m.H.aZ p.1=Option.none∧∀t i,m.H.tok t=some i→(m.L t).e4≠some p.1
theorem q5.aI {m aX:Mem}(e:b8 m aX) (h:lR m.w) (k:Fx m):lR aX.w∧Fx aX:=by
 have key: ∀p∈Bh,(∃o2,aX.w.heap[p.1]? =some o2∧p.2 o2)∧aX.H.aZ p.1=Option.none∧∀t i,aX.H.tok t=some i→(aX.L t).e4≠some p.1:=by
  intro p hp
  obtain⟨o2,U,aa⟩:=h p hp
  obtain⟨bf,bi⟩:=k p hp
  obtain⟨ar,ax,bU⟩:=e.block p.1 (Array.getElem?_eq_some_iff.1 U).1 bf bi
  exact⟨⟨o2,ar.trans U,aa⟩,ax,bU⟩
 exact⟨fun p hp=>(key p hp).1,fun p hp=>(key p hp).2⟩
structure b9 (m:Mem):Prop where
 aZ: ∀b T cs,m.H.aZ b=some (T,cs)→∃l,m.w.heap[b]? =some (.cells ⟨l⟩ T (0,0))∧aR m cs l∧∀v∈l,v.oneCell'=true
 tok: ∀t i,m.H.tok t=some i→t<m.T∧i.size≠0∧(∃xs,m.w.sI i (m.L t) xs∧∀rows,i.lU=some rows→aR m rows.flatten xs∧(∀r∈rows,r.length=i.size)∧∀v∈xs,v.oneCell'=true)∧(∀b,(m.L t).e4=some b→m.H.aZ b=Option.none∧∀dT dB,m.H.tok dT=some dB→(m.L dT).e4=some b→dT=t)
 mx:lR m.w
 my:Fx m
theorem aR.length {m:Mem}: ∀ {az:List I}{l:List Value},aR m az l→l.length=az.length
 |[],_,h=>by simp only[aR]at h; subst h; rfl
 |a::az,_,h=>by simp only[aR]at h; obtain⟨v,af,rfl,_,aa⟩:=h; simp [aR.length aa]
theorem aR.get {m:Mem}: ∀ {az:List I}{l:List Value}(_:aR m az l) (i:Nat) (a:I),az[i]? =some a→∃v,l[i]? =some v∧aP m a v
 |[],_,_,_,_,h=>by simp at h
 |a::az,_,h,0,x,ab=>by simp only[aR]at h; obtain⟨v,af,rfl,U,aa⟩:=h; simp at ab; subst ab; exact⟨v,rfl,U⟩
 |a::az,_,h,i+1,x,ab=>by simp only[aR]at h; obtain⟨v,af,rfl,U,aa⟩:=h; simp at ab; obtain⟨bI,ar,ax⟩:=aR.get aa i x ab; exact⟨bI,by simpa using ar,ax⟩
theorem aR.append {m:Mem}: ∀ {az:List I}{l:List Value}{bQ:List I}{cc:List Value}(_:aR m az l) (_:aR m bQ cc),aR m (az++bQ) (l++cc)
 |[],_,_,_,h,k=>by simp only[aR]at h; subst h; simpa using k
 |a::az,_,_,_,h,k=>by simp only[aR]at h; obtain⟨v,af,rfl,U,aa⟩:=h; simp only[List.cons_append,aR]; exact⟨v,_,rfl,U,aR.append aa k⟩
theorem aR.drop {m:Mem}: ∀(n:Nat){az:List I}{l:List Value}(_:aR m az l),aR m (az.drop n) (l.drop n)
 |0,_,_,h=>by simpa using h
 |n+1,[],_,h=>by simp only[aR]at h; subst h; simp [aR]
 |n+1,a::az,_,h=>by simp only[aR]at h; obtain⟨v,af,rfl,U,aa⟩:=h; simpa using aR.drop n aa
theorem aR.take {m:Mem}: ∀(n:Nat){az:List I}{l:List Value}(_:aR m az l),aR m (az.take n) (l.take n)
 |0,_,_,_=>by simp [aR]
 |n+1,[],_,h=>by simp only[aR]at h; subst h; simp [aR]
 |n+1,a::az,_,h=>by simp only[aR]at h; obtain⟨v,af,rfl,U,aa⟩:=h; simp only[List.take_succ_cons,aR]; exact⟨v,_,rfl,U,aR.take n aa⟩
theorem aR.set {m:Mem}: ∀(n:Nat){az:List I}{l:List Value}(_:aR m az l){a:I}{v:Value},aP m a v→aR m (az.set n a) (l.set n v)
 | _,[],_,h,_,_,_=>by simp only[aR]at h; subst h; simp [aR]
 |0,a::az,_,h,_,_,ae=>by simp only[aR]at h; obtain⟨v,af,rfl,U,aa⟩:=h; simp only[List.set_cons_zero,aR]; exact⟨_,_,rfl,ae,aa⟩
 |n+1,a::az,_,h,_,_,ae=>by simp only[aR]at h; obtain⟨v,af,rfl,U,aa⟩:=h; simp only[List.set_cons_succ,aR]; exact⟨_,_,rfl,U,aR.set n aa ae⟩
theorem fr.get {m:Mem}: ∀ {az:List I}{b o:Nat}(_:fr m az b o) (i:Nat) (a:I),az[i]? =some a→∃v,m.w.cell? ⟨b,o+i,none⟩=some v∧v.oneCell'=true∧nR m b (o+i)∧aP m a v
 |[],_,_,_,_,_,h=>by simp at h
 |a::az,b,o,h,0,x,ab=>by simp only[fr]at h; simp at ab; subst ab; exact h.1
 |a::az,b,o,h,i+1,x,ab=>by
  simp only[fr]at h
  simp at ab
  obtain⟨v,e⟩:=fr.get h.2 i x ab
  rw[show o+(i+1)=o+1+i by omega]
  exact⟨v,e⟩
theorem ef.get {m:Mem}{size:Nat}: ∀ {aS:List (List I)}{b o:Nat}(_:ef m size aS b o) (i:Nat) (r:List I),aS[i]? =some r→r.length=size∧fr m r b (o+i*size)
 |[],_,_,_,_,_,h=>by simp at h
 |r::aS,b,o,h,0,x,ab=>by simp only[ef]at h; simp at ab; subst ab; simpa using ⟨h.1,h.2.1⟩
 |r::aS,b,o,h,i+1,x,ab=>by
  simp only[ef]at h
  simp at ab
  have:=ef.get h.2.2 i x ab
  rwa [show o+size+i*size=o+(i+1)*size by rw[Nat.add_mul]; omega]at this
theorem ef.drop {m:Mem}{size:Nat}: ∀(n:Nat){aS:List (List I)}{b o:Nat},ef m size aS b o→ef m size (aS.drop n) b (o+n*size)
 |0,_,_,_,h=>by simpa using h
 |n+1,[],_,_,_=>by simp [ef]
 |n+1,r::aS,b,o,h=>by
  simp only[ef]at h
  have:=ef.drop n h.2.2
  rw[List.drop_succ_cons]
  rwa [show o+size+n*size=o+(n+1)*size by rw[Nat.add_mul]; omega]at this
theorem ef.take {m:Mem}{size:Nat}: ∀(n:Nat){aS:List (List I)}{b o:Nat},ef m size aS b o→ef m size (aS.take n) b o
 |0,_,_,_,_=>by simp [ef]
 |n+1,[],_,_,_=>by simp [ef]
 |n+1,r::aS,b,o,h=>by
  simp only[ef]at h
  simp only[List.take_succ_cons,ef]
  exact⟨h.1,h.2.1,ef.take n h.2.2⟩
theorem fr.yH {m:Mem}: ∀ {az:List I}{b o:Nat},fr m az b o→∃l,aR m az l∧(∀j v,l[j]? =some v→m.w.cell? ⟨b,o+j,none⟩=some v∧v.oneCell'=true)
 |[],_,_,_=>⟨[],by simp [aR],by simp⟩
 |a::az,b,o,h=>by
  simp only[fr]at h
  obtain⟨⟨v,U,so,_,ay⟩,bl⟩:=h
  obtain⟨l,ar,ax⟩:=fr.yH bl
  refine⟨v::l,by simp only[aR]; exact⟨v,l,rfl,ay,ar⟩,fun j u bx=> ?_⟩
  cases j with
  |zero=>simp at bx; subst bx; exact⟨U,so⟩
  |succ j=>simp at bx; have:=ax j u bx; rwa [show o+1+j=o+(j+1) by omega]at this
theorem ef.yH {m:Mem}{size:Nat}: ∀ {aS:List (List I)}{b o:Nat},ef m size aS b o→∃l,aR m aS.flatten l∧l.length=aS.length*size∧(∀j v,l[j]? =some v→m.w.cell? ⟨b,o+j,none⟩=some v∧v.oneCell'=true)
 |[],_,_,_=>⟨[],by simp [aR],by simp,by simp⟩
 |r::aS,b,o,h=>by
  simp only[ef]at h
  obtain⟨U,aa,ay⟩:=h
  obtain⟨l,ar,ax⟩:=fr.yH aa
  obtain⟨cc,f1,f2,f3⟩:=ef.yH ay
  have aC:l.length=size:=(aR.length ar).trans U
  refine⟨l++cc,by simpa using aR.append ar f1,by rw[List.length_append,f2,aC,List.length_cons,Nat.add_mul]; omega,fun j u bx=> ?_⟩
  by_cases jh:j<l.length
  ·rw[List.getElem?_append_left jh]at bx
   exact ax j u bx
  ·rw[List.getElem?_append_right (by omega)]at bx
   have:=f3 _ u bx
   rwa [show o+size+(j-l.length)=o+j by omega]at this
theorem fr.of {m:Mem}: ∀ {az:List I}{l:List Value}{b o:Nat},aR m az l→(∀j v,l[j]? =some v→m.w.cell? ⟨b,o+j,none⟩=some v∧v.oneCell'=true∧nR m b (o+j))→fr m az b o
 |[],_,_,_,_,_=>by simp only[fr]
 |a::az,l,b,o,h,k=>by
  simp only[aR]at h
  obtain⟨v,af,rfl,U,aa⟩:=h
  simp only[fr]
  refine⟨⟨v,(k 0 v rfl).1,(k 0 v rfl).2.1,(k 0 v rfl).2.2,U⟩,fr.of aa fun j u bx=> ?_⟩
  have:=k (j+1) u (by simpa using bx)
  rwa [show o+(j+1)=o+1+j by omega]at this
theorem ef.of {m:Mem}{size:Nat}: ∀ {aS:List (List I)}{l:List Value}{b o:Nat},(∀r∈aS,r.length=size)→aR m aS.flatten l→(∀j v,l[j]? =some v→m.w.cell? ⟨b,o+j,none⟩=some v∧v.oneCell'=true∧nR m b (o+j))→ef m size aS b o
 |[],_,_,_,_,_,_=>by simp only[ef]
 |r::aS,l,b,o,hs,h,k=>by
  simp only[List.flatten_cons]at h
  have ac:r.length=size:=hs r (by simp)
  have U:=aR.take r.length h
  have aa:=aR.drop r.length h
  simp only[List.take_left]at U
  simp only[List.drop_left]at aa
  simp only[ef]
  refine⟨ac,fr.of U fun j v bx=>k j v ?_,ef.of (fun x ab=>hs x (by simp [ab])) aa fun j v bx=> ?_⟩
  ·rw[List.getElem?_take]at bx
   split at bx
   ·exact bx
   ·cases bx
  ·rw[List.getElem?_drop]at bx
   have:=k _ v bx
   rwa [show o+(r.length+j)=o+size+j by omega]at this
abbrev I.aD:I:= .ev (.slice none 0 0)
abbrev I.undef:I:= .ev Go.undef
def bh (a b:I):Prop:=∀m v,aP m a v→aP m b v
def eo:List I→List I→Prop
 |[],l=>l=[]
 |a::az,l=> ∃b bQ,l=b::bQ∧bh a b∧eo az bQ
inductive aJ where
 |t (n:Nat)
 |c (a:I)
abbrev Env:=List (Nat×I)
def Env.get:Env→Nat→I
 |[],_=> .eX
 |(k,v)::e,j=>bif k==j then v else Env.get e j
def Env.put (e:Env):Option Nat→I→Env
 |none,_=>e
 |some k,v=>(k,v)::e
def aJ.aI (env:Env):aJ→I
 | .t n=>env.get n
 | .c a=>a
inductive nP where
 |b
 |i (k:IntKind)
 |s
 deriving DecidableEq
inductive bg where
 |hO (x:aJ)
 |pick (c a b:aJ)
 |eB (x:aJ)
 |box (T:TypeId) (x:aJ)
 |alloc (T:TypeId) (zero:List I)
 |build (zero:List I) (parts:List (Nat×Nat×aJ))
 |da (T size n:Nat) (zero:List I) (parts:List (Nat×aJ))
 |nV (T size n:Nat) (zero:List I) (parts:List (Nat×aJ))
 |load (agg:Bool) (n:Nat) (x:aJ)
 |fP (fv:Nat) (agg:Bool) (n:Nat) (x:aJ)
 |pA (agg:Bool) (n:Nat) (x:aJ)
 |store (n:Nat) (a v:aJ)
 |pq (off:Nat) (x:aJ)
 |field (agg:Bool) (off n:Nat) (x:aJ)
 |gy (size:Nat) (x i:aJ)
 |oA (len size:Nat) (x i:aJ)
 |kj (agg:Bool) (len size:Nat) (x i:aJ)
 |ic (x i:aJ)
 |bin (op:BinOp) (x y:aJ)
 |rk (op:BinOp) (x y:aJ)
 |j1 (neg:Bool) (T:TypeId) (aT:List nP) (x y:aJ)
 |not (x:aJ)
 |neg (x:aJ)
 |conv (k:IntKind) (x:aJ)
 |mT (x:aJ)
 |len (x:aJ)
 |rE (n:Nat)
 |l1 (nv:Bool) (xs:List aJ)
 |append (T size bytes:Nat) (x y:aJ)
 |kE (x:aJ) (cJ ad:Option aJ)
 |ii (size:Nat) (x:aJ) (cJ ad nB:Option aJ)
 |r5 (int:Bool) (x:aJ)
 |kN (T:TypeId) (x:aJ)
 |Af (len size:Nat) (x:aJ)
 |vl (f:FuncId) (cap:List aJ)
 |extract (i:Nat) (x:aJ)
 |j6 (f:FuncId) (cap:List aJ)
 |qM (T:TypeId) (x:aJ)
 |call (f:FuncId) (args:List aJ)
 |gT (x:aJ) (args:List aJ)
 |gN (others:List Nat) (f:FuncId) (args:List aJ)
 |mo (others:List Nat) (x:aJ) (args:List aJ)
 |jF (f:FuncId) (args:List aJ)
 |ld (x:aJ) (args:List aJ)
 |ys (f:FuncId) (args:List aJ) (r:I)
 |yt (x:aJ) (args:List aJ) (r:I)
 |panic (x:aJ)
 |hP (fv:Nat) (others:List Nat) (n:Nat) (a v:aJ)
 |qH (neg:Bool) (x:aJ)
 |sJ (neg:Bool) (x:aJ)
 |o0 (T size bytes:Nat) (zero:List I) (x:aJ)
 |jJ (off:Nat) (x:aJ)
 |iq (x:aJ)
 |mkMap (T:TypeId)
 |ji (ok:Bool) (z:I) (x k:aJ)
 |oZ (x k v:aJ)
 |jr (size:Nat) (x i:aJ)
 |j5 (agg:Bool) (n:Nat) (x:aJ)
 |nj (T size bytes:Nat) (x y:aJ)
 |oI (size:Nat) (x:aJ) (cJ ad:Option aJ)
 |nU (T size n:Nat) (zero:List I) (parts:List (Nat×aJ))
 |tZ (T size:Nat) (f:FuncId) (args:List aJ)
 |zW (T size:Nat) (f:FuncId) (args:List aJ) (rows:List (List I))
def I.one:I→Bool
 | .agg _=>false
 | .cT _=>false
 | .eX=>false
 | .ev v=>v.oneCell'
 | _=>true
def I.cells:I→List I
 | .agg cs=>cs
 |a=>[a]
def I.fk:I→Bool
 | .agg _=>true
 |a=>a.one
def I.js (agg:Bool) (l:List I):Option I:=
 bif agg then some (.agg l) else match l with
  |[a]=>some a
  | _=>none
def r1 (op:BinOp) (k:IntKind) (a b:Int):Option I:=
 match op with
 | .add=>some (.int k (k.wrap (a+b)))
 | .sub=>some (.int k (k.wrap (a-b)))
 | .mul=>some (.int k (k.wrap (a*b)))
 | .eql=>some (.bool (decide (a=b)))
 | .neq=>some (.bool (!decide (a=b)))
 | .lss=>some (.bool (decide (a<b)))
 | .leq=>some (.bool (decide (a≤b)))
 | .gtr=>some (.bool (decide (b<a)))
 | .geq=>some (.bool (decide (b≤a)))
 | .and=>some (.int k (k.wrap (BitVec.ofInt k.bits a&&& BitVec.ofInt k.bits b).toNat))
 | .or=>some (.int k (k.wrap (BitVec.ofInt k.bits a|||BitVec.ofInt k.bits b).toNat))
 | .xor=>some (.int k (k.wrap (BitVec.ofInt k.bits a^^^BitVec.ofInt k.bits b).toNat))
 | .shl=>if 0≤b then some (.int k (k.wrap (a*2^(min b.toNat k.bits)))) else none
 | .shr=>if 0≤b then some (.int k (a.fdiv (2^(min b.toNat k.bits)))) else none
 | _=>none
def w4 (op:BinOp) (k:IntKind) (a b:Int):Option I:=
 match op with
 | .shl=>if 0≤b then some (.int k (k.wrap (a*2^(min b.toNat k.bits)))) else none
 | .shr=>if 0≤b then some (.int k (a.fdiv (2^(min b.toNat k.bits)))) else none
 | _=>none
def mn:List (List I)→Option (List UInt8)
 |[]=>some []
 |[.int .u8 n]::aS=>match mn aS with
  |some l=>some (UInt8.ofNat n.toNat::l)
  |none=>none
 | _=>none
def kA (env:Env) (Gl:Nat):Option aJ→Option Nat
 |none=>some Gl
 |some x=>match x.aI env with
  | .int _ (.ofNat n)=>some n
  | _=>none
def ur (op:BinOp) (a b:List UInt8):Option I:=
 match op with
 | .eql=>some (.bool (decide (a=b)))
 | .neq=>some (.bool (!decide (a=b)))
 | .lss=>some (.bool (Go.Op.bytesLess a b))
 | .leq=>some (.bool (Go.Op.bytesLess a b||decide (a=b)))
 | .gtr=>some (.bool (!(Go.Op.bytesLess a b||decide (a=b))))
 | .geq=>some (.bool (!Go.Op.bytesLess a b))
 | _=>none
def vX (op:BinOp) (a b:Bool):Option I:=
 match op with
 | .eql=>some (.bool (a==b))
 | .neq=>some (.bool (!(a==b)))
 | _=>none
def po:nP→I→I→Option Bool
 | .i l,.int k a,.int j b=>if k=l∧j=l then some (decide (a=b)) else none
 | .s,.str a,.str b=>some (decide (a=b))
 | .b,.bool a,.bool b=>some (a==b)
 | _,_,_=>none
def h9:List nP→List I→List I→Option Bool
 |[],[],[]=>some true
 |k::aT,a::az,b::bQ=>match po k a b,h9 aT az bQ with
  |some x,some y=>some (x&&y)
  | _,_=>none
 | _,_,_=>none
def gj (l:List I) (o:Nat) (new:List I):List I:=l.take o++new++l.drop (o+new.length)
def pg (env:Env) (cells:List I):List (Nat×Nat×aJ)→Option (List I)
 |[]=>some cells
 |(off,size,x)::rest=>
  let cs:=(x.aI env).cells
  if cs.length=size∧off+size≤cells.length∧(x.aI env).fk=true then pg env (gj cells off cs) rest else none
def mG (nv:Bool):I→List I→Option I
 | .int k a,[]=>some (.int k a)
 | .int k a,.int j b::rest=>if k=j then mG nv (.int k (if nv then max a b else min a b)) rest else none
 | _,_=>none
def ca (op:bg) (env:Env) (H:aA):Option I:=
 match op with
 | .hO x=>some (x.aI env)
 | .pick c a b=>match c.aI env with
  | .bool true=>some (a.aI env)
  | .bool false=>some (b.aI env)
  | _=>none
 | .eB x=>match x.aI env with
  | .ptr b o=>some (.ptr b o)
  | .eK r o=>some (.eK r o)
  | .fn f c=>some (.fn f c)
  | _=>none
 | .build zero parts=>(pg env zero parts).map .agg
 | .load agg n x=>match x.aI env with
  | .ptr b o=>match H.aZ b with
   |some (_,cs)=>if o+n≤cs.length then I.js agg ((cs.drop o).take n) else none
   |none=>none
  | .eK row o=>if o+n≤row.length then I.js agg ((row.drop o).take n) else none
  | _=>none
 | .fP fv agg n x=>match env.get fv,x.aI env with
  | .ptr b 0,.ptr b1 o=>if b1=b then (match H.aZ b1 with
   |some (_,cs)=>if o+n≤cs.length then I.js agg ((cs.drop o).take n) else none
   |none=>none) else none
  | _,_=>none
 | .pA agg n x=>match x.aI env with
  | .eK row o=>if o+n≤row.length then I.js agg ((row.drop o).take n) else none
  | _=>none
 | .pq off x=>match x.aI env with
  | .ptr b o=>some (.ptr b (o+off))
  | .eK row o=>some (.eK row (o+off))
  | _=>none
 | .field agg off n x=>match x.aI env with
  | .agg cs=>if off+n≤cs.length then I.js agg ((cs.drop off).take n) else none
  | _=>none
 | .bin op x y=>match x.aI env,y.aI env with
  | .int k a,.int j b=>if k=j then r1 op k a b else w4 op k a b
  | .str a,.str b=>ur op a b
  | _,_=>none
 | .rk op x y=>match x.aI env,y.aI env with
  | .bool a,.bool b=>vX op a b
  | _,_=>none
 | .j1 neg _ aT x y=>match x.aI env,y.aI env with
  | .agg a,.agg b=>(h9 aT a b).map fun r=> .bool (bif neg then !r else r)
  | _,_=>none
 | .not x=>match x.aI env with
  | .bool b=>some (.bool (!b))
  | _=>none
 | .sJ neg x=>match x.aI env with
  | .ptr _ _=>some (.bool neg)
  | .eK _ _=>some (.bool neg)
  | .ev (.pointer none)=>some (.bool (!neg))
  | _=>none
 | .neg x=>match x.aI env with
  | .int k n=>some (.int k (k.wrap (0-n)))
  | _=>none
 | .conv k x=>match x.aI env with
  | .int _ n=>some (.int k (k.wrap n))
  | _=>none
 | .mT x=>match x.aI env with
  | .str s=>some (.int .i64 s.length)
  | _=>none
 | .len x=>match x.aI env with
  | .af _ rows=>some (.int .i64 rows.length)
  | .own _ _ rows=>some (.int .i64 rows.length)
  | .ev (.slice _ n _)=>some (.int .i64 n)
  | _=>none
 | .rE n=>some (.int .i64 n)
 | .l1 nv xs=>match xs.map (aJ.aI env) with
  |a::rest=>mG nv a rest
  |[]=>none
 | .extract i x=>match x.aI env with
  | .cT l=>l[i]?
  | _=>none
 | .j6 f cap=>some (.fn f (cap.map (aJ.aI env)))
 | .vl f cap=>some (.fn (f+ke) (cap.map (aJ.aI env)))
 | .r5 int x=>match int,x.aI env with
  |true,.int _ n=>some (.str (Utf8.encode n).data.toList)
  |false,.af 1 rows=>(mn rows).map .str
  |false,.own _ 1 rows=>(mn rows).map .str
  |false,.ev (.slice none _ _)=>some (.str [])
  | _,_=>none
 | .qM T x=>some (.iE T (x.aI env))
 | _=>none
def cb.bX (T size n:Nat):cb:=⟨T,size,n,n,none⟩
def cb.bA (T size ver:Nat) (rows:List (List I)):cb:=⟨T,size,0,ver,some rows⟩
def cb.bb (T ver:Nat) (rows:List (List I)):cb:=⟨T,2,1,ver,some rows⟩
def ny (s:List UInt8):List (List I)→Option (Option I)
 |[]=>some none
 |[.str k,v]::r=>if s=k then some (some v) else ny s r
 | _:: _=>none
def l2 (s:List UInt8) (v:I):List (List I)→Option (List (List I))
 |[]=>some [[.str s,v]]
 |[.str k,w]::r=>if s=k then some ([.str s,v]::r) else (l2 s v r).map ([.str k,w]:: ·)
 | _:: _=>none
def l3 (ok:Bool) (z:I) (r:Option I):I:=if ok then .cT [r.getD z,.bool r.isSome] else r.getD z
inductive D where
 |dj (v:I)
 |km (T:TypeId) (cs:List I)
 |bj (o:cb) (v:Nat→I)
abbrev D.EF (T size:Nat) (rows:List (List I)):D:= .bj (.bX T size rows.length) fun x=> .own x size rows
abbrev D.yj (T size:Nat) (rows:List (List I)):D:= .bj (.bA T size 0 rows) fun x=> .c6 x 0
def D.fresh (d:D) (x:Nat) (H:aA):Prop:=
 match d with
 | .dj _=>True
 | .km _ _=>H.aZ x=none
 | .bj _ _=>H.tok x=none
def D.val (d:D) (x:Nat):I:=
 match d with
 | .dj v=>v
 | .km _ _=> .ptr x 0
 | .bj _ v=>v x
def D.heap (d:D) (H:aA) (x:Nat):aA:=
 match d with
 | .dj _=>H
 | .km T cs=>H.cp x T cs
 | .bj o _=>H.cj x o
inductive Out where
 |ret (a:I)
 |e5 (a:I)
def ti (m:Mem):Out→Ending→Prop
 | .ret a,e=> ∃v,e= .returned v∧aP m a v
 | .e5 a,e=> ∃v,e= .panicked [{v,recovered:=false}]∧aP m a v
def ko (P:Program) (f:FuncId) (args:List I) (H:aA) (Q:Out→aA→Prop):Prop:=
 ∀(m:Mem) (af:List Value),m.H=H→b9 m→aR m args af→
  Calls P f ⟨af⟩ m.w fun e w'=> ∃o aB hr cO,b9 ⟨w',aB,hr,cO⟩∧b8 m ⟨w',aB,hr,cO⟩∧ti ⟨w',aB,hr,cO⟩ o e∧Q o aB
def Pure (P:Program) (f:FuncId) (args:List I) (r:I):Prop:=∀H,ko P f args H fun o aB=>o= .ret r∧aB=H
def C8 (P:Program) (f:FuncId) (args:List I) (T size:Nat) (rows:List (List I)):Prop:=∀H,ko P f args H fun o aB=> ∃t,H.tok t=none∧o= .ret (.c6 t 0)∧aB=H.cj t (.bA T size 0 rows)
def di (P:Program) (f:FuncId):Bool:=match P.funcs[f]? with|some fn=>fn.body.isSome&& !(fn.name== "runtime.NumGoroutine")&&Nat.blt f ke|none=>false
def rowsOf (size:Nat):I→Option (List (List I))
 | .af s rows=>if s=size then some rows else none
 | .own _ s rows=>if s=size then some rows else none
 | .ev (.slice _ 0 _)=>some []
 | .str s=>if size=1 then some (s.map fun c=>[.int .u8 c.toNat]) else none
 | _=>none
def lr (env:Env) (parts:List (Nat×aJ)):List (List I):=parts.map fun p=>(p.2.aI env).cells
def oJ (size:Nat):I→Option (List (List I))
 | .af s rows=>if s=size then some rows else none
 | .own _ s rows=>if s=size then some rows else none
 | _=>none
inductive e9 (P:Program):bg→Env→aA→D→Prop
 |pure {op env H v}(h:ca op env H=some v):e9 P op env H (.dj v)
 |quo {x y env H k a b}(ab:x.aI env= .int k a) (aV:y.aI env= .int k b) (hb:b≠0):e9 P (.bin .quo x y) env H (.dj (.int k (k.wrap (a.tdiv b))))
 |rem {x y env H k a b}(ab:x.aI env= .int k a) (aV:y.aI env= .int k b) (hb:b≠0):e9 P (.bin .rem x y) env H (.dj (.int k (a.tmod b)))
 |j0 {x y env H a b}(ab:x.aI env= .str a) (aV:y.aI env= .str b) (hb:a.length+b.length≤maxLen):e9 P (.bin .add x y) env H (.dj (.str (a++b)))
 |py {size x i env H rows k n r}(ab:x.aI env= .af size rows) (ad:i.aI env= .int k n) (aU:0≤n) (ac:rows[n.toNat]? =some r):e9 P (.gy size x i) env H (.dj (.eK r 0))
 |pw {size x i env H t rows k n r}(ab:x.aI env= .own t size rows) (ad:i.aI env= .int k n) (aU:0≤n) (ac:rows[n.toNat]? =some r):e9 P (.gy size x i) env H (.dj (.eK r 0))
 |qk {size x i env H b o cap k}{len:Nat}{n:Int}(ab:x.aI env= .ev (.slice (some ⟨b,o,none⟩) len cap)) (ad:i.aI env= .int k n) (aU:0≤n) (U:n<(len:Int)):e9 P (.gy size x i) env H (.dj (.ptr b (o+n.toNat*size)))
 |oY {size x i env H b o k}{len:Nat}{n:Int}(ab:x.aI env= .ptr b o) (ad:i.aI env= .int k n) (aU:0≤n) (U:n<(len:Int)):e9 P (.oA len size x i) env H (.dj (.ptr b (o+n.toNat*size)))
 |px {size x i env H row o k}{len:Nat}{n:Int}(ab:x.aI env= .eK row o) (ad:i.aI env= .int k n) (aU:0≤n) (U:n<(len:Int)):e9 P (.oA len size x i) env H (.dj (.eK row (o+n.toNat*size)))
 |kj {agg size x i env H cs k}{len:Nat}{n:Int}{v}(ab:x.aI env= .agg cs) (ad:i.aI env= .int k n) (aU:0≤n) (U:n<(len:Int)) (aC:n.toNat*size+size≤cs.length) (ae:I.js agg ((cs.drop (n.toNat*size)).take size)=some v):e9 P (.kj agg len size x i) env H (.dj v)
 |ic {x i env H s k n c}(ab:x.aI env= .str s) (ad:i.aI env= .int k n) (aU:0≤n) (aq:s[n.toNat]? =some c):e9 P (.ic x i) env H (.dj (.int .u8 c.toNat))
 |kE {x cJ ad env H s l h}(ab:x.aI env= .str s) (aC:kA env 0 cJ=some l) (a8:kA env s.length ad=some h) (U:l≤h) (aa:h≤s.length):e9 P (.kE x cJ ad) env H (.dj (.str ((s.take h).drop l)))
 |ii {size x cJ ad env H rows l h}(ab:oJ size (x.aI env)=some rows) (aC:kA env 0 cJ=some l) (a8:kA env rows.length ad=some h) (U:l≤h) (aa:h≤rows.length):e9 P (.ii size x cJ ad none) env H (.dj (.af size ((rows.take h).drop l)))
 |kN {T x env H s}(ab:x.aI env= .str s):e9 P (.kN T x) env H (.dj (.af 1 (s.map fun c=>[.int .u8 c.toNat])))
 |box {T x env H}(ab:((x.aI env).cells).all I.one=true):e9 P (.box T x) env H (.km T (x.aI env).cells)
 |alloc {T zero env H}(aG:zero.all I.one=true):e9 P (.alloc T zero) env H (.km T zero)
 |pT {T size n zero parts env H rows}(ac:lr env parts=rows) (hs:rows.all (fun r=>r.length==size)=true) (ao:rows.flatten.all I.one=true):e9 P (.da T size n zero parts) env H (.dj (.af size rows))
 |nV {T size n zero parts env H rows}(ac:lr env parts=rows) (hs:rows.all (fun r=>r.length==size)=true) (ao:rows.flatten.all I.one=true) (aU:size≠0):e9 P (.nV T size n zero parts) env H (.EF T size rows)
 |rY {T size bytes x y env H rows}(ab:x.aI env= .aD) (aV:rowsOf size (y.aI env)=some rows) (hb:rows.length*bytes≤140737488355328) (hm:rows.length≤maxLen) (aU:size≠0):e9 P (.append T size bytes x y) env H (.EF T size rows)
 |iq {x env H t ver T size rows}(ab:x.aI env= .c6 t ver) (ht:H.tok t=some (.bA T size ver rows)):e9 P (.iq x) env H (.dj (.int .i64 rows.length))
 |mkMap {T env H}:e9 P (.mkMap T) env H (.bj (.bb T 0 []) fun x=> .c6 x 0)
 |ji {ok z x k env H t ver T rows s r}(ab:x.aI env= .c6 t ver) (ht:H.tok t=some (.bb T ver rows)) (aw:k.aI env= .str s) (ac:ny s rows=some r):e9 P (.ji ok z x k) env H (.dj (l3 ok z r))
 |rF {ok z x k env H s}(ab:x.aI env= .ev (.map none)) (aw:k.aI env= .str s):e9 P (.ji ok z x k) env H (.dj (l3 ok z none))
 |o0 {T size bytes zero x env H k}{n:Nat}(ab:x.aI env= .int k (n:Int)) (hb:bytes*n≤281474976710656) (hm:n≤maxLen) (ao:zero.all I.one=true) (aG:zero.length=size) (aU:size≠0):e9 P (.o0 T size bytes zero x) env H (.yj T size (List.replicate n zero))
 |wO {neg x env H}(ab:x.aI env= .aD):e9 P (.qH neg x) env H (.dj (.bool (!neg)))
 |wN {neg x env H size rows}(ab:x.aI env= .af size rows) (ac:rows≠[]):e9 P (.qH neg x) env H (.dj (.bool neg))
 |jJ {off x env H t ver k T size rows}(ab:x.aI env= .mp t ver k) (ht:H.tok t=some (.bA T size ver rows)):e9 P (.jJ off x) env H (.dj (.mp t ver (k+off)))
 |jr {size x i env H t ver T rows k n}(ab:x.aI env= .c6 t ver) (ht:H.tok t=some (.bA T size ver rows)) (ad:i.aI env= .int k n) (aU:0≤n) (U:n<(rows.length:Int)):e9 P (.jr size x i) env H (.dj (.mp t ver (n.toNat*size)))
 |j5 {agg n x env H t ver k T size rows v}(ab:x.aI env= .mp t ver k) (ht:H.tok t=some (.bA T size ver rows)) (aC:k+n≤rows.flatten.length) (ae:I.js agg ((rows.flatten.drop k).take n)=some v):e9 P (.j5 agg n x) env H (.dj v)
 |nU {T size n zero parts env H rows}(ac:lr env parts=rows) (hs:rows.all (fun r=>r.length==size)=true) (ao:rows.flatten.all I.one=true) (aU:size≠0):e9 P (.nU T size n zero parts) env H (.yj T size rows)
 |xu {T size bytes x y env H rows}(ab:x.aI env= .aD) (aV:rowsOf size (y.aI env)=some rows) (hb:rows.length*bytes≤140737488355328) (hm:rows.length≤maxLen) (aU:size≠0):e9 P (.nj T size bytes x y) env H (.yj T size rows)
 |wX {f args env H az T size rows}(aL:eo (args.map (aJ.aI env)) az) (h:C8 P f az T size rows):e9 P (.zW T size f args rows) env H (.yj T size rows)
 |jF {f args env H az r}(aL:eo (args.map (aJ.aI env)) az) (h:Pure P f az r):e9 P (.call f args) env H (.dj r)
 |ld {x args env H f cap az r}(ab:x.aI env= .fn f cap) (hf:di P f=true) (aL:eo (args.map (aJ.aI env)++cap) az) (h:Pure P f az r):e9 P (.gT x args) env H (.dj r)
 |qT {f args env H az r}(aL:eo (args.map (aJ.aI env)) az) (h:Pure P f az r):e9 P (.ys f args r) env H (.dj r)
 |rK {x args env H f cap az r}(ab:x.aI env= .fn f cap) (hf:di P f=true) (aL:eo (args.map (aJ.aI env)++cap) az) (h:Pure P f az r):e9 P (.yt x args r) env H (.dj r)
def yW (K Rp:I→aA→Prop) (aB:aA):Out→Prop
 | .ret v=>K v aB
 | .e5 v=>Rp v aB
def ix (H:aA):Prop:=∃N,∀n,N≤n→H.aZ n=none∧H.tok n=none
inductive iK (P:Program):bg→Env→aA→(I→aA→Prop)→(I→aA→Prop)→Prop
 |ij {op env H K Rp}(d:D) (br:e9 P op env H d) (h: ∀x,d.fresh x H→K (d.val x) (d.heap H x)):iK P op env H K Rp
 |store {n a v env H K Rp b o T cs}(aL:a.aI env= .ptr b o) (hb:H.aZ b=some (T,cs)) (aW:(v.aI env).cells.length=n) (aC:o+n≤cs.length) (ao:((v.aI env).cells).all I.one=true)
  (h:K .undef (H.cp b T (gj cs o (v.aI env).cells))):iK P (.store n a v) env H K Rp
 |hP {fv others n a v env H K Rp b o T cs}(qC:env.get fv= .ptr b 0) (mD: ∀s∈others,∃b1,env.get s= .ptr b1 0∧b1≠b) (aL:a.aI env= .ptr b o) (hb:H.aZ b=some (T,cs)) (aW:(v.aI env).cells.length=n) (aC:o+n≤cs.length) (ao:((v.aI env).cells).all I.one=true)
  (h:K .undef (H.cp b T (gj cs o (v.aI env).cells))):iK P (.hP fv others n a v) env H K Rp
 |append {T size bytes x y env H K Rp t rows new}(ab:x.aI env= .own t size rows) (ht:H.tok t=some (.bX T size rows.length)) (aV:rowsOf size (y.aI env)=some new) (hb:(rows.length+new.length)*bytes≤140737488355328) (hm:rows.length+new.length≤maxLen)
  (h:K (.own t size (rows++new)) (H.cj t (.bX T size (rows.length+new.length)))):iK P (.append T size bytes x y) env H K Rp
 |nj {T size bytes x y env H K Rp t ver rows new}(ab:x.aI env= .c6 t ver) (ht:H.tok t=some (.bA T size ver rows)) (aV:rowsOf size (y.aI env)=some new) (hb:(rows.length+new.length)*bytes≤140737488355328) (hm:rows.length+new.length≤maxLen)
  (h:K (.c6 t (ver+1)) (H.cj t (.bA T size (ver+1) (rows++new)))):iK P (.nj T size bytes x y) env H K Rp
 |BP {neg x env H K Rp size rows}(ab:x.aI env= .af size rows) (h: ∀b,K (.bool b) H):iK P (.qH neg x) env H K Rp
 |oI {size x cJ ad env H K Rp t ver T rows h q}(ab:x.aI env= .c6 t ver) (ht:H.tok t=some (.bA T size ver rows)) (aC:kA env 0 cJ=some q) (a8:kA env rows.length ad=some h) (U:h≤rows.length) (bw:q≤h)
  (h:K (.c6 t (ver+1)) (H.cj t (.bA T size (ver+1) ((rows.take h).drop q)))):iK P (.oI size x cJ ad) env H K Rp
 |w7 {n a v env H K Rp t ver k T size rows rows'}(aL:a.aI env= .mp t ver k) (ht:H.tok t=some (.bA T size ver rows)) (aW:(v.aI env).cells.length=n) (aC:k+n≤rows.flatten.length) (ao:((v.aI env).cells).all I.one=true)
  (hf:rows'.flatten=gj rows.flatten k (v.aI env).cells) (ac: ∀r∈rows',r.length=size) (hlen:rows'.length=rows.length)
  (h:K .undef (H.cj t (.bA T size ver rows'))):iK P (.store n a v) env H K Rp
 |oZ {x k v env H K Rp t ver T rows rows' s}(ab:x.aI env= .c6 t ver) (ht:H.tok t=some (.bb T ver rows)) (aw:k.aI env= .str s) (ao:(v.aI env).one=true) (ac:l2 s (v.aI env) rows=some rows')
  (h:K .undef (H.cj t (.bb T ver rows'))):iK P (.oZ x k v) env H K Rp
 |call {f args env H K Rp az}(Q:Out→aA→Prop) (aL:eo (args.map (aJ.aI env)) az) (aq:ko P f az H Q) (h: ∀o aB,Q o aB→yW K Rp aB o):iK P (.call f args) env H K Rp
 |gN {others f args env H K Rp az}(Q:Out→aA→Prop) (ao: ∀s∈others,∃b,env.get s= .ptr b 0∧∀o aB,Q o aB→aB.aZ b=H.aZ b) (he:ix H→∃r aB,Q (.ret r) aB∧ix aB) (aL:eo (args.map (aJ.aI env)) az) (aq:ko P f az H Q) (h: ∀o aB,Q o aB→yW K Rp aB o):iK P (.gN others f args) env H K Rp
 |mo {others x args env H K Rp f cap az}(Q:Out→aA→Prop) (ab:x.aI env= .fn f cap) (hf:di P f=true) (ao: ∀s∈others,∃b,env.get s= .ptr b 0∧∀o aB,Q o aB→aB.aZ b=H.aZ b) (he:ix H→∃r aB,Q (.ret r) aB∧ix aB) (aL:eo (args.map (aJ.aI env)++cap) az) (aq:ko P f az H Q) (h: ∀o aB,Q o aB→yW K Rp aB o):iK P (.mo others x args) env H K Rp
 |gT {x args env H K Rp f cap az}(Q:Out→aA→Prop) (ab:x.aI env= .fn f cap) (hf:di P f=true) (aL:eo (args.map (aJ.aI env)++cap) az) (aq:ko P f az H Q) (h: ∀o aB,Q o aB→yW K Rp aB o):iK P (.gT x args) env H K Rp
 |y8 {x args env H K Rp f cap az}(Q:Out→aA→Prop) (ab:x.aI env= .fn (f+ke) cap) (hf:di P f=true) (aL:eo (cap++args.map (aJ.aI env)) az) (aq:ko P f az H Q) (h: ∀o aB,Q o aB→yW K Rp aB o):iK P (.gT x args) env H K Rp
 |Ag {len size x env H K Rp b T cs rows}(ab:x.aI env= .ptr b 0) (hb:H.aZ b=some (T,cs)) (hf:rows.flatten=cs) (ac: ∀r∈rows,r.length=size) (aC:rows.length=len) (aU:0<len) (hm:len≤maxLen)
  (h:K (.af size rows) (H.qz b)):iK P (.Af len size x) env H K Rp
 |panic {x env H K Rp t v}(ab:x.aI env= .iE t v) (h:Rp (.iE t v) H):iK P (.panic x) env H K Rp
structure bY where
 dst:Option Nat
 guard:Option (Nat×Bool)
 op:bg
def wanted (i:bY) (env:Env):Option Bool:=
 match i.guard with
 |none=>some true
 |some (j,want)=>match env.get j with
  | .bool b=>some (b==want)
  | .ev (.tuple ⟨[]⟩)=>some false
  | _=>none
def bt (P:Program):List bY→Env→aA→(Env→aA→Prop)→(I→aA→Prop)→Prop
 |[],env,H,K,_=>K env H
 |i::l,env,H,K,Rp=>match wanted i env with
  |some true=>iK P i.op env H (fun v aB=>bt P l (env.put i.dst v) aB K Rp) Rp
  |some false=>bt P l (env.put i.dst .undef) H K Rp
  |none=>False
def I.rows:I→List (List I)
 | .af _ rows=>rows
 | _=>[]
def fs:List bY→List I→List bY
 |[],_=>[]
 |⟨d,g,.jF f args⟩::l,r::aS=>⟨d,g,.ys f args r⟩::fs l aS
 |⟨d,g,.ld x args⟩::l,r::aS=>⟨d,g,.yt x args r⟩::fs l aS
 |⟨d,g,.tZ T size f args⟩::l,r::aS=>⟨d,g,.zW T size f args (I.rows r)⟩::fs l aS
 |i::l,aS=>i::fs l aS
inductive bm where
 |skip
 |region (ops:List bY) (draw:Bool)
 |seq (a b:bm)
 |cond (c:aJ) (a b:bm)
 |block (id:Nat) (body:bm)
 |loop (body:bm)
 |exit (id:Nat)
 |ret
 |uG (d:Nat) (f:FuncId) (cap:List aJ)
inductive Item where
 |c (c:bm)
 |aZ (id:Nat)
 |round (fK:Nat→Env→aA→Prop) (m0:Nat)
def qV (id:Nat):List Item→Option (List Item)
 | .aZ j::k=>if j=id then some k else qV id k
 | _::k=>qV id k
 |[]=>none
inductive bc where
 |t (n:Nat)
 |cell (agg:Bool) (n:Nat) (addr:Nat)
def bc.aI (env:Env) (H:aA):bc→Option I
 | .t n=>some (env.get n)
 | .cell agg n a=>ca (.load agg n (.t a)) env H
def results (aS:List bc) (env:Env) (H:aA):Option I:=
 match aS with
 |[r]=>r.aI env H
 |aS=>(aS.mapM (bc.aI env H)).map .cT
def bm.l6 (t:Nat):bm→Bool
 | .region ops _=>ops.all fun i=>i.dst !=some t
 | .seq a b=>bm.l6 t a&&bm.l6 t b
 | .cond _ a b=>bm.l6 t a&&bm.l6 t b
 | .block _ b=>bm.l6 t b
 | .loop b=>bm.l6 t b
 | .uG d _ _=>d !=t
 | _=>true
def Item.l6 (t:Nat):Item→Bool
 | .c e=>e.l6 t
 | .aZ _=>true
 | .round _ _=>false
def vR (P:Program) (f:FuncId) (hA:List I) (x:I) (H:aA) (Q:aA→Prop):Prop:=
 ∀(m:Mem) (af:List Value) (lV:Value),m.H=H→b9 m→aR m hA af→aP m x lV→
  CallsD P f ⟨af⟩ (.panicking [{v:=lV,recovered:=false}]) m.w fun e rQ w'=>(∃v,e= .returned v)∧rQ= .panicking [{v:=lV,recovered:=true}]∧∃aB hr cO,b9 ⟨w',aB,hr,cO⟩∧b8 m ⟨w',aB,hr,cO⟩∧Q aB
def CZ (P:Program) (f:FuncId) (hA:List I):Prop:=
 ∀(m:Mem) (af:List Value),b9 m→aR m hA af→CallsD P f ⟨af⟩ .returning m.w fun e rQ w'=>(∃v,e= .returned v)∧rQ= .returning∧∃hr cO,b9 ⟨w',m.H,hr,cO⟩∧b8 m ⟨w',m.H,hr,cO⟩
inductive cF (P:Program) (aS:List bc):(Out→aA→Prop)→List Item→Env→aA→Prop
 |done {R:Out→aA→Prop}{env H v}(ae:aO.results aS env H=some v) (h:R (.ret v) H):cF P aS R [] env H
 |ret {R:Out→aA→Prop}{k env H v}(ae:aO.results aS env H=some v) (h:R (.ret v) H):cF P aS R (.c .ret::k) env H
 |skip {R:Out→aA→Prop}{k env H}(h:cF P aS R k env H):cF P aS R (.c .skip::k) env H
 |AL {R:Out→aA→Prop}{id k env H}(h:cF P aS R k env H):cF P aS R (.aZ id::k) env H
 |seq {R:Out→aA→Prop}{a b k env H}(h:cF P aS R (.c a:: .c b::k) env H):cF P aS R (.c (.seq a b)::k) env H
 |block {R:Out→aA→Prop}{id body k env H}(h:cF P aS R (.c body:: .aZ id::k) env H):cF P aS R (.c (.block id body)::k) env H
 |exit {R:Out→aA→Prop}{id k fO env H}(aw:qV id k=some fO) (h:cF P aS R fO env H):cF P aS R (.c (.exit id)::k) env H
 |cond {R:Out→aA→Prop}{c a b k env H t}(aq:c.aI env= .bool t) (U:t=true→cF P aS R (.c a::k) env H) (aa:t=false→cF P aS R (.c b::k) env H):cF P aS R (.c (.cond c a b)::k) env H
 |region {R:Out→aA→Prop}{ops draw k env H}(anns:List I) (K:Env→aA→Prop) (h:bt P (fs ops anns) env H K (fun v aB=>R (.e5 v) aB)) (dZ: ∀bd aB,K bd aB→cF P aS R k bd aB):cF P aS R (.c (.region ops draw)::k) env H
 |loop {R:Out→aA→Prop}{body k env H}(fK:Nat→Env→aA→Prop) (m:Nat) (aU:fK m env H) (h: ∀aX bd aB,fK aX bd aB→cF P aS R (.c body:: .round fK aX::k) bd aB):cF P aS R (.c (.loop body)::k) env H
 |round {R:Out→aA→Prop}{fK m0 k env H}(m:Nat) (aU:fK m env H) (U:m<m0):cF P aS R (.round fK m0::k) env H
 |conv {R:Out→aA→Prop}{k env H}(S:Env→aA→Prop) (hs: ∀m:Mem,m.H=H→b9 m→∃bd aB hr cO,S bd aB∧b9 ⟨m.w,aB,hr,cO⟩∧b8 m ⟨m.w,aB,hr,cO⟩∧∀j v,aP m (env.get j) v→aP ⟨m.w,aB,hr,cO⟩ (bd.get j) v) (h: ∀bd aB,S bd aB→cF P aS R k bd aB):cF P aS R k env H
 |As {R:Out→aA→Prop}{k env bd H}(he: ∀j,bh (env.get j) (bd.get j)) (h:cF P aS R k bd H):cF P aS R k env H
 |uG {R:Out→aA→Prop}{d:Nat}{f:FuncId}{cap:List aJ}{k:List Item}{env:Env}{H:aA}(pQ:Out→aA→Prop) (kt:Env) (Eh: ∀j,bh (env.get j) (kt.get j)) (aw: ∀p∈kt,k.all (Item.l6 p.1)=true) (br: ∀p∈kt,d≠p.1) (aq:k.all (fun i=>match i with| .round _ _=>false| _=>true)=true)
  (hf:di P f=true) (Ed:CZ P f (cap.map (aJ.aI env))) (Eo: ∀v aB,pQ (.ret v) aB→R (.ret v) aB)
  (En: ∀x aB,pQ (.e5 x) aB→vR P f (cap.map (aJ.aI env)) x aB fun dQ=> ∃v,aO.results aS kt dQ=some v∧R (.ret v) dQ)
  (h:cF P aS pQ k ((d,.fn f (cap.map (aJ.aI env)))::env) H):cF P aS R (.c (.uG d f cap)::k) env H
variable {P:Program}{aS:List bc}{R:Out→aA→Prop}
theorem cF.iU {ops draw k env H}(anns:List I) (h:bt P (fs ops anns) env H (fun bd aB=>cF P aS R k bd aB) (fun v aB=>R (.e5 v) aB)):cF P aS R (.c (.region ops draw)::k) env H:=
 cF.region anns _ h fun _ _ h=>h
theorem bt.nil {env H K Rp}(h:K env H):bt P [] env H K Rp:=h
theorem bt.step {i l env H K Rp}(hw:wanted i env=some true) (h:iK P i.op env H (fun v aB=>bt P l (env.put i.dst v) aB K Rp) Rp):bt P (i::l) env H K Rp:=by
 simp only[bt,hw]; exact h
theorem bt.skip {i l env H K Rp}(hw:wanted i env=some false) (h:bt P l (env.put i.dst .undef) H K Rp):bt P (i::l) env H K Rp:=by
 simp only[bt,hw]; exact h
theorem bt.pF {i l env H K Rp v}(hw:wanted i env=some true) (ae:ca i.op env H=some v) (h:bt P l (env.put i.dst v) H K Rp):bt P (i::l) env H K Rp:=
 bt.step hw (.ij (.dj v) (.pure ae) fun _ _=>h)
theorem bt.xD {i l env H K Rp}(d:D) (hw:wanted i env=some true) (br:e9 P i.op env H d) (h: ∀x,d.fresh x H→bt P l (env.put i.dst (d.val x)) (d.heap H x) K Rp):bt P (i::l) env H K Rp:=
 bt.step hw (.ij d br h)
end Go.aO
namespace Go.aO
open Go
theorem qD (w:World) (o:Obj) (i:Nat) (h:i<w.heap.size):(w.alloc o).heap[i]? =w.heap[i]? :=by
 show (w.heap.push o)[i]? = _
 rw[Array.getElem?_push,if_neg (by omega)]
theorem u2 (w:World) (o:Obj):(w.alloc o).heap[w.heap.size]? =some o:=by
 show (w.heap.push o)[w.heap.size]? = _
 rw[Array.getElem?_push,if_pos rfl]
theorem b8.hid {m:Mem}{w':World}(U:w'.os=m.w.os) (aa:w'.tape=m.w.tape) (ay:w'.output=m.w.output) (bl:m.w.heap.size≤w'.heap.size) (bW: ∀b,b<m.w.heap.size→w'.heap[b]? =m.w.heap[b]?):b8 m {m with w:=w'} where
 os:=U
 tape:=aa
 output:=ay
 size:=bl
 T:=Nat.le_refl _
 block:=fun b hb h jp=>⟨bW b hb,h,jp⟩
 cell:=fun b o hs=>⟨⟨Nat.lt_of_lt_of_le hs.lt bl,hs.aZ,hs.tok⟩,World.cell?_of_block (a:=⟨b,o,none⟩) (bW b hs.lt)⟩
 tok:=fun t dB _ h=>⟨dB,h,Nat.le_refl _,rfl,fun _=>rfl⟩
theorem aG1 {w w':World}{base:Nat}{e:TypeId}{size n:Nat}{v:Value}{xs:List Value}(h:w.ownsRow base e size v n xs) (aw: ∀b,v.e4=some b→w'.heap[b]? =w.heap[b]?):w'.ownsRow base e size v n xs:=by
 refine⟨h.1,?_⟩
 rcases h.2 with aW|⟨g,cap,cur,rfl,hb,HD,rest⟩
 ·exact .inl aW
 ·exact .inr ⟨g,cap,cur,rfl,hb,by rw[aw g (by simp [Value.e4])]; exact HD,rest⟩
theorem aG0 {w w':World}{e:TypeId}{size n:Nat}{v:Value}{xs:List Value}(h:w.Co e size v n xs) (aw: ∀b,v.e4=some b→w'.heap[b]? =w.heap[b]?):w'.Co e size v n xs:=by
 refine⟨h.1,?_⟩
 rcases h.2 with aW|⟨g,p,cap,cur,rfl,HD,rest⟩
 ·exact .inl aW
 ·exact .inr ⟨g,p,cap,cur,rfl,by rw[aw g (by simp [Value.e4])]; exact HD,rest⟩
theorem aG2 {w:World}{i:cb}{v:Value}{xs:List Value}(h:w.sI i v xs):w.ownsRow 0 i.ty i.size v i.len xs∨w.Co i.ty i.size v i.len xs∨∃b es pi,v= .map (some b)∧w.heap[b]? =some (.map es pi)∧xs=es.toList.flatMap fun e=>[e.key,e.val]:=by
 obtain⟨ty,size,n,ver,lU⟩:=i
 cases lU with
 |none=>exact .inl h
 |some rows=>cases n with
  |zero=>exact .inr (.inl h)
  |succ n=>exact .inr (.inr h)
theorem zU {w w':World}{i:cb}{v:Value}{xs:List Value}(h:w.sI i v xs) (aw: ∀b,v.e4=some b→w'.heap[b]? =w.heap[b]?):w'.sI i v xs:=by
 obtain⟨ty,size,n,ver,lU⟩:=i
 cases lU with
 |none=>exact aG1 h aw
 |some rows=>cases n with
  |zero=>exact aG0 h aw
  |succ n=>
   obtain⟨b,es,pi,rfl,aa,ay⟩:=h
   exact⟨b,es,pi,rfl,(aw b rfl).trans aa,ay⟩
theorem _root_.Go.World.sI.lt {w:World}{i:cb}{v:Value}{xs:List Value}(h:w.sI i v xs) (b:Nat) (hb:v.e4=some b):0≤b∧b<w.heap.size:=by
 rcases aG2 h with h|h|⟨c,es,pi,rfl,aa,_⟩
 ·refine h.lt b ?_
  rcases h.2 with ⟨rfl,_⟩|⟨g,cap,cur,rfl,_⟩
  ·simp [Value.e4]at hb
  ·exact hb
 ·rcases h.2 with ⟨rfl,_⟩|⟨g,p,cap,cur,rfl,a7,_⟩
  ·simp [Value.e4]at hb
  ·simp only[Value.e4,Option.some.injEq]at hb
   subst hb
   exact⟨Nat.zero_le _,(Array.getElem?_eq_some_iff.1 a7).1⟩
 ·simp only[Value.e4,Option.some.injEq]at hb
  subst hb
  exact⟨Nat.zero_le _,(Array.getElem?_eq_some_iff.1 aa).1⟩
theorem _root_.Go.World.sI.alloc {w:World}{i:cb}{v:Value}{xs:List Value}(h:w.sI i v xs) (o:Obj):(w.alloc o).sI i v xs:=
 zU h fun b hb=>qD w o b (h.lt b hb).2
theorem b9.hid {m:Mem}(r:b9 m){w':World}(U:w'.os=m.w.os) (aa:w'.tape=m.w.tape) (ay:w'.output=m.w.output) (bl:m.w.heap.size≤w'.heap.size) (bW: ∀b,b<m.w.heap.size→w'.heap[b]? =m.w.heap[b]?):b9 {m with w:=w'} where
 mx:=(q5.aI (b8.hid U aa ay bl bW) r.mx r.my).1
 my:=(q5.aI (b8.hid U aa ay bl bW) r.mx r.my).2
 aZ:=fun b T cs hb=>by
  obtain⟨l,ar,ax,bU⟩:=r.aZ b T cs hb
  have cB:b<m.w.heap.size:=(Array.getElem?_eq_some_iff.1 ar).1
  exact⟨l,(bW b cB).trans ar,aR.aI (b8.hid U aa ay bl bW) cs l ax,bU⟩
 tok:=fun t i ht=>by
  obtain⟨bf,bi,⟨xs,cz,gr⟩,eu⟩:=r.tok t i ht
  exact⟨bf,bi,⟨xs,zU cz fun b hb=>bW b (cz.lt b hb).2,fun rows ac=>⟨aR.aI (b8.hid U aa ay bl bW) _ _ (gr rows ac).1,(gr rows ac).2⟩⟩,eu⟩
theorem b8.drew (m:Mem):b8 m {m with w:=m.w.drew}:=b8.hid rfl rfl rfl (Nat.le_refl _) fun _ _=>rfl
theorem b9.drew {m:Mem}(r:b9 m):b9 {m with w:=m.w.drew}:=r.hid rfl rfl rfl (Nat.le_refl _) fun _ _=>rfl
theorem b8.alloc (m:Mem) (o:Obj):b8 m {m with w:=m.w.alloc o}:=b8.hid rfl rfl rfl (by simp) fun b hb=>qD m.w o b hb
theorem b9.alloc {m:Mem}(r:b9 m) (o:Obj):b9 {m with w:=m.w.alloc o}:=r.hid rfl rfl rfl (by simp) fun b hb=>qD m.w o b hb
theorem uu {m:Mem}(r:b9 m){b T cs}(h:m.H.aZ b=some (T,cs)):b<m.w.heap.size:=by
 obtain⟨l,ar,_⟩:=r.aZ b T cs h
 exact (Array.getElem?_eq_some_iff.1 ar).1
theorem y3 {m:Mem}(r:b9 m):m.H.aZ m.w.heap.size=none:=by
 cases h:m.H.aZ m.w.heap.size with
 |none=>rfl
 |some x=>have:=uu r (b:=m.w.heap.size) (T:=x.1) (cs:=x.2) h; omega
theorem w9 {m:Mem}(r:b9 m){t i b}(h:m.H.tok t=some i) (hb:(m.L t).e4=some b):b<m.w.heap.size:=by
 obtain⟨_,_,⟨xs,cz,_⟩,_⟩:=r.tok t i h
 exact (cz.lt b hb).2
theorem s3 {m:Mem}(r:b9 m):m.H.tok m.T=none:=by
 cases h:m.H.tok m.T with
 |none=>rfl
 |some i=>have:=(r.tok _ _ h).1; omega
def Mem.b4 (m:Mem) (T:TypeId) (cs:List I) (l:List Value):Mem:={m with w:=m.w.alloc (.cells ⟨l⟩ T),H:=m.H.cp m.w.heap.size T cs}
theorem b8.b4 (m:Mem) (T:TypeId) (cs:List I) (l:List Value):b8 m (m.b4 T cs l) where
 os:=rfl
 tape:=rfl
 output:=rfl
 size:=by simp [Mem.b4]
 T:=Nat.le_refl _
 block:=fun b hb h jp=>⟨qD m.w _ b hb,by simp only[Mem.b4,aA.cp]; rw[if_neg (by omega)]; exact h,jp⟩
 cell:=fun b o hs=>⟨⟨by have:=hs.lt; simp [Mem.b4]; omega,by have:=hs.lt; simp only[Mem.b4,aA.cp]; rw[if_neg (by omega)]; exact hs.aZ,hs.tok⟩,World.cell?_of_block (a:=⟨b,o,none⟩) (qD m.w _ b hs.lt)⟩
 tok:=fun t dB _ h=>⟨dB,h,Nat.le_refl _,rfl,fun _=>rfl⟩
theorem b9.b4 {m:Mem}(r:b9 m){T:TypeId}{cs:List I}{l:List Value}(aC:aR m cs l) (ao: ∀v∈l,v.oneCell'=true):b9 (m.b4 T cs l) where
 mx:=(q5.aI (b8.b4 m T cs l) r.mx r.my).1
 my:=(q5.aI (b8.b4 m T cs l) r.mx r.my).2
 aZ:=fun b cO cE hb=>by
  simp only[Mem.b4,aA.cp]at hb
  by_cases e:b=m.w.heap.size
  ·rw[if_pos e]at hb
   simp only[Option.some.injEq,Prod.mk.injEq]at hb
   obtain⟨rfl,rfl⟩:=hb
   subst e
   exact⟨l,u2 m.w _,aR.aI (b8.b4 m _ _ l) _ l aC,ao⟩
  ·rw[if_neg e]at hb
   obtain⟨cc,ar,ax,bU⟩:=r.aZ b cO cE hb
   exact⟨cc,(qD m.w _ b (uu r hb)).trans ar,aR.aI (b8.b4 m _ _ l) _ cc ax,bU⟩
 tok:=fun t i ht=>by
  obtain⟨bf,bi,⟨xs,cz,gr⟩,eu⟩:=r.tok t i ht
  refine⟨bf,bi,⟨xs,cz.alloc _,fun rows ac=>⟨aR.aI (b8.b4 m _ _ l) _ _ (gr rows ac).1,(gr rows ac).2⟩⟩,fun b hb=> ?_⟩
  obtain⟨g1,g2⟩:=eu b hb
  have:=w9 r ht hb
  exact⟨by simp only[Mem.b4,aA.cp]; rw[if_neg (by omega)]; exact g1,g2⟩
def Mem.bj (m:Mem) (w':World) (v:Value) (o:cb):Mem:=⟨w',m.H.cj m.T o,fun x=>if x=m.T then v else m.L x,m.T+1⟩
theorem b8.bj {m:Mem}(r:b9 m){w':World}{v:Value}{o:cb}(U:w'.os=m.w.os) (aa:w'.tape=m.w.tape) (ay:w'.output=m.w.output) (bl:m.w.heap.size≤w'.heap.size) (bW: ∀b,b<m.w.heap.size→w'.heap[b]? =m.w.heap[b]?)
  (ae: ∀b,v.e4=some b→m.w.heap.size≤b):b8 m (m.bj w' v o) where
 os:=U
 tape:=aa
 output:=ay
 size:=bl
 T:=by simp [Mem.bj]
 block:=fun b hb h jp=>⟨bW b hb,h,fun t i ht e=>by
  simp only[Mem.bj,aA.cj]at ht e
  by_cases ft:t=m.T
  ·rw[if_pos ft]at e
   have:=ae b e
   omega
  ·rw[if_neg ft]at e ht
   exact jp t i ht e⟩
 cell:=fun b c hs=>⟨⟨Nat.lt_of_lt_of_le hs.lt bl,hs.aZ,fun t i ht e=>by
  simp only[Mem.bj,aA.cj]at ht e
  by_cases ft:t=m.T
  ·rw[if_pos ft]at e
   have:=ae b e
   have:=hs.lt
   omega
  ·rw[if_neg ft]at e ht
   exact hs.tok t i ht e⟩,World.cell?_of_block (a:=⟨b,c,none⟩) (bW b hs.lt)⟩
 tok:=fun t dB ht h=>by
  simp only[Mem.bj,aA.cj]at h ⊢
  rw[if_neg (by omega)]at h ⊢
  exact⟨dB,h,Nat.le_refl _,rfl,fun _=>rfl⟩
theorem b9.bj {m:Mem}(r:b9 m){w':World}{v:Value}{o:cb}(U:w'.os=m.w.os) (aa:w'.tape=m.w.tape) (ay:w'.output=m.w.output) (bl:m.w.heap.size≤w'.heap.size) (bW: ∀b,b<m.w.heap.size→w'.heap[b]? =m.w.heap[b]?)
  (ae: ∀b,v.e4=some b→m.w.heap.size≤b) (hs:o.size≠0) (ao: ∃xs,w'.sI o v xs∧∀rows,o.lU=some rows→aR (m.bj w' v o) rows.flatten xs∧(∀r∈rows,r.length=o.size)∧∀v∈xs,v.oneCell'=true):b9 (m.bj w' v o) where
 mx:=(q5.aI (b8.bj r U aa ay bl bW ae) r.mx r.my).1
 my:=(q5.aI (b8.bj r U aa ay bl bW ae) r.mx r.my).2
 aZ:=fun b T cs hb=>by
  obtain⟨l,ar,ax,bU⟩:=r.aZ b T cs hb
  exact⟨l,(bW b (uu r hb)).trans ar,aR.aI (b8.bj r U aa ay bl bW ae) cs l ax,bU⟩
 tok:=fun t i ht=>by
  simp only[Mem.bj,aA.cj]at ht ⊢
  by_cases ft:t=m.T
  ·rw[if_pos ft]at ht
   simp only[Option.some.injEq]at ht
   subst ht
   refine⟨by omega,hs,by rw[if_pos ft]; exact ao,fun b hb=> ?_⟩
   rw[if_pos ft]at hb
   have cg:=ae b hb
   refine⟨?_,fun dT dB hD ia=> ?_⟩
   ·cases ab:m.H.aZ b with
    |none=>rfl
    |some x=>have:=uu r (T:=x.1) (cs:=x.2) ab; omega
   ·by_cases Ba:dT=m.T
    ·omega
    ·rw[if_neg Ba]at hD ia
     have:=w9 r hD ia
     omega
  ·rw[if_neg ft]at ht
   obtain⟨bf,bi,⟨xs,cz,gr⟩,eu⟩:=r.tok t i ht
   refine⟨by omega,bi,⟨xs,by rw[if_neg ft]; exact zU cz fun b hb=>bW b (cz.lt b hb).2,fun rows ac=>⟨aR.aI (b8.bj r U aa ay bl bW ae) _ _ (gr rows ac).1,(gr rows ac).2⟩⟩,fun b hb=> ?_⟩
   rw[if_neg ft]at hb
   obtain⟨g1,g2⟩:=eu b hb
   refine⟨g1,fun dT dB hD ia=> ?_⟩
   by_cases Ba:dT=m.T
   ·rw[if_pos Ba]at ia
    have:=ae b ia
    have:=(cz.lt b hb).2
    omega
   ·rw[if_neg Ba]at hD ia
    exact g2 dT dB hD ia
def Mem.ju (m:Mem) (w':World) (b:Nat) (T:TypeId) (cs:List I):Mem:={m with w:=w',H:=m.H.cp b T cs}
theorem b8.ju {m:Mem}(r:b9 m){w':World}{b:Nat}{T vU:TypeId}{cs r7:List I}(hb:m.H.aZ b=some (vU,r7)) (U:w'.os=m.w.os) (aa:w'.tape=m.w.tape) (ay:w'.output=m.w.output) (bl:w'.heap.size=m.w.heap.size) (bW: ∀k,k≠b→w'.heap[k]? =m.w.heap[k]?):b8 m (m.ju w' b T cs) where
 os:=U
 tape:=aa
 output:=ay
 size:=by simp [Mem.ju,bl]
 T:=Nat.le_refl _
 block:=fun k aw h jp=>by
  have e3:k≠b:=fun e=>by subst e; rw[h]at hb; cases hb
  exact⟨bW k e3,by simp only[Mem.ju,aA.cp]; rw[if_neg e3]; exact h,jp⟩
 cell:=fun k o hs=>by
  have e3:k≠b:=fun e=>by subst e; have:=hs.aZ; rw[this]at hb; cases hb
  exact⟨⟨by rw[show (m.ju w' b T cs).w=w' from rfl,bl]; exact hs.lt,by simp only[Mem.ju,aA.cp]; rw[if_neg e3]; exact hs.aZ,hs.tok⟩,World.cell?_of_block (a:=⟨k,o,none⟩) (bW k e3)⟩
 tok:=fun t dB _ h=>⟨dB,h,Nat.le_refl _,rfl,fun _=>rfl⟩
theorem b9.ju {m:Mem}(r:b9 m){w':World}{b:Nat}{T vU:TypeId}{cs r7:List I}{l:List Value}(hb:m.H.aZ b=some (vU,r7)) (U:w'.os=m.w.os) (aa:w'.tape=m.w.tape) (ay:w'.output=m.w.output) (bl:w'.heap.size=m.w.heap.size) (bW: ∀k,k≠b→w'.heap[k]? =m.w.heap[k]?)
  (eL:w'.heap[b]? =some (.cells ⟨l⟩ T (0,0))) (aC:aR m cs l) (ao: ∀v∈l,v.oneCell'=true):b9 (m.ju w' b T cs) where
 mx:=(q5.aI (b8.ju r hb U aa ay bl bW) r.mx r.my).1
 my:=(q5.aI (b8.ju r hb U aa ay bl bW) r.mx r.my).2
 aZ:=fun k cO cE aw=>by
  simp only[Mem.ju,aA.cp]at aw
  by_cases e:k=b
  ·rw[if_pos e]at aw
   simp only[Option.some.injEq,Prod.mk.injEq]at aw
   obtain⟨rfl,rfl⟩:=aw
   subst e
   exact⟨l,eL,aR.aI (b8.ju r hb U aa ay bl bW) _ l aC,ao⟩
  ·rw[if_neg e]at aw
   obtain⟨cc,ar,ax,bU⟩:=r.aZ k cO cE aw
   exact⟨cc,(bW k e).trans ar,aR.aI (b8.ju r hb U aa ay bl bW) _ cc ax,bU⟩
 tok:=fun t i ht=>by
  obtain⟨bf,bi,⟨xs,cz,gr⟩,eu⟩:=r.tok t i ht
  have e3: ∀k,(m.L t).e4=some k→k≠b:=fun k aw e=>by subst e; have:=(eu k aw).1; rw[this]at hb; cases hb
  refine⟨bf,bi,⟨xs,zU cz fun k aw=>bW k (e3 k aw),fun rows ac=>⟨aR.aI (b8.ju r hb U aa ay bl bW) _ _ (gr rows ac).1,(gr rows ac).2⟩⟩,fun k aw=> ?_⟩
  obtain⟨g1,g2⟩:=eu k aw
  exact⟨by simp only[Mem.ju,aA.cp]; rw[if_neg (e3 k aw)]; exact g1,g2⟩
def Mem.gt (m:Mem) (w':World) (t:Nat) (v:Value) (o:cb):Mem:={m with w:=w',H:=m.H.cj t o,L:=fun x=>if x=t then v else m.L x}
structure Grows0 (m:Mem) (w':World) (t:Nat) (i:cb) (v:Value) (o:cb):Prop where
 os:w'.os=m.w.os
 tape:w'.tape=m.w.tape
 output:w'.output=m.w.output
 size:m.w.heap.size≤w'.heap.size
 block: ∀k,k<m.w.heap.size→(m.L t).e4≠some k→w'.heap[k]? =m.w.heap[k]?
 cell: ∀k c,(m.L t).e4=some k→c<i.n*i.size→w'.cell? ⟨k,c,none⟩=m.w.cell? ⟨k,c,none⟩
 own: ∀k,v.e4=some k→(m.L t).e4=some k∨m.w.heap.size≤k
 n:i.n≤o.n
 rO:o.size=i.size
 ty:o.ty=i.ty
 ver:i.ver≤o.ver
 same:o.ver=i.ver→v=m.L t
structure rV (m:Mem) (w':World) (t:Nat) (i:cb) (v:Value) (o:cb):Prop extends Grows0 m w' t i v o where
 row: ∃xs,w'.sI o v xs∧∀rows,o.lU=some rows→aR (m.gt w' t v o) rows.flatten xs∧(∀r∈rows,r.length=o.size)∧∀v∈xs,v.oneCell'=true
theorem b8.gt {m:Mem}(r:b9 m){w':World}{t:Nat}{i:cb}{v:Value}{o:cb}(ad:m.H.tok t=some i) (g:Grows0 m w' t i v o):b8 m (m.gt w' t v o) where
 os:=g.os
 tape:=g.tape
 output:=g.output
 size:=g.size
 T:=Nat.le_refl _
 block:=fun b hb h jp=>⟨g.block b hb (jp t i ad),h,fun dT dB hD e=>by
  simp only[Mem.gt,aA.cj]at hD e
  by_cases ft:dT=t
  ·rw[if_pos ft]at e
   rcases g.own b e with e|e
   ·exact jp t i ad e
   ·omega
  ·rw[if_neg ft]at e hD
   exact jp dT dB hD e⟩
 cell:=fun b c hs=>by
  refine⟨⟨Nat.lt_of_lt_of_le hs.lt g.size,hs.aZ,fun dT dB hD e=> ?_⟩,?_⟩
  ·simp only[Mem.gt,aA.cj]at hD e
   by_cases ft:dT=t
   ·rw[if_pos ft]at e hD
    simp only[Option.some.injEq]at hD
    subst hD
    rcases g.own b e with e|e
    ·have:=hs.tok t i ad e
     rw[g.rO]
     exact Nat.lt_of_lt_of_le this (Nat.mul_le_mul_right _ g.n)
    ·have:=hs.lt
     omega
   ·rw[if_neg ft]at e hD
    exact hs.tok dT dB hD e
  ·by_cases e:(m.L t).e4=some b
   ·exact g.cell b c e (hs.tok t i ad e)
   ·exact World.cell?_of_block (a:=⟨b,c,none⟩) (g.block b hs.lt e)
 tok:=fun dT dB hD h=>by
  simp only[Mem.gt,aA.cj]at h ⊢
  by_cases ft:dT=t
  ·rw[if_pos ft]at h
   simp only[Option.some.injEq]at h
   subst h
   subst ft
   exact⟨i,ad,g.ver,g.rO,fun e=>by rw[if_pos rfl]; exact g.same e⟩
  ·rw[if_neg ft]at h
   exact⟨dB,h,Nat.le_refl _,rfl,fun _=>by rw[if_neg ft]⟩
theorem b9.gt {m:Mem}(r:b9 m){w':World}{t:Nat}{i:cb}{v:Value}{o:cb}(ad:m.H.tok t=some i) (g:rV m w' t i v o):b9 (m.gt w' t v o) where
 mx:=(q5.aI (b8.gt r ad g.toGrows0) r.mx r.my).1
 my:=(q5.aI (b8.gt r ad g.toGrows0) r.mx r.my).2
 aZ:=fun b T cs hb=>by
  obtain⟨l,ar,ax,bU⟩:=r.aZ b T cs hb
  refine⟨l,(g.block b (uu r hb) fun e=> ?_).trans ar,aR.aI (b8.gt r ad g.toGrows0) cs l ax,bU⟩
  have:=((r.tok t i ad).2.2.2 b e).1
  have ia:m.H.aZ b=some (T,cs):=hb
  rw[this]at ia
  cases ia
 tok:=fun dT dB hD=>by
  have aw:=r.tok t i ad
  simp only[Mem.gt,aA.cj]at hD ⊢
  by_cases ft:dT=t
  ·rw[if_pos ft]at hD
   simp only[Option.some.injEq]at hD
   subst hD
   subst ft
   refine⟨aw.1,by rw[g.rO]; exact aw.2.1,by rw[if_pos rfl]; exact g.row,fun b hb=> ?_⟩
   rw[if_pos rfl]at hb
   have zB:=g.own b hb
   refine⟨?_,fun t2 i2 n8 gP=> ?_⟩
   ·rcases zB with e|e
    ·exact (aw.2.2.2 b e).1
    ·cases ab:m.H.aZ b with
     |none=>rfl
     |some x=>have:=uu r (T:=x.1) (cs:=x.2) ab; omega
   ·by_cases ax:t2=dT
    ·exact ax
    ·rw[if_neg ax]at n8 gP
     rcases zB with e|e
     ·exact (aw.2.2.2 b e).2 t2 i2 n8 gP
     ·have:=w9 r n8 gP
      omega
  ·rw[if_neg ft]at hD
   obtain⟨bf,bi,⟨xs,cz,gr⟩,eu⟩:=r.tok dT dB hD
   have e3: ∀b,(m.L dT).e4=some b→(m.L t).e4≠some b:=fun b hb e=>ft ((aw.2.2.2 b e).2 dT dB hD hb)
   refine⟨bf,bi,⟨xs,by rw[if_neg ft]; exact zU cz fun b hb=>g.block b (cz.lt b hb).2 (e3 b hb),fun rows ac=>⟨aR.aI (b8.gt r ad g.toGrows0) _ _ (gr rows ac).1,(gr rows ac).2⟩⟩,fun b hb=> ?_⟩
   rw[if_neg ft]at hb
   obtain⟨g1,g2⟩:=eu b hb
   refine⟨g1,fun t2 i2 n8 gP=> ?_⟩
   by_cases ax:t2=t
   ·rw[if_pos ax]at gP
    rcases g.own b gP with e|e
    ·exact absurd e (e3 b hb)
    ·have:=(cz.lt b hb).2
     omega
   ·rw[if_neg ax]at n8 gP
    exact g2 t2 i2 n8 gP
structure HSub (H aB:aA):Prop where
 aZ: ∀b x,H.aZ b=some x→aB.aZ b=some x
 tok: ∀t x,H.tok t=some x→aB.tok t=some x
theorem HSub.refl (H:aA):HSub H H:=⟨fun _ _ h=>h,fun _ _ h=>h⟩
theorem HSub.cp {H aB:aA}{b:Nat}{T:TypeId}{cs:List I}(h:HSub H aB) (hb:H.aZ b=none):HSub H (aB.cp b T cs):=
 ⟨fun x y e=>by simp only[aA.cp]; rw[if_neg (by intro a8; subst a8; rw[hb]at e; cases e)]; exact h.aZ x y e,fun x y e=>h.tok x y e⟩
theorem HSub.cj {H aB:aA}{t:Nat}{o:cb}(h:HSub H aB) (hb:H.tok t=none):HSub H (aB.cj t o):=
 ⟨fun x y e=>h.aZ x y e,fun x y e=>by simp only[aA.cj]; rw[if_neg (by intro a8; subst a8; rw[hb]at e; cases e)]; exact h.tok x y e⟩
theorem HSub.yk {H aB:aA}(h:HSub H aB){b:Nat}(hb:aB.aZ b=none):H.aZ b=none:=by
 cases e:H.aZ b with
 |none=>rfl
 |some x=>rw[h.aZ b x e]at hb; cases hb
theorem HSub.QR {H aB:aA}(h:HSub H aB){b:Nat}(hb:aB.tok b=none):H.tok b=none:=by
 cases e:H.tok b with
 |none=>rfl
 |some x=>rw[h.tok b x e]at hb; cases hb
section
variable {w:World}{H aB:aA}{L:Nat→Value}{T:Nat}
theorem nR.forget (a8:HSub H aB){b o:Nat}(h:nR ⟨w,aB,L,T⟩ b o):nR ⟨w,H,L,T⟩ b o:=
 ⟨h.lt,a8.yk h.aZ,fun t i ad hb=>h.tok t i (a8.tok t i ad) hb⟩
mutual
theorem aP.forget (a8:HSub H aB): ∀(a:I) (v:Value),aP ⟨w,aB,L,T⟩ a v→aP ⟨w,H,L,T⟩ a v
 | .eX,_,_=>by simp only[aP]
 | .bool _,_,h=>by simp only[aP]at*; exact h
 | .int _ _,_,h=>by simp only[aP]at*; exact h
 | .str _,_,h=>by simp only[aP]at*; exact h
 | .ev _,_,h=>by simp only[aP]at*; exact h
 | .ptr _ _,_,h=>by simp only[aP]at*; exact h
 | .agg cs,_,h=>by simp only[aP]at*; obtain⟨l,ar,ax⟩:=h; exact⟨l,ar,aR.forget a8 cs l ax⟩
 | .cT cs,_,h=>by simp only[aP]at*; obtain⟨l,ar,ax⟩:=h; exact⟨l,ar,aR.forget a8 cs l ax⟩
 | .af size rows,_,h=>by
  simp only[aP]at*
  obtain⟨a,len,cap,U,aa,ay,bl⟩:=h
  exact⟨a,len,cap,U,aa,ay,bl.imp id fun⟨b,o,g1,g2⟩=>⟨b,o,g1,ef.forget a8 size rows b o g2⟩⟩
 | .own t size rows,_,h=>by
  simp only[aP]at*
  obtain⟨⟨a,len,cap,U,aa,ay,bl⟩,bW,eL⟩:=h
  exact⟨⟨a,len,cap,U,aa,ay,bl.imp id fun⟨b,o,g1,g2⟩=>⟨b,o,g1,ef.forget a8 size rows b o g2⟩⟩,bW,fun i ad=>eL i (a8.tok t i ad)⟩
 | .c6 t ver,_,h=>by
  simp only[aP]at*
  obtain⟨aU,bW,eL⟩:=h
  exact⟨aU,bW,fun i ad=>eL i (a8.tok t i ad)⟩
 | .mp t ver k,_,h=>by
  simp only[aP]at*
  obtain⟨aU,bW,eL⟩:=h
  exact⟨aU,bW,fun i ad=>eL i (a8.tok t i ad)⟩
 | .eK row off,_,h=>by
  simp only[aP]at*
  obtain⟨b,o,U,aa⟩:=h
  exact⟨b,o,U,fr.forget a8 row b o aa⟩
 | .fn f cs,_,h=>by simp only[aP]at*; obtain⟨l,ar,ax⟩:=h; exact⟨l,ar,aR.forget a8 cs l ax⟩
 | .iE t a,_,h=>by simp only[aP]at*; obtain⟨x,ar,ax⟩:=h; exact⟨x,ar,aP.forget a8 a x ax⟩
theorem aR.forget (a8:HSub H aB): ∀(az:List I) (l:List Value),aR ⟨w,aB,L,T⟩ az l→aR ⟨w,H,L,T⟩ az l
 |[],_,h=>by simp only[aR]at*; exact h
 |a::az,_,h=>by simp only[aR]at*; obtain⟨v,af,U,aa,ay⟩:=h; exact⟨v,af,U,aP.forget a8 a v aa,aR.forget a8 az af ay⟩
theorem fr.forget (a8:HSub H aB): ∀(az:List I) (b o:Nat),fr ⟨w,aB,L,T⟩ az b o→fr ⟨w,H,L,T⟩ az b o
 |[],_,_,_=>by simp only[fr]
 |a::az,b,o,h=>by
  simp only[fr]at*
  obtain⟨⟨v,U,so,aa,ay⟩,bl⟩:=h
  exact⟨⟨v,U,so,nR.forget a8 aa,aP.forget a8 a v ay⟩,fr.forget a8 az b (o+1) bl⟩
theorem ef.forget (a8:HSub H aB) (size:Nat): ∀(aS:List (List I)) (b o:Nat),ef ⟨w,aB,L,T⟩ size aS b o→ef ⟨w,H,L,T⟩ size aS b o
 |[],_,_,_=>by simp only[ef]
 |r::aS,b,o,h=>by
  simp only[ef]at*
  exact⟨h.1,fr.forget a8 r b o h.2.1,ef.forget a8 size aS b (o+size) h.2.2⟩
end
theorem b9.forget (a8:HSub H aB) (h:b9 ⟨w,aB,L,T⟩):b9 ⟨w,H,L,T⟩ where
 mx:=h.mx
 my:=fun p hp=>⟨a8.yk (h.my p hp).1,fun t i ad=>(h.my p hp).2 t i (a8.tok t i ad)⟩
 aZ:=fun b Wf cs hb=>by
  obtain⟨l,ar,ax,bU⟩:=h.aZ b Wf cs (a8.aZ b _ hb)
  exact⟨l,ar,aR.forget a8 _ _ ax,bU⟩
 tok:=fun t i ad=>by
  obtain⟨ar,ax,bU,dl⟩:=h.tok t i (a8.tok t i ad)
  obtain⟨xs,Kk,Kl⟩:=bU
  refine⟨ar,ax,⟨xs,Kk,fun rows ac=>⟨aR.forget a8 _ _ (Kl rows ac).1,(Kl rows ac).2⟩⟩,fun b hb=> ?_⟩
  obtain⟨f1,f2⟩:=dl b hb
  exact⟨a8.yk f1,fun dT dB iD=>f2 dT dB (a8.tok dT dB iD)⟩
theorem b8.forget (a8:HSub H aB){m:Mem}(h:b8 m ⟨w,aB,L,T⟩):b8 m ⟨w,H,L,T⟩ where
 os:=h.os
 tape:=h.tape
 output:=h.output
 size:=h.size
 T:=h.T
 block:=fun b U aa ay=>by
  obtain⟨ar,ax,bU⟩:=h.block b U aa ay
  exact⟨ar,a8.yk ax,fun t i ad=>bU t i (a8.tok t i ad)⟩
 cell:=fun b o hs=>by
  obtain⟨ar,ax⟩:=h.cell b o hs
  exact⟨nR.forget a8 ar,ax⟩
 tok:=fun t dB ht ad=>h.tok t dB ht (a8.tok t dB ad)
end
theorem HSub.qz (H:aA) (b:Nat):HSub (H.qz b) H:=⟨fun x y h=>by simp only[aA.qz]at h; by_cases e:x=b<;>simp [e]at h; exact h,fun _ _ h=>h⟩
def xC:I→Value→Bool
 | .bool b,.bool c=>b==c
 | .int k n,.int j c=>decide (k=j)&&decide (n=c)
 | .str s,.string b=>decide (b.data.toList=s)&&Nat.ble s.length maxLen
 | .ev (.slice none 0 0),.slice none 0 0=>true
 | .ev (.pointer none),.pointer none=>true
 | .ev .nilFunc,.nilFunc=>true
 | .ev .nilIface,.nilIface=>true
 | .ev (.map none),.map none=>true
 | .fn f [],.func (.func g) ⟨[]⟩ ⟨[]⟩=>f==g&&Nat.blt f ke
 | _,_=>false
def zh:List I→List Value→Bool
 |[],[]=>true
 |a::az,v::af=>xC a v&&zh az af
 | _,_=>false
def Dw:List I→Value→Bool
 |l,.agg ⟨af⟩=>zh l af
 |[a],v=>xC a v
 | _,_=>false
def de:Operand→aJ→Bool
 | .tmp t,.t n=>t==n
 | .const v,.c a=>xC a v
 | .func f,.c (.fn g [])=>f==g&&Nat.blt f ke
 | _,_=>false
def hi:List Operand→List aJ→Bool
 |[],[]=>true
 |x::xs,y::eT=>de x y&&hi xs eT
 | _,_=>false
def rm:Option Operand→Option aJ→Bool
 |none,none=>true
 |some x,some y=>de x y
 | _,_=>false
def pe (P:Program) (t:TypeId):Option Bool:=
 match P.underlying t with
 |some (.struct _)|some (.array ..)=>some true
 |some _=>some false
 |none=>none
def j7 (P:Program) (t:TypeId):Option Nat:=(P.info? t).map (·.size)
def qJ (P:Program) (t:TypeId) (agg:Bool) (n:Nat):Bool:=
 decide (pe P t=some agg)&&decide (j7 P t=some n)&&(agg||n==1)&& !(n==0)
def kU (P:Program) (t:TypeId):Option TypeId:=
 match P.underlying t with
 |some (.slice e)=>some e
 | _=>none
def vN (P:Program) (t:TypeId) (zero:List I):Bool:=
 match (P.info? t).bind (·.zero) with
 |some z=>Dw zero z
 |none=>false
def Ca (P:Program) (t:TypeId):Option TypeId:=
 match P.underlying t with
 |some (.map kt ft)=>(match P.underlying kt with|some .string=>some ft| _=>none)
 | _=>none
def Ib (P:Program) (t:TypeId) (z:I):Bool:=
 match Ca P t with
 |some ft=>(match (P.info? ft).bind (·.zero) with
  |some (.int k n)=>(match z with| .int fO hV=>decide (k=fO)&&decide (n=hV)| _=>false)
  |some (.bool b)=>(match z with| .bool b1=>b==b1| _=>false)
  | _=>false)
 |none=>false
def zc (P:Program) (b2:Array Field):List (Nat×Operand)→List (Nat×Nat×aJ)→Bool
 |[],[]=>true
 |(i,x)::ps,(off,size,y)::kC=>(match b2[i]? with
  |some f=>decide (f.offset=off)&&decide (j7 P f.type=some size)
  |none=>false)&&de x y&&zc P b2 ps kC
 | _,_=>false
def zd (size:Nat):List (Nat×Operand)→List (Nat×Nat×aJ)→Bool
 |[],[]=>true
 |(i,x)::ps,(off,rO,y)::kC=>decide (off=i*size)&&decide (rO=size)&&de x y&&zd size ps kC
 | _,_=>false
def uw:List (Nat×Operand)→List (Nat×aJ)→Bool
 |[],[]=>true
 |(i,x)::ps,(j,y)::kC=>decide (i=j)&&de x y&&uw ps kC
 | _,_=>false
def zH:Nat→List (Nat×aJ)→Bool
 | _,[]=>true
 |k,(i,_)::ps=>decide (i=k)&&zH (k+1) ps
def zs (P:Program) (g:TypeId→Option (List nP)):Nat→List Field→Option (List nP)
 | _,[]=>some []
 |off,f::b2=>match g f.type with
  |some aT=>if f.offset=off∧f.name≠ "_" ∧j7 P f.type=some aT.length∧aT≠[] then (zs P g (off+aT.length) b2).map (aT++ ·) else none
  |none=>none
def tI (P:Program):Nat→TypeId→Option (List nP)
 |0,_=>none
 |d+1,t=>match P.underlying t with
  |some .bool=>some [.b]
  |some (.int k)=>some [.i k]
  |some .string=>some [.s]
  |some (.struct b2)=>if P.stoodInHeld t then none else zs P (tI P d) 0 b2.toList
  | _=>none
def bk8 (P:Program) (t:TypeId):Bool:=match P.underlying t with|some .bool=>true| _=>false
def bo (P:Program) (o:Op) (e:bg):Bool:=
 match o,e with
 | .move x,.hO y=>de x y
 | .assign x,.hO y=>de x y
 | .pick c a b,.pick cV cZ b1=>de c cV&&de a cZ&&de b b1
 | .nilCheck x,.eB y=>de x y
 | .box T x,.box cO y=>decide (T=cO)&&de x y
 | .alloc T,.alloc cO zero=>decide (T=cO)&&vN P T zero
 | .build t parts,.build zero ps=>vN P t zero&&(match P.underlying t with
  |some (.struct b2)=>zc P b2 parts.toList ps&&(b2.toList.mapM (fun f=>(P.info? f.type).map fun i=>(f.offset,i.size))).isSome
  |some (.array _ e)=>(match j7 P e with|some s=>zd s parts.toList ps|none=>false)
  | _=>false)
 | .buildSlice t n parts,.da T size hV zero ps=>decide (n=hV)&&decide (kU P t=some T)&&decide (j7 P T=some size)&&vN P T zero&&decide (zero.length=size)&&Nat.ble (n*size) 65536&&uw parts.toList ps&&zH 0 ps&&decide (ps.length=n)&& !(size==0)
 | .buildSlice t n parts,.nV T size hV zero ps=>decide (n=hV)&&decide (kU P t=some T)&&decide (j7 P T=some size)&&vN P T zero&&decide (zero.length=size)&&Nat.ble (n*size) 65536&&uw parts.toList ps&&zH 0 ps&&decide (ps.length=n)&& !(size==0)
 | .buildSlice t n parts,.nU T size hV zero ps=>decide (n=hV)&&decide (kU P t=some T)&&decide (j7 P T=some size)&&vN P T zero&&decide (zero.length=size)&&Nat.ble (n*size) 65536&&uw parts.toList ps&&zH 0 ps&&decide (ps.length=n)&& !(size==0)
 | .load t x,.load agg n y=>qJ P t agg n&&de x y
 | .load t x,.j5 agg n y=>qJ P t agg n&&de x y
 | .load t x,.fP _ agg n y=>qJ P t agg n&&de x y
 | .load t x,.pA agg n y=>qJ P t agg n&&de x y
 | .store t a v,.store n cZ bI=>decide (j7 P t=some n)&&de a cZ&&de v bI
 | .store t a v,.hP _ _ n cZ bI=>decide (j7 P t=some n)&&de a cZ&&de v bI
 | .fieldAddr s x f,.pq off y=>de x y&&(match P.underlying s with
  |some (.struct b2)=>(match b2[f]? with|some g=>decide (g.offset=off)&&(match j7 P g.type with|some n=> !(n==0)|none=>false)|none=>false)
  | _=>false)
 | .field s x f,.field agg off n y=>de x y&&(match P.underlying s with
  |some (.struct b2)=>(match b2[f]? with|some g=>decide (g.offset=off)&&qJ P g.type agg n|none=>false)
  | _=>false)
 | .fieldAddr s x f,.jJ off y=>de x y&&(match P.underlying s with
  |some (.struct b2)=>(match b2[f]? with|some g=>decide (g.offset=off)&&(match j7 P g.type with|some n=> !(n==0)|none=>false)|none=>false)
  | _=>false)
 | .indexAddr t x i,.gy size y j=>de x y&&de i j&&(match kU P t with|some e=>decide (j7 P e=some size)|none=>false)
 | .indexAddr t x i,.jr size y j=>de x y&&de i j&&(match kU P t with|some e=>decide (j7 P e=some size)|none=>false)
 | .indexAddr t x i,.oA len size y j=>de x y&&de i j&&(match P.underlying t with|some (.array n e)=>decide (n=len)&&decide (j7 P e=some size)| _=>false)
 | .index t x i,.kj agg len size y j=>de x y&&de i j&&(match P.underlying t with|some (.array n e)=>decide (n=len)&&qJ P e agg size| _=>false)
 | .index t x i,.ic y j=>de x y&&de i j&&(match P.underlying t with|some .string=>true| _=>false)
 | .binOp op t x y _,.bin IA c9 iX=>decide (op=IA)&&de x c9&&de y iX
 | .binOp op t x y _,.rk IA c9 iX=>decide (op=IA)&&de x c9&&de y iX&&(match P.underlying t with|some .bool=>true| _=>false)
 | .binOp op t x y _,.j1 neg T aT c9 iX=>decide (op=(if neg then .neq else .eql))&&decide (t=T)&&de x c9&&de y iX&&decide (tI P 8 t=some aT)&& !(P.eqGuardType P.depth t)&&(match P.underlying t with|some (.struct _)=>true| _=>false)
 | .binOp op t x y _,.qH neg c9=>decide (op=(if neg then .neq else .eql))&&de x c9&&(match y with| .const (.slice none 0 0)=>true| _=>false)&&(match kU P t with|some _=>true|none=>false)&& !(P.eqGuardType P.depth t)
 | .binOp op t x y _,.sJ neg c9=>decide (op=(if neg then .neq else .eql))&&de x c9&&(match y with| .const (.pointer none)=>true| _=>false)&&(match P.underlying t with|some (.pointer _)=>true| _=>false)&& !P.eqGuardType P.depth t
 | .makeSlice t l c,.o0 T size bytes zero x=>de l x&&de c x&&decide (kU P t=some T)&&decide (j7 P T=some size)&&vN P T zero&&(match P.info? T with|some i=>decide (i.bytes=bytes)|none=>false)
 | .makeMap t none,.mkMap T=>decide (t=T)
 | .lookup t x k ok,.ji yo z y j=>decide (ok=yo)&&de x y&&de k j&&Ib P t z
 | .mapUpdate t x k v,.oZ y j u=>de x y&&de k j&&de v u&&(Ca P t).isSome
 | .unOp .not _ x,.not y=>de x y
 | .unOp .neg _ x,.neg y=>de x y
 | .convert s d x,.conv k y=>de x y&&(match P.underlying s with|some (.int _)=>true| _=>false)&&(match P.underlying d with|some (.int j)=>decide (j=k)| _=>false)
 | .call {callee:= .builtin .len,args,argTypes},.len y=>(match args.toList with|[x]=>de x y| _=>false)&&(match argTypes.toList with|[t]=>(match P.underlying t with|some (.slice _)=>true| _=>false)| _=>false)
 | .call {callee:= .builtin .len,args,argTypes},.iq y=>(match args.toList with|[x]=>de x y| _=>false)&&(match argTypes.toList with|[t]=>(match P.underlying t with|some (.slice _)=>true| _=>false)| _=>false)
 | .call {callee:= .builtin .len,args,argTypes},.mT y=>(match args.toList with|[x]=>de x y| _=>false)&&(match argTypes.toList with|[t]=>(match P.underlying t with|some .string=>true| _=>false)| _=>false)
 | .call {callee:= .builtin .len,args,argTypes},.rE n=>(match args.toList with|[_]=>true| _=>false)&&(match argTypes.toList with|[t]=>(match P.underlying t with|some (.array m _)=>decide (m=n)|some (.pointer a)=>(match P.underlying a with|some (.array m _)=>decide (m=n)| _=>false)| _=>false)| _=>false)
 | .call {callee:= .builtin .min,args,..},.l1 false eT=>hi args.toList eT
 | .call {callee:= .builtin .max,args,..},.l1 true eT=>hi args.toList eT
 | .call {callee:= .builtin .append,args,argTypes},.append T size bytes x y=>hi args.toList [x,y]&&(match argTypes.toList with
  |[t,u]=>decide (kU P t=some T)&&(decide (kU P u=some T)||(match P.underlying u,P.underlying T with|some .string,some (.int .u8)=>true| _,_=>false))&&(match P.info? T with|some i=>decide (i.size=size)&&decide (i.bytes=bytes)&&(match i.zero with|some z=>decide (z.cells.size=size)|none=>false)|none=>false)
  | _=>false)
 | .call {callee:= .builtin .append,args,argTypes},.nj T size bytes x y=>hi args.toList [x,y]&&(match argTypes.toList with
  |[t,u]=>decide (kU P t=some T)&&(decide (kU P u=some T)||(match P.underlying u,P.underlying T with|some .string,some (.int .u8)=>true| _,_=>false))&&(match P.info? T with|some i=>decide (i.size=size)&&decide (i.bytes=bytes)&&(match i.zero with|some z=>decide (z.cells.size=size)|none=>false)|none=>false)
  | _=>false)
 | .slice t x cJ ad none,.kE y oB iD=>de x y&&rm cJ oB&&rm ad iD&&(match P.underlying t with|some .string=>true| _=>false)
 | .slice t x cJ ad nB,.ii size y oB iD aC5=>de x y&&rm cJ oB&&rm ad iD&&rm nB aC5&&(match kU P t with|some e=>decide (j7 P e=some size)|none=>false)
 | .slice t x cJ ad none,.oI size y oB iD=>de x y&&rm cJ oB&&rm ad iD&&(match kU P t with|some e=>decide (j7 P e=some size)|none=>false)
 | .extract x i,.extract j y=>de x y&&decide (i=j)
 | .makeFunc (.func f) first hA,.j6 g eT=>decide (f=g)&&first.isEmpty&&hi hA.toList eT&&Nat.blt g ke
 | .makeFunc (.func f) first hA,.vl g eT=>decide (f=g)&&hA.isEmpty&&hi first.toList eT
 | .convert s d x,.r5 int y=>de x y&&(match P.underlying d with|some .string=>true| _=>false)&&(match P.underlying s with|some (.int _)=>int|some (.slice e)=>(match P.underlying e with|some (.int .u8)=> !int| _=>false)| _=>false)
 | .convert s d x,.kN T y=>de x y&&(match P.underlying s with|some .string=>true| _=>false)&&decide (kU P d=some T)&&(match P.underlying T with|some (.int .u8)=>true| _=>false)
 | .slice t x none none none,.Af len size y=>de x y&&(match P.underlying t with|some (.array n e)=>decide (n=len)&&decide (j7 P e=some size)| _=>false)
 | .makeInterface t x,.qM T y=>decide (t=T)&&de x y&&(match P.underlying t with|some (.interface _)=>false|some _=>true|none=>false)
 | .call {callee:= .value f,args,..},.call g eT=>(match f with| .func kw=>decide (kw=g)| _=>false)&&hi args.toList eT&&di P g
 | .call {callee:= .value f,args,..},.gN _ g eT=>(match f with| .func kw=>decide (kw=g)| _=>false)&&hi args.toList eT&&di P g
 | .call {callee:= .value f,args,..},.gT y eT=>de f y&&hi args.toList eT
 | .call {callee:= .value f,args,..},.mo _ y eT=>de f y&&hi args.toList eT
 | .call {callee:= .value f,args,..},.jF g eT=>(match f with| .func kw=>decide (kw=g)| _=>false)&&hi args.toList eT&&di P g
 | .call {callee:= .value f,args,..},.tZ T size g eT=>(match f with| .func kw=>decide (kw=g)| _=>false)&&hi args.toList eT&&di P g
 | .call {callee:= .value f,args,..},.zW T size g eT _=>(match f with| .func kw=>decide (kw=g)| _=>false)&&hi args.toList eT&&di P g
 | .call {callee:= .value f,args,..},.ld y eT=>de f y&&hi args.toList eT
 | .call {callee:= .value f,args,..},.ys g eT _=>(match f with| .func kw=>decide (kw=g)| _=>false)&&hi args.toList eT&&di P g
 | .call {callee:= .value f,args,..},.yt y eT _=>de f y&&hi args.toList eT
 | .panic x,.panic y=>de x y
 | _,_=>false
def Dt (ops:Array Oper) (g:Option (Nat×Bool)) (h:Option (Nat×Bool)):Bool:=
 match g,h with
 |none,none=>true
 |some (j,w),some (t,w')=>decide (w=w')&&decide ((ops[j]?).bind (·.dst)=some t)
 | _,_=>false
def rl (P:Program) (n:Nat) (ops:Array Oper) (o:Oper) (i:bY):Bool:=
 decide (o.dst=i.dst)&&(match i.dst with|some d=>Nat.blt d n|none=>true)&&(match i.guard with|some (t,_)=>Nat.blt t n|none=>true)&&Dt ops o.guard i.guard&&bo P o.op i.op
def nY (P:Program) (n:Nat) (ops:Array Oper):List Oper→List bY→Bool
 |[],[]=>true
 |o::os,i::is=>rl P n ops o i&&nY P n ops os is
 | _,_=>false
def aJ.aZ7:aJ→Option Nat
 | .t n=>some n
 | .c _=>none
def bg.cU:bg→List aJ
 | .hO x| .eB x| .box _ x| .load _ _ x| .pA _ _ x| .pq _ x| .field _ _ _ x| .not x| .neg x| .conv _ x| .len x| .mT x| .extract _ x| .qM _ x| .panic x| .iq x| .j5 _ _ x| .sJ _ x| .o0 _ _ _ _ x| .qH _ x| .jJ _ x| .r5 _ x| .kN _ x| .Af _ _ x=>[x]
 | .pick a b c=>[a,b,c]
 | .alloc _ _| .rE _| .mkMap _=>[]
 | .ji _ _ x k=>[x,k]
 | .oZ x k v=>[x,k,v]
 | .build _ ps=>ps.map (·.2.2)
 | .da _ _ _ _ ps| .nV _ _ _ _ ps| .nU _ _ _ _ ps=>ps.map (·.2)
 | .store _ a v=>[a,v]
 | .fP fv _ _ x=>[.t fv,x]
 | .hP fv o _ a v=> .t fv::a::v::o.map .t
 | .gy _ x i| .oA _ _ x i| .kj _ _ _ x i| .ic x i| .bin _ x i| .rk _ x i| .j1 _ _ _ x i| .append _ _ _ x i| .jr _ x i| .nj _ _ _ x i=>[x,i]
 | .l1 _ xs| .j6 _ xs| .vl _ xs| .call _ xs| .jF _ xs| .ys _ xs _| .tZ _ _ _ xs| .zW _ _ _ xs _=>xs
 | .kE x l h| .oI _ x l h=>x::(l.toList++h.toList)
 | .ii _ x l h m=>x::(l.toList++h.toList++m.toList)
 | .gT x xs| .ld x xs| .yt x xs _=>x::xs
 | .gN o _ xs=>xs++o.map .t
 | .mo o x xs=>x::(xs++o.map .t)
def bY.reads (i:bY):List Nat:=i.op.cU.filterMap aJ.aZ7++(i.guard.map (·.1)).toList
def bg.dm:bg→Nat
 | .hO _| .pA .. | .pick .. | .eB _| .build .. | .pq .. | .field .. | .gy .. | .oA .. | .kj .. | .ic .. | .bin .. | .rk .. | .j1 .. | .not _| .sJ .. | .neg _| .conv .. | .len _| .mT _| .rE _| .l1 .. | .kE .. | .ii .. | .extract .. | .j6 .. | .vl .. | .r5 .. | .qM .. =>0
 | .load .. | .fP .. | .box .. | .alloc .. | .kN .. | .da .. | .nV .. | .jF .. | .ld .. | .ys .. | .yt .. | .nU .. | .o0 .. | .mkMap .. | .tZ .. | .zW .. =>1
 | .append .. =>2
 | .store .. | .hP .. | .gN .. | .mo .. | .call .. | .gT .. | .panic _| .oI .. | .nj .. | .iq .. | .jr .. | .j5 .. | .qH .. | .jJ .. | .Af .. | .ji .. | .oZ .. =>3
def bg.live:bg→Bool
 | .store .. | .hP .. | .oI .. | .nj .. | .iq .. | .jr .. | .j5 .. | .jJ .. | .ji .. | .oZ .. =>true
 | _=>false
def bg.quiet:bg→Bool
 | .load .. | .fP .. | .iq .. | .jr .. | .j5 .. | .jJ .. | .ji .. =>true
 |op=>op.dm==0
def bg.vD:bg→Bool
 | .iq .. | .jr .. | .j5 .. | .jJ .. | .ji .. =>true
 | _=>false
def bg.vY:bg→Bool
 | .alloc .. | .hP .. =>true
 | _=>false
def bY.total (i:bY):Bool:=i.guard.isNone&&match i.op with
 | .hO _| .rE _| .j6 .. | .qM .. =>true
 | _=>false
def bY.w6 (i:bY):Option (Bool×Nat×List Nat):=match i.guard,i.op with
 |none,.hP fv o _ _ _=>some (true,fv,o)
 |none,.fP fv _ _ _=>some (false,fv,[])
 | _,_=>none
def CF (i j:bY):Bool:=match i.w6,j.w6 with
 |some (true,_,o),some (true,b,_)=>o.contains b
 |some (false,m,_),some (true,_,o)=>o.contains m
 | _,_=>false
def bg.still:bg→Bool
 | .da .. | .kN .. | .jF .. | .ld .. | .ys .. | .yt .. =>true
 |op=>op.dm==0
def bY.pV (i:bY):Option (Option (List Nat)×Option Nat):=match i.guard,i.op with
 |none,.gN o _ _=>some (some o,none)
 |none,.mo o _ _=>some (some o,none)
 |none,.fP fv _ _ _=>some (none,some fv)
 |none,op=>if op.still then some (none,none) else none
 |some _,_=>none
def sP (o:List Nat):Option (Option (List Nat)×Option Nat)→Bool
 |some (none,some fv)=>o.contains fv
 |some (none,none)=>true
 | _=>false
def AQ (i j:bY):Bool:=match i.pV,j.pV with
 |some (some o,_),x=>sP o x
 |x,some (some o,_)=>sP o x
 | _,_=>false
def indep (i j:bY):Bool:=
 (match i.dst with|some d=> !j.reads.contains d&& !(j.dst==some d)|none=>true)&&
 (match j.dst with|some d=> !i.reads.contains d|none=>true)&&
 (AQ i j||i.op.dm==0||(i.op.quiet&&j.op.quiet)||(i.op.vD&&j.op.vY)||(i.op.live&&j.op.dm==0)||CF i j||(i.op.dm==3&&j.total)||(i.op.dm≤2&&j.op.dm≤2&& !(i.op.dm==2&&j.op.dm==2)))
def KS (ops:List Oper):List Nat:=
 ops.foldl (fun acc o=>acc++[o.after.foldl (fun s e=>if Region.binds .any e then s|||2^e.on|||acc.getD e.on 0 else s) 0]) []
def yp (ops:List Oper) (is:List bY):Bool:=
 let Wk:=KS ops
 (ops.zipIdx.all fun (o,i)=>o.after.all fun e=> !Region.binds .any e||Nat.blt e.on i)&&
 (is.zipIdx.all fun (y,j)=>is.zipIdx.all fun (x,i)=> !(Nat.blt i j)||(Wk.getD j 0).testBit i||indep x y)
def mq (P:Program) (n:Nat):Code→bm→Bool
 | .skip,.skip=>true
 | .region _ ops draw,.region is ac5=>draw==ac5&&nY P n ops ops.toList is&&(!draw||yp ops.toList is)
 | .seq a b,.seq c d=>mq P n a c&&mq P n b d
 | .cond c a b,.cond cV cZ b1=>de c cV&&mq P n a cZ&&mq P n b b1
 | .block i a,.block j b=>i==j&&mq P n a b
 | .loop a,.loop b=>mq P n a b
 | .exit i,.exit j=>i==j
 | .ret,.ret=>true
 | .region _ ops false,.uG d f cap=>Nat.blt d n&&di P f&&match ops.toList with
  |[eF,eR]=>eF.dst==some d&&eF.guard.isNone&&eR.dst==none&&eR.guard.isNone&&(match eF.op with| .makeFunc (.func g) first hA=>decide (g=f)&&first.isEmpty&&hi hA.toList cap| _=>false)&&(match eR.op with| .defer {callee:= .value (.tmp t),args,..}=>t==d&&args.isEmpty| _=>false)
  | _=>false
 | _,_=>false
def nZ (P:Program):List ResultVar→List bc→Bool
 |[],[]=>true
 | .tmp t::l,.t n::cc=>t==n&&nZ P l cc
 | .cell t ty::l,.cell agg n dT::cc=>t==dT&&qJ P ty agg n&&nZ P l cc
 | _,_=>false
def bR (P:Program) (fn:Func) (aD2:Nat) (e:bm) (aS:List bc):Bool:=
 Nat.ble aD2 fn.ntmps&&nZ P fn.results.toList aS&&match fn.body with
 |some c=>mq P fn.ntmps c e
 |none=>false
end Go.aO
namespace Go.aO
open Go
theorem y5 (s:List UInt8):(⟨⟨s⟩⟩:ByteArray).toList=s:=by
 rw[Lib.toList_data]
theorem Lm (b:ByteArray):b=⟨⟨b.data.toList⟩⟩:=rfl
theorem WZ (s t:List UInt8):(⟨⟨s⟩⟩:ByteArray)++⟨⟨t⟩⟩=⟨⟨s++t⟩⟩:=by
 rw[Lm ((⟨⟨s⟩⟩:ByteArray)++⟨⟨t⟩⟩)]
 rw[Joins.data_append]
theorem Ll (s:List UInt8) (l h:Nat):(⟨⟨s⟩⟩:ByteArray).extract l h=⟨⟨(s.take h).drop l⟩⟩:=by
 rw[Lm (ByteArray.extract _ _ _)]
 congr 2
 rw[Lib.extract_data]
 simp only[List.drop_take]
theorem Gd {m:Mem}{a:I}{v:Value}(h:xC a v=true):aP m a v:=by
 unfold xC at h
 split at h<;>first
  |(simp only[aP]; done)
  |(simp only[aP]; simp at h; subst h; rfl)
  |(simp only[aP]; simp at h; obtain⟨rfl,rfl⟩:=h; rfl)
  |skip
 ·simp only[aP]
  simp only[Bool.and_eq_true,decide_eq_true_eq]at h
  obtain⟨rfl,aa⟩:=h
  exact⟨rfl,Nat.le_of_ble_eq_true aa⟩
 ·rename_i f g
  simp at h
  obtain⟨rfl,hb⟩:=h
  simp only[aP,aR]
  exact⟨[],(xL hb []).symm,rfl⟩
 ·cases h
theorem Ma {a:I}{v:Value}(h:xC a v=true):v.oneCell'=true:=by
 unfold xC at h
 split at h<;>first|rfl|cases h
theorem L9 {m:Mem}: ∀ {az:List I}{l:List Value},zh az l=true→aR m az l∧∀v∈l,v.oneCell'=true
 |[],[],_=>⟨by simp only[aR],by simp⟩
 |[],_:: _,h=>by simp [zh]at h
 | _:: _,[],h=>by simp [zh]at h
 |a::az,v::l,h=>by
  simp only[zh,Bool.and_eq_true]at h
  obtain⟨bf,bi⟩:=L9 (m:=m) h.2
  refine⟨by simp only[aR]; exact⟨v,l,rfl,Gd h.1,bf⟩,fun u hu=> ?_⟩
  rcases List.mem_cons.1 hu with rfl|hu
  ·exact Ma h.1
  ·exact bi u hu
theorem Dx {m:Mem}{az:List I}{z:Value}(h:Dw az z=true):aR m az z.cells.toList∧∀v∈z.cells.toList,v.oneCell'=true:=by
 unfold Dw at h
 split at h
 ·exact L9 h
 ·rename_i a v e3
  have ao:=Ma h
  have ac:=Gd (m:=m) h
  have aq:Value.cells z= #[z]:=by
   cases z<;>first|rfl|(simp [Value.oneCell']at ao)
  rw[aq]
  refine⟨by simp only[aR]; exact⟨z,[],rfl,ac,rfl⟩,fun u hu=> ?_⟩
  simp at hu
  subst hu
  exact ao
 ·cases h
def eA (m:Mem) (env:Env) (tmps:Array Value):Prop:=∀k,aP m (env.get k) (tmps.getD k undef)
theorem dy {m:Mem}{env:Env}{a:Act}{x:Operand}{y:aJ}(he:eA m env a.tmps) (h:de x y=true):aP m (y.aI env) (a.eval x):=by
 unfold de at h
 split at h
 ·rename_i t n
  have e:t=n:=by simpa using h
  subst e
  exact he t
 ·exact Gd h
 ·rename_i f g
  have e:f=g∧f<ke:=by simpa using h
  obtain⟨rfl,hb⟩:=e
  simp only[aJ.aI,aP,aR,Act.eval]
  exact⟨[],(xL hb []).symm,rfl⟩
 ·cases h
theorem pW {m:Mem}{env:Env}{a:Act}(he:eA m env a.tmps): ∀ {xs:List Operand}{eT:List aJ},hi xs eT=true→aR m (eT.map (aJ.aI env)) (xs.map a.eval)
 |[],[],_=>by simp only[List.map_nil,aR]
 |[],_:: _,h=>by simp [hi]at h
 | _:: _,[],h=>by simp [hi]at h
 |x::xs,y::eT,h=>by
  simp only[hi,Bool.and_eq_true]at h
  simp only[List.map_cons,aR]
  exact⟨_,_,rfl,dy he h.1,pW he h.2⟩
theorem Ci {m:Mem}{a:I}{v:Value}(h:aP m a v) (ao:a.one=true):v.oneCell'=true:=by
 cases a<;>simp only[aP,I.one]at h ao<;>first
  |exact absurd ao Bool.false_ne_true
  |(obtain⟨rfl,_⟩:=h; rfl)
  |(subst h; first|rfl|exact ao)
  |exact h.1
  |(obtain⟨_,_,_,rfl,_⟩:=h; rfl)
  |(obtain⟨⟨_,_,_,rfl,_⟩,_⟩:=h; rfl)
  |(obtain⟨_,_,rfl,_⟩:=h; rfl)
  |(obtain⟨_,rfl,_⟩:=h; first|rfl|(unfold sl; split<;>rfl))
theorem LL {v:Value}(h:v.oneCell'=true):v.cells= #[v]:=by
 cases v<;>first|rfl|(simp [Value.oneCell']at h)
theorem Ds {m:Mem}{a:I}{v:Value}(h:aP m a v) (ao:a.cells.all I.one=true):aR m a.cells v.cells.toList∧∀u∈v.cells.toList,u.oneCell'=true:=by
 cases aL:a with
 |agg cs=>
  subst aL
  simp only[aP]at h
  obtain⟨l,rfl,aa⟩:=h
  refine⟨aa,fun u hu=> ?_⟩
  simp only[I.cells,List.all_eq_true]at ao
  obtain⟨i,ad⟩:=List.getElem?_of_mem hu
  have iD:i<l.length:=(List.getElem?_eq_some_iff.1 ad).1
  rw[aR.length aa]at iD
  obtain⟨bI,ar,ax⟩:=aR.get aa i cs[i] (List.getElem?_eq_getElem iD)
  have:bI=u:=by
   have an7:l[i]? =some u:=ad
   rw[an7]at ar
   simpa using ar.symm
  subst this
  exact Ci ax (ao _ (List.getElem_mem iD))
 | _=>
  subst aL
  simp only[I.cells,List.all_cons,List.all_nil,Bool.and_true]at ao ⊢
  have U:=Ci h ao
  rw[LL U]
  refine⟨by simp only[aR]; exact⟨v,[],rfl,h,rfl⟩,fun u hu=> ?_⟩
  simp at hu
  subst hu
  exact U
theorem kD {m:Mem}{k n v}(h:aP m (.int k n) v):v= .int k n:=by simpa only[aP] using h
theorem vy {m:Mem}{b v}(h:aP m (.bool b) v):v= .bool b:=by simpa only[aP] using h
theorem sS {m:Mem}{s v}(h:aP m (.str s) v):v= .string ⟨⟨s⟩⟩∧s.length≤maxLen:=by simpa only[aP] using h
theorem w0 {m:Mem}{b o v}(h:aP m (.ptr b o) v):v= .pointer (some ⟨b,o,none⟩):=by simpa only[aP] using h
theorem w3 {m:Mem}{x v}(h:aP m (.ev x) v):v=x:=by simpa only[aP] using h
theorem Ab {m:Mem}{r o v}(h:aP m (.eK r o) v): ∃b p,v= .pointer (some ⟨b,p+o,none⟩)∧fr m r b p:=by simpa only[aP] using h
theorem CC {m:Mem}{cs v}(h:aP m (.agg cs) v): ∃l,v= .agg ⟨l⟩∧aR m cs l:=by simpa only[aP] using h
theorem aT7 {m:Mem}{cs v}(h:aP m (.cT cs) v): ∃l,v= .tuple ⟨l⟩∧aR m cs l:=by simpa only[aP] using h
theorem yy {m:Mem}{f cs v}(h:aP m (.fn f cs) v): ∃l,v=sl f l∧aR m cs l:=by simpa only[aP] using h
theorem Ac {m:Mem}{size rows v}(h:aP m (.af size rows) v): ∃a cap,v= .slice a rows.length cap∧(rows.length≤cap∧cap≤maxLen)∧(rows.length=0∨∃b o,a=some ⟨b,o,none⟩∧ef m size rows b o):=by
 simp only[aP]at h
 obtain⟨a,len,cap,rfl,rfl,ay,bl⟩:=h
 exact⟨a,cap,rfl,ay,bl⟩
theorem Aa {m:Mem}{t size rows v}(h:aP m (.own t size rows) v):aP m (.af size rows) v:=by
 simp only[aP]at h ⊢
 exact h.1
theorem Cf {m:Mem}{agg:Bool}{cs:List I}{r:I}{l:List Value}(h:I.js agg cs=some r) (aC:aR m cs l):(agg=true∧aP m r (.agg ⟨l⟩))∨(agg=false∧∃v,l=[v]∧aP m r v):=by
 unfold I.js at h
 cases agg with
 |true=>
  simp at h
  subst h
  exact .inl ⟨rfl,by simp only[aP]; exact⟨l,rfl,aC⟩⟩
 |false=>
  simp only[cond_false]at h
  split at h
  ·rename_i a
   simp at h
   subst h
   simp only[aR]at aC
   obtain⟨v,af,rfl,U,rfl⟩:=aC
   exact .inr ⟨rfl,v,rfl,U⟩
  ·cases h
theorem z8 {P:Program}{t:TypeId}{b:Bool}(h:pe P t=some b) (w:World):(isAgg t).run P w= .ok b w:=by
 unfold pe at h
 split at h
 ·rename_i hu; simp at h; subst h; simp [isAgg,run_underlying hu]
 ·rename_i hu; simp at h; subst h; simp [isAgg,run_underlying hu]
 ·rename_i d U aa hu
  simp at h; subst h
  cases d<;>first|(exact (U _ rfl).elim)|(exact (aa _ _ rfl).elim)|(simp [isAgg,run_underlying hu]; done)
 ·cases h
theorem E8 {P:Program}{t:TypeId}{n:Nat}(h:j7 P t=some n): ∃i,P.info? t=some i∧i.size=n:=by
 unfold j7 at h
 cases ad:P.info? t with
 |none=>simp [ad]at h
 |some i=>simp [ad]at h; exact⟨i,rfl,h⟩
theorem oH {P:Program}{t:TypeId}{n:Nat}(h:j7 P t=some n) (w:World):(sizeOf t).run P w= .ok n w:=by
 obtain⟨i,ad,rfl⟩:=E8 h
 simp [sizeOf,typeInfo,ad]
theorem B5 {P:Program}{t:TypeId}{agg:Bool}{n:Nat}(h:qJ P t agg n=true):pe P t=some agg∧j7 P t=some n∧(agg=false→n=1)∧n≠0:=by
 simp only[qJ,Bool.and_eq_true,decide_eq_true_eq]at h
 obtain⟨⟨⟨U,aa⟩,ay⟩,bl⟩:=h
 refine⟨U,aa,fun e=> ?_,?_⟩
 ·subst e; simpa using ay
 ·simpa using bl
theorem oN (b o n:Nat):(⟨b,o,none⟩:Addr).add n=⟨b,o+n,none⟩:=by
 unfold Addr.add
 split
 ·subst_vars; rfl
 ·rfl
theorem Jm {P:Program}{w:World}{t:TypeId}{agg:Bool}{n:Nat}(h:qJ P t agg n=true) (b o:Nat) (l:List Value) (aC:l.length=n) (aq: ∀j v,l[j]? =some v→w.cell? ⟨b,o+j,none⟩=some v):
  (loadVar t ⟨b,o,none⟩).run P w= .ok (if agg then .agg ⟨l⟩ else l.getD 0 undef) w:=by
 obtain⟨U,aa,ay,bl⟩:=B5 h
 cases agg with
 |true=>
  have:=run_loadCells_list (P:=P) w ⟨b,o,none⟩ l (fun j v bx=>by rw[oN]; exact aq j v bx)
  rw[aC]at this
  simp [loadVar,z8 U,oH aa,this]
 |false=>
  have aW:=ay rfl
  subst aW
  match l,aC with
  |[v],_=>
   have:=aq 0 v rfl
   simp at this
   simp [loadVar,z8 U,this]
theorem UO {P:Program}{w:World}{t:TypeId}{agg:Bool}{n:Nat}(h:qJ P t agg n=true) (l:List Value) (off:Nat) (aC:off+n≤l.length):
  (part t ⟨l⟩ off).run P w= .ok (if agg then .agg ⟨(l.drop off).take n⟩ else l.getD off undef) w:=by
 obtain⟨U,aa,ay,bl⟩:=B5 h
 cases agg with
 |true=>
  simp [part,z8 U,oH aa,List.take_drop,Nat.add_comm]
 |false=>
  have aW:=ay rfl
  have cB:off<l.length:=by omega
  simp [part,z8 U,cB]
theorem ON (l:List Value) (o:Nat):l.getD o undef=(l.drop o).getD 0 undef:=by
 simp [List.getD]
theorem DQ {P:Program}{w:World}(op:BinOp) (t:TypeId) (x y:Operand) (k j:IntKind) (a b:Int):(eqGuard op t x y (.int k a) (.int j b)).run P w= .ok () w:=by
 unfold eqGuard; cases op<;>rfl
theorem Oy {P:Program}{w:World}(op:BinOp) (t:TypeId) (x y:Operand) (a b:ByteArray):(eqGuard op t x y (.string a) (.string b)).run P w= .ok () w:=by
 unfold eqGuard; cases op<;>rfl
theorem ae4 {P:Program}{w:World}(op:BinOp) (t:TypeId) (x y:Operand) (a b:Bool):(eqGuard op t x y (.bool a) (.bool b)).run P w= .ok () w:=by
 unfold eqGuard; cases op<;>rfl
theorem Ox {P:Program}{w:World}(op:BinOp) (t:TypeId) (x y:Operand) (a b:Array Value) (h:P.eqGuardType P.depth t=false):(eqGuard op t x y (.agg a) (.agg b)).run P w= .ok () w:=by
 unfold eqGuard; cases op<;>simp [h]
theorem ae1 {l:IntKind}{a b:I}{r:Bool}(h:po (.i l) a b=some r): ∃n j,a= .int l n∧b= .int l j∧r=decide (n=j):=by
 cases a<;>cases b<;>simp [po]at h
 obtain⟨⟨rfl,rfl⟩,rfl⟩:=h
 exact⟨_,_,rfl,rfl,rfl⟩
theorem ae3 {a b:I}{r:Bool}(h:po .s a b=some r): ∃n j,a= .str n∧b= .str j∧r=decide (n=j):=by
 cases a<;>cases b<;>simp [po]at h
 subst h
 exact⟨_,_,rfl,rfl,rfl⟩
theorem ae0 {a b:I}{r:Bool}(h:po .b a b=some r): ∃n j,a= .bool n∧b= .bool j∧r=(n==j):=by
 cases a<;>cases b<;>simp [po]at h
 subst h
 exact⟨_,_,rfl,rfl,rfl⟩
theorem GS: ∀ {aT:List nP}{cs gv:List I}{r:Bool},h9 aT cs gv=some r→cs.length=aT.length∧gv.length=aT.length
 |[],[],[],_,_=>⟨rfl,rfl⟩
 |k::aT,a::cs,b::gv,r,h=>by
  simp only[h9]at h
  split at h
  ·rename_i x y U aa
   obtain⟨ar,ax⟩:=GS aa
   simp [ar,ax]
  ·cases h
 |[],[],_:: _,_,h=>by simp [h9]at h
 |[],_:: _,_,_,h=>by simp [h9]at h
 | _:: _,[],_,_,h=>by simp [h9]at h
 | _:: _,_:: _,[],_,h=>by simp [h9]at h
theorem Ow: ∀ {aT yc:List nP}{cs gv:List I}{r:Bool},h9 (aT++yc) cs gv=some r→∃cu cL,h9 aT (cs.take aT.length) (gv.take aT.length)=some cu∧h9 yc (cs.drop aT.length) (gv.drop aT.length)=some cL∧r=(cu&&cL)
 |[],yc,cs,gv,r,h=>⟨true,r,by simp [h9],by simpa using h,by simp⟩
 | _:: _,_,[],_,_,h=>by simp [h9]at h
 | _:: _,_,_:: _,[],_,h=>by simp [h9]at h
 |k::aT,yc,a::cs,b::gv,r,h=>by
  simp only[List.cons_append,h9]at h
  split at h
  ·rename_i x y U aa
   obtain⟨cu,cL,ar,ax,rfl⟩:=Ow aa
   simp at h
   exact⟨x&&cu,cL,by simp [h9,U,ar],by simpa using ax,by rw[←h,Bool.and_assoc]⟩
  ·cases h
def ym (agg:Bool) (l:List Value):Value:=if agg then .agg ⟨l⟩ else l.getD 0 undef
theorem UP {P:Program}{w:World}{t:TypeId}{agg:Bool}{n:Nat}(U:pe P t=some agg) (aa:j7 P t=some n) (ay:agg=false→n=1) (l:List Value) (off:Nat) (aC:off+n≤l.length):
  (part t ⟨l⟩ off).run P w= .ok (ym agg ((l.drop off).take n)) w:=by
 cases agg with
 |true=>simp [part,z8 U,oH aa,ym,List.take_drop,Nat.add_comm]
 |false=>
  have aW:=ay rfl
  have cB:off<l.length:=by omega
  subst aW
  simp [part,z8 U,cB,ym,List.getD,List.getElem?_take]
theorem af5 {P:Program}: ∀ {d:Nat}{t:TypeId}{aT:List nP},tI P d t=some aT→∃agg,pe P t=some agg∧(agg=false→aT.length=1)
 |0,_,_,h=>by simp [tI]at h
 |d+1,t,aT,h=>by
  simp only[tI]at h
  split at h<;>first
   |(cases h; done)
   |(rename_i hu; simp only[Option.some.injEq]at h; subst h; exact⟨false,by simp [pe,hu],fun _=>rfl⟩)
   |(rename_i hu; exact⟨true,by simp [pe,hu],fun e=>by cases e⟩)
theorem Mk (s u:List UInt8):((⟨⟨s⟩⟩:ByteArray).toList==(⟨⟨u⟩⟩:ByteArray).toList)=decide (s=u):=by
 rw[y5,y5]
 rw[Bool.eq_iff_iff]
 simp
theorem Oz {P:Program}{w:World}{m:Mem}: ∀(d:Nat){t:TypeId}{aT:List nP}{agg:Bool}{cs gv:List I}{xs eT:List Value}{r:Bool}(e:Nat),tI P d t=some aT→pe P t=some agg→aR m cs xs→aR m gv eT→h9 aT cs gv=some r→
  (Op.equalIn (d+e) t (ym agg xs) (ym agg eT)).run P w= .ok r w
 |0,_,_,_,_,_,_,_,_,_,h,_,_,_,_=>by simp [tI]at h
 |d+1,t,aT,agg,cs,gv,xs,eT,r,e,h,aL,ab,aV,ac=>by
  rw[show d+1+e=(d+e)+1 by omega]
  simp only[tI]at h
  have one: ∀k,aT=[k]→agg=false→∃a b x y,po k a b=some r∧aP m a x∧aP m b y∧ym agg xs=x∧ym agg eT=y:=by
   rintro k rfl rfl
   match cs,gv,ac with
   |[a],[b],ac=>
    simp only[aR]at ab aV
    obtain⟨x,_,rfl,ab,rfl⟩:=ab
    obtain⟨y,_,rfl,aV,rfl⟩:=aV
    simp only[h9]at ac
    split at ac
    ·rename_i p q U aa
     simp at aa ac
     subst aa
     simp at ac
     subst ac
     exact⟨a,b,x,y,U,ab,aV,rfl,rfl⟩
    ·cases ac
   |[],_,ac=>simp [h9]at ac
   | _:: _,[],ac=>simp [h9]at ac
   | _:: _:: _,_:: _,ac=>simp [h9]at ac
   |[_],_:: _:: _,ac=>simp [h9]at ac
  split at h
  ·rename_i hu
   simp at h
   have xX:agg=false:=by simp [pe,hu]at aL; exact aL
   obtain⟨a,b,x,y,U,aa,ay,ar,ax⟩:=one _ h.symm xX
   rw[ar,ax]
   obtain⟨p,q,rfl,rfl,rfl⟩:=ae0 U
   rw[vy aa,vy ay,run_equalIn_bool' _ _ _ _ _ hu]
  ·rename_i k hu
   simp at h
   have xX:agg=false:=by simp [pe,hu]at aL; exact aL
   obtain⟨a,b,x,y,U,aa,ay,ar,ax⟩:=one _ h.symm xX
   rw[ar,ax]
   obtain⟨p,q,rfl,rfl,rfl⟩:=ae1 U
   rw[kD aa,kD ay,run_equalIn_int _ _ _ _ _ _ _ hu]
   congr 1
  ·rename_i hu
   simp at h
   have xX:agg=false:=by simp [pe,hu]at aL; exact aL
   obtain⟨a,b,x,y,U,aa,ay,ar,ax⟩:=one _ h.symm xX
   rw[ar,ax]
   obtain⟨p,q,rfl,rfl,rfl⟩:=ae3 U
   rw[(sS aa).1,(sS ay).1,run_equalIn_string _ _ _ _ _ hu,Mk]
  ·rename_i b2 hu
   split at h
   ·cases h
   ·rename_i lC
    have xX:agg=true:=by simp [pe,hu]at aL; exact aL
    subst xX
    have hf:P.fieldsOf t=b2:=by simp [Program.fieldsOf,hu]
    show (Op.equalIn ((d+e)+1) t (.agg ⟨xs⟩) (.agg ⟨eT⟩)).run P w= _
    rw[run_equalIn_struct w (d+e) t ⟨xs⟩ ⟨eT⟩ (by rw[hf]; exact hu) (by simpa using lC),hf]
    have key: ∀(b2:List Field) (off:Nat) (aT:List nP) (r:Bool),zs P (tI P d) off b2=some aT→h9 aT (cs.drop off) (gv.drop off)=some r→(Op.eqFields (d+e) ⟨xs⟩ ⟨eT⟩ b2).run P w= .ok r w:=by
     intro b2
     induction b2 with
     |nil=>
      intro off aT r U aa
      simp [zs]at U
      subst U
      have:=GS aa
      simp at this
      rw[show cs.drop off=[] by exact List.drop_eq_nil_of_le (by omega),show gv.drop off=[] by exact List.drop_eq_nil_of_le (by omega)]at aa
      simp [h9]at aa
      subst aa
      simp [Op.eqFields]
     |cons f b2 bB=>
      intro off aT r U aa
      simp only[zs]at U
      split at U
      ·rename_i bf Ef
       split at U
       ·rename_i aq
        obtain⟨sr,wE,wF,al9⟩:=aq
        cases nu:zs P (tI P d) (off+bf.length) b2 with
        |none=>simp [nu]at U
        |some bi=>
         simp [nu]at U
         subst U
         obtain⟨cu,cL,g1,g2,rfl⟩:=Ow aa
         rw[List.drop_drop,List.drop_drop]at g2
         obtain⟨KP,tL,gs⟩:=af5 Ef
         have bk2:0<bf.length:=List.length_pos_iff.2 al9
         have hle:=GS aa
         simp only[List.length_drop,List.length_append]at hle
         have qf:off+bf.length≤xs.length:=by have:=aR.length ab; omega
         have jC:off+bf.length≤eT.length:=by have:=aR.length aV; omega
         have jt:=UP (w:=w) tL wF gs xs off qf
         have rI:=UP (w:=w) tL wF gs eT off jC
         have bw:=Oz d e Ef tL (aR.take bf.length (aR.drop off ab)) (aR.take bf.length (aR.drop off aV)) g1 (w:=w)
         simp only[Op.eqFields,wE,ne_eq,not_false_eq_true,if_true,Sem.run_bind,sr,jt,rI,Result.andThen_ok,bw]
         cases cu with
         |false=>simp
         |true=>simpa using bB _ _ _ nu g2
       ·cases U
      ·cases U
    exact key b2.toList 0 aT r h (by simpa using ac)
  ·cases h
def gu (P:Program) (m:Mem) (a:Act) (o:Oper) (r:I):Prop:=
 ∃v,(execOp a.eval o).run P m.w= .ok (.value v) m.w∧aP m r v
section
variable {P:Program}{m:Mem}{env:Env}{a:Act}{o:Oper}
theorem Sk {x y}(he:eA m env a.tmps) (ao:o.op= .move x∨o.op= .assign x) (h:de x y=true):gu P m a o (y.aI env):=
 ⟨a.eval x,by rcases ao with ao|ao<;>simp [execOp,ao],dy he h⟩
theorem aP6 {c x y cV c9 iX r}(he:eA m env a.tmps) (ao:o.op= .pick c x y) (U:de c cV=true) (aa:de x c9=true) (ay:de y iX=true) (H:aA) (hp:ca (.pick cV c9 iX) env H=some r):gu P m a o r:=by
 simp only[ca]at hp
 have aq:=dy he U
 split at hp
 ·rename_i e; simp at hp; subst hp; rw[e]at aq
  exact⟨a.eval x,by simp [execOp,ao,vy aq,asBool],dy he aa⟩
 ·rename_i e; simp at hp; subst hp; rw[e]at aq
  exact⟨a.eval y,by simp [execOp,ao,vy aq,asBool],dy he ay⟩
 ·cases hp
theorem aP4 {x y r}(he:eA m env a.tmps) (ao:o.op= .nilCheck x) (U:de x y=true) (H:aA) (hp:ca (.eB y) env H=some r):gu P m a o r:=by
 simp only[ca]at hp
 have aq:=dy he U
 split at hp
 ·rename_i e; simp at hp; subst hp; rw[e]at aq
  exact⟨_,by simp [execOp,ao,w0 aq]; rfl,by simp only[aP]⟩
 ·rename_i e; simp at hp; subst hp; rw[e]at aq
  obtain⟨b,p,ar,ax⟩:=Ab aq
  exact⟨_,by simp [execOp,ao,ar]; rfl,by simp only[aP]; exact⟨b,p,rfl,ax⟩⟩
 ·rename_i e; simp at hp; subst hp; rw[e]at aq
  obtain⟨l,ar,ax⟩:=yy aq
  refine⟨a.eval x,?_,by simp only[aP]; exact⟨l,ar,ax⟩⟩
  unfold sl at ar
  split at ar<;>simp [execOp,ao,ar]
 ·cases hp
theorem aO5 {t x f off y r}(he:eA m env a.tmps) (ao:o.op= .fieldAddr t x f) (h:bo P o.op (.pq off y)=true) (H:aA) (hp:ca (.pq off y) env H=some r):gu P m a o r:=by
 rw[ao]at h
 simp only[bo,Bool.and_eq_true]at h
 obtain⟨U,aa⟩:=h
 have aq:=dy he U
 split at aa
 ·rename_i b2 hu
  split at aa
  ·rename_i g a7
   simp only[Bool.and_eq_true,decide_eq_true_eq]at aa
   obtain⟨aa,ay⟩:=aa
   split at ay
   ·rename_i n aW
    have uZ:n≠0:=by simpa using ay
    have lZ: ∀b p,a.eval x= .pointer (some ⟨b,p,none⟩)→(execOp a.eval o).run P m.w= .ok (.value (.pointer (some ⟨b,p+off,none⟩))) m.w:=by
     intro b p e
     simp [execOp,ao,Instr.fieldAt,run_underlying hu,a7,e,Instr.sureAddr,fieldPlace,oH aW,uZ,oN,aa]
    simp only[ca]at hp
    split at hp
    ·rename_i b p e; simp at hp; subst hp; rw[e]at aq
     exact⟨_,lZ _ _ (w0 aq),by simp only[aP]⟩
    ·rename_i row p e; simp at hp; subst hp; rw[e]at aq
     obtain⟨b,q,ar,ax⟩:=Ab aq
     exact⟨_,lZ _ _ ar,by simp only[aP]; exact⟨b,q,by rw[Nat.add_assoc],ax⟩⟩
    ·cases hp
   ·cases ay
  ·cases aa
 ·cases aa
theorem aI0 {agg n x env H r}(hp:ca (.pA agg n x) env H=some r):ca (.load agg n x) env H=some r:=by
 simp only[ca]at hp ⊢
 split at hp
 ·rename_i row o e
  rw[e]
  exact hp
 ·cases hp
theorem II {fv agg n x env H r}(hp:ca (.fP fv agg n x) env H=some r):ca (.load agg n x) env H=some r∧∃b o,env.get fv= .ptr b 0∧x.aI env= .ptr b o:=by
 simp only[ca]at hp ⊢
 split at hp
 ·rename_i b b1 o ar ax
  split at hp
  ·rename_i hb
   subst hb
   rw[ax]
   exact⟨hp,_,_,ar,rfl⟩
  ·cases hp
 ·cases hp
theorem aH9 {fv agg n x env H r b o}(hp:ca (.load agg n x) env H=some r) (U:env.get fv= .ptr b 0) (aa:x.aI env= .ptr b o):ca (.fP fv agg n x) env H=some r:=by
 simp only[ca,aa]at hp
 simp only[ca,U,aa,if_true]
 exact hp
theorem IZ {t x agg n y r}(he:eA m env a.tmps) (be:b9 m) (ao:o.op= .load t x) (U:qJ P t agg n=true) (aa:de x y=true) (hp:ca (.load agg n y) env m.H=some r):gu P m a o r:=by
 have aq:=dy he aa
 simp only[ca]at hp
 have fin: ∀b p (l:List Value) (cs:List I),a.eval x= .pointer (some ⟨b,p,none⟩)→I.js agg cs=some r→aR m cs l→l.length=n→(∀j v,l[j]? =some v→m.w.cell? ⟨b,p+j,none⟩=some v)→gu P m a o r:=by
  intro b p l cs ar ax bU dl gn
  refine⟨if agg then .agg ⟨l⟩ else l.getD 0 undef,by simp [execOp,ao,Instr.loadAt,ar,Instr.sureAddr,Jm U b p l dl gn],?_⟩
  rcases Cf ax bU with ⟨rfl,h⟩|⟨rfl,v,rfl,h⟩
  ·exact h
  ·exact h
 split at hp
 ·rename_i b p e
  rw[e]at aq
  split at hp
  ·rename_i T cs hb
   split at hp
   ·rename_i hle
    obtain⟨l,g1,g2,g3⟩:=be.aZ b _ cs hb
    refine fin b p ((l.drop p).take n) _ (w0 aq) hp (aR.take n (aR.drop p g2)) ?_ fun j v bx=> ?_
    ·have:=aR.length g2
     simp; omega
    ·rw[cell_of_row m.w b _ _ _ _ g1]
     rw[List.getElem?_take]at bx
     split at bx
     ·rw[List.getElem?_drop]at bx
      simpa using bx
     ·cases bx
   ·cases hp
  ·cases hp
 ·rename_i row p e
  rw[e]at aq
  obtain⟨b,q,ar,ax⟩:=Ab aq
  split at hp
  ·rename_i hle
   obtain⟨l,g1,g2⟩:=fr.yH ax
   refine fin b (q+p) ((l.drop p).take n) _ ar hp (aR.take n (aR.drop p g1)) ?_ fun j v bx=> ?_
   ·have:=aR.length g1
    simp; omega
   ·rw[List.getElem?_take]at bx
    split at bx
    ·rw[List.getElem?_drop]at bx
     rw[Nat.add_assoc]
     exact (g2 _ v bx).1
    ·cases bx
  ·cases hp
 ·cases hp
theorem aO6 {t x f agg off n y r}(he:eA m env a.tmps) (ao:o.op= .field t x f) (h:bo P o.op (.field agg off n y)=true) (H:aA) (hp:ca (.field agg off n y) env H=some r):gu P m a o r:=by
 rw[ao]at h
 simp only[bo,Bool.and_eq_true]at h
 obtain⟨U,aa⟩:=h
 have aq:=dy he U
 split at aa
 ·rename_i b2 hu
  split at aa
  ·rename_i g a7
   simp only[Bool.and_eq_true,decide_eq_true_eq]at aa
   obtain⟨aa,ay⟩:=aa
   simp only[ca]at hp
   split at hp
   ·rename_i cs e
    rw[e]at aq
    obtain⟨l,ar,ax⟩:=CC aq
    split at hp
    ·rename_i hle
     have aC:=aR.length ax
     refine⟨if agg then .agg ⟨(l.drop off).take n⟩ else l.getD off undef,by simp [execOp,ao,Instr.field,run_underlying hu,a7,ar,asAgg,aa,UO ay l off (by omega)],?_⟩
     rcases Cf hp (aR.take n (aR.drop off ax)) with ⟨rfl,h⟩|⟨rfl,v,ae,h⟩
     ·exact h
     ·have aW:=(B5 ay).2.2.1 rfl
      subst aW
      rw[ON]
      have:(l.drop off).getD 0 undef=v:=by
       cases br:l.drop off with
       |nil=>rw[br]at ae; simp at ae
       |cons x xs=>rw[br]at ae; simp at ae; simp [ae]
      simp only[Bool.false_eq_true,if_false,this]
      exact h
    ·cases hp
   ·cases hp
  ·cases aa
 ·cases aa
theorem aP5 {t x y r}(he:eA m env a.tmps) (ao:o.op= .unOp .not t x) (h:de x y=true) (H:aA) (hp:ca (.not y) env H=some r):gu P m a o r:=by
 have aq:=dy he h
 simp only[ca]at hp
 split at hp
 ·rename_i e; simp at hp; subst hp; rw[e]at aq
  exact⟨_,by simp [execOp,ao,vy aq,Op.unary]; rfl,by simp only[aP]⟩
 ·cases hp
theorem aP7 {op t x y u neg c9 r}(he:eA m env a.tmps) (ao:o.op= .binOp op t x y u) (h:bo P o.op (.sJ neg c9)=true) (H:aA) (hp:ca (.sJ neg c9) env H=some r):gu P m a o r:=by
 rw[ao]at h
 simp only[bo,Bool.and_eq_true,decide_eq_true_eq]at h
 obtain⟨⟨⟨⟨U,aa⟩,ay⟩,bl⟩,bW⟩:=h
 have aq:=dy he aa
 split at ay
 ·split at bl
  ·rename_i e hu
   subst U
   have run: ∀dH,a.eval x= .pointer dH→(execOp a.eval o).run P m.w= .ok (.value (.bool (bif neg then !dH.isNone else dH.isNone))) m.w:=by
    intro dH ae
    have a7: ∀op,(eqGuard op t x (.const (.pointer none)) (.pointer dH) (.pointer none)).run P m.w= .ok () m.w:=by
     intro op
     have Hd:P.eqGuardType P.depth t=false:=by simpa using bW
     unfold eqGuard; cases op<;>simp [Hd]
    have bw:(Op.equal t (.pointer dH) (.pointer none)).run P m.w= .ok dH.isNone m.w:=by
     have G7: ∀d,(Op.equalIn (d+1) t (.pointer dH) (.pointer none)).run P m.w= .ok dH.isNone m.w:=by
      intro d
      cases dH<;>simp [Op.equalIn,run_underlying hu]
     exact G7 9999
    have aV:a.eval (.const (.pointer none))= .pointer none:=rfl
    cases neg<;>simp [execOp,ao,ae,bw,a7,binOp,aV]
   simp only[ca]at hp
   split at hp
   ·rename_i b p ar; simp at hp; subst hp; rw[ar]at aq
    exact⟨_,run _ (w0 aq),by simp only[aP]; cases neg<;>rfl⟩
   ·rename_i row p ar; simp at hp; subst hp; rw[ar]at aq
    obtain⟨b,q,ax,_⟩:=Ab aq
    exact⟨_,run _ ax,by simp only[aP]; cases neg<;>rfl⟩
   ·rename_i ar; simp at hp; subst hp; rw[ar]at aq
    exact⟨_,run _ (w3 aq),by simp only[aP]; cases neg<;>rfl⟩
   ·cases hp
  ·cases bl
 ·cases ay
theorem aP3 {t x y r}(he:eA m env a.tmps) (ao:o.op= .unOp .neg t x) (h:de x y=true) (H:aA) (hp:ca (.neg y) env H=some r):gu P m a o r:=by
 have aq:=dy he h
 simp only[ca]at hp
 split at hp
 ·rename_i e; simp at hp; subst hp; rw[e]at aq
  exact⟨_,by simp [execOp,ao,kD aq,Op.unary,Op.intArith]; rfl,by simp only[aP,Int.zero_sub]⟩
 ·cases hp
theorem aO1 {s d x k y r}(he:eA m env a.tmps) (ao:o.op= .convert s d x) (h:bo P o.op (.conv k y)=true) (H:aA) (hp:ca (.conv k y) env H=some r):gu P m a o r:=by
 rw[ao]at h
 simp only[bo,Bool.and_eq_true]at h
 obtain⟨⟨U,aa⟩,ay⟩:=h
 have aq:=dy he U
 split at aa
 ·rename_i aT hs
  split at ay
  ·rename_i j br
   simp at ay
   subst ay
   simp only[ca]at hp
   split at hp
   ·rename_i e; simp at hp; subst hp; rw[e]at aq
    exact⟨_,by simp [execOp,ao,kD aq,Go.convert,run_underlying hs,run_underlying br,Conv.intToInt]; rfl,by simp only[aP]⟩
   ·cases hp
  ·cases ay
 ·cases aa
theorem aO4 {x i y r}(he:eA m env a.tmps) (ao:o.op= .extract x i) (h:de x y=true) (H:aA) (hp:ca (.extract i y) env H=some r):gu P m a o r:=by
 have aq:=dy he h
 simp only[ca]at hp
 split at hp
 ·rename_i l e
  rw[e]at aq
  obtain⟨af,ar,ax⟩:=aT7 aq
  obtain⟨v,bU,dl⟩:=aR.get ax i r hp
  exact⟨v,by simp [execOp,ao,ar,Instr.extract,bU],dl⟩
 ·cases hp
theorem aP1 {f first hA eT}(he:eA m env a.tmps) (ao:o.op= .makeFunc (.func f) first hA) (aU:hA.isEmpty=true) (h:hi first.toList eT=true):gu P m a o (.fn (f+ke) (eT.map (aJ.aI env))):=by
 have hf:hA= #[]:=by simpa using aU
 subst hf
 refine⟨_,by simp [execOp,ao,Instr.makeFunc]; rfl,?_⟩
 simp only[aP]
 exact⟨first.toList.map a.eval,by rw[OM]; simp [←Array.toList_map],pW he h⟩
theorem Lk {m:Mem}: ∀ {rows:List (List I)}{s:List UInt8}{l:List Value},mn rows=some s→aR m rows.flatten l→∃o1:List Int,l=o1.map (fun n=> .int .u8 n)∧s=o1.map (fun n=>UInt8.ofNat n.toNat)
 |[],s,l,h,k=>by
  simp only[mn,Option.some.injEq]at h
  simp only[List.flatten_nil,aR]at k
  subst h; subst k
  exact⟨[],rfl,rfl⟩
 |r::aS,s,l,h,k=>by
  unfold mn at h
  split at h
  ·rename_i e; cases e
  ·rename_i n Jk e
   simp only[List.cons.injEq]at e
   obtain⟨rfl,rfl⟩:=e
   split at h
   ·rename_i b5 cI
    simp only[Option.some.injEq]at h
    subst h
    simp only[List.flatten_cons,List.cons_append,List.nil_append,aR]at k
    obtain⟨v,af,rfl,U,aa⟩:=k
    obtain⟨o1,rfl,rfl⟩:=Lk cI aa
    exact⟨n::o1,by rw[kD U]; rfl,rfl⟩
   ·cases h
  ·cases h
theorem Lj: ∀ {rows:List (List I)}{s:List UInt8},mn rows=some s→s.length=rows.length
 |[],s,h=>by simp only[mn,Option.some.injEq]at h; subst h; rfl
 |r::aS,s,h=>by
  unfold mn at h
  split at h
  ·rename_i e; cases e
  ·rename_i n Jk e
   simp only[List.cons.injEq]at e
   obtain⟨rfl,rfl⟩:=e
   split at h
   ·rename_i b5 cI
    simp only[Option.some.injEq]at h
    subst h
    simp [Lj cI]
   ·cases h
  ·cases h
theorem ad6 (n:Int):(Utf8.encode n).data.toList.length≤maxLen:=by
 unfold Utf8.encode
 simp only
 repeat' split
 all_goals (simp only[List.length_cons,List.length_nil,maxLen]; omega)
theorem Sb: ∀(l:List Int) (r:ByteArray),l.foldl (fun r n=>r.push (UInt8.ofNat n.toNat)) r=⟨r.data++(l.map fun n=>UInt8.ofNat n.toNat).toArray⟩
 |[],r=>by simp
 |n::l,r=>by
  simp only[List.foldl_cons]
  rw[Sb l]
  simp [ByteArray.push]
theorem LY {w:World}{s d e:TypeId}(hs:P.underlying s=some (.slice e)) (he:P.underlying e=some (.int .u8)) (br:P.underlying d=some .string) (dH:Addr) (o1:List Int) (cap:Nat) (aq: ∀(j:Nat) (v:Value),(o1.map (Value.int .u8))[j]? =some v→w.cell? (dH.add j)=some v):
  (convert s d (.slice (some dH) o1.length cap)).run P w= .ok (.string ⟨⟨o1.map fun n=>UInt8.ofNat n.toNat⟩⟩) w:=by
 have U:=run_loadCells_list (P:=P) w dH (o1.map (Value.int .u8)) aq
 rw[List.length_map]at U
 rw[run_convert_bytes_string w s d e (some dH) o1.length cap hs he br,run_bytesToString w dH o1.length cap o1 (by simpa using U),Sb]
 have am8:ByteArray.empty.data= #[]:=rfl
 rw[am8]
 simp
theorem aO2 {s d x b y r}(he:eA m env a.tmps) (ao:o.op= .convert s d x) (h:bo P o.op (.r5 b y)=true) (H:aA) (hp:ca (.r5 b y) env H=some r):gu P m a o r:=by
 rw[ao]at h
 simp only[bo,Bool.and_eq_true]at h
 obtain⟨⟨U,aa⟩,ay⟩:=h
 have aq:=dy he U
 split at aa
 ·rename_i br
  cases b with
  |true=>
   simp only[ca]at hp
   split at hp
   ·rename_i k n _ e
    simp only[Option.some.injEq]at hp
    subst hp
    rw[e]at aq
    refine⟨.string (Utf8.encode n),?_,by simp only[aP]; exact⟨trivial,ad6 n⟩⟩
    split at ay
    ·rename_i fO hu
     simp [execOp,ao,kD aq,Go.convert,run_underlying hu,run_underlying br,Conv.intToString]
    ·rename_i cI hu
     split at ay<;>simp at ay
    ·cases ay
   all_goals (first|(cases hp; done)|(rename_i cA _; cases cA; done)|(rename_i cA; cases cA; done))
  |false=>
   split at ay
   ·cases ay
   ·rename_i e hu
    split at ay
    ·rename_i zF
     have rows: ∀ {rows:List (List I)}{b5:List UInt8},mn rows=some b5→aP m (.af 1 rows) (a.eval x)→gu P m a o (.str b5):=by
      intro rows b5 hb ae
      obtain⟨dH,cap,ar,⟨g1,g2⟩,g3⟩:=Ac ae
      have aC:=Lj hb
      rcases g3 with g3|⟨b,p,rfl,g3⟩
      ·have:rows=[]:=List.eq_nil_of_length_eq_zero g3
       subst this
       simp only[mn,Option.some.injEq]at hb
       subst hb
       refine⟨.string ⟨⟨[]⟩⟩,?_,by simp only[aP]; exact⟨trivial,Nat.zero_le _⟩⟩
       cases dH with
       |none=>simp [execOp,ao,ar,run_convert_bytes_string m.w s d e _ _ _ hu zF br,Conv.bytesToString]; rfl
       |some dH=>
        have:=LY (P:=P) (w:=m.w) hu zF br dH [] cap (by simp)
        simp only[List.length_nil,List.map_nil]at this
        simp [execOp,ao,ar,this]
      ·obtain⟨l,f1,f2,f3⟩:=ef.yH g3
       obtain⟨o1,rfl,rfl⟩:=Lk hb f1
       have tR:o1.length=rows.length:=by simpa using f2
       refine⟨.string ⟨⟨o1.map fun n=>UInt8.ofNat n.toNat⟩⟩,?_,by simp only[aP]; exact⟨trivial,by simp only[List.length_map]; omega⟩⟩
       have:=LY (P:=P) (w:=m.w) hu zF br ⟨b,p,none⟩ o1 cap (fun j v bx=>by rw[oN]; exact (f3 j v bx).1)
       rw[tR]at this
       simp [execOp,ao,ar,this]
     simp only[ca]at hp
     split at hp
     ·rename_i cA _; cases cA
     ·rename_i aS _ e
      rw[e]at aq
      cases hb:mn aS with
      |none=>simp [hb]at hp
      |some b5=>
       simp only[hb,Option.map_some,Option.some.injEq]at hp
       subst hp
       exact rows hb aq
     ·rename_i t aS _ e
      rw[e]at aq
      cases hb:mn aS with
      |none=>simp [hb]at hp
      |some b5=>
       simp only[hb,Option.map_some,Option.some.injEq]at hp
       subst hp
       exact rows hb (Aa aq)
     ·rename_i len cap _ ar
      rw[ar]at aq
      simp only[Option.some.injEq]at hp
      subst hp
      refine⟨.string ⟨⟨[]⟩⟩,?_,by simp only[aP]; exact⟨trivial,Nat.zero_le _⟩⟩
      simp [execOp,ao,w3 aq,run_convert_bytes_string m.w s d e _ _ _ hu zF br,Conv.bytesToString]; rfl
     ·cases hp
    ·cases ay
   ·cases ay
 ·cases aa
theorem RQ {x:Option Operand}{y:Option aJ}{d n:Nat}(he:eA m env a.tmps) (h:rm x y=true) (aW:kA env d y=some n):(x=none∧n=d)∨∃oK k,x=some oK∧a.eval oK= .int k n:=by
 unfold rm at h
 split at h
 ·simp [kA]at aW; exact .inl ⟨rfl,aW.symm⟩
 ·rename_i oK kb
  have ab:=dy he h
  simp only[kA]at aW
  split at aW
  ·rename_i k q e
   simp at aW
   subst aW
   rw[e]at ab
   exact .inr ⟨oK,k,rfl,kD ab⟩
  ·cases aW
 ·cases h
theorem Jn {w:World}{b:Bool}{len cap:Nat}{cJ ad:Option Operand}{oB iD:Option aJ}{l h:Nat}(he:eA m env a.tmps) (U:rm cJ oB=true) (aa:rm ad iD=true) (aC:kA env 0 oB=some l) (a8:kA env len iD=some h) (ay:l≤h) (bl:h≤len) (bW:len≤cap):
  (Instr.sliceBounds b len cap (cJ.map a.eval) (ad.map a.eval) none).run P w= .ok (l,h,cap) w:=by
 have Dn: ∀(v:Value) (k:IntKind) (n y:Nat) (c:BoundsCode),v= .int k n→n≤y→(Instr.sliceBound v y c).run P w= .ok n w:=by
  intro v k n y c e hle
  subst e
  have:(0:Int)≤n∧(n:Int)≤y:=⟨by omega,by omega⟩
  simp [Instr.sliceBound,asIntOf,this]
 rcases RQ he U aC with ⟨rfl,rfl⟩|⟨oK,k,rfl,ar⟩<;>rcases RQ he aa a8 with ⟨rfl,rfl⟩|⟨Kk,bf,rfl,ax⟩
 ·simp [Instr.sliceBounds]
 ·simp [Instr.sliceBounds,Dn _ _ _ cap _ ax (by omega)]
 ·simp [Instr.sliceBounds,Dn _ _ _ _ _ ar ay]
 ·simp [Instr.sliceBounds,Dn _ _ _ cap _ ax (by omega),Dn _ _ _ _ _ ar ay]
theorem Sj {f first hA eT}(he:eA m env a.tmps) (ao:o.op= .makeFunc (.func f) first hA) (aU:first.isEmpty=true) (h:hi hA.toList eT=true) (hb:Nat.blt f ke=true):gu P m a o (.fn f (eT.map (aJ.aI env))):=by
 have ia:f<ke:=by simpa using hb
 have hf:first= #[]:=by simpa using aU
 subst hf
 refine⟨_,by simp [execOp,ao,Instr.makeFunc]; rfl,?_⟩
 simp only[aP]
 exact⟨hA.toList.map a.eval,by rw[xL ia]; simp [←Array.toList_map],pW he h⟩
theorem aP2 {t x y}(he:eA m env a.tmps) (ao:o.op= .makeInterface t x) (h:de x y=true) (aa:(match P.underlying t with|some (.interface _)=>false|some _=>true|none=>false)=true):gu P m a o (.iE t (y.aI env)):=by
 refine⟨.iface t (a.eval x),?_,by simp only[aP]; exact⟨_,rfl,dy he h⟩⟩
 split at aa
 ·cases aa
 ·rename_i d e3 hu
  cases d<;>first
   |exact (e3 _ hu).elim
   |exact (e3 _ rfl).elim
   |simp [execOp,ao,Instr.makeInterface,run_underlying hu]
 ·cases aa
end
section
variable {P:Program}{m:Mem}{env:Env}{a:Act}{o:Oper}
theorem WN {w:World}{op:BinOp}{k:IntKind}{x y:Int}{r:I}(t:TypeId) (h:r1 op k x y=some r): ∃v,(binOp op t (.int k x) (.int k y)).run P w= .ok v w∧aP m r v:=by
 cases op<;>simp only[r1,Option.some.injEq]at h<;>first
  |(cases h; done)
  |(subst h; refine⟨_,by simp [binOp,Op.intArith,Op.intCmp]; rfl,?_⟩; simp only[aP]; done)
  |(subst h; refine⟨_,by simp [binOp,Op.intArith,Op.intCmp]; rfl,?_⟩; simp only[aP]; first|rfl|(congr 1; done))
  |(subst h; refine⟨_,by simp [binOp,Op.intBits]; rfl,?_⟩; simp only[aP]; done)
  |(split at h<;>first
   |(cases h; done)
   |(rename_i hb; simp only[Option.some.injEq]at h; subst h; refine⟨_,by simp [binOp,Op.shift,Int.not_lt.2 hb]; rfl,?_⟩; simp only[aP]; done))
theorem aV6 {w:World}{op:BinOp}{k j:IntKind}{x y:Int}{r:I}(t:TypeId) (h:w4 op k x y=some r): ∃v,(binOp op t (.int k x) (.int j y)).run P w= .ok v w∧aP m r v:=by
 cases op<;>simp only[w4]at h<;>first
  |(cases h; done)
  |(split at h<;>first
   |(cases h; done)
   |(rename_i hb; simp only[Option.some.injEq]at h; subst h; refine⟨_,by simp [binOp,Op.shift,Int.not_lt.2 hb]; rfl,?_⟩; simp only[aP]; done))
theorem WO {w:World}{op:BinOp}{x y:List UInt8}{r:I}(t:TypeId) (h:ur op x y=some r): ∃v,(binOp op t (.string ⟨⟨x⟩⟩) (.string ⟨⟨y⟩⟩)).run P w= .ok v w∧aP m r v:=by
 have e:=Mk x y
 rw[y5,y5]at e
 cases op<;>simp only[ur,Option.some.injEq]at h<;>first
  |(cases h; done)
  |(subst h; refine⟨_,by simp [binOp,Op.stringOp,y5,e]; rfl,?_⟩; simp only[aP]; done)
  |(subst h; refine⟨_,by simp [binOp,Op.stringOp,y5,e]; rfl,?_⟩; simp only[aP]; first|rfl|simp)
theorem WL {w:World}{op:BinOp}{x y:Bool}{r:I}{t:TypeId}(ht:P.underlying t=some .bool) (h:vX op x y=some r): ∃v,(binOp op t (.bool x) (.bool y)).run P w= .ok v w∧aP m r v:=by
 have e: ∀w:World,(Op.equal t (.bool x) (.bool y)).run P w= .ok (x==y) w:=fun w=>run_equalIn_bool' w 9999 t x y ht
 cases op<;>simp only[vX,Option.some.injEq]at h<;>first
  |(cases h; done)
  |(subst h; refine⟨_,by simp [binOp,e]; rfl,?_⟩; simp only[aP])
theorem aN8 {op t x y u c9 iX r}(he:eA m env a.tmps) (ao:o.op= .binOp op t x y u) (h:bo P o.op (.bin op c9 iX)=true) (H:aA) (hp:ca (.bin op c9 iX) env H=some r):gu P m a o r:=by
 rw[ao]at h
 simp only[bo,Bool.and_eq_true]at h
 obtain⟨⟨_,U⟩,aa⟩:=h
 have ab:=dy he U
 have aV:=dy he aa
 simp only[ca]at hp
 split at hp
 ·rename_i k p j q ar ax
  rw[ar]at ab
  rw[ax]at aV
  split at hp
  ·rename_i ad4
   subst ad4
   obtain⟨v,g1,g2⟩:=WN (P:=P) (w:=m.w) (m:=m) t hp
   exact⟨v,by simp [execOp,ao,kD ab,kD aV,DQ,g1],g2⟩
  ·obtain⟨v,g1,g2⟩:=aV6 (P:=P) (w:=m.w) (m:=m) (j:=j) t hp
   exact⟨v,by simp [execOp,ao,kD ab,kD aV,DQ,g1],g2⟩
 ·rename_i p q ar ax
  rw[ar]at ab
  rw[ax]at aV
  obtain⟨v,g1,g2⟩:=WO (P:=P) (w:=m.w) (m:=m) t hp
  exact⟨v,by simp [execOp,ao,(sS ab).1,(sS aV).1,Oy,g1],g2⟩
 ·cases hp
theorem aN9 {op t x y u c9 iX r}(he:eA m env a.tmps) (ao:o.op= .binOp op t x y u) (h:bo P o.op (.rk op c9 iX)=true) (H:aA) (hp:ca (.rk op c9 iX) env H=some r):gu P m a o r:=by
 rw[ao]at h
 simp only[bo,Bool.and_eq_true]at h
 obtain⟨⟨⟨_,U⟩,aa⟩,ay⟩:=h
 have ab:=dy he U
 have aV:=dy he aa
 simp only[ca]at hp
 split at ay
 ·rename_i hb
  split at hp
  ·rename_i p q ar ax
   rw[ar]at ab
   rw[ax]at aV
   obtain⟨v,g1,g2⟩:=WL (P:=P) (w:=m.w) (m:=m) hb hp
   exact⟨v,by simp [execOp,ao,vy ab,vy aV,ae4,g1],g2⟩
  ·cases hp
 ·cases ay
theorem aO3 {op t x y u neg T aT c9 iX r}(he:eA m env a.tmps) (ao:o.op= .binOp op t x y u) (h:bo P o.op (.j1 neg T aT c9 iX)=true) (H:aA) (hp:ca (.j1 neg T aT c9 iX) env H=some r):gu P m a o r:=by
 rw[ao]at h
 simp only[bo,Bool.and_eq_true,decide_eq_true_eq,Bool.not_eq_true']at h
 obtain⟨⟨⟨⟨⟨⟨U,rfl⟩,aa⟩,ay⟩,bl⟩,bW⟩,eL⟩:=h
 have ab:=dy he aa
 have aV:=dy he ay
 simp only[ca]at hp
 split at hp
 ·rename_i cs gv ar ax
  rw[ar]at ab
  rw[ax]at aV
  obtain⟨l,g1,g2⟩:=CC ab
  obtain⟨cc,g3,g4⟩:=CC aV
  cases bw:h9 aT cs gv with
  |none=>simp [bw]at hp
  |some b=>
   simp [bw]at hp
   subst hp
   split at eL
   ·rename_i b2 hu
    have aL:pe P t=some true:=by simp [pe,hu]
    have lZ:=Oz (P:=P) (w:=m.w) 8 9992 bl aL g2 g4 bw
    have he:(Op.equal t (.agg ⟨l⟩) (.agg ⟨cc⟩)).run P m.w= .ok b m.w:=lZ
    refine⟨.bool (bif neg then !b else b),?_,by simp only[aP]⟩
    rw[U]at ao
    cases neg with
    |true=>simp [execOp,ao,g1,g3,Ox _ _ _ _ _ _ bW,binOp,he]
    |false=>simp [execOp,ao,g1,g3,Ox _ _ _ _ _ _ bW,binOp,he]
   ·cases eL
 ·cases hp
theorem vV {α:Type}{l:Array α}{x:α}(h:l.toList=[x]):l= #[x]:=by cases l; simp at h; rw[h]
theorem Dr {c:Call}{b:Builtin}{x:Operand}(ao:o.op= .call c) (hb:c.callee= .builtin b) (ab:c.args= #[x]) (P:Program) (w w':World) (v:Value) (h:(builtin b c.argTypes o.type (c.args.map fun| .const _=>true| _=>false) #[a.eval x]).run P w= .ok (.value v) w'):
  (execOp a.eval o).run P w= .ok (.value v) w':=by
 simp [execOp,ao,resolve,hb,invoke,ab]at h ⊢
 exact h
theorem aO9 {c y r}(he:eA m env a.tmps) (ao:o.op= .call c) (h:bo P o.op (.mT y)=true) (H:aA) (hp:ca (.mT y) env H=some r):gu P m a o r:=by
 obtain⟨callee,args,argTypes⟩:=c
 rw[ao]at h
 cases callee with
 |value f=>simp [bo]at h
 |invoke _ _=>simp [bo]at h
 |builtin b=>
  cases b<;>simp only[bo]at h<;>first
   |(cases h; done)
   |skip
  simp only[Bool.and_eq_true]at h
  obtain⟨U,aa⟩:=h
  split at U
  ·rename_i x ab
   split at aa
   ·rename_i t ht
    have aq:=dy he U
    obtain rfl:=vV ab
    obtain rfl:=vV ht
    simp only[ca]at hp
    split at aa
    ·rename_i hu
     split at hp
     ·rename_i s e
      rw[e]at aq
      simp at hp
      subst hp
      refine⟨_,Dr ao rfl rfl P m.w m.w (.int .i64 s.length) ?_,by simp only[aP]⟩
      simp [builtin,Builtin.len_,run_underlying hu,(sS aq).1,goInt]
      rfl
     ·cases hp
    ·cases aa
   ·cases aa
  ·cases U
theorem aO7 {c y r}(he:eA m env a.tmps) (ao:o.op= .call c) (h:bo P o.op (.len y)=true) (H:aA) (hp:ca (.len y) env H=some r):gu P m a o r:=by
 obtain⟨callee,args,argTypes⟩:=c
 rw[ao]at h
 cases callee with
 |value f=>simp [bo]at h
 |invoke _ _=>simp [bo]at h
 |builtin b=>
  cases b<;>simp only[bo]at h<;>first
   |(cases h; done)
   |skip
  simp only[Bool.and_eq_true]at h
  obtain⟨U,aa⟩:=h
  split at U
  ·rename_i x ab
   split at aa
   ·rename_i t ht
    have aq:=dy he U
    obtain rfl:=vV ab
    obtain rfl:=vV ht
    simp only[ca]at hp
    split at aa
    ·rename_i el hu
     have run: ∀dH (n cap:Nat),a.eval x= .slice dH n cap→(execOp a.eval o).run P m.w= .ok (.value (.int .i64 n)) m.w:=by
      intro dH n cap e
      refine Dr ao rfl rfl P m.w m.w (.int .i64 n) ?_
      simp [builtin,Builtin.len_,run_underlying hu,e,goInt]
     split at hp
     ·rename_i e
      rw[e]at aq
      simp at hp
      subst hp
      obtain⟨dH,cap,ar,_⟩:=Ac aq
      exact⟨_,run _ _ _ ar,by simp only[aP]⟩
     ·rename_i e
      rw[e]at aq
      simp at hp
      subst hp
      obtain⟨dH,cap,ar,_⟩:=Ac (Aa aq)
      exact⟨_,run _ _ _ ar,by simp only[aP]⟩
     ·rename_i e
      rw[e]at aq
      simp at hp
      subst hp
      exact⟨_,run _ _ _ (w3 aq),by simp only[aP]⟩
     ·cases hp
    ·cases aa
   ·cases aa
  ·cases U
theorem aO8 {c n}(ao:o.op= .call c) (h:bo P o.op (.rE n)=true):gu P m a o (.int .i64 n):=by
 obtain⟨callee,args,argTypes⟩:=c
 rw[ao]at h
 cases callee with
 |value f=>simp [bo]at h
 |invoke _ _=>simp [bo]at h
 |builtin b=>
  cases b<;>simp only[bo]at h<;>first
   |(cases h; done)
   |skip
  simp only[Bool.and_eq_true]at h
  obtain⟨U,aa⟩:=h
  split at U
  ·rename_i x ab
   split at aa
   ·rename_i t ht
    obtain rfl:=vV ab
    obtain rfl:=vV ht
    refine⟨_,Dr ao rfl rfl P m.w m.w (.int .i64 n) ?_,by simp only[aP]⟩
    split at aa
    ·rename_i hu
     simp at aa
     simp [builtin,Builtin.len_,run_underlying hu,goInt,aa]
    ·rename_i hu
     split at aa
     ·rename_i as7
      simp at aa
      simp [builtin,Builtin.len_,run_underlying hu,run_underlying as7,goInt,aa]
     ·cases aa
    ·cases aa
   ·cases aa
  ·cases U
end
def hF (l:List Value) (o:Nat) (new:List Value):List Value:=l.take o++new++l.drop (o+new.length)
theorem Js {m:Mem}{cs new:List I}{l zQ:List Value}(h:aR m cs l) (k:aR m new zQ) (o:Nat):aR m (gj cs o new) (hF l o zQ):=by
 unfold gj hF
 rw[aR.length k]
 exact aR.append (aR.append (aR.take _ h) k) (aR.drop _ h)
theorem aU7 (l new:List Value) (v:Value) (n:Nat) (h:n<l.length):hF (l.set n v) (n+1) new=hF l n (v::new):=by
 unfold hF
 have ar:(l.set n v).take (n+1)=l.take n++[v]:=by
  rw[List.take_succ_eq_append_getElem (by simpa using h)]
  simp only[List.take_set,List.getElem_set_self]
  rw[List.set_eq_of_length_le (by simp; omega)]
 have ax:(l.set n v).drop (n+1+new.length)=l.drop (n+(new.length+1)):=by
  rw[List.drop_set,if_pos (by omega)]
  congr 1; omega
 rw[ar,ax]; simp
theorem U3: ∀(new:List Value) (l:List Value) (o j:Nat),o+j+new.length≤l.length→
  (new.zipIdx j).foldl (fun (cs:Array Value) (p:Value×Nat)=>cs.setIfInBounds (o+p.2) p.1) ⟨l⟩=⟨hF l (o+j) new⟩
 |[],l,o,j,h=>by simp [hF]
 |v::new,l,o,j,h=>by
  simp only[List.length_cons]at h
  simp only[List.zipIdx_cons,List.foldl_cons]
  rw[show (⟨l⟩:Array Value).setIfInBounds (o+j) v=⟨l.set (o+j) v⟩ by simp]
  rw[U3 new (l.set (o+j) v) o (j+1) (by simp; omega)]
  rw[show o+(j+1)=(o+j)+1 by omega]
  rw[aU7 l new v (o+j) (by omega)]
def qU (place:Nat→Option (Nat×Nat)):List (Nat×Operand)→List (Nat×Nat×aJ)→Prop
 |[],kC=>kC=[]
 |p::ps,kC=> ∃q EU,kC=q::EU∧place p.1=some (q.1,q.2.1)∧de p.2 q.2.2=true∧qU place ps EU
theorem LM {m:Mem}{a:I}{v:Value}(h:aP m a v) (ao:a.fk=true):aR m a.cells v.cells.toList:=by
 cases aL:a with
 |agg cs=>
  subst aL
  obtain⟨l,rfl,aa⟩:=CC h
  exact aa
 |eX=>subst aL; exact absurd ao Bool.false_ne_true
 |cT cs=>subst aL; exact absurd ao Bool.false_ne_true
 | _=>
  subst aL
  rw[LL (Ci h ao)]
  simp only[I.cells,aR]
  exact⟨v,[],rfl,h,rfl⟩
theorem DT {m:Mem}{a:Act}{env:Env}(he:eA m env a.tmps) (place:Nat→Option (Nat×Nat)): ∀(ps:List (Nat×Operand)) (kC:List (Nat×Nat×aJ)) (cs:List I) (l:List Value) (r:List I),
  qU place ps kC→aR m cs l→pg env cs kC=some r→
  ∃cc,Instr.fill place ⟨l⟩ (ps.map fun (i,x)=>(i,a.eval x))=some ⟨cc⟩∧aR m r cc
 |[],kC,cs,l,r,hp,aC,hb=>by
  simp only[qU]at hp
  subst hp
  simp only[pg,Option.some.injEq]at hb
  subst hb
  exact⟨l,by simp [Instr.fill],aC⟩
 |(i,x)::ps,kC,cs,l,r,hp,aC,hb=>by
  simp only[qU]at hp
  obtain⟨⟨off,size,y⟩,EU,rfl,U,aa,ay⟩:=hp
  simp only[pg]at hb
  split at hb
  ·rename_i aq
   obtain⟨c1,ci,fc⟩:=aq
   have Lo:(y.aI env).cells.length=size:=c1
   have bh7:off+size≤cs.length:=ci
   have uX:(a.eval x).cells.toList.length=size:=(aR.length (LM (dy he aa) fc)).trans c1
   have ae:=LM (dy he aa) fc
   have hlen:=aR.length ae
   have Ei:=aR.length aC
   obtain⟨cc,g1,g2⟩:=DT he place ps EU _ (hF l off (a.eval x).cells.toList) r ay (Js aC ae off) hb
   refine⟨cc,?_,g2⟩
   simp only[List.map_cons,Instr.fill,U]
   have dq:(a.eval x).cells.size=size:=by rw[←Array.length_toList,hlen]; exact c1
   have u0: ¬((decide ((a.eval x).cells.size≠size)||decide (off+(a.eval x).cells.size>(⟨l⟩:Array Value).size))=true):=by
    simp only[dq,ne_eq,not_true_eq_false,decide_false,Bool.false_or,decide_eq_true_eq,List.size_toArray]
    omega
   rw[if_neg u0]
   have aG:(a.eval x).cells.zipIdx.foldl (fun (cs:Array Value) (p:Value×Nat)=>cs.setIfInBounds (off+p.2) p.1) ⟨l⟩=⟨hF l off (a.eval x).cells.toList⟩:=by
    rw[←Array.foldl_toList,Array.toList_zipIdx]
    have:=U3 (a.eval x).cells.toList l off 0 (by rw[uX]; omega)
    simpa using this
   rw[aG]
   exact g1
  ·cases hb
theorem R2 {P:Program}: ∀ {b2:List Field}{places:List (Nat×Nat)},b2.mapM (fun f=>(P.info? f.type).map fun i=>(f.offset,i.size))=some places→∀(i:Nat) (f:Field),b2[i]? =some f→∃Ak,P.info? f.type=some Ak∧places[i]? =some (f.offset,Ak.size)
 |[],_,_,_,_,h=>by simp at h
 |g::b2,places,hp,i,f,h=>by
  simp only[List.mapM_cons,Option.bind_eq_bind,Option.pure_def]at hp
  cases ad:P.info? g.type with
  |none=>simp [ad]at hp
  |some Ak=>
   cases ac:b2.mapM (fun f=>(P.info? f.type).map fun i=>(f.offset,i.size)) with
   |none=>simp [ad,ac]at hp
   |some rest=>
    simp [ad,ac]at hp
    subst hp
    cases i with
    |zero=>simp at h; subst h; exact⟨Ak,ad,rfl⟩
    |succ i=>simp at h; obtain⟨t2,ar,ax⟩:=R2 ac i f h; exact⟨t2,ar,by simpa using ax⟩
theorem LS {P:Program}{b2:Array Field}{places:List (Nat×Nat)}(hp:b2.toList.mapM (fun f=>(P.info? f.type).map fun i=>(f.offset,i.size))=some places): ∀ {ps:List (Nat×Operand)}{kC:List (Nat×Nat×aJ)},zc P b2 ps kC=true→qU (places.toArray[·]?) ps kC
 |[],[],_=>by simp only[qU]
 |[],_:: _,h=>by simp [zc]at h
 | _:: _,[],h=>by simp [zc]at h
 |(i,x)::ps,(off,size,y)::kC,h=>by
  simp only[zc,Bool.and_eq_true]at h
  obtain⟨⟨U,aa⟩,ay⟩:=h
  simp only[qU]
  refine⟨_,_,rfl,?_,aa,LS hp ay⟩
  split at U
  ·rename_i f hf
   simp only[Bool.and_eq_true,decide_eq_true_eq]at U
   obtain⟨ar,ax⟩:=U
   obtain⟨Ak,bU,dl⟩:=E8 ax
   have qB:b2.toList[i]? =some f:=by simpa using hf
   obtain⟨t2,g1,g2⟩:=R2 hp i f qB
   rw[bU]at g1
   simp at g1
   subst g1
   simp [g2,ar,dl]
  ·cases U
theorem LR {size:Nat}: ∀ {ps:List (Nat×Operand)}{kC:List (Nat×Nat×aJ)},zd size ps kC=true→qU (fun i=>some (i*size,size)) ps kC
 |[],[],_=>by simp only[qU]
 |[],_:: _,h=>by simp [zd]at h
 | _:: _,[],h=>by simp [zd]at h
 |(i,x)::ps,(off,rO,y)::kC,h=>by
  simp only[zd,Bool.and_eq_true,decide_eq_true_eq]at h
  obtain⟨⟨⟨rfl,rfl⟩,aa⟩,ay⟩:=h
  simp only[qU]
  exact⟨_,_,rfl,rfl,aa,LR ay⟩
section
variable {P:Program}{m:Mem}{env:Env}{a:Act}{o:Oper}
theorem Fs {t:TypeId}{zero:List I}(h:vN P t zero=true): ∃i z,P.info? t=some i∧i.zero=some z∧Dw zero z=true:=by
 unfold vN at h
 cases ad:P.info? t with
 |none=>simp [ad]at h
 |some i=>
  cases aG:i.zero with
  |none=>simp [ad,aG]at h
  |some z=>simp [ad,aG]at h; exact⟨i,z,rfl,aG,h⟩
theorem aO0 {t parts zero ps r}(he:eA m env a.tmps) (ao:o.op= .build t parts) (h:bo P o.op (.build zero ps)=true) (H:aA) (hp:ca (.build zero ps) env H=some r):gu P m a o r:=by
 rw[ao]at h
 simp only[bo,Bool.and_eq_true]at h
 obtain⟨U,aa⟩:=h
 obtain⟨i,z,ad,aG,aq⟩:=Fs U
 have P0:=(Dx (m:=m) aq).1
 simp only[ca]at hp
 cases hb:pg env zero ps with
 |none=>simp [hb]at hp
 |some cs=>
  simp [hb]at hp
  subst hp
  have fin: ∀cc,P.built t ((parts.map fun (i,x)=>(i,a.eval x)).toList)=some ⟨cc⟩→aR m cs cc→gu P m a o (.agg cs):=by
   intro cc g1 g2
   refine⟨.agg ⟨cc⟩,?_,by simp only[aP]; exact⟨cc,rfl,g2⟩⟩
   have:=run_build (P:=P) m.w t (parts.map fun (i,x)=>(i,a.eval x)) ⟨cc⟩ g1
   simp only[execOp,ao,Sem.run_bind,this,Result.andThen_ok,Sem.run_pure]
  have PY:(⟨z.cells.toList⟩:Array Value)=z.cells:=rfl
  split at aa
  ·rename_i b2 hu
   simp only[Bool.and_eq_true]at aa
   obtain⟨aa,ay⟩:=aa
   obtain⟨places,HO⟩:=Option.isSome_iff_exists.1 ay
   obtain⟨cc,g1,g2⟩:=DT he (places.toArray[·]?) parts.toList ps zero z.cells.toList cs (LS HO aa) P0 hb
   refine fin cc ?_ g2
   simp only[Program.built,ad,hu,aG,HO,Array.toList_map]
   exact g1
  ·rename_i n e hu
   split at aa
   ·rename_i s hs
    obtain⟨Ak,ar,ax⟩:=E8 hs
    obtain⟨cc,g1,g2⟩:=DT he (fun i=>some (i*s,s)) parts.toList ps zero z.cells.toList cs (LR aa) P0 hb
    refine fin cc ?_ g2
    simp only[Program.built,ad,hu,aG,ar,Array.toList_map,ax]
    exact g1
   ·cases aa
  ·cases aa
theorem Qt {w:World}: ∀(rest:List I) (k:IntKind) (x:Int) (l:List Value) (r:I),mG false (.int k x) rest=some r→aR m rest l→∃v,(l.foldlM Builtin.min2 (.int k x)).run P w= .ok v w∧aP m r v
 |[],k,x,l,r,h,aC=>by
  simp only[aR]at aC
  subst aC
  simp [mG]at h
  subst h
  exact⟨_,by simp; rfl,by simp only[aP]⟩
 |b::rest,k,x,l,r,h,aC=>by
  simp only[aR]at aC
  obtain⟨v,af,rfl,U,aa⟩:=aC
  have hint: ∃j y,b= .int j y:=by
   cases b<;>first
    |exact⟨_,_,rfl⟩
    |(simp [mG]at h; done)
  obtain⟨j,y,rfl⟩:=hint
  simp only[mG]at h
  split at h
  ·rename_i e
   subst e
   obtain⟨bI,g1,g2⟩:=Qt rest k _ af r h aa
   refine⟨bI,?_,g2⟩
   rw[kD U]
   simp only[List.foldlM_cons,Sem.run_bind,Builtin.min2,Sem.run_pure,Result.andThen_ok]
   rw[show (if y<x then y else x)=min x y by simp only[Int.min_def]; split<;>split<;>omega]
   simpa using g1
  ·cases h
theorem Ql {w:World}: ∀(rest:List I) (k:IntKind) (x:Int) (l:List Value) (r:I),mG true (.int k x) rest=some r→aR m rest l→∃v,(l.foldlM Builtin.max2 (.int k x)).run P w= .ok v w∧aP m r v
 |[],k,x,l,r,h,aC=>by
  simp only[aR]at aC
  subst aC
  simp [mG]at h
  subst h
  exact⟨_,by simp; rfl,by simp only[aP]⟩
 |b::rest,k,x,l,r,h,aC=>by
  simp only[aR]at aC
  obtain⟨v,af,rfl,U,aa⟩:=aC
  have hint: ∃j y,b= .int j y:=by
   cases b<;>first
    |exact⟨_,_,rfl⟩
    |(simp [mG]at h; done)
  obtain⟨j,y,rfl⟩:=hint
  simp only[mG]at h
  split at h
  ·rename_i e
   subst e
   obtain⟨bI,g1,g2⟩:=Ql rest k _ af r h aa
   refine⟨bI,?_,g2⟩
   rw[kD U]
   simp only[List.foldlM_cons,Sem.run_bind,Builtin.max2,Sem.run_pure,Result.andThen_ok]
   rw[show (if y>x then y else x)=max x y by simp only[Int.max_def]; split<;>split<;>omega]
   simpa using g1
  ·cases h
theorem aP0 {c nv eT r}(he:eA m env a.tmps) (ao:o.op= .call c) (h:bo P o.op (.l1 nv eT)=true) (H:aA) (hp:ca (.l1 nv eT) env H=some r):gu P m a o r:=by
 obtain⟨callee,args,argTypes⟩:=c
 rw[ao]at h
 have key:hi args.toList eT=true→∃k x rest l,(args.map a.eval).toList= .int k x::l∧aR m rest l∧mG nv (.int k x) rest=some r:=by
  intro ab
  have aC:=pW he ab
  simp only[ca]at hp
  split at hp
  ·rename_i a0 rest e
   rw[e]at aC
   simp only[aR]at aC
   obtain⟨v,af,g1,g2,g3⟩:=aC
   have hint: ∃k x,a0= .int k x:=by
    cases a0<;>cases rest<;>first
     |exact⟨_,_,rfl⟩
     |(simp [mG]at hp; done)
   obtain⟨k,x,rfl⟩:=hint
   exact⟨k,x,rest,af,by rw[kD g2]at g1; simpa using g1,g3,hp⟩
  ·cases hp
 cases callee with
 |value f=>simp [bo]at h
 |invoke _ _=>simp [bo]at h
 |builtin b=>
  cases b<;>cases nv<;>simp only[bo]at h<;>first
   |(cases h; done)
   |skip
  ·obtain⟨k,x,rest,l,g1,g2,g3⟩:=key h
   obtain⟨v,ar,ax⟩:=Ql (P:=P) (w:=m.w) rest k x l r g3 g2
   refine⟨v,?_,ax⟩
   simp [execOp,ao,resolve,invoke,builtin,Builtin.max_]
   simp at g1
   simp [g1,ar]
  ·obtain⟨k,x,rest,l,g1,g2,g3⟩:=key h
   obtain⟨v,ar,ax⟩:=Qt (P:=P) (w:=m.w) rest k x l r g3 g2
   refine⟨v,?_,ax⟩
   simp [execOp,ao,resolve,invoke,builtin,Builtin.min_]
   simp at g1
   simp [g1,ar]
set_option maxHeartbeats 1600000 in
theorem aI1 {e:bg}{r:I}(he:eA m env a.tmps) (be:b9 m) (h:bo P o.op e=true) (hp:ca e env m.H=some r):gu P m a o r:=by
 cases e with
 |hO y=>
  simp only[ca,Option.some.injEq]at hp
  subst hp
  cases ao:o.op<;>simp [ao,bo]at h
  ·exact Sk he (.inl ao) h
  ·exact Sk he (.inr ao) h
 |pick c x y=>
  cases ao:o.op<;>simp [ao,bo]at h
  exact aP6 he ao h.1.1 h.1.2 h.2 m.H hp
 |eB y=>
  cases ao:o.op<;>simp [ao,bo]at h
  exact aP4 he ao h m.H hp
 |build zero ps=>
  cases ao:o.op<;>try (simp [ao,bo]at h; done)
  exact aO0 he ao h m.H hp
 |load agg n y=>
  cases ao:o.op<;>simp [ao,bo]at h
  exact IZ he be ao h.1 h.2 hp
 |fP fv agg n y=>
  cases ao:o.op<;>simp [ao,bo]at h
  exact IZ he be ao h.1 h.2 (II hp).1
 |pA agg n y=>
  cases ao:o.op<;>simp [ao,bo]at h
  exact IZ he be ao h.1 h.2 (aI0 hp)
 |pq off y=>
  cases ao:o.op<;>try (simp [ao,bo]at h; done)
  exact aO5 he ao h m.H hp
 |field agg off n y=>
  cases ao:o.op<;>try (simp [ao,bo]at h; done)
  exact aO6 he ao h m.H hp
 |bin op x y=>
  cases ao:o.op<;>try (simp [ao,bo]at h; done)
  have pv:=h
  rw[ao]at pv
  simp only[bo,Bool.and_eq_true,decide_eq_true_eq]at pv
  obtain⟨⟨rfl,_⟩,_⟩:=pv
  exact aN8 he ao h m.H hp
 |rk op x y=>
  cases ao:o.op<;>try (simp [ao,bo]at h; done)
  have pv:=h
  rw[ao]at pv
  simp only[bo,Bool.and_eq_true,decide_eq_true_eq]at pv
  obtain⟨⟨⟨rfl,_⟩,_⟩,_⟩:=pv
  exact aN9 he ao h m.H hp
 |j1 neg T aT x y=>
  cases ao:o.op<;>try (simp [ao,bo]at h; done)
  exact aO3 he ao h m.H hp
 |not y=>
  cases ao:o.op<;>try (simp [ao,bo]at h; done)
  rename_i u t x
  cases u<;>simp [ao,bo]at h
  exact aP5 he ao h m.H hp
 |sJ neg y=>
  cases ao:o.op<;>try (simp [ao,bo]at h; done)
  exact aP7 he ao h m.H hp
 |neg y=>
  cases ao:o.op<;>try (simp [ao,bo]at h; done)
  rename_i u t x
  cases u<;>simp [ao,bo]at h
  exact aP3 he ao h m.H hp
 |conv k y=>
  cases ao:o.op<;>try (simp [ao,bo]at h; done)
  exact aO1 he ao h m.H hp
 |mT y=>
  cases ao:o.op<;>try (simp [ao,bo]at h; done)
  exact aO9 he ao h m.H hp
 |len y=>
  cases ao:o.op<;>try (simp [ao,bo]at h; done)
  exact aO7 he ao h m.H hp
 |rE n=>
  simp only[ca,Option.some.injEq]at hp
  subst hp
  cases ao:o.op<;>try (simp [ao,bo]at h; done)
  exact aO8 ao h
 |l1 nv eT=>
  cases ao:o.op<;>try (simp [ao,bo]at h; done)
  exact aP0 he ao h m.H hp
 |extract i y=>
  cases ao:o.op<;>simp [ao,bo]at h
  obtain⟨U,rfl⟩:=h
  exact aO4 he ao U m.H hp
 |j6 f eT=>
  simp only[ca,Option.some.injEq]at hp
  subst hp
  cases ao:o.op<;>try (simp [ao,bo]at h; done)
  rename_i g first hA
  cases g<;>simp [ao,bo]at h
  obtain⟨⟨⟨rfl,aa⟩,ay⟩,bl⟩:=h
  exact Sj he ao (by simpa using aa) ay (by simpa using bl)
 |vl f eT=>
  simp only[ca,Option.some.injEq]at hp
  subst hp
  cases ao:o.op<;>try (simp [ao,bo]at h; done)
  rename_i g first hA
  cases g<;>simp [ao,bo]at h
  obtain⟨⟨rfl,aa⟩,ay⟩:=h
  exact aP1 he ao (by simpa using aa) ay
 |r5 b y=>
  cases ao:o.op<;>try (simp [ao,bo]at h; done)
  exact aO2 he ao h m.H hp
 |qM T y=>
  simp only[ca,Option.some.injEq]at hp
  subst hp
  cases ao:o.op<;>try (simp [ao,bo]at h; done)
  rename_i t x
  rw[ao]at h
  simp only[bo,Bool.and_eq_true,decide_eq_true_eq]at h
  obtain⟨⟨rfl,aa⟩,ay⟩:=h
  exact aP2 he ao aa ay
 | _=>simp [ca]at hp
end
section
variable {P:Program}{m:Mem}{env:Env}{a:Act}{o:Oper}
theorem pb {K:Act→World→Prop}{Q:Exit→Act→World→Prop}{w w':World}{v:Value}(h:(execOp a.eval o).run P w= .ok (.value v) w') (aw:K (a.put o.dst v) w'):o.wp P a w K Q:=by
 simp only[Oper.wp,h,Oper.upon]
 exact aw
theorem Z8 {t x y u c9 iX k p q}(he:eA m env a.tmps) (ao:o.op= .binOp .quo t x y u) (U:de x c9=true) (aa:de y iX=true) (ar:c9.aI env= .int k p) (ax:iX.aI env= .int k q) (bw:q≠0):gu P m a o (.int k (k.wrap (p.tdiv q))):=by
 have ab:=dy he U
 have aV:=dy he aa
 rw[ar]at ab; rw[ax]at aV
 exact⟨_,by simp [execOp,ao,kD ab,kD aV,DQ,binOp,Op.intDiv,bw]; rfl,by simp only[aP]⟩
theorem Z9 {t x y u c9 iX k p q}(he:eA m env a.tmps) (ao:o.op= .binOp .rem t x y u) (U:de x c9=true) (aa:de y iX=true) (ar:c9.aI env= .int k p) (ax:iX.aI env= .int k q) (bw:q≠0):gu P m a o (.int k (p.tmod q)):=by
 have ab:=dy he U
 have aV:=dy he aa
 rw[ar]at ab; rw[ax]at aV
 exact⟨_,by simp [execOp,ao,kD ab,kD aV,DQ,binOp,Op.intDiv,bw]; rfl,by simp only[aP]⟩
theorem ZW {t x y u c9 iX p q}(he:eA m env a.tmps) (ao:o.op= .binOp .add t x y u) (U:de x c9=true) (aa:de y iX=true) (ar:c9.aI env= .str p) (ax:iX.aI env= .str q) (bw:p.length+q.length≤maxLen):gu P m a o (.str (p++q)):=by
 have ab:=dy he U
 have aV:=dy he aa
 rw[ar]at ab; rw[ax]at aV
 have hs: ¬((((⟨⟨p⟩⟩:ByteArray).size+(⟨⟨q⟩⟩:ByteArray).size:Nat):Int)>IntKind.i64.max):=by
  have ar:(⟨⟨p⟩⟩:ByteArray).size=p.length:=rfl
  have ax:(⟨⟨q⟩⟩:ByteArray).size=q.length:=rfl
  rw[ar,ax]
  have:IntKind.i64.max=9223372036854775807:=by decide
  rw[this]
  simp only[maxLen]at bw
  omega
 refine⟨.string ⟨⟨p++q⟩⟩,?_,by simp only[aP]; exact⟨trivial,by simpa using bw⟩⟩
 simp only[execOp,ao,(sS ab).1,(sS aV).1,Sem.run_bind,Oy,Result.andThen_ok,binOp,Op.stringOp]
 rw[if_neg hs]
 simp [WZ]
theorem Ez:maxLen=9223372036854775807:=by decide
theorem Mg {t x i size c9 dB rows k n r}(he:eA m env a.tmps) (ao:o.op= .indexAddr t x i) (h:bo P o.op (.gy size c9 dB)=true) (ar:aP m (.af size rows) (a.eval x)) (ax:dB.aI env= .int k n) (aU:0≤n) (ac:rows[n.toNat]? =some r):gu P m a o (.eK r 0):=by
 rw[ao]at h
 simp only[bo,Bool.and_eq_true]at h
 obtain⟨⟨U,aa⟩,ay⟩:=h
 have ad:=dy he aa
 rw[ax]at ad
 obtain⟨dH,cap,g1,⟨g2,ag3⟩,g3⟩:=Ac ar
 have cB:n.toNat<rows.length:=(List.getElem?_eq_some_iff.1 ac).1
 rcases g3 with g3|⟨b,p,rfl,g3⟩
 ·omega
 ·obtain⟨g4,g5⟩:=ef.get g3 _ _ ac
  split at ay
  ·rename_i el gq
   have dq:j7 P el=some size:=by simpa using ay
   have hu:P.underlying t=some (.slice el):=by
    unfold kU at gq
    split at gq
    ·rename_i e hu; simp at gq; subst gq; exact hu
    ·cases gq
   refine⟨.pointer (some ⟨b,p+n.toNat*size,none⟩),?_,by simp only[aP]; exact⟨b,_,rfl,g5⟩⟩
   have aW:0≤n∧n<(rows.length:Int):=⟨aU,by omega⟩
   simp [execOp,ao,Instr.indexAt,g1,kD ad,asIntOf,run_underlying hu,aW,oH dq,oN]
  ·cases ay
theorem Z1 {t x i size c9 dB b p len cap k}{n:Int}(he:eA m env a.tmps) (ao:o.op= .indexAddr t x i) (h:bo P o.op (.gy size c9 dB)=true) (ar:c9.aI env= .ev (.slice (some ⟨b,p,none⟩) len cap)) (ax:dB.aI env= .int k n) (aU:0≤n) (ac:n<(len:Int)):gu P m a o (.ptr b (p+n.toNat*size)):=by
 rw[ao]at h
 simp only[bo,Bool.and_eq_true]at h
 obtain⟨⟨U,aa⟩,ay⟩:=h
 have ad:=dy he aa
 have ab:=dy he U
 rw[ax]at ad
 rw[ar]at ab
 split at ay
 ·rename_i el gq
  have dq:j7 P el=some size:=by simpa using ay
  have hu:P.underlying t=some (.slice el):=by
   unfold kU at gq
   split at gq
   ·rename_i e hu; simp at gq; subst gq; exact hu
   ·cases gq
  refine⟨.pointer (some ⟨b,p+n.toNat*size,none⟩),?_,by simp only[aP]⟩
  simp [execOp,ao,Instr.indexAt,w3 ab,kD ad,asIntOf,run_underlying hu,aU,ac,oH dq,oN]
 ·cases ay
theorem Mf {t x i size c9 dB b p k}{len:Nat}{n:Int}(he:eA m env a.tmps) (ao:o.op= .indexAddr t x i) (h:bo P o.op (.oA len size c9 dB)=true) (ar:a.eval x= .pointer (some ⟨b,p,none⟩)) (ax:dB.aI env= .int k n) (aU:0≤n) (ac:n<(len:Int)):
  (execOp a.eval o).run P m.w= .ok (.value (.pointer (some ⟨b,p+n.toNat*size,none⟩))) m.w:=by
 rw[ao]at h
 simp only[bo,Bool.and_eq_true]at h
 obtain⟨⟨U,aa⟩,ay⟩:=h
 have ad:=dy he aa
 rw[ax]at ad
 split at ay
 ·rename_i aB1 el hu
  simp only[Bool.and_eq_true,decide_eq_true_eq]at ay
  obtain⟨rfl,dq⟩:=ay
  simp [execOp,ao,Instr.indexAt,ar,kD ad,asIntOf,run_underlying hu,Instr.sureAddr,aU,ac,oH dq,oN]
 ·cases ay
theorem Z0 {t x i agg size c9 dB cs k v}{len:Nat}{n:Int}(he:eA m env a.tmps) (ao:o.op= .index t x i) (h:bo P o.op (.kj agg len size c9 dB)=true) (ar:c9.aI env= .agg cs) (ax:dB.aI env= .int k n) (aU:0≤n) (ac:n<(len:Int)) (aC:n.toNat*size+size≤cs.length) (ae:I.js agg ((cs.drop (n.toNat*size)).take size)=some v):gu P m a o v:=by
 rw[ao]at h
 simp only[bo,Bool.and_eq_true]at h
 obtain⟨⟨U,aa⟩,ay⟩:=h
 have ad:=dy he aa
 have ab:=dy he U
 rw[ax]at ad
 rw[ar]at ab
 obtain⟨l,g1,g2⟩:=CC ab
 have n5:=aR.length g2
 split at ay
 ·rename_i aB1 el hu
  simp only[Bool.and_eq_true,decide_eq_true_eq]at ay
  obtain⟨rfl,ay⟩:=ay
  have dq:=(B5 ay).2.1
  refine⟨if agg then .agg ⟨(l.drop (n.toNat*size)).take size⟩ else l.getD (n.toNat*size) undef,?_,?_⟩
  ·simp [execOp,ao,Instr.index,g1,kD ad,asIntOf,run_underlying hu,aU,ac,oH dq,UO ay l (n.toNat*size) (by omega)]
  ·rcases Cf ae (aR.take size (aR.drop (n.toNat*size) g2)) with ⟨rfl,h⟩|⟨rfl,u,BF,h⟩
   ·exact h
   ·have aW:=(B5 ay).2.2.1 rfl
    subst aW
    rw[ON]
    have:(l.drop (n.toNat*1)).getD 0 undef=u:=by
     cases br:l.drop (n.toNat*1) with
     |nil=>rw[br]at BF; simp at BF
     |cons x xs=>rw[br]at BF; simp at BF; simp [BF]
    simp only[Bool.false_eq_true,if_false,this]
    exact h
 ·cases ay
theorem Z2 {t x i c9 dB s k n c}(he:eA m env a.tmps) (ao:o.op= .index t x i) (h:bo P o.op (.ic c9 dB)=true) (ar:c9.aI env= .str s) (ax:dB.aI env= .int k n) (aU:0≤n) (aq:s[n.toNat]? =some c):gu P m a o (.int .u8 c.toNat):=by
 rw[ao]at h
 simp only[bo,Bool.and_eq_true]at h
 obtain⟨⟨U,aa⟩,ay⟩:=h
 have ad:=dy he aa
 have ab:=dy he U
 rw[ax]at ad
 rw[ar]at ab
 split at ay
 ·rename_i hu
  refine⟨.int .u8 c.toNat,?_,by simp only[aP]⟩
  have cB:=(List.getElem?_eq_some_iff.1 aq)
  have hb:(⟨⟨s⟩⟩:ByteArray)[n.toNat]? =some c:=by
   obtain⟨aC,ss⟩:=cB
   have:=getElem?_pos (⟨⟨s⟩⟩:ByteArray) n.toNat aC
   rw[this]
   exact congrArg some ss
  simp [execOp,ao,Instr.index,(sS ab).1,kD ad,asIntOf,run_underlying hu,aU,hb]
 ·cases ay
theorem aa1 {t x cJ ad nB y oB iD s l h}(he:eA m env a.tmps) (ao:o.op= .slice t x cJ ad nB) (aq:bo P o.op (.kE y oB iD)=true) (ar:y.aI env= .str s) (aC:kA env 0 oB=some l) (a8:kA env s.length iD=some h) (U:l≤h) (aa:h≤s.length):gu P m a o (.str ((s.take h).drop l)):=by
 rw[ao]at aq
 cases nB with
 |some _=>simp [bo]at aq
 |none=>
  simp only[bo,Bool.and_eq_true]at aq
  obtain⟨⟨⟨c1,ci⟩,fc⟩,ha⟩:=aq
  have ab:=dy he c1
  rw[ar]at ab
  obtain⟨g1,g2⟩:=sS ab
  split at ha
  ·rename_i hu
   have hs:(⟨⟨s⟩⟩:ByteArray).size=s.length:=rfl
   have hb:=Jn (P:=P) (w:=m.w) (b:=false) (cap:=s.length) he ci fc aC a8 U aa (Nat.le_refl _)
   refine⟨.string ⟨⟨(s.take h).drop l⟩⟩,?_,by simp only[aP]; exact⟨trivial,by simp; omega⟩⟩
   simp [execOp,ao,Instr.sliceAt,Instr.slice,run_underlying hu,g1,hs,hb,Ll]
  ·cases ha
theorem aW3 {m:Mem}{size:Nat}{a:I}{rows:List (List I)}{v:Value}(h:oJ size a=some rows) (ae:aP m a v):aP m (.af size rows) v:=by
 unfold oJ at h
 split at h
 ·split at h
  ·rename_i e; subst e; simp only[Option.some.injEq]at h; subst h; exact ae
  ·cases h
 ·split at h
  ·rename_i e; subst e; simp only[Option.some.injEq]at h; subst h; exact Aa ae
  ·cases h
 ·cases h
theorem aa2 {t x cJ ad nB size y oB iD rows l h}(he:eA m env a.tmps) (ao:o.op= .slice t x cJ ad nB) (aq:bo P o.op (.ii size y oB iD none)=true) (ar:oJ size (y.aI env)=some rows) (aC:kA env 0 oB=some l) (a8:kA env rows.length iD=some h) (U:l≤h) (aa:h≤rows.length):gu P m a o (.af size ((rows.take h).drop l)):=by
 rw[ao]at aq
 simp only[bo,Bool.and_eq_true]at aq
 obtain⟨⟨⟨⟨c1,ci⟩,fc⟩,k6⟩,ha⟩:=aq
 have ab:=dy he c1
 replace ab:=aW3 ar ab
 have HM:nB=none:=by cases nB<;>simp [rm]at k6 ⊢
 subst HM
 split at ha
 ·rename_i el gq
  have dq:j7 P el=some size:=by simpa using ha
  have hu:P.underlying t=some (.slice el):=by
   unfold kU at gq
   split at gq
   ·rename_i e hu; simp at gq; subst gq; exact hu
   ·cases gq
  obtain⟨dH,cap,g1,⟨g2,ag3⟩,g3⟩:=Ac ab
  have hb:=Jn (P:=P) (w:=m.w) (b:=true) (cap:=cap) he ci fc aC a8 U aa g2
  refine⟨.slice (if cap=l then dH else dH.map (·.add (l*size))) (h-l) (cap-l),?_,?_⟩
  ·simp [execOp,ao,Instr.sliceAt,Instr.slice,run_underlying hu,g1,hb,oH dq]
  ·simp only[aP]
   have hlen:((rows.take h).drop l).length=h-l:=by simp; omega
   refine⟨_,_,_,rfl,hlen.symm,⟨by omega,by omega⟩,?_⟩
   by_cases cB:l<h
   ·rcases g3 with g3|⟨b,p,rfl,g3⟩
    ·omega
    ·refine .inr ⟨b,p+l*size,by rw[if_neg (by omega)]; simp [oN],?_⟩
     have:=ef.drop l g3
     have:=ef.take (h-l) this
     rwa [show (rows.take h).drop l=(rows.drop l).take (h-l) by rw[List.drop_take]]
   ·exact .inl (by omega)
 ·cases ha
end
section
variable {P:Program}{m:Mem}{env:Env}{a:Act}{o:Oper}
theorem ZV {T x y}(he:eA m env a.tmps) (be:b9 m) (ao:o.op= .box T x) (h:de x y=true) (aV:((y.aI env).cells).all I.one=true):
  ∃l,(execOp a.eval o).run P m.w= .ok (.value (.pointer (some ⟨m.w.heap.size,0,none⟩))) (m.b4 T (y.aI env).cells l).w∧b9 (m.b4 T (y.aI env).cells l):=by
 obtain⟨U,aa⟩:=Ds (dy he h) aV
 exact⟨(a.eval x).cells.toList,by simp [execOp,ao,Instr.box,newVar,newRow,Mem.b4],b9.b4 be U aa⟩
theorem aT8 {m:Mem}(s:List UInt8):aR m (s.map fun c=>[I.int .u8 c.toNat]).flatten (s.map fun b=>Value.int .u8 b.toNat):=by
 induction s with
 |nil=>simp [aR]
 |cons c s bB=>simp only[List.map_cons,List.flatten_cons,List.singleton_append,aR]; exact⟨_,_,rfl,by simp only[aP],bB⟩
theorem ZX {t t2 T x y s}(he:eA m env a.tmps) (be:b9 m) (ao:o.op= .convert t t2 x) (h:bo P o.op (.kN T y)=true) (aV:y.aI env= .str s):
  ∃w' v,(execOp a.eval o).run P m.w= .ok (.value v) w'∧b9 {m with w:=w'}∧b8 m {m with w:=w'}∧aP {m with w:=w'} (.af 1 (s.map fun c=>[.int .u8 c.toNat])) v:=by
 rw[ao]at h
 simp only[bo,Bool.and_eq_true,decide_eq_true_eq]at h
 obtain⟨⟨⟨U,aa⟩,ay⟩,bl⟩:=h
 have ab:=dy he U
 rw[aV]at ab
 obtain⟨g1,g2⟩:=sS ab
 split at aa
 ·rename_i hu
  split at bl
  ·rename_i zF
   have br:P.underlying t2=some (.slice T):=by
    unfold kU at ay
    split at ay
    ·rename_i e hu; simp at ay; subst ay; exact hu
    ·cases ay
   have ac:=run_bytes_of_string (P:=P) m.w t t2 T ⟨⟨s⟩⟩ hu br zF
   have hs:(⟨⟨s⟩⟩:ByteArray).size=s.length:=rfl
   rw[hs]at ac
   refine⟨m.w.drew.alloc (.cells (bytesRow ⟨⟨s⟩⟩ (grownCap m.w s.length 0 T)) T ((bytesRow ⟨⟨s⟩⟩ (grownCap m.w s.length 0 T)).size,(bytesRow ⟨⟨s⟩⟩ (grownCap m.w s.length 0 T)).size+1)),.slice (some ⟨m.w.heap.size,0,none⟩) s.length (grownCap m.w s.length 0 T),by simp [execOp,ao,g1,ac],?_,?_,?_⟩
   ·exact b9.alloc (b9.drew be) _
   ·exact (b8.drew m).trans (b8.alloc {m with w:=m.w.drew} _)
   ·have aI:=(b8.drew m).trans (b8.alloc {m with w:=m.w.drew} (.cells (bytesRow ⟨⟨s⟩⟩ (grownCap m.w s.length 0 T)) T ((bytesRow ⟨⟨s⟩⟩ (grownCap m.w s.length 0 T)).size,(bytesRow ⟨⟨s⟩⟩ (grownCap m.w s.length 0 T)).size+1)))
    simp only[aP]
    have cg:=grownCap_ge m.w s.length 0 T
    have hle:=grownCap_le_maxLen m.w s.length 0 T g2
    refine⟨_,_,_,rfl,by simp,⟨by simpa using cg,hle⟩,.inr ⟨m.w.heap.size,0,rfl,ef.of (fun r ac=>by obtain⟨c,_,rfl⟩:=List.mem_map.1 ac; rfl) (l:=s.map fun b=> .int .u8 b.toNat) ?_ fun j v bx=>⟨?_,?_,⟨by simp,y3 be,fun t i ht hb=> ?_⟩⟩⟩⟩
    ·exact aT8 s
    ·rw[Nat.zero_add]
     have aq:=World.cell?_alloc_mark m.w.drew (bytesRow ⟨⟨s⟩⟩ (grownCap m.w s.length 0 T)) T ((bytesRow ⟨⟨s⟩⟩ (grownCap m.w s.length 0 T)).size,(bytesRow ⟨⟨s⟩⟩ (grownCap m.w s.length 0 T)).size+1) j
     have jh:j<s.length:=by
      have:=(List.getElem?_eq_some_iff.1 bx).1
      simpa using this
     refine aq.trans ?_
     rw[bytesRow_at _ _ _ (by simpa using jh)]
     simp [List.getElem?_eq_getElem jh]at bx
     rw[←bx]
     rfl
    ·have:=List.mem_of_getElem? bx
     obtain⟨c,_,rfl⟩:=List.mem_map.1 this
     rfl
    ·have:=w9 be ht hb
     omega
  ·cases bl
 ·cases aa
theorem ZU {T zero}(be:b9 m) (ao:o.op= .alloc T) (h:vN P T zero=true):
  ∃l,(execOp a.eval o).run P m.w= .ok (.value (.pointer (some ⟨m.w.heap.size,0,none⟩))) (m.b4 T zero l).w∧b9 (m.b4 T zero l):=by
 obtain⟨i,z,ad,aG,aq⟩:=Fs h
 obtain⟨U,aa⟩:=Dx (m:=m) aq
 exact⟨z.cells.toList,by simp [execOp,ao,Instr.alloc,zeroValue,typeInfo,ad,aG,newVar,newRow,Mem.b4],b9.b4 be U aa⟩
theorem aB4 (z:Array Value) (n:Nat):(madeCells z (n*z.size)).toList=(List.replicate n z.toList).flatten:=by
 simp only[madeCells,Array.toList_map,Array.toList_range]
 induction n with
 |zero=>simp
 |succ n bB=>
  rw[Nat.succ_mul,Nat.add_comm,List.range_add,List.map_append,List.replicate_succ,List.flatten_cons,←bB]
  congr 1
  ·apply List.ext_getElem
   ·simp
   ·intro j U aa
    simp at U
    simp [Nat.mod_eq_of_lt U,U]
  ·rw[List.map_map]
   apply List.map_congr_left
   intro j _
   simp [Nat.add_mod_left]
theorem UY {az:List I}{l:List Value}(h:aR m az l): ∀n,aR m (List.replicate n az).flatten (List.replicate n l).flatten
 |0=>by simp [aR]
 |n+1=>by
  rw[List.replicate_succ,List.replicate_succ,List.flatten_cons,List.flatten_cons]
  exact aR.append h (UY h n)
theorem aU9 (a b c:List I) (h:c.length=b.length): ∀rest,gj (a++b++rest) a.length c=a++c++rest:=by
 intro rest
 unfold gj
 rw[show (a++b++rest).take a.length=a by rw[List.append_assoc]; exact List.take_left,h]
 rw[show (a++b++rest).drop (a.length+b.length)=rest by rw[←List.length_append]; exact List.drop_left]
theorem Lg {env:Env}{size:Nat}: ∀(ps:List (Nat×aJ)) (k:Nat) (done:List I),zH k ps=true→done.length=k*size→(∀p∈ps,(p.2.aI env).cells.length=size∧(p.2.aI env).fk=true)→
  pg env (done++List.replicate (ps.length*size) .eX) (ps.map fun p=>(p.1*size,size,p.2))=some (done++(lr env ps).flatten)
 |[],k,done,_,_,_=>by simp [pg,lr]
 |(i,x)::ps,k,done,U,aa,ay=>by
  simp only[zH,Bool.and_eq_true,decide_eq_true_eq]at U
  obtain⟨rfl,U⟩:=U
  obtain⟨c1,ci⟩:=ay (i,x) (by simp)
  simp only at c1 ci
  have ar8:List.replicate (((i,x)::ps).length*size) I.eX=List.replicate size I.eX++List.replicate (ps.length*size) I.eX:=by
   rw[List.replicate_append_replicate]
   congr 1
   simp only[List.length_cons,Nat.add_mul]
   omega
  simp only[List.map_cons,pg]
  rw[ar8,if_pos ⟨c1,by simp only[List.length_append,List.length_replicate]; omega,ci⟩]
  rw[←List.append_assoc,←aa,aU9 _ _ _ (by simpa using c1)]
  have:=Lg ps (i+1) (done++(x.aI env).cells) U (by simp [aa,c1,Nat.add_mul]) (fun p hp=>ay p (by simp [hp]))
  rw[this]
  simp [lr]
theorem R1 {size:Nat}: ∀ {ps:List (Nat×Operand)}{kC:List (Nat×aJ)},uw ps kC=true→qU (fun i=>some (i*size,size)) ps (kC.map fun p=>(p.1*size,size,p.2))
 |[],[],_=>by simp [qU]
 |[],_:: _,h=>by simp [uw]at h
 | _:: _,[],h=>by simp [uw]at h
 |(i,x)::ps,(j,y)::kC,h=>by
  simp only[uw,Bool.and_eq_true,decide_eq_true_eq]at h
  obtain⟨⟨rfl,aa⟩,ay⟩:=h
  simp only[List.map_cons,qU]
  exact⟨_,_,rfl,rfl,aa,R1 ay⟩
theorem KF {m:Mem}: ∀(l:List Value),aR m (List.replicate l.length .eX) l
 |[]=>by simp [aR]
 |v::l=>by simp only[List.length_cons,List.replicate_succ,aR]; exact⟨v,l,rfl,by simp only[aP],KF l⟩
theorem aF3 {x:I}(h:x.cells.all I.one=true):x.fk=true:=by
 cases x<;>simp only[I.cells,List.all_cons,List.all_nil,Bool.and_true,I.one,I.fk]at h ⊢ <;>exact h
theorem Gh {t n parts T size hV zero ps rows}(he:eA m env a.tmps) (be:b9 m) (ao:o.op= .buildSlice t n parts) (h:bo P o.op (.da T size hV zero ps)=true) (ac:lr env ps=rows) (hs:rows.all (fun r=>r.length==size)=true) (U:rows.flatten.all I.one=true):
  ∃l,(execOp a.eval o).run P m.w= .ok (.value (.slice (some ⟨m.w.heap.size,0,none⟩) rows.length rows.length)) (m.w.alloc (.cells ⟨l⟩ T))∧aR m rows.flatten l∧(∀v∈l,v.oneCell'=true)∧l.length=rows.length*size∧rows.length≤65536∧size≠0:=by
 rw[ao]at h
 simp only[bo,Bool.and_eq_true,decide_eq_true_eq]at h
 obtain⟨⟨⟨⟨⟨⟨⟨⟨⟨rfl,ci⟩,fc⟩,ha⟩,k6⟩,ls⟩,oo⟩,ph⟩,nl⟩,nk⟩:=h
 have bh8:=Nat.le_of_ble_eq_true ls
 have e3:size≠0:=by simpa using nk
 obtain⟨i,z,ad,aG,aq⟩:=Fs ha
 have u6:rows.length=n:=by subst ac; simpa [lr] using nl
 have hu:P.underlying t=some (.slice T):=by
  unfold kU at ci
  split at ci
  ·rename_i e hu; simp at ci; subst ci; exact hu
  ·cases ci
 have rA:z.cells.size=size:=by
  have:=aR.length (Dx (m:=m) aq).1
  simp at this
  omega
 have dq:(sizeOf T).run P m.w= .ok size m.w:=oH fc _
 have ap1:((Array.range (n*size)).map (z.cells[·%z.cells.size]!)).size=n*size:=by simp
 have jq: ∀p∈ps,(p.2.aI env).cells.length=size∧(p.2.aI env).fk=true:=by
  intro p hp
  have hm:(p.2.aI env).cells∈rows:=by subst ac; exact List.mem_map.2 ⟨p,hp,rfl⟩
  refine⟨by have:=List.all_eq_true.1 hs _ hm; simpa using this,aF3 ?_⟩
  simp only[List.all_eq_true]at U ⊢
  intro x ab
  exact U x (List.mem_flatten.2 ⟨_,hm,ab⟩)
 have hb:=Lg (env:=env) (size:=size) ps 0 [] ph (by simp) jq
 simp only[List.nil_append,ac]at hb
 have PW:=KF (m:=m) ((Array.range (n*size)).map (z.cells[·%z.cells.size]!)).toList
 rw[Array.length_toList,ap1,show n*size=ps.length*size by rw[nl]]at PW
 obtain⟨l,g1,g2⟩:=DT he (fun i=>some (i*size,size)) parts.toList _ _ _ _ (R1 oo) PW hb
 have n5:l.length=rows.length*size:=by
  rw[aR.length g2]
  clear g1 g2 hb ac u6 U
  induction rows with
  |nil=>simp
  |cons r rows bB=>
   simp only[List.all_cons,Bool.and_eq_true]at hs
   have e:r.length=size:=by simpa using hs.1
   simp only[List.flatten_cons,List.length_append,bB hs.2,List.length_cons,Nat.add_mul,e]
   omega
 refine⟨l,?_,g2,fun v ae=> ?_,n5,?_,e3⟩
 ·have D5: ¬(n*size>2^24):=by omega
  by_cases aU:n*size=0
  ·have uZ:n=0:=by rcases Nat.mul_eq_zero.1 aU with e|e<;>omega
   subst uZ
   simp at nl
   subst nl
   have ar1:parts= #[]:=by
    have:parts.toList=[]:=by cases hp:parts.toList with|nil=>rfl|cons x y=>rw[hp]at oo; simp [uw]at oo
    simpa using this
   subst ar1
   have Ei:l=[]:=List.eq_nil_of_length_eq_zero (by rw[n5,u6]; simp)
   subst Ei
   simp [execOp,ao,Instr.buildSlice,run_underlying hu,dq,Instr.fill,newRow,u6]
   congr 2
   exact Array.eq_empty_of_size_eq_zero (by simp)
  ·have PY:(zeroValue T).run P m.w= .ok z m.w:=by simp [zeroValue,typeInfo,ad,aG]
   simp only[execOp,ao,Instr.buildSlice,Sem.run_bind,run_underlying hu,Result.andThen_ok,dq,Sem.run_ite,if_neg D5,aU,if_false,PY,Sem.run_pure]
   have G3:Instr.fill (fun i=>some (i*size,size)) ((Array.range (n*size)).map (z.cells[·%z.cells.size]!)) ((parts.map fun (i,x)=>(i,a.eval x)).toList)=some ⟨l⟩:=by
    rw[Array.toList_map]
    rw[nl]at g1
    exact g1
   simp only[G3,Result.andThen_ok,Sem.run_bind,newRow,run_newObj,Sem.run_pure,u6]
   rfl
 ·obtain⟨j,bx⟩:=List.getElem?_of_mem ae
  have jh:=(List.getElem?_eq_some_iff.1 bx).1
  rw[aR.length g2]at jh
  obtain⟨bI,ar,ax⟩:=aR.get g2 j rows.flatten[j] (List.getElem?_eq_getElem jh)
  rw[bx]at ar
  simp at ar
  subst ar
  exact Ci ax (List.all_eq_true.1 U _ (List.getElem_mem jh))
 ·rw[u6]
  have:n*1≤n*size:=Nat.mul_le_mul_left _ (by omega)
  omega
end
section
variable {P:Program}{m:Mem}{env:Env}{a:Act}{o:Oper}
structure Src (P:Program) (m:Mem) (size:Nat) (y:Value) (new:List (List I)) (news:List Value):Prop where
 len: ∀w,(Builtin.lenOf y).run P w= .ok new.length w
 cells: ∀w:World,(∀b o,nR m b o→w.cell? ⟨b,o,none⟩=m.w.cell? ⟨b,o,none⟩)→(Builtin.firstCells size new.length y).run P w= .ok ⟨news⟩ w
 yx:aR m new.flatten news
 one: ∀v∈news,v.oneCell'=true
 n:news.length=new.length*size
 rO: ∀r∈new,r.length=size
theorem fr.CP {m:Mem}: ∀ {az:List I}{b o:Nat},fr m az b o→∃l,aR m az l∧(∀j v,l[j]? =some v→m.w.cell? ⟨b,o+j,none⟩=some v∧v.oneCell'=true∧nR m b (o+j))
 |[],_,_,_=>⟨[],by simp [aR],by simp⟩
 |a::az,b,o,h=>by
  simp only[fr]at h
  obtain⟨⟨v,U,so,aa,ay⟩,bl⟩:=h
  obtain⟨l,ar,ax⟩:=fr.CP bl
  refine⟨v::l,by simp only[aR]; exact⟨v,l,rfl,ay,ar⟩,fun j u bx=> ?_⟩
  cases j with
  |zero=>simp at bx; subst bx; exact⟨U,so,aa⟩
  |succ j=>simp at bx; have:=ax j u bx; rwa [show o+1+j=o+(j+1) by omega]at this
theorem ef.CP {m:Mem}{size:Nat}: ∀ {aS:List (List I)}{b o:Nat},ef m size aS b o→∃l,aR m aS.flatten l∧l.length=aS.length*size∧(∀r∈aS,r.length=size)∧(∀j v,l[j]? =some v→m.w.cell? ⟨b,o+j,none⟩=some v∧v.oneCell'=true∧nR m b (o+j))
 |[],_,_,_=>⟨[],by simp [aR],by simp,by simp,by simp⟩
 |r::aS,b,o,h=>by
  simp only[ef]at h
  obtain⟨U,aa,ay⟩:=h
  obtain⟨l,ar,ax⟩:=fr.CP aa
  obtain⟨cc,f1,f2,f4,f3⟩:=ef.CP ay
  have aC:l.length=size:=(aR.length ar).trans U
  refine⟨l++cc,by simpa using aR.append ar f1,by rw[List.length_append,f2,aC,List.length_cons,Nat.add_mul]; omega,?_,fun j u bx=> ?_⟩
  ·intro x ab
   rcases List.mem_cons.1 ab with rfl|ab
   ·exact U
   ·exact f4 x ab
  ·by_cases jh:j<l.length
   ·rw[List.getElem?_append_left jh]at bx
    exact ax j u bx
   ·rw[List.getElem?_append_right (by omega)]at bx
    have:=f3 _ u bx
    rwa [show o+size+(j-l.length)=o+j by omega]at this
theorem Qm {l:List Value}{Q:Value→Prop}(h: ∀(j:Nat) (v:Value),l[j]? =some v→Q v): ∀v∈l,Q v:=fun v ae=>by
 obtain⟨j,bx⟩:=List.getElem?_of_mem ae
 exact h j v bx
theorem VL {size:Nat}{rows:List (List I)}{v:Value}(h:aP m (.af size rows) v): ∃dH cap l,v= .slice dH rows.length cap∧rows.length≤cap∧cap≤maxLen∧aR m rows.flatten l∧l.length=rows.length*size∧(∀r∈rows,r.length=size)∧(rows.length=0∨∃b p,dH=some ⟨b,p,none⟩∧∀j u,l[j]? =some u→m.w.cell? ⟨b,p+j,none⟩=some u∧u.oneCell'=true∧nR m b (p+j)):=by
 obtain⟨dH,cap,e,⟨U,aa⟩,ay⟩:=Ac h
 rcases ay with ay|⟨b,p,rfl,ay⟩
 ·have:rows=[]:=List.eq_nil_of_length_eq_zero ay
  subst this
  exact⟨dH,cap,[],e,U,aa,by simp [aR],by simp,by simp,.inl rfl⟩
 ·obtain⟨l,g1,g2,g3,g4⟩:=ef.CP ay
  exact⟨_,cap,l,e,U,aa,g1,g2,g3,.inr ⟨b,p,rfl,g4⟩⟩
theorem U8 {size:Nat}{rows:List (List I)}{v:Value}(h:aP m (.af size rows) v): ∃news,Src P m size v rows news:=by
 obtain⟨dH,cap,l,rfl,U,aa,g1,g2,g3,g4⟩:=VL h
 refine⟨l,⟨fun w=>by simp [Builtin.lenOf],fun w hw=> ?_,g1,?_,g2,g3⟩⟩
 ·rcases g4 with g4|⟨b,p,rfl,g4⟩
  ·have:l=[]:=List.eq_nil_of_length_eq_zero (by rw[g2,g4]; simp)
   subst this
   rw[g4]
   cases dH with
   |none=>simp [Builtin.firstCells]
   |some x=>simp [Builtin.firstCells,loadCells,loadCellsFrom]
  ·have:=run_loadCells_list (P:=P) w ⟨b,p,none⟩ l (fun j u bx=>by
    obtain⟨bf,bi,cz⟩:=g4 j u bx
    rw[oN]
    exact (hw b _ cz).trans bf)
   rw[g2]at this
   simp [Builtin.firstCells,this]
 ·rcases g4 with g4|⟨b,p,rfl,g4⟩
  ·have:l=[]:=List.eq_nil_of_length_eq_zero (by rw[g2,g4]; simp)
   subst this
   simp
  ·exact Qm fun j v bx=>(g4 j v bx).2.1
theorem aX0 {size:Nat}{dH:Option Addr}{cap:Nat}:Src P m size (.slice dH 0 cap) [] []:=
 ⟨fun w=>by simp [Builtin.lenOf],fun w _=>by cases dH<;>simp [Builtin.firstCells,loadCells,loadCellsFrom],by simp [aR],by simp,by simp,by simp⟩
theorem aX7 (s:List UInt8):aR m (s.map fun c=>[I.int .u8 c.toNat]).flatten (s.map fun b=>Value.int .u8 b.toNat):=by
 induction s with
 |nil=>simp [aR]
 |cons c s bB=>simp only[List.map_cons,List.flatten_cons,List.singleton_append,aR]; exact⟨_,_,rfl,by simp only[aP],bB⟩
theorem aX1 {s:List UInt8}:Src P m 1 (.string ⟨⟨s⟩⟩) (s.map fun c=>[.int .u8 c.toNat]) (s.map fun b=> .int .u8 b.toNat):=by
 refine⟨fun w=> ?_,fun w _=> ?_,aX7 s,?_,by simp,?_⟩
 ·simp only[Builtin.lenOf,Sem.run_pure,List.length_map]; rfl
 ·simp only[Builtin.firstCells,Sem.run_pure]
  congr 1
  rw[Ll]
  simp [List.map_take]
 ·intro v ae
  obtain⟨b,_,rfl⟩:=List.mem_map.1 ae
  rfl
 ·intro r ac
  obtain⟨b,_,rfl⟩:=List.mem_map.1 ac
  rfl
structure vP (P:Program) (t u T:TypeId) (size bytes:Nat) where
 ht:P.underlying t=some (.slice T)
 hu:P.underlying u=some (.slice T)∨P.underlying u=some .string
 i:TypeInfo
 ad:P.info? T=some i
 hs:i.size=size
 hb:i.bytes=bytes
 z:Value
 aG:i.zero=some z
 rA:z.cells.size=size
theorem AH {t u T ty:TypeId}{size bytes:Nat}(A:vP P t u T size bytes){base:Option Addr}{k cap:Nat}{y:Value}{new:List (List I)}{news:List Value}(S:Src P m size y new news) (lz:k+new.length≤cap):
  (Builtin.append_ #[t,u] ty #[.slice base k cap,y]).run P m.w=(match base with
   |some dH=>((storeCells (dH.add (k*size)) news).run P m.w).andThen fun _ w'=> .ok (.slice base (k+new.length) cap) w'
   |none=> .ok (.slice base (k+new.length) cap) m.w):=by
 have ar:=S.cells m.w (fun _ _ _=>rfl)
 have dq: ∀w,(sizeOf T).run P w= .ok size w:=fun w=>by simp [sizeOf,typeInfo,A.ad,A.hs]
 unfold Builtin.append_
 rcases A.hu with hu|hu
 ·cases base with
  |none=>simp [run_underlying A.ht,run_underlying hu,dq,S.len,lz,ar]
  |some dH=>simp [run_underlying A.ht,run_underlying hu,dq,S.len,lz,ar]
 ·cases base with
  |none=>simp [run_underlying A.ht,run_underlying hu,dq,S.len,lz,ar]
  |some dH=>simp [run_underlying A.ht,run_underlying hu,dq,S.len,lz,ar]
theorem KW {t u T ty:TypeId}{size bytes:Nat}(A:vP P t u T size bytes){base:Option Addr}{k cap:Nat}{y:Value}{new:List (List I)}{news olds:List Value}(S:Src P m size y new news) (lz: ¬k+new.length≤cap)
  (cA:(Builtin.firstCells size k (.slice base k cap)).run P m.w.drew= .ok ⟨olds⟩ m.w.drew) (jK:cap≤maxLen) (aw:k≤cap)
  (hb:(k+new.length)*bytes≤140737488355328) (He:k+new.length≤maxLen):
  (Builtin.append_ #[t,u] ty #[.slice base k cap,y]).run P m.w= .ok (.slice (some ⟨m.w.heap.size,0,none⟩) (k+new.length) (grownCap m.w (k+new.length) cap T))
   (m.w.drew.alloc (.cells (⟨olds++news⟩++Builtin.zeroCells A.z.cells (grownCap m.w (k+new.length) cap T-(k+new.length))) T)):=by
 have ar:=S.cells m.w.drew (fun _ _ _=>rfl)
 have dq: ∀w,(sizeOf T).run P w= .ok size w:=fun w=>by simp [sizeOf,typeInfo,A.ad,A.hs]
 have PV: ∀w,(typeInfo T).run P w= .ok A.i w:=fun w=>by simp [typeInfo,A.ad]
 have wM: ∀w,(zeroValue T).run P w= .ok A.z w:=fun w=>by simp [zeroValue,typeInfo,A.ad,A.aG]
 have O5: ¬(281474976710656<Builtin.nextslicecap (k+new.length) cap*A.i.bytes):=by
  rw[A.hb]
  have:=growslice_fits (need:=k+new.length) (old:=cap) (bytes:=bytes) (by omega) hb
  omega
 have O6: ¬(9223372036854775807<((k:Int)+(new.length:Int))):=by rw[Ez]at He; omega
 unfold Builtin.append_
 rcases A.hu with hu|hu
 ·simp [run_underlying A.ht,run_underlying hu,dq,S.len,lz,PV,O6,O5,Question.forced,cA,ar,wM,newRow,grownCap]
  exact congrArg (fun x=>m.w.drew.alloc (Obj.cells x T)) (by rw[←Array.append_assoc]; congr 1; simp)
 ·simp [run_underlying A.ht,run_underlying hu,dq,S.len,lz,PV,O6,O5,Question.forced,cA,ar,wM,newRow,grownCap]
  exact congrArg (fun x=>m.w.drew.alloc (Obj.cells x T)) (by rw[←Array.append_assoc]; congr 1; simp)
theorem De {t u T ty:TypeId}{size bytes:Nat}(A:vP P t u T size bytes){base:Option Addr}{k cap:Nat}{y:Value}{new:List (List I)}{news olds:List Value}(S:Src P m size y new news) (lz: ¬k+new.length≤cap)
  (ao: ∀w:World,(∀b o,nR m b o→w.cell? ⟨b,o,none⟩=m.w.cell? ⟨b,o,none⟩)→(Builtin.firstCells size k (.slice base k cap)).run P w= .ok ⟨olds⟩ w) (jK:cap≤maxLen) (aw:k≤cap)
  (hb:(k+new.length)*bytes≤140737488355328) (He:k+new.length≤maxLen):
  (Builtin.append_ #[t,u] ty #[.slice base k cap,y]).run P m.w= .ok (.slice (some ⟨m.w.heap.size,0,none⟩) (k+new.length) (grownCap m.w (k+new.length) cap T))
   (m.w.drew.alloc (.cells (⟨olds++news⟩++Builtin.zeroCells A.z.cells (grownCap m.w (k+new.length) cap T-(k+new.length))) T)):=
 KW A S lz (ao m.w.drew fun _ _ _=>rfl) jK aw hb He
end
section
variable {P:Program}{m:Mem}{env:Env}{a:Act}{o:Oper}
theorem IF {aX:Mem}(be:b9 aX){t size n cap b:Nat}{i:cb}{cur:Array Value}{T:TypeId}{rows:List (List I)}{l:List Value}(ht:aX.H.tok t=some i) (dX:aX.L t= .slice (some ⟨b,0,none⟩) n cap) (aW:i.n=rows.length) (bk6:i.ver=rows.length) (hs:i.size=size) (tR:n=rows.length) (hb:aX.w.heap[b]? =some (.cells cur T (0,0)))
  (aC:aR aX rows.flatten l) (U: ∀v∈l,v.oneCell'=true) (hlen:l.length=rows.length*size) (dq: ∀r∈rows,r.length=size) (aq: ∀(j:Nat) (v:Value),l[j]? =some v→cur[j]? =some v) (jK:n≤cap) (mB:cap≤maxLen):aP aX (.own t size rows) (aX.L t):=by
 obtain⟨bf,bi,cz,eu⟩:=be.tok t i ht
 obtain⟨b0,cN⟩:=eu b (by rw[dX]; rfl)
 have cB:b<aX.w.heap.size:=(Array.getElem?_eq_some_iff.1 hb).1
 simp only[aP]
 refine⟨⟨some ⟨b,0,none⟩,n,cap,dX,tR,⟨jK,mB⟩,.inr ⟨b,0,rfl,ef.of dq aC fun j v bx=>⟨?_,U v (List.mem_of_getElem? bx),⟨cB,b0,fun dT dB hD ia=> ?_⟩⟩⟩⟩,bf,fun dB iD=> ?_⟩
 ·rw[Nat.zero_add,cell_of_row aX.w b j cur T (0,0) hb]
  exact aq j v bx
 ·have:=cN dT dB hD ia
  subst this
  rw[ht]at hD
  simp at hD
  subst hD
  have:=(List.getElem?_eq_some_iff.1 bx).1
  rw[aW,hs]
  omega
 ·rw[ht]at iD
  simp at iD
  subst iD
  exact⟨by omega,fun _=>⟨trivial,hs⟩⟩
theorem RT {aX:Mem}(be:b9 aX){t size:Nat}{i:cb}{v:Value}(ht:aX.H.tok t=some i) (dX:aX.L t=v) (ae: ∃dH cap,v= .slice dH 0 cap∧cap≤maxLen) (aW:i.ver=0) (hs:i.size=size):aP aX (.own t size []) v:=by
 obtain⟨bf,bi,cz,eu⟩:=be.tok t i ht
 obtain⟨dH,cap,rfl,hm⟩:=ae
 simp only[aP]
 refine⟨⟨dH,0,cap,rfl,rfl,⟨by omega,hm⟩,.inl rfl⟩,bf,fun dB iD=> ?_⟩
 rw[ht]at iD
 simp at iD
 subst iD
 exact⟨by simp,fun _=>⟨dX,hs⟩⟩
theorem QN (be:b9 m){w':World}{T size cap:Nat}{cur:Array Value}{rows:List (List I)}{l:List Value}(U:w'.os=m.w.os) (aa:w'.tape=m.w.tape) (ay:w'.output=m.w.output) (bl:m.w.heap.size≤w'.heap.size) (bW: ∀b,b<m.w.heap.size→w'.heap[b]? =m.w.heap[b]?)
  (hb:w'.heap[m.w.heap.size]? =some (.cells cur T (0,0))) (aC:aR m rows.flatten l) (ao: ∀v∈l,v.oneCell'=true) (hlen:l.length=rows.length*size) (dq: ∀r∈rows,r.length=size) (aq: ∀(j:Nat) (v:Value),l[j]? =some v→cur[j]? =some v) (j3:cur.size=cap*size) (jK:rows.length≤cap) (mB:cap≤maxLen) (aU:size≠0):
  b9 (m.bj w' (.slice (some ⟨m.w.heap.size,0,none⟩) rows.length cap) (.bX T size (rows.length)))∧b8 m (m.bj w' (.slice (some ⟨m.w.heap.size,0,none⟩) rows.length cap) (.bX T size (rows.length)))∧
  aP (m.bj w' (.slice (some ⟨m.w.heap.size,0,none⟩) rows.length cap) (.bX T size (rows.length))) (.own m.T size rows) (.slice (some ⟨m.w.heap.size,0,none⟩) rows.length cap):=by
 have ae: ∀b,(Value.slice (some ⟨m.w.heap.size,0,none⟩) rows.length cap).e4=some b→m.w.heap.size≤b:=fun b e=>by simp [Value.e4]at e; omega
 have x6:w'.ownsRow 0 T size (.slice (some ⟨m.w.heap.size,0,none⟩) rows.length cap) rows.length (cur.toList.take (rows.length*size)):=by
  refine⟨?_,.inr ⟨m.w.heap.size,cap,cur,rfl,Nat.zero_le _,hb,jK,mB,j3,rfl⟩⟩
  have:rows.length*size≤cap*size:=Nat.mul_le_mul_right _ jK
  simp; omega
 have r:=b9.bj be (v:= .slice (some ⟨m.w.heap.size,0,none⟩) rows.length cap) (o:=(.bX T size (rows.length))) U aa ay bl bW ae aU ⟨_,x6,fun _ h=>by cases h⟩
 have e:=b8.bj be (v:= .slice (some ⟨m.w.heap.size,0,none⟩) rows.length cap) (o:=(.bX T size (rows.length))) U aa ay bl bW ae
 refine⟨r,e,?_⟩
 have:=IF r (t:=m.T) (i:=(.bX T size (rows.length))) (size:=size) (rows:=rows) (l:=l) (n:=rows.length) (cap:=cap) (b:=m.w.heap.size) (cur:=cur) (T:=T) (by simp [Mem.bj,aA.cj]) (by simp [Mem.bj]) rfl rfl rfl rfl hb (aR.aI e _ _ aC) ao hlen dq aq jK mB
 simpa [Mem.bj] using this
theorem Ij (be:b9 m){T size:Nat}(aU:size≠0):b9 (m.bj m.w (.slice none 0 0) (.bX T size (0)))∧b8 m (m.bj m.w (.slice none 0 0) (.bX T size (0)))∧aP (m.bj m.w (.slice none 0 0) (.bX T size (0))) (.own m.T size []) (.slice none 0 0):=by
 have ae: ∀b,(Value.slice none 0 0).e4=some b→m.w.heap.size≤b:=fun b e=>by simp [Value.e4]at e
 have r:=b9.bj be (w':=m.w) (v:= .slice none 0 0) (o:=(.bX T size (0))) rfl rfl rfl (Nat.le_refl _) (fun _ _=>rfl) ae aU ⟨[],World.ownsRow_nil _ _ _ _,fun _ h=>by cases h⟩
 have e:=b8.bj be (w':=m.w) (v:= .slice none 0 0) (o:=(.bX T size (0))) rfl rfl rfl (Nat.le_refl _) (fun _ _=>rfl) ae
 exact⟨r,e,RT r (i:=(.bX T size (0))) (by simp [Mem.bj,aA.cj]) (by simp [Mem.bj]) ⟨none,0,rfl,Nat.zero_le _⟩ rfl rfl⟩
theorem At (z:Array Value) (n:Nat):(Builtin.zeroCells z n).size=n*z.size:=by simp [Builtin.zeroCells]
theorem uU (w:World) (o2:Obj) (b:Nat) (h:b<w.heap.size):(w.drew.alloc o2).heap[b]? =w.heap[b]? :=qD w.drew o2 b h
theorem x0 (w:World) (o2:Obj):(w.drew.alloc o2).heap[w.heap.size]? =some o2:=u2 w.drew o2
theorem Wp {t u T ty:TypeId}{size bytes:Nat}(A:vP P t u T size bytes) (be:b9 m){y:Value}{new:List (List I)}{news:List Value}(S:Src P m size y new news) (hb:new.length*bytes≤140737488355328) (mB:new.length≤maxLen) (aU:size≠0):
  ∃aX v,(Builtin.append_ #[t,u] ty #[.slice none 0 0,y]).run P m.w= .ok v aX.w∧b9 aX∧b8 m aX∧aX.H=m.H.cj m.T (.bX T size (new.length))∧aP aX (.own m.T size new) v:=by
 by_cases aW:new.length=0
 ·have:new=[]:=List.eq_nil_of_length_eq_zero aW
  subst this
  have ac:=AH (ty:=ty) A (base:=none) (k:=0) (cap:=0) S (by simp)
  obtain⟨r,e,v⟩:=Ij be (T:=T) aU
  exact⟨m.bj m.w (.slice none 0 0) (.bX T size (0)),_,ac,r,e,rfl,v⟩
 ·have ac:=De (ty:=ty) A (base:=none) (k:=0) (cap:=0) (olds:=[]) S (by omega) (fun w _=>by simp [Builtin.firstCells]) (Nat.zero_le _) (Nat.le_refl _) (by simpa using hb) (by simpa using mB)
  simp only[Nat.zero_add,List.nil_append]at ac
  have cg:=grownCap_ge m.w new.length 0 T
  have hle:=grownCap_le_maxLen m.w new.length 0 T mB
  obtain⟨r,e,v⟩:=QN be (T:=T) (size:=size) (cap:=grownCap m.w new.length 0 T) (rows:=new) (l:=news) (w':=m.w.drew.alloc (.cells (⟨news⟩++Builtin.zeroCells A.z.cells (grownCap m.w new.length 0 T-new.length)) T)) rfl rfl rfl (by simp) (uU _ _) (x0 _ _) S.yx S.one S.n S.rO
   (fun j v bx=>by
    rw[Array.getElem?_append]
    have:=(List.getElem?_eq_some_iff.1 bx).1
    simp only[List.size_toArray]
    rw[if_pos this]
    simpa using bx)
   (by
    simp only[Array.size_append,List.size_toArray,At,A.rA,S.n,←Nat.add_mul]
    congr 1
    omega) cg hle aU
  exact⟨_,_,ac,r,e,rfl,v⟩
theorem Wq {t u T ty:TypeId}{size bytes:Nat}(A:vP P t u T size bytes) (be:b9 m){ez:Nat}{rows:List (List I)}{v0:Value}(wL:aP m (.own ez size rows) v0) (ht:m.H.tok ez=some (.bX T size (rows.length))){y:Value}{new:List (List I)}{news:List Value}(S:Src P m size y new news) (hb:(rows.length+new.length)*bytes≤140737488355328) (mB:rows.length+new.length≤maxLen):
  ∃aX v,(Builtin.append_ #[t,u] ty #[v0,y]).run P m.w= .ok v aX.w∧b9 aX∧b8 m aX∧aX.H=m.H.cj ez (.bX T size (rows.length+new.length))∧aP aX (.own ez size (rows++new)) v:=by
 obtain⟨bf,bi,⟨xs,cz,_⟩,eu⟩:=be.tok ez _ ht
 have dX:m.L ez=v0:=by
  simp only[aP]at wL
  exact ((wL.2.2 _ ht).2 rfl).1
 obtain⟨dH,cap,l,rfl,jK,rv,g1,g2,g3,g4⟩:=VL (Aa wL)
 have Bu:aR m (rows++new).flatten (l++news):=by rw[List.flatten_append]; exact aR.append g1 S.yx
 have jq: ∀v∈l++news,v.oneCell'=true:=fun v ae=>by
  rcases List.mem_append.1 ae with ae|ae
  ·rcases g4 with g4|⟨b,p,rfl,g4⟩
   ·have:l=[]:=List.eq_nil_of_length_eq_zero (by rw[g2,g4]; simp)
    subst this
    cases ae
   ·exact Qm (Q:=fun v=>v.oneCell'=true) (fun j v bx=>(g4 j v bx).2.1) v ae
  ·exact S.one v ae
 have hlen:(l++news).length=(rows++new).length*size:=by rw[List.length_append,g2,S.n,List.length_append,Nat.add_mul]
 have dq: ∀r∈rows++new,r.length=size:=fun r ac=>by
  rcases List.mem_append.1 ac with ac|ac
  ·exact g3 r ac
  ·exact S.rO r ac
 -- where the row lies
 have x6:=cz.2
 rw[dX]at x6
 simp only[cb.bX,cb.len]at x6
 have olds: ∀w:World,(∀b o,nR m b o→w.cell? ⟨b,o,none⟩=m.w.cell? ⟨b,o,none⟩)→(Builtin.firstCells size rows.length (.slice dH rows.length cap)).run P w= .ok ⟨l⟩ w:=by
  intro w hw
  rcases g4 with g4|⟨b,p,rfl,g4⟩
  ·have:l=[]:=List.eq_nil_of_length_eq_zero (by rw[g2,g4]; simp)
   subst this
   rw[g4]
   cases dH with
   |none=>simp [Builtin.firstCells]
   |some x=>simp [Builtin.firstCells,loadCells,loadCellsFrom]
  ·have:=run_loadCells_list (P:=P) w ⟨b,p,none⟩ l (fun j u bx=>by
    obtain⟨bf,bi,cz⟩:=g4 j u bx
    rw[oN]
    exact (hw b _ cz).trans bf)
   rw[g2]at this
   simp [Builtin.firstCells,this]
 by_cases lz:rows.length+new.length≤cap
 ·have ac:=AH (ty:=ty) A (base:=dH) (k:=rows.length) (cap:=cap) S lz
  rcases x6 with ⟨zE,wJ⟩|⟨g,LG,cur,zE,_,a7,bj9,bj1,j3,bk5⟩
  ·-- nil
   simp only[Value.slice.injEq]at zE
   obtain⟨rfl,bj7,rfl⟩:=zE
   have aq0:new=[]:=List.eq_nil_of_length_eq_zero (by omega)
   subst aq0
   have kh:rV m m.w ez (.bX T size (rows.length)) (m.L ez) (.bX T size (rows.length+0)):=⟨⟨rfl,rfl,rfl,Nat.le_refl _,fun _ _ _=>rfl,fun _ _ _ _=>rfl,fun k aw=> .inl aw,Nat.le_refl _,rfl,rfl,Nat.le_refl _,fun _=>rfl⟩,⟨xs,cz,fun _ h=>by cases h⟩⟩
   refine⟨m.gt m.w ez (m.L ez) (.bX T size (rows.length+0)),_,ac,b9.gt be ht kh,b8.gt be ht kh.toGrows0,rfl,?_⟩
   have:=aP.aI (b8.gt be ht kh.toGrows0) _ _ wL
   simpa using this
  ·-- in its block
   simp only[Value.slice.injEq]at zE
   obtain⟨rfl,_,rfl⟩:=zE
   have jL:(m.L ez).e4=some g:=by rw[dX]; rfl
   have lC:=run_storeCells_at P g (rows.length*size) T news 0 cur m.w a7 (by
    rw[S.n,j3,Nat.add_zero,←Nat.add_mul]
    exact Nat.mul_le_mul_right _ lz) S.one
   simp only[Nat.add_zero]at lC
   have lA:(Builtin.append_ #[t,u] ty #[.slice (some ⟨g,0,none⟩) rows.length cap,y]).run P m.w= .ok (.slice (some ⟨g,0,none⟩) (rows.length+new.length) cap) (m.w.setRow g (cur.toList.take (rows.length*size)++news++cur.toList.drop (rows.length*size+news.length)).toArray):=by
    rw[ac]
    simp only[oN,Nat.zero_add,lC,Result.andThen_ok]
   generalize pt:(cur.toList.take (rows.length*size)++news++cur.toList.drop (rows.length*size+news.length)).toArray=gU at lA
   have x5:=setRow_heap m.w g cur gU T (0,0) a7
   have hle:rows.length*size≤cur.size:=by rw[j3]; exact Nat.mul_le_mul_right _ jK
   have ap0:rows.length*size+news.length≤cur.size:=by
    rw[S.n,j3,←Nat.add_mul]
    exact Nat.mul_le_mul_right _ lz
   have sv:gU.size=cap*size:=by
    rw[←pt,←j3]
    simp
    omega
   have wK: ∀(j:Nat),j<rows.length*size→gU[j]? =cur[j]? :=by
    intro j bx
    rw[←pt]
    simp only[List.getElem?_toArray,List.append_assoc]
    rw[List.getElem?_append_left (by simp; omega),List.getElem?_take,if_pos bx]
    simp
   have HP: ∀(j:Nat) (v:Value),(l++news)[j]? =some v→gU[j]? =some v:=by
    intro j v bx
    by_cases ao2:j<l.length
    ·rw[List.getElem?_append_left ao2]at bx
     rw[wK j (by omega)]
     rcases g4 with g4|⟨b,p,Pm,g4⟩
     ·have:l.length=0:=by rw[g2,g4]; simp
      omega
     ·simp at Pm
      obtain⟨rfl,rfl⟩:=Pm
      have:=(g4 j v bx).1
      rw[Nat.zero_add,cell_of_row m.w g j cur T (0,0) a7]at this
      exact this
    ·rw[List.getElem?_append_right (by omega)]at bx
     rw[←pt]
     simp only[List.getElem?_toArray,List.append_assoc]
     have HW:(cur.toList.take (rows.length*size)).length=rows.length*size:=by simp; omega
     have bj4:=(List.getElem?_eq_some_iff.1 bx).1
     rw[List.getElem?_append_right (by omega),HW,List.getElem?_append_left (by omega),←g2]
     exact bx
   have kh:rV m (m.w.setRow g gU) ez (.bX T size (rows.length)) (.slice (some ⟨g,0,none⟩) (rows.length+new.length) cap) (.bX T size (rows.length+new.length)):=by
    refine⟨⟨rfl,rfl,rfl,by simp,fun k aw e3=>setRow_other m.w g k gU (fun e=>e3 (by rw[jL,e])),fun k c aw aq=> ?_,fun k aw=> .inl ?_,Nat.le_add_right _ _,rfl,rfl,Nat.le_add_right _ _,fun e=> ?_⟩,?_⟩
    ·rw[jL]at aw
     simp at aw
     subst aw
     rw[cell_of_row _ g c gU T (0,0) x5,cell_of_row m.w g c cur T (0,0) a7]
     exact wK c aq
    ·rw[jL]
     simpa [Value.e4] using aw
    ·rw[dX]
     have:new.length=0:=by simpa [cb.bX] using e
     simp [this]
    ·refine⟨gU.toList.take ((rows.length+new.length)*size),⟨?_,.inr ⟨g,cap,gU,rfl,Nat.zero_le _,x5,lz,rv,sv,rfl⟩⟩,fun _ h=>by cases h⟩
     have:(rows.length+new.length)*size≤cap*size:=Nat.mul_le_mul_right _ lz
     simp [cb.bX,cb.len]
     omega
   refine⟨m.gt (m.w.setRow g gU) ez (.slice (some ⟨g,0,none⟩) (rows.length+new.length) cap) (.bX T size (rows.length+new.length)),_,lA,b9.gt be ht kh,b8.gt be ht kh.toGrows0,rfl,?_⟩
   have:=IF (b9.gt be ht kh) (t:=ez) (i:=(.bX T size (rows.length+new.length))) (size:=size) (rows:=rows++new) (l:=l++news) (n:=rows.length+new.length) (cap:=cap) (b:=g) (cur:=gU) (T:=T) (by simp [Mem.gt,aA.cj]) (by simp [Mem.gt]) (by simp [cb.bX]) (by simp [cb.bX]) rfl (by simp) x5 (aR.aI (b8.gt be ht kh.toGrows0) _ _ Bu) jq hlen dq HP lz rv
   simpa [Mem.gt] using this
 ·-- into a new block
  have ac:=De (ty:=ty) A (base:=dH) (k:=rows.length) (cap:=cap) (olds:=l) S lz olds rv jK hb mB
  have cg:=grownCap_ge m.w (rows.length+new.length) cap T
  have hle:=grownCap_le_maxLen m.w (rows.length+new.length) cap T mB
  generalize pt:(⟨l++news⟩++Builtin.zeroCells A.z.cells (grownCap m.w (rows.length+new.length) cap T-(rows.length+new.length)):Array Value)=gU at ac
  have sv:gU.size=grownCap m.w (rows.length+new.length) cap T*size:=by
   rw[←pt]
   have:(l++news).length=(rows.length+new.length)*size:=by rw[hlen,List.length_append]
   simp only[Array.size_append,List.size_toArray,At,A.rA,this,←Nat.add_mul]
   congr 1
   omega
  have HP: ∀(j:Nat) (v:Value),(l++news)[j]? =some v→gU[j]? =some v:=by
   intro j v bx
   rw[←pt,Array.getElem?_append]
   have:=(List.getElem?_eq_some_iff.1 bx).1
   simp only[List.size_toArray]
   rw[if_pos this]
   simpa using bx
  have kh:rV m (m.w.drew.alloc (.cells gU T)) ez (.bX T size (rows.length)) (.slice (some ⟨m.w.heap.size,0,none⟩) (rows.length+new.length) (grownCap m.w (rows.length+new.length) cap T)) (.bX T size (rows.length+new.length)):=by
   refine⟨⟨rfl,rfl,rfl,by simp,fun k aw _=>uU _ _ _ aw,fun k c aw _=>World.cell?_of_block (a:=⟨k,c,none⟩) (uU _ _ _ (w9 be ht aw)),fun k aw=> .inr ?_,Nat.le_add_right _ _,rfl,rfl,Nat.le_add_right _ _,fun e=> ?_⟩,?_⟩
   ·simp [Value.e4]at aw
    omega
   ·have:new.length=0:=by simpa [cb.bX] using e
    omega
   ·refine⟨gU.toList.take ((rows.length+new.length)*size),⟨?_,.inr ⟨m.w.heap.size,_,gU,rfl,Nat.zero_le _,x0 _ _,cg,hle,sv,rfl⟩⟩,fun _ h=>by cases h⟩
    have:(rows.length+new.length)*size≤grownCap m.w (rows.length+new.length) cap T*size:=Nat.mul_le_mul_right _ cg
    simp [cb.bX,cb.len]
    omega
  refine⟨m.gt (m.w.drew.alloc (.cells gU T)) ez (.slice (some ⟨m.w.heap.size,0,none⟩) (rows.length+new.length) (grownCap m.w (rows.length+new.length) cap T)) (.bX T size (rows.length+new.length)),_,ac,b9.gt be ht kh,b8.gt be ht kh.toGrows0,rfl,?_⟩
  have:=IF (b9.gt be ht kh) (t:=ez) (i:=(.bX T size (rows.length+new.length))) (size:=size) (rows:=rows++new) (l:=l++news) (n:=rows.length+new.length) (cap:=grownCap m.w (rows.length+new.length) cap T) (b:=m.w.heap.size) (cur:=gU) (T:=T) (by simp [Mem.gt,aA.cj]) (by simp [Mem.gt]) (by simp [cb.bX]) (by simp [cb.bX]) rfl (by simp) (x0 _ _) (aR.aI (b8.gt be ht kh.toGrows0) _ _ Bu) jq hlen dq HP cg hle
  simpa [Mem.gt] using this
end
section
variable {P:Program}{m:Mem}{env:Env}{a:Act}{o:Oper}
theorem zP (be:b9 m){t ver T size:Nat}{rows:List (List I)}{v:Value}(ht:m.H.tok t=some (.bA T size ver rows)) (ae:aP m (.c6 t ver) v):
  m.L t=v∧size≠0∧(∀r∈rows,r.length=size)∧((v= .slice none 0 0∧rows=[])∨∃g p cap cur,v= .slice (some ⟨g,p,none⟩) rows.length cap∧m.w.heap[g]? =some (.cells cur T (0,0))∧rows.length≤cap∧cap≤maxLen∧p+cap*size≤cur.size∧aR m rows.flatten ((cur.toList.drop p).take (rows.length*size))∧∀u∈(cur.toList.drop p).take (rows.length*size),u.oneCell'=true):=by
 simp only[aP]at ae
 have dX:m.L t=v:=(ae.2.2 _ ht).2 rfl
 obtain⟨bf,bi,⟨xs,cz,gr⟩,eu⟩:=be.tok t _ ht
 obtain⟨gr,mS,sB⟩:=gr rows rfl
 refine⟨dX,bi,mS,?_⟩
 rw[dX]at cz
 obtain⟨B1,cz⟩:=cz
 simp only[cb.bA,cb.len]at cz B1
 rcases cz with ⟨ar,ax⟩|⟨g,p,cap,cur,ar,ax,bU,dl,gn,mw⟩
 ·exact .inl ⟨ar,List.eq_nil_of_length_eq_zero ax⟩
 ·subst mw
  exact .inr ⟨g,p,cap,cur,ar,ax,bU,dl,gn,gr,sB⟩
theorem vm {aX:Mem}{t ver T size:Nat}{rows:List (List I)}{v:Value}(be:b9 aX) (ht:aX.H.tok t=some (.bA T size ver rows)) (dX:aX.L t=v) (ae:v.oneCell'=true):aP aX (.c6 t ver) v:=by
 simp only[aP]
 refine⟨ae,(be.tok t _ ht).1,fun i ad=> ?_⟩
 rw[ht]at ad
 simp at ad
 subst ad
 exact⟨Nat.le_refl _,fun _=>dX⟩
theorem EE (be:b9 m){w':World}{T size cap:Nat}{cur:Array Value}{rows:List (List I)}(U:w'.os=m.w.os) (aa:w'.tape=m.w.tape) (ay:w'.output=m.w.output) (bl:m.w.heap.size≤w'.heap.size) (bW: ∀b,b<m.w.heap.size→w'.heap[b]? =m.w.heap[b]?)
  (hb:w'.heap[m.w.heap.size]? =some (.cells cur T (0,0))) (aC:aR m rows.flatten (cur.toList.take (rows.length*size))) (ao: ∀v∈cur.toList.take (rows.length*size),v.oneCell'=true) (dq: ∀r∈rows,r.length=size) (j3:cur.size=cap*size) (jK:rows.length≤cap) (mB:cap≤maxLen) (aU:size≠0):
  b9 (m.bj w' (.slice (some ⟨m.w.heap.size,0,none⟩) rows.length cap) (.bA T size 0 rows))∧b8 m (m.bj w' (.slice (some ⟨m.w.heap.size,0,none⟩) rows.length cap) (.bA T size 0 rows))∧
  aP (m.bj w' (.slice (some ⟨m.w.heap.size,0,none⟩) rows.length cap) (.bA T size 0 rows)) (.c6 m.T 0) (.slice (some ⟨m.w.heap.size,0,none⟩) rows.length cap):=by
 have ae: ∀b,(Value.slice (some ⟨m.w.heap.size,0,none⟩) rows.length cap).e4=some b→m.w.heap.size≤b:=fun b e=>by simp [Value.e4]at e; omega
 have e:=b8.bj be (v:= .slice (some ⟨m.w.heap.size,0,none⟩) rows.length cap) (o:= .bA T size 0 rows) U aa ay bl bW ae
 have x6:w'.Co T size (.slice (some ⟨m.w.heap.size,0,none⟩) rows.length cap) rows.length (cur.toList.take (rows.length*size)):=by
  refine⟨?_,.inr ⟨m.w.heap.size,0,cap,cur,rfl,hb,jK,mB,by omega,rfl⟩⟩
  have:rows.length*size≤cap*size:=Nat.mul_le_mul_right _ jK
  simp; omega
 have r:=b9.bj be (v:= .slice (some ⟨m.w.heap.size,0,none⟩) rows.length cap) (o:= .bA T size 0 rows) U aa ay bl bW ae aU ⟨_,x6,fun rows' h=>by cases h; exact⟨aR.aI e _ _ aC,dq,ao⟩⟩
 exact⟨r,e,vm r (T:=T) (size:=size) (rows:=rows) (by simp [Mem.bj,aA.cj]) (by simp [Mem.bj]) rfl⟩
theorem QM (be:b9 m){T size:Nat}(aU:size≠0):b9 (m.bj m.w (.slice none 0 0) (.bA T size 0 []))∧b8 m (m.bj m.w (.slice none 0 0) (.bA T size 0 []))∧aP (m.bj m.w (.slice none 0 0) (.bA T size 0 [])) (.c6 m.T 0) (.slice none 0 0):=by
 have ae: ∀b,(Value.slice none 0 0).e4=some b→m.w.heap.size≤b:=fun b e=>by simp [Value.e4]at e
 have e:=b8.bj be (w':=m.w) (v:= .slice none 0 0) (o:= .bA T size 0 []) rfl rfl rfl (Nat.le_refl _) (fun _ _=>rfl) ae
 have r:=b9.bj be (w':=m.w) (v:= .slice none 0 0) (o:= .bA T size 0 []) rfl rfl rfl (Nat.le_refl _) (fun _ _=>rfl) ae aU ⟨[],⟨by simp [cb.bA,cb.len],.inl ⟨rfl,rfl⟩⟩,fun rows' h=>by cases h; exact⟨by simp [aR],by simp,by simp⟩⟩
 exact⟨r,e,vm r (T:=T) (size:=size) (rows:=[]) (by simp [Mem.bj,aA.cj]) (by simp [Mem.bj]) rfl⟩
theorem Wo {t u T ty:TypeId}{size bytes:Nat}(A:vP P t u T size bytes) (be:b9 m){y:Value}{new:List (List I)}{news:List Value}(S:Src P m size y new news) (hb:new.length*bytes≤140737488355328) (mB:new.length≤maxLen) (aU:size≠0):
  ∃aX v,(Builtin.append_ #[t,u] ty #[.slice none 0 0,y]).run P m.w= .ok v aX.w∧b9 aX∧b8 m aX∧aX.H=m.H.cj m.T (.bA T size 0 new)∧aP aX (.c6 m.T 0) v:=by
 by_cases aW:new.length=0
 ·have:new=[]:=List.eq_nil_of_length_eq_zero aW
  subst this
  have ac:=AH (ty:=ty) A (base:=none) (k:=0) (cap:=0) S (by simp)
  obtain⟨r,e,v⟩:=QM be (T:=T) aU
  exact⟨m.bj m.w (.slice none 0 0) (.bA T size 0 []),_,ac,r,e,rfl,v⟩
 ·have ac:=De (ty:=ty) A (base:=none) (k:=0) (cap:=0) (olds:=[]) S (by omega) (fun w _=>by simp [Builtin.firstCells]) (Nat.zero_le _) (Nat.le_refl _) (by simpa using hb) (by simpa using mB)
  simp only[Nat.zero_add,List.nil_append]at ac
  have cg:=grownCap_ge m.w new.length 0 T
  have hle:=grownCap_le_maxLen m.w new.length 0 T mB
  have n9:(⟨news⟩++Builtin.zeroCells A.z.cells (grownCap m.w new.length 0 T-new.length):Array Value).toList.take (new.length*size)=news:=by
   simp only[Array.toList_append]
   rw[←S.n,List.take_left]
  obtain⟨r,e,v⟩:=EE be (T:=T) (size:=size) (cap:=grownCap m.w new.length 0 T) (rows:=new) (cur:=⟨news⟩++Builtin.zeroCells A.z.cells (grownCap m.w new.length 0 T-new.length)) (w':=m.w.drew.alloc (.cells (⟨news⟩++Builtin.zeroCells A.z.cells (grownCap m.w new.length 0 T-new.length)) T)) rfl rfl rfl (by simp) (uU _ _) (x0 _ _) (by rw[n9]; exact S.yx) (by rw[n9]; exact S.one) S.rO
   (by
    simp only[Array.size_append,List.size_toArray,At,A.rA,S.n,←Nat.add_mul]
    congr 1
    omega) cg hle aU
  exact⟨_,_,ac,r,e,rfl,v⟩
theorem Wn {t u T ty:TypeId}{size bytes:Nat}(A:vP P t u T size bytes) (be:b9 m){ez ver:Nat}{rows:List (List I)}{v0:Value}(wL:aP m (.c6 ez ver) v0) (ht:m.H.tok ez=some (.bA T size ver rows)){y:Value}{new:List (List I)}{news:List Value}(S:Src P m size y new news) (hb:(rows.length+new.length)*bytes≤140737488355328) (mB:rows.length+new.length≤maxLen):
  ∃aX v,(Builtin.append_ #[t,u] ty #[v0,y]).run P m.w= .ok v aX.w∧b9 aX∧b8 m aX∧aX.H=m.H.cj ez (.bA T size (ver+1) (rows++new))∧aP aX (.c6 ez (ver+1)) v:=by
 obtain⟨dX,aU,hs,zB⟩:=zP be ht wL
 have dq: ∀r∈rows++new,r.length=size:=fun r ac=>by
  rcases List.mem_append.1 ac with ac|ac
  ·exact hs r ac
  ·exact S.rO r ac
 rcases zB with ⟨rfl,rfl⟩|⟨g,p,cap,cur,rfl,a7,jK,rv,j3,tS,jq⟩
 ·-- nil
  simp only[List.length_nil,Nat.zero_add]at hb mB
  by_cases aW:new.length=0
  ·have:new=[]:=List.eq_nil_of_length_eq_zero aW
   subst this
   have ac:=AH (ty:=ty) A (base:=none) (k:=0) (cap:=0) S (by simp)
   have g0:Grows0 m m.w ez (.bA T size ver []) (.slice none 0 0) (.bA T size (ver+1) []):=⟨rfl,rfl,rfl,Nat.le_refl _,fun _ _ _=>rfl,fun _ _ _ _=>rfl,fun k aw=>by simp [Value.e4]at aw,Nat.le_refl _,rfl,rfl,Nat.le_succ _,fun e=>by simp [cb.bA]at e⟩
   have kh:rV m m.w ez (.bA T size ver []) (.slice none 0 0) (.bA T size (ver+1) []):=⟨g0,[],⟨by simp [cb.bA,cb.len],.inl ⟨rfl,rfl⟩⟩,fun rows' h=>by cases h; exact⟨by simp [aR],by simp,by simp⟩⟩
   have r:=b9.gt be ht kh
   exact⟨m.gt m.w ez (.slice none 0 0) (.bA T size (ver+1) []),_,ac,r,b8.gt be ht g0,rfl,vm r (T:=T) (size:=size) (rows:=[]) (by simp [Mem.gt,aA.cj]) (by simp [Mem.gt]) rfl⟩
  ·have ac:=De (ty:=ty) A (base:=none) (k:=0) (cap:=0) (olds:=[]) S (by omega) (fun w _=>by simp [Builtin.firstCells]) (Nat.zero_le _) (Nat.le_refl _) (by simpa using hb) (by simpa using mB)
   simp only[Nat.zero_add,List.nil_append]at ac
   have cg:=grownCap_ge m.w new.length 0 T
   have hle:=grownCap_le_maxLen m.w new.length 0 T mB
   generalize pt:(⟨news⟩++Builtin.zeroCells A.z.cells (grownCap m.w new.length 0 T-new.length):Array Value)=gU at ac
   have n9:gU.toList.take (new.length*size)=news:=by
    rw[←pt]
    simp only[Array.toList_append]
    rw[←S.n,List.take_left]
   have sv:gU.size=grownCap m.w new.length 0 T*size:=by
    rw[←pt]
    simp only[Array.size_append,List.size_toArray,At,A.rA,S.n,←Nat.add_mul]
    congr 1
    omega
   have g0:Grows0 m (m.w.drew.alloc (.cells gU T)) ez (.bA T size ver []) (.slice (some ⟨m.w.heap.size,0,none⟩) new.length (grownCap m.w new.length 0 T)) (.bA T size (ver+1) new):=
    ⟨rfl,rfl,rfl,by simp,fun k aw _=>uU _ _ _ aw,fun k c aw _=>World.cell?_of_block (a:=⟨k,c,none⟩) (uU _ _ _ (w9 be ht aw)),fun k aw=> .inr (by simp [Value.e4]at aw; omega),Nat.le_refl _,rfl,rfl,Nat.le_succ _,fun e=>by simp [cb.bA]at e⟩
   have aI:=b8.gt be ht g0
   have kh:rV m (m.w.drew.alloc (.cells gU T)) ez (.bA T size ver []) (.slice (some ⟨m.w.heap.size,0,none⟩) new.length (grownCap m.w new.length 0 T)) (.bA T size (ver+1) new):=
    ⟨g0,news,⟨S.n,.inr ⟨m.w.heap.size,0,_,gU,rfl,x0 _ _,cg,hle,by rw[sv,Nat.zero_add]; exact Nat.le_refl _,n9⟩⟩,fun rows' h=>by cases h; exact⟨aR.aI aI _ _ S.yx,S.rO,S.one⟩⟩
   have r:=b9.gt be ht kh
   exact⟨m.gt (m.w.drew.alloc (.cells gU T)) ez (.slice (some ⟨m.w.heap.size,0,none⟩) new.length (grownCap m.w new.length 0 T)) (.bA T size (ver+1) new),_,ac,r,aI,by simp [Mem.gt],vm r (T:=T) (size:=size) (rows:=new) (by simp [Mem.gt,aA.cj]) (by simp [Mem.gt]) rfl⟩
 ·have ao8:p+rows.length*size≤cur.size:=Nat.le_trans (Nat.add_le_add_left (Nat.mul_le_mul_right _ jK) _) j3
  generalize aC:(cur.toList.drop p).take (rows.length*size)=l at tS jq
  have n5:l.length=rows.length*size:=by rw[←aC]; simp; omega
  have ao7: ∀(j:Nat) (u:Value),l[j]? =some u→m.w.cell? ⟨g,p+j,none⟩=some u:=by
   intro j u bx
   rw[cell_of_row m.w g (p+j) cur T (0,0) a7]
   rw[←aC,List.getElem?_take]at bx
   split at bx
   ·simpa [List.getElem?_drop] using bx
   ·cases bx
  have Bu:aR m (rows++new).flatten (l++news):=by rw[List.flatten_append]; exact aR.append tS S.yx
  have El: ∀v∈l++news,v.oneCell'=true:=fun v ae=>by
   rcases List.mem_append.1 ae with ae|ae
   ·exact jq v ae
   ·exact S.one v ae
  have hlen:(l++news).length=(rows++new).length*size:=by rw[List.length_append,n5,S.n,List.length_append,Nat.add_mul]
  have jL:(m.L ez).e4=some g:=by rw[dX]; rfl
  by_cases lz:rows.length+new.length≤cap
  ·have ac:=AH (ty:=ty) A (base:=some ⟨g,p,none⟩) (k:=rows.length) (cap:=cap) S lz
   have lC:=run_storeCells_at P g (p+rows.length*size) T news 0 cur m.w a7 (by
    rw[S.n,Nat.add_zero,Nat.add_assoc,←Nat.add_mul]
    exact Nat.le_trans (Nat.add_le_add_left (Nat.mul_le_mul_right _ lz) _) j3) S.one
   simp only[Nat.add_zero]at lC
   have lA:(Builtin.append_ #[t,u] ty #[.slice (some ⟨g,p,none⟩) rows.length cap,y]).run P m.w= .ok (.slice (some ⟨g,p,none⟩) (rows.length+new.length) cap) (m.w.setRow g (cur.toList.take (p+rows.length*size)++news++cur.toList.drop (p+rows.length*size+news.length)).toArray):=by
    rw[ac]
    simp only[oN,lC,Result.andThen_ok]
   have as6:cur.toList.take (p+rows.length*size)=cur.toList.take p++l:=by rw[←aC,List.take_add]
   rw[as6]at lA
   generalize pt:(cur.toList.take p++l++news++cur.toList.drop (p+rows.length*size+news.length)).toArray=gU at lA
   have x5:=setRow_heap m.w g cur gU T (0,0) a7
   have ap0:p+rows.length*size+news.length≤cur.size:=by
    rw[S.n,Nat.add_assoc,←Nat.add_mul]
    exact Nat.le_trans (Nat.add_le_add_left (Nat.mul_le_mul_right _ lz) _) j3
   have HO:(cur.toList.take p).length=p:=by simp; omega
   have sv:p+cap*size≤gU.size:=by
    refine Nat.le_trans j3 (Nat.le_of_eq ?_)
    rw[←pt]
    simp
    omega
   have n9:(gU.toList.drop p).take ((rows++new).length*size)=l++news:=by
    rw[←pt,←hlen]
    simp only[List.toList_toArray,List.append_assoc]
    rw[List.drop_append_of_le_length (by omega),List.drop_of_length_le (by omega),List.nil_append,←List.append_assoc,List.take_left]
   have g0:Grows0 m (m.w.setRow g gU) ez (.bA T size ver rows) (.slice (some ⟨g,p,none⟩) (rows.length+new.length) cap) (.bA T size (ver+1) (rows++new)):=
    ⟨rfl,rfl,rfl,by simp,fun k aw e3=>setRow_other m.w g k gU (fun e=>e3 (by rw[jL,e])),fun k c aw aq=>by simp [cb.bA]at aq,fun k aw=> .inl (by rw[jL]; simpa [Value.e4] using aw),Nat.le_refl _,rfl,rfl,Nat.le_succ _,fun e=>by simp [cb.bA]at e⟩
   have aI:=b8.gt be ht g0
   have kh:rV m (m.w.setRow g gU) ez (.bA T size ver rows) (.slice (some ⟨g,p,none⟩) (rows.length+new.length) cap) (.bA T size (ver+1) (rows++new)):=
    ⟨g0,l++news,⟨hlen,.inr ⟨g,p,cap,gU,by simp [cb.bA,cb.len],x5,by simpa [cb.bA,cb.len] using lz,rv,sv,n9⟩⟩,fun rows' h=>by cases h; exact⟨aR.aI aI _ _ Bu,dq,El⟩⟩
   have r:=b9.gt be ht kh
   exact⟨m.gt (m.w.setRow g gU) ez (.slice (some ⟨g,p,none⟩) (rows.length+new.length) cap) (.bA T size (ver+1) (rows++new)),_,lA,r,aI,rfl,vm r (T:=T) (size:=size) (rows:=rows++new) (by simp [Mem.gt,aA.cj]) (by simp [Mem.gt]) rfl⟩
  ·have olds:(Builtin.firstCells size rows.length (.slice (some ⟨g,p,none⟩) rows.length cap)).run P m.w.drew= .ok ⟨l⟩ m.w.drew:=by
    have:=run_loadCells_list (P:=P) m.w.drew ⟨g,p,none⟩ l (fun j u bx=>by
     rw[oN]
     exact ao7 j u bx)
    rw[n5]at this
    simp [Builtin.firstCells,this]
   have ac:=KW (ty:=ty) A (base:=some ⟨g,p,none⟩) (k:=rows.length) (cap:=cap) (olds:=l) S lz olds rv jK hb mB
   have cg:=grownCap_ge m.w (rows.length+new.length) cap T
   have hle:=grownCap_le_maxLen m.w (rows.length+new.length) cap T mB
   generalize pt:(⟨l++news⟩++Builtin.zeroCells A.z.cells (grownCap m.w (rows.length+new.length) cap T-(rows.length+new.length)):Array Value)=gU at ac
   have n9:gU.toList.take ((rows++new).length*size)=l++news:=by
    rw[←pt,←hlen]
    simp only[Array.toList_append]
    rw[List.take_left]
   have sv:gU.size=grownCap m.w (rows.length+new.length) cap T*size:=by
    rw[←pt]
    have:(l++news).length=(rows.length+new.length)*size:=by rw[hlen,List.length_append]
    simp only[Array.size_append,List.size_toArray,At,A.rA,this,←Nat.add_mul]
    congr 1
    omega
   have g0:Grows0 m (m.w.drew.alloc (.cells gU T)) ez (.bA T size ver rows) (.slice (some ⟨m.w.heap.size,0,none⟩) (rows.length+new.length) (grownCap m.w (rows.length+new.length) cap T)) (.bA T size (ver+1) (rows++new)):=
    ⟨rfl,rfl,rfl,by simp,fun k aw _=>uU _ _ _ aw,fun k c aw aq=>by simp [cb.bA]at aq,fun k aw=> .inr (by simp [Value.e4]at aw; omega),Nat.le_refl _,rfl,rfl,Nat.le_succ _,fun e=>by simp [cb.bA]at e⟩
   have aI:=b8.gt be ht g0
   have kh:rV m (m.w.drew.alloc (.cells gU T)) ez (.bA T size ver rows) (.slice (some ⟨m.w.heap.size,0,none⟩) (rows.length+new.length) (grownCap m.w (rows.length+new.length) cap T)) (.bA T size (ver+1) (rows++new)):=
    ⟨g0,l++news,⟨hlen,.inr ⟨m.w.heap.size,0,_,gU,by simp [cb.bA,cb.len],x0 _ _,by simpa [cb.bA,cb.len] using cg,hle,by rw[sv,Nat.zero_add]; exact Nat.le_refl _,n9⟩⟩,fun rows' h=>by cases h; exact⟨aR.aI aI _ _ Bu,dq,El⟩⟩
   have r:=b9.gt be ht kh
   exact⟨m.gt (m.w.drew.alloc (.cells gU T)) ez (.slice (some ⟨m.w.heap.size,0,none⟩) (rows.length+new.length) (grownCap m.w (rows.length+new.length) cap T)) (.bA T size (ver+1) (rows++new)),_,ac,r,aI,rfl,vm r (T:=T) (size:=size) (rows:=rows++new) (by simp [Mem.gt,aA.cj]) (by simp [Mem.gt]) rfl⟩
theorem aU8 (l new:List Value) (k n:Nat) (h:k+new.length≤n) (aW:n≤l.length):(hF l k new).take n=hF (l.take n) k new:=by
 unfold hF
 have ar:(l.take k++new).length=k+new.length:=by simp; omega
 rw[List.take_append,ar,List.take_of_length_le (by omega),List.take_take,Nat.min_eq_left (by omega),List.drop_take]
theorem Cw {size:Nat}: ∀ {rows:List (List I)},(∀r∈rows,r.length=size)→rows.flatten.length=rows.length*size
 |[],_=>by simp
 |r::rows,h=>by
  rw[List.flatten_cons,List.length_append,Cw (fun x ab=>h x (by simp [ab])),h r (by simp),List.length_cons,Nat.add_mul]
  omega
theorem If (be:b9 m){ez ver k T size:Nat}{rows:List (List I)}{pF:Value}(hp:aP m (.mp ez ver k) pF) (ht:m.H.tok ez=some (.bA T size ver rows)):
  ∃g p cap cur,pF= .pointer (some ⟨g,p+k,none⟩)∧m.L ez= .slice (some ⟨g,p,none⟩) rows.length cap∧size≠0∧(∀r∈rows,r.length=size)∧m.w.heap[g]? =some (.cells cur T (0,0))∧rows.length≤cap∧cap≤maxLen∧p+cap*size≤cur.size∧aR m rows.flatten ((cur.toList.drop p).take (rows.length*size))∧∀u∈(cur.toList.drop p).take (rows.length*size),u.oneCell'=true:=by
 simp only[aP]at hp
 obtain⟨b,p,len,cap,ar,ax⟩:=(hp.2.2 _ ht).2 rfl
 have ae:aP m (.c6 ez ver) (m.L ez):=vm be ht rfl (by rw[ar]; rfl)
 obtain⟨_,aU,hs,aq⟩:=zP be ht ae
 rw[ar]at aq
 rcases aq with ⟨e,_⟩|⟨g,zV,LG,cur,e,r⟩
 ·simp at e
 ·simp only[Value.slice.injEq,Option.some.injEq,Addr.mk.injEq]at e
  obtain⟨⟨rfl,rfl,_⟩,rfl,rfl⟩:=e
  exact⟨b,p,cap,cur,ax,ar,aU,hs,r⟩
theorem aU6 (l new:List Value) (p k:Nat) (h:p+k≤l.length):(hF l (p+k) new).drop p=hF (l.drop p) k new:=by
 unfold hF
 rw[List.append_assoc,List.drop_append_of_le_length (by simp; omega),List.drop_take,List.drop_drop,List.append_assoc,show p+k-p=k by omega,show p+(k+new.length)=p+k+new.length by omega]
theorem U9 (be:b9 m){ez ver k T size:Nat}{rows rows':List (List I)}{pF:Value}{cs:List I}{l:List Value}(hp:aP m (.mp ez ver k) pF) (ht:m.H.tok ez=some (.bA T size ver rows)) (aC:k+cs.length≤rows.flatten.length) (j3:aR m cs l) (ao: ∀u∈l,u.oneCell'=true)
  (hf:rows'.flatten=gj rows.flatten k cs) (ac: ∀r∈rows',r.length=size) (hlen:rows'.length=rows.length):
  ∃dH aX,pF= .pointer (some dH)∧(storeCells dH l 0).run P m.w= .ok () aX.w∧b9 aX∧b8 m aX∧aX.H=m.H.cj ez (.bA T size ver rows'):=by
 obtain⟨g,p,cap,cur,ar,ax,aU,hs,a7,jK,rv,Bs,tS,jq⟩:=If be hp ht
 have aW:=aR.length j3
 have PQ:=Cw hs
 have ao8:p+rows.length*size≤cur.size:=Nat.le_trans (Nat.add_le_add_left (Nat.mul_le_mul_right _ jK) _) Bs
 have lC:=run_storeCells_at P g (p+k) T l 0 cur m.w a7 (by omega) ao
 have am4:(cur.toList.take (p+k+0)++l++cur.toList.drop (p+k+0+l.length)).toArray=⟨hF cur.toList (p+k) l⟩:=by simp [hF]
 rw[am4]at lC
 have pu:(hF cur.toList (p+k) l).drop p=hF (cur.toList.drop p) k l:=aU6 _ _ _ _ (by have Bk:=Array.length_toList (xs:=cur); omega)
 have n9:((hF cur.toList (p+k) l).drop p).take (rows.length*size)=hF ((cur.toList.drop p).take (rows.length*size)) k l:=by
  rw[pu]
  exact aU8 _ _ _ _ (by omega) (by have Bk:=Array.length_toList (xs:=cur); rw[List.length_drop]; omega)
 have x5:=setRow_heap m.w g cur ⟨hF cur.toList (p+k) l⟩ T (0,0) a7
 have jL:(m.L ez).e4=some g:=by rw[ax]; rfl
 have sv:p+cap*size≤(⟨hF cur.toList (p+k) l⟩:Array Value).size:=by
  refine Nat.le_trans Bs (Nat.le_of_eq ?_)
  simp [hF]
  omega
 have g0:Grows0 m (m.w.setRow g ⟨hF cur.toList (p+k) l⟩) ez (.bA T size ver rows) (m.L ez) (.bA T size ver rows'):=
  ⟨rfl,rfl,rfl,by simp,fun x aw e3=>setRow_other m.w g x _ (fun e=>e3 (by rw[jL,e])),fun x c aw aq=>by simp [cb.bA]at aq,fun x aw=> .inl aw,Nat.le_refl _,rfl,rfl,Nat.le_refl _,fun _=>rfl⟩
 have aI:=b8.gt be ht g0
 have kh:rV m (m.w.setRow g ⟨hF cur.toList (p+k) l⟩) ez (.bA T size ver rows) (m.L ez) (.bA T size ver rows'):=by
  refine⟨g0,hF ((cur.toList.drop p).take (rows.length*size)) k l,⟨?_,.inr ⟨g,p,cap,⟨hF cur.toList (p+k) l⟩,?_,x5,?_,rv,sv,?_⟩⟩,fun bm2 a8=> ?_⟩
  ·simp [cb.bA,cb.len,hF]
   rw[hlen]
   omega
  ·rw[ax]; simp [cb.bA,cb.len,hlen]
  ·simp [cb.bA,cb.len,hlen]; exact jK
  ·simp only[cb.bA,cb.len,hlen]; exact n9
  ·cases a8
   refine⟨aR.aI aI _ _ ?_,ac,fun v ae=> ?_⟩
   ·rw[hf]
    exact Js tS j3 k
   ·simp only[hF,List.mem_append]at ae
    rcases ae with (ae|ae)|ae
    ·exact jq v (List.mem_of_mem_take ae)
    ·exact ao v ae
    ·exact jq v (List.mem_of_mem_drop ae)
 have r:=b9.gt be ht kh
 exact⟨_,m.gt (m.w.setRow g ⟨hF cur.toList (p+k) l⟩) ez (m.L ez) (.bA T size ver rows'),ar,lC,r,aI,rfl⟩
theorem Jj: ∀ {rows:List (List I)}{size q h:Nat},(∀r∈rows,r.length=size)→((rows.take h).drop q).flatten=(rows.flatten.take (h*size)).drop (q*size)
 |[],_,_,_,_=>by simp
 |r::rows,size,q,0,_=>by simp
 |r::rows,size,0,h+1,hs=>by
  have ac:=hs r (by simp)
  have:=Jj (rows:=rows) (size:=size) (q:=0) (h:=h) fun x ab=>hs x (by simp [ab])
  simp only[List.drop_zero,Nat.zero_mul]at this ⊢
  rw[List.take_succ_cons,List.flatten_cons,List.flatten_cons,this,Nat.add_mul,Nat.one_mul,Nat.add_comm,←ac,List.take_length_add_append]
 |r::rows,size,q+1,h+1,hs=>by
  have ac:=hs r (by simp)
  have:=Jj (rows:=rows) (size:=size) (q:=q) (h:=h) fun x ab=>hs x (by simp [ab])
  rw[List.take_succ_cons,List.drop_succ_cons,this,List.flatten_cons,Nat.add_mul,Nat.add_mul,Nat.one_mul,Nat.add_comm (h*size),Nat.add_comm (q*size),←ac,List.take_length_add_append,List.drop_length_add_append]
theorem aW4 (be:b9 m){ez ver T size h q:Nat}{rows:List (List I)}{dH:Option Addr}{cap:Nat}(wL:aP m (.c6 ez ver) (.slice dH rows.length cap)) (ht:m.H.tok ez=some (.bA T size ver rows)) (U:h≤rows.length) (bw:q≤h):
  ∃aX,aX.w=m.w∧b9 aX∧b8 m aX∧aX.H=m.H.cj ez (.bA T size (ver+1) ((rows.take h).drop q))∧aP aX (.c6 ez (ver+1)) (.slice (if cap=q then dH else dH.map (·.add (q*size))) (h-q) (cap-q)):=by
 obtain⟨dX,aU,hs,zB⟩:=zP be ht wL
 have hlen:((rows.take h).drop q).length=h-q:=by simp; omega
 rcases zB with ⟨e,rfl⟩|⟨g,p,cap,cur,e,a7,jK,rv,j3,tS,jq⟩
 ·simp only[List.length_nil,Nat.le_zero_eq]at U
  subst U
  obtain rfl:q=0:=Nat.le_zero.1 bw
  simp only[Value.slice.injEq]at e
  obtain⟨rfl,_,rfl⟩:=e
  have g0:Grows0 m m.w ez (.bA T size ver []) (.slice none 0 0) (.bA T size (ver+1) []):=⟨rfl,rfl,rfl,Nat.le_refl _,fun _ _ _=>rfl,fun _ _ _ _=>rfl,fun k aw=>by simp [Value.e4]at aw,Nat.le_refl _,rfl,rfl,Nat.le_succ _,fun e=>by simp [cb.bA]at e⟩
  have kh:rV m m.w ez (.bA T size ver []) (.slice none 0 0) (.bA T size (ver+1) []):=⟨g0,[],⟨by simp [cb.bA,cb.len],.inl ⟨rfl,rfl⟩⟩,fun rows' h=>by cases h; exact⟨by simp [aR],by simp,by simp⟩⟩
  have r:=b9.gt be ht kh
  exact⟨m.gt m.w ez (.slice none 0 0) (.bA T size (ver+1) []),rfl,r,b8.gt be ht g0,rfl,vm r (T:=T) (size:=size) (rows:=[]) (by simp [Mem.gt,aA.cj]) (by simp [Mem.gt]) rfl⟩
 ·simp only[Value.slice.injEq]at e
  obtain⟨rfl,_,rfl⟩:=e
  have jL:(m.L ez).e4=some g:=by rw[dX]; rfl
  obtain⟨o,ae,am2,Ps⟩: ∃o,(if cap=q then some (⟨g,p,none⟩:Addr) else (some (⟨g,p,none⟩:Addr)).map (·.add (q*size)))=some ⟨g,o,none⟩∧o+(cap-q)*size≤cur.size∧(cur.toList.drop o).take ((h-q)*size)=(cur.toList.drop (p+q*size)).take ((h-q)*size):=by
   by_cases aq:cap=q
   ·have aU:h-q=0:=by omega
    refine⟨p,by rw[if_pos aq],?_,by rw[aU,Nat.zero_mul,List.take_zero,List.take_zero]⟩
    rw[aq,Nat.sub_self,Nat.zero_mul]
    exact Nat.le_trans (Nat.add_le_add_left (Nat.zero_le _) _) j3
   ·refine⟨p+q*size,by rw[if_neg aq]; simp [oN],?_,rfl⟩
    rw[Nat.add_assoc,←Nat.add_mul,show q+(cap-q)=cap by omega]
    exact j3
  rw[ae]
  have ao9:h*size≤rows.length*size:=Nat.mul_le_mul_right _ U
  have PX:(cur.toList.drop (p+q*size)).take ((h-q)*size)=(((cur.toList.drop p).take (rows.length*size)).take (h*size)).drop (q*size):=by
   rw[List.take_take,Nat.min_eq_left ao9,List.drop_take,List.drop_drop,Nat.sub_mul]
  have g0:Grows0 m m.w ez (.bA T size ver rows) (.slice (some ⟨g,o,none⟩) (h-q) (cap-q)) (.bA T size (ver+1) ((rows.take h).drop q)):=⟨rfl,rfl,rfl,Nat.le_refl _,fun _ _ _=>rfl,fun _ _ _ _=>rfl,fun k aw=> .inl (by rw[jL]; simpa [Value.e4] using aw),Nat.le_refl _,rfl,rfl,Nat.le_succ _,fun e=>by simp [cb.bA]at e⟩
  have aI:=b8.gt be ht g0
  have kh:rV m m.w ez (.bA T size ver rows) (.slice (some ⟨g,o,none⟩) (h-q) (cap-q)) (.bA T size (ver+1) ((rows.take h).drop q)):=⟨g0,(cur.toList.drop o).take ((h-q)*size),⟨by
   have:=Nat.mul_le_mul_right size (show h-q≤cap-q by omega)
   simp only[cb.bA,cb.len,hlen,List.length_take,List.length_drop,Array.length_toList]; omega,.inr ⟨g,o,cap-q,cur,by simp only[cb.bA,cb.len,hlen],a7,by simp only[cb.bA,cb.len,hlen]; omega,by omega,am2,by simp only[cb.bA,cb.len,hlen]⟩⟩,fun rows' a8=>by
   cases a8
   refine⟨aR.aI aI _ _ ?_,fun r ac=>hs r (List.mem_of_mem_take (List.mem_of_mem_drop ac)),fun u hu=>jq u ?_⟩
   ·rw[Jj hs,Ps,PX]
    exact aR.drop _ (aR.take _ tS)
   ·rw[Ps,PX]at hu
    exact List.mem_of_mem_take (List.mem_of_mem_drop hu)⟩
  have r:=b9.gt be ht kh
  exact⟨m.gt m.w ez (.slice (some ⟨g,o,none⟩) (h-q) (cap-q)) (.bA T size (ver+1) ((rows.take h).drop q)),rfl,r,aI,rfl,vm r (T:=T) (size:=size) (rows:=(rows.take h).drop q) (by simp [Mem.gt,aA.cj]) (by simp [Mem.gt]) rfl⟩
end
section
variable {P:Program}{m:Mem}{env:Env}{a:Act}{o:Oper}
theorem QF (be:b9 m){t ver T size:Nat}{rows:List (List I)}{v:Value}(ht:m.H.tok t=some (.bA T size ver rows)) (ae:aP m (.c6 t ver) v): ∃dH cap,v= .slice dH rows.length cap∧rows.length≤cap:=by
 obtain⟨_,_,_,aq⟩:=zP be ht ae
 rcases aq with ⟨rfl,rfl⟩|⟨g,p,cap,cur,rfl,_,h,_⟩
 ·exact⟨none,0,rfl,Nat.le_refl _⟩
 ·exact⟨_,cap,rfl,h⟩
theorem Z4 {c y t ver T size}{rows:List (List I)}(he:eA m env a.tmps) (be:b9 m) (ao:o.op= .call c) (h:bo P o.op (.iq y)=true) (ar:y.aI env= .c6 t ver) (ht:m.H.tok t=some (.bA T size ver rows)):gu P m a o (.int .i64 rows.length):=by
 obtain⟨callee,args,argTypes⟩:=c
 rw[ao]at h
 cases callee with
 |value f=>simp [bo]at h
 |invoke _ _=>simp [bo]at h
 |builtin b=>
  cases b<;>simp only[bo]at h<;>first
   |(cases h; done)
   |skip
  simp only[Bool.and_eq_true]at h
  obtain⟨U,aa⟩:=h
  split at U
  ·rename_i x ab
   split at aa
   ·rename_i dT hD
    have aq:=dy he U
    obtain rfl:=vV ab
    obtain rfl:=vV hD
    split at aa
    ·rename_i el hu
     rw[ar]at aq
     obtain⟨dH,cap,ax,_⟩:=QF be ht aq
     refine⟨.int .i64 rows.length,?_,by simp only[aP]⟩
     refine Dr ao rfl rfl P m.w m.w (.int .i64 rows.length) ?_
     simp [builtin,Builtin.len_,run_underlying hu,ax,goInt]
    ·cases aa
   ·cases aa
  ·cases U
theorem E9 {t el:TypeId}(gq:kU P t=some el):P.underlying t=some (.slice el):=by
 unfold kU at gq
 split at gq
 ·rename_i e hu; simp at gq; subst gq; exact hu
 ·cases gq
theorem ZZ {ty x i size c9 dB t ver T k}{rows:List (List I)}{n:Int}(he:eA m env a.tmps) (be:b9 m) (ao:o.op= .indexAddr ty x i) (h:bo P o.op (.jr size c9 dB)=true) (ar:c9.aI env= .c6 t ver) (ht:m.H.tok t=some (.bA T size ver rows)) (ax:dB.aI env= .int k n) (aU:0≤n) (ac:n<(rows.length:Int)):gu P m a o (.mp t ver (n.toNat*size)):=by
 rw[ao]at h
 simp only[bo,Bool.and_eq_true]at h
 obtain⟨⟨U,aa⟩,ay⟩:=h
 have ad:=dy he aa
 have ab:=dy he U
 rw[ax]at ad
 rw[ar]at ab
 split at ay
 ·rename_i el gq
  have dq:j7 P el=some size:=by simpa using ay
  have hu:=E9 gq
  obtain⟨dX,e3,hs,aq⟩:=zP be ht ab
  rcases aq with ⟨_,rfl⟩|⟨g,p,cap,cur,e,_⟩
  ·simp at ac; omega
  ·refine⟨.pointer (some ⟨g,p+n.toNat*size,none⟩),?_,?_⟩
   ·simp [execOp,ao,Instr.indexAt,e,kD ad,asIntOf,run_underlying hu,aU,ac,oH dq,oN]
   ·simp only[aP]
    refine⟨rfl,(be.tok t _ ht).1,fun j bx=> ?_⟩
    rw[ht]at bx
    simp at bx
    subst bx
    exact⟨Nat.le_refl _,fun _=>⟨g,p,_,_,dX.trans e,rfl⟩⟩
 ·cases ay
theorem Z5 {ty x agg n y t ver k T size r}{rows:List (List I)}(he:eA m env a.tmps) (be:b9 m) (ao:o.op= .load ty x) (h:bo P o.op (.j5 agg n y)=true) (ar:y.aI env= .mp t ver k) (ht:m.H.tok t=some (.bA T size ver rows)) (aC:k+n≤rows.flatten.length) (ac:I.js agg ((rows.flatten.drop k).take n)=some r):gu P m a o r:=by
 rw[ao]at h
 simp only[bo,Bool.and_eq_true]at h
 obtain⟨U,aa⟩:=h
 have ab:=dy he aa
 rw[ar]at ab
 obtain⟨g,p,cap,cur,e,_,e3,hs,a7,jK,rv,Bs,tS,jq⟩:=If be ab ht
 have PQ:=Cw hs
 have n5:=aR.length tS
 generalize bw:(cur.toList.drop p).take (rows.length*size)=l at tS jq n5
 refine⟨if agg then .agg ⟨(l.drop k).take n⟩ else ((l.drop k).take n).getD 0 undef,?_,?_⟩
 ·have:=Jm (w:=m.w) U g (p+k) ((l.drop k).take n) (by simp; omega) (fun j v bx=>by
   rw[cell_of_row m.w g _ cur T (0,0) a7]
   rw[List.getElem?_take]at bx
   split at bx
   ·rw[List.getElem?_drop,←bw,List.getElem?_take]at bx
    split at bx
    ·rw[List.getElem?_drop,←Nat.add_assoc]at bx
     simpa using bx
    ·cases bx
   ·cases bx)
  simp [execOp,ao,Instr.loadAt,e,Instr.sureAddr,this]
 ·rcases Cf ac (aR.take n (aR.drop k tS)) with ⟨rfl,h⟩|⟨rfl,v,e,h⟩
  ·exact h
  ·simp only[Bool.false_eq_true,if_false,e]
   exact h
theorem ZY {t x f off y ez ver k T size}{rows:List (List I)}(he:eA m env a.tmps) (be:b9 m) (ao:o.op= .fieldAddr t x f) (h:bo P o.op (.jJ off y)=true) (ar:y.aI env= .mp ez ver k) (ht:m.H.tok ez=some (.bA T size ver rows)):gu P m a o (.mp ez ver (k+off)):=by
 rw[ao]at h
 simp only[bo,Bool.and_eq_true]at h
 obtain⟨U,aa⟩:=h
 have aq:=dy he U
 rw[ar]at aq
 obtain⟨g,p,cap,cur,cu,cL,_⟩:=If be aq ht
 split at aa
 ·rename_i b2 hu
  split at aa
  ·rename_i q a7
   simp only[Bool.and_eq_true,decide_eq_true_eq]at aa
   obtain⟨aa,ay⟩:=aa
   split at ay
   ·rename_i n aW
    have uZ:n≠0:=by simpa using ay
    refine⟨.pointer (some ⟨g,p+(k+off),none⟩),?_,?_⟩
    ·simp [execOp,ao,Instr.fieldAt,run_underlying hu,a7,cu,Instr.sureAddr,fieldPlace,oH aW,uZ,oN,aa,Nat.add_assoc]
    ·simp only[aP]at aq ⊢
     refine⟨rfl,aq.2.1,fun i ad=> ?_⟩
     rw[ht]at ad
     cases ad
     exact⟨Nat.le_refl _,fun _=>⟨g,p,_,cap,cL,rfl⟩⟩
   ·cases ay
  ·cases aa
 ·cases aa
theorem bb0 {size:Nat}{rows:List (List I)}{v:Value}(h:aP m (.af size rows) v) (ac:rows≠[]): ∃x len cap,v= .slice (some x) len cap:=by
 simp only[aP]at h
 obtain⟨dH,len,cap,rfl,_,_,bl⟩:=h
 rcases bl with bl|⟨b,p,rfl,_⟩
 ·exact absurd (List.eq_nil_of_length_eq_zero bl) ac
 ·exact⟨_,_,_,rfl⟩
theorem Jl {op t x y u neg c9}(ao:o.op= .binOp op t x y u) (h:bo P o.op (.qH neg c9)=true){dH:Option Addr}{len cap:Nat}(ae:a.eval x= .slice dH len cap):(execOp a.eval o).run P m.w= .ok (.value (.bool (bif neg then !dH.isNone else dH.isNone))) m.w:=by
 rw[ao]at h
 simp only[bo,Bool.and_eq_true,decide_eq_true_eq]at h
 obtain⟨⟨⟨⟨U,aa⟩,ay⟩,bl⟩,bW⟩:=h
 split at ay
 ·split at bl
  ·rename_i e he
   have hu:=E9 he
   subst U
   have a7: ∀op,(eqGuard op t x (.const (.slice none 0 0)) (.slice dH len cap) (.slice none 0 0)).run P m.w= .ok () m.w:=by
    intro op
    have Hd:P.eqGuardType P.depth t=false:=by simpa using bW
    unfold eqGuard; cases op<;>simp [Hd]
   have bw:(Op.equal t (.slice dH len cap) (.slice none 0 0)).run P m.w= .ok dH.isNone m.w:=by
    have G7: ∀d,(Op.equalIn (d+1) t (.slice dH len cap) (.slice none 0 0)).run P m.w= .ok dH.isNone m.w:=by
     intro d
     cases dH<;>simp [Op.equalIn,run_underlying hu]
    exact G7 9999
   have aV:a.eval (.const (.slice none 0 0))= .slice none 0 0:=rfl
   cases neg<;>simp [execOp,ao,ae,bw,a7,binOp,aV]
  ·cases bl
 ·cases ay
theorem Mh {op t x y u neg c9 b}(he:eA m env a.tmps) (ao:o.op= .binOp op t x y u) (h:bo P o.op (.qH neg c9)=true) (ae: ∀v,aP m (c9.aI env) v→(v= .slice none 0 0∧b= !neg)∨(∃q len cap,v= .slice (some q) len cap)∧b=neg):gu P m a o (.bool b):=by
 have aa:de x c9=true:=by
  rw[ao]at h
  simp only[bo,Bool.and_eq_true,decide_eq_true_eq]at h
  exact h.1.1.1.2
 rcases ae _ (dy he aa) with ⟨e,rfl⟩|⟨⟨q,len,cap,e⟩,rfl⟩
 ·exact⟨_,Jl ao h e,by simp only[aP]; cases neg<;>rfl⟩
 ·exact⟨_,Jl ao h e,by simp only[aP]; cases b<;>rfl⟩
theorem Z3 {op t x y u neg c9 size rows}(he:eA m env a.tmps) (ao:o.op= .binOp op t x y u) (h:bo P o.op (.qH neg c9)=true) (ab:c9.aI env= .af size rows): ∃b v,(execOp a.eval o).run P m.w= .ok (.value v) m.w∧aP m (.bool b) v:=by
 have aa:de x c9=true:=by
  rw[ao]at h
  simp only[bo,Bool.and_eq_true,decide_eq_true_eq]at h
  exact h.1.1.1.2
 have ae:=dy he aa
 rw[ab]at ae
 simp only[aP]at ae
 obtain⟨dH,len,cap,e,_⟩:=ae
 exact⟨(bif neg then !dH.isNone else dH.isNone),_,Jl ao h e,by simp only[aP]⟩
theorem aa0 {ty x cJ ad size y oB iD t ver T h}{rows:List (List I)}(he:eA m env a.tmps) (be:b9 m) (ao:o.op= .slice ty x cJ ad none) (aq:bo P o.op (.oI size y oB iD)=true) (ar:y.aI env= .c6 t ver) (ht:m.H.tok t=some (.bA T size ver rows)){q:Nat}(aC:kA env 0 oB=some q) (a8:kA env rows.length iD=some h) (aa:h≤rows.length) (bw:q≤h):
  ∃aX v,(execOp a.eval o).run P m.w= .ok (.value v) aX.w∧b9 aX∧b8 m aX∧aX.H=m.H.cj t (.bA T size (ver+1) ((rows.take h).drop q))∧aP aX (.c6 t (ver+1)) v:=by
 rw[ao]at aq
 simp only[bo,Bool.and_eq_true]at aq
 obtain⟨⟨⟨c1,ci⟩,fc⟩,ha⟩:=aq
 have ab:=dy he c1
 rw[ar]at ab
 split at ha
 ·rename_i el gq
  have dq:j7 P el=some size:=by simpa using ha
  have hu:=E9 gq
  obtain⟨dH,cap,e,jK⟩:=QF be ht ab
  have hb:=Jn (P:=P) (w:=m.w) (b:=true) (cap:=cap) he ci fc aC a8 bw aa jK
  rw[e]at ab
  obtain⟨aX,iH,cu,cL,dv,hE⟩:=aW4 be ab ht aa bw
  refine⟨aX,_,?_,cu,cL,dv,hE⟩
  rw[iH]
  simp [execOp,ao,Instr.sliceAt,Instr.slice,run_underlying hu,e,hb,oH dq]
 ·cases ha
end
end Go.aO
namespace Go.aO
open Go Go.MapKept
section
variable {P:Program}{m:Mem}{env:Env}{a:Act}{o:Oper}
def mO (e:MapEntry):List Value:=[e.key,e.val]
theorem Qw {m:Mem}{k:List UInt8}{v:I}{r:List (List I)}{l:List MapEntry}(h:aR m (([.str k,v]::r).flatten) (l.flatMap mO)):
  ∃e cc,l=e::cc∧(e.key= .string ⟨⟨k⟩⟩∧k.length≤maxLen)∧aP m v e.val∧aR m r.flatten (cc.flatMap mO):=by
 cases l with
 |nil=>simp [aR]at h
 |cons e cc=>
  simp only[List.flatten_cons,List.cons_append,List.nil_append,List.flatMap_cons,mO,aR]at h
  obtain⟨x,xs,ar,ax,y,eT,bU,dl,gn⟩:=h
  simp only[List.cons.injEq]at ar bU
  obtain⟨rfl,rfl⟩:=ar
  simp only[List.cons.injEq]at bU
  obtain⟨rfl,rfl⟩:=bU
  exact⟨e,cc,rfl,by simpa only[aP] using ax,dl,gn⟩
theorem Ie {m:Mem}{l:List MapEntry}(h:aR m [] (l.flatMap mO)):l=[]:=by
 cases l with
 |nil=>rfl
 |cons e cc=>simp [aR,mO]at h
theorem Ad (s k:List UInt8):Instr.sameNow .string (.string ⟨⟨s⟩⟩) (.string ⟨⟨k⟩⟩)=some (decide (s=k)):=by
 simp only[Instr.sameNow,Option.some.injEq]
 by_cases h:s=k
 ·subst h
  rw[decide_eq_true rfl]
  exact (bytes_beq _ _).2 rfl
 ·rw[decide_eq_false h]
  cases e:(⟨⟨s⟩⟩:ByteArray)==⟨⟨k⟩⟩ with
  |false=>rfl
  |true=>
   have:=(bytes_beq _ _).1 e
   simp at this
   exact absurd this h
theorem Qx {m:Mem}(s:List UInt8): ∀(rows:List (List I)) (l:List MapEntry) (i:Nat) (r:Option I),aR m rows.flatten (l.flatMap mO)→ny s rows=some r→
  (r=none∧Instr.findNow .string (.string ⟨⟨s⟩⟩) l i=some none)∨∃v j e,r=some v∧Instr.findNow .string (.string ⟨⟨s⟩⟩) l i=some (some (i+j,e.val))∧l[j]? =some e∧aP m v e.val
 |[],l,i,r,h,ac=>by
  have:=Ie h
  subst this
  simp only[ny,Option.some.injEq]at ac
  exact .inl ⟨ac.symm,rfl⟩
 |row::rows,l,i,r,h,ac=>by
  unfold ny at ac
  split at ac
  ·cases ‹_:: _=[]›
  ·rename_i k v eV cA
   simp only[List.cons.injEq]at cA
   obtain⟨rfl,rfl⟩:=cA
   obtain⟨e,cc,rfl,⟨U,_⟩,aa,ay⟩:=Qw h
   by_cases aw:s=k
   ·rw[if_pos aw]at ac
    simp only[Option.some.injEq]at ac
    refine .inr ⟨v,0,e,ac.symm,?_,rfl,aa⟩
    simp only[Instr.findNow,U,Ad,aw,decide_true,Nat.add_zero]
   ·rw[if_neg aw]at ac
    rcases Qx s _ cc (i+1) r ay ac with ⟨g1,g2⟩|⟨bI,j,cI,g1,g2,g3,g4⟩
    ·exact .inl ⟨g1,by simp only[Instr.findNow,U,Ad,aw,decide_false]; exact g2⟩
    ·exact .inr ⟨bI,j+1,cI,g1,by simp only[Instr.findNow,U,Ad,aw,decide_false]; rw[g2,show i+1+j=i+(j+1) by omega],by simpa using g3,g4⟩
  ·cases ac
theorem Qz {m:Mem}(s:List UInt8) (v:I): ∀(rows:List (List I)) (l:List MapEntry) (i:Nat) (rows':List (List I)),aR m rows.flatten (l.flatMap mO)→l2 s v rows=some rows'→
  (rows'=rows++[[.str s,v]]∧Instr.findNow .string (.string ⟨⟨s⟩⟩) l i=some none)∨∃j e,Instr.findNow .string (.string ⟨⟨s⟩⟩) l i=some (some (i+j,e.val))∧l[j]? =some e∧e.key= .string ⟨⟨s⟩⟩∧rows'=rows.set j [.str s,v]
 |[],l,i,r,h,ac=>by
  have:=Ie h
  subst this
  simp only[l2,Option.some.injEq]at ac
  exact .inl ⟨ac.symm,rfl⟩
 |row::rows,l,i,r,h,ac=>by
  unfold l2 at ac
  split at ac
  ·cases ‹_:: _=[]›
  ·rename_i k w eV cA
   simp only[List.cons.injEq]at cA
   obtain⟨rfl,rfl⟩:=cA
   obtain⟨e,cc,rfl,⟨U,_⟩,aa,ay⟩:=Qw h
   by_cases aw:s=k
   ·rw[if_pos aw]at ac
    simp only[Option.some.injEq]at ac
    refine .inr ⟨0,e,?_,rfl,by rw[U,aw],ac.symm⟩
    simp only[Instr.findNow,U,Ad,aw,decide_true,Nat.add_zero]
   ·rw[if_neg aw]at ac
    cases bw:l2 s v rows with
    |none=>rw[bw]at ac; cases ac
    |some q=>
     rw[bw]at ac
     simp only[Option.map_some,Option.some.injEq]at ac
     subst ac
     rcases Qz s v _ cc (i+1) q ay bw with ⟨g1,g2⟩|⟨j,cI,g2,g3,g4,g1⟩
     ·exact .inl ⟨by rw[g1]; rfl,by simp only[Instr.findNow,U,Ad,aw,decide_false]; exact g2⟩
     ·exact .inr ⟨j+1,cI,by simp only[Instr.findNow,U,Ad,aw,decide_false]; rw[g2,show i+1+j=i+(j+1) by omega],by simpa using g3,g4,by rw[g1]; rfl⟩
  ·cases ac
theorem QA {m:Mem}{s:List UInt8}{v:I}{val:Value}(hs:s.length≤maxLen) (ae:aP m v val): ∀(rows:List (List I)) (l:List MapEntry) (j:Nat),(∀r∈rows,r.length=2)→aR m rows.flatten (l.flatMap mO)→
  aR m (rows.set j [.str s,v]).flatten ((l.modify j fun e=>{e with key:= .string ⟨⟨s⟩⟩,val:=val}).flatMap mO)
 |[],l,j,_,h=>by
  have:=Ie h
  subst this
  simpa using h
 |row::rows,l,j,aa,h=>by
  obtain⟨x,y,rfl⟩: ∃x y,row=[x,y]:=by
   have:=aa row (by simp)
   match row,this with
   |[x,y],_=>exact⟨x,y,rfl⟩
  cases l with
  |nil=>simp [aR]at h
  |cons e cc=>
   simp only[List.flatten_cons,List.cons_append,List.nil_append,List.flatMap_cons,mO,aR]at h
   obtain⟨c9,xs,ar,ax,iX,eT,bU,dl,gn⟩:=h
   simp only[List.cons.injEq]at ar
   obtain⟨rfl,rfl⟩:=ar
   simp only[List.cons.injEq]at bU
   obtain⟨rfl,rfl⟩:=bU
   cases j with
   |zero=>
    simp only[List.set_cons_zero,List.flatten_cons,List.cons_append,List.nil_append,List.modify_zero_cons,List.flatMap_cons,mO,aR]
    exact⟨_,_,rfl,by simp only[aP,true_and]; exact hs,_,_,rfl,ae,gn⟩
   |succ j=>
    simp only[List.set_cons_succ,List.flatten_cons,List.cons_append,List.nil_append,List.modify_succ_cons,List.flatMap_cons,mO,aR]
    exact⟨_,_,rfl,ax,_,_,rfl,dl,QA hs ae rows cc j (fun r ac=>aa r (by simp [ac])) gn⟩
theorem Qy (be:b9 m){t ver T:Nat}{rows:List (List I)}{v:Value}(ht:m.H.tok t=some (.bb T ver rows)) (ae:aP m (.c6 t ver) v):
  m.L t=v∧(∀r∈rows,r.length=2)∧∃b es pi,v= .map (some b)∧m.w.heap[b]? =some (.map es pi)∧aR m rows.flatten (es.toList.flatMap mO)∧∀u∈es.toList.flatMap mO,u.oneCell'=true:=by
 simp only[aP]at ae
 have dX:m.L t=v:=(ae.2.2 _ ht).2 rfl
 obtain⟨bf,bi,⟨xs,cz,gr⟩,eu⟩:=be.tok t _ ht
 obtain⟨gr,mS,sB⟩:=gr rows rfl
 rw[dX]at cz
 obtain⟨b,es,pi,ar,ax,bU⟩:=cz
 subst bU
 exact⟨dX,mS,b,es,pi,ar,ax,gr,sB⟩
theorem aB9 {aX:Mem}{t ver T:Nat}{rows:List (List I)}{v:Value}(be:b9 aX) (ht:aX.H.tok t=some (.bb T ver rows)) (dX:aX.L t=v) (ae:v.oneCell'=true):aP aX (.c6 t ver) v:=by
 simp only[aP]
 refine⟨ae,(be.tok t _ ht).1,fun i ad=> ?_⟩
 rw[ht]at ad
 simp at ad
 subst ad
 exact⟨Nat.le_refl _,fun _=>dX⟩
theorem aD8 (be:b9 m) (T:TypeId):b9 (m.bj (m.w.alloc (.map #[] 0)) (.map (some m.w.heap.size)) (.bb T 0 []))∧b8 m (m.bj (m.w.alloc (.map #[] 0)) (.map (some m.w.heap.size)) (.bb T 0 []))∧
  aP (m.bj (m.w.alloc (.map #[] 0)) (.map (some m.w.heap.size)) (.bb T 0 [])) (.c6 m.T 0) (.map (some m.w.heap.size)):=by
 have ae: ∀b,(Value.map (some m.w.heap.size)).e4=some b→m.w.heap.size≤b:=fun b e=>by simp [Value.e4]at e; omega
 have e:=b8.bj be (w':=m.w.alloc (.map #[] 0)) (v:= .map (some m.w.heap.size)) (o:= .bb T 0 []) rfl rfl rfl (by simp) (fun b hb=>qD m.w _ b hb) ae
 have r:=b9.bj be (w':=m.w.alloc (.map #[] 0)) (v:= .map (some m.w.heap.size)) (o:= .bb T 0 []) rfl rfl rfl (by simp) (fun b hb=>qD m.w _ b hb) ae (by simp [cb.bb]) ⟨[],⟨_,#[],0,rfl,u2 m.w _,rfl⟩,fun rows h=>by cases h; exact⟨by simp [aR],by simp,by simp⟩⟩
 exact⟨r,e,aB9 r (T:=T) (rows:=[]) (by simp [Mem.bj,aA.cj]) (by simp [Mem.bj]) rfl⟩
theorem aB3 (be:b9 m){t ver T:Nat}{rows:List (List I)}{v:Value}{ty kt ft:TypeId}{s:List UInt8}{z:I}{kZ:Value}{r:Option I}(ok:Bool) (ht:m.H.tok t=some (.bb T ver rows)) (ae:aP m (.c6 t ver) v)
  (hm:P.underlying ty=some (.map kt ft)) (aw:P.underlying kt=some .string) (aG:(zeroValue ft).run P m.w= .ok kZ m.w) (wM:aP m z kZ) (ac:ny s rows=some r):
  ∃x,(Instr.lookup ty v (.string ⟨⟨s⟩⟩) ok).run P m.w= .ok x m.w∧aP m (l3 ok z r) x:=by
 obtain⟨_,_,b,es,pi,rfl,hb,aC,_⟩:=Qy be ht ae
 have wH:IsKey .string (.string ⟨⟨s⟩⟩):=by simp [IsKey]
 rcases Qx s rows es.toList 0 r aC ac with ⟨rfl,U⟩|⟨y,j,e,rfl,U,aa,ay⟩
 ·refine⟨if ok then .tuple #[kZ,.bool false] else kZ,?_,?_⟩
  ·simp [Instr.lookup,run_underlying hm,Go.MapKept.run_getObj_map hb,run_checkKey aw wH,run_findKey aw U,aG,Result.andThen]
  ·cases ok
   ·simpa [l3] using wM
   ·simp only[l3,if_true,Option.getD_none,Option.isSome_none,aP,aR]
    exact⟨_,rfl,_,_,rfl,wM,_,_,rfl,rfl,rfl⟩
 ·refine⟨if ok then .tuple #[e.val,.bool true] else e.val,?_,?_⟩
  ·simp [Instr.lookup,run_underlying hm,Go.MapKept.run_getObj_map hb,run_checkKey aw wH,run_findKey aw U,Result.andThen]
  ·cases ok
   ·simpa [l3] using ay
   ·simp only[l3,if_true,Option.getD_some,Option.isSome_some,aP,aR]
    exact⟨_,rfl,_,_,rfl,ay,_,_,rfl,rfl,rfl⟩
theorem look_nil {ty kt ft:TypeId}{s:List UInt8}{z:I}{kZ:Value}(ok:Bool)
  (hm:P.underlying ty=some (.map kt ft)) (aw:P.underlying kt=some .string) (aG:(zeroValue ft).run P m.w= .ok kZ m.w) (wM:aP m z kZ):
  ∃x,(Instr.lookup ty (.map none) (.string ⟨⟨s⟩⟩) ok).run P m.w= .ok x m.w∧aP m (l3 ok z none) x:=by
 have wH:IsKey .string (.string ⟨⟨s⟩⟩):=by simp [IsKey]
 have U:Instr.findNow .string (.string ⟨⟨s⟩⟩) [] 0=some none:=rfl
 refine⟨if ok then .tuple #[kZ,.bool false] else kZ,?_,?_⟩
 ·simp [Instr.lookup,run_underlying hm,run_checkKey aw wH,run_findKey aw U,aG,Result.andThen]
 ·cases ok
  ·simpa [l3] using wM
  ·simp only[l3,if_true,Option.getD_none,Option.isSome_none,aP,aR]
   exact⟨_,rfl,_,_,rfl,wM,_,_,rfl,rfl,rfl⟩
theorem QB {s:List UInt8}{v:I}: ∀ {rows rows':List (List I)},l2 s v rows=some rows'→(∀r∈rows,r.length=2)→∀r∈rows',r.length=2
 |[],rows',h,_=>by
  simp only[l2,Option.some.injEq]at h
  subst h
  simp
 |row::rows,rows',h,aa=>by
  unfold l2 at h
  split at h
  ·cases ‹_:: _=[]›
  ·rename_i k w eV cA
   simp only[List.cons.injEq]at cA
   obtain⟨rfl,rfl⟩:=cA
   by_cases aw:s=k
   ·rw[if_pos aw]at h
    simp only[Option.some.injEq]at h
    subst h
    intro r ac
    rcases List.mem_cons.1 ac with rfl|ac
    ·rfl
    ·exact aa r (by simp [ac])
   ·rw[if_neg aw]at h
    cases bw:l2 s v rows with
    |none=>rw[bw]at h; cases h
    |some q=>
     rw[bw]at h
     simp only[Option.map_some,Option.some.injEq]at h
     subst h
     intro r ac
     rcases List.mem_cons.1 ac with rfl|ac
     ·rfl
     ·exact QB bw (fun r ac=>aa r (by simp [ac])) r ac
  ·cases h
theorem aJ4 (be:b9 m){t ver T:Nat}{rows rows':List (List I)}{v val:Value}{ty kt ft:TypeId}{s:List UInt8}{cQ:I}(ht:m.H.tok t=some (.bb T ver rows)) (ae:aP m (.c6 t ver) v)
  (hm:P.underlying ty=some (.map kt ft)) (aw:P.underlying kt=some .string) (hs:s.length≤maxLen) (zA:aP m cQ val) (jq:val.oneCell'=true) (ac:l2 s cQ rows=some rows'):
  ∃aX,(Instr.mapUpdate ty v (.string ⟨⟨s⟩⟩) val).run P m.w= .ok () aX.w∧b9 aX∧b8 m aX∧aX.H=m.H.cj t (.bb T ver rows'):=by
 obtain⟨dX,aa,b,es,pi,rfl,hb,aC,ao⟩:=Qy be ht ae
 have wH:IsKey .string (.string ⟨⟨s⟩⟩):=by simp [IsKey]
 have jL:(m.L t).e4=some b:=by rw[dX]; rfl
 have main: ∀(wu:Array MapEntry) (zf:Nat) (he:(∀aX,b8 m aX→aR aX rows'.flatten (wu.toList.flatMap mO))) (mC: ∀u∈wu.toList.flatMap mO,u.oneCell'=true),
   b9 (m.gt {m.w with heap:=m.w.heap.setIfInBounds b (.map wu zf)} t (m.L t) (.bb T ver rows'))∧b8 m (m.gt {m.w with heap:=m.w.heap.setIfInBounds b (.map wu zf)} t (m.L t) (.bb T ver rows')):=by
  intro wu zf he mC
  obtain⟨s1,s2⟩:=heap_set (w:=m.w) (o':= .map wu zf) hb
  have g0:Grows0 m {m.w with heap:=m.w.heap.setIfInBounds b (.map wu zf)} t (.bb T ver rows) (m.L t) (.bb T ver rows'):=
   ⟨rfl,rfl,rfl,by simp,fun k aw e3=>s2 k (fun e=>e3 (by rw[jL,e])),fun k c aw aq=>by
    rw[jL]at aw
    cases aw
    simp only[World.cell?,s1,hb],fun k aw=> .inl aw,Nat.le_refl _,rfl,rfl,Nat.le_refl _,fun _=>rfl⟩
  have aI:=b8.gt be ht g0
  exact⟨b9.gt be ht ⟨g0,_,⟨b,wu,zf,dX,s1,rfl⟩,fun q bw=>by
   cases bw
   exact⟨he _ aI,QB ac aa,mC⟩⟩,aI⟩
 rcases Qz s cQ rows es.toList 0 rows' aC ac with ⟨ar,U⟩|⟨j,e,U,bx,ay,ar⟩
 ·obtain⟨cu,cL⟩:=main (es.push {key:= .string ⟨⟨s⟩⟩,val:=val,born:=pi}) (pi+1) (fun aX aI=>by
   rw[ar,List.flatten_append]
   simp only[Array.toList_push,List.flatMap_append]
   refine aR.append (aR.aI aI _ _ aC) ?_
   simp only[List.flatten_cons,List.flatten_nil,List.append_nil,List.flatMap_cons,List.flatMap_nil,mO,aR]
   exact⟨_,_,rfl,by simp only[aP,true_and]; exact hs,_,_,rfl,aP.aI aI _ _ zA,rfl⟩) (fun u hu=>by
   simp only[Array.toList_push,List.flatMap_append,List.mem_append,List.flatMap_cons,List.flatMap_nil,List.append_nil]at hu
   rcases hu with hu|hu
   ·exact ao u hu
   ·simp only[mO,List.mem_cons,List.not_mem_nil,or_false]at hu
    rcases hu with rfl|rfl
    ·rfl
    ·exact jq)
  refine⟨_,?_,cu,cL,rfl⟩
  simp [Instr.mapUpdate,run_underlying hm,Go.MapKept.run_getObj_map hb,run_checkKey aw wH,run_findKey aw U,run_setObj_map _ hb,Result.andThen,Mem.gt]
 ·rw[Nat.zero_add]at U
  have jh:es[j]? =some e:=by simpa using bx
  obtain⟨cu,cL⟩:=main (es.modify j fun cI=>{cI with key:= .string ⟨⟨s⟩⟩,val:=val}) pi (fun aX aI=>by
   rw[ar,Array.toList_modify]
   exact QA hs (aP.aI aI _ _ zA) rows es.toList j aa (aR.aI aI _ _ aC)) (fun u hu=>by
   rw[Array.toList_modify]at hu
   obtain⟨x,ab,hu⟩:=List.mem_flatMap.1 hu
   rw[List.mem_iff_getElem?]at ab
   obtain⟨i,ab⟩:=ab
   rw[List.getElem?_modify]at ab
   cases ad:es.toList[i]? with
   |none=>rw[ad]at ab; cases ab
   |some y=>
    rw[ad]at ab
    simp only[Option.map_eq_map,Option.map_some,Option.some.injEq]at ab
    subst ab
    have aV: ∀u∈mO y,u.oneCell'=true:=fun u hu=>ao u (List.mem_flatMap.2 ⟨y,List.mem_of_getElem? ad,hu⟩)
    by_cases Ee:j=i
    ·rw[if_pos Ee]at hu
     simp only[mO,List.mem_cons,List.not_mem_nil,or_false]at hu
     rcases hu with rfl|rfl
     ·rfl
     ·exact jq
    ·rw[if_neg Ee]at hu
     exact aV u hu)
  refine⟨_,?_,cu,cL,rfl⟩
  simp [Instr.mapUpdate,run_underlying hm,Go.MapKept.run_getObj_map hb,run_checkKey aw wH,run_findKey aw U,jh,ay,run_keyThatStays wH,run_setObj_map _ hb,Result.andThen,Mem.gt]
theorem Qj {t ft:TypeId}(h:Ca P t=some ft): ∃kt,P.underlying t=some (.map kt ft)∧P.underlying kt=some .string:=by
 unfold Ca at h
 split at h
 ·rename_i kt Ba hu
  split at h
  ·rename_i aw
   cases h
   exact⟨kt,hu,aw⟩
  ·cases h
 ·cases h
theorem Qk {t:TypeId}{z:I}(h:Ib P t z=true): ∃kt ft kZ,P.underlying t=some (.map kt ft)∧P.underlying kt=some .string∧(zeroValue ft).run P m.w= .ok kZ m.w∧aP m z kZ:=by
 unfold Ib at h
 cases aw:Ca P t with
 |none=>rw[aw]at h; cases h
 |some ft=>
  rw[aw]at h
  simp only at h
  obtain⟨kt,U,aa⟩:=Qj aw
  cases ad:P.info? ft with
  |none=>rw[ad]at h; simp at h
  |some i=>
   rw[ad]at h
   cases aG:i.zero with
   |none=>simp [aG]at h
   |some kZ=>
    refine⟨kt,ft,kZ,U,aa,?_,?_⟩
    ·simp [zeroValue,typeInfo,ad,aG,Result.andThen]
    ·simp only[Option.bind_some,aG]at h
     cases kZ<;>simp only[Bool.false_eq_true]at h
     all_goals
      cases z<;>simp only[Bool.false_eq_true]at h
      simp_all [aP]
theorem Z6 {ty x k ok yo z c9 fO t ver T s r}{rows:List (List I)}(he:eA m env a.tmps) (be:b9 m) (ao:o.op= .lookup ty x k ok) (h:bo P o.op (.ji yo z c9 fO)=true) (ar:c9.aI env= .c6 t ver) (ht:m.H.tok t=some (.bb T ver rows)) (ax:fO.aI env= .str s) (ac:ny s rows=some r):gu P m a o (l3 yo z r):=by
 rw[ao]at h
 simp only[bo,Bool.and_eq_true,decide_eq_true_eq]at h
 obtain⟨⟨⟨rfl,U⟩,aa⟩,ay⟩:=h
 have ab:=dy he U
 have aw:=dy he aa
 rw[ar]at ab
 rw[ax]at aw
 simp only[aP]at aw
 obtain⟨kt,ft,kZ,g1,g2,g3,g4⟩:=Qk (m:=m) ay
 obtain⟨y,g5,g6⟩:=aB3 (P:=P) be ok ht ab g1 g2 g3 g4 ac
 exact⟨y,by simp [execOp,ao,aw.1,g5],g6⟩
theorem Z7 {ty x k ok yo z c9 fO s}(he:eA m env a.tmps) (ao:o.op= .lookup ty x k ok) (h:bo P o.op (.ji yo z c9 fO)=true) (ar:c9.aI env= .ev (.map none)) (ax:fO.aI env= .str s):gu P m a o (l3 yo z none):=by
 rw[ao]at h
 simp only[bo,Bool.and_eq_true,decide_eq_true_eq]at h
 obtain⟨⟨⟨rfl,U⟩,aa⟩,ay⟩:=h
 have ab:=dy he U
 have aw:=dy he aa
 rw[ar]at ab
 rw[ax]at aw
 simp only[aP]at aw ab
 obtain⟨kt,ft,kZ,g1,g2,g3,g4⟩:=Qk (m:=m) ay
 obtain⟨y,g5,g6⟩:=look_nil (P:=P) (m:=m) (s:=s) ok g1 g2 g3 g4
 exact⟨y,by simp [execOp,ao,aw.1,ab,g5],g6⟩
end
end Go.aO
