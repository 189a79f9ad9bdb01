/- Part of a proof; own work. -/
import Derived.WalkKit
import Derived.Recover
import Derived.Lib.Strings
import Derived.Lib.SmallJoins
import Derived.MapKept
set_option linter.unusedVariables false
set_option linter.unusedSimpArgs false
open Array renaming toList_map→bm6,length_toList→bg4,getElem?_append→bq9,size_append→bm1,toList_append→br8
open Bool renaming and_eq_true→bb6,false_ne_true→br9,and_true→be0,false_eq_true→bd5
open List renaming cons_append→bd2,take_succ_cons→bg0,set_cons_zero→bh5,set_cons_succ→bi2,length_append→bb7,length_cons→bb9,getElem?_append_left→bh0,getElem?_append_right→bj1,flatten_cons→bd0,take_left→bo9,drop_left→bp0,getElem?_take→be8,getElem?_drop→bj0,replicate→bc9,drop_take→bq6,map_nil→bg5,map_cons→bd4,all_eq_true→bj8,getElem?_of_mem→bf4,getElem?_eq_getElem→bd1,all_cons→bd3,all_nil→bk2,drop_eq_nil_of_le→bc6,drop_drop→bm5,length_drop→bl7,flatten_nil→be3,nil_append→bd6,length_nil→bc4,length_map→bb5,eq_nil_of_length_eq_zero→be2,size_toArray→bi6,mem_of_getElem?→bc2,replicate_succ→bi4,append_assoc→bc8,flatten_append→bm8,getElem?_toArray→bl8,drop_append_of_le_length→bj4,mem_append→bf7,mem_of_mem_take→bm3,mem_of_mem_drop→bp3,take_length_add_append→bp1,take_zero→bg2,flatMap_cons→bk6,append_nil→bd8,mem_cons→be4,not_mem_nil→bh8,length_take→be9
open Nat renaming le_refl→bc1,le_trans→bg1,lt_of_lt_of_le→bi1,add_mul→bf3,blt→bf8,zero_le→bc3,mul_le_mul_right→bf9,ble→be1,le_of_ble_eq_true→bh6,add_comm→bl1,add_assoc→bj2,zero_add→bf6,add_zero→bk3,le_add_right→bp5,le_succ→bm9,add_le_add_left→bn0,zero_mul→bq0,reduceBEq→bl3,reduceAdd→bl4
open Option renaming none→bl0,map_some→bf0,getD_none→bh7,isSome_none→bg9
namespace Go.ba
open Go
def yM:List (Nat×(Obj→Prop)):=[
 (0,fun nE=> ∃T o6,nE= .cells (((List.range 20).map fun i=>((10^i:Nat):Int)).map fun z=>Value.int .u64 z).toArray T o6)]
def l7 (w:World):Prop:=∀p∈yM,∃nE,w.heap[p.1]? =some nE∧p.2 nE
def jp:Nat:=1000000
def qD (f:FuncId) (l:List Value):Value:=if f<jp then .func (.func f) #[] ⟨l⟩ else .func (.func (f-jp)) ⟨l⟩ #[]
theorem vf {f:FuncId}(h:f<jp) (l:List Value):qD f l= .func (.func f) #[] ⟨l⟩:=if_pos h
theorem Mr (f:FuncId) (l:List Value):qD (f+jp) l= .func (.func f) ⟨l⟩ #[]:=by
 unfold qD
 rw[if_neg (Nat.not_lt.2 (Nat.le_add_left jp f)),Nat.add_sub_cancel]
inductive I where
 |eD
 |bool (b:Bool)
 |int (k:IntKind) (n:Int)
 |str (s:List UInt8)
 |dV (v:Value)
 |ptr (b o:Nat)
 |agg (cs:List I)
 |c3 (cs:List I)
 |aq (size:Nat) (rows:List (List I))
 |own (t:Nat) (size:Nat) (rows:List (List I))
 |cV (t aU:Nat)
 |mp (t aU k:Nat)
 |ed (row:List I) (off:Nat)
 |fn (f:FuncId) (cap:List I)
 |hW (t:TypeId) (v:I)
structure bM where
 ty:TypeId
 size:Nat
 n:Nat
 aU:Nat
 lu:Option (List (List I))
def bM.len (i:bM):Nat:=match i.lu with|none=>i.n|some rows=>rows.length
structure aA where
 aY:Nat→Option (TypeId×List I)
 tok:Nat→Option bM
def aA.none:aA:=⟨fun _=>bl0,fun _=>bl0⟩
def aA.cp (H:aA) (b:Nat) (T:TypeId) (cs:List I):aA:={H with aY:=fun x=>if x=b then some (T,cs) else H.aY x}
def aA.o5 (H:aA) (b:Nat):aA:={H with aY:=fun x=>if x=b then bl0 else H.aY x}
def aA.ck (H:aA) (t:Nat) (o:bM):aA:={H with tok:=fun x=>if x=t then some o else H.tok x}
def _root_.Go.Value.ew:Value→Option Nat
 | .slice (some a) _ _=>some a.block
 | .map (some b)=>some b
 | _=>bl0
def _root_.Go.World.zL (w:World) (e:TypeId) (size:Nat) (v:Value) (n:Nat) (xs:List Value):Prop:=
 xs.length=n*size∧((v= .slice none 0 0∧n=0)∨∃g p cap cur,v= .slice (some ⟨g,p,none⟩) n cap∧w.heap[g]? =some (.cells cur e (0,0))∧n≤cap∧cap≤maxLen∧p+cap*size≤cur.size∧(cur.toList.drop p).take (n*size)=xs)
def _root_.Go.World.qU (w:World) (i:bM) (v:Value) (xs:List Value):Prop:=
 match i.lu with
 |bl0=>w.ownsRow 0 i.ty i.size v i.len xs
 |some _=>match i.n with
  |0=>w.zL i.ty i.size v i.len xs
  | _+1=> ∃b es nS,v= .map (some b)∧w.heap[b]? =some (.map es nS)∧xs=es.toList.flatMap fun e=>[e.key,e.val]
structure Mem where
 w:World
 H:aA
 L:Nat→Value
 T:Nat
structure l9 (m:Mem) (b o:Nat):Prop where
 lt:b<m.w.heap.size
 aY:m.H.aY b=bl0
 tok: ∀t i,m.H.tok t=some i→(m.L t).ew=some b→o<i.n*i.size
mutual
def aP (m:Mem):I→Value→Prop
 | .eD,_=>True
 | .bool b,v=>v= .bool b
 | .int k n,v=>v= .int k n
 | .str s,v=>v= .string ⟨⟨s⟩⟩∧s.length≤maxLen
 | .dV x,v=>v=x
 | .ptr b o,v=>v= .pointer (some ⟨b,o,none⟩)
 | .agg cs,v=> ∃l,v= .agg ⟨l⟩∧aR m cs l
 | .c3 cs,v=> ∃l,v= .tuple ⟨l⟩∧aR m cs l
 | .aq size rows,v=> ∃a len cap,v= .slice a len cap∧len=rows.length∧(len≤cap∧cap≤maxLen)∧(rows.length=0∨∃b o,a=some ⟨b,o,none⟩∧dK m size rows b o)
 | .own t size rows,v=>(∃a len cap,v= .slice a len cap∧len=rows.length∧(len≤cap∧cap≤maxLen)∧(rows.length=0∨∃b o,a=some ⟨b,o,none⟩∧dK m size rows b o))∧t<m.T∧(∀i,m.H.tok t=some i→rows.length≤i.aU∧(i.aU=rows.length→m.L t=v∧i.size=size))
 | .cV t aU,v=>v.oneCell'=true∧t<m.T∧(∀i,m.H.tok t=some i→aU≤i.aU∧(i.aU=aU→m.L t=v))
 | .mp t aU k,v=>v.oneCell'=true∧t<m.T∧(∀i,m.H.tok t=some i→aU≤i.aU∧(i.aU=aU→∃b p len cap,m.L t= .slice (some ⟨b,p,none⟩) len cap∧v= .pointer (some ⟨b,p+k,none⟩)))
 | .ed row off,v=> ∃b o,v= .pointer (some ⟨b,o+off,none⟩)∧eS m row b o
 | .fn f cap,v=> ∃l,v=qD f l∧aR m cap l
 | .hW t a,v=> ∃x,v= .iface t x∧aP m a x
def aR (m:Mem):List I→List Value→Prop
 |[],l=>l=[]
 |a::az,l=> ∃v aq,l=v::aq∧aP m a v∧aR m az aq
def eS (m:Mem):List I→Nat→Nat→Prop
 |[],_,_=>True
 |a::az,b,o=>(∃v,m.w.cell? ⟨b,o,none⟩=some v∧v.oneCell'=true∧l9 m b o∧aP m a v)∧eS m az b (o+1)
def dK (m:Mem) (size:Nat):List (List I)→Nat→Nat→Prop
 |[],_,_=>True
 |r::aQ,b,o=>r.length=size∧eS m r b o∧dK m size aQ b (o+size)
end
structure bV (m aX:Mem):Prop where
 os:aX.w.os=m.w.os
 tape:aX.w.tape=m.w.tape
 output:aX.w.output=m.w.output
 size:m.w.heap.size≤aX.w.heap.size
 T:m.T≤aX.T
 block: ∀b,b<m.w.heap.size→m.H.aY b=bl0→(∀t i,m.H.tok t=some i→(m.L t).ew≠some b)→aX.w.heap[b]? =m.w.heap[b]? ∧aX.H.aY b=bl0∧(∀t i,aX.H.tok t=some i→(aX.L t).ew≠some b)
 cell: ∀b o,l9 m b o→l9 aX b o∧aX.w.cell? ⟨b,o,none⟩=m.w.cell? ⟨b,o,none⟩
 tok: ∀t dh,t<m.T→aX.H.tok t=some dh→∃i,m.H.tok t=some i∧i.aU≤dh.aU∧dh.size=i.size∧(dh.aU=i.aU→aX.L t=m.L t)
theorem bV.refl (m:Mem):bV m m:=⟨rfl,rfl,rfl,bc1 _,bc1 _,fun _ _ h hU=>⟨rfl,h,hU⟩,fun _ _ h=>⟨h,rfl⟩,fun _ dh _ h=>⟨dh,h,bc1 _,rfl,fun _=>rfl⟩⟩
theorem bV.trans {a b c:Mem}(h:bV a b) (k:bV b c):bV a c where
 os:=k.os.trans h.os
 tape:=k.tape.trans h.tape
 output:=k.output.trans h.output
 size:=bg1 h.size k.size
 T:=bg1 h.T k.T
 block:=fun x ab hb aL=>by
  obtain⟨ap,ay,b1⟩:=h.block x ab hb aL
  obtain⟨f1,f2,f3⟩:=k.block x (bi1 ab h.size) ay b1
  exact⟨f1.trans ap,f2,f3⟩
 cell:=fun x o ao=>by
  obtain⟨ap,ay⟩:=h.cell x o ao
  obtain⟨f1,f2⟩:=k.cell x o ap
  exact⟨f1,f2.trans ay⟩
 tok:=fun t ah8 aL af=>by
  obtain⟨dh,U,aa,aD,bA⟩:=k.tok t ah8 (bi1 aL h.T) af
  obtain⟨i,g1,g2,g3,g4⟩:=h.tok t dh aL U
  refine⟨i,g1,bg1 g2 aa,aD.trans g3,fun e=> ?_⟩
  rw[bA (by omega),g4 (by omega)]
mutual
theorem aP.aI {m aX:Mem}(e:bV m aX): ∀(a:I) (v:Value),aP m a v→aP aX a v
 | .eD,_,_=>by simp only[aP]
 | .bool _,_,h=>by simp only[aP]at*; exact h
 | .int _ _,_,h=>by simp only[aP]at*; exact h
 | .str _,_,h=>by simp only[aP]at*; exact h
 | .dV _,_,h=>by simp only[aP]at*; exact h
 | .ptr _ _,_,h=>by simp only[aP]at*; exact h
 | .agg cs,_,h=>by simp only[aP]at*; obtain⟨l,ap,ay⟩:=h; exact⟨l,ap,aR.aI e cs l ay⟩
 | .c3 cs,_,h=>by simp only[aP]at*; obtain⟨l,ap,ay⟩:=h; exact⟨l,ap,aR.aI e cs l ay⟩
 | .aq size rows,_,h=>by
  simp only[aP]at*
  obtain⟨a,len,cap,U,aa,aD,bA⟩:=h
  exact⟨a,len,cap,U,aa,aD,bA.imp id fun⟨b,o,g1,g2⟩=>⟨b,o,g1,dK.aI e size rows b o g2⟩⟩
 | .own t size rows,_,h=>by
  simp only[aP]at*
  obtain⟨⟨a,len,cap,U,aa,aD,bA⟩,b6,dx⟩:=h
  refine⟨⟨a,len,cap,U,aa,aD,bA.imp id fun⟨b,o,g1,g2⟩=>⟨b,o,g1,dK.aI e size rows b o g2⟩⟩,bi1 b6 e.T,fun i af=> ?_⟩
  obtain⟨i0,br,bB,cu,eO⟩:=e.tok t i b6 af
  obtain⟨jy,cm⟩:=dx i0 br
  refine⟨by omega,fun a1=> ?_⟩
  obtain⟨cm,cA⟩:=cm (by omega)
  exact⟨(eO (by omega)).trans cm,cu.trans cA⟩
 | .cV t aU,_,h=>by
  simp only[aP]at*
  obtain⟨aW,b6,dx⟩:=h
  refine⟨aW,bi1 b6 e.T,fun i af=> ?_⟩
  obtain⟨i0,br,bB,cu,eO⟩:=e.tok t i b6 af
  obtain⟨jy,cm⟩:=dx i0 br
  exact⟨by omega,fun a1=>(eO (by omega)).trans (cm (by omega))⟩
 | .mp t aU k,_,h=>by
  simp only[aP]at*
  obtain⟨aW,b6,dx⟩:=h
  refine⟨aW,bi1 b6 e.T,fun i af=> ?_⟩
  obtain⟨i0,br,bB,cu,eO⟩:=e.tok t i b6 af
  obtain⟨jy,cm⟩:=dx i0 br
  refine⟨by omega,fun a1=> ?_⟩
  obtain⟨b,p,len,cap,g1,g2⟩:=cm (by omega)
  exact⟨b,p,len,cap,(eO (by omega)).trans g1,g2⟩
 | .ed row off,_,h=>by
  simp only[aP]at*
  obtain⟨b,o,U,aa⟩:=h
  exact⟨b,o,U,eS.aI e row b o aa⟩
 | .fn f cs,_,h=>by simp only[aP]at*; obtain⟨l,ap,ay⟩:=h; exact⟨l,ap,aR.aI e cs l ay⟩
 | .hW t a,_,h=>by simp only[aP]at*; obtain⟨x,ap,ay⟩:=h; exact⟨x,ap,aP.aI e a x ay⟩
theorem aR.aI {m aX:Mem}(e:bV m aX): ∀(az:List I) (l:List Value),aR m az l→aR aX az l
 |[],_,h=>by simp only[aR]at*; exact h
 |a::az,_,h=>by simp only[aR]at*; obtain⟨v,aq,U,aa,aD⟩:=h; exact⟨v,aq,U,aP.aI e a v aa,aR.aI e az aq aD⟩
theorem eS.aI {m aX:Mem}(e:bV m aX): ∀(az:List I) (b o:Nat),eS m az b o→eS aX az b o
 |[],_,_,_=>by simp only[eS]
 |a::az,b,o,h=>by
  simp only[eS]at*
  obtain⟨⟨v,U,tM,aa,aD⟩,bA⟩:=h
  obtain⟨s1,s2⟩:=e.cell b o aa
  exact⟨⟨v,s2.trans U,tM,s1,aP.aI e a v aD⟩,eS.aI e az b (o+1) bA⟩
theorem dK.aI {m aX:Mem}(e:bV m aX) (size:Nat): ∀(aQ:List (List I)) (b o:Nat),dK m size aQ b o→dK aX size aQ b o
 |[],_,_,_=>by simp only[dK]
 |r::aQ,b,o,h=>by
  simp only[dK]at*
  exact⟨h.1,eS.aI e r b o h.2.1,dK.aI e size aQ b (o+size) h.2.2⟩
end
def C5 (m:Mem):Prop:=∀p∈yM,m.H.aY p.1=bl0∧∀t i,m.H.tok t=some i→(m.L t).ew≠some p.1
theorem pF.aI {m aX:Mem}(e:bV m aX) (h:l7 m.w) (k:C5 m):l7 aX.w∧C5 aX:=by
 have key: ∀p∈yM,(∃nE,aX.w.heap[p.1]? =some nE∧p.2 nE)∧aX.H.aY p.1=bl0∧∀t i,aX.H.tok t=some i→(aX.L t).ew≠some p.1:=by
  intro p hp
  obtain⟨nE,U,aa⟩:=h p hp
  obtain⟨br,bB⟩:=k p hp
  obtain⟨ap,ay,b1⟩:=e.block p.1 (Array.getElem?_eq_some_iff.1 U).1 br bB
  exact⟨⟨nE,ap.trans U,aa⟩,ay,b1⟩
 exact⟨fun p hp=>(key p hp).1,fun p hp=>(key p hp).2⟩
structure bW (m:Mem):Prop where
 aY: ∀b T cs,m.H.aY b=some (T,cs)→∃l,m.w.heap[b]? =some (.cells ⟨l⟩ T (0,0))∧aR m cs l∧∀v∈l,v.oneCell'=true
 tok: ∀t i,m.H.tok t=some i→t<m.T∧i.size≠0∧(∃xs,m.w.qU i (m.L t) xs∧∀rows,i.lu=some rows→aR m rows.flatten xs∧(∀r∈rows,r.length=i.size)∧∀v∈xs,v.oneCell'=true)∧(∀b,(m.L t).ew=some b→m.H.aY b=bl0∧∀dv dh,m.H.tok dv=some dh→(m.L dv).ew=some b→dv=t)
 kZ:l7 m.w
 k0:C5 m
theorem aR.length {m:Mem}: ∀ {az:List I}{l:List Value},aR m az l→l.length=az.length
 |[],_,h=>by simp only[aR]at h; subst h; rfl
 |a::az,_,h=>by simp only[aR]at h; obtain⟨v,aq,rfl,_,aa⟩:=h; simp [aR.length aa]
theorem aR.get {m:Mem}: ∀ {az:List I}{l:List Value}(_:aR m az l) (i:Nat) (a:I),az[i]? =some a→∃v,l[i]? =some v∧aP m a v
 |[],_,_,_,_,h=>by simp at h
 |a::az,_,h,0,x,ab=>by simp only[aR]at h; obtain⟨v,aq,rfl,U,aa⟩:=h; simp at ab; subst ab; exact⟨v,rfl,U⟩
 |a::az,_,h,i+1,x,ab=>by simp only[aR]at h; obtain⟨v,aq,rfl,U,aa⟩:=h; simp at ab; obtain⟨bD,ap,ay⟩:=aR.get aa i x ab; exact⟨bD,by simpa using ap,ay⟩
theorem aR.append {m:Mem}: ∀ {az:List I}{l:List Value}{ca:List I}{bZ:List Value}(_:aR m az l) (_:aR m ca bZ),aR m (az++ca) (l++bZ)
 |[],_,_,_,h,k=>by simp only[aR]at h; subst h; simpa using k
 |a::az,_,_,_,h,k=>by simp only[aR]at h; obtain⟨v,aq,rfl,U,aa⟩:=h; simp only[bd2,aR]; exact⟨v,_,rfl,U,aR.append aa k⟩
theorem aR.drop {m:Mem}: ∀(n:Nat){az:List I}{l:List Value}(_:aR m az l),aR m (az.drop n) (l.drop n)
 |0,_,_,h=>by simpa using h
 |n+1,[],_,h=>by simp only[aR]at h; subst h; simp [aR]
 |n+1,a::az,_,h=>by simp only[aR]at h; obtain⟨v,aq,rfl,U,aa⟩:=h; simpa using aR.drop n aa
theorem aR.take {m:Mem}: ∀(n:Nat){az:List I}{l:List Value}(_:aR m az l),aR m (az.take n) (l.take n)
 |0,_,_,_=>by simp [aR]
 |n+1,[],_,h=>by simp only[aR]at h; subst h; simp [aR]
 |n+1,a::az,_,h=>by simp only[aR]at h; obtain⟨v,aq,rfl,U,aa⟩:=h; simp only[bg0,aR]; exact⟨v,_,rfl,U,aR.take n aa⟩
theorem aR.set {m:Mem}: ∀(n:Nat){az:List I}{l:List Value}(_:aR m az l){a:I}{v:Value},aP m a v→aR m (az.set n a) (l.set n v)
 | _,[],_,h,_,_,_=>by simp only[aR]at h; subst h; simp [aR]
 |0,a::az,_,h,_,_,ad=>by simp only[aR]at h; obtain⟨v,aq,rfl,U,aa⟩:=h; simp only[bh5,aR]; exact⟨_,_,rfl,ad,aa⟩
 |n+1,a::az,_,h,_,_,ad=>by simp only[aR]at h; obtain⟨v,aq,rfl,U,aa⟩:=h; simp only[bi2,aR]; exact⟨_,_,rfl,U,aR.set n aa ad⟩
theorem eS.get {m:Mem}: ∀ {az:List I}{b o:Nat}(_:eS m az b o) (i:Nat) (a:I),az[i]? =some a→∃v,m.w.cell? ⟨b,o+i,none⟩=some v∧v.oneCell'=true∧l9 m b (o+i)∧aP m a v
 |[],_,_,_,_,_,h=>by simp at h
 |a::az,b,o,h,0,x,ab=>by simp only[eS]at h; simp at ab; subst ab; exact h.1
 |a::az,b,o,h,i+1,x,ab=>by
  simp only[eS]at h
  simp at ab
  obtain⟨v,e⟩:=eS.get h.2 i x ab
  rw[show o+(i+1)=o+1+i by omega]
  exact⟨v,e⟩
theorem dK.get {m:Mem}{size:Nat}: ∀ {aQ:List (List I)}{b o:Nat}(_:dK m size aQ b o) (i:Nat) (r:List I),aQ[i]? =some r→r.length=size∧eS m r b (o+i*size)
 |[],_,_,_,_,_,h=>by simp at h
 |r::aQ,b,o,h,0,x,ab=>by simp only[dK]at h; simp at ab; subst ab; simpa using ⟨h.1,h.2.1⟩
 |r::aQ,b,o,h,i+1,x,ab=>by
  simp only[dK]at h
  simp at ab
  have:=dK.get h.2.2 i x ab
  rwa [show o+size+i*size=o+(i+1)*size by rw[bf3]; omega]at this
theorem dK.drop {m:Mem}{size:Nat}: ∀(n:Nat){aQ:List (List I)}{b o:Nat},dK m size aQ b o→dK m size (aQ.drop n) b (o+n*size)
 |0,_,_,_,h=>by simpa using h
 |n+1,[],_,_,_=>by simp [dK]
 |n+1,r::aQ,b,o,h=>by
  simp only[dK]at h
  have:=dK.drop n h.2.2
  rw[List.drop_succ_cons]
  rwa [show o+size+n*size=o+(n+1)*size by rw[bf3]; omega]at this
theorem dK.take {m:Mem}{size:Nat}: ∀(n:Nat){aQ:List (List I)}{b o:Nat},dK m size aQ b o→dK m size (aQ.take n) b o
 |0,_,_,_,_=>by simp [dK]
 |n+1,[],_,_,_=>by simp [dK]
 |n+1,r::aQ,b,o,h=>by
  simp only[dK]at h
  simp only[bg0,dK]
  exact⟨h.1,h.2.1,dK.take n h.2.2⟩
theorem eS.wk {m:Mem}: ∀ {az:List I}{b o:Nat},eS m az b o→∃l,aR m az l∧(∀j v,l[j]? =some v→m.w.cell? ⟨b,o+j,none⟩=some v∧v.oneCell'=true)
 |[],_,_,_=>⟨[],by simp [aR],by simp⟩
 |a::az,b,o,h=>by
  simp only[eS]at h
  obtain⟨⟨v,U,tM,_,aD⟩,bA⟩:=h
  obtain⟨l,ap,ay⟩:=eS.wk bA
  refine⟨v::l,by simp only[aR]; exact⟨v,l,rfl,aD,ap⟩,fun j u bm=> ?_⟩
  cases j with
  |zero=>simp at bm; subst bm; exact⟨U,tM⟩
  |succ j=>simp at bm; have:=ay j u bm; rwa [show o+1+j=o+(j+1) by omega]at this
theorem dK.wk {m:Mem}{size:Nat}: ∀ {aQ:List (List I)}{b o:Nat},dK m size aQ b o→∃l,aR m aQ.flatten l∧l.length=aQ.length*size∧(∀j v,l[j]? =some v→m.w.cell? ⟨b,o+j,none⟩=some v∧v.oneCell'=true)
 |[],_,_,_=>⟨[],by simp [aR],by simp,by simp⟩
 |r::aQ,b,o,h=>by
  simp only[dK]at h
  obtain⟨U,aa,aD⟩:=h
  obtain⟨l,ap,ay⟩:=eS.wk aa
  obtain⟨bZ,f1,f2,f3⟩:=dK.wk aD
  have aG:l.length=size:=(aR.length ap).trans U
  refine⟨l++bZ,by simpa using aR.append ap f1,by rw[bb7,f2,aG,bb9,bf3]; omega,fun j u bm=> ?_⟩
  by_cases jh:j<l.length
  ·rw[bh0 jh]at bm
   exact ay j u bm
  ·rw[bj1 (by omega)]at bm
   have:=f3 _ u bm
   rwa [show o+size+(j-l.length)=o+j by omega]at this
theorem eS.of {m:Mem}: ∀ {az:List I}{l:List Value}{b o:Nat},aR m az l→(∀j v,l[j]? =some v→m.w.cell? ⟨b,o+j,none⟩=some v∧v.oneCell'=true∧l9 m b (o+j))→eS m az b o
 |[],_,_,_,_,_=>by simp only[eS]
 |a::az,l,b,o,h,k=>by
  simp only[aR]at h
  obtain⟨v,aq,rfl,U,aa⟩:=h
  simp only[eS]
  refine⟨⟨v,(k 0 v rfl).1,(k 0 v rfl).2.1,(k 0 v rfl).2.2,U⟩,eS.of aa fun j u bm=> ?_⟩
  have:=k (j+1) u (by simpa using bm)
  rwa [show o+(j+1)=o+1+j by omega]at this
theorem dK.of {m:Mem}{size:Nat}: ∀ {aQ:List (List I)}{l:List Value}{b o:Nat},(∀r∈aQ,r.length=size)→aR m aQ.flatten l→(∀j v,l[j]? =some v→m.w.cell? ⟨b,o+j,none⟩=some v∧v.oneCell'=true∧l9 m b (o+j))→dK m size aQ b o
 |[],_,_,_,_,_,_=>by simp only[dK]
 |r::aQ,l,b,o,ao,h,k=>by
  simp only[bd0]at h
  have ac:r.length=size:=ao r (by simp)
  have U:=aR.take r.length h
  have aa:=aR.drop r.length h
  simp only[bo9]at U
  simp only[bp0]at aa
  simp only[dK]
  refine⟨ac,eS.of U fun j v bm=>k j v ?_,dK.of (fun x ab=>ao x (by simp [ab])) aa fun j v bm=> ?_⟩
  ·rw[be8]at bm
   split at bm
   ·exact bm
   ·cases bm
  ·rw[bj0]at bm
   have:=k _ v bm
   rwa [show o+(r.length+j)=o+size+j by omega]at this
abbrev I.bi:I:= .dV (.slice none 0 0)
abbrev I.undef:I:= .dV Go.undef
def c5 (a b:I):Prop:=∀m v,aP m a v→aP m b v
def dZ:List I→List I→Prop
 |[],l=>l=[]
 |a::az,l=> ∃b ca,l=b::ca∧c5 a b∧dZ az ca
inductive aJ where
 |t (n:Nat)
 |c (a:I)
abbrev Env:=List (Nat×I)
def Env.get:Env→Nat→I
 |[],_=> .eD
 |(k,v)::e,j=>bif k==j then v else Env.get e j
def Env.put (e:Env):Option Nat→I→Env
 |none,_=>e
 |some k,v=>(k,v)::e
def aJ.aI (env:Env):aJ→I
 | .t n=>env.get n
 | .c a=>a
inductive l8 where
 |b
 |i (k:IntKind)
 |s
 deriving DecidableEq
inductive bc where
 |gI (x:aJ)
 |pick (c a b:aJ)
 |gn (x:aJ)
 |box (T:TypeId) (x:aJ)
 |alloc (T:TypeId) (zero:List I)
 |build (zero:List I) (parts:List (Nat×Nat×aJ))
 |et (T size n:Nat) (zero:List I) (parts:List (Nat×aJ))
 |lr (T size n:Nat) (zero:List I) (parts:List (Nat×aJ))
 |load (agg:Bool) (n:Nat) (x:aJ)
 |gb (e3:Nat) (agg:Bool) (n:Nat) (x:aJ)
 |qP (agg:Bool) (n:Nat) (x:aJ)
 |store (n:Nat) (a v:aJ)
 |nZ (off:Nat) (x:aJ)
 |field (agg:Bool) (off n:Nat) (x:aJ)
 |hV (size:Nat) (x i:aJ)
 |mS (len size:Nat) (x i:aJ)
 |jw (agg:Bool) (len size:Nat) (x i:aJ)
 |fQ (x i:aJ)
 |bin (op:BinOp) (x y:aJ)
 |qq (op:BinOp) (x y:aJ)
 |nX (neg:Bool) (T:TypeId) (bH:List l8) (x y:aJ)
 |not (x:aJ)
 |neg (x:aJ)
 |conv (k:IntKind) (x:aJ)
 |iV (x:aJ)
 |len (x:aJ)
 |p1 (n:Nat)
 |kf (lU:Bool) (xs:List aJ)
 |append (T size bytes:Nat) (x y:aJ)
 |iB (x:aJ) (b3 af:Option aJ)
 |gJ (size:Nat) (x:aJ) (b3 af lX:Option aJ)
 |nT (int:Bool) (x:aJ)
 |jP (T:TypeId) (x:aJ)
 |xT (len size:Nat) (x:aJ)
 |sO (f:FuncId) (cap:List aJ)
 |extract (i:Nat) (x:aJ)
 |jJ (f:FuncId) (cap:List aJ)
 |pj (T:TypeId) (x:aJ)
 |call (f:FuncId) (args:List aJ)
 |gj (x:aJ) (args:List aJ)
 |gP (others:List Nat) (f:FuncId) (args:List aJ)
 |kT (others:List Nat) (x:aJ) (args:List aJ)
 |jj (f:FuncId) (args:List aJ)
 |j3 (x:aJ) (args:List aJ)
 |vV (f:FuncId) (args:List aJ) (r:I)
 |vW (x:aJ) (args:List aJ) (r:I)
 |panic (x:aJ)
 |gK (e3:Nat) (others:List Nat) (n:Nat) (a v:aJ)
 |pd (neg:Bool) (x:aJ)
 |qV (neg:Bool) (x:aJ)
 |nC (T size bytes:Nat) (zero:List I) (x:aJ)
 |js (off:Nat) (x:aJ)
 |iU (x:aJ)
 |mkMap (T:TypeId)
 |iv (ok:Bool) (z:I) (x k:aJ)
 |nB (x k v:aJ)
 |iJ (size:Nat) (x i:aJ)
 |ji (agg:Bool) (n:Nat) (x:aJ)
 |mJ (T size bytes:Nat) (x y:aJ)
 |mZ (size:Nat) (x:aJ) (b3 af:Option aJ)
 |ma (T size n:Nat) (zero:List I) (parts:List (Nat×aJ))
 |rX (T size:Nat) (f:FuncId) (args:List aJ)
 |xH (T size:Nat) (f:FuncId) (args:List aJ) (rows:List (List I))
def I.one:I→Bool
 | .agg _=>false
 | .c3 _=>false
 | .eD=>false
 | .dV v=>v.oneCell'
 | _=>true
def I.cells:I→List I
 | .agg cs=>cs
 |a=>[a]
def I.ea:I→Bool
 | .agg _=>true
 |a=>a.one
def I.iA (agg:Bool) (l:List I):Option I:=
 bif agg then some (.agg l) else match l with
  |[a]=>some a
  | _=>none
def qs (op:BinOp) (k:IntKind) (a b:Int):Option I:=
 match op with
 | .add=>some (.int k (k.wrap (a+b)))
 | .sub=>some (.int k (k.wrap (a-b)))
 | .mul=>some (.int k (k.wrap (a*b)))
 | .eql=>some (.bool (decide (a=b)))
 | .neq=>some (.bool (!decide (a=b)))
 | .lss=>some (.bool (decide (a<b)))
 | .leq=>some (.bool (decide (a≤b)))
 | .gtr=>some (.bool (decide (b<a)))
 | .geq=>some (.bool (decide (b≤a)))
 | .and=>some (.int k (k.wrap (BitVec.ofInt k.bits a&&& BitVec.ofInt k.bits b).toNat))
 | .or=>some (.int k (k.wrap (BitVec.ofInt k.bits a|||BitVec.ofInt k.bits b).toNat))
 | .xor=>some (.int k (k.wrap (BitVec.ofInt k.bits a^^^BitVec.ofInt k.bits b).toNat))
 | .shl=>if 0≤b then some (.int k (k.wrap (a*2^(min b.toNat k.bits)))) else none
 | .shr=>if 0≤b then some (.int k (a.fdiv (2^(min b.toNat k.bits)))) else none
 | _=>none
def uv (op:BinOp) (k:IntKind) (a b:Int):Option I:=
 match op with
 | .shl=>if 0≤b then some (.int k (k.wrap (a*2^(min b.toNat k.bits)))) else none
 | .shr=>if 0≤b then some (.int k (a.fdiv (2^(min b.toNat k.bits)))) else none
 | _=>none
def kS:List (List I)→Option (List UInt8)
 |[]=>some []
 |[.int .u8 n]::aQ=>match kS aQ with
  |some l=>some (UInt8.ofNat n.toNat::l)
  |none=>none
 | _=>none
def jK (env:Env) (DZ:Nat):Option aJ→Option Nat
 |none=>some DZ
 |some x=>match x.aI env with
  | .int _ (.ofNat n)=>some n
  | _=>none
def so (op:BinOp) (a b:List UInt8):Option I:=
 match op with
 | .eql=>some (.bool (decide (a=b)))
 | .neq=>some (.bool (!decide (a=b)))
 | .lss=>some (.bool (Go.Op.bytesLess a b))
 | .leq=>some (.bool (Go.Op.bytesLess a b||decide (a=b)))
 | .gtr=>some (.bool (!(Go.Op.bytesLess a b||decide (a=b))))
 | .geq=>some (.bool (!Go.Op.bytesLess a b))
 | _=>none
def tn (op:BinOp) (a b:Bool):Option I:=
 match op with
 | .eql=>some (.bool (a==b))
 | .neq=>some (.bool (!(a==b)))
 | _=>none
def nY:l8→I→I→Option Bool
 | .i l,.int k a,.int j b=>if k=l∧j=l then some (decide (a=b)) else none
 | .s,.str a,.str b=>some (decide (a=b))
 | .b,.bool a,.bool b=>some (a==b)
 | _,_,_=>none
def ha:List l8→List I→List I→Option Bool
 |[],[],[]=>some true
 |k::bH,a::az,b::ca=>match nY k a b,ha bH az ca with
  |some x,some y=>some (x&&y)
  | _,_=>none
 | _,_,_=>none
def gg (l:List I) (o:Nat) (new:List I):List I:=l.take o++new++l.drop (o+new.length)
def nO (env:Env) (cells:List I):List (Nat×Nat×aJ)→Option (List I)
 |[]=>some cells
 |(off,size,x)::rest=>
  let cs:=(x.aI env).cells
  if cs.length=size∧off+size≤cells.length∧(x.aI env).ea=true then nO env (gg cells off cs) rest else none
def lh (lU:Bool):I→List I→Option I
 | .int k a,[]=>some (.int k a)
 | .int k a,.int j b::rest=>if k=j then lh lU (.int k (if lU then max a b else min a b)) rest else none
 | _,_=>none
def bX (op:bc) (env:Env) (H:aA):Option I:=
 match op with
 | .gI x=>some (x.aI env)
 | .pick c a b=>match c.aI env with
  | .bool true=>some (a.aI env)
  | .bool false=>some (b.aI env)
  | _=>none
 | .gn x=>match x.aI env with
  | .ptr b o=>some (.ptr b o)
  | .ed r o=>some (.ed r o)
  | .fn f c=>some (.fn f c)
  | _=>none
 | .build zero parts=>(nO env zero parts).map .agg
 | .load agg n x=>match x.aI env with
  | .ptr b o=>match H.aY b with
   |some (_,cs)=>if o+n≤cs.length then I.iA agg ((cs.drop o).take n) else none
   |none=>none
  | .ed row o=>if o+n≤row.length then I.iA agg ((row.drop o).take n) else none
  | _=>none
 | .gb e3 agg n x=>match env.get e3,x.aI env with
  | .ptr b 0,.ptr bT o=>if bT=b then (match H.aY bT with
   |some (_,cs)=>if o+n≤cs.length then I.iA agg ((cs.drop o).take n) else none
   |none=>none) else none
  | _,_=>none
 | .qP agg n x=>match x.aI env with
  | .ed row o=>if o+n≤row.length then I.iA agg ((row.drop o).take n) else none
  | _=>none
 | .nZ off x=>match x.aI env with
  | .ptr b o=>some (.ptr b (o+off))
  | .ed row o=>some (.ed row (o+off))
  | _=>none
 | .field agg off n x=>match x.aI env with
  | .agg cs=>if off+n≤cs.length then I.iA agg ((cs.drop off).take n) else none
  | _=>none
 | .bin op x y=>match x.aI env,y.aI env with
  | .int k a,.int j b=>if k=j then qs op k a b else uv op k a b
  | .str a,.str b=>so op a b
  | _,_=>none
 | .qq op x y=>match x.aI env,y.aI env with
  | .bool a,.bool b=>tn op a b
  | _,_=>none
 | .nX neg _ bH x y=>match x.aI env,y.aI env with
  | .agg a,.agg b=>(ha bH a b).map fun r=> .bool (bif neg then !r else r)
  | _,_=>none
 | .not x=>match x.aI env with
  | .bool b=>some (.bool (!b))
  | _=>none
 | .qV neg x=>match x.aI env with
  | .ptr _ _=>some (.bool neg)
  | .ed _ _=>some (.bool neg)
  | .dV (.pointer none)=>some (.bool (!neg))
  | _=>none
 | .neg x=>match x.aI env with
  | .int k n=>some (.int k (k.wrap (0-n)))
  | _=>none
 | .conv k x=>match x.aI env with
  | .int _ n=>some (.int k (k.wrap n))
  | _=>none
 | .iV x=>match x.aI env with
  | .str s=>some (.int .i64 s.length)
  | _=>none
 | .len x=>match x.aI env with
  | .aq _ rows=>some (.int .i64 rows.length)
  | .own _ _ rows=>some (.int .i64 rows.length)
  | .dV (.slice _ n _)=>some (.int .i64 n)
  | _=>none
 | .p1 n=>some (.int .i64 n)
 | .kf lU xs=>match xs.map (aJ.aI env) with
  |a::rest=>lh lU a rest
  |[]=>none
 | .extract i x=>match x.aI env with
  | .c3 l=>l[i]?
  | _=>none
 | .jJ f cap=>some (.fn f (cap.map (aJ.aI env)))
 | .sO f cap=>some (.fn (f+jp) (cap.map (aJ.aI env)))
 | .nT int x=>match int,x.aI env with
  |true,.int _ n=>some (.str (Utf8.encode n).data.toList)
  |false,.aq 1 rows=>(kS rows).map .str
  |false,.own _ 1 rows=>(kS rows).map .str
  |false,.dV (.slice none _ _)=>some (.str [])
  | _,_=>none
 | .pj T x=>some (.hW T (x.aI env))
 | _=>none
def bM.bY (T size n:Nat):bM:=⟨T,size,n,n,none⟩
def bM.bC (T size aU:Nat) (rows:List (List I)):bM:=⟨T,size,0,aU,some rows⟩
def bM.be (T aU:Nat) (rows:List (List I)):bM:=⟨T,2,1,aU,some rows⟩
def lV (s:List UInt8):List (List I)→Option (Option I)
 |[]=>some none
 |[.str k,v]::r=>if s=k then some (some v) else lV s r
 | _:: _=>none
def kC (s:List UInt8) (v:I):List (List I)→Option (List (List I))
 |[]=>some [[.str s,v]]
 |[.str k,w]::r=>if s=k then some ([.str s,v]::r) else (kC s v r).map ([.str k,w]:: ·)
 | _:: _=>none
def kD (ok:Bool) (z:I) (r:Option I):I:=if ok then .c3 [r.getD z,.bool r.isSome] else r.getD z
inductive D where
 |cZ (v:I)
 |jx (T:TypeId) (cs:List I)
 |bh (o:bM) (v:Nat→I)
abbrev D.Ce (T size:Nat) (rows:List (List I)):D:= .bh (.bY T size rows.length) fun x=> .own x size rows
abbrev D.vN (T size:Nat) (rows:List (List I)):D:= .bh (.bC T size 0 rows) fun x=> .cV x 0
def D.fresh (d:D) (x:Nat) (H:aA):Prop:=
 match d with
 | .cZ _=>True
 | .jx _ _=>H.aY x=none
 | .bh _ _=>H.tok x=none
def D.val (d:D) (x:Nat):I:=
 match d with
 | .cZ v=>v
 | .jx _ _=> .ptr x 0
 | .bh _ v=>v x
def D.heap (d:D) (H:aA) (x:Nat):aA:=
 match d with
 | .cZ _=>H
 | .jx T cs=>H.cp x T cs
 | .bh o _=>H.ck x o
inductive Out where
 |ret (a:I)
 |ey (a:I)
def rk (m:Mem):Out→Ending→Prop
 | .ret a,e=> ∃v,e= .returned v∧aP m a v
 | .ey a,e=> ∃v,e= .panicked [{v,recovered:=false}]∧aP m a v
def jE (P:Program) (f:FuncId) (args:List I) (H:aA) (Q:Out→aA→Prop):Prop:=
 ∀(m:Mem) (aq:List Value),m.H=H→bW m→aR m args aq→
  Calls P f ⟨aq⟩ m.w fun e w'=> ∃o aC gw cG,bW ⟨w',aC,gw,cG⟩∧bV m ⟨w',aC,gw,cG⟩∧rk ⟨w',aC,gw,cG⟩ o e∧Q o aC
def Pure (P:Program) (f:FuncId) (args:List I) (r:I):Prop:=∀H,jE P f args H fun o aC=>o= .ret r∧aC=H
def AG (P:Program) (f:FuncId) (args:List I) (T size:Nat) (rows:List (List I)):Prop:=∀H,jE P f args H fun o aC=> ∃t,H.tok t=none∧o= .ret (.cV t 0)∧aC=H.ck t (.bC T size 0 rows)
def c6 (P:Program) (f:FuncId):Bool:=match P.funcs[f]? with|some fn=>fn.body.isSome&& !(fn.name== "runtime.NumGoroutine")&&bf8 f jp|none=>false
def rowsOf (size:Nat):I→Option (List (List I))
 | .aq s rows=>if s=size then some rows else none
 | .own _ s rows=>if s=size then some rows else none
 | .dV (.slice _ 0 _)=>some []
 | .str s=>if size=1 then some (s.map fun c=>[.int .u8 c.toNat]) else none
 | _=>none
def j7 (env:Env) (parts:List (Nat×aJ)):List (List I):=parts.map fun p=>(p.2.aI env).cells
def na (size:Nat):I→Option (List (List I))
 | .aq s rows=>if s=size then some rows else none
 | .own _ s rows=>if s=size then some rows else none
 | _=>none
inductive eF (P:Program):bc→Env→aA→D→Prop
 |pure {op env H v}(h:bX op env H=some v):eF P op env H (.cZ v)
 |quo {x y env H k a b}(ab:x.aI env= .int k a) (a8:y.aI env= .int k b) (hb:b≠0):eF P (.bin .quo x y) env H (.cZ (.int k (k.wrap (a.tdiv b))))
 |rem {x y env H k a b}(ab:x.aI env= .int k a) (a8:y.aI env= .int k b) (hb:b≠0):eF P (.bin .rem x y) env H (.cZ (.int k (a.tmod b)))
 |bU {x y env H a b}(ab:x.aI env= .str a) (a8:y.aI env= .str b) (hb:a.length+b.length≤maxLen):eF P (.bin .add x y) env H (.cZ (.str (a++b)))
 |n5 {size x i env H rows k n r}(ab:x.aI env= .aq size rows) (af:i.aI env= .int k n) (aW:0≤n) (ac:rows[n.toNat]? =some r):eF P (.hV size x i) env H (.cZ (.ed r 0))
 |n2 {size x i env H t rows k n r}(ab:x.aI env= .own t size rows) (af:i.aI env= .int k n) (aW:0≤n) (ac:rows[n.toNat]? =some r):eF P (.hV size x i) env H (.cZ (.ed r 0))
 |oI {size x i env H b o cap k}{len:Nat}{n:Int}(ab:x.aI env= .dV (.slice (some ⟨b,o,none⟩) len cap)) (af:i.aI env= .int k n) (aW:0≤n) (U:n<(len:Int)):eF P (.hV size x i) env H (.cZ (.ptr b (o+n.toNat*size)))
 |nA {size x i env H b o k}{len:Nat}{n:Int}(ab:x.aI env= .ptr b o) (af:i.aI env= .int k n) (aW:0≤n) (U:n<(len:Int)):eF P (.mS len size x i) env H (.cZ (.ptr b (o+n.toNat*size)))
 |n3 {size x i env H row o k}{len:Nat}{n:Int}(ab:x.aI env= .ed row o) (af:i.aI env= .int k n) (aW:0≤n) (U:n<(len:Int)):eF P (.mS len size x i) env H (.cZ (.ed row (o+n.toNat*size)))
 |jw {agg size x i env H cs k}{len:Nat}{n:Int}{v}(ab:x.aI env= .agg cs) (af:i.aI env= .int k n) (aW:0≤n) (U:n<(len:Int)) (aG:n.toNat*size+size≤cs.length) (ad:I.iA agg ((cs.drop (n.toNat*size)).take size)=some v):eF P (.jw agg len size x i) env H (.cZ v)
 |fQ {x i env H s k n c}(ab:x.aI env= .str s) (af:i.aI env= .int k n) (aW:0≤n) (an:s[n.toNat]? =some c):eF P (.fQ x i) env H (.cZ (.int .u8 c.toNat))
 |iB {x b3 af env H s l h}(ab:x.aI env= .str s) (aG:jK env 0 b3=some l) (a6:jK env s.length af=some h) (U:l≤h) (aa:h≤s.length):eF P (.iB x b3 af) env H (.cZ (.str ((s.take h).drop l)))
 |gJ {size x b3 af env H rows l h}(ab:na size (x.aI env)=some rows) (aG:jK env 0 b3=some l) (a6:jK env rows.length af=some h) (U:l≤h) (aa:h≤rows.length):eF P (.gJ size x b3 af none) env H (.cZ (.aq size ((rows.take h).drop l)))
 |jP {T x env H s}(ab:x.aI env= .str s):eF P (.jP T x) env H (.cZ (.aq 1 (s.map fun c=>[.int .u8 c.toNat])))
 |box {T x env H}(ab:((x.aI env).cells).all I.one=true):eF P (.box T x) env H (.jx T (x.aI env).cells)
 |alloc {T zero env H}(aw:zero.all I.one=true):eF P (.alloc T zero) env H (.jx T zero)
 |oo {T size n zero parts env H rows}(ac:j7 env parts=rows) (ao:rows.all (fun r=>r.length==size)=true) (aj:rows.flatten.all I.one=true):eF P (.et T size n zero parts) env H (.cZ (.aq size rows))
 |lr {T size n zero parts env H rows}(ac:j7 env parts=rows) (ao:rows.all (fun r=>r.length==size)=true) (aj:rows.flatten.all I.one=true) (aW:size≠0):eF P (.lr T size n zero parts) env H (.Ce T size rows)
 |qm {T size bytes x y env H rows}(ab:x.aI env= .bi) (a8:rowsOf size (y.aI env)=some rows) (hb:rows.length*bytes≤140737488355328) (hm:rows.length≤maxLen) (aW:size≠0):eF P (.append T size bytes x y) env H (.Ce T size rows)
 |iU {x env H t aU T size rows}(ab:x.aI env= .cV t aU) (aL:H.tok t=some (.bC T size aU rows)):eF P (.iU x) env H (.cZ (.int .i64 rows.length))
 |mkMap {T env H}:eF P (.mkMap T) env H (.bh (.be T 0 []) fun x=> .cV x 0)
 |iv {ok z x k env H t aU T rows s r}(ab:x.aI env= .cV t aU) (aL:H.tok t=some (.be T aU rows)) (av:k.aI env= .str s) (ac:lV s rows=some r):eF P (.iv ok z x k) env H (.cZ (kD ok z r))
 |p2 {ok z x k env H s}(ab:x.aI env= .dV (.map none)) (av:k.aI env= .str s):eF P (.iv ok z x k) env H (.cZ (kD ok z none))
 |nC {T size bytes zero x env H k}{n:Nat}(ab:x.aI env= .int k (n:Int)) (hb:bytes*n≤281474976710656) (hm:n≤maxLen) (aj:zero.all I.one=true) (aw:zero.length=size) (aW:size≠0):eF P (.nC T size bytes zero x) env H (.vN T size (bc9 n zero))
 |ud {neg x env H}(ab:x.aI env= .bi):eF P (.pd neg x) env H (.cZ (.bool (!neg)))
 |uc {neg x env H size rows}(ab:x.aI env= .aq size rows) (ac:rows≠[]):eF P (.pd neg x) env H (.cZ (.bool neg))
 |js {off x env H t aU k T size rows}(ab:x.aI env= .mp t aU k) (aL:H.tok t=some (.bC T size aU rows)):eF P (.js off x) env H (.cZ (.mp t aU (k+off)))
 |iJ {size x i env H t aU T rows k n}(ab:x.aI env= .cV t aU) (aL:H.tok t=some (.bC T size aU rows)) (af:i.aI env= .int k n) (aW:0≤n) (U:n<(rows.length:Int)):eF P (.iJ size x i) env H (.cZ (.mp t aU (n.toNat*size)))
 |ji {agg n x env H t aU k T size rows v}(ab:x.aI env= .mp t aU k) (aL:H.tok t=some (.bC T size aU rows)) (aG:k+n≤rows.flatten.length) (ad:I.iA agg ((rows.flatten.drop k).take n)=some v):eF P (.ji agg n x) env H (.cZ v)
 |ma {T size n zero parts env H rows}(ac:j7 env parts=rows) (ao:rows.all (fun r=>r.length==size)=true) (aj:rows.flatten.all I.one=true) (aW:size≠0):eF P (.ma T size n zero parts) env H (.vN T size rows)
 |uX {T size bytes x y env H rows}(ab:x.aI env= .bi) (a8:rowsOf size (y.aI env)=some rows) (hb:rows.length*bytes≤140737488355328) (hm:rows.length≤maxLen) (aW:size≠0):eF P (.mJ T size bytes x y) env H (.vN T size rows)
 |um {f args env H az T size rows}(aS:dZ (args.map (aJ.aI env)) az) (h:AG P f az T size rows):eF P (.xH T size f args rows) env H (.vN T size rows)
 |jj {f args env H az r}(aS:dZ (args.map (aJ.aI env)) az) (h:Pure P f az r):eF P (.call f args) env H (.cZ r)
 |j3 {x args env H f cap az r}(ab:x.aI env= .fn f cap) (aT:c6 P f=true) (aS:dZ (args.map (aJ.aI env)++cap) az) (h:Pure P f az r):eF P (.gj x args) env H (.cZ r)
 |pq {f args env H az r}(aS:dZ (args.map (aJ.aI env)) az) (h:Pure P f az r):eF P (.vV f args r) env H (.cZ r)
 |p7 {x args env H f cap az r}(ab:x.aI env= .fn f cap) (aT:c6 P f=true) (aS:dZ (args.map (aJ.aI env)++cap) az) (h:Pure P f az r):eF P (.vW x args r) env H (.cZ r)
def wB (K Rp:I→aA→Prop) (aC:aA):Out→Prop
 | .ret v=>K v aC
 | .ey v=>Rp v aC
def hL (H:aA):Prop:=∃N,∀n,N≤n→H.aY n=none∧H.tok n=none
inductive hT (P:Program):bc→Env→aA→(I→aA→Prop)→(I→aA→Prop)→Prop
 |ii {op env H K Rp}(d:D) (bG:eF P op env H d) (h: ∀x,d.fresh x H→K (d.val x) (d.heap H x)):hT P op env H K Rp
 |store {n a v env H K Rp b o T cs}(aS:a.aI env= .ptr b o) (hb:H.aY b=some (T,cs)) (a1:(v.aI env).cells.length=n) (aG:o+n≤cs.length) (aj:((v.aI env).cells).all I.one=true)
  (h:K .undef (H.cp b T (gg cs o (v.aI env).cells))):hT P (.store n a v) env H K Rp
 |gK {e3 others n a v env H K Rp b o T cs}(o9:env.get e3= .ptr b 0) (lc: ∀s∈others,∃bT,env.get s= .ptr bT 0∧bT≠b) (aS:a.aI env= .ptr b o) (hb:H.aY b=some (T,cs)) (a1:(v.aI env).cells.length=n) (aG:o+n≤cs.length) (aj:((v.aI env).cells).all I.one=true)
  (h:K .undef (H.cp b T (gg cs o (v.aI env).cells))):hT P (.gK e3 others n a v) env H K Rp
 |append {T size bytes x y env H K Rp t rows new}(ab:x.aI env= .own t size rows) (aL:H.tok t=some (.bY T size rows.length)) (a8:rowsOf size (y.aI env)=some new) (hb:(rows.length+new.length)*bytes≤140737488355328) (hm:rows.length+new.length≤maxLen)
  (h:K (.own t size (rows++new)) (H.ck t (.bY T size (rows.length+new.length)))):hT P (.append T size bytes x y) env H K Rp
 |mJ {T size bytes x y env H K Rp t aU rows new}(ab:x.aI env= .cV t aU) (aL:H.tok t=some (.bC T size aU rows)) (a8:rowsOf size (y.aI env)=some new) (hb:(rows.length+new.length)*bytes≤140737488355328) (hm:rows.length+new.length≤maxLen)
  (h:K (.cV t (aU+1)) (H.ck t (.bC T size (aU+1) (rows++new)))):hT P (.mJ T size bytes x y) env H K Rp
 |zl {neg x env H K Rp size rows}(ab:x.aI env= .aq size rows) (h: ∀b,K (.bool b) H):hT P (.pd neg x) env H K Rp
 |mZ {size x b3 af env H K Rp t aU T rows h q}(ab:x.aI env= .cV t aU) (aL:H.tok t=some (.bC T size aU rows)) (aG:jK env 0 b3=some q) (a6:jK env rows.length af=some h) (U:h≤rows.length) (bu:q≤h)
  (h:K (.cV t (aU+1)) (H.ck t (.bC T size (aU+1) ((rows.take h).drop q)))):hT P (.mZ size x b3 af) env H K Rp
 |uy {n a v env H K Rp t aU k T size rows dT}(aS:a.aI env= .mp t aU k) (aL:H.tok t=some (.bC T size aU rows)) (a1:(v.aI env).cells.length=n) (aG:k+n≤rows.flatten.length) (aj:((v.aI env).cells).all I.one=true)
  (aT:dT.flatten=gg rows.flatten k (v.aI env).cells) (ac: ∀r∈dT,r.length=size) (hlen:dT.length=rows.length)
  (h:K .undef (H.ck t (.bC T size aU dT))):hT P (.store n a v) env H K Rp
 |nB {x k v env H K Rp t aU T rows dT s}(ab:x.aI env= .cV t aU) (aL:H.tok t=some (.be T aU rows)) (av:k.aI env= .str s) (aj:(v.aI env).one=true) (ac:kC s (v.aI env) rows=some dT)
  (h:K .undef (H.ck t (.be T aU dT))):hT P (.nB x k v) env H K Rp
 |call {f args env H K Rp az}(Q:Out→aA→Prop) (aS:dZ (args.map (aJ.aI env)) az) (an:jE P f az H Q) (h: ∀o aC,Q o aC→wB K Rp aC o):hT P (.call f args) env H K Rp
 |gP {others f args env H K Rp az}(Q:Out→aA→Prop) (aj: ∀s∈others,∃b,env.get s= .ptr b 0∧∀o aC,Q o aC→aC.aY b=H.aY b) (he:hL H→∃r aC,Q (.ret r) aC∧hL aC) (aS:dZ (args.map (aJ.aI env)) az) (an:jE P f az H Q) (h: ∀o aC,Q o aC→wB K Rp aC o):hT P (.gP others f args) env H K Rp
 |kT {others x args env H K Rp f cap az}(Q:Out→aA→Prop) (ab:x.aI env= .fn f cap) (aT:c6 P f=true) (aj: ∀s∈others,∃b,env.get s= .ptr b 0∧∀o aC,Q o aC→aC.aY b=H.aY b) (he:hL H→∃r aC,Q (.ret r) aC∧hL aC) (aS:dZ (args.map (aJ.aI env)++cap) az) (an:jE P f az H Q) (h: ∀o aC,Q o aC→wB K Rp aC o):hT P (.kT others x args) env H K Rp
 |gj {x args env H K Rp f cap az}(Q:Out→aA→Prop) (ab:x.aI env= .fn f cap) (aT:c6 P f=true) (aS:dZ (args.map (aJ.aI env)++cap) az) (an:jE P f az H Q) (h: ∀o aC,Q o aC→wB K Rp aC o):hT P (.gj x args) env H K Rp
 |wJ {x args env H K Rp f cap az}(Q:Out→aA→Prop) (ab:x.aI env= .fn (f+jp) cap) (aT:c6 P f=true) (aS:dZ (cap++args.map (aJ.aI env)) az) (an:jE P f az H Q) (h: ∀o aC,Q o aC→wB K Rp aC o):hT P (.gj x args) env H K Rp
 |xU {len size x env H K Rp b T cs rows}(ab:x.aI env= .ptr b 0) (hb:H.aY b=some (T,cs)) (aT:rows.flatten=cs) (ac: ∀r∈rows,r.length=size) (aG:rows.length=len) (aW:0<len) (hm:len≤maxLen)
  (h:K (.aq size rows) (H.o5 b)):hT P (.xT len size x) env H K Rp
 |panic {x env H K Rp t v}(ab:x.aI env= .hW t v) (h:Rp (.hW t v) H):hT P (.panic x) env H K Rp
structure bK where
 dst:Option Nat
 guard:Option (Nat×Bool)
 op:bc
def wanted (i:bK) (env:Env):Option Bool:=
 match i.guard with
 |none=>some true
 |some (j,want)=>match env.get j with
  | .bool b=>some (b==want)
  | .dV (.tuple ⟨[]⟩)=>some false
  | _=>none
def bn (P:Program):List bK→Env→aA→(Env→aA→Prop)→(I→aA→Prop)→Prop
 |[],env,H,K,_=>K env H
 |i::l,env,H,K,Rp=>match wanted i env with
  |some true=>hT P i.op env H (fun v aC=>bn P l (env.put i.dst v) aC K Rp) Rp
  |some false=>bn P l (env.put i.dst .undef) H K Rp
  |none=>False
def I.rows:I→List (List I)
 | .aq _ rows=>rows
 | _=>[]
def eT:List bK→List I→List bK
 |[],_=>[]
 |⟨d,g,.jj f args⟩::l,r::aQ=>⟨d,g,.vV f args r⟩::eT l aQ
 |⟨d,g,.j3 x args⟩::l,r::aQ=>⟨d,g,.vW x args r⟩::eT l aQ
 |⟨d,g,.rX T size f args⟩::l,r::aQ=>⟨d,g,.xH T size f args (I.rows r)⟩::eT l aQ
 |i::l,aQ=>i::eT l aQ
inductive bp where
 |skip
 |region (ops:List bK) (draw:Bool)
 |seq (a b:bp)
 |cond (c:aJ) (a b:bp)
 |block (id:Nat) (body:bp)
 |loop (body:bp)
 |exit (id:Nat)
 |ret
 |sv (d:Nat) (f:FuncId) (cap:List aJ)
inductive Item where
 |c (c:bp)
 |aY (id:Nat)
 |round (eG:Nat→Env→aA→Prop) (m0:Nat)
def pt (id:Nat):List Item→Option (List Item)
 | .aY j::k=>if j=id then some k else pt id k
 | _::k=>pt id k
 |[]=>none
inductive bf where
 |t (n:Nat)
 |cell (agg:Bool) (n:Nat) (addr:Nat)
def bf.aI (env:Env) (H:aA):bf→Option I
 | .t n=>some (env.get n)
 | .cell agg n a=>bX (.load agg n (.t a)) env H
def results (aQ:List bf) (env:Env) (H:aA):Option I:=
 match aQ with
 |[r]=>r.aI env H
 |aQ=>(aQ.mapM (bf.aI env H)).map .c3
def bp.kF (t:Nat):bp→Bool
 | .region ops _=>ops.all fun i=>i.dst !=some t
 | .seq a b=>bp.kF t a&&bp.kF t b
 | .cond _ a b=>bp.kF t a&&bp.kF t b
 | .block _ b=>bp.kF t b
 | .loop b=>bp.kF t b
 | .sv d _ _=>d !=t
 | _=>true
def Item.kF (t:Nat):Item→Bool
 | .c e=>e.kF t
 | .aY _=>true
 | .round _ _=>false
def tf (P:Program) (f:FuncId) (gx:List I) (x:I) (H:aA) (Q:aA→Prop):Prop:=
 ∀(m:Mem) (aq:List Value) (ku:Value),m.H=H→bW m→aR m gx aq→aP m x ku→
  CallsD P f ⟨aq⟩ (.panicking [{v:=ku,recovered:=false}]) m.w fun e qf w'=>(∃v,e= .returned v)∧qf= .panicking [{v:=ku,recovered:=true}]∧∃aC gw cG,bW ⟨w',aC,gw,cG⟩∧bV m ⟨w',aC,gw,cG⟩∧Q aC
def Az (P:Program) (f:FuncId) (gx:List I):Prop:=
 ∀(m:Mem) (aq:List Value),bW m→aR m gx aq→CallsD P f ⟨aq⟩ .returning m.w fun e qf w'=>(∃v,e= .returned v)∧qf= .returning∧∃gw cG,bW ⟨w',m.H,gw,cG⟩∧bV m ⟨w',m.H,gw,cG⟩
inductive cr (P:Program) (aQ:List bf):(Out→aA→Prop)→List Item→Env→aA→Prop
 |done {R:Out→aA→Prop}{env H v}(ad:ba.results aQ env H=some v) (h:R (.ret v) H):cr P aQ R [] env H
 |ret {R:Out→aA→Prop}{k env H v}(ad:ba.results aQ env H=some v) (h:R (.ret v) H):cr P aQ R (.c .ret::k) env H
 |skip {R:Out→aA→Prop}{k env H}(h:cr P aQ R k env H):cr P aQ R (.c .skip::k) env H
 |iy {R:Out→aA→Prop}{id k env H}(h:cr P aQ R k env H):cr P aQ R (.aY id::k) env H
 |seq {R:Out→aA→Prop}{a b k env H}(h:cr P aQ R (.c a:: .c b::k) env H):cr P aQ R (.c (.seq a b)::k) env H
 |block {R:Out→aA→Prop}{id body k env H}(h:cr P aQ R (.c body:: .aY id::k) env H):cr P aQ R (.c (.block id body)::k) env H
 |exit {R:Out→aA→Prop}{id k ff env H}(av:pt id k=some ff) (h:cr P aQ R ff env H):cr P aQ R (.c (.exit id)::k) env H
 |cond {R:Out→aA→Prop}{c a b k env H t}(an:c.aI env= .bool t) (U:t=true→cr P aQ R (.c a::k) env H) (aa:t=false→cr P aQ R (.c b::k) env H):cr P aQ R (.c (.cond c a b)::k) env H
 |region {R:Out→aA→Prop}{ops draw k env H}(anns:List I) (K:Env→aA→Prop) (h:bn P (eT ops anns) env H K (fun v aC=>R (.ey v) aC)) (dL: ∀bb aC,K bb aC→cr P aQ R k bb aC):cr P aQ R (.c (.region ops draw)::k) env H
 |loop {R:Out→aA→Prop}{body k env H}(eG:Nat→Env→aA→Prop) (m:Nat) (aW:eG m env H) (h: ∀aX bb aC,eG aX bb aC→cr P aQ R (.c body:: .round eG aX::k) bb aC):cr P aQ R (.c (.loop body)::k) env H
 |round {R:Out→aA→Prop}{eG m0 k env H}(m:Nat) (aW:eG m env H) (U:m<m0):cr P aQ R (.round eG m0::k) env H
 |conv {R:Out→aA→Prop}{k env H}(S:Env→aA→Prop) (ao: ∀m:Mem,m.H=H→bW m→∃bb aC gw cG,S bb aC∧bW ⟨m.w,aC,gw,cG⟩∧bV m ⟨m.w,aC,gw,cG⟩∧∀j v,aP m (env.get j) v→aP ⟨m.w,aC,gw,cG⟩ (bb.get j) v) (h: ∀bb aC,S bb aC→cr P aQ R k bb aC):cr P aQ R k env H
 |x4 {R:Out→aA→Prop}{k env bb H}(he: ∀j,c5 (env.get j) (bb.get j)) (h:cr P aQ R k bb H):cr P aQ R k env H
 |sv {R:Out→aA→Prop}{d:Nat}{f:FuncId}{cap:List aJ}{k:List Item}{env:Env}{H:aA}(oi:Out→aA→Prop) (kt:Env) (BN: ∀j,c5 (env.get j) (kt.get j)) (av: ∀p∈kt,k.all (Item.kF p.1)=true) (bG: ∀p∈kt,d≠p.1) (an:k.all (fun i=>match i with| .round _ _=>false| _=>true)=true)
  (aT:c6 P f=true) (BL:Az P f (cap.map (aJ.aI env))) (BW: ∀v aC,oi (.ret v) aC→R (.ret v) aC)
  (BV: ∀x aC,oi (.ey x) aC→tf P f (cap.map (aJ.aI env)) x aC fun dt=> ∃v,ba.results aQ kt dt=some v∧R (.ret v) dt)
  (h:cr P aQ oi k ((d,.fn f (cap.map (aJ.aI env)))::env) H):cr P aQ R (.c (.sv d f cap)::k) env H
variable {P:Program}{aQ:List bf}{R:Out→aA→Prop}
theorem cr.gC {ops draw k env H}(anns:List I) (h:bn P (eT ops anns) env H (fun bb aC=>cr P aQ R k bb aC) (fun v aC=>R (.ey v) aC)):cr P aQ R (.c (.region ops draw)::k) env H:=
 cr.region anns _ h fun _ _ h=>h
theorem bn.nil {env H K Rp}(h:K env H):bn P [] env H K Rp:=h
theorem bn.step {i l env H K Rp}(hw:wanted i env=some true) (h:hT P i.op env H (fun v aC=>bn P l (env.put i.dst v) aC K Rp) Rp):bn P (i::l) env H K Rp:=by
 simp only[bn,hw]; exact h
theorem bn.skip {i l env H K Rp}(hw:wanted i env=some false) (h:bn P l (env.put i.dst .undef) H K Rp):bn P (i::l) env H K Rp:=by
 simp only[bn,hw]; exact h
theorem bn.n9 {i l env H K Rp v}(hw:wanted i env=some true) (ad:bX i.op env H=some v) (h:bn P l (env.put i.dst v) H K Rp):bn P (i::l) env H K Rp:=
 bn.step hw (.ii (.cZ v) (.pure ad) fun _ _=>h)
theorem bn.u2 {i l env H K Rp}(d:D) (hw:wanted i env=some true) (bG:eF P i.op env H d) (h: ∀x,d.fresh x H→bn P l (env.put i.dst (d.val x)) (d.heap H x) K Rp):bn P (i::l) env H K Rp:=
 bn.step hw (.ii d bG h)
end Go.ba
namespace Go.ba
open Go
theorem pa (w:World) (o:Obj) (i:Nat) (h:i<w.heap.size):(w.alloc o).heap[i]? =w.heap[i]? :=by
 show (w.heap.push o)[i]? = _
 rw[Array.getElem?_push,if_neg (by omega)]
theorem sI (w:World) (o:Obj):(w.alloc o).heap[w.heap.size]? =some o:=by
 show (w.heap.push o)[w.heap.size]? = _
 rw[Array.getElem?_push,if_pos rfl]
theorem bV.hid {m:Mem}{w':World}(U:w'.os=m.w.os) (aa:w'.tape=m.w.tape) (aD:w'.output=m.w.output) (bA:m.w.heap.size≤w'.heap.size) (b6: ∀b,b<m.w.heap.size→w'.heap[b]? =m.w.heap[b]?):bV m {m with w:=w'} where
 os:=U
 tape:=aa
 output:=aD
 size:=bA
 T:=bc1 _
 block:=fun b hb h hU=>⟨b6 b hb,h,hU⟩
 cell:=fun b o ao=>⟨⟨bi1 ao.lt bA,ao.aY,ao.tok⟩,World.cell?_of_block (a:=⟨b,o,none⟩) (b6 b ao.lt)⟩
 tok:=fun t dh _ h=>⟨dh,h,bc1 _,rfl,fun _=>rfl⟩
theorem av3 {w w':World}{base:Nat}{e:TypeId}{size n:Nat}{v:Value}{xs:List Value}(h:w.ownsRow base e size v n xs) (av: ∀b,v.ew=some b→w'.heap[b]? =w.heap[b]?):w'.ownsRow base e size v n xs:=by
 refine⟨h.1,?_⟩
 rcases h.2 with a1|⟨g,cap,cur,rfl,hb,E5,rest⟩
 ·exact .inl a1
 ·exact .inr ⟨g,cap,cur,rfl,hb,by rw[av g (by simp [Value.ew])]; exact E5,rest⟩
theorem av2 {w w':World}{e:TypeId}{size n:Nat}{v:Value}{xs:List Value}(h:w.zL e size v n xs) (av: ∀b,v.ew=some b→w'.heap[b]? =w.heap[b]?):w'.zL e size v n xs:=by
 refine⟨h.1,?_⟩
 rcases h.2 with a1|⟨g,p,cap,cur,rfl,E5,rest⟩
 ·exact .inl a1
 ·exact .inr ⟨g,p,cap,cur,rfl,by rw[av g (by simp [Value.ew])]; exact E5,rest⟩
theorem av4 {w:World}{i:bM}{v:Value}{xs:List Value}(h:w.qU i v xs):w.ownsRow 0 i.ty i.size v i.len xs∨w.zL i.ty i.size v i.len xs∨∃b es nS,v= .map (some b)∧w.heap[b]? =some (.map es nS)∧xs=es.toList.flatMap fun e=>[e.key,e.val]:=by
 obtain⟨ty,size,n,aU,lu⟩:=i
 cases lu with
 |none=>exact .inl h
 |some rows=>cases n with
  |zero=>exact .inr (.inl h)
  |succ n=>exact .inr (.inr h)
theorem xF {w w':World}{i:bM}{v:Value}{xs:List Value}(h:w.qU i v xs) (av: ∀b,v.ew=some b→w'.heap[b]? =w.heap[b]?):w'.qU i v xs:=by
 obtain⟨ty,size,n,aU,lu⟩:=i
 cases lu with
 |none=>exact av3 h av
 |some rows=>cases n with
  |zero=>exact av2 h av
  |succ n=>
   obtain⟨b,es,nS,rfl,aa,aD⟩:=h
   exact⟨b,es,nS,rfl,(av b rfl).trans aa,aD⟩
theorem _root_.Go.World.qU.lt {w:World}{i:bM}{v:Value}{xs:List Value}(h:w.qU i v xs) (b:Nat) (hb:v.ew=some b):0≤b∧b<w.heap.size:=by
 rcases av4 h with h|h|⟨c,es,nS,rfl,aa,_⟩
 ·refine h.lt b ?_
  rcases h.2 with ⟨rfl,_⟩|⟨g,cap,cur,rfl,_⟩
  ·simp [Value.ew]at hb
  ·exact hb
 ·rcases h.2 with ⟨rfl,_⟩|⟨g,p,cap,cur,rfl,bo,_⟩
  ·simp [Value.ew]at hb
  ·simp only[Value.ew,Option.some.injEq]at hb
   subst hb
   exact⟨bc3 _,(Array.getElem?_eq_some_iff.1 bo).1⟩
 ·simp only[Value.ew,Option.some.injEq]at hb
  subst hb
  exact⟨bc3 _,(Array.getElem?_eq_some_iff.1 aa).1⟩
theorem _root_.Go.World.qU.alloc {w:World}{i:bM}{v:Value}{xs:List Value}(h:w.qU i v xs) (o:Obj):(w.alloc o).qU i v xs:=
 xF h fun b hb=>pa w o b (h.lt b hb).2
theorem bW.hid {m:Mem}(r:bW m){w':World}(U:w'.os=m.w.os) (aa:w'.tape=m.w.tape) (aD:w'.output=m.w.output) (bA:m.w.heap.size≤w'.heap.size) (b6: ∀b,b<m.w.heap.size→w'.heap[b]? =m.w.heap[b]?):bW {m with w:=w'} where
 kZ:=(pF.aI (bV.hid U aa aD bA b6) r.kZ r.k0).1
 k0:=(pF.aI (bV.hid U aa aD bA b6) r.kZ r.k0).2
 aY:=fun b T cs hb=>by
  obtain⟨l,ap,ay,b1⟩:=r.aY b T cs hb
  have cz:b<m.w.heap.size:=(Array.getElem?_eq_some_iff.1 ap).1
  exact⟨l,(b6 b cz).trans ap,aR.aI (bV.hid U aa aD bA b6) cs l ay,b1⟩
 tok:=fun t i aL=>by
  obtain⟨br,bB,⟨xs,cu,hs⟩,eO⟩:=r.tok t i aL
  exact⟨br,bB,⟨xs,xF cu fun b hb=>b6 b (cu.lt b hb).2,fun rows ac=>⟨aR.aI (bV.hid U aa aD bA b6) _ _ (hs rows ac).1,(hs rows ac).2⟩⟩,eO⟩
theorem bV.drew (m:Mem):bV m {m with w:=m.w.drew}:=bV.hid rfl rfl rfl (bc1 _) fun _ _=>rfl
theorem bW.drew {m:Mem}(r:bW m):bW {m with w:=m.w.drew}:=r.hid rfl rfl rfl (bc1 _) fun _ _=>rfl
theorem bV.alloc (m:Mem) (o:Obj):bV m {m with w:=m.w.alloc o}:=bV.hid rfl rfl rfl (by simp) fun b hb=>pa m.w o b hb
theorem bW.alloc {m:Mem}(r:bW m) (o:Obj):bW {m with w:=m.w.alloc o}:=r.hid rfl rfl rfl (by simp) fun b hb=>pa m.w o b hb
theorem sp {m:Mem}(r:bW m){b T cs}(h:m.H.aY b=some (T,cs)):b<m.w.heap.size:=by
 obtain⟨l,ap,_⟩:=r.aY b T cs h
 exact (Array.getElem?_eq_some_iff.1 ap).1
theorem wF {m:Mem}(r:bW m):m.H.aY m.w.heap.size=none:=by
 cases h:m.H.aY m.w.heap.size with
 |none=>rfl
 |some x=>have:=sp r (b:=m.w.heap.size) (T:=x.1) (cs:=x.2) h; omega
theorem uz {m:Mem}(r:bW m){t i b}(h:m.H.tok t=some i) (hb:(m.L t).ew=some b):b<m.w.heap.size:=by
 obtain⟨_,_,⟨xs,cu,_⟩,_⟩:=r.tok t i h
 exact (cu.lt b hb).2
theorem r2 {m:Mem}(r:bW m):m.H.tok m.T=none:=by
 cases h:m.H.tok m.T with
 |none=>rfl
 |some i=>have:=(r.tok _ _ h).1; omega
def Mem.bP (m:Mem) (T:TypeId) (cs:List I) (l:List Value):Mem:={m with w:=m.w.alloc (.cells ⟨l⟩ T),H:=m.H.cp m.w.heap.size T cs}
theorem bV.bP (m:Mem) (T:TypeId) (cs:List I) (l:List Value):bV m (m.bP T cs l) where
 os:=rfl
 tape:=rfl
 output:=rfl
 size:=by simp [Mem.bP]
 T:=bc1 _
 block:=fun b hb h hU=>⟨pa m.w _ b hb,by simp only[Mem.bP,aA.cp]; rw[if_neg (by omega)]; exact h,hU⟩
 cell:=fun b o ao=>⟨⟨by have:=ao.lt; simp [Mem.bP]; omega,by have:=ao.lt; simp only[Mem.bP,aA.cp]; rw[if_neg (by omega)]; exact ao.aY,ao.tok⟩,World.cell?_of_block (a:=⟨b,o,none⟩) (pa m.w _ b ao.lt)⟩
 tok:=fun t dh _ h=>⟨dh,h,bc1 _,rfl,fun _=>rfl⟩
theorem bW.bP {m:Mem}(r:bW m){T:TypeId}{cs:List I}{l:List Value}(aG:aR m cs l) (aj: ∀v∈l,v.oneCell'=true):bW (m.bP T cs l) where
 kZ:=(pF.aI (bV.bP m T cs l) r.kZ r.k0).1
 k0:=(pF.aI (bV.bP m T cs l) r.kZ r.k0).2
 aY:=fun b cG cC hb=>by
  simp only[Mem.bP,aA.cp]at hb
  by_cases e:b=m.w.heap.size
  ·rw[if_pos e]at hb
   simp only[Option.some.injEq,Prod.mk.injEq]at hb
   obtain⟨rfl,rfl⟩:=hb
   subst e
   exact⟨l,sI m.w _,aR.aI (bV.bP m _ _ l) _ l aG,aj⟩
  ·rw[if_neg e]at hb
   obtain⟨bZ,ap,ay,b1⟩:=r.aY b cG cC hb
   exact⟨bZ,(pa m.w _ b (sp r hb)).trans ap,aR.aI (bV.bP m _ _ l) _ bZ ay,b1⟩
 tok:=fun t i aL=>by
  obtain⟨br,bB,⟨xs,cu,hs⟩,eO⟩:=r.tok t i aL
  refine⟨br,bB,⟨xs,cu.alloc _,fun rows ac=>⟨aR.aI (bV.bP m _ _ l) _ _ (hs rows ac).1,(hs rows ac).2⟩⟩,fun b hb=> ?_⟩
  obtain⟨g1,g2⟩:=eO b hb
  have:=uz r aL hb
  exact⟨by simp only[Mem.bP,aA.cp]; rw[if_neg (by omega)]; exact g1,g2⟩
def Mem.bh (m:Mem) (w':World) (v:Value) (o:bM):Mem:=⟨w',m.H.ck m.T o,fun x=>if x=m.T then v else m.L x,m.T+1⟩
theorem bV.bh {m:Mem}(r:bW m){w':World}{v:Value}{o:bM}(U:w'.os=m.w.os) (aa:w'.tape=m.w.tape) (aD:w'.output=m.w.output) (bA:m.w.heap.size≤w'.heap.size) (b6: ∀b,b<m.w.heap.size→w'.heap[b]? =m.w.heap[b]?)
  (ad: ∀b,v.ew=some b→m.w.heap.size≤b):bV m (m.bh w' v o) where
 os:=U
 tape:=aa
 output:=aD
 size:=bA
 T:=by simp [Mem.bh]
 block:=fun b hb h hU=>⟨b6 b hb,h,fun t i aL e=>by
  simp only[Mem.bh,aA.ck]at aL e
  by_cases eU:t=m.T
  ·rw[if_pos eU]at e
   have:=ad b e
   omega
  ·rw[if_neg eU]at e aL
   exact hU t i aL e⟩
 cell:=fun b c ao=>⟨⟨bi1 ao.lt bA,ao.aY,fun t i aL e=>by
  simp only[Mem.bh,aA.ck]at aL e
  by_cases eU:t=m.T
  ·rw[if_pos eU]at e
   have:=ad b e
   have:=ao.lt
   omega
  ·rw[if_neg eU]at e aL
   exact ao.tok t i aL e⟩,World.cell?_of_block (a:=⟨b,c,none⟩) (b6 b ao.lt)⟩
 tok:=fun t dh aL h=>by
  simp only[Mem.bh,aA.ck]at h ⊢
  rw[if_neg (by omega)]at h ⊢
  exact⟨dh,h,bc1 _,rfl,fun _=>rfl⟩
theorem bW.bh {m:Mem}(r:bW m){w':World}{v:Value}{o:bM}(U:w'.os=m.w.os) (aa:w'.tape=m.w.tape) (aD:w'.output=m.w.output) (bA:m.w.heap.size≤w'.heap.size) (b6: ∀b,b<m.w.heap.size→w'.heap[b]? =m.w.heap[b]?)
  (ad: ∀b,v.ew=some b→m.w.heap.size≤b) (ao:o.size≠0) (aj: ∃xs,w'.qU o v xs∧∀rows,o.lu=some rows→aR (m.bh w' v o) rows.flatten xs∧(∀r∈rows,r.length=o.size)∧∀v∈xs,v.oneCell'=true):bW (m.bh w' v o) where
 kZ:=(pF.aI (bV.bh r U aa aD bA b6 ad) r.kZ r.k0).1
 k0:=(pF.aI (bV.bh r U aa aD bA b6 ad) r.kZ r.k0).2
 aY:=fun b T cs hb=>by
  obtain⟨l,ap,ay,b1⟩:=r.aY b T cs hb
  exact⟨l,(b6 b (sp r hb)).trans ap,aR.aI (bV.bh r U aa aD bA b6 ad) cs l ay,b1⟩
 tok:=fun t i aL=>by
  simp only[Mem.bh,aA.ck]at aL ⊢
  by_cases eU:t=m.T
  ·rw[if_pos eU]at aL
   simp only[Option.some.injEq]at aL
   subst aL
   refine⟨by omega,ao,by rw[if_pos eU]; exact aj,fun b hb=> ?_⟩
   rw[if_pos eU]at hb
   have b4:=ad b hb
   refine⟨?_,fun dv dh gB hi=> ?_⟩
   ·cases ab:m.H.aY b with
    |none=>rfl
    |some x=>have:=sp r (T:=x.1) (cs:=x.2) ab; omega
   ·by_cases yH:dv=m.T
    ·omega
    ·rw[if_neg yH]at gB hi
     have:=uz r gB hi
     omega
  ·rw[if_neg eU]at aL
   obtain⟨br,bB,⟨xs,cu,hs⟩,eO⟩:=r.tok t i aL
   refine⟨by omega,bB,⟨xs,by rw[if_neg eU]; exact xF cu fun b hb=>b6 b (cu.lt b hb).2,fun rows ac=>⟨aR.aI (bV.bh r U aa aD bA b6 ad) _ _ (hs rows ac).1,(hs rows ac).2⟩⟩,fun b hb=> ?_⟩
   rw[if_neg eU]at hb
   obtain⟨g1,g2⟩:=eO b hb
   refine⟨g1,fun dv dh gB hi=> ?_⟩
   by_cases yH:dv=m.T
   ·rw[if_pos yH]at hi
    have:=ad b hi
    have:=(cu.lt b hb).2
    omega
   ·rw[if_neg yH]at gB hi
    exact g2 dv dh gB hi
def Mem.iW (m:Mem) (w':World) (b:Nat) (T:TypeId) (cs:List I):Mem:={m with w:=w',H:=m.H.cp b T cs}
theorem bV.iW {m:Mem}(r:bW m){w':World}{b:Nat}{T tj:TypeId}{cs qw:List I}(hb:m.H.aY b=some (tj,qw)) (U:w'.os=m.w.os) (aa:w'.tape=m.w.tape) (aD:w'.output=m.w.output) (bA:w'.heap.size=m.w.heap.size) (b6: ∀k,k≠b→w'.heap[k]? =m.w.heap[k]?):bV m (m.iW w' b T cs) where
 os:=U
 tape:=aa
 output:=aD
 size:=by simp [Mem.iW,bA]
 T:=bc1 _
 block:=fun k av h hU=>by
  have eg:k≠b:=fun e=>by subst e; rw[h]at hb; cases hb
  exact⟨b6 k eg,by simp only[Mem.iW,aA.cp]; rw[if_neg eg]; exact h,hU⟩
 cell:=fun k o ao=>by
  have eg:k≠b:=fun e=>by subst e; have:=ao.aY; rw[this]at hb; cases hb
  exact⟨⟨by rw[show (m.iW w' b T cs).w=w' from rfl,bA]; exact ao.lt,by simp only[Mem.iW,aA.cp]; rw[if_neg eg]; exact ao.aY,ao.tok⟩,World.cell?_of_block (a:=⟨k,o,none⟩) (b6 k eg)⟩
 tok:=fun t dh _ h=>⟨dh,h,bc1 _,rfl,fun _=>rfl⟩
theorem bW.iW {m:Mem}(r:bW m){w':World}{b:Nat}{T tj:TypeId}{cs qw:List I}{l:List Value}(hb:m.H.aY b=some (tj,qw)) (U:w'.os=m.w.os) (aa:w'.tape=m.w.tape) (aD:w'.output=m.w.output) (bA:w'.heap.size=m.w.heap.size) (b6: ∀k,k≠b→w'.heap[k]? =m.w.heap[k]?)
  (dx:w'.heap[b]? =some (.cells ⟨l⟩ T (0,0))) (aG:aR m cs l) (aj: ∀v∈l,v.oneCell'=true):bW (m.iW w' b T cs) where
 kZ:=(pF.aI (bV.iW r hb U aa aD bA b6) r.kZ r.k0).1
 k0:=(pF.aI (bV.iW r hb U aa aD bA b6) r.kZ r.k0).2
 aY:=fun k cG cC av=>by
  simp only[Mem.iW,aA.cp]at av
  by_cases e:k=b
  ·rw[if_pos e]at av
   simp only[Option.some.injEq,Prod.mk.injEq]at av
   obtain⟨rfl,rfl⟩:=av
   subst e
   exact⟨l,dx,aR.aI (bV.iW r hb U aa aD bA b6) _ l aG,aj⟩
  ·rw[if_neg e]at av
   obtain⟨bZ,ap,ay,b1⟩:=r.aY k cG cC av
   exact⟨bZ,(b6 k e).trans ap,aR.aI (bV.iW r hb U aa aD bA b6) _ bZ ay,b1⟩
 tok:=fun t i aL=>by
  obtain⟨br,bB,⟨xs,cu,hs⟩,eO⟩:=r.tok t i aL
  have eg: ∀k,(m.L t).ew=some k→k≠b:=fun k av e=>by subst e; have:=(eO k av).1; rw[this]at hb; cases hb
  refine⟨br,bB,⟨xs,xF cu fun k av=>b6 k (eg k av),fun rows ac=>⟨aR.aI (bV.iW r hb U aa aD bA b6) _ _ (hs rows ac).1,(hs rows ac).2⟩⟩,fun k av=> ?_⟩
  obtain⟨g1,g2⟩:=eO k av
  exact⟨by simp only[Mem.iW,aA.cp]; rw[if_neg (eg k av)]; exact g1,g2⟩
def Mem.gt (m:Mem) (w':World) (t:Nat) (v:Value) (o:bM):Mem:={m with w:=w',H:=m.H.ck t o,L:=fun x=>if x=t then v else m.L x}
structure Grows0 (m:Mem) (w':World) (t:Nat) (i:bM) (v:Value) (o:bM):Prop where
 os:w'.os=m.w.os
 tape:w'.tape=m.w.tape
 output:w'.output=m.w.output
 size:m.w.heap.size≤w'.heap.size
 block: ∀k,k<m.w.heap.size→(m.L t).ew≠some k→w'.heap[k]? =m.w.heap[k]?
 cell: ∀k c,(m.L t).ew=some k→c<i.n*i.size→w'.cell? ⟨k,c,none⟩=m.w.cell? ⟨k,c,none⟩
 own: ∀k,v.ew=some k→(m.L t).ew=some k∨m.w.heap.size≤k
 n:i.n≤o.n
 oM:o.size=i.size
 ty:o.ty=i.ty
 aU:i.aU≤o.aU
 same:o.aU=i.aU→v=m.L t
structure qj (m:Mem) (w':World) (t:Nat) (i:bM) (v:Value) (o:bM):Prop extends Grows0 m w' t i v o where
 row: ∃xs,w'.qU o v xs∧∀rows,o.lu=some rows→aR (m.gt w' t v o) rows.flatten xs∧(∀r∈rows,r.length=o.size)∧∀v∈xs,v.oneCell'=true
theorem bV.gt {m:Mem}(r:bW m){w':World}{t:Nat}{i:bM}{v:Value}{o:bM}(af:m.H.tok t=some i) (g:Grows0 m w' t i v o):bV m (m.gt w' t v o) where
 os:=g.os
 tape:=g.tape
 output:=g.output
 size:=g.size
 T:=bc1 _
 block:=fun b hb h hU=>⟨g.block b hb (hU t i af),h,fun dv dh gB e=>by
  simp only[Mem.gt,aA.ck]at gB e
  by_cases eU:dv=t
  ·rw[if_pos eU]at e
   rcases g.own b e with e|e
   ·exact hU t i af e
   ·omega
  ·rw[if_neg eU]at e gB
   exact hU dv dh gB e⟩
 cell:=fun b c ao=>by
  refine⟨⟨bi1 ao.lt g.size,ao.aY,fun dv dh gB e=> ?_⟩,?_⟩
  ·simp only[Mem.gt,aA.ck]at gB e
   by_cases eU:dv=t
   ·rw[if_pos eU]at e gB
    simp only[Option.some.injEq]at gB
    subst gB
    rcases g.own b e with e|e
    ·have:=ao.tok t i af e
     rw[g.oM]
     exact bi1 this (bf9 _ g.n)
    ·have:=ao.lt
     omega
   ·rw[if_neg eU]at e gB
    exact ao.tok dv dh gB e
  ·by_cases e:(m.L t).ew=some b
   ·exact g.cell b c e (ao.tok t i af e)
   ·exact World.cell?_of_block (a:=⟨b,c,none⟩) (g.block b ao.lt e)
 tok:=fun dv dh gB h=>by
  simp only[Mem.gt,aA.ck]at h ⊢
  by_cases eU:dv=t
  ·rw[if_pos eU]at h
   simp only[Option.some.injEq]at h
   subst h
   subst eU
   exact⟨i,af,g.aU,g.oM,fun e=>by rw[if_pos rfl]; exact g.same e⟩
  ·rw[if_neg eU]at h
   exact⟨dh,h,bc1 _,rfl,fun _=>by rw[if_neg eU]⟩
theorem bW.gt {m:Mem}(r:bW m){w':World}{t:Nat}{i:bM}{v:Value}{o:bM}(af:m.H.tok t=some i) (g:qj m w' t i v o):bW (m.gt w' t v o) where
 kZ:=(pF.aI (bV.gt r af g.toGrows0) r.kZ r.k0).1
 k0:=(pF.aI (bV.gt r af g.toGrows0) r.kZ r.k0).2
 aY:=fun b T cs hb=>by
  obtain⟨l,ap,ay,b1⟩:=r.aY b T cs hb
  refine⟨l,(g.block b (sp r hb) fun e=> ?_).trans ap,aR.aI (bV.gt r af g.toGrows0) cs l ay,b1⟩
  have:=((r.tok t i af).2.2.2 b e).1
  have hi:m.H.aY b=some (T,cs):=hb
  rw[this]at hi
  cases hi
 tok:=fun dv dh gB=>by
  have av:=r.tok t i af
  simp only[Mem.gt,aA.ck]at gB ⊢
  by_cases eU:dv=t
  ·rw[if_pos eU]at gB
   simp only[Option.some.injEq]at gB
   subst gB
   subst eU
   refine⟨av.1,by rw[g.oM]; exact av.2.1,by rw[if_pos rfl]; exact g.row,fun b hb=> ?_⟩
   rw[if_pos rfl]at hb
   have xh:=g.own b hb
   refine⟨?_,fun t2 i2 ms gH=> ?_⟩
   ·rcases xh with e|e
    ·exact (av.2.2.2 b e).1
    ·cases ab:m.H.aY b with
     |none=>rfl
     |some x=>have:=sp r (T:=x.1) (cs:=x.2) ab; omega
   ·by_cases ay:t2=dv
    ·exact ay
    ·rw[if_neg ay]at ms gH
     rcases xh with e|e
     ·exact (av.2.2.2 b e).2 t2 i2 ms gH
     ·have:=uz r ms gH
      omega
  ·rw[if_neg eU]at gB
   obtain⟨br,bB,⟨xs,cu,hs⟩,eO⟩:=r.tok dv dh gB
   have eg: ∀b,(m.L dv).ew=some b→(m.L t).ew≠some b:=fun b hb e=>eU ((av.2.2.2 b e).2 dv dh gB hb)
   refine⟨br,bB,⟨xs,by rw[if_neg eU]; exact xF cu fun b hb=>g.block b (cu.lt b hb).2 (eg b hb),fun rows ac=>⟨aR.aI (bV.gt r af g.toGrows0) _ _ (hs rows ac).1,(hs rows ac).2⟩⟩,fun b hb=> ?_⟩
   rw[if_neg eU]at hb
   obtain⟨g1,g2⟩:=eO b hb
   refine⟨g1,fun t2 i2 ms gH=> ?_⟩
   by_cases ay:t2=t
   ·rw[if_pos ay]at gH
    rcases g.own b gH with e|e
    ·exact absurd e (eg b hb)
    ·have:=(cu.lt b hb).2
     omega
   ·rw[if_neg ay]at ms gH
    exact g2 t2 i2 ms gH
structure HSub (H aC:aA):Prop where
 aY: ∀b x,H.aY b=some x→aC.aY b=some x
 tok: ∀t x,H.tok t=some x→aC.tok t=some x
theorem HSub.refl (H:aA):HSub H H:=⟨fun _ _ h=>h,fun _ _ h=>h⟩
theorem HSub.cp {H aC:aA}{b:Nat}{T:TypeId}{cs:List I}(h:HSub H aC) (hb:H.aY b=none):HSub H (aC.cp b T cs):=
 ⟨fun x y e=>by simp only[aA.cp]; rw[if_neg (by intro a6; subst a6; rw[hb]at e; cases e)]; exact h.aY x y e,fun x y e=>h.tok x y e⟩
theorem HSub.ck {H aC:aA}{t:Nat}{o:bM}(h:HSub H aC) (hb:H.tok t=none):HSub H (aC.ck t o):=
 ⟨fun x y e=>h.aY x y e,fun x y e=>by simp only[aA.ck]; rw[if_neg (by intro a6; subst a6; rw[hb]at e; cases e)]; exact h.tok x y e⟩
theorem HSub.vO {H aC:aA}(h:HSub H aC){b:Nat}(hb:aC.aY b=none):H.aY b=none:=by
 cases e:H.aY b with
 |none=>rfl
 |some x=>rw[h.aY b x e]at hb; cases hb
theorem HSub.Ow {H aC:aA}(h:HSub H aC){b:Nat}(hb:aC.tok b=none):H.tok b=none:=by
 cases e:H.tok b with
 |none=>rfl
 |some x=>rw[h.tok b x e]at hb; cases hb
section
variable {w:World}{H aC:aA}{L:Nat→Value}{T:Nat}
theorem l9.forget (a6:HSub H aC){b o:Nat}(h:l9 ⟨w,aC,L,T⟩ b o):l9 ⟨w,H,L,T⟩ b o:=
 ⟨h.lt,a6.vO h.aY,fun t i af hb=>h.tok t i (a6.tok t i af) hb⟩
mutual
theorem aP.forget (a6:HSub H aC): ∀(a:I) (v:Value),aP ⟨w,aC,L,T⟩ a v→aP ⟨w,H,L,T⟩ a v
 | .eD,_,_=>by simp only[aP]
 | .bool _,_,h=>by simp only[aP]at*; exact h
 | .int _ _,_,h=>by simp only[aP]at*; exact h
 | .str _,_,h=>by simp only[aP]at*; exact h
 | .dV _,_,h=>by simp only[aP]at*; exact h
 | .ptr _ _,_,h=>by simp only[aP]at*; exact h
 | .agg cs,_,h=>by simp only[aP]at*; obtain⟨l,ap,ay⟩:=h; exact⟨l,ap,aR.forget a6 cs l ay⟩
 | .c3 cs,_,h=>by simp only[aP]at*; obtain⟨l,ap,ay⟩:=h; exact⟨l,ap,aR.forget a6 cs l ay⟩
 | .aq size rows,_,h=>by
  simp only[aP]at*
  obtain⟨a,len,cap,U,aa,aD,bA⟩:=h
  exact⟨a,len,cap,U,aa,aD,bA.imp id fun⟨b,o,g1,g2⟩=>⟨b,o,g1,dK.forget a6 size rows b o g2⟩⟩
 | .own t size rows,_,h=>by
  simp only[aP]at*
  obtain⟨⟨a,len,cap,U,aa,aD,bA⟩,b6,dx⟩:=h
  exact⟨⟨a,len,cap,U,aa,aD,bA.imp id fun⟨b,o,g1,g2⟩=>⟨b,o,g1,dK.forget a6 size rows b o g2⟩⟩,b6,fun i af=>dx i (a6.tok t i af)⟩
 | .cV t aU,_,h=>by
  simp only[aP]at*
  obtain⟨aW,b6,dx⟩:=h
  exact⟨aW,b6,fun i af=>dx i (a6.tok t i af)⟩
 | .mp t aU k,_,h=>by
  simp only[aP]at*
  obtain⟨aW,b6,dx⟩:=h
  exact⟨aW,b6,fun i af=>dx i (a6.tok t i af)⟩
 | .ed row off,_,h=>by
  simp only[aP]at*
  obtain⟨b,o,U,aa⟩:=h
  exact⟨b,o,U,eS.forget a6 row b o aa⟩
 | .fn f cs,_,h=>by simp only[aP]at*; obtain⟨l,ap,ay⟩:=h; exact⟨l,ap,aR.forget a6 cs l ay⟩
 | .hW t a,_,h=>by simp only[aP]at*; obtain⟨x,ap,ay⟩:=h; exact⟨x,ap,aP.forget a6 a x ay⟩
theorem aR.forget (a6:HSub H aC): ∀(az:List I) (l:List Value),aR ⟨w,aC,L,T⟩ az l→aR ⟨w,H,L,T⟩ az l
 |[],_,h=>by simp only[aR]at*; exact h
 |a::az,_,h=>by simp only[aR]at*; obtain⟨v,aq,U,aa,aD⟩:=h; exact⟨v,aq,U,aP.forget a6 a v aa,aR.forget a6 az aq aD⟩
theorem eS.forget (a6:HSub H aC): ∀(az:List I) (b o:Nat),eS ⟨w,aC,L,T⟩ az b o→eS ⟨w,H,L,T⟩ az b o
 |[],_,_,_=>by simp only[eS]
 |a::az,b,o,h=>by
  simp only[eS]at*
  obtain⟨⟨v,U,tM,aa,aD⟩,bA⟩:=h
  exact⟨⟨v,U,tM,l9.forget a6 aa,aP.forget a6 a v aD⟩,eS.forget a6 az b (o+1) bA⟩
theorem dK.forget (a6:HSub H aC) (size:Nat): ∀(aQ:List (List I)) (b o:Nat),dK ⟨w,aC,L,T⟩ size aQ b o→dK ⟨w,H,L,T⟩ size aQ b o
 |[],_,_,_=>by simp only[dK]
 |r::aQ,b,o,h=>by
  simp only[dK]at*
  exact⟨h.1,eS.forget a6 r b o h.2.1,dK.forget a6 size aQ b (o+size) h.2.2⟩
end
theorem bW.forget (a6:HSub H aC) (h:bW ⟨w,aC,L,T⟩):bW ⟨w,H,L,T⟩ where
 kZ:=h.kZ
 k0:=fun p hp=>⟨a6.vO (h.k0 p hp).1,fun t i af=>(h.k0 p hp).2 t i (a6.tok t i af)⟩
 aY:=fun b T6 cs hb=>by
  obtain⟨l,ap,ay,b1⟩:=h.aY b T6 cs (a6.aY b _ hb)
  exact⟨l,ap,aR.forget a6 _ _ ay,b1⟩
 tok:=fun t i af=>by
  obtain⟨ap,ay,b1,dC⟩:=h.tok t i (a6.tok t i af)
  obtain⟨xs,HI,HJ⟩:=b1
  refine⟨ap,ay,⟨xs,HI,fun rows ac=>⟨aR.forget a6 _ _ (HJ rows ac).1,(HJ rows ac).2⟩⟩,fun b hb=> ?_⟩
  obtain⟨f1,f2⟩:=dC b hb
  exact⟨a6.vO f1,fun dv dh gR=>f2 dv dh (a6.tok dv dh gR)⟩
theorem bV.forget (a6:HSub H aC){m:Mem}(h:bV m ⟨w,aC,L,T⟩):bV m ⟨w,H,L,T⟩ where
 os:=h.os
 tape:=h.tape
 output:=h.output
 size:=h.size
 T:=h.T
 block:=fun b U aa aD=>by
  obtain⟨ap,ay,b1⟩:=h.block b U aa aD
  exact⟨ap,a6.vO ay,fun t i af=>b1 t i (a6.tok t i af)⟩
 cell:=fun b o ao=>by
  obtain⟨ap,ay⟩:=h.cell b o ao
  exact⟨l9.forget a6 ap,ay⟩
 tok:=fun t dh aL af=>h.tok t dh aL (a6.tok t dh af)
end
theorem HSub.o5 (H:aA) (b:Nat):HSub (H.o5 b) H:=⟨fun x y h=>by simp only[aA.o5]at h; by_cases e:x=b<;>simp [e]at h; exact h,fun _ _ h=>h⟩
def u0:I→Value→Bool
 | .bool b,.bool c=>b==c
 | .int k n,.int j c=>decide (k=j)&&decide (n=c)
 | .str s,.string b=>decide (b.data.toList=s)&&be1 s.length maxLen
 | .dV (.slice none 0 0),.slice none 0 0=>true
 | .dV (.pointer none),.pointer none=>true
 | .dV .nilFunc,.nilFunc=>true
 | .dV .nilIface,.nilIface=>true
 | .dV (.map none),.map none=>true
 | .fn f [],.func (.func g) ⟨[]⟩ ⟨[]⟩=>f==g&&bf8 f jp
 | _,_=>false
def wR:List I→List Value→Bool
 |[],[]=>true
 |a::az,v::aq=>u0 a v&&wR az aq
 | _,_=>false
def A4:List I→Value→Bool
 |l,.agg ⟨aq⟩=>wR l aq
 |[a],v=>u0 a v
 | _,_=>false
def cT:Operand→aJ→Bool
 | .tmp t,.t n=>t==n
 | .const v,.c a=>u0 a v
 | .func f,.c (.fn g [])=>f==g&&bf8 f jp
 | _,_=>false
def gu:List Operand→List aJ→Bool
 |[],[]=>true
 |x::xs,y::eh=>cT x y&&gu xs eh
 | _,_=>false
def pQ:Option Operand→Option aJ→Bool
 |none,none=>true
 |some x,some y=>cT x y
 | _,_=>false
def nN (P:Program) (t:TypeId):Option Bool:=
 match P.underlying t with
 |some (.struct _)|some (.array ..)=>some true
 |some _=>some false
 |none=>none
def jk (P:Program) (t:TypeId):Option Nat:=(P.info? t).map (·.size)
def ph (P:Program) (t:TypeId) (agg:Bool) (n:Nat):Bool:=
 decide (nN P t=some agg)&&decide (jk P t=some n)&&(agg||n==1)&& !(n==0)
def jT (P:Program) (t:TypeId):Option TypeId:=
 match P.underlying t with
 |some (.slice e)=>some e
 | _=>none
def tc (P:Program) (t:TypeId) (zero:List I):Bool:=
 match (P.info? t).bind (·.zero) with
 |some z=>A4 zero z
 |none=>false
def zy (P:Program) (t:TypeId):Option TypeId:=
 match P.underlying t with
 |some (.map kt eU)=>(match P.underlying kt with|some .string=>some eU| _=>none)
 | _=>none
def FF (P:Program) (t:TypeId) (z:I):Bool:=
 match zy P t with
 |some eU=>(match (P.info? eU).bind (·.zero) with
  |some (.int k n)=>(match z with| .int ff gT=>decide (k=ff)&&decide (n=gT)| _=>false)
  |some (.bool b)=>(match z with| .bool bT=>b==bT| _=>false)
  | _=>false)
 |none=>false
def wL (P:Program) (cg:Array Field):List (Nat×Operand)→List (Nat×Nat×aJ)→Bool
 |[],[]=>true
 |(i,x)::ps,(off,size,y)::jL=>(match cg[i]? with
  |some f=>decide (f.offset=off)&&decide (jk P f.type=some size)
  |none=>false)&&cT x y&&wL P cg ps jL
 | _,_=>false
def wM (size:Nat):List (Nat×Operand)→List (Nat×Nat×aJ)→Bool
 |[],[]=>true
 |(i,x)::ps,(off,oM,y)::jL=>decide (off=i*size)&&decide (oM=size)&&cT x y&&wM size ps jL
 | _,_=>false
def sr:List (Nat×Operand)→List (Nat×aJ)→Bool
 |[],[]=>true
 |(i,x)::ps,(j,y)::jL=>decide (i=j)&&cT x y&&sr ps jL
 | _,_=>false
def xt:Nat→List (Nat×aJ)→Bool
 | _,[]=>true
 |k,(i,_)::ps=>decide (i=k)&&xt (k+1) ps
def wZ (P:Program) (g:TypeId→Option (List l8)):Nat→List Field→Option (List l8)
 | _,[]=>some []
 |off,f::cg=>match g f.type with
  |some bH=>if f.offset=off∧f.name≠ "_" ∧jk P f.type=some bH.length∧bH≠[] then (wZ P g (off+bH.length) cg).map (bH++ ·) else none
  |none=>none
def rF (P:Program):Nat→TypeId→Option (List l8)
 |0,_=>none
 |d+1,t=>match P.underlying t with
  |some .bool=>some [.b]
  |some (.int k)=>some [.i k]
  |some .string=>some [.s]
  |some (.struct cg)=>if P.stoodInHeld t then none else wZ P (rF P d) 0 cg.toList
  | _=>none
def a67 (P:Program) (t:TypeId):Bool:=match P.underlying t with|some .bool=>true| _=>false
def bj (P:Program) (o:Op) (e:bc):Bool:=
 match o,e with
 | .move x,.gI y=>cT x y
 | .assign x,.gI y=>cT x y
 | .pick c a b,.pick cJ cI bT=>cT c cJ&&cT a cI&&cT b bT
 | .nilCheck x,.gn y=>cT x y
 | .box T x,.box cG y=>decide (T=cG)&&cT x y
 | .alloc T,.alloc cG zero=>decide (T=cG)&&tc P T zero
 | .build t parts,.build zero ps=>tc P t zero&&(match P.underlying t with
  |some (.struct cg)=>wL P cg parts.toList ps&&(cg.toList.mapM (fun f=>(P.info? f.type).map fun i=>(f.offset,i.size))).isSome
  |some (.array _ e)=>(match jk P e with|some s=>wM s parts.toList ps|none=>false)
  | _=>false)
 | .buildSlice t n parts,.et T size gT zero ps=>decide (n=gT)&&decide (jT P t=some T)&&decide (jk P T=some size)&&tc P T zero&&decide (zero.length=size)&&be1 (n*size) 65536&&sr parts.toList ps&&xt 0 ps&&decide (ps.length=n)&& !(size==0)
 | .buildSlice t n parts,.lr T size gT zero ps=>decide (n=gT)&&decide (jT P t=some T)&&decide (jk P T=some size)&&tc P T zero&&decide (zero.length=size)&&be1 (n*size) 65536&&sr parts.toList ps&&xt 0 ps&&decide (ps.length=n)&& !(size==0)
 | .buildSlice t n parts,.ma T size gT zero ps=>decide (n=gT)&&decide (jT P t=some T)&&decide (jk P T=some size)&&tc P T zero&&decide (zero.length=size)&&be1 (n*size) 65536&&sr parts.toList ps&&xt 0 ps&&decide (ps.length=n)&& !(size==0)
 | .load t x,.load agg n y=>ph P t agg n&&cT x y
 | .load t x,.ji agg n y=>ph P t agg n&&cT x y
 | .load t x,.gb _ agg n y=>ph P t agg n&&cT x y
 | .load t x,.qP agg n y=>ph P t agg n&&cT x y
 | .store t a v,.store n cI bD=>decide (jk P t=some n)&&cT a cI&&cT v bD
 | .store t a v,.gK _ _ n cI bD=>decide (jk P t=some n)&&cT a cI&&cT v bD
 | .fieldAddr s x f,.nZ off y=>cT x y&&(match P.underlying s with
  |some (.struct cg)=>(match cg[f]? with|some g=>decide (g.offset=off)&&(match jk P g.type with|some n=> !(n==0)|none=>false)|none=>false)
  | _=>false)
 | .field s x f,.field agg off n y=>cT x y&&(match P.underlying s with
  |some (.struct cg)=>(match cg[f]? with|some g=>decide (g.offset=off)&&ph P g.type agg n|none=>false)
  | _=>false)
 | .fieldAddr s x f,.js off y=>cT x y&&(match P.underlying s with
  |some (.struct cg)=>(match cg[f]? with|some g=>decide (g.offset=off)&&(match jk P g.type with|some n=> !(n==0)|none=>false)|none=>false)
  | _=>false)
 | .indexAddr t x i,.hV size y j=>cT x y&&cT i j&&(match jT P t with|some e=>decide (jk P e=some size)|none=>false)
 | .indexAddr t x i,.iJ size y j=>cT x y&&cT i j&&(match jT P t with|some e=>decide (jk P e=some size)|none=>false)
 | .indexAddr t x i,.mS len size y j=>cT x y&&cT i j&&(match P.underlying t with|some (.array n e)=>decide (n=len)&&decide (jk P e=some size)| _=>false)
 | .index t x i,.jw agg len size y j=>cT x y&&cT i j&&(match P.underlying t with|some (.array n e)=>decide (n=len)&&ph P e agg size| _=>false)
 | .index t x i,.fQ y j=>cT x y&&cT i j&&(match P.underlying t with|some .string=>true| _=>false)
 | .binOp op t x y _,.bin FX cN hZ=>decide (op=FX)&&cT x cN&&cT y hZ
 | .binOp op t x y _,.qq FX cN hZ=>decide (op=FX)&&cT x cN&&cT y hZ&&(match P.underlying t with|some .bool=>true| _=>false)
 | .binOp op t x y _,.nX neg T bH cN hZ=>decide (op=(if neg then .neq else .eql))&&decide (t=T)&&cT x cN&&cT y hZ&&decide (rF P 8 t=some bH)&& !(P.eqGuardType P.depth t)&&(match P.underlying t with|some (.struct _)=>true| _=>false)
 | .binOp op t x y _,.pd neg cN=>decide (op=(if neg then .neq else .eql))&&cT x cN&&(match y with| .const (.slice none 0 0)=>true| _=>false)&&(match jT P t with|some _=>true|none=>false)&& !(P.eqGuardType P.depth t)
 | .binOp op t x y _,.qV neg cN=>decide (op=(if neg then .neq else .eql))&&cT x cN&&(match y with| .const (.pointer none)=>true| _=>false)&&(match P.underlying t with|some (.pointer _)=>true| _=>false)&& !P.eqGuardType P.depth t
 | .makeSlice t l c,.nC T size bytes zero x=>cT l x&&cT c x&&decide (jT P t=some T)&&decide (jk P T=some size)&&tc P T zero&&(match P.info? T with|some i=>decide (i.bytes=bytes)|none=>false)
 | .makeMap t none,.mkMap T=>decide (t=T)
 | .lookup t x k ok,.iv vR z y j=>decide (ok=vR)&&cT x y&&cT k j&&FF P t z
 | .mapUpdate t x k v,.nB y j u=>cT x y&&cT k j&&cT v u&&(zy P t).isSome
 | .unOp .not _ x,.not y=>cT x y
 | .unOp .neg _ x,.neg y=>cT x y
 | .convert s d x,.conv k y=>cT x y&&(match P.underlying s with|some (.int _)=>true| _=>false)&&(match P.underlying d with|some (.int j)=>decide (j=k)| _=>false)
 | .call {callee:= .builtin .len,args,argTypes},.len y=>(match args.toList with|[x]=>cT x y| _=>false)&&(match argTypes.toList with|[t]=>(match P.underlying t with|some (.slice _)=>true| _=>false)| _=>false)
 | .call {callee:= .builtin .len,args,argTypes},.iU y=>(match args.toList with|[x]=>cT x y| _=>false)&&(match argTypes.toList with|[t]=>(match P.underlying t with|some (.slice _)=>true| _=>false)| _=>false)
 | .call {callee:= .builtin .len,args,argTypes},.iV y=>(match args.toList with|[x]=>cT x y| _=>false)&&(match argTypes.toList with|[t]=>(match P.underlying t with|some .string=>true| _=>false)| _=>false)
 | .call {callee:= .builtin .len,args,argTypes},.p1 n=>(match args.toList with|[_]=>true| _=>false)&&(match argTypes.toList with|[t]=>(match P.underlying t with|some (.array m _)=>decide (m=n)|some (.pointer a)=>(match P.underlying a with|some (.array m _)=>decide (m=n)| _=>false)| _=>false)| _=>false)
 | .call {callee:= .builtin .min,args,..},.kf false eh=>gu args.toList eh
 | .call {callee:= .builtin .max,args,..},.kf true eh=>gu args.toList eh
 | .call {callee:= .builtin .append,args,argTypes},.append T size bytes x y=>gu args.toList [x,y]&&(match argTypes.toList with
  |[t,u]=>decide (jT P t=some T)&&(decide (jT P u=some T)||(match P.underlying u,P.underlying T with|some .string,some (.int .u8)=>true| _,_=>false))&&(match P.info? T with|some i=>decide (i.size=size)&&decide (i.bytes=bytes)&&(match i.zero with|some z=>decide (z.cells.size=size)|none=>false)|none=>false)
  | _=>false)
 | .call {callee:= .builtin .append,args,argTypes},.mJ T size bytes x y=>gu args.toList [x,y]&&(match argTypes.toList with
  |[t,u]=>decide (jT P t=some T)&&(decide (jT P u=some T)||(match P.underlying u,P.underlying T with|some .string,some (.int .u8)=>true| _,_=>false))&&(match P.info? T with|some i=>decide (i.size=size)&&decide (i.bytes=bytes)&&(match i.zero with|some z=>decide (z.cells.size=size)|none=>false)|none=>false)
  | _=>false)
 | .slice t x b3 af none,.iB y mT gR=>cT x y&&pQ b3 mT&&pQ af gR&&(match P.underlying t with|some .string=>true| _=>false)
 | .slice t x b3 af lX,.gJ size y mT gR ar3=>cT x y&&pQ b3 mT&&pQ af gR&&pQ lX ar3&&(match jT P t with|some e=>decide (jk P e=some size)|none=>false)
 | .slice t x b3 af none,.mZ size y mT gR=>cT x y&&pQ b3 mT&&pQ af gR&&(match jT P t with|some e=>decide (jk P e=some size)|none=>false)
 | .extract x i,.extract j y=>cT x y&&decide (i=j)
 | .makeFunc (.func f) first gx,.jJ g eh=>decide (f=g)&&first.isEmpty&&gu gx.toList eh&&bf8 g jp
 | .makeFunc (.func f) first gx,.sO g eh=>decide (f=g)&&gx.isEmpty&&gu first.toList eh
 | .convert s d x,.nT int y=>cT x y&&(match P.underlying d with|some .string=>true| _=>false)&&(match P.underlying s with|some (.int _)=>int|some (.slice e)=>(match P.underlying e with|some (.int .u8)=> !int| _=>false)| _=>false)
 | .convert s d x,.jP T y=>cT x y&&(match P.underlying s with|some .string=>true| _=>false)&&decide (jT P d=some T)&&(match P.underlying T with|some (.int .u8)=>true| _=>false)
 | .slice t x none none none,.xT len size y=>cT x y&&(match P.underlying t with|some (.array n e)=>decide (n=len)&&decide (jk P e=some size)| _=>false)
 | .makeInterface t x,.pj T y=>decide (t=T)&&cT x y&&(match P.underlying t with|some (.interface _)=>false|some _=>true|none=>false)
 | .call {callee:= .value f,args,..},.call g eh=>(match f with| .func jH=>decide (jH=g)| _=>false)&&gu args.toList eh&&c6 P g
 | .call {callee:= .value f,args,..},.gP _ g eh=>(match f with| .func jH=>decide (jH=g)| _=>false)&&gu args.toList eh&&c6 P g
 | .call {callee:= .value f,args,..},.gj y eh=>cT f y&&gu args.toList eh
 | .call {callee:= .value f,args,..},.kT _ y eh=>cT f y&&gu args.toList eh
 | .call {callee:= .value f,args,..},.jj g eh=>(match f with| .func jH=>decide (jH=g)| _=>false)&&gu args.toList eh&&c6 P g
 | .call {callee:= .value f,args,..},.rX T size g eh=>(match f with| .func jH=>decide (jH=g)| _=>false)&&gu args.toList eh&&c6 P g
 | .call {callee:= .value f,args,..},.xH T size g eh _=>(match f with| .func jH=>decide (jH=g)| _=>false)&&gu args.toList eh&&c6 P g
 | .call {callee:= .value f,args,..},.j3 y eh=>cT f y&&gu args.toList eh
 | .call {callee:= .value f,args,..},.vV g eh _=>(match f with| .func jH=>decide (jH=g)| _=>false)&&gu args.toList eh&&c6 P g
 | .call {callee:= .value f,args,..},.vW y eh _=>cT f y&&gu args.toList eh
 | .panic x,.panic y=>cT x y
 | _,_=>false
def A3 (ops:Array Oper) (g:Option (Nat×Bool)) (h:Option (Nat×Bool)):Bool:=
 match g,h with
 |none,none=>true
 |some (j,w),some (t,w')=>decide (w=w')&&decide ((ops[j]?).bind (·.dst)=some t)
 | _,_=>false
def pP (P:Program) (n:Nat) (ops:Array Oper) (o:Oper) (i:bK):Bool:=
 decide (o.dst=i.dst)&&(match i.dst with|some d=>bf8 d n|none=>true)&&(match i.guard with|some (t,_)=>bf8 t n|none=>true)&&A3 ops o.guard i.guard&&bj P o.op i.op
def mh (P:Program) (n:Nat) (ops:Array Oper):List Oper→List bK→Bool
 |[],[]=>true
 |o::os,i::is=>pP P n ops o i&&mh P n ops os is
 | _,_=>false
def aJ.aQ2:aJ→Option Nat
 | .t n=>some n
 | .c _=>none
def bc.cF:bc→List aJ
 | .gI x| .gn x| .box _ x| .load _ _ x| .qP _ _ x| .nZ _ x| .field _ _ _ x| .not x| .neg x| .conv _ x| .len x| .iV x| .extract _ x| .pj _ x| .panic x| .iU x| .ji _ _ x| .qV _ x| .nC _ _ _ _ x| .pd _ x| .js _ x| .nT _ x| .jP _ x| .xT _ _ x=>[x]
 | .pick a b c=>[a,b,c]
 | .alloc _ _| .p1 _| .mkMap _=>[]
 | .iv _ _ x k=>[x,k]
 | .nB x k v=>[x,k,v]
 | .build _ ps=>ps.map (·.2.2)
 | .et _ _ _ _ ps| .lr _ _ _ _ ps| .ma _ _ _ _ ps=>ps.map (·.2)
 | .store _ a v=>[a,v]
 | .gb e3 _ _ x=>[.t e3,x]
 | .gK e3 o _ a v=> .t e3::a::v::o.map .t
 | .hV _ x i| .mS _ _ x i| .jw _ _ _ x i| .fQ x i| .bin _ x i| .qq _ x i| .nX _ _ _ x i| .append _ _ _ x i| .iJ _ x i| .mJ _ _ _ x i=>[x,i]
 | .kf _ xs| .jJ _ xs| .sO _ xs| .call _ xs| .jj _ xs| .vV _ xs _| .rX _ _ _ xs| .xH _ _ _ xs _=>xs
 | .iB x l h| .mZ _ x l h=>x::(l.toList++h.toList)
 | .gJ _ x l h m=>x::(l.toList++h.toList++m.toList)
 | .gj x xs| .j3 x xs| .vW x xs _=>x::xs
 | .gP o _ xs=>xs++o.map .t
 | .kT o x xs=>x::(xs++o.map .t)
def bK.reads (i:bK):List Nat:=i.op.cF.filterMap aJ.aQ2++(i.guard.map (·.1)).toList
def bc.c7:bc→Nat
 | .gI _| .qP .. | .pick .. | .gn _| .build .. | .nZ .. | .field .. | .hV .. | .mS .. | .jw .. | .fQ .. | .bin .. | .qq .. | .nX .. | .not _| .qV .. | .neg _| .conv .. | .len _| .iV _| .p1 _| .kf .. | .iB .. | .gJ .. | .extract .. | .jJ .. | .sO .. | .nT .. | .pj .. =>0
 | .load .. | .gb .. | .box .. | .alloc .. | .jP .. | .et .. | .lr .. | .jj .. | .j3 .. | .vV .. | .vW .. | .ma .. | .nC .. | .mkMap .. | .rX .. | .xH .. =>1
 | .append .. =>2
 | .store .. | .gK .. | .gP .. | .kT .. | .call .. | .gj .. | .panic _| .mZ .. | .mJ .. | .iU .. | .iJ .. | .ji .. | .pd .. | .js .. | .xT .. | .iv .. | .nB .. =>3
def bc.live:bc→Bool
 | .store .. | .gK .. | .mZ .. | .mJ .. | .iU .. | .iJ .. | .ji .. | .js .. | .iv .. | .nB .. =>true
 | _=>false
def bc.quiet:bc→Bool
 | .load .. | .gb .. | .iU .. | .iJ .. | .ji .. | .js .. | .iv .. =>true
 |op=>op.c7==0
def bc.s3:bc→Bool
 | .iU .. | .iJ .. | .ji .. | .js .. | .iv .. =>true
 | _=>false
def bc.tp:bc→Bool
 | .alloc .. | .gK .. =>true
 | _=>false
def bK.total (i:bK):Bool:=i.guard.isNone&&match i.op with
 | .gI _| .p1 _| .jJ .. | .pj .. =>true
 | _=>false
def bK.ux (i:bK):Option (Bool×Nat×List Nat):=match i.guard,i.op with
 |none,.gK e3 o _ _ _=>some (true,e3,o)
 |none,.gb e3 _ _ _=>some (false,e3,[])
 | _,_=>none
def zZ (i j:bK):Bool:=match i.ux,j.ux with
 |some (true,_,o),some (true,b,_)=>o.contains b
 |some (false,m,_),some (true,_,o)=>o.contains m
 | _,_=>false
def bc.still:bc→Bool
 | .et .. | .jP .. | .jj .. | .j3 .. | .vV .. | .vW .. =>true
 |op=>op.c7==0
def bK.oq (i:bK):Option (Option (List Nat)×Option Nat):=match i.guard,i.op with
 |none,.gP o _ _=>some (some o,none)
 |none,.kT o _ _=>some (some o,none)
 |none,.gb e3 _ _ _=>some (none,some e3)
 |none,op=>if op.still then some (none,none) else none
 |some _,_=>none
def qW (o:List Nat):Option (Option (List Nat)×Option Nat)→Bool
 |some (none,some e3)=>o.contains e3
 |some (none,none)=>true
 | _=>false
def yr (i j:bK):Bool:=match i.oq,j.oq with
 |some (some o,_),x=>qW o x
 |x,some (some o,_)=>qW o x
 | _,_=>false
def indep (i j:bK):Bool:=
 (match i.dst with|some d=> !j.reads.contains d&& !(j.dst==some d)|none=>true)&&
 (match j.dst with|some d=> !i.reads.contains d|none=>true)&&
 (yr i j||i.op.c7==0||(i.op.quiet&&j.op.quiet)||(i.op.s3&&j.op.tp)||(i.op.live&&j.op.c7==0)||zZ i j||(i.op.c7==3&&j.total)||(i.op.c7≤2&&j.op.c7≤2&& !(i.op.c7==2&&j.op.c7==2)))
def Ih (ops:List Oper):List Nat:=
 ops.foldl (fun acc o=>acc++[o.after.foldl (fun s e=>if Region.binds .any e then s|||2^e.on|||acc.getD e.on 0 else s) 0]) []
def vS (ops:List Oper) (is:List bK):Bool:=
 let Ub:=Ih ops
 (ops.zipIdx.all fun (o,i)=>o.after.all fun e=> !Region.binds .any e||bf8 e.on i)&&
 (is.zipIdx.all fun (y,j)=>is.zipIdx.all fun (x,i)=> !(bf8 i j)||(Ub.getD j 0).testBit i||indep x y)
def kU (P:Program) (n:Nat):Code→bp→Bool
 | .skip,.skip=>true
 | .region _ ops draw,.region is Yq=>draw==Yq&&mh P n ops ops.toList is&&(!draw||vS ops.toList is)
 | .seq a b,.seq c d=>kU P n a c&&kU P n b d
 | .cond c a b,.cond cJ cI bT=>cT c cJ&&kU P n a cI&&kU P n b bT
 | .block i a,.block j b=>i==j&&kU P n a b
 | .loop a,.loop b=>kU P n a b
 | .exit i,.exit j=>i==j
 | .ret,.ret=>true
 | .region _ ops false,.sv d f cap=>bf8 d n&&c6 P f&&match ops.toList with
  |[e4,fT]=>e4.dst==some d&&e4.guard.isNone&&fT.dst==none&&fT.guard.isNone&&(match e4.op with| .makeFunc (.func g) first gx=>decide (g=f)&&first.isEmpty&&gu gx.toList cap| _=>false)&&(match fT.op with| .defer {callee:= .value (.tmp t),args,..}=>t==d&&args.isEmpty| _=>false)
  | _=>false
 | _,_=>false
def mi (P:Program):List ResultVar→List bf→Bool
 |[],[]=>true
 | .tmp t::l,.t n::bZ=>t==n&&mi P l bZ
 | .cell t ty::l,.cell agg n dv::bZ=>t==dv&&ph P ty agg n&&mi P l bZ
 | _,_=>false
def bL (P:Program) (fn:Func) (as1:Nat) (e:bp) (aQ:List bf):Bool:=
 be1 as1 fn.ntmps&&mi P fn.results.toList aQ&&match fn.body with
 |some c=>kU P fn.ntmps c e
 |none=>false
end Go.ba
namespace Go.ba
open Go
theorem wH (s:List UInt8):(⟨⟨s⟩⟩:ByteArray).toList=s:=by
 rw[Lib.toList_data]
theorem IN (b:ByteArray):b=⟨⟨b.data.toList⟩⟩:=rfl
theorem US (s t:List UInt8):(⟨⟨s⟩⟩:ByteArray)++⟨⟨t⟩⟩=⟨⟨s++t⟩⟩:=by
 rw[IN ((⟨⟨s⟩⟩:ByteArray)++⟨⟨t⟩⟩)]
 rw[Joins.data_append]
theorem IM (s:List UInt8) (l h:Nat):(⟨⟨s⟩⟩:ByteArray).extract l h=⟨⟨(s.take h).drop l⟩⟩:=by
 rw[IN (ByteArray.extract _ _ _)]
 congr 2
 rw[Lib.extract_data]
 simp only[bq6]
theorem DQ {m:Mem}{a:I}{v:Value}(h:u0 a v=true):aP m a v:=by
 unfold u0 at h
 split at h<;>first
  |(simp only[aP]; done)
  |(simp only[aP]; simp at h; subst h; rfl)
  |(simp only[aP]; simp at h; obtain⟨rfl,rfl⟩:=h; rfl)
  |skip
 ·simp only[aP]
  simp only[bb6,decide_eq_true_eq]at h
  obtain⟨rfl,aa⟩:=h
  exact⟨rfl,bh6 aa⟩
 ·rename_i f g
  simp at h
  obtain⟨rfl,hb⟩:=h
  simp only[aP,aR]
  exact⟨[],(vf hb []).symm,rfl⟩
 ·cases h
theorem JB {a:I}{v:Value}(h:u0 a v=true):v.oneCell'=true:=by
 unfold u0 at h
 split at h<;>first|rfl|cases h
theorem JA {m:Mem}: ∀ {az:List I}{l:List Value},wR az l=true→aR m az l∧∀v∈l,v.oneCell'=true
 |[],[],_=>⟨by simp only[aR],by simp⟩
 |[],_:: _,h=>by simp [wR]at h
 | _:: _,[],h=>by simp [wR]at h
 |a::az,v::l,h=>by
  simp only[wR,bb6]at h
  obtain⟨br,bB⟩:=JA (m:=m) h.2
  refine⟨by simp only[aR]; exact⟨v,l,rfl,DQ h.1,br⟩,fun u hu=> ?_⟩
  rcases List.mem_cons.1 hu with rfl|hu
  ·exact JB h.1
  ·exact bB u hu
theorem A5 {m:Mem}{az:List I}{z:Value}(h:A4 az z=true):aR m az z.cells.toList∧∀v∈z.cells.toList,v.oneCell'=true:=by
 unfold A4 at h
 split at h
 ·exact JA h
 ·rename_i a v eg
  have aj:=JB h
  have ac:=DQ (m:=m) h
  have an:Value.cells z= #[z]:=by
   cases z<;>first|rfl|(simp [Value.oneCell']at aj)
  rw[an]
  refine⟨by simp only[aR]; exact⟨z,[],rfl,ac,rfl⟩,fun u hu=> ?_⟩
  simp at hu
  subst hu
  exact aj
 ·cases h
def dR (m:Mem) (env:Env) (tmps:Array Value):Prop:=∀k,aP m (env.get k) (tmps.getD k undef)
theorem db {m:Mem}{env:Env}{a:Act}{x:Operand}{y:aJ}(he:dR m env a.tmps) (h:cT x y=true):aP m (y.aI env) (a.eval x):=by
 unfold cT at h
 split at h
 ·rename_i t n
  have e:t=n:=by simpa using h
  subst e
  exact he t
 ·exact DQ h
 ·rename_i f g
  have e:f=g∧f<jp:=by simpa using h
  obtain⟨rfl,hb⟩:=e
  simp only[aJ.aI,aP,aR,Act.eval]
  exact⟨[],(vf hb []).symm,rfl⟩
 ·cases h
theorem ot {m:Mem}{env:Env}{a:Act}(he:dR m env a.tmps): ∀ {xs:List Operand}{eh:List aJ},gu xs eh=true→aR m (eh.map (aJ.aI env)) (xs.map a.eval)
 |[],[],_=>by simp only[bg5,aR]
 |[],_:: _,h=>by simp [gu]at h
 | _:: _,[],h=>by simp [gu]at h
 |x::xs,y::eh,h=>by
  simp only[gu,bb6]at h
  simp only[bd4,aR]
  exact⟨_,_,rfl,db he h.1,ot he h.2⟩
theorem zI {m:Mem}{a:I}{v:Value}(h:aP m a v) (aj:a.one=true):v.oneCell'=true:=by
 cases a<;>simp only[aP,I.one]at h aj<;>first
  |exact absurd aj br9
  |(obtain⟨rfl,_⟩:=h; rfl)
  |(subst h; first|rfl|exact aj)
  |exact h.1
  |(obtain⟨_,_,_,rfl,_⟩:=h; rfl)
  |(obtain⟨⟨_,_,_,rfl,_⟩,_⟩:=h; rfl)
  |(obtain⟨_,_,rfl,_⟩:=h; rfl)
  |(obtain⟨_,rfl,_⟩:=h; first|rfl|(unfold qD; split<;>rfl))
theorem Jb {v:Value}(h:v.oneCell'=true):v.cells= #[v]:=by
 cases v<;>first|rfl|(simp [Value.oneCell']at h)
theorem A1 {m:Mem}{a:I}{v:Value}(h:aP m a v) (aj:a.cells.all I.one=true):aR m a.cells v.cells.toList∧∀u∈v.cells.toList,u.oneCell'=true:=by
 cases aS:a with
 |agg cs=>
  subst aS
  simp only[aP]at h
  obtain⟨l,rfl,aa⟩:=h
  refine⟨aa,fun u hu=> ?_⟩
  simp only[I.cells,bj8]at aj
  obtain⟨i,af⟩:=bf4 hu
  have gR:i<l.length:=(List.getElem?_eq_some_iff.1 af).1
  rw[aR.length aa]at gR
  obtain⟨bD,ap,ay⟩:=aR.get aa i cs[i] (bd1 gR)
  have:bD=u:=by
   have ab9:l[i]? =some u:=af
   rw[ab9]at ap
   simpa using ap.symm
  subst this
  exact zI ay (aj _ (List.getElem_mem gR))
 | _=>
  subst aS
  simp only[I.cells,bd3,bk2,be0]at aj ⊢
  have U:=zI h aj
  rw[Jb U]
  refine⟨by simp only[aR]; exact⟨v,[],rfl,h,rfl⟩,fun u hu=> ?_⟩
  simp at hu
  subst hu
  exact U
theorem jM {m:Mem}{k n v}(h:aP m (.int k n) v):v= .int k n:=by simpa only[aP] using h
theorem s0 {m:Mem}{b v}(h:aP m (.bool b) v):v= .bool b:=by simpa only[aP] using h
theorem qZ {m:Mem}{s v}(h:aP m (.str s) v):v= .string ⟨⟨s⟩⟩∧s.length≤maxLen:=by simpa only[aP] using h
theorem ur {m:Mem}{b o v}(h:aP m (.ptr b o) v):v= .pointer (some ⟨b,o,none⟩):=by simpa only[aP] using h
theorem uu {m:Mem}{x v}(h:aP m (.dV x) v):v=x:=by simpa only[aP] using h
theorem xP {m:Mem}{r o v}(h:aP m (.ed r o) v): ∃b p,v= .pointer (some ⟨b,p+o,none⟩)∧eS m r b p:=by simpa only[aP] using h
theorem zV {m:Mem}{cs v}(h:aP m (.agg cs) v): ∃l,v= .agg ⟨l⟩∧aR m cs l:=by simpa only[aP] using h
theorem aJ8 {m:Mem}{cs v}(h:aP m (.c3 cs) v): ∃l,v= .tuple ⟨l⟩∧aR m cs l:=by simpa only[aP] using h
theorem wa {m:Mem}{f cs v}(h:aP m (.fn f cs) v): ∃l,v=qD f l∧aR m cs l:=by simpa only[aP] using h
theorem xQ {m:Mem}{size rows v}(h:aP m (.aq size rows) v): ∃a cap,v= .slice a rows.length cap∧(rows.length≤cap∧cap≤maxLen)∧(rows.length=0∨∃b o,a=some ⟨b,o,none⟩∧dK m size rows b o):=by
 simp only[aP]at h
 obtain⟨a,len,cap,rfl,rfl,aD,bA⟩:=h
 exact⟨a,cap,rfl,aD,bA⟩
theorem xO {m:Mem}{t size rows v}(h:aP m (.own t size rows) v):aP m (.aq size rows) v:=by
 simp only[aP]at h ⊢
 exact h.1
theorem zE {m:Mem}{agg:Bool}{cs:List I}{r:I}{l:List Value}(h:I.iA agg cs=some r) (aG:aR m cs l):(agg=true∧aP m r (.agg ⟨l⟩))∨(agg=false∧∃v,l=[v]∧aP m r v):=by
 unfold I.iA at h
 cases agg with
 |true=>
  simp at h
  subst h
  exact .inl ⟨rfl,by simp only[aP]; exact⟨l,rfl,aG⟩⟩
 |false=>
  simp only[cond_false]at h
  split at h
  ·rename_i a
   simp at h
   subst h
   simp only[aR]at aG
   obtain⟨v,aq,rfl,U,rfl⟩:=aG
   exact .inr ⟨rfl,v,rfl,U⟩
  ·cases h
theorem xN {P:Program}{t:TypeId}{b:Bool}(h:nN P t=some b) (w:World):(isAgg t).run P w= .ok b w:=by
 unfold nN at h
 split at h
 ·rename_i hu; simp at h; subst h; simp [isAgg,run_underlying hu]
 ·rename_i hu; simp at h; subst h; simp [isAgg,run_underlying hu]
 ·rename_i d U aa hu
  simp at h; subst h
  cases d<;>first|(exact (U _ rfl).elim)|(exact (aa _ _ rfl).elim)|(simp [isAgg,run_underlying hu]; done)
 ·cases h
theorem CK {P:Program}{t:TypeId}{n:Nat}(h:jk P t=some n): ∃i,P.info? t=some i∧i.size=n:=by
 unfold jk at h
 cases af:P.info? t with
 |none=>simp [af]at h
 |some i=>simp [af]at h; exact⟨i,rfl,h⟩
theorem mY {P:Program}{t:TypeId}{n:Nat}(h:jk P t=some n) (w:World):(sizeOf t).run P w= .ok n w:=by
 obtain⟨i,af,rfl⟩:=CK h
 simp [sizeOf,typeInfo,af]
theorem zs {P:Program}{t:TypeId}{agg:Bool}{n:Nat}(h:ph P t agg n=true):nN P t=some agg∧jk P t=some n∧(agg=false→n=1)∧n≠0:=by
 simp only[ph,bb6,decide_eq_true_eq]at h
 obtain⟨⟨⟨U,aa⟩,aD⟩,bA⟩:=h
 refine⟨U,aa,fun e=> ?_,?_⟩
 ·subst e; simpa using aD
 ·simpa using bA
theorem np (b o n:Nat):(⟨b,o,none⟩:Addr).add n=⟨b,o+n,none⟩:=by
 unfold Addr.add
 split
 ·subst_vars; rfl
 ·rfl
theorem GR {P:Program}{w:World}{t:TypeId}{agg:Bool}{n:Nat}(h:ph P t agg n=true) (b o:Nat) (l:List Value) (aG:l.length=n) (an: ∀j v,l[j]? =some v→w.cell? ⟨b,o+j,none⟩=some v):
  (loadVar t ⟨b,o,none⟩).run P w= .ok (if agg then .agg ⟨l⟩ else l.getD 0 undef) w:=by
 obtain⟨U,aa,aD,bA⟩:=zs h
 cases agg with
 |true=>
  have:=run_loadCells_list (P:=P) w ⟨b,o,none⟩ l (fun j v bm=>by rw[np]; exact an j v bm)
  rw[aG]at this
  simp [loadVar,xN U,mY aa,this]
 |false=>
  have a1:=aD rfl
  subst a1
  match l,aG with
  |[v],_=>
   have:=an 0 v rfl
   simp at this
   simp [loadVar,xN U,this]
theorem Ss {P:Program}{w:World}{t:TypeId}{agg:Bool}{n:Nat}(h:ph P t agg n=true) (l:List Value) (off:Nat) (aG:off+n≤l.length):
  (part t ⟨l⟩ off).run P w= .ok (if agg then .agg ⟨(l.drop off).take n⟩ else l.getD off undef) w:=by
 obtain⟨U,aa,aD,bA⟩:=zs h
 cases agg with
 |true=>
  simp [part,xN U,mY aa,List.take_drop,bl1]
 |false=>
  have a1:=aD rfl
  have cz:off<l.length:=by omega
  simp [part,xN U,cz]
theorem Ms (l:List Value) (o:Nat):l.getD o undef=(l.drop o).getD 0 undef:=by
 simp [List.getD]
theorem Bo {P:Program}{w:World}(op:BinOp) (t:TypeId) (x y:Operand) (k j:IntKind) (a b:Int):(eqGuard op t x y (.int k a) (.int j b)).run P w= .ok () w:=by
 unfold eqGuard; cases op<;>rfl
theorem Mb {P:Program}{w:World}(op:BinOp) (t:TypeId) (x y:Operand) (a b:ByteArray):(eqGuard op t x y (.string a) (.string b)).run P w= .ok () w:=by
 unfold eqGuard; cases op<;>rfl
theorem YM {P:Program}{w:World}(op:BinOp) (t:TypeId) (x y:Operand) (a b:Bool):(eqGuard op t x y (.bool a) (.bool b)).run P w= .ok () w:=by
 unfold eqGuard; cases op<;>rfl
theorem Ma {P:Program}{w:World}(op:BinOp) (t:TypeId) (x y:Operand) (a b:Array Value) (h:P.eqGuardType P.depth t=false):(eqGuard op t x y (.agg a) (.agg b)).run P w= .ok () w:=by
 unfold eqGuard; cases op<;>simp [h]
theorem YJ {l:IntKind}{a b:I}{r:Bool}(h:nY (.i l) a b=some r): ∃n j,a= .int l n∧b= .int l j∧r=decide (n=j):=by
 cases a<;>cases b<;>simp [nY]at h
 obtain⟨⟨rfl,rfl⟩,rfl⟩:=h
 exact⟨_,_,rfl,rfl,rfl⟩
theorem YL {a b:I}{r:Bool}(h:nY .s a b=some r): ∃n j,a= .str n∧b= .str j∧r=decide (n=j):=by
 cases a<;>cases b<;>simp [nY]at h
 subst h
 exact⟨_,_,rfl,rfl,rfl⟩
theorem YI {a b:I}{r:Bool}(h:nY .b a b=some r): ∃n j,a= .bool n∧b= .bool j∧r=(n==j):=by
 cases a<;>cases b<;>simp [nY]at h
 subst h
 exact⟨_,_,rfl,rfl,rfl⟩
theorem Eo: ∀ {bH:List l8}{cs jd:List I}{r:Bool},ha bH cs jd=some r→cs.length=bH.length∧jd.length=bH.length
 |[],[],[],_,_=>⟨rfl,rfl⟩
 |k::bH,a::cs,b::jd,r,h=>by
  simp only[ha]at h
  split at h
  ·rename_i x y U aa
   obtain⟨ap,ay⟩:=Eo aa
   simp [ap,ay]
  ·cases h
 |[],[],_:: _,_,h=>by simp [ha]at h
 |[],_:: _,_,_,h=>by simp [ha]at h
 | _:: _,[],_,_,h=>by simp [ha]at h
 | _:: _,_:: _,[],_,h=>by simp [ha]at h
theorem L9: ∀ {bH vI:List l8}{cs jd:List I}{r:Bool},ha (bH++vI) cs jd=some r→∃cm cA,ha bH (cs.take bH.length) (jd.take bH.length)=some cm∧ha vI (cs.drop bH.length) (jd.drop bH.length)=some cA∧r=(cm&&cA)
 |[],vI,cs,jd,r,h=>⟨true,r,by simp [ha],by simpa using h,by simp⟩
 | _:: _,_,[],_,_,h=>by simp [ha]at h
 | _:: _,_,_:: _,[],_,h=>by simp [ha]at h
 |k::bH,vI,a::cs,b::jd,r,h=>by
  simp only[bd2,ha]at h
  split at h
  ·rename_i x y U aa
   obtain⟨cm,cA,ap,ay,rfl⟩:=L9 aa
   simp at h
   exact⟨x&&cm,cA,by simp [ha,U,ap],by simpa using ay,by rw[←h,Bool.and_assoc]⟩
  ·cases h
def vP (agg:Bool) (l:List Value):Value:=if agg then .agg ⟨l⟩ else l.getD 0 undef
theorem St {P:Program}{w:World}{t:TypeId}{agg:Bool}{n:Nat}(U:nN P t=some agg) (aa:jk P t=some n) (aD:agg=false→n=1) (l:List Value) (off:Nat) (aG:off+n≤l.length):
  (part t ⟨l⟩ off).run P w= .ok (vP agg ((l.drop off).take n)) w:=by
 cases agg with
 |true=>simp [part,xN U,mY aa,vP,List.take_drop,bl1]
 |false=>
  have a1:=aD rfl
  have cz:off<l.length:=by omega
  subst a1
  simp [part,xN U,cz,vP,List.getD,be8]
theorem Y4 {P:Program}: ∀ {d:Nat}{t:TypeId}{bH:List l8},rF P d t=some bH→∃agg,nN P t=some agg∧(agg=false→bH.length=1)
 |0,_,_,h=>by simp [rF]at h
 |d+1,t,bH,h=>by
  simp only[rF]at h
  split at h<;>first
   |(cases h; done)
   |(rename_i hu; simp only[Option.some.injEq]at h; subst h; exact⟨false,by simp [nN,hu],fun _=>rfl⟩)
   |(rename_i hu; exact⟨true,by simp [nN,hu],fun e=>by cases e⟩)
theorem JK (s u:List UInt8):((⟨⟨s⟩⟩:ByteArray).toList==(⟨⟨u⟩⟩:ByteArray).toList)=decide (s=u):=by
 rw[wH,wH]
 rw[Bool.eq_iff_iff]
 simp
theorem Mc {P:Program}{w:World}{m:Mem}: ∀(d:Nat){t:TypeId}{bH:List l8}{agg:Bool}{cs jd:List I}{xs eh:List Value}{r:Bool}(e:Nat),rF P d t=some bH→nN P t=some agg→aR m cs xs→aR m jd eh→ha bH cs jd=some r→
  (Op.equalIn (d+e) t (vP agg xs) (vP agg eh)).run P w= .ok r w
 |0,_,_,_,_,_,_,_,_,_,h,_,_,_,_=>by simp [rF]at h
 |d+1,t,bH,agg,cs,jd,xs,eh,r,e,h,aS,ab,a8,ac=>by
  rw[show d+1+e=(d+e)+1 by omega]
  simp only[rF]at h
  have one: ∀k,bH=[k]→agg=false→∃a b x y,nY k a b=some r∧aP m a x∧aP m b y∧vP agg xs=x∧vP agg eh=y:=by
   rintro k rfl rfl
   match cs,jd,ac with
   |[a],[b],ac=>
    simp only[aR]at ab a8
    obtain⟨x,_,rfl,ab,rfl⟩:=ab
    obtain⟨y,_,rfl,a8,rfl⟩:=a8
    simp only[ha]at ac
    split at ac
    ·rename_i p q U aa
     simp at aa ac
     subst aa
     simp at ac
     subst ac
     exact⟨a,b,x,y,U,ab,a8,rfl,rfl⟩
    ·cases ac
   |[],_,ac=>simp [ha]at ac
   | _:: _,[],ac=>simp [ha]at ac
   | _:: _:: _,_:: _,ac=>simp [ha]at ac
   |[_],_:: _:: _,ac=>simp [ha]at ac
  split at h
  ·rename_i hu
   simp at h
   have vp:agg=false:=by simp [nN,hu]at aS; exact aS
   obtain⟨a,b,x,y,U,aa,aD,ap,ay⟩:=one _ h.symm vp
   rw[ap,ay]
   obtain⟨p,q,rfl,rfl,rfl⟩:=YI U
   rw[s0 aa,s0 aD,run_equalIn_bool' _ _ _ _ _ hu]
  ·rename_i k hu
   simp at h
   have vp:agg=false:=by simp [nN,hu]at aS; exact aS
   obtain⟨a,b,x,y,U,aa,aD,ap,ay⟩:=one _ h.symm vp
   rw[ap,ay]
   obtain⟨p,q,rfl,rfl,rfl⟩:=YJ U
   rw[jM aa,jM aD,run_equalIn_int _ _ _ _ _ _ _ hu]
   congr 1
  ·rename_i hu
   simp at h
   have vp:agg=false:=by simp [nN,hu]at aS; exact aS
   obtain⟨a,b,x,y,U,aa,aD,ap,ay⟩:=one _ h.symm vp
   rw[ap,ay]
   obtain⟨p,q,rfl,rfl,rfl⟩:=YL U
   rw[(qZ aa).1,(qZ aD).1,run_equalIn_string _ _ _ _ _ hu,JK]
  ·rename_i cg hu
   split at h
   ·cases h
   ·rename_i lD
    have vp:agg=true:=by simp [nN,hu]at aS; exact aS
    subst vp
    have aT:P.fieldsOf t=cg:=by simp [Program.fieldsOf,hu]
    show (Op.equalIn ((d+e)+1) t (.agg ⟨xs⟩) (.agg ⟨eh⟩)).run P w= _
    rw[run_equalIn_struct w (d+e) t ⟨xs⟩ ⟨eh⟩ (by rw[aT]; exact hu) (by simpa using lD),aT]
    have key: ∀(cg:List Field) (off:Nat) (bH:List l8) (r:Bool),wZ P (rF P d) off cg=some bH→ha bH (cs.drop off) (jd.drop off)=some r→(Op.eqFields (d+e) ⟨xs⟩ ⟨eh⟩ cg).run P w= .ok r w:=by
     intro cg
     induction cg with
     |nil=>
      intro off bH r U aa
      simp [wZ]at U
      subst U
      have:=Eo aa
      simp at this
      rw[show cs.drop off=[] by exact bc6 (by omega),show jd.drop off=[] by exact bc6 (by omega)]at aa
      simp [ha]at aa
      subst aa
      simp [Op.eqFields]
     |cons f cg b7=>
      intro off bH r U aa
      simp only[wZ]at U
      split at U
      ·rename_i br Nk
       split at U
       ·rename_i an
        obtain⟨yW,yX,xg,Z9⟩:=an
        cases lT:wZ P (rF P d) (off+br.length) cg with
        |none=>simp [lT]at U
        |some bB=>
         simp [lT]at U
         subst U
         obtain⟨cm,cA,g1,g2,rfl⟩:=L9 aa
         rw[bm5,bm5]at g2
         obtain⟨Ie,rG,gs⟩:=Y4 Nk
         have ae5:0<br.length:=List.length_pos_iff.2 Z9
         have hle:=Eo aa
         simp only[bl7,bb7]at hle
         have rN:off+br.length≤xs.length:=by have:=aR.length ab; omega
         have mr:off+br.length≤eh.length:=by have:=aR.length a8; omega
         have fU:=St (w:=w) rG xg gs xs off rN
         have hX:=St (w:=w) rG xg gs eh off mr
         have bu:=Mc d e Nk rG (aR.take br.length (aR.drop off ab)) (aR.take br.length (aR.drop off a8)) g1 (w:=w)
         simp only[Op.eqFields,yX,ne_eq,not_false_eq_true,if_true,Sem.run_bind,yW,fU,hX,Result.andThen_ok,bu]
         cases cm with
         |false=>simp
         |true=>simpa using b7 _ _ _ lT g2
       ·cases U
      ·cases U
    exact key cg.toList 0 bH r h (by simpa using ac)
  ·cases h
def fJ (P:Program) (m:Mem) (a:Act) (o:Oper) (r:I):Prop:=
 ∃v,(execOp a.eval o).run P m.w= .ok (.value v) m.w∧aP m r v
section
variable {P:Program}{m:Mem}{env:Env}{a:Act}{o:Oper}
theorem PX {x y}(he:dR m env a.tmps) (aj:o.op= .move x∨o.op= .assign x) (h:cT x y=true):fJ P m a o (y.aI env):=
 ⟨a.eval x,by rcases aj with aj|aj<;>simp [execOp,aj],db he h⟩
theorem aF9 {c x y cJ cN hZ r}(he:dR m env a.tmps) (aj:o.op= .pick c x y) (U:cT c cJ=true) (aa:cT x cN=true) (aD:cT y hZ=true) (H:aA) (hp:bX (.pick cJ cN hZ) env H=some r):fJ P m a o r:=by
 simp only[bX]at hp
 have an:=db he U
 split at hp
 ·rename_i e; simp at hp; subst hp; rw[e]at an
  exact⟨a.eval x,by simp [execOp,aj,s0 an,asBool],db he aa⟩
 ·rename_i e; simp at hp; subst hp; rw[e]at an
  exact⟨a.eval y,by simp [execOp,aj,s0 an,asBool],db he aD⟩
 ·cases hp
theorem aF7 {x y r}(he:dR m env a.tmps) (aj:o.op= .nilCheck x) (U:cT x y=true) (H:aA) (hp:bX (.gn y) env H=some r):fJ P m a o r:=by
 simp only[bX]at hp
 have an:=db he U
 split at hp
 ·rename_i e; simp at hp; subst hp; rw[e]at an
  exact⟨_,by simp [execOp,aj,ur an]; rfl,by simp only[aP]⟩
 ·rename_i e; simp at hp; subst hp; rw[e]at an
  obtain⟨b,p,ap,ay⟩:=xP an
  exact⟨_,by simp [execOp,aj,ap]; rfl,by simp only[aP]; exact⟨b,p,rfl,ay⟩⟩
 ·rename_i e; simp at hp; subst hp; rw[e]at an
  obtain⟨l,ap,ay⟩:=wa an
  refine⟨a.eval x,?_,by simp only[aP]; exact⟨l,ap,ay⟩⟩
  unfold qD at ap
  split at ap<;>simp [execOp,aj,ap]
 ·cases hp
theorem aE8 {t x f off y r}(he:dR m env a.tmps) (aj:o.op= .fieldAddr t x f) (h:bj P o.op (.nZ off y)=true) (H:aA) (hp:bX (.nZ off y) env H=some r):fJ P m a o r:=by
 rw[aj]at h
 simp only[bj,bb6]at h
 obtain⟨U,aa⟩:=h
 have an:=db he U
 split at aa
 ·rename_i cg hu
  split at aa
  ·rename_i g bo
   simp only[bb6,decide_eq_true_eq]at aa
   obtain⟨aa,aD⟩:=aa
   split at aD
   ·rename_i n a1
    have vx:n≠0:=by simpa using aD
    have kz: ∀b p,a.eval x= .pointer (some ⟨b,p,none⟩)→(execOp a.eval o).run P m.w= .ok (.value (.pointer (some ⟨b,p+off,none⟩))) m.w:=by
     intro b p e
     simp [execOp,aj,Instr.fieldAt,run_underlying hu,bo,e,Instr.sureAddr,fieldPlace,mY a1,vx,np,aa]
    simp only[bX]at hp
    split at hp
    ·rename_i b p e; simp at hp; subst hp; rw[e]at an
     exact⟨_,kz _ _ (ur an),by simp only[aP]⟩
    ·rename_i row p e; simp at hp; subst hp; rw[e]at an
     obtain⟨b,q,ap,ay⟩:=xP an
     exact⟨_,kz _ _ ap,by simp only[aP]; exact⟨b,q,by rw[bj2],ay⟩⟩
    ·cases hp
   ·cases aD
  ·cases aa
 ·cases aa
theorem ax2 {agg n x env H r}(hp:bX (.qP agg n x) env H=some r):bX (.load agg n x) env H=some r:=by
 simp only[bX]at hp ⊢
 split at hp
 ·rename_i row o e
  rw[e]
  exact hp
 ·cases hp
theorem F3 {e3 agg n x env H r}(hp:bX (.gb e3 agg n x) env H=some r):bX (.load agg n x) env H=some r∧∃b o,env.get e3= .ptr b 0∧x.aI env= .ptr b o:=by
 simp only[bX]at hp ⊢
 split at hp
 ·rename_i b bT o ap ay
  split at hp
  ·rename_i hb
   subst hb
   rw[ay]
   exact⟨hp,_,_,ap,rfl⟩
  ·cases hp
 ·cases hp
theorem ax1 {e3 agg n x env H r b o}(hp:bX (.load agg n x) env H=some r) (U:env.get e3= .ptr b 0) (aa:x.aI env= .ptr b o):bX (.gb e3 agg n x) env H=some r:=by
 simp only[bX,aa]at hp
 simp only[bX,U,aa,if_true]
 exact hp
theorem Gs {t x agg n y r}(he:dR m env a.tmps) (bd:bW m) (aj:o.op= .load t x) (U:ph P t agg n=true) (aa:cT x y=true) (hp:bX (.load agg n y) env m.H=some r):fJ P m a o r:=by
 have an:=db he aa
 simp only[bX]at hp
 have fin: ∀b p (l:List Value) (cs:List I),a.eval x= .pointer (some ⟨b,p,none⟩)→I.iA agg cs=some r→aR m cs l→l.length=n→(∀j v,l[j]? =some v→m.w.cell? ⟨b,p+j,none⟩=some v)→fJ P m a o r:=by
  intro b p l cs ap ay b1 dC gF
  refine⟨if agg then .agg ⟨l⟩ else l.getD 0 undef,by simp [execOp,aj,Instr.loadAt,ap,Instr.sureAddr,GR U b p l dC gF],?_⟩
  rcases zE ay b1 with ⟨rfl,h⟩|⟨rfl,v,rfl,h⟩
  ·exact h
  ·exact h
 split at hp
 ·rename_i b p e
  rw[e]at an
  split at hp
  ·rename_i T cs hb
   split at hp
   ·rename_i hle
    obtain⟨l,g1,g2,g3⟩:=bd.aY b _ cs hb
    refine fin b p ((l.drop p).take n) _ (ur an) hp (aR.take n (aR.drop p g2)) ?_ fun j v bm=> ?_
    ·have:=aR.length g2
     simp; omega
    ·rw[cell_of_row m.w b _ _ _ _ g1]
     rw[be8]at bm
     split at bm
     ·rw[bj0]at bm
      simpa using bm
     ·cases bm
   ·cases hp
  ·cases hp
 ·rename_i row p e
  rw[e]at an
  obtain⟨b,q,ap,ay⟩:=xP an
  split at hp
  ·rename_i hle
   obtain⟨l,g1,g2⟩:=eS.wk ay
   refine fin b (q+p) ((l.drop p).take n) _ ap hp (aR.take n (aR.drop p g1)) ?_ fun j v bm=> ?_
   ·have:=aR.length g1
    simp; omega
   ·rw[be8]at bm
    split at bm
    ·rw[bj0]at bm
     rw[bj2]
     exact (g2 _ v bm).1
    ·cases bm
  ·cases hp
 ·cases hp
theorem aE9 {t x f agg off n y r}(he:dR m env a.tmps) (aj:o.op= .field t x f) (h:bj P o.op (.field agg off n y)=true) (H:aA) (hp:bX (.field agg off n y) env H=some r):fJ P m a o r:=by
 rw[aj]at h
 simp only[bj,bb6]at h
 obtain⟨U,aa⟩:=h
 have an:=db he U
 split at aa
 ·rename_i cg hu
  split at aa
  ·rename_i g bo
   simp only[bb6,decide_eq_true_eq]at aa
   obtain⟨aa,aD⟩:=aa
   simp only[bX]at hp
   split at hp
   ·rename_i cs e
    rw[e]at an
    obtain⟨l,ap,ay⟩:=zV an
    split at hp
    ·rename_i hle
     have aG:=aR.length ay
     refine⟨if agg then .agg ⟨(l.drop off).take n⟩ else l.getD off undef,by simp [execOp,aj,Instr.field,run_underlying hu,bo,ap,asAgg,aa,Ss aD l off (by omega)],?_⟩
     rcases zE hp (aR.take n (aR.drop off ay)) with ⟨rfl,h⟩|⟨rfl,v,ad,h⟩
     ·exact h
     ·have a1:=(zs aD).2.2.1 rfl
      subst a1
      rw[Ms]
      have:(l.drop off).getD 0 undef=v:=by
       cases bG:l.drop off with
       |nil=>rw[bG]at ad; simp at ad
       |cons x xs=>rw[bG]at ad; simp at ad; simp [ad]
      simp only[bd5,if_false,this]
      exact h
    ·cases hp
   ·cases hp
  ·cases aa
 ·cases aa
theorem aF8 {t x y r}(he:dR m env a.tmps) (aj:o.op= .unOp .not t x) (h:cT x y=true) (H:aA) (hp:bX (.not y) env H=some r):fJ P m a o r:=by
 have an:=db he h
 simp only[bX]at hp
 split at hp
 ·rename_i e; simp at hp; subst hp; rw[e]at an
  exact⟨_,by simp [execOp,aj,s0 an,Op.unary]; rfl,by simp only[aP]⟩
 ·cases hp
theorem aG0 {op t x y u neg cN r}(he:dR m env a.tmps) (aj:o.op= .binOp op t x y u) (h:bj P o.op (.qV neg cN)=true) (H:aA) (hp:bX (.qV neg cN) env H=some r):fJ P m a o r:=by
 rw[aj]at h
 simp only[bj,bb6,decide_eq_true_eq]at h
 obtain⟨⟨⟨⟨U,aa⟩,aD⟩,bA⟩,b6⟩:=h
 have an:=db he aa
 split at aD
 ·split at bA
  ·rename_i e hu
   subst U
   have run: ∀dm,a.eval x= .pointer dm→(execOp a.eval o).run P m.w= .ok (.value (.bool (bif neg then !dm.isNone else dm.isNone))) m.w:=by
    intro dm ad
    have bo: ∀op,(eqGuard op t x (.const (.pointer none)) (.pointer dm) (.pointer none)).run P m.w= .ok () m.w:=by
     intro op
     have EJ:P.eqGuardType P.depth t=false:=by simpa using b6
     unfold eqGuard; cases op<;>simp [EJ]
    have bu:(Op.equal t (.pointer dm) (.pointer none)).run P m.w= .ok dm.isNone m.w:=by
     have EB: ∀d,(Op.equalIn (d+1) t (.pointer dm) (.pointer none)).run P m.w= .ok dm.isNone m.w:=by
      intro d
      cases dm<;>simp [Op.equalIn,run_underlying hu]
     exact EB 9999
    have a8:a.eval (.const (.pointer none))= .pointer none:=rfl
    cases neg<;>simp [execOp,aj,ad,bu,bo,binOp,a8]
   simp only[bX]at hp
   split at hp
   ·rename_i b p ap; simp at hp; subst hp; rw[ap]at an
    exact⟨_,run _ (ur an),by simp only[aP]; cases neg<;>rfl⟩
   ·rename_i row p ap; simp at hp; subst hp; rw[ap]at an
    obtain⟨b,q,ay,_⟩:=xP an
    exact⟨_,run _ ay,by simp only[aP]; cases neg<;>rfl⟩
   ·rename_i ap; simp at hp; subst hp; rw[ap]at an
    exact⟨_,run _ (uu an),by simp only[aP]; cases neg<;>rfl⟩
   ·cases hp
  ·cases bA
 ·cases aD
theorem aF6 {t x y r}(he:dR m env a.tmps) (aj:o.op= .unOp .neg t x) (h:cT x y=true) (H:aA) (hp:bX (.neg y) env H=some r):fJ P m a o r:=by
 have an:=db he h
 simp only[bX]at hp
 split at hp
 ·rename_i e; simp at hp; subst hp; rw[e]at an
  exact⟨_,by simp [execOp,aj,jM an,Op.unary,Op.intArith]; rfl,by simp only[aP,Int.zero_sub]⟩
 ·cases hp
theorem aE4 {s d x k y r}(he:dR m env a.tmps) (aj:o.op= .convert s d x) (h:bj P o.op (.conv k y)=true) (H:aA) (hp:bX (.conv k y) env H=some r):fJ P m a o r:=by
 rw[aj]at h
 simp only[bj,bb6]at h
 obtain⟨⟨U,aa⟩,aD⟩:=h
 have an:=db he U
 split at aa
 ·rename_i bH ao
  split at aD
  ·rename_i j bG
   simp at aD
   subst aD
   simp only[bX]at hp
   split at hp
   ·rename_i e; simp at hp; subst hp; rw[e]at an
    exact⟨_,by simp [execOp,aj,jM an,Go.convert,run_underlying ao,run_underlying bG,Conv.intToInt]; rfl,by simp only[aP]⟩
   ·cases hp
  ·cases aD
 ·cases aa
theorem aE7 {x i y r}(he:dR m env a.tmps) (aj:o.op= .extract x i) (h:cT x y=true) (H:aA) (hp:bX (.extract i y) env H=some r):fJ P m a o r:=by
 have an:=db he h
 simp only[bX]at hp
 split at hp
 ·rename_i l e
  rw[e]at an
  obtain⟨aq,ap,ay⟩:=aJ8 an
  obtain⟨v,b1,dC⟩:=aR.get ay i r hp
  exact⟨v,by simp [execOp,aj,ap,Instr.extract,b1],dC⟩
 ·cases hp
theorem aF4 {f first gx eh}(he:dR m env a.tmps) (aj:o.op= .makeFunc (.func f) first gx) (aW:gx.isEmpty=true) (h:gu first.toList eh=true):fJ P m a o (.fn (f+jp) (eh.map (aJ.aI env))):=by
 have aT:gx= #[]:=by simpa using aW
 subst aT
 refine⟨_,by simp [execOp,aj,Instr.makeFunc]; rfl,?_⟩
 simp only[aP]
 exact⟨first.toList.map a.eval,by rw[Mr]; simp [←bm6],ot he h⟩
theorem IL {m:Mem}: ∀ {rows:List (List I)}{s:List UInt8}{l:List Value},kS rows=some s→aR m rows.flatten l→∃nD:List Int,l=nD.map (fun n=> .int .u8 n)∧s=nD.map (fun n=>UInt8.ofNat n.toNat)
 |[],s,l,h,k=>by
  simp only[kS,Option.some.injEq]at h
  simp only[be3,aR]at k
  subst h; subst k
  exact⟨[],rfl,rfl⟩
 |r::aQ,s,l,h,k=>by
  unfold kS at h
  split at h
  ·rename_i e; cases e
  ·rename_i n GO e
   simp only[List.cons.injEq]at e
   obtain⟨rfl,rfl⟩:=e
   split at h
   ·rename_i bR ct
    simp only[Option.some.injEq]at h
    subst h
    simp only[bd0,bd2,bd6,aR]at k
    obtain⟨v,aq,rfl,U,aa⟩:=k
    obtain⟨nD,rfl,rfl⟩:=IL ct aa
    exact⟨n::nD,by rw[jM U]; rfl,rfl⟩
   ·cases h
  ·cases h
theorem IK: ∀ {rows:List (List I)}{s:List UInt8},kS rows=some s→s.length=rows.length
 |[],s,h=>by simp only[kS,Option.some.injEq]at h; subst h; rfl
 |r::aQ,s,h=>by
  unfold kS at h
  split at h
  ·rename_i e; cases e
  ·rename_i n GO e
   simp only[List.cons.injEq]at e
   obtain⟨rfl,rfl⟩:=e
   split at h
   ·rename_i bR ct
    simp only[Option.some.injEq]at h
    subst h
    simp [IK ct]
   ·cases h
  ·cases h
theorem YD (n:Int):(Utf8.encode n).data.toList.length≤maxLen:=by
 unfold Utf8.encode
 simp only
 repeat' split
 all_goals (simp only[bb9,bc4,maxLen]; omega)
theorem PK: ∀(l:List Int) (r:ByteArray),l.foldl (fun r n=>r.push (UInt8.ofNat n.toNat)) r=⟨r.data++(l.map fun n=>UInt8.ofNat n.toNat).toArray⟩
 |[],r=>by simp
 |n::l,r=>by
  simp only[List.foldl_cons]
  rw[PK l]
  simp [ByteArray.push]
theorem Jp {w:World}{s d e:TypeId}(ao:P.underlying s=some (.slice e)) (he:P.underlying e=some (.int .u8)) (bG:P.underlying d=some .string) (dm:Addr) (nD:List Int) (cap:Nat) (an: ∀(j:Nat) (v:Value),(nD.map (Value.int .u8))[j]? =some v→w.cell? (dm.add j)=some v):
  (convert s d (.slice (some dm) nD.length cap)).run P w= .ok (.string ⟨⟨nD.map fun n=>UInt8.ofNat n.toNat⟩⟩) w:=by
 have U:=run_loadCells_list (P:=P) w dm (nD.map (Value.int .u8)) an
 rw[bb5]at U
 rw[run_convert_bytes_string w s d e (some dm) nD.length cap ao he bG,run_bytesToString w dm nD.length cap nD (by simpa using U),PK]
 have aa9:ByteArray.empty.data= #[]:=rfl
 rw[aa9]
 simp
theorem aE5 {s d x b y r}(he:dR m env a.tmps) (aj:o.op= .convert s d x) (h:bj P o.op (.nT b y)=true) (H:aA) (hp:bX (.nT b y) env H=some r):fJ P m a o r:=by
 rw[aj]at h
 simp only[bj,bb6]at h
 obtain⟨⟨U,aa⟩,aD⟩:=h
 have an:=db he U
 split at aa
 ·rename_i bG
  cases b with
  |true=>
   simp only[bX]at hp
   split at hp
   ·rename_i k n _ e
    simp only[Option.some.injEq]at hp
    subst hp
    rw[e]at an
    refine⟨.string (Utf8.encode n),?_,by simp only[aP]; exact⟨trivial,YD n⟩⟩
    split at aD
    ·rename_i ff hu
     simp [execOp,aj,jM an,Go.convert,run_underlying hu,run_underlying bG,Conv.intToString]
    ·rename_i ct hu
     split at aD<;>simp at aD
    ·cases aD
   all_goals (first|(cases hp; done)|(rename_i bN _; cases bN; done)|(rename_i bN; cases bN; done))
  |false=>
   split at aD
   ·cases aD
   ·rename_i e hu
    split at aD
    ·rename_i xp
     have rows: ∀ {rows:List (List I)}{bR:List UInt8},kS rows=some bR→aP m (.aq 1 rows) (a.eval x)→fJ P m a o (.str bR):=by
      intro rows bR hb ad
      obtain⟨dm,cap,ap,⟨g1,g2⟩,g3⟩:=xQ ad
      have aG:=IK hb
      rcases g3 with g3|⟨b,p,rfl,g3⟩
      ·have:rows=[]:=be2 g3
       subst this
       simp only[kS,Option.some.injEq]at hb
       subst hb
       refine⟨.string ⟨⟨[]⟩⟩,?_,by simp only[aP]; exact⟨trivial,bc3 _⟩⟩
       cases dm with
       |none=>simp [execOp,aj,ap,run_convert_bytes_string m.w s d e _ _ _ hu xp bG,Conv.bytesToString]; rfl
       |some dm=>
        have:=Jp (P:=P) (w:=m.w) hu xp bG dm [] cap (by simp)
        simp only[bc4,bg5]at this
        simp [execOp,aj,ap,this]
      ·obtain⟨l,f1,f2,f3⟩:=dK.wk g3
       obtain⟨nD,rfl,rfl⟩:=IL hb f1
       have rO:nD.length=rows.length:=by simpa using f2
       refine⟨.string ⟨⟨nD.map fun n=>UInt8.ofNat n.toNat⟩⟩,?_,by simp only[aP]; exact⟨trivial,by simp only[bb5]; omega⟩⟩
       have:=Jp (P:=P) (w:=m.w) hu xp bG ⟨b,p,none⟩ nD cap (fun j v bm=>by rw[np]; exact (f3 j v bm).1)
       rw[rO]at this
       simp [execOp,aj,ap,this]
     simp only[bX]at hp
     split at hp
     ·rename_i bN _; cases bN
     ·rename_i aQ _ e
      rw[e]at an
      cases hb:kS aQ with
      |none=>simp [hb]at hp
      |some bR=>
       simp only[hb,bf0,Option.some.injEq]at hp
       subst hp
       exact rows hb an
     ·rename_i t aQ _ e
      rw[e]at an
      cases hb:kS aQ with
      |none=>simp [hb]at hp
      |some bR=>
       simp only[hb,bf0,Option.some.injEq]at hp
       subst hp
       exact rows hb (xO an)
     ·rename_i len cap _ ap
      rw[ap]at an
      simp only[Option.some.injEq]at hp
      subst hp
      refine⟨.string ⟨⟨[]⟩⟩,?_,by simp only[aP]; exact⟨trivial,bc3 _⟩⟩
      simp [execOp,aj,uu an,run_convert_bytes_string m.w s d e _ _ _ hu xp bG,Conv.bytesToString]; rfl
     ·cases hp
    ·cases aD
   ·cases aD
 ·cases aa
theorem Pp {x:Option Operand}{y:Option aJ}{d n:Nat}(he:dR m env a.tmps) (h:pQ x y=true) (a1:jK env d y=some n):(x=none∧n=d)∨∃nj k,x=some nj∧a.eval nj= .int k n:=by
 unfold pQ at h
 split at h
 ·simp [jK]at a1; exact .inl ⟨rfl,a1.symm⟩
 ·rename_i nj C0
  have ab:=db he h
  simp only[jK]at a1
  split at a1
  ·rename_i k q e
   simp at a1
   subst a1
   rw[e]at ab
   exact .inr ⟨nj,k,rfl,jM ab⟩
  ·cases a1
 ·cases h
theorem GS {w:World}{b:Bool}{len cap:Nat}{b3 af:Option Operand}{mT gR:Option aJ}{l h:Nat}(he:dR m env a.tmps) (U:pQ b3 mT=true) (aa:pQ af gR=true) (aG:jK env 0 mT=some l) (a6:jK env len gR=some h) (aD:l≤h) (bA:h≤len) (b6:len≤cap):
  (Instr.sliceBounds b len cap (b3.map a.eval) (af.map a.eval) none).run P w= .ok (l,h,cap) w:=by
 have AV: ∀(v:Value) (k:IntKind) (n y:Nat) (c:BoundsCode),v= .int k n→n≤y→(Instr.sliceBound v y c).run P w= .ok n w:=by
  intro v k n y c e hle
  subst e
  have:(0:Int)≤n∧(n:Int)≤y:=⟨by omega,by omega⟩
  simp [Instr.sliceBound,asIntOf,this]
 rcases Pp he U aG with ⟨rfl,rfl⟩|⟨nj,k,rfl,ap⟩<;>rcases Pp he aa a6 with ⟨rfl,rfl⟩|⟨HI,br,rfl,ay⟩
 ·simp [Instr.sliceBounds]
 ·simp [Instr.sliceBounds,AV _ _ _ cap _ ay (by omega)]
 ·simp [Instr.sliceBounds,AV _ _ _ _ _ ap aD]
 ·simp [Instr.sliceBounds,AV _ _ _ cap _ ay (by omega),AV _ _ _ _ _ ap aD]
theorem PW {f first gx eh}(he:dR m env a.tmps) (aj:o.op= .makeFunc (.func f) first gx) (aW:first.isEmpty=true) (h:gu gx.toList eh=true) (hb:bf8 f jp=true):fJ P m a o (.fn f (eh.map (aJ.aI env))):=by
 have hi:f<jp:=by simpa using hb
 have aT:first= #[]:=by simpa using aW
 subst aT
 refine⟨_,by simp [execOp,aj,Instr.makeFunc]; rfl,?_⟩
 simp only[aP]
 exact⟨gx.toList.map a.eval,by rw[vf hi]; simp [←bm6],ot he h⟩
theorem aF5 {t x y}(he:dR m env a.tmps) (aj:o.op= .makeInterface t x) (h:cT x y=true) (aa:(match P.underlying t with|some (.interface _)=>false|some _=>true|none=>false)=true):fJ P m a o (.hW t (y.aI env)):=by
 refine⟨.iface t (a.eval x),?_,by simp only[aP]; exact⟨_,rfl,db he h⟩⟩
 split at aa
 ·cases aa
 ·rename_i d eg hu
  cases d<;>first
   |exact (eg _ hu).elim
   |exact (eg _ rfl).elim
   |simp [execOp,aj,Instr.makeInterface,run_underlying hu]
 ·cases aa
end
section
variable {P:Program}{m:Mem}{env:Env}{a:Act}{o:Oper}
theorem UF {w:World}{op:BinOp}{k:IntKind}{x y:Int}{r:I}(t:TypeId) (h:qs op k x y=some r): ∃v,(binOp op t (.int k x) (.int k y)).run P w= .ok v w∧aP m r v:=by
 cases op<;>simp only[qs,Option.some.injEq]at h<;>first
  |(cases h; done)
  |(subst h; refine⟨_,by simp [binOp,Op.intArith,Op.intCmp]; rfl,?_⟩; simp only[aP]; done)
  |(subst h; refine⟨_,by simp [binOp,Op.intArith,Op.intCmp]; rfl,?_⟩; simp only[aP]; first|rfl|(congr 1; done))
  |(subst h; refine⟨_,by simp [binOp,Op.intBits]; rfl,?_⟩; simp only[aP]; done)
  |(split at h<;>first
   |(cases h; done)
   |(rename_i hb; simp only[Option.some.injEq]at h; subst h; refine⟨_,by simp [binOp,Op.shift,Int.not_lt.2 hb]; rfl,?_⟩; simp only[aP]; done))
theorem aL3 {w:World}{op:BinOp}{k j:IntKind}{x y:Int}{r:I}(t:TypeId) (h:uv op k x y=some r): ∃v,(binOp op t (.int k x) (.int j y)).run P w= .ok v w∧aP m r v:=by
 cases op<;>simp only[uv]at h<;>first
  |(cases h; done)
  |(split at h<;>first
   |(cases h; done)
   |(rename_i hb; simp only[Option.some.injEq]at h; subst h; refine⟨_,by simp [binOp,Op.shift,Int.not_lt.2 hb]; rfl,?_⟩; simp only[aP]; done))
theorem UG {w:World}{op:BinOp}{x y:List UInt8}{r:I}(t:TypeId) (h:so op x y=some r): ∃v,(binOp op t (.string ⟨⟨x⟩⟩) (.string ⟨⟨y⟩⟩)).run P w= .ok v w∧aP m r v:=by
 have e:=JK x y
 rw[wH,wH]at e
 cases op<;>simp only[so,Option.some.injEq]at h<;>first
  |(cases h; done)
  |(subst h; refine⟨_,by simp [binOp,Op.stringOp,wH,e]; rfl,?_⟩; simp only[aP]; done)
  |(subst h; refine⟨_,by simp [binOp,Op.stringOp,wH,e]; rfl,?_⟩; simp only[aP]; first|rfl|simp)
theorem UC {w:World}{op:BinOp}{x y:Bool}{r:I}{t:TypeId}(aL:P.underlying t=some .bool) (h:tn op x y=some r): ∃v,(binOp op t (.bool x) (.bool y)).run P w= .ok v w∧aP m r v:=by
 have e: ∀w:World,(Op.equal t (.bool x) (.bool y)).run P w= .ok (x==y) w:=fun w=>run_equalIn_bool' w 9999 t x y aL
 cases op<;>simp only[tn,Option.some.injEq]at h<;>first
  |(cases h; done)
  |(subst h; refine⟨_,by simp [binOp,e]; rfl,?_⟩; simp only[aP])
theorem aE1 {op t x y u cN hZ r}(he:dR m env a.tmps) (aj:o.op= .binOp op t x y u) (h:bj P o.op (.bin op cN hZ)=true) (H:aA) (hp:bX (.bin op cN hZ) env H=some r):fJ P m a o r:=by
 rw[aj]at h
 simp only[bj,bb6]at h
 obtain⟨⟨_,U⟩,aa⟩:=h
 have ab:=db he U
 have a8:=db he aa
 simp only[bX]at hp
 split at hp
 ·rename_i k p j q ap ay
  rw[ap]at ab
  rw[ay]at a8
  split at hp
  ·rename_i Yz
   subst Yz
   obtain⟨v,g1,g2⟩:=UF (P:=P) (w:=m.w) (m:=m) t hp
   exact⟨v,by simp [execOp,aj,jM ab,jM a8,Bo,g1],g2⟩
  ·obtain⟨v,g1,g2⟩:=aL3 (P:=P) (w:=m.w) (m:=m) (j:=j) t hp
   exact⟨v,by simp [execOp,aj,jM ab,jM a8,Bo,g1],g2⟩
 ·rename_i p q ap ay
  rw[ap]at ab
  rw[ay]at a8
  obtain⟨v,g1,g2⟩:=UG (P:=P) (w:=m.w) (m:=m) t hp
  exact⟨v,by simp [execOp,aj,(qZ ab).1,(qZ a8).1,Mb,g1],g2⟩
 ·cases hp
theorem aE2 {op t x y u cN hZ r}(he:dR m env a.tmps) (aj:o.op= .binOp op t x y u) (h:bj P o.op (.qq op cN hZ)=true) (H:aA) (hp:bX (.qq op cN hZ) env H=some r):fJ P m a o r:=by
 rw[aj]at h
 simp only[bj,bb6]at h
 obtain⟨⟨⟨_,U⟩,aa⟩,aD⟩:=h
 have ab:=db he U
 have a8:=db he aa
 simp only[bX]at hp
 split at aD
 ·rename_i hb
  split at hp
  ·rename_i p q ap ay
   rw[ap]at ab
   rw[ay]at a8
   obtain⟨v,g1,g2⟩:=UC (P:=P) (w:=m.w) (m:=m) hb hp
   exact⟨v,by simp [execOp,aj,s0 ab,s0 a8,YM,g1],g2⟩
  ·cases hp
 ·cases aD
theorem aE6 {op t x y u neg T bH cN hZ r}(he:dR m env a.tmps) (aj:o.op= .binOp op t x y u) (h:bj P o.op (.nX neg T bH cN hZ)=true) (H:aA) (hp:bX (.nX neg T bH cN hZ) env H=some r):fJ P m a o r:=by
 rw[aj]at h
 simp only[bj,bb6,decide_eq_true_eq,Bool.not_eq_true']at h
 obtain⟨⟨⟨⟨⟨⟨U,rfl⟩,aa⟩,aD⟩,bA⟩,b6⟩,dx⟩:=h
 have ab:=db he aa
 have a8:=db he aD
 simp only[bX]at hp
 split at hp
 ·rename_i cs jd ap ay
  rw[ap]at ab
  rw[ay]at a8
  obtain⟨l,g1,g2⟩:=zV ab
  obtain⟨bZ,g3,g4⟩:=zV a8
  cases bu:ha bH cs jd with
  |none=>simp [bu]at hp
  |some b=>
   simp [bu]at hp
   subst hp
   split at dx
   ·rename_i cg hu
    have aS:nN P t=some true:=by simp [nN,hu]
    have kz:=Mc (P:=P) (w:=m.w) 8 9992 bA aS g2 g4 bu
    have he:(Op.equal t (.agg ⟨l⟩) (.agg ⟨bZ⟩)).run P m.w= .ok b m.w:=kz
    refine⟨.bool (bif neg then !b else b),?_,by simp only[aP]⟩
    rw[U]at aj
    cases neg with
    |true=>simp [execOp,aj,g1,g3,Ma _ _ _ _ _ _ b6,binOp,he]
    |false=>simp [execOp,aj,g1,g3,Ma _ _ _ _ _ _ b6,binOp,he]
   ·cases dx
 ·cases hp
theorem tk {α:Type}{l:Array α}{x:α}(h:l.toList=[x]):l= #[x]:=by cases l; simp at h; rw[h]
theorem AY {c:Call}{b:Builtin}{x:Operand}(aj:o.op= .call c) (hb:c.callee= .builtin b) (ab:c.args= #[x]) (P:Program) (w w':World) (v:Value) (h:(builtin b c.argTypes o.type (c.args.map fun| .const _=>true| _=>false) #[a.eval x]).run P w= .ok (.value v) w'):
  (execOp a.eval o).run P w= .ok (.value v) w':=by
 simp [execOp,aj,resolve,hb,invoke,ab]at h ⊢
 exact h
theorem aF2 {c y r}(he:dR m env a.tmps) (aj:o.op= .call c) (h:bj P o.op (.iV y)=true) (H:aA) (hp:bX (.iV y) env H=some r):fJ P m a o r:=by
 obtain⟨callee,args,argTypes⟩:=c
 rw[aj]at h
 cases callee with
 |value f=>simp [bj]at h
 |invoke _ _=>simp [bj]at h
 |builtin b=>
  cases b<;>simp only[bj]at h<;>first
   |(cases h; done)
   |skip
  simp only[bb6]at h
  obtain⟨U,aa⟩:=h
  split at U
  ·rename_i x ab
   split at aa
   ·rename_i t aL
    have an:=db he U
    obtain rfl:=tk ab
    obtain rfl:=tk aL
    simp only[bX]at hp
    split at aa
    ·rename_i hu
     split at hp
     ·rename_i s e
      rw[e]at an
      simp at hp
      subst hp
      refine⟨_,AY aj rfl rfl P m.w m.w (.int .i64 s.length) ?_,by simp only[aP]⟩
      simp [builtin,Builtin.len_,run_underlying hu,(qZ an).1,goInt]
      rfl
     ·cases hp
    ·cases aa
   ·cases aa
  ·cases U
theorem aF0 {c y r}(he:dR m env a.tmps) (aj:o.op= .call c) (h:bj P o.op (.len y)=true) (H:aA) (hp:bX (.len y) env H=some r):fJ P m a o r:=by
 obtain⟨callee,args,argTypes⟩:=c
 rw[aj]at h
 cases callee with
 |value f=>simp [bj]at h
 |invoke _ _=>simp [bj]at h
 |builtin b=>
  cases b<;>simp only[bj]at h<;>first
   |(cases h; done)
   |skip
  simp only[bb6]at h
  obtain⟨U,aa⟩:=h
  split at U
  ·rename_i x ab
   split at aa
   ·rename_i t aL
    have an:=db he U
    obtain rfl:=tk ab
    obtain rfl:=tk aL
    simp only[bX]at hp
    split at aa
    ·rename_i el hu
     have run: ∀dm (n cap:Nat),a.eval x= .slice dm n cap→(execOp a.eval o).run P m.w= .ok (.value (.int .i64 n)) m.w:=by
      intro dm n cap e
      refine AY aj rfl rfl P m.w m.w (.int .i64 n) ?_
      simp [builtin,Builtin.len_,run_underlying hu,e,goInt]
     split at hp
     ·rename_i e
      rw[e]at an
      simp at hp
      subst hp
      obtain⟨dm,cap,ap,_⟩:=xQ an
      exact⟨_,run _ _ _ ap,by simp only[aP]⟩
     ·rename_i e
      rw[e]at an
      simp at hp
      subst hp
      obtain⟨dm,cap,ap,_⟩:=xQ (xO an)
      exact⟨_,run _ _ _ ap,by simp only[aP]⟩
     ·rename_i e
      rw[e]at an
      simp at hp
      subst hp
      exact⟨_,run _ _ _ (uu an),by simp only[aP]⟩
     ·cases hp
    ·cases aa
   ·cases aa
  ·cases U
theorem aF1 {c n}(aj:o.op= .call c) (h:bj P o.op (.p1 n)=true):fJ P m a o (.int .i64 n):=by
 obtain⟨callee,args,argTypes⟩:=c
 rw[aj]at h
 cases callee with
 |value f=>simp [bj]at h
 |invoke _ _=>simp [bj]at h
 |builtin b=>
  cases b<;>simp only[bj]at h<;>first
   |(cases h; done)
   |skip
  simp only[bb6]at h
  obtain⟨U,aa⟩:=h
  split at U
  ·rename_i x ab
   split at aa
   ·rename_i t aL
    obtain rfl:=tk ab
    obtain rfl:=tk aL
    refine⟨_,AY aj rfl rfl P m.w m.w (.int .i64 n) ?_,by simp only[aP]⟩
    split at aa
    ·rename_i hu
     simp at aa
     simp [builtin,Builtin.len_,run_underlying hu,goInt,aa]
    ·rename_i hu
     split at aa
     ·rename_i ag0
      simp at aa
      simp [builtin,Builtin.len_,run_underlying hu,run_underlying ag0,goInt,aa]
     ·cases aa
    ·cases aa
   ·cases aa
  ·cases U
end
def gD (l:List Value) (o:Nat) (new:List Value):List Value:=l.take o++new++l.drop (o+new.length)
theorem GY {m:Mem}{cs new:List I}{l xA:List Value}(h:aR m cs l) (k:aR m new xA) (o:Nat):aR m (gg cs o new) (gD l o xA):=by
 unfold gg gD
 rw[aR.length k]
 exact aR.append (aR.append (aR.take _ h) k) (aR.drop _ h)
theorem aK6 (l new:List Value) (v:Value) (n:Nat) (h:n<l.length):gD (l.set n v) (n+1) new=gD l n (v::new):=by
 unfold gD
 have ap:(l.set n v).take (n+1)=l.take n++[v]:=by
  rw[List.take_succ_eq_append_getElem (by simpa using h)]
  simp only[List.take_set,List.getElem_set_self]
  rw[List.set_eq_of_length_le (by simp; omega)]
 have ay:(l.set n v).drop (n+1+new.length)=l.drop (n+(new.length+1)):=by
  rw[List.drop_set,if_pos (by omega)]
  congr 1; omega
 rw[ap,ay]; simp
theorem SJ: ∀(new:List Value) (l:List Value) (o j:Nat),o+j+new.length≤l.length→
  (new.zipIdx j).foldl (fun (cs:Array Value) (p:Value×Nat)=>cs.setIfInBounds (o+p.2) p.1) ⟨l⟩=⟨gD l (o+j) new⟩
 |[],l,o,j,h=>by simp [gD]
 |v::new,l,o,j,h=>by
  simp only[bb9]at h
  simp only[List.zipIdx_cons,List.foldl_cons]
  rw[show (⟨l⟩:Array Value).setIfInBounds (o+j) v=⟨l.set (o+j) v⟩ by simp]
  rw[SJ new (l.set (o+j) v) o (j+1) (by simp; omega)]
  rw[show o+(j+1)=(o+j)+1 by omega]
  rw[aK6 l new v (o+j) (by omega)]
def pr (place:Nat→Option (Nat×Nat)):List (Nat×Operand)→List (Nat×Nat×aJ)→Prop
 |[],jL=>jL=[]
 |p::ps,jL=> ∃q Ct,jL=q::Ct∧place p.1=some (q.1,q.2.1)∧cT p.2 q.2.2=true∧pr place ps Ct
theorem Jc {m:Mem}{a:I}{v:Value}(h:aP m a v) (aj:a.ea=true):aR m a.cells v.cells.toList:=by
 cases aS:a with
 |agg cs=>
  subst aS
  obtain⟨l,rfl,aa⟩:=zV h
  exact aa
 |eD=>subst aS; exact absurd aj br9
 |c3 cs=>subst aS; exact absurd aj br9
 | _=>
  subst aS
  rw[Jb (zI h aj)]
  simp only[I.cells,aR]
  exact⟨v,[],rfl,h,rfl⟩
theorem Bs {m:Mem}{a:Act}{env:Env}(he:dR m env a.tmps) (place:Nat→Option (Nat×Nat)): ∀(ps:List (Nat×Operand)) (jL:List (Nat×Nat×aJ)) (cs:List I) (l:List Value) (r:List I),
  pr place ps jL→aR m cs l→nO env cs jL=some r→
  ∃bZ,Instr.fill place ⟨l⟩ (ps.map fun (i,x)=>(i,a.eval x))=some ⟨bZ⟩∧aR m r bZ
 |[],jL,cs,l,r,hp,aG,hb=>by
  simp only[pr]at hp
  subst hp
  simp only[nO,Option.some.injEq]at hb
  subst hb
  exact⟨l,by simp [Instr.fill],aG⟩
 |(i,x)::ps,jL,cs,l,r,hp,aG,hb=>by
  simp only[pr]at hp
  obtain⟨⟨off,size,y⟩,Ct,rfl,U,aa,aD⟩:=hp
  simp only[nO]at hb
  split at hb
  ·rename_i an
   obtain⟨c1,cb,eW⟩:=an
   have IQ:(y.aI env).cells.length=size:=c1
   have a23:off+size≤cs.length:=cb
   have sF:(a.eval x).cells.toList.length=size:=(aR.length (Jc (db he aa) eW)).trans c1
   have ad:=Jc (db he aa) eW
   have hlen:=aR.length ad
   have tS:=aR.length aG
   obtain⟨bZ,g1,g2⟩:=Bs he place ps Ct _ (gD l off (a.eval x).cells.toList) r aD (GY aG ad off) hb
   refine⟨bZ,?_,g2⟩
   simp only[bd4,Instr.fill,U]
   have dq:(a.eval x).cells.size=size:=by rw[←bg4,hlen]; exact c1
   have sG: ¬((decide ((a.eval x).cells.size≠size)||decide (off+(a.eval x).cells.size>(⟨l⟩:Array Value).size))=true):=by
    simp only[dq,ne_eq,not_true_eq_false,decide_false,Bool.false_or,decide_eq_true_eq,bi6]
    omega
   rw[if_neg sG]
   have aw:(a.eval x).cells.zipIdx.foldl (fun (cs:Array Value) (p:Value×Nat)=>cs.setIfInBounds (off+p.2) p.1) ⟨l⟩=⟨gD l off (a.eval x).cells.toList⟩:=by
    rw[←Array.foldl_toList,Array.toList_zipIdx]
    have:=SJ (a.eval x).cells.toList l off 0 (by rw[sF]; omega)
    simpa using this
   rw[aw]
   exact g1
  ·cases hb
theorem PB {P:Program}: ∀ {cg:List Field}{places:List (Nat×Nat)},cg.mapM (fun f=>(P.info? f.type).map fun i=>(f.offset,i.size))=some places→∀(i:Nat) (f:Field),cg[i]? =some f→∃xW,P.info? f.type=some xW∧places[i]? =some (f.offset,xW.size)
 |[],_,_,_,_,h=>by simp at h
 |g::cg,places,hp,i,f,h=>by
  simp only[List.mapM_cons,Option.bind_eq_bind,Option.pure_def]at hp
  cases af:P.info? g.type with
  |none=>simp [af]at hp
  |some xW=>
   cases ac:cg.mapM (fun f=>(P.info? f.type).map fun i=>(f.offset,i.size)) with
   |none=>simp [af,ac]at hp
   |some rest=>
    simp [af,ac]at hp
    subst hp
    cases i with
    |zero=>simp at h; subst h; exact⟨xW,af,rfl⟩
    |succ i=>simp at h; obtain⟨t2,ap,ay⟩:=PB ac i f h; exact⟨t2,ap,by simpa using ay⟩
theorem Ji {P:Program}{cg:Array Field}{places:List (Nat×Nat)}(hp:cg.toList.mapM (fun f=>(P.info? f.type).map fun i=>(f.offset,i.size))=some places): ∀ {ps:List (Nat×Operand)}{jL:List (Nat×Nat×aJ)},wL P cg ps jL=true→pr (places.toArray[·]?) ps jL
 |[],[],_=>by simp only[pr]
 |[],_:: _,h=>by simp [wL]at h
 | _:: _,[],h=>by simp [wL]at h
 |(i,x)::ps,(off,size,y)::jL,h=>by
  simp only[wL,bb6]at h
  obtain⟨⟨U,aa⟩,aD⟩:=h
  simp only[pr]
  refine⟨_,_,rfl,?_,aa,Ji hp aD⟩
  split at U
  ·rename_i f aT
   simp only[bb6,decide_eq_true_eq]at U
   obtain⟨ap,ay⟩:=U
   obtain⟨xW,b1,dC⟩:=CK ay
   have o8:cg.toList[i]? =some f:=by simpa using aT
   obtain⟨t2,g1,g2⟩:=PB hp i f o8
   rw[b1]at g1
   simp at g1
   subst g1
   simp [g2,ap,dC]
  ·cases U
theorem Jh {size:Nat}: ∀ {ps:List (Nat×Operand)}{jL:List (Nat×Nat×aJ)},wM size ps jL=true→pr (fun i=>some (i*size,size)) ps jL
 |[],[],_=>by simp only[pr]
 |[],_:: _,h=>by simp [wM]at h
 | _:: _,[],h=>by simp [wM]at h
 |(i,x)::ps,(off,oM,y)::jL,h=>by
  simp only[wM,bb6,decide_eq_true_eq]at h
  obtain⟨⟨⟨rfl,rfl⟩,aa⟩,aD⟩:=h
  simp only[pr]
  exact⟨_,_,rfl,rfl,aa,Jh aD⟩
section
variable {P:Program}{m:Mem}{env:Env}{a:Act}{o:Oper}
theorem C2 {t:TypeId}{zero:List I}(h:tc P t zero=true): ∃i z,P.info? t=some i∧i.zero=some z∧A4 zero z=true:=by
 unfold tc at h
 cases af:P.info? t with
 |none=>simp [af]at h
 |some i=>
  cases aw:i.zero with
  |none=>simp [af,aw]at h
  |some z=>simp [af,aw]at h; exact⟨i,z,rfl,aw,h⟩
theorem aE3 {t parts zero ps r}(he:dR m env a.tmps) (aj:o.op= .build t parts) (h:bj P o.op (.build zero ps)=true) (H:aA) (hp:bX (.build zero ps) env H=some r):fJ P m a o r:=by
 rw[aj]at h
 simp only[bj,bb6]at h
 obtain⟨U,aa⟩:=h
 obtain⟨i,z,af,aw,an⟩:=C2 U
 have NA:=(A5 (m:=m) an).1
 simp only[bX]at hp
 cases hb:nO env zero ps with
 |none=>simp [hb]at hp
 |some cs=>
  simp [hb]at hp
  subst hp
  have fin: ∀bZ,P.built t ((parts.map fun (i,x)=>(i,a.eval x)).toList)=some ⟨bZ⟩→aR m cs bZ→fJ P m a o (.agg cs):=by
   intro bZ g1 g2
   refine⟨.agg ⟨bZ⟩,?_,by simp only[aP]; exact⟨bZ,rfl,g2⟩⟩
   have:=run_build (P:=P) m.w t (parts.map fun (i,x)=>(i,a.eval x)) ⟨bZ⟩ g1
   simp only[execOp,aj,Sem.run_bind,this,Result.andThen_ok,Sem.run_pure]
  have Nz:(⟨z.cells.toList⟩:Array Value)=z.cells:=rfl
  split at aa
  ·rename_i cg hu
   simp only[bb6]at aa
   obtain⟨aa,aD⟩:=aa
   obtain⟨places,Fk⟩:=Option.isSome_iff_exists.1 aD
   obtain⟨bZ,g1,g2⟩:=Bs he (places.toArray[·]?) parts.toList ps zero z.cells.toList cs (Ji Fk aa) NA hb
   refine fin bZ ?_ g2
   simp only[Program.built,af,hu,aw,Fk,bm6]
   exact g1
  ·rename_i n e hu
   split at aa
   ·rename_i s ao
    obtain⟨xW,ap,ay⟩:=CK ao
    obtain⟨bZ,g1,g2⟩:=Bs he (fun i=>some (i*s,s)) parts.toList ps zero z.cells.toList cs (Jh aa) NA hb
    refine fin bZ ?_ g2
    simp only[Program.built,af,hu,aw,ap,bm6,ay]
    exact g1
   ·cases aa
  ·cases aa
theorem Ob {w:World}: ∀(rest:List I) (k:IntKind) (x:Int) (l:List Value) (r:I),lh false (.int k x) rest=some r→aR m rest l→∃v,(l.foldlM Builtin.min2 (.int k x)).run P w= .ok v w∧aP m r v
 |[],k,x,l,r,h,aG=>by
  simp only[aR]at aG
  subst aG
  simp [lh]at h
  subst h
  exact⟨_,by simp; rfl,by simp only[aP]⟩
 |b::rest,k,x,l,r,h,aG=>by
  simp only[aR]at aG
  obtain⟨v,aq,rfl,U,aa⟩:=aG
  have hint: ∃j y,b= .int j y:=by
   cases b<;>first
    |exact⟨_,_,rfl⟩
    |(simp [lh]at h; done)
  obtain⟨j,y,rfl⟩:=hint
  simp only[lh]at h
  split at h
  ·rename_i e
   subst e
   obtain⟨bD,g1,g2⟩:=Ob rest k _ aq r h aa
   refine⟨bD,?_,g2⟩
   rw[jM U]
   simp only[List.foldlM_cons,Sem.run_bind,Builtin.min2,Sem.run_pure,Result.andThen_ok]
   rw[show (if y<x then y else x)=min x y by simp only[Int.min_def]; split<;>split<;>omega]
   simpa using g1
  ·cases h
theorem N4 {w:World}: ∀(rest:List I) (k:IntKind) (x:Int) (l:List Value) (r:I),lh true (.int k x) rest=some r→aR m rest l→∃v,(l.foldlM Builtin.max2 (.int k x)).run P w= .ok v w∧aP m r v
 |[],k,x,l,r,h,aG=>by
  simp only[aR]at aG
  subst aG
  simp [lh]at h
  subst h
  exact⟨_,by simp; rfl,by simp only[aP]⟩
 |b::rest,k,x,l,r,h,aG=>by
  simp only[aR]at aG
  obtain⟨v,aq,rfl,U,aa⟩:=aG
  have hint: ∃j y,b= .int j y:=by
   cases b<;>first
    |exact⟨_,_,rfl⟩
    |(simp [lh]at h; done)
  obtain⟨j,y,rfl⟩:=hint
  simp only[lh]at h
  split at h
  ·rename_i e
   subst e
   obtain⟨bD,g1,g2⟩:=N4 rest k _ aq r h aa
   refine⟨bD,?_,g2⟩
   rw[jM U]
   simp only[List.foldlM_cons,Sem.run_bind,Builtin.max2,Sem.run_pure,Result.andThen_ok]
   rw[show (if y>x then y else x)=max x y by simp only[Int.max_def]; split<;>split<;>omega]
   simpa using g1
  ·cases h
theorem aF3 {c lU eh r}(he:dR m env a.tmps) (aj:o.op= .call c) (h:bj P o.op (.kf lU eh)=true) (H:aA) (hp:bX (.kf lU eh) env H=some r):fJ P m a o r:=by
 obtain⟨callee,args,argTypes⟩:=c
 rw[aj]at h
 have key:gu args.toList eh=true→∃k x rest l,(args.map a.eval).toList= .int k x::l∧aR m rest l∧lh lU (.int k x) rest=some r:=by
  intro ab
  have aG:=ot he ab
  simp only[bX]at hp
  split at hp
  ·rename_i a0 rest e
   rw[e]at aG
   simp only[aR]at aG
   obtain⟨v,aq,g1,g2,g3⟩:=aG
   have hint: ∃k x,a0= .int k x:=by
    cases a0<;>cases rest<;>first
     |exact⟨_,_,rfl⟩
     |(simp [lh]at hp; done)
   obtain⟨k,x,rfl⟩:=hint
   exact⟨k,x,rest,aq,by rw[jM g2]at g1; simpa using g1,g3,hp⟩
  ·cases hp
 cases callee with
 |value f=>simp [bj]at h
 |invoke _ _=>simp [bj]at h
 |builtin b=>
  cases b<;>cases lU<;>simp only[bj]at h<;>first
   |(cases h; done)
   |skip
  ·obtain⟨k,x,rest,l,g1,g2,g3⟩:=key h
   obtain⟨v,ap,ay⟩:=N4 (P:=P) (w:=m.w) rest k x l r g3 g2
   refine⟨v,?_,ay⟩
   simp [execOp,aj,resolve,invoke,builtin,Builtin.max_]
   simp at g1
   simp [g1,ap]
  ·obtain⟨k,x,rest,l,g1,g2,g3⟩:=key h
   obtain⟨v,ap,ay⟩:=Ob (P:=P) (w:=m.w) rest k x l r g3 g2
   refine⟨v,?_,ay⟩
   simp [execOp,aj,resolve,invoke,builtin,Builtin.min_]
   simp at g1
   simp [g1,ap]
set_option maxHeartbeats 1600000 in
theorem ax3 {e:bc}{r:I}(he:dR m env a.tmps) (bd:bW m) (h:bj P o.op e=true) (hp:bX e env m.H=some r):fJ P m a o r:=by
 cases e with
 |gI y=>
  simp only[bX,Option.some.injEq]at hp
  subst hp
  cases aj:o.op<;>simp [aj,bj]at h
  ·exact PX he (.inl aj) h
  ·exact PX he (.inr aj) h
 |pick c x y=>
  cases aj:o.op<;>simp [aj,bj]at h
  exact aF9 he aj h.1.1 h.1.2 h.2 m.H hp
 |gn y=>
  cases aj:o.op<;>simp [aj,bj]at h
  exact aF7 he aj h m.H hp
 |build zero ps=>
  cases aj:o.op<;>try (simp [aj,bj]at h; done)
  exact aE3 he aj h m.H hp
 |load agg n y=>
  cases aj:o.op<;>simp [aj,bj]at h
  exact Gs he bd aj h.1 h.2 hp
 |gb e3 agg n y=>
  cases aj:o.op<;>simp [aj,bj]at h
  exact Gs he bd aj h.1 h.2 (F3 hp).1
 |qP agg n y=>
  cases aj:o.op<;>simp [aj,bj]at h
  exact Gs he bd aj h.1 h.2 (ax2 hp)
 |nZ off y=>
  cases aj:o.op<;>try (simp [aj,bj]at h; done)
  exact aE8 he aj h m.H hp
 |field agg off n y=>
  cases aj:o.op<;>try (simp [aj,bj]at h; done)
  exact aE9 he aj h m.H hp
 |bin op x y=>
  cases aj:o.op<;>try (simp [aj,bj]at h; done)
  have k9:=h
  rw[aj]at k9
  simp only[bj,bb6,decide_eq_true_eq]at k9
  obtain⟨⟨rfl,_⟩,_⟩:=k9
  exact aE1 he aj h m.H hp
 |qq op x y=>
  cases aj:o.op<;>try (simp [aj,bj]at h; done)
  have k9:=h
  rw[aj]at k9
  simp only[bj,bb6,decide_eq_true_eq]at k9
  obtain⟨⟨⟨rfl,_⟩,_⟩,_⟩:=k9
  exact aE2 he aj h m.H hp
 |nX neg T bH x y=>
  cases aj:o.op<;>try (simp [aj,bj]at h; done)
  exact aE6 he aj h m.H hp
 |not y=>
  cases aj:o.op<;>try (simp [aj,bj]at h; done)
  rename_i u t x
  cases u<;>simp [aj,bj]at h
  exact aF8 he aj h m.H hp
 |qV neg y=>
  cases aj:o.op<;>try (simp [aj,bj]at h; done)
  exact aG0 he aj h m.H hp
 |neg y=>
  cases aj:o.op<;>try (simp [aj,bj]at h; done)
  rename_i u t x
  cases u<;>simp [aj,bj]at h
  exact aF6 he aj h m.H hp
 |conv k y=>
  cases aj:o.op<;>try (simp [aj,bj]at h; done)
  exact aE4 he aj h m.H hp
 |iV y=>
  cases aj:o.op<;>try (simp [aj,bj]at h; done)
  exact aF2 he aj h m.H hp
 |len y=>
  cases aj:o.op<;>try (simp [aj,bj]at h; done)
  exact aF0 he aj h m.H hp
 |p1 n=>
  simp only[bX,Option.some.injEq]at hp
  subst hp
  cases aj:o.op<;>try (simp [aj,bj]at h; done)
  exact aF1 aj h
 |kf lU eh=>
  cases aj:o.op<;>try (simp [aj,bj]at h; done)
  exact aF3 he aj h m.H hp
 |extract i y=>
  cases aj:o.op<;>simp [aj,bj]at h
  obtain⟨U,rfl⟩:=h
  exact aE7 he aj U m.H hp
 |jJ f eh=>
  simp only[bX,Option.some.injEq]at hp
  subst hp
  cases aj:o.op<;>try (simp [aj,bj]at h; done)
  rename_i g first gx
  cases g<;>simp [aj,bj]at h
  obtain⟨⟨⟨rfl,aa⟩,aD⟩,bA⟩:=h
  exact PW he aj (by simpa using aa) aD (by simpa using bA)
 |sO f eh=>
  simp only[bX,Option.some.injEq]at hp
  subst hp
  cases aj:o.op<;>try (simp [aj,bj]at h; done)
  rename_i g first gx
  cases g<;>simp [aj,bj]at h
  obtain⟨⟨rfl,aa⟩,aD⟩:=h
  exact aF4 he aj (by simpa using aa) aD
 |nT b y=>
  cases aj:o.op<;>try (simp [aj,bj]at h; done)
  exact aE5 he aj h m.H hp
 |pj T y=>
  simp only[bX,Option.some.injEq]at hp
  subst hp
  cases aj:o.op<;>try (simp [aj,bj]at h; done)
  rename_i t x
  rw[aj]at h
  simp only[bj,bb6,decide_eq_true_eq]at h
  obtain⟨⟨rfl,aa⟩,aD⟩:=h
  exact aF5 he aj aa aD
 | _=>simp [bX]at hp
end
section
variable {P:Program}{m:Mem}{env:Env}{a:Act}{o:Oper}
theorem nL {K:Act→World→Prop}{Q:Exit→Act→World→Prop}{w w':World}{v:Value}(h:(execOp a.eval o).run P w= .ok (.value v) w') (av:K (a.put o.dst v) w'):o.wp P a w K Q:=by
 simp only[Oper.wp,h,Oper.upon]
 exact av
theorem X4 {t x y u cN hZ k p q}(he:dR m env a.tmps) (aj:o.op= .binOp .quo t x y u) (U:cT x cN=true) (aa:cT y hZ=true) (ap:cN.aI env= .int k p) (ay:hZ.aI env= .int k q) (bu:q≠0):fJ P m a o (.int k (k.wrap (p.tdiv q))):=by
 have ab:=db he U
 have a8:=db he aa
 rw[ap]at ab; rw[ay]at a8
 exact⟨_,by simp [execOp,aj,jM ab,jM a8,Bo,binOp,Op.intDiv,bu]; rfl,by simp only[aP]⟩
theorem X5 {t x y u cN hZ k p q}(he:dR m env a.tmps) (aj:o.op= .binOp .rem t x y u) (U:cT x cN=true) (aa:cT y hZ=true) (ap:cN.aI env= .int k p) (ay:hZ.aI env= .int k q) (bu:q≠0):fJ P m a o (.int k (p.tmod q)):=by
 have ab:=db he U
 have a8:=db he aa
 rw[ap]at ab; rw[ay]at a8
 exact⟨_,by simp [execOp,aj,jM ab,jM a8,Bo,binOp,Op.intDiv,bu]; rfl,by simp only[aP]⟩
theorem XS {t x y u cN hZ p q}(he:dR m env a.tmps) (aj:o.op= .binOp .add t x y u) (U:cT x cN=true) (aa:cT y hZ=true) (ap:cN.aI env= .str p) (ay:hZ.aI env= .str q) (bu:p.length+q.length≤maxLen):fJ P m a o (.str (p++q)):=by
 have ab:=db he U
 have a8:=db he aa
 rw[ap]at ab; rw[ay]at a8
 have ao: ¬((((⟨⟨p⟩⟩:ByteArray).size+(⟨⟨q⟩⟩:ByteArray).size:Nat):Int)>IntKind.i64.max):=by
  have ap:(⟨⟨p⟩⟩:ByteArray).size=p.length:=rfl
  have ay:(⟨⟨q⟩⟩:ByteArray).size=q.length:=rfl
  rw[ap,ay]
  have:IntKind.i64.max=9223372036854775807:=by decide
  rw[this]
  simp only[maxLen]at bu
  omega
 refine⟨.string ⟨⟨p++q⟩⟩,?_,by simp only[aP]; exact⟨trivial,by simpa using bu⟩⟩
 simp only[execOp,aj,(qZ ab).1,(qZ a8).1,Sem.run_bind,Mb,Result.andThen_ok,binOp,Op.stringOp]
 rw[if_neg ao]
 simp [US]
theorem B7:maxLen=9223372036854775807:=by decide
theorem JG {t x i size cN dh rows k n r}(he:dR m env a.tmps) (aj:o.op= .indexAddr t x i) (h:bj P o.op (.hV size cN dh)=true) (ap:aP m (.aq size rows) (a.eval x)) (ay:dh.aI env= .int k n) (aW:0≤n) (ac:rows[n.toNat]? =some r):fJ P m a o (.ed r 0):=by
 rw[aj]at h
 simp only[bj,bb6]at h
 obtain⟨⟨U,aa⟩,aD⟩:=h
 have af:=db he aa
 rw[ay]at af
 obtain⟨dm,cap,g1,⟨g2,Zc⟩,g3⟩:=xQ ap
 have cz:n.toNat<rows.length:=(List.getElem?_eq_some_iff.1 ac).1
 rcases g3 with g3|⟨b,p,rfl,g3⟩
 ·omega
 ·obtain⟨g4,g5⟩:=dK.get g3 _ _ ac
  split at aD
  ·rename_i el fv
   have dq:jk P el=some size:=by simpa using aD
   have hu:P.underlying t=some (.slice el):=by
    unfold jT at fv
    split at fv
    ·rename_i e hu; simp at fv; subst fv; exact hu
    ·cases fv
   refine⟨.pointer (some ⟨b,p+n.toNat*size,none⟩),?_,by simp only[aP]; exact⟨b,_,rfl,g5⟩⟩
   have a1:0≤n∧n<(rows.length:Int):=⟨aW,by omega⟩
   simp [execOp,aj,Instr.indexAt,g1,jM af,asIntOf,run_underlying hu,a1,mY dq,np]
  ·cases aD
theorem XX {t x i size cN dh b p len cap k}{n:Int}(he:dR m env a.tmps) (aj:o.op= .indexAddr t x i) (h:bj P o.op (.hV size cN dh)=true) (ap:cN.aI env= .dV (.slice (some ⟨b,p,none⟩) len cap)) (ay:dh.aI env= .int k n) (aW:0≤n) (ac:n<(len:Int)):fJ P m a o (.ptr b (p+n.toNat*size)):=by
 rw[aj]at h
 simp only[bj,bb6]at h
 obtain⟨⟨U,aa⟩,aD⟩:=h
 have af:=db he aa
 have ab:=db he U
 rw[ay]at af
 rw[ap]at ab
 split at aD
 ·rename_i el fv
  have dq:jk P el=some size:=by simpa using aD
  have hu:P.underlying t=some (.slice el):=by
   unfold jT at fv
   split at fv
   ·rename_i e hu; simp at fv; subst fv; exact hu
   ·cases fv
  refine⟨.pointer (some ⟨b,p+n.toNat*size,none⟩),?_,by simp only[aP]⟩
  simp [execOp,aj,Instr.indexAt,uu ab,jM af,asIntOf,run_underlying hu,aW,ac,mY dq,np]
 ·cases aD
theorem JF {t x i size cN dh b p k}{len:Nat}{n:Int}(he:dR m env a.tmps) (aj:o.op= .indexAddr t x i) (h:bj P o.op (.mS len size cN dh)=true) (ap:a.eval x= .pointer (some ⟨b,p,none⟩)) (ay:dh.aI env= .int k n) (aW:0≤n) (ac:n<(len:Int)):
  (execOp a.eval o).run P m.w= .ok (.value (.pointer (some ⟨b,p+n.toNat*size,none⟩))) m.w:=by
 rw[aj]at h
 simp only[bj,bb6]at h
 obtain⟨⟨U,aa⟩,aD⟩:=h
 have af:=db he aa
 rw[ay]at af
 split at aD
 ·rename_i mx el hu
  simp only[bb6,decide_eq_true_eq]at aD
  obtain⟨rfl,dq⟩:=aD
  simp [execOp,aj,Instr.indexAt,ap,jM af,asIntOf,run_underlying hu,Instr.sureAddr,aW,ac,mY dq,np]
 ·cases aD
theorem XW {t x i agg size cN dh cs k v}{len:Nat}{n:Int}(he:dR m env a.tmps) (aj:o.op= .index t x i) (h:bj P o.op (.jw agg len size cN dh)=true) (ap:cN.aI env= .agg cs) (ay:dh.aI env= .int k n) (aW:0≤n) (ac:n<(len:Int)) (aG:n.toNat*size+size≤cs.length) (ad:I.iA agg ((cs.drop (n.toNat*size)).take size)=some v):fJ P m a o v:=by
 rw[aj]at h
 simp only[bj,bb6]at h
 obtain⟨⟨U,aa⟩,aD⟩:=h
 have af:=db he aa
 have ab:=db he U
 rw[ay]at af
 rw[ap]at ab
 obtain⟨l,g1,g2⟩:=zV ab
 have j2:=aR.length g2
 split at aD
 ·rename_i mx el hu
  simp only[bb6,decide_eq_true_eq]at aD
  obtain⟨rfl,aD⟩:=aD
  have dq:=(zs aD).2.1
  refine⟨if agg then .agg ⟨(l.drop (n.toNat*size)).take size⟩ else l.getD (n.toNat*size) undef,?_,?_⟩
  ·simp [execOp,aj,Instr.index,g1,jM af,asIntOf,run_underlying hu,aW,ac,mY dq,Ss aD l (n.toNat*size) (by omega)]
  ·rcases zE ad (aR.take size (aR.drop (n.toNat*size) g2)) with ⟨rfl,h⟩|⟨rfl,u,ze,h⟩
   ·exact h
   ·have a1:=(zs aD).2.2.1 rfl
    subst a1
    rw[Ms]
    have:(l.drop (n.toNat*1)).getD 0 undef=u:=by
     cases bG:l.drop (n.toNat*1) with
     |nil=>rw[bG]at ze; simp at ze
     |cons x xs=>rw[bG]at ze; simp at ze; simp [ze]
    simp only[bd5,if_false,this]
    exact h
 ·cases aD
theorem XY {t x i cN dh s k n c}(he:dR m env a.tmps) (aj:o.op= .index t x i) (h:bj P o.op (.fQ cN dh)=true) (ap:cN.aI env= .str s) (ay:dh.aI env= .int k n) (aW:0≤n) (an:s[n.toNat]? =some c):fJ P m a o (.int .u8 c.toNat):=by
 rw[aj]at h
 simp only[bj,bb6]at h
 obtain⟨⟨U,aa⟩,aD⟩:=h
 have af:=db he aa
 have ab:=db he U
 rw[ay]at af
 rw[ap]at ab
 split at aD
 ·rename_i hu
  refine⟨.int .u8 c.toNat,?_,by simp only[aP]⟩
  have cz:=(List.getElem?_eq_some_iff.1 an)
  have hb:(⟨⟨s⟩⟩:ByteArray)[n.toNat]? =some c:=by
   obtain⟨aG,tP⟩:=cz
   have:=getElem?_pos (⟨⟨s⟩⟩:ByteArray) n.toNat aG
   rw[this]
   exact congrArg some tP
  simp [execOp,aj,Instr.index,(qZ ab).1,jM af,asIntOf,run_underlying hu,aW,hb]
 ·cases aD
theorem X7 {t x b3 af lX y mT gR s l h}(he:dR m env a.tmps) (aj:o.op= .slice t x b3 af lX) (an:bj P o.op (.iB y mT gR)=true) (ap:y.aI env= .str s) (aG:jK env 0 mT=some l) (a6:jK env s.length gR=some h) (U:l≤h) (aa:h≤s.length):fJ P m a o (.str ((s.take h).drop l)):=by
 rw[aj]at an
 cases lX with
 |some _=>simp [bj]at an
 |none=>
  simp only[bj,bb6]at an
  obtain⟨⟨⟨c1,cb⟩,eW⟩,gE⟩:=an
  have ab:=db he c1
  rw[ap]at ab
  obtain⟨g1,g2⟩:=qZ ab
  split at gE
  ·rename_i hu
   have ao:(⟨⟨s⟩⟩:ByteArray).size=s.length:=rfl
   have hb:=GS (P:=P) (w:=m.w) (b:=false) (cap:=s.length) he cb eW aG a6 U aa (bc1 _)
   refine⟨.string ⟨⟨(s.take h).drop l⟩⟩,?_,by simp only[aP]; exact⟨trivial,by simp; omega⟩⟩
   simp [execOp,aj,Instr.sliceAt,Instr.slice,run_underlying hu,g1,ao,hb,IM]
  ·cases gE
theorem aM0 {m:Mem}{size:Nat}{a:I}{rows:List (List I)}{v:Value}(h:na size a=some rows) (ad:aP m a v):aP m (.aq size rows) v:=by
 unfold na at h
 split at h
 ·split at h
  ·rename_i e; subst e; simp only[Option.some.injEq]at h; subst h; exact ad
  ·cases h
 ·split at h
  ·rename_i e; subst e; simp only[Option.some.injEq]at h; subst h; exact xO ad
  ·cases h
 ·cases h
theorem X8 {t x b3 af lX size y mT gR rows l h}(he:dR m env a.tmps) (aj:o.op= .slice t x b3 af lX) (an:bj P o.op (.gJ size y mT gR none)=true) (ap:na size (y.aI env)=some rows) (aG:jK env 0 mT=some l) (a6:jK env rows.length gR=some h) (U:l≤h) (aa:h≤rows.length):fJ P m a o (.aq size ((rows.take h).drop l)):=by
 rw[aj]at an
 simp only[bj,bb6]at an
 obtain⟨⟨⟨⟨c1,cb⟩,eW⟩,ls⟩,gE⟩:=an
 have ab:=db he c1
 replace ab:=aM0 ap ab
 have Fe:lX=none:=by cases lX<;>simp [pQ]at ls ⊢
 subst Fe
 split at gE
 ·rename_i el fv
  have dq:jk P el=some size:=by simpa using gE
  have hu:P.underlying t=some (.slice el):=by
   unfold jT at fv
   split at fv
   ·rename_i e hu; simp at fv; subst fv; exact hu
   ·cases fv
  obtain⟨dm,cap,g1,⟨g2,Zc⟩,g3⟩:=xQ ab
  have hb:=GS (P:=P) (w:=m.w) (b:=true) (cap:=cap) he cb eW aG a6 U aa g2
  refine⟨.slice (if cap=l then dm else dm.map (·.add (l*size))) (h-l) (cap-l),?_,?_⟩
  ·simp [execOp,aj,Instr.sliceAt,Instr.slice,run_underlying hu,g1,hb,mY dq]
  ·simp only[aP]
   have hlen:((rows.take h).drop l).length=h-l:=by simp; omega
   refine⟨_,_,_,rfl,hlen.symm,⟨by omega,by omega⟩,?_⟩
   by_cases cz:l<h
   ·rcases g3 with g3|⟨b,p,rfl,g3⟩
    ·omega
    ·refine .inr ⟨b,p+l*size,by rw[if_neg (by omega)]; simp [np],?_⟩
     have:=dK.drop l g3
     have:=dK.take (h-l) this
     rwa [show (rows.take h).drop l=(rows.drop l).take (h-l) by rw[bq6]]
   ·exact .inl (by omega)
 ·cases gE
end
section
variable {P:Program}{m:Mem}{env:Env}{a:Act}{o:Oper}
theorem XR {T x y}(he:dR m env a.tmps) (bd:bW m) (aj:o.op= .box T x) (h:cT x y=true) (a8:((y.aI env).cells).all I.one=true):
  ∃l,(execOp a.eval o).run P m.w= .ok (.value (.pointer (some ⟨m.w.heap.size,0,none⟩))) (m.bP T (y.aI env).cells l).w∧bW (m.bP T (y.aI env).cells l):=by
 obtain⟨U,aa⟩:=A1 (db he h) a8
 exact⟨(a.eval x).cells.toList,by simp [execOp,aj,Instr.box,newVar,newRow,Mem.bP],bW.bP bd U aa⟩
theorem aJ9 {m:Mem}(s:List UInt8):aR m (s.map fun c=>[I.int .u8 c.toNat]).flatten (s.map fun b=>Value.int .u8 b.toNat):=by
 induction s with
 |nil=>simp [aR]
 |cons c s b7=>simp only[bd4,bd0,List.singleton_append,aR]; exact⟨_,_,rfl,by simp only[aP],b7⟩
theorem XT {t t2 T x y s}(he:dR m env a.tmps) (bd:bW m) (aj:o.op= .convert t t2 x) (h:bj P o.op (.jP T y)=true) (a8:y.aI env= .str s):
  ∃w' v,(execOp a.eval o).run P m.w= .ok (.value v) w'∧bW {m with w:=w'}∧bV m {m with w:=w'}∧aP {m with w:=w'} (.aq 1 (s.map fun c=>[.int .u8 c.toNat])) v:=by
 rw[aj]at h
 simp only[bj,bb6,decide_eq_true_eq]at h
 obtain⟨⟨⟨U,aa⟩,aD⟩,bA⟩:=h
 have ab:=db he U
 rw[a8]at ab
 obtain⟨g1,g2⟩:=qZ ab
 split at aa
 ·rename_i hu
  split at bA
  ·rename_i xp
   have bG:P.underlying t2=some (.slice T):=by
    unfold jT at aD
    split at aD
    ·rename_i e hu; simp at aD; subst aD; exact hu
    ·cases aD
   have ac:=run_bytes_of_string (P:=P) m.w t t2 T ⟨⟨s⟩⟩ hu bG xp
   have ao:(⟨⟨s⟩⟩:ByteArray).size=s.length:=rfl
   rw[ao]at ac
   refine⟨m.w.drew.alloc (.cells (bytesRow ⟨⟨s⟩⟩ (grownCap m.w s.length 0 T)) T ((bytesRow ⟨⟨s⟩⟩ (grownCap m.w s.length 0 T)).size,(bytesRow ⟨⟨s⟩⟩ (grownCap m.w s.length 0 T)).size+1)),.slice (some ⟨m.w.heap.size,0,none⟩) s.length (grownCap m.w s.length 0 T),by simp [execOp,aj,g1,ac],?_,?_,?_⟩
   ·exact bW.alloc (bW.drew bd) _
   ·exact (bV.drew m).trans (bV.alloc {m with w:=m.w.drew} _)
   ·have aI:=(bV.drew m).trans (bV.alloc {m with w:=m.w.drew} (.cells (bytesRow ⟨⟨s⟩⟩ (grownCap m.w s.length 0 T)) T ((bytesRow ⟨⟨s⟩⟩ (grownCap m.w s.length 0 T)).size,(bytesRow ⟨⟨s⟩⟩ (grownCap m.w s.length 0 T)).size+1)))
    simp only[aP]
    have b4:=grownCap_ge m.w s.length 0 T
    have hle:=grownCap_le_maxLen m.w s.length 0 T g2
    refine⟨_,_,_,rfl,by simp,⟨by simpa using b4,hle⟩,.inr ⟨m.w.heap.size,0,rfl,dK.of (fun r ac=>by obtain⟨c,_,rfl⟩:=List.mem_map.1 ac; rfl) (l:=s.map fun b=> .int .u8 b.toNat) ?_ fun j v bm=>⟨?_,?_,⟨by simp,wF bd,fun t i aL hb=> ?_⟩⟩⟩⟩
    ·exact aJ9 s
    ·rw[bf6]
     have an:=World.cell?_alloc_mark m.w.drew (bytesRow ⟨⟨s⟩⟩ (grownCap m.w s.length 0 T)) T ((bytesRow ⟨⟨s⟩⟩ (grownCap m.w s.length 0 T)).size,(bytesRow ⟨⟨s⟩⟩ (grownCap m.w s.length 0 T)).size+1) j
     have jh:j<s.length:=by
      have:=(List.getElem?_eq_some_iff.1 bm).1
      simpa using this
     refine an.trans ?_
     rw[bytesRow_at _ _ _ (by simpa using jh)]
     simp [bd1 jh]at bm
     rw[←bm]
     rfl
    ·have:=bc2 bm
     obtain⟨c,_,rfl⟩:=List.mem_map.1 this
     rfl
    ·have:=uz bd aL hb
     omega
  ·cases bA
 ·cases aa
theorem XQ {T zero}(bd:bW m) (aj:o.op= .alloc T) (h:tc P T zero=true):
  ∃l,(execOp a.eval o).run P m.w= .ok (.value (.pointer (some ⟨m.w.heap.size,0,none⟩))) (m.bP T zero l).w∧bW (m.bP T zero l):=by
 obtain⟨i,z,af,aw,an⟩:=C2 h
 obtain⟨U,aa⟩:=A5 (m:=m) an
 exact⟨z.cells.toList,by simp [execOp,aj,Instr.alloc,zeroValue,typeInfo,af,aw,newVar,newRow,Mem.bP],bW.bP bd U aa⟩
theorem aq6 (z:Array Value) (n:Nat):(madeCells z (n*z.size)).toList=(bc9 n z.toList).flatten:=by
 simp only[madeCells,bm6,Array.toList_range]
 induction n with
 |zero=>simp
 |succ n b7=>
  rw[Nat.succ_mul,bl1,List.range_add,List.map_append,bi4,bd0,←b7]
  congr 1
  ·apply List.ext_getElem
   ·simp
   ·intro j U aa
    simp at U
    simp [Nat.mod_eq_of_lt U,U]
  ·rw[List.map_map]
   apply List.map_congr_left
   intro j _
   simp [Nat.add_mod_left]
theorem SB {az:List I}{l:List Value}(h:aR m az l): ∀n,aR m (bc9 n az).flatten (bc9 n l).flatten
 |0=>by simp [aR]
 |n+1=>by
  rw[bi4,bi4,bd0,bd0]
  exact aR.append h (SB h n)
theorem aK8 (a b c:List I) (h:c.length=b.length): ∀rest,gg (a++b++rest) a.length c=a++c++rest:=by
 intro rest
 unfold gg
 rw[show (a++b++rest).take a.length=a by rw[bc8]; exact bo9,h]
 rw[show (a++b++rest).drop (a.length+b.length)=rest by rw[←bb7]; exact bp0]
theorem IH {env:Env}{size:Nat}: ∀(ps:List (Nat×aJ)) (k:Nat) (done:List I),xt k ps=true→done.length=k*size→(∀p∈ps,(p.2.aI env).cells.length=size∧(p.2.aI env).ea=true)→
  nO env (done++bc9 (ps.length*size) .eD) (ps.map fun p=>(p.1*size,size,p.2))=some (done++(j7 env ps).flatten)
 |[],k,done,_,_,_=>by simp [nO,j7]
 |(i,x)::ps,k,done,U,aa,aD=>by
  simp only[xt,bb6,decide_eq_true_eq]at U
  obtain⟨rfl,U⟩:=U
  obtain⟨c1,cb⟩:=aD (i,x) (by simp)
  simp only at c1 cb
  have af2:bc9 (((i,x)::ps).length*size) I.eD=bc9 size I.eD++bc9 (ps.length*size) I.eD:=by
   rw[List.replicate_append_replicate]
   congr 1
   simp only[bb9,bf3]
   omega
  simp only[bd4,nO]
  rw[af2,if_pos ⟨c1,by simp only[bb7,List.length_replicate]; omega,cb⟩]
  rw[←bc8,←aa,aK8 _ _ _ (by simpa using c1)]
  have:=IH ps (i+1) (done++(x.aI env).cells) U (by simp [aa,c1,bf3]) (fun p hp=>aD p (by simp [hp]))
  rw[this]
  simp [j7]
theorem PA {size:Nat}: ∀ {ps:List (Nat×Operand)}{jL:List (Nat×aJ)},sr ps jL=true→pr (fun i=>some (i*size,size)) ps (jL.map fun p=>(p.1*size,size,p.2))
 |[],[],_=>by simp [pr]
 |[],_:: _,h=>by simp [sr]at h
 | _:: _,[],h=>by simp [sr]at h
 |(i,x)::ps,(j,y)::jL,h=>by
  simp only[sr,bb6,decide_eq_true_eq]at h
  obtain⟨⟨rfl,aa⟩,aD⟩:=h
  simp only[bd4,pr]
  exact⟨_,_,rfl,rfl,aa,PA aD⟩
theorem H3 {m:Mem}: ∀(l:List Value),aR m (bc9 l.length .eD) l
 |[]=>by simp [aR]
 |v::l=>by simp only[bb9,bi4,aR]; exact⟨v,l,rfl,by simp only[aP],H3 l⟩
theorem au5 {x:I}(h:x.cells.all I.one=true):x.ea=true:=by
 cases x<;>simp only[I.cells,bd3,bk2,be0,I.one,I.ea]at h ⊢ <;>exact h
theorem DV {t n parts T size gT zero ps rows}(he:dR m env a.tmps) (bd:bW m) (aj:o.op= .buildSlice t n parts) (h:bj P o.op (.et T size gT zero ps)=true) (ac:j7 env ps=rows) (ao:rows.all (fun r=>r.length==size)=true) (U:rows.flatten.all I.one=true):
  ∃l,(execOp a.eval o).run P m.w= .ok (.value (.slice (some ⟨m.w.heap.size,0,none⟩) rows.length rows.length)) (m.w.alloc (.cells ⟨l⟩ T))∧aR m rows.flatten l∧(∀v∈l,v.oneCell'=true)∧l.length=rows.length*size∧rows.length≤65536∧size≠0:=by
 rw[aj]at h
 simp only[bj,bb6,decide_eq_true_eq]at h
 obtain⟨⟨⟨⟨⟨⟨⟨⟨⟨rfl,cb⟩,eW⟩,gE⟩,ls⟩,me⟩,nP⟩,o3⟩,mK⟩,mc⟩:=h
 have a25:=bh6 me
 have eg:size≠0:=by simpa using mc
 obtain⟨i,z,af,aw,an⟩:=C2 gE
 have xo:rows.length=n:=by subst ac; simpa [j7] using mK
 have hu:P.underlying t=some (.slice T):=by
  unfold jT at cb
  split at cb
  ·rename_i e hu; simp at cb; subst cb; exact hu
  ·cases cb
 have pZ:z.cells.size=size:=by
  have:=aR.length (A5 (m:=m) an).1
  simp at this
  omega
 have dq:(sizeOf T).run P m.w= .ok size m.w:=mY eW _
 have ad2:((Array.range (n*size)).map (z.cells[·%z.cells.size]!)).size=n*size:=by simp
 have iz: ∀p∈ps,(p.2.aI env).cells.length=size∧(p.2.aI env).ea=true:=by
  intro p hp
  have hm:(p.2.aI env).cells∈rows:=by subst ac; exact List.mem_map.2 ⟨p,hp,rfl⟩
  refine⟨by have:=List.all_eq_true.1 ao _ hm; simpa using this,au5 ?_⟩
  simp only[bj8]at U ⊢
  intro x ab
  exact U x (List.mem_flatten.2 ⟨_,hm,ab⟩)
 have hb:=IH (env:=env) (size:=size) ps 0 [] o3 (by simp) iz
 simp only[bd6,ac]at hb
 have Nw:=H3 (m:=m) ((Array.range (n*size)).map (z.cells[·%z.cells.size]!)).toList
 rw[bg4,ad2,show n*size=ps.length*size by rw[mK]]at Nw
 obtain⟨l,g1,g2⟩:=Bs he (fun i=>some (i*size,size)) parts.toList _ _ _ _ (PA nP) Nw hb
 have j2:l.length=rows.length*size:=by
  rw[aR.length g2]
  clear g1 g2 hb ac xo U
  induction rows with
  |nil=>simp
  |cons r rows b7=>
   simp only[bd3,bb6]at ao
   have e:r.length=size:=by simpa using ao.1
   simp only[bd0,bb7,b7 ao.2,bb9,bf3,e]
   omega
 refine⟨l,?_,g2,fun v ad=> ?_,j2,?_,eg⟩
 ·have Z3: ¬(n*size>2^24):=by omega
  by_cases aW:n*size=0
  ·have vx:n=0:=by rcases Nat.mul_eq_zero.1 aW with e|e<;>omega
   subst vx
   simp at mK
   subst mK
   have ae6:parts= #[]:=by
    have:parts.toList=[]:=by cases hp:parts.toList with|nil=>rfl|cons x y=>rw[hp]at nP; simp [sr]at nP
    simpa using this
   subst ae6
   have tS:l=[]:=be2 (by rw[j2,xo]; simp)
   subst tS
   simp [execOp,aj,Instr.buildSlice,run_underlying hu,dq,Instr.fill,newRow,xo]
   congr 2
   exact Array.eq_empty_of_size_eq_zero (by simp)
  ·have Nz:(zeroValue T).run P m.w= .ok z m.w:=by simp [zeroValue,typeInfo,af,aw]
   simp only[execOp,aj,Instr.buildSlice,Sem.run_bind,run_underlying hu,Result.andThen_ok,dq,Sem.run_ite,if_neg Z3,aW,if_false,Nz,Sem.run_pure]
   have Ex:Instr.fill (fun i=>some (i*size,size)) ((Array.range (n*size)).map (z.cells[·%z.cells.size]!)) ((parts.map fun (i,x)=>(i,a.eval x)).toList)=some ⟨l⟩:=by
    rw[bm6]
    rw[mK]at g1
    exact g1
   simp only[Ex,Result.andThen_ok,Sem.run_bind,newRow,run_newObj,Sem.run_pure,xo]
   rfl
 ·obtain⟨j,bm⟩:=bf4 ad
  have jh:=(List.getElem?_eq_some_iff.1 bm).1
  rw[aR.length g2]at jh
  obtain⟨bD,ap,ay⟩:=aR.get g2 j rows.flatten[j] (bd1 jh)
  rw[bm]at ap
  simp at ap
  subst ap
  exact zI ay (List.all_eq_true.1 U _ (List.getElem_mem jh))
 ·rw[xo]
  have:n*1≤n*size:=Nat.mul_le_mul_left _ (by omega)
  omega
end
section
variable {P:Program}{m:Mem}{env:Env}{a:Act}{o:Oper}
structure Src (P:Program) (m:Mem) (size:Nat) (y:Value) (new:List (List I)) (news:List Value):Prop where
 len: ∀w,(Builtin.lenOf y).run P w= .ok new.length w
 cells: ∀w:World,(∀b o,l9 m b o→w.cell? ⟨b,o,none⟩=m.w.cell? ⟨b,o,none⟩)→(Builtin.firstCells size new.length y).run P w= .ok ⟨news⟩ w
 v8:aR m new.flatten news
 one: ∀v∈news,v.oneCell'=true
 n:news.length=new.length*size
 oM: ∀r∈new,r.length=size
theorem eS.An {m:Mem}: ∀ {az:List I}{b o:Nat},eS m az b o→∃l,aR m az l∧(∀j v,l[j]? =some v→m.w.cell? ⟨b,o+j,none⟩=some v∧v.oneCell'=true∧l9 m b (o+j))
 |[],_,_,_=>⟨[],by simp [aR],by simp⟩
 |a::az,b,o,h=>by
  simp only[eS]at h
  obtain⟨⟨v,U,tM,aa,aD⟩,bA⟩:=h
  obtain⟨l,ap,ay⟩:=eS.An bA
  refine⟨v::l,by simp only[aR]; exact⟨v,l,rfl,aD,ap⟩,fun j u bm=> ?_⟩
  cases j with
  |zero=>simp at bm; subst bm; exact⟨U,tM,aa⟩
  |succ j=>simp at bm; have:=ay j u bm; rwa [show o+1+j=o+(j+1) by omega]at this
theorem dK.An {m:Mem}{size:Nat}: ∀ {aQ:List (List I)}{b o:Nat},dK m size aQ b o→∃l,aR m aQ.flatten l∧l.length=aQ.length*size∧(∀r∈aQ,r.length=size)∧(∀j v,l[j]? =some v→m.w.cell? ⟨b,o+j,none⟩=some v∧v.oneCell'=true∧l9 m b (o+j))
 |[],_,_,_=>⟨[],by simp [aR],by simp,by simp,by simp⟩
 |r::aQ,b,o,h=>by
  simp only[dK]at h
  obtain⟨U,aa,aD⟩:=h
  obtain⟨l,ap,ay⟩:=eS.An aa
  obtain⟨bZ,f1,f2,f4,f3⟩:=dK.An aD
  have aG:l.length=size:=(aR.length ap).trans U
  refine⟨l++bZ,by simpa using aR.append ap f1,by rw[bb7,f2,aG,bb9,bf3]; omega,?_,fun j u bm=> ?_⟩
  ·intro x ab
   rcases List.mem_cons.1 ab with rfl|ab
   ·exact U
   ·exact f4 x ab
  ·by_cases jh:j<l.length
   ·rw[bh0 jh]at bm
    exact ay j u bm
   ·rw[bj1 (by omega)]at bm
    have:=f3 _ u bm
    rwa [show o+size+(j-l.length)=o+j by omega]at this
theorem N5 {l:List Value}{Q:Value→Prop}(h: ∀(j:Nat) (v:Value),l[j]? =some v→Q v): ∀v∈l,Q v:=fun v ad=>by
 obtain⟨j,bm⟩:=bf4 ad
 exact h j v bm
theorem Tz {size:Nat}{rows:List (List I)}{v:Value}(h:aP m (.aq size rows) v): ∃dm cap l,v= .slice dm rows.length cap∧rows.length≤cap∧cap≤maxLen∧aR m rows.flatten l∧l.length=rows.length*size∧(∀r∈rows,r.length=size)∧(rows.length=0∨∃b p,dm=some ⟨b,p,none⟩∧∀j u,l[j]? =some u→m.w.cell? ⟨b,p+j,none⟩=some u∧u.oneCell'=true∧l9 m b (p+j)):=by
 obtain⟨dm,cap,e,⟨U,aa⟩,aD⟩:=xQ h
 rcases aD with aD|⟨b,p,rfl,aD⟩
 ·have:rows=[]:=be2 aD
  subst this
  exact⟨dm,cap,[],e,U,aa,by simp [aR],by simp,by simp,.inl rfl⟩
 ·obtain⟨l,g1,g2,g3,g4⟩:=dK.An aD
  exact⟨_,cap,l,e,U,aa,g1,g2,g3,.inr ⟨b,p,rfl,g4⟩⟩
theorem SQ {size:Nat}{rows:List (List I)}{v:Value}(h:aP m (.aq size rows) v): ∃news,Src P m size v rows news:=by
 obtain⟨dm,cap,l,rfl,U,aa,g1,g2,g3,g4⟩:=Tz h
 refine⟨l,⟨fun w=>by simp [Builtin.lenOf],fun w hw=> ?_,g1,?_,g2,g3⟩⟩
 ·rcases g4 with g4|⟨b,p,rfl,g4⟩
  ·have:l=[]:=be2 (by rw[g2,g4]; simp)
   subst this
   rw[g4]
   cases dm with
   |none=>simp [Builtin.firstCells]
   |some x=>simp [Builtin.firstCells,loadCells,loadCellsFrom]
  ·have:=run_loadCells_list (P:=P) w ⟨b,p,none⟩ l (fun j u bm=>by
    obtain⟨br,bB,cu⟩:=g4 j u bm
    rw[np]
    exact (hw b _ cu).trans br)
   rw[g2]at this
   simp [Builtin.firstCells,this]
 ·rcases g4 with g4|⟨b,p,rfl,g4⟩
  ·have:l=[]:=be2 (by rw[g2,g4]; simp)
   subst this
   simp
  ·exact N5 fun j v bm=>(g4 j v bm).2.1
theorem aM9 {size:Nat}{dm:Option Addr}{cap:Nat}:Src P m size (.slice dm 0 cap) [] []:=
 ⟨fun w=>by simp [Builtin.lenOf],fun w _=>by cases dm<;>simp [Builtin.firstCells,loadCells,loadCellsFrom],by simp [aR],by simp,by simp,by simp⟩
theorem aN9 (s:List UInt8):aR m (s.map fun c=>[I.int .u8 c.toNat]).flatten (s.map fun b=>Value.int .u8 b.toNat):=by
 induction s with
 |nil=>simp [aR]
 |cons c s b7=>simp only[bd4,bd0,List.singleton_append,aR]; exact⟨_,_,rfl,by simp only[aP],b7⟩
theorem aN0 {s:List UInt8}:Src P m 1 (.string ⟨⟨s⟩⟩) (s.map fun c=>[.int .u8 c.toNat]) (s.map fun b=> .int .u8 b.toNat):=by
 refine⟨fun w=> ?_,fun w _=> ?_,aN9 s,?_,by simp,?_⟩
 ·simp only[Builtin.lenOf,Sem.run_pure,bb5]; rfl
 ·simp only[Builtin.firstCells,Sem.run_pure]
  congr 1
  rw[IM]
  simp [List.map_take]
 ·intro v ad
  obtain⟨b,_,rfl⟩:=List.mem_map.1 ad
  rfl
 ·intro r ac
  obtain⟨b,_,rfl⟩:=List.mem_map.1 ac
  rfl
structure td (P:Program) (t u T:TypeId) (size bytes:Nat) where
 aL:P.underlying t=some (.slice T)
 hu:P.underlying u=some (.slice T)∨P.underlying u=some .string
 i:TypeInfo
 af:P.info? T=some i
 ao:i.size=size
 hb:i.bytes=bytes
 z:Value
 aw:i.zero=some z
 pZ:z.cells.size=size
theorem yk {t u T ty:TypeId}{size bytes:Nat}(A:td P t u T size bytes){base:Option Addr}{k cap:Nat}{y:Value}{new:List (List I)}{news:List Value}(S:Src P m size y new news) (kb:k+new.length≤cap):
  (Builtin.append_ #[t,u] ty #[.slice base k cap,y]).run P m.w=(match base with
   |some dm=>((storeCells (dm.add (k*size)) news).run P m.w).andThen fun _ w'=> .ok (.slice base (k+new.length) cap) w'
   |none=> .ok (.slice base (k+new.length) cap) m.w):=by
 have ap:=S.cells m.w (fun _ _ _=>rfl)
 have dq: ∀w,(sizeOf T).run P w= .ok size w:=fun w=>by simp [sizeOf,typeInfo,A.af,A.ao]
 unfold Builtin.append_
 rcases A.hu with hu|hu
 ·cases base with
  |none=>simp [run_underlying A.aL,run_underlying hu,dq,S.len,kb,ap]
  |some dm=>simp [run_underlying A.aL,run_underlying hu,dq,S.len,kb,ap]
 ·cases base with
  |none=>simp [run_underlying A.aL,run_underlying hu,dq,S.len,kb,ap]
  |some dm=>simp [run_underlying A.aL,run_underlying hu,dq,S.len,kb,ap]
theorem Il {t u T ty:TypeId}{size bytes:Nat}(A:td P t u T size bytes){base:Option Addr}{k cap:Nat}{y:Value}{new:List (List I)}{news olds:List Value}(S:Src P m size y new news) (kb: ¬k+new.length≤cap)
  (bN:(Builtin.firstCells size k (.slice base k cap)).run P m.w.drew= .ok ⟨olds⟩ m.w.drew) (iT:cap≤maxLen) (av:k≤cap)
  (hb:(k+new.length)*bytes≤140737488355328) (EK:k+new.length≤maxLen):
  (Builtin.append_ #[t,u] ty #[.slice base k cap,y]).run P m.w= .ok (.slice (some ⟨m.w.heap.size,0,none⟩) (k+new.length) (grownCap m.w (k+new.length) cap T))
   (m.w.drew.alloc (.cells (⟨olds++news⟩++Builtin.zeroCells A.z.cells (grownCap m.w (k+new.length) cap T-(k+new.length))) T)):=by
 have ap:=S.cells m.w.drew (fun _ _ _=>rfl)
 have dq: ∀w,(sizeOf T).run P w= .ok size w:=fun w=>by simp [sizeOf,typeInfo,A.af,A.ao]
 have Nv: ∀w,(typeInfo T).run P w= .ok A.i w:=fun w=>by simp [typeInfo,A.af]
 have tZ: ∀w,(zeroValue T).run P w= .ok A.z w:=fun w=>by simp [zeroValue,typeInfo,A.af,A.aw]
 have MK: ¬(281474976710656<Builtin.nextslicecap (k+new.length) cap*A.i.bytes):=by
  rw[A.hb]
  have:=growslice_fits (need:=k+new.length) (old:=cap) (bytes:=bytes) (by omega) hb
  omega
 have ML: ¬(9223372036854775807<((k:Int)+(new.length:Int))):=by rw[B7]at EK; omega
 unfold Builtin.append_
 rcases A.hu with hu|hu
 ·simp [run_underlying A.aL,run_underlying hu,dq,S.len,kb,Nv,ML,MK,Question.forced,bN,ap,tZ,newRow,grownCap]
  exact congrArg (fun x=>m.w.drew.alloc (Obj.cells x T)) (by rw[←Array.append_assoc]; congr 1; simp)
 ·simp [run_underlying A.aL,run_underlying hu,dq,S.len,kb,Nv,ML,MK,Question.forced,bN,ap,tZ,newRow,grownCap]
  exact congrArg (fun x=>m.w.drew.alloc (Obj.cells x T)) (by rw[←Array.append_assoc]; congr 1; simp)
theorem AM {t u T ty:TypeId}{size bytes:Nat}(A:td P t u T size bytes){base:Option Addr}{k cap:Nat}{y:Value}{new:List (List I)}{news olds:List Value}(S:Src P m size y new news) (kb: ¬k+new.length≤cap)
  (aj: ∀w:World,(∀b o,l9 m b o→w.cell? ⟨b,o,none⟩=m.w.cell? ⟨b,o,none⟩)→(Builtin.firstCells size k (.slice base k cap)).run P w= .ok ⟨olds⟩ w) (iT:cap≤maxLen) (av:k≤cap)
  (hb:(k+new.length)*bytes≤140737488355328) (EK:k+new.length≤maxLen):
  (Builtin.append_ #[t,u] ty #[.slice base k cap,y]).run P m.w= .ok (.slice (some ⟨m.w.heap.size,0,none⟩) (k+new.length) (grownCap m.w (k+new.length) cap T))
   (m.w.drew.alloc (.cells (⟨olds++news⟩++Builtin.zeroCells A.z.cells (grownCap m.w (k+new.length) cap T-(k+new.length))) T)):=
 Il A S kb (aj m.w.drew fun _ _ _=>rfl) iT av hb EK
end
section
variable {P:Program}{m:Mem}{env:Env}{a:Act}{o:Oper}
theorem F1 {aX:Mem}(bd:bW aX){t size n cap b:Nat}{i:bM}{cur:Array Value}{T:TypeId}{rows:List (List I)}{l:List Value}(aL:aX.H.tok t=some i) (ec:aX.L t= .slice (some ⟨b,0,none⟩) n cap) (a1:i.n=rows.length) (a65:i.aU=rows.length) (ao:i.size=size) (rO:n=rows.length) (hb:aX.w.heap[b]? =some (.cells cur T (0,0)))
  (aG:aR aX rows.flatten l) (U: ∀v∈l,v.oneCell'=true) (hlen:l.length=rows.length*size) (dq: ∀r∈rows,r.length=size) (an: ∀(j:Nat) (v:Value),l[j]? =some v→cur[j]? =some v) (iT:n≤cap) (k8:cap≤maxLen):aP aX (.own t size rows) (aX.L t):=by
 obtain⟨br,bB,cu,eO⟩:=bd.tok t i aL
 obtain⟨ci,cM⟩:=eO b (by rw[ec]; rfl)
 have cz:b<aX.w.heap.size:=(Array.getElem?_eq_some_iff.1 hb).1
 simp only[aP]
 refine⟨⟨some ⟨b,0,none⟩,n,cap,ec,rO,⟨iT,k8⟩,.inr ⟨b,0,rfl,dK.of dq aG fun j v bm=>⟨?_,U v (bc2 bm),⟨cz,ci,fun dv dh gB hi=> ?_⟩⟩⟩⟩,br,fun dh gR=> ?_⟩
 ·rw[bf6,cell_of_row aX.w b j cur T (0,0) hb]
  exact an j v bm
 ·have:=cM dv dh gB hi
  subst this
  rw[aL]at gB
  simp at gB
  subst gB
  have:=(List.getElem?_eq_some_iff.1 bm).1
  rw[a1,ao]
  omega
 ·rw[aL]at gR
  simp at gR
  subst gR
  exact⟨by omega,fun _=>⟨trivial,ao⟩⟩
theorem Pr {aX:Mem}(bd:bW aX){t size:Nat}{i:bM}{v:Value}(aL:aX.H.tok t=some i) (ec:aX.L t=v) (ad: ∃dm cap,v= .slice dm 0 cap∧cap≤maxLen) (a1:i.aU=0) (ao:i.size=size):aP aX (.own t size []) v:=by
 obtain⟨br,bB,cu,eO⟩:=bd.tok t i aL
 obtain⟨dm,cap,rfl,hm⟩:=ad
 simp only[aP]
 refine⟨⟨dm,0,cap,rfl,rfl,⟨by omega,hm⟩,.inl rfl⟩,br,fun dh gR=> ?_⟩
 rw[aL]at gR
 simp at gR
 subst gR
 exact⟨by simp,fun _=>⟨ec,ao⟩⟩
theorem Oq (bd:bW m){w':World}{T size cap:Nat}{cur:Array Value}{rows:List (List I)}{l:List Value}(U:w'.os=m.w.os) (aa:w'.tape=m.w.tape) (aD:w'.output=m.w.output) (bA:m.w.heap.size≤w'.heap.size) (b6: ∀b,b<m.w.heap.size→w'.heap[b]? =m.w.heap[b]?)
  (hb:w'.heap[m.w.heap.size]? =some (.cells cur T (0,0))) (aG:aR m rows.flatten l) (aj: ∀v∈l,v.oneCell'=true) (hlen:l.length=rows.length*size) (dq: ∀r∈rows,r.length=size) (an: ∀(j:Nat) (v:Value),l[j]? =some v→cur[j]? =some v) (ka:cur.size=cap*size) (iT:rows.length≤cap) (k8:cap≤maxLen) (aW:size≠0):
  bW (m.bh w' (.slice (some ⟨m.w.heap.size,0,none⟩) rows.length cap) (.bY T size (rows.length)))∧bV m (m.bh w' (.slice (some ⟨m.w.heap.size,0,none⟩) rows.length cap) (.bY T size (rows.length)))∧
  aP (m.bh w' (.slice (some ⟨m.w.heap.size,0,none⟩) rows.length cap) (.bY T size (rows.length))) (.own m.T size rows) (.slice (some ⟨m.w.heap.size,0,none⟩) rows.length cap):=by
 have ad: ∀b,(Value.slice (some ⟨m.w.heap.size,0,none⟩) rows.length cap).ew=some b→m.w.heap.size≤b:=fun b e=>by simp [Value.ew]at e; omega
 have vy:w'.ownsRow 0 T size (.slice (some ⟨m.w.heap.size,0,none⟩) rows.length cap) rows.length (cur.toList.take (rows.length*size)):=by
  refine⟨?_,.inr ⟨m.w.heap.size,cap,cur,rfl,bc3 _,hb,iT,k8,ka,rfl⟩⟩
  have:rows.length*size≤cap*size:=bf9 _ iT
  simp; omega
 have r:=bW.bh bd (v:= .slice (some ⟨m.w.heap.size,0,none⟩) rows.length cap) (o:=(.bY T size (rows.length))) U aa aD bA b6 ad aW ⟨_,vy,fun _ h=>by cases h⟩
 have e:=bV.bh bd (v:= .slice (some ⟨m.w.heap.size,0,none⟩) rows.length cap) (o:=(.bY T size (rows.length))) U aa aD bA b6 ad
 refine⟨r,e,?_⟩
 have:=F1 r (t:=m.T) (i:=(.bY T size (rows.length))) (size:=size) (rows:=rows) (l:=l) (n:=rows.length) (cap:=cap) (b:=m.w.heap.size) (cur:=cur) (T:=T) (by simp [Mem.bh,aA.ck]) (by simp [Mem.bh]) rfl rfl rfl rfl hb (aR.aI e _ _ aG) aj hlen dq an iT k8
 simpa [Mem.bh] using this
theorem FL (bd:bW m){T size:Nat}(aW:size≠0):bW (m.bh m.w (.slice none 0 0) (.bY T size (0)))∧bV m (m.bh m.w (.slice none 0 0) (.bY T size (0)))∧aP (m.bh m.w (.slice none 0 0) (.bY T size (0))) (.own m.T size []) (.slice none 0 0):=by
 have ad: ∀b,(Value.slice none 0 0).ew=some b→m.w.heap.size≤b:=fun b e=>by simp [Value.ew]at e
 have r:=bW.bh bd (w':=m.w) (v:= .slice none 0 0) (o:=(.bY T size (0))) rfl rfl rfl (bc1 _) (fun _ _=>rfl) ad aW ⟨[],World.ownsRow_nil _ _ _ _,fun _ h=>by cases h⟩
 have e:=bV.bh bd (w':=m.w) (v:= .slice none 0 0) (o:=(.bY T size (0))) rfl rfl rfl (bc1 _) (fun _ _=>rfl) ad
 exact⟨r,e,Pr r (i:=(.bY T size (0))) (by simp [Mem.bh,aA.ck]) (by simp [Mem.bh]) ⟨none,0,rfl,bc3 _⟩ rfl rfl⟩
theorem x6 (z:Array Value) (n:Nat):(Builtin.zeroCells z n).size=n*z.size:=by simp [Builtin.zeroCells]
theorem sE (w:World) (nE:Obj) (b:Nat) (h:b<w.heap.size):(w.drew.alloc nE).heap[b]? =w.heap[b]? :=pa w.drew nE b h
theorem vs (w:World) (nE:Obj):(w.drew.alloc nE).heap[w.heap.size]? =some nE:=sI w.drew nE
theorem Ug {t u T ty:TypeId}{size bytes:Nat}(A:td P t u T size bytes) (bd:bW m){y:Value}{new:List (List I)}{news:List Value}(S:Src P m size y new news) (hb:new.length*bytes≤140737488355328) (k8:new.length≤maxLen) (aW:size≠0):
  ∃aX v,(Builtin.append_ #[t,u] ty #[.slice none 0 0,y]).run P m.w= .ok v aX.w∧bW aX∧bV m aX∧aX.H=m.H.ck m.T (.bY T size (new.length))∧aP aX (.own m.T size new) v:=by
 by_cases a1:new.length=0
 ·have:new=[]:=be2 a1
  subst this
  have ac:=yk (ty:=ty) A (base:=none) (k:=0) (cap:=0) S (by simp)
  obtain⟨r,e,v⟩:=FL bd (T:=T) aW
  exact⟨m.bh m.w (.slice none 0 0) (.bY T size (0)),_,ac,r,e,rfl,v⟩
 ·have ac:=AM (ty:=ty) A (base:=none) (k:=0) (cap:=0) (olds:=[]) S (by omega) (fun w _=>by simp [Builtin.firstCells]) (bc3 _) (bc1 _) (by simpa using hb) (by simpa using k8)
  simp only[bf6,bd6]at ac
  have b4:=grownCap_ge m.w new.length 0 T
  have hle:=grownCap_le_maxLen m.w new.length 0 T k8
  obtain⟨r,e,v⟩:=Oq bd (T:=T) (size:=size) (cap:=grownCap m.w new.length 0 T) (rows:=new) (l:=news) (w':=m.w.drew.alloc (.cells (⟨news⟩++Builtin.zeroCells A.z.cells (grownCap m.w new.length 0 T-new.length)) T)) rfl rfl rfl (by simp) (sE _ _) (vs _ _) S.v8 S.one S.n S.oM
   (fun j v bm=>by
    rw[bq9]
    have:=(List.getElem?_eq_some_iff.1 bm).1
    simp only[bi6]
    rw[if_pos this]
    simpa using bm)
   (by
    simp only[bm1,bi6,x6,A.pZ,S.n,←bf3]
    congr 1
    omega) b4 hle aW
  exact⟨_,_,ac,r,e,rfl,v⟩
theorem Uh {t u T ty:TypeId}{size bytes:Nat}(A:td P t u T size bytes) (bd:bW m){dP:Nat}{rows:List (List I)}{v0:Value}(tX:aP m (.own dP size rows) v0) (aL:m.H.tok dP=some (.bY T size (rows.length))){y:Value}{new:List (List I)}{news:List Value}(S:Src P m size y new news) (hb:(rows.length+new.length)*bytes≤140737488355328) (k8:rows.length+new.length≤maxLen):
  ∃aX v,(Builtin.append_ #[t,u] ty #[v0,y]).run P m.w= .ok v aX.w∧bW aX∧bV m aX∧aX.H=m.H.ck dP (.bY T size (rows.length+new.length))∧aP aX (.own dP size (rows++new)) v:=by
 obtain⟨br,bB,⟨xs,cu,_⟩,eO⟩:=bd.tok dP _ aL
 have ec:m.L dP=v0:=by
  simp only[aP]at tX
  exact ((tX.2.2 _ aL).2 rfl).1
 obtain⟨dm,cap,l,rfl,iT,rL,g1,g2,g3,g4⟩:=Tz (xO tX)
 have y2:aR m (rows++new).flatten (l++news):=by rw[bm8]; exact aR.append g1 S.v8
 have iz: ∀v∈l++news,v.oneCell'=true:=fun v ad=>by
  rcases List.mem_append.1 ad with ad|ad
  ·rcases g4 with g4|⟨b,p,rfl,g4⟩
   ·have:l=[]:=be2 (by rw[g2,g4]; simp)
    subst this
    cases ad
   ·exact N5 (Q:=fun v=>v.oneCell'=true) (fun j v bm=>(g4 j v bm).2.1) v ad
  ·exact S.one v ad
 have hlen:(l++news).length=(rows++new).length*size:=by rw[bb7,g2,S.n,bb7,bf3]
 have dq: ∀r∈rows++new,r.length=size:=fun r ac=>by
  rcases List.mem_append.1 ac with ac|ac
  ·exact g3 r ac
  ·exact S.oM r ac
 -- where the row lies
 have vy:=cu.2
 rw[ec]at vy
 simp only[bM.bY,bM.len]at vy
 have olds: ∀w:World,(∀b o,l9 m b o→w.cell? ⟨b,o,none⟩=m.w.cell? ⟨b,o,none⟩)→(Builtin.firstCells size rows.length (.slice dm rows.length cap)).run P w= .ok ⟨l⟩ w:=by
  intro w hw
  rcases g4 with g4|⟨b,p,rfl,g4⟩
  ·have:l=[]:=be2 (by rw[g2,g4]; simp)
   subst this
   rw[g4]
   cases dm with
   |none=>simp [Builtin.firstCells]
   |some x=>simp [Builtin.firstCells,loadCells,loadCellsFrom]
  ·have:=run_loadCells_list (P:=P) w ⟨b,p,none⟩ l (fun j u bm=>by
    obtain⟨br,bB,cu⟩:=g4 j u bm
    rw[np]
    exact (hw b _ cu).trans br)
   rw[g2]at this
   simp [Builtin.firstCells,this]
 by_cases kb:rows.length+new.length≤cap
 ·have ac:=yk (ty:=ty) A (base:=dm) (k:=rows.length) (cap:=cap) S kb
  rcases vy with ⟨y9,tU⟩|⟨g,I6,cur,y9,_,bo,a55,a44,ka,a63⟩
  ·-- nil
   simp only[Value.slice.injEq]at y9
   obtain⟨rfl,a54,rfl⟩:=y9
   have ae0:new=[]:=be2 (by omega)
   subst ae0
   have ju:qj m m.w dP (.bY T size (rows.length)) (m.L dP) (.bY T size (rows.length+0)):=⟨⟨rfl,rfl,rfl,bc1 _,fun _ _ _=>rfl,fun _ _ _ _=>rfl,fun k av=> .inl av,bc1 _,rfl,rfl,bc1 _,fun _=>rfl⟩,⟨xs,cu,fun _ h=>by cases h⟩⟩
   refine⟨m.gt m.w dP (m.L dP) (.bY T size (rows.length+0)),_,ac,bW.gt bd aL ju,bV.gt bd aL ju.toGrows0,rfl,?_⟩
   have:=aP.aI (bV.gt bd aL ju.toGrows0) _ _ tX
   simpa using this
  ·-- in its block
   simp only[Value.slice.injEq]at y9
   obtain⟨rfl,_,rfl⟩:=y9
   have hq:(m.L dP).ew=some g:=by rw[ec]; rfl
   have lD:=run_storeCells_at P g (rows.length*size) T news 0 cur m.w bo (by
    rw[S.n,ka,bk3,←bf3]
    exact bf9 _ kb) S.one
   simp only[bk3]at lD
   have kc:(Builtin.append_ #[t,u] ty #[.slice (some ⟨g,0,none⟩) rows.length cap,y]).run P m.w= .ok (.slice (some ⟨g,0,none⟩) (rows.length+new.length) cap) (m.w.setRow g (cur.toList.take (rows.length*size)++news++cur.toList.drop (rows.length*size+news.length)).toArray):=by
    rw[ac]
    simp only[np,bf6,lD,Result.andThen_ok]
   generalize n1:(cur.toList.take (rows.length*size)++news++cur.toList.drop (rows.length*size+news.length)).toArray=gl at kc
   have vu:=setRow_heap m.w g cur gl T (0,0) bo
   have hle:rows.length*size≤cur.size:=by rw[ka]; exact bf9 _ iT
   have ad1:rows.length*size+news.length≤cur.size:=by
    rw[S.n,ka,←bf3]
    exact bf9 _ kb
   have qI:gl.size=cap*size:=by
    rw[←n1,←ka]
    simp
    omega
   have xn: ∀(j:Nat),j<rows.length*size→gl[j]? =cur[j]? :=by
    intro j bm
    rw[←n1]
    simp only[bl8,bc8]
    rw[bh0 (by simp; omega),be8,if_pos bm]
    simp
   have Fl: ∀(j:Nat) (v:Value),(l++news)[j]? =some v→gl[j]? =some v:=by
    intro j v bm
    by_cases Ni:j<l.length
    ·rw[bh0 Ni]at bm
     rw[xn j (by omega)]
     rcases g4 with g4|⟨b,p,BF,g4⟩
     ·have:l.length=0:=by rw[g2,g4]; simp
      omega
     ·simp at BF
      obtain⟨rfl,rfl⟩:=BF
      have:=(g4 j v bm).1
      rw[bf6,cell_of_row m.w g j cur T (0,0) bo]at this
      exact this
    ·rw[bj1 (by omega)]at bm
     rw[←n1]
     simp only[bl8,bc8]
     have BY:(cur.toList.take (rows.length*size)).length=rows.length*size:=by simp; omega
     have xm:=(List.getElem?_eq_some_iff.1 bm).1
     rw[bj1 (by omega),BY,bh0 (by omega),←g2]
     exact bm
   have ju:qj m (m.w.setRow g gl) dP (.bY T size (rows.length)) (.slice (some ⟨g,0,none⟩) (rows.length+new.length) cap) (.bY T size (rows.length+new.length)):=by
    refine⟨⟨rfl,rfl,rfl,by simp,fun k av eg=>setRow_other m.w g k gl (fun e=>eg (by rw[hq,e])),fun k c av an=> ?_,fun k av=> .inl ?_,bp5 _ _,rfl,rfl,bp5 _ _,fun e=> ?_⟩,?_⟩
    ·rw[hq]at av
     simp at av
     subst av
     rw[cell_of_row _ g c gl T (0,0) vu,cell_of_row m.w g c cur T (0,0) bo]
     exact xn c an
    ·rw[hq]
     simpa [Value.ew] using av
    ·rw[ec]
     have:new.length=0:=by simpa [bM.bY] using e
     simp [this]
    ·refine⟨gl.toList.take ((rows.length+new.length)*size),⟨?_,.inr ⟨g,cap,gl,rfl,bc3 _,vu,kb,rL,qI,rfl⟩⟩,fun _ h=>by cases h⟩
     have:(rows.length+new.length)*size≤cap*size:=bf9 _ kb
     simp [bM.bY,bM.len]
     omega
   refine⟨m.gt (m.w.setRow g gl) dP (.slice (some ⟨g,0,none⟩) (rows.length+new.length) cap) (.bY T size (rows.length+new.length)),_,kc,bW.gt bd aL ju,bV.gt bd aL ju.toGrows0,rfl,?_⟩
   have:=F1 (bW.gt bd aL ju) (t:=dP) (i:=(.bY T size (rows.length+new.length))) (size:=size) (rows:=rows++new) (l:=l++news) (n:=rows.length+new.length) (cap:=cap) (b:=g) (cur:=gl) (T:=T) (by simp [Mem.gt,aA.ck]) (by simp [Mem.gt]) (by simp [bM.bY]) (by simp [bM.bY]) rfl (by simp) vu (aR.aI (bV.gt bd aL ju.toGrows0) _ _ y2) iz hlen dq Fl kb rL
   simpa [Mem.gt] using this
 ·-- into a new block
  have ac:=AM (ty:=ty) A (base:=dm) (k:=rows.length) (cap:=cap) (olds:=l) S kb olds rL iT hb k8
  have b4:=grownCap_ge m.w (rows.length+new.length) cap T
  have hle:=grownCap_le_maxLen m.w (rows.length+new.length) cap T k8
  generalize n1:(⟨l++news⟩++Builtin.zeroCells A.z.cells (grownCap m.w (rows.length+new.length) cap T-(rows.length+new.length)):Array Value)=gl at ac
  have qI:gl.size=grownCap m.w (rows.length+new.length) cap T*size:=by
   rw[←n1]
   have:(l++news).length=(rows.length+new.length)*size:=by rw[hlen,bb7]
   simp only[bm1,bi6,x6,A.pZ,this,←bf3]
   congr 1
   omega
  have Fl: ∀(j:Nat) (v:Value),(l++news)[j]? =some v→gl[j]? =some v:=by
   intro j v bm
   rw[←n1,bq9]
   have:=(List.getElem?_eq_some_iff.1 bm).1
   simp only[bi6]
   rw[if_pos this]
   simpa using bm
  have ju:qj m (m.w.drew.alloc (.cells gl T)) dP (.bY T size (rows.length)) (.slice (some ⟨m.w.heap.size,0,none⟩) (rows.length+new.length) (grownCap m.w (rows.length+new.length) cap T)) (.bY T size (rows.length+new.length)):=by
   refine⟨⟨rfl,rfl,rfl,by simp,fun k av _=>sE _ _ _ av,fun k c av _=>World.cell?_of_block (a:=⟨k,c,none⟩) (sE _ _ _ (uz bd aL av)),fun k av=> .inr ?_,bp5 _ _,rfl,rfl,bp5 _ _,fun e=> ?_⟩,?_⟩
   ·simp [Value.ew]at av
    omega
   ·have:new.length=0:=by simpa [bM.bY] using e
    omega
   ·refine⟨gl.toList.take ((rows.length+new.length)*size),⟨?_,.inr ⟨m.w.heap.size,_,gl,rfl,bc3 _,vs _ _,b4,hle,qI,rfl⟩⟩,fun _ h=>by cases h⟩
    have:(rows.length+new.length)*size≤grownCap m.w (rows.length+new.length) cap T*size:=bf9 _ b4
    simp [bM.bY,bM.len]
    omega
  refine⟨m.gt (m.w.drew.alloc (.cells gl T)) dP (.slice (some ⟨m.w.heap.size,0,none⟩) (rows.length+new.length) (grownCap m.w (rows.length+new.length) cap T)) (.bY T size (rows.length+new.length)),_,ac,bW.gt bd aL ju,bV.gt bd aL ju.toGrows0,rfl,?_⟩
  have:=F1 (bW.gt bd aL ju) (t:=dP) (i:=(.bY T size (rows.length+new.length))) (size:=size) (rows:=rows++new) (l:=l++news) (n:=rows.length+new.length) (cap:=grownCap m.w (rows.length+new.length) cap T) (b:=m.w.heap.size) (cur:=gl) (T:=T) (by simp [Mem.gt,aA.ck]) (by simp [Mem.gt]) (by simp [bM.bY]) (by simp [bM.bY]) rfl (by simp) (vs _ _) (aR.aI (bV.gt bd aL ju.toGrows0) _ _ y2) iz hlen dq Fl b4 hle
  simpa [Mem.gt] using this
end
section
variable {P:Program}{m:Mem}{env:Env}{a:Act}{o:Oper}
theorem xz (bd:bW m){t aU T size:Nat}{rows:List (List I)}{v:Value}(aL:m.H.tok t=some (.bC T size aU rows)) (ad:aP m (.cV t aU) v):
  m.L t=v∧size≠0∧(∀r∈rows,r.length=size)∧((v= .slice none 0 0∧rows=[])∨∃g p cap cur,v= .slice (some ⟨g,p,none⟩) rows.length cap∧m.w.heap[g]? =some (.cells cur T (0,0))∧rows.length≤cap∧cap≤maxLen∧p+cap*size≤cur.size∧aR m rows.flatten ((cur.toList.drop p).take (rows.length*size))∧∀u∈(cur.toList.drop p).take (rows.length*size),u.oneCell'=true):=by
 simp only[aP]at ad
 have ec:m.L t=v:=(ad.2.2 _ aL).2 rfl
 obtain⟨br,bB,⟨xs,cu,hs⟩,eO⟩:=bd.tok t _ aL
 obtain⟨hs,pe,vH⟩:=hs rows rfl
 refine⟨ec,bB,pe,?_⟩
 rw[ec]at cu
 obtain⟨zn,cu⟩:=cu
 simp only[bM.bC,bM.len]at cu zn
 rcases cu with ⟨ap,ay⟩|⟨g,p,cap,cur,ap,ay,b1,dC,gF,nW⟩
 ·exact .inl ⟨ap,be2 ay⟩
 ·subst nW
  exact .inr ⟨g,p,cap,cur,ap,ay,b1,dC,gF,hs,vH⟩
theorem sP {aX:Mem}{t aU T size:Nat}{rows:List (List I)}{v:Value}(bd:bW aX) (aL:aX.H.tok t=some (.bC T size aU rows)) (ec:aX.L t=v) (ad:v.oneCell'=true):aP aX (.cV t aU) v:=by
 simp only[aP]
 refine⟨ad,(bd.tok t _ aL).1,fun i af=> ?_⟩
 rw[aL]at af
 simp at af
 subst af
 exact⟨bc1 _,fun _=>ec⟩
theorem Cd (bd:bW m){w':World}{T size cap:Nat}{cur:Array Value}{rows:List (List I)}(U:w'.os=m.w.os) (aa:w'.tape=m.w.tape) (aD:w'.output=m.w.output) (bA:m.w.heap.size≤w'.heap.size) (b6: ∀b,b<m.w.heap.size→w'.heap[b]? =m.w.heap[b]?)
  (hb:w'.heap[m.w.heap.size]? =some (.cells cur T (0,0))) (aG:aR m rows.flatten (cur.toList.take (rows.length*size))) (aj: ∀v∈cur.toList.take (rows.length*size),v.oneCell'=true) (dq: ∀r∈rows,r.length=size) (ka:cur.size=cap*size) (iT:rows.length≤cap) (k8:cap≤maxLen) (aW:size≠0):
  bW (m.bh w' (.slice (some ⟨m.w.heap.size,0,none⟩) rows.length cap) (.bC T size 0 rows))∧bV m (m.bh w' (.slice (some ⟨m.w.heap.size,0,none⟩) rows.length cap) (.bC T size 0 rows))∧
  aP (m.bh w' (.slice (some ⟨m.w.heap.size,0,none⟩) rows.length cap) (.bC T size 0 rows)) (.cV m.T 0) (.slice (some ⟨m.w.heap.size,0,none⟩) rows.length cap):=by
 have ad: ∀b,(Value.slice (some ⟨m.w.heap.size,0,none⟩) rows.length cap).ew=some b→m.w.heap.size≤b:=fun b e=>by simp [Value.ew]at e; omega
 have e:=bV.bh bd (v:= .slice (some ⟨m.w.heap.size,0,none⟩) rows.length cap) (o:= .bC T size 0 rows) U aa aD bA b6 ad
 have vy:w'.zL T size (.slice (some ⟨m.w.heap.size,0,none⟩) rows.length cap) rows.length (cur.toList.take (rows.length*size)):=by
  refine⟨?_,.inr ⟨m.w.heap.size,0,cap,cur,rfl,hb,iT,k8,by omega,rfl⟩⟩
  have:rows.length*size≤cap*size:=bf9 _ iT
  simp; omega
 have r:=bW.bh bd (v:= .slice (some ⟨m.w.heap.size,0,none⟩) rows.length cap) (o:= .bC T size 0 rows) U aa aD bA b6 ad aW ⟨_,vy,fun dT h=>by cases h; exact⟨aR.aI e _ _ aG,dq,aj⟩⟩
 exact⟨r,e,sP r (T:=T) (size:=size) (rows:=rows) (by simp [Mem.bh,aA.ck]) (by simp [Mem.bh]) rfl⟩
theorem as7 (bd:bW m){T size:Nat}(aW:size≠0):bW (m.bh m.w (.slice none 0 0) (.bC T size 0 []))∧bV m (m.bh m.w (.slice none 0 0) (.bC T size 0 []))∧aP (m.bh m.w (.slice none 0 0) (.bC T size 0 [])) (.cV m.T 0) (.slice none 0 0):=by
 have ad: ∀b,(Value.slice none 0 0).ew=some b→m.w.heap.size≤b:=fun b e=>by simp [Value.ew]at e
 have e:=bV.bh bd (w':=m.w) (v:= .slice none 0 0) (o:= .bC T size 0 []) rfl rfl rfl (bc1 _) (fun _ _=>rfl) ad
 have r:=bW.bh bd (w':=m.w) (v:= .slice none 0 0) (o:= .bC T size 0 []) rfl rfl rfl (bc1 _) (fun _ _=>rfl) ad aW ⟨[],⟨by simp [bM.bC,bM.len],.inl ⟨rfl,rfl⟩⟩,fun dT h=>by cases h; exact⟨by simp [aR],by simp,by simp⟩⟩
 exact⟨r,e,sP r (T:=T) (size:=size) (rows:=[]) (by simp [Mem.bh,aA.ck]) (by simp [Mem.bh]) rfl⟩
theorem Uf {t u T ty:TypeId}{size bytes:Nat}(A:td P t u T size bytes) (bd:bW m){y:Value}{new:List (List I)}{news:List Value}(S:Src P m size y new news) (hb:new.length*bytes≤140737488355328) (k8:new.length≤maxLen) (aW:size≠0):
  ∃aX v,(Builtin.append_ #[t,u] ty #[.slice none 0 0,y]).run P m.w= .ok v aX.w∧bW aX∧bV m aX∧aX.H=m.H.ck m.T (.bC T size 0 new)∧aP aX (.cV m.T 0) v:=by
 by_cases a1:new.length=0
 ·have:new=[]:=be2 a1
  subst this
  have ac:=yk (ty:=ty) A (base:=none) (k:=0) (cap:=0) S (by simp)
  obtain⟨r,e,v⟩:=as7 bd (T:=T) aW
  exact⟨m.bh m.w (.slice none 0 0) (.bC T size 0 []),_,ac,r,e,rfl,v⟩
 ·have ac:=AM (ty:=ty) A (base:=none) (k:=0) (cap:=0) (olds:=[]) S (by omega) (fun w _=>by simp [Builtin.firstCells]) (bc3 _) (bc1 _) (by simpa using hb) (by simpa using k8)
  simp only[bf6,bd6]at ac
  have b4:=grownCap_ge m.w new.length 0 T
  have hle:=grownCap_le_maxLen m.w new.length 0 T k8
  have ld:(⟨news⟩++Builtin.zeroCells A.z.cells (grownCap m.w new.length 0 T-new.length):Array Value).toList.take (new.length*size)=news:=by
   simp only[br8]
   rw[←S.n,bo9]
  obtain⟨r,e,v⟩:=Cd bd (T:=T) (size:=size) (cap:=grownCap m.w new.length 0 T) (rows:=new) (cur:=⟨news⟩++Builtin.zeroCells A.z.cells (grownCap m.w new.length 0 T-new.length)) (w':=m.w.drew.alloc (.cells (⟨news⟩++Builtin.zeroCells A.z.cells (grownCap m.w new.length 0 T-new.length)) T)) rfl rfl rfl (by simp) (sE _ _) (vs _ _) (by rw[ld]; exact S.v8) (by rw[ld]; exact S.one) S.oM
   (by
    simp only[bm1,bi6,x6,A.pZ,S.n,←bf3]
    congr 1
    omega) b4 hle aW
  exact⟨_,_,ac,r,e,rfl,v⟩
theorem Ue {t u T ty:TypeId}{size bytes:Nat}(A:td P t u T size bytes) (bd:bW m){dP aU:Nat}{rows:List (List I)}{v0:Value}(tX:aP m (.cV dP aU) v0) (aL:m.H.tok dP=some (.bC T size aU rows)){y:Value}{new:List (List I)}{news:List Value}(S:Src P m size y new news) (hb:(rows.length+new.length)*bytes≤140737488355328) (k8:rows.length+new.length≤maxLen):
  ∃aX v,(Builtin.append_ #[t,u] ty #[v0,y]).run P m.w= .ok v aX.w∧bW aX∧bV m aX∧aX.H=m.H.ck dP (.bC T size (aU+1) (rows++new))∧aP aX (.cV dP (aU+1)) v:=by
 obtain⟨ec,aW,ao,xh⟩:=xz bd aL tX
 have dq: ∀r∈rows++new,r.length=size:=fun r ac=>by
  rcases List.mem_append.1 ac with ac|ac
  ·exact ao r ac
  ·exact S.oM r ac
 rcases xh with ⟨rfl,rfl⟩|⟨g,p,cap,cur,rfl,bo,iT,rL,ka,rQ,iz⟩
 ·-- nil
  simp only[bc4,bf6]at hb k8
  by_cases a1:new.length=0
  ·have:new=[]:=be2 a1
   subst this
   have ac:=yk (ty:=ty) A (base:=none) (k:=0) (cap:=0) S (by simp)
   have g0:Grows0 m m.w dP (.bC T size aU []) (.slice none 0 0) (.bC T size (aU+1) []):=⟨rfl,rfl,rfl,bc1 _,fun _ _ _=>rfl,fun _ _ _ _=>rfl,fun k av=>by simp [Value.ew]at av,bc1 _,rfl,rfl,bm9 _,fun e=>by simp [bM.bC]at e⟩
   have ju:qj m m.w dP (.bC T size aU []) (.slice none 0 0) (.bC T size (aU+1) []):=⟨g0,[],⟨by simp [bM.bC,bM.len],.inl ⟨rfl,rfl⟩⟩,fun dT h=>by cases h; exact⟨by simp [aR],by simp,by simp⟩⟩
   have r:=bW.gt bd aL ju
   exact⟨m.gt m.w dP (.slice none 0 0) (.bC T size (aU+1) []),_,ac,r,bV.gt bd aL g0,rfl,sP r (T:=T) (size:=size) (rows:=[]) (by simp [Mem.gt,aA.ck]) (by simp [Mem.gt]) rfl⟩
  ·have ac:=AM (ty:=ty) A (base:=none) (k:=0) (cap:=0) (olds:=[]) S (by omega) (fun w _=>by simp [Builtin.firstCells]) (bc3 _) (bc1 _) (by simpa using hb) (by simpa using k8)
   simp only[bf6,bd6]at ac
   have b4:=grownCap_ge m.w new.length 0 T
   have hle:=grownCap_le_maxLen m.w new.length 0 T k8
   generalize n1:(⟨news⟩++Builtin.zeroCells A.z.cells (grownCap m.w new.length 0 T-new.length):Array Value)=gl at ac
   have ld:gl.toList.take (new.length*size)=news:=by
    rw[←n1]
    simp only[br8]
    rw[←S.n,bo9]
   have qI:gl.size=grownCap m.w new.length 0 T*size:=by
    rw[←n1]
    simp only[bm1,bi6,x6,A.pZ,S.n,←bf3]
    congr 1
    omega
   have g0:Grows0 m (m.w.drew.alloc (.cells gl T)) dP (.bC T size aU []) (.slice (some ⟨m.w.heap.size,0,none⟩) new.length (grownCap m.w new.length 0 T)) (.bC T size (aU+1) new):=
    ⟨rfl,rfl,rfl,by simp,fun k av _=>sE _ _ _ av,fun k c av _=>World.cell?_of_block (a:=⟨k,c,none⟩) (sE _ _ _ (uz bd aL av)),fun k av=> .inr (by simp [Value.ew]at av; omega),bc1 _,rfl,rfl,bm9 _,fun e=>by simp [bM.bC]at e⟩
   have aI:=bV.gt bd aL g0
   have ju:qj m (m.w.drew.alloc (.cells gl T)) dP (.bC T size aU []) (.slice (some ⟨m.w.heap.size,0,none⟩) new.length (grownCap m.w new.length 0 T)) (.bC T size (aU+1) new):=
    ⟨g0,news,⟨S.n,.inr ⟨m.w.heap.size,0,_,gl,rfl,vs _ _,b4,hle,by rw[qI,bf6]; exact bc1 _,ld⟩⟩,fun dT h=>by cases h; exact⟨aR.aI aI _ _ S.v8,S.oM,S.one⟩⟩
   have r:=bW.gt bd aL ju
   exact⟨m.gt (m.w.drew.alloc (.cells gl T)) dP (.slice (some ⟨m.w.heap.size,0,none⟩) new.length (grownCap m.w new.length 0 T)) (.bC T size (aU+1) new),_,ac,r,aI,by simp [Mem.gt],sP r (T:=T) (size:=size) (rows:=new) (by simp [Mem.gt,aA.ck]) (by simp [Mem.gt]) rfl⟩
 ·have ac9:p+rows.length*size≤cur.size:=bg1 (bn0 (bf9 _ iT) _) ka
  generalize aG:(cur.toList.drop p).take (rows.length*size)=l at rQ iz
  have j2:l.length=rows.length*size:=by rw[←aG]; simp; omega
  have ac8: ∀(j:Nat) (u:Value),l[j]? =some u→m.w.cell? ⟨g,p+j,none⟩=some u:=by
   intro j u bm
   rw[cell_of_row m.w g (p+j) cur T (0,0) bo]
   rw[←aG,be8]at bm
   split at bm
   ·simpa [bj0] using bm
   ·cases bm
  have y2:aR m (rows++new).flatten (l++news):=by rw[bm8]; exact aR.append rQ S.v8
  have BR: ∀v∈l++news,v.oneCell'=true:=fun v ad=>by
   rcases List.mem_append.1 ad with ad|ad
   ·exact iz v ad
   ·exact S.one v ad
  have hlen:(l++news).length=(rows++new).length*size:=by rw[bb7,j2,S.n,bb7,bf3]
  have hq:(m.L dP).ew=some g:=by rw[ec]; rfl
  by_cases kb:rows.length+new.length≤cap
  ·have ac:=yk (ty:=ty) A (base:=some ⟨g,p,none⟩) (k:=rows.length) (cap:=cap) S kb
   have lD:=run_storeCells_at P g (p+rows.length*size) T news 0 cur m.w bo (by
    rw[S.n,bk3,bj2,←bf3]
    exact bg1 (bn0 (bf9 _ kb) _) ka) S.one
   simp only[bk3]at lD
   have kc:(Builtin.append_ #[t,u] ty #[.slice (some ⟨g,p,none⟩) rows.length cap,y]).run P m.w= .ok (.slice (some ⟨g,p,none⟩) (rows.length+new.length) cap) (m.w.setRow g (cur.toList.take (p+rows.length*size)++news++cur.toList.drop (p+rows.length*size+news.length)).toArray):=by
    rw[ac]
    simp only[np,lD,Result.andThen_ok]
   have af9:cur.toList.take (p+rows.length*size)=cur.toList.take p++l:=by rw[←aG,List.take_add]
   rw[af9]at kc
   generalize n1:(cur.toList.take p++l++news++cur.toList.drop (p+rows.length*size+news.length)).toArray=gl at kc
   have vu:=setRow_heap m.w g cur gl T (0,0) bo
   have ad1:p+rows.length*size+news.length≤cur.size:=by
    rw[S.n,bj2,←bf3]
    exact bg1 (bn0 (bf9 _ kb) _) ka
   have Fk:(cur.toList.take p).length=p:=by simp; omega
   have qI:p+cap*size≤gl.size:=by
    refine bg1 ka (Nat.le_of_eq ?_)
    rw[←n1]
    simp
    omega
   have ld:(gl.toList.drop p).take ((rows++new).length*size)=l++news:=by
    rw[←n1,←hlen]
    simp only[List.toList_toArray,bc8]
    rw[bj4 (by omega),List.drop_of_length_le (by omega),bd6,←bc8,bo9]
   have g0:Grows0 m (m.w.setRow g gl) dP (.bC T size aU rows) (.slice (some ⟨g,p,none⟩) (rows.length+new.length) cap) (.bC T size (aU+1) (rows++new)):=
    ⟨rfl,rfl,rfl,by simp,fun k av eg=>setRow_other m.w g k gl (fun e=>eg (by rw[hq,e])),fun k c av an=>by simp [bM.bC]at an,fun k av=> .inl (by rw[hq]; simpa [Value.ew] using av),bc1 _,rfl,rfl,bm9 _,fun e=>by simp [bM.bC]at e⟩
   have aI:=bV.gt bd aL g0
   have ju:qj m (m.w.setRow g gl) dP (.bC T size aU rows) (.slice (some ⟨g,p,none⟩) (rows.length+new.length) cap) (.bC T size (aU+1) (rows++new)):=
    ⟨g0,l++news,⟨hlen,.inr ⟨g,p,cap,gl,by simp [bM.bC,bM.len],vu,by simpa [bM.bC,bM.len] using kb,rL,qI,ld⟩⟩,fun dT h=>by cases h; exact⟨aR.aI aI _ _ y2,dq,BR⟩⟩
   have r:=bW.gt bd aL ju
   exact⟨m.gt (m.w.setRow g gl) dP (.slice (some ⟨g,p,none⟩) (rows.length+new.length) cap) (.bC T size (aU+1) (rows++new)),_,kc,r,aI,rfl,sP r (T:=T) (size:=size) (rows:=rows++new) (by simp [Mem.gt,aA.ck]) (by simp [Mem.gt]) rfl⟩
  ·have olds:(Builtin.firstCells size rows.length (.slice (some ⟨g,p,none⟩) rows.length cap)).run P m.w.drew= .ok ⟨l⟩ m.w.drew:=by
    have:=run_loadCells_list (P:=P) m.w.drew ⟨g,p,none⟩ l (fun j u bm=>by
     rw[np]
     exact ac8 j u bm)
    rw[j2]at this
    simp [Builtin.firstCells,this]
   have ac:=Il (ty:=ty) A (base:=some ⟨g,p,none⟩) (k:=rows.length) (cap:=cap) (olds:=l) S kb olds rL iT hb k8
   have b4:=grownCap_ge m.w (rows.length+new.length) cap T
   have hle:=grownCap_le_maxLen m.w (rows.length+new.length) cap T k8
   generalize n1:(⟨l++news⟩++Builtin.zeroCells A.z.cells (grownCap m.w (rows.length+new.length) cap T-(rows.length+new.length)):Array Value)=gl at ac
   have ld:gl.toList.take ((rows++new).length*size)=l++news:=by
    rw[←n1,←hlen]
    simp only[br8]
    rw[bo9]
   have qI:gl.size=grownCap m.w (rows.length+new.length) cap T*size:=by
    rw[←n1]
    have:(l++news).length=(rows.length+new.length)*size:=by rw[hlen,bb7]
    simp only[bm1,bi6,x6,A.pZ,this,←bf3]
    congr 1
    omega
   have g0:Grows0 m (m.w.drew.alloc (.cells gl T)) dP (.bC T size aU rows) (.slice (some ⟨m.w.heap.size,0,none⟩) (rows.length+new.length) (grownCap m.w (rows.length+new.length) cap T)) (.bC T size (aU+1) (rows++new)):=
    ⟨rfl,rfl,rfl,by simp,fun k av _=>sE _ _ _ av,fun k c av an=>by simp [bM.bC]at an,fun k av=> .inr (by simp [Value.ew]at av; omega),bc1 _,rfl,rfl,bm9 _,fun e=>by simp [bM.bC]at e⟩
   have aI:=bV.gt bd aL g0
   have ju:qj m (m.w.drew.alloc (.cells gl T)) dP (.bC T size aU rows) (.slice (some ⟨m.w.heap.size,0,none⟩) (rows.length+new.length) (grownCap m.w (rows.length+new.length) cap T)) (.bC T size (aU+1) (rows++new)):=
    ⟨g0,l++news,⟨hlen,.inr ⟨m.w.heap.size,0,_,gl,by simp [bM.bC,bM.len],vs _ _,by simpa [bM.bC,bM.len] using b4,hle,by rw[qI,bf6]; exact bc1 _,ld⟩⟩,fun dT h=>by cases h; exact⟨aR.aI aI _ _ y2,dq,BR⟩⟩
   have r:=bW.gt bd aL ju
   exact⟨m.gt (m.w.drew.alloc (.cells gl T)) dP (.slice (some ⟨m.w.heap.size,0,none⟩) (rows.length+new.length) (grownCap m.w (rows.length+new.length) cap T)) (.bC T size (aU+1) (rows++new)),_,ac,r,aI,rfl,sP r (T:=T) (size:=size) (rows:=rows++new) (by simp [Mem.gt,aA.ck]) (by simp [Mem.gt]) rfl⟩
theorem aK7 (l new:List Value) (k n:Nat) (h:k+new.length≤n) (a1:n≤l.length):(gD l k new).take n=gD (l.take n) k new:=by
 unfold gD
 have ap:(l.take k++new).length=k+new.length:=by simp; omega
 rw[List.take_append,ap,List.take_of_length_le (by omega),List.take_take,Nat.min_eq_left (by omega),bq6]
theorem CE {size:Nat}: ∀ {rows:List (List I)},(∀r∈rows,r.length=size)→rows.flatten.length=rows.length*size
 |[],_=>by simp
 |r::rows,h=>by
  rw[bd0,bb7,CE (fun x ab=>h x (by simp [ab])),h r (by simp),bb9,bf3]
  omega
theorem FH (bd:bW m){dP aU k T size:Nat}{rows:List (List I)}{n9:Value}(hp:aP m (.mp dP aU k) n9) (aL:m.H.tok dP=some (.bC T size aU rows)):
  ∃g p cap cur,n9= .pointer (some ⟨g,p+k,none⟩)∧m.L dP= .slice (some ⟨g,p,none⟩) rows.length cap∧size≠0∧(∀r∈rows,r.length=size)∧m.w.heap[g]? =some (.cells cur T (0,0))∧rows.length≤cap∧cap≤maxLen∧p+cap*size≤cur.size∧aR m rows.flatten ((cur.toList.drop p).take (rows.length*size))∧∀u∈(cur.toList.drop p).take (rows.length*size),u.oneCell'=true:=by
 simp only[aP]at hp
 obtain⟨b,p,len,cap,ap,ay⟩:=(hp.2.2 _ aL).2 rfl
 have ad:aP m (.cV dP aU) (m.L dP):=sP bd aL rfl (by rw[ap]; rfl)
 obtain⟨_,aW,ao,an⟩:=xz bd aL ad
 rw[ap]at an
 rcases an with ⟨e,_⟩|⟨g,a74,I6,cur,e,r⟩
 ·simp at e
 ·simp only[Value.slice.injEq,Option.some.injEq,Addr.mk.injEq]at e
  obtain⟨⟨rfl,rfl,_⟩,rfl,rfl⟩:=e
  exact⟨b,p,cap,cur,ay,ap,aW,ao,r⟩
theorem aK5 (l new:List Value) (p k:Nat) (h:p+k≤l.length):(gD l (p+k) new).drop p=gD (l.drop p) k new:=by
 unfold gD
 rw[bc8,bj4 (by simp; omega),bq6,bm5,bc8,show p+k-p=k by omega,show p+(k+new.length)=p+k+new.length by omega]
theorem SR (bd:bW m){dP aU k T size:Nat}{rows dT:List (List I)}{n9:Value}{cs:List I}{l:List Value}(hp:aP m (.mp dP aU k) n9) (aL:m.H.tok dP=some (.bC T size aU rows)) (aG:k+cs.length≤rows.flatten.length) (ka:aR m cs l) (aj: ∀u∈l,u.oneCell'=true)
  (aT:dT.flatten=gg rows.flatten k cs) (ac: ∀r∈dT,r.length=size) (hlen:dT.length=rows.length):
  ∃dm aX,n9= .pointer (some dm)∧(storeCells dm l 0).run P m.w= .ok () aX.w∧bW aX∧bV m aX∧aX.H=m.H.ck dP (.bC T size aU dT):=by
 obtain⟨g,p,cap,cur,ap,ay,aW,ao,bo,iT,rL,yZ,rQ,iz⟩:=FH bd hp aL
 have a1:=aR.length ka
 have af3:=CE ao
 have ac9:p+rows.length*size≤cur.size:=bg1 (bn0 (bf9 _ iT) _) yZ
 have lD:=run_storeCells_at P g (p+k) T l 0 cur m.w bo (by omega) aj
 have aa5:(cur.toList.take (p+k+0)++l++cur.toList.drop (p+k+0+l.length)).toArray=⟨gD cur.toList (p+k) l⟩:=by simp [gD]
 rw[aa5]at lD
 have tQ:(gD cur.toList (p+k) l).drop p=gD (cur.toList.drop p) k l:=aK5 _ _ _ _ (by have BB:=bg4 (xs:=cur); omega)
 have ld:((gD cur.toList (p+k) l).drop p).take (rows.length*size)=gD ((cur.toList.drop p).take (rows.length*size)) k l:=by
  rw[tQ]
  exact aK7 _ _ _ _ (by omega) (by have BB:=bg4 (xs:=cur); rw[bl7]; omega)
 have vu:=setRow_heap m.w g cur ⟨gD cur.toList (p+k) l⟩ T (0,0) bo
 have hq:(m.L dP).ew=some g:=by rw[ay]; rfl
 have qI:p+cap*size≤(⟨gD cur.toList (p+k) l⟩:Array Value).size:=by
  refine bg1 yZ (Nat.le_of_eq ?_)
  simp [gD]
  omega
 have g0:Grows0 m (m.w.setRow g ⟨gD cur.toList (p+k) l⟩) dP (.bC T size aU rows) (m.L dP) (.bC T size aU dT):=
  ⟨rfl,rfl,rfl,by simp,fun x av eg=>setRow_other m.w g x _ (fun e=>eg (by rw[hq,e])),fun x c av an=>by simp [bM.bC]at an,fun x av=> .inl av,bc1 _,rfl,rfl,bc1 _,fun _=>rfl⟩
 have aI:=bV.gt bd aL g0
 have ju:qj m (m.w.setRow g ⟨gD cur.toList (p+k) l⟩) dP (.bC T size aU rows) (m.L dP) (.bC T size aU dT):=by
  refine⟨g0,gD ((cur.toList.drop p).take (rows.length*size)) k l,⟨?_,.inr ⟨g,p,cap,⟨gD cur.toList (p+k) l⟩,?_,vu,?_,rL,qI,?_⟩⟩,fun a78 a6=> ?_⟩
  ·simp [bM.bC,bM.len,gD]
   rw[hlen]
   omega
  ·rw[ay]; simp [bM.bC,bM.len,hlen]
  ·simp [bM.bC,bM.len,hlen]; exact iT
  ·simp only[bM.bC,bM.len,hlen]; exact ld
  ·cases a6
   refine⟨aR.aI aI _ _ ?_,ac,fun v ad=> ?_⟩
   ·rw[aT]
    exact GY rQ ka k
   ·simp only[gD,bf7]at ad
    rcases ad with (ad|ad)|ad
    ·exact iz v (bm3 ad)
    ·exact aj v ad
    ·exact iz v (bp3 ad)
 have r:=bW.gt bd aL ju
 exact⟨_,m.gt (m.w.setRow g ⟨gD cur.toList (p+k) l⟩) dP (m.L dP) (.bC T size aU dT),ap,lD,r,aI,rfl⟩
theorem GN: ∀ {rows:List (List I)}{size q h:Nat},(∀r∈rows,r.length=size)→((rows.take h).drop q).flatten=(rows.flatten.take (h*size)).drop (q*size)
 |[],_,_,_,_=>by simp
 |r::rows,size,q,0,_=>by simp
 |r::rows,size,0,h+1,ao=>by
  have ac:=ao r (by simp)
  have:=GN (rows:=rows) (size:=size) (q:=0) (h:=h) fun x ab=>ao x (by simp [ab])
  simp only[List.drop_zero,bq0]at this ⊢
  rw[bg0,bd0,bd0,this,bf3,Nat.one_mul,bl1,←ac,bp1]
 |r::rows,size,q+1,h+1,ao=>by
  have ac:=ao r (by simp)
  have:=GN (rows:=rows) (size:=size) (q:=q) (h:=h) fun x ab=>ao x (by simp [ab])
  rw[bg0,List.drop_succ_cons,this,bd0,bf3,bf3,Nat.one_mul,bl1 (h*size),bl1 (q*size),←ac,bp1,List.drop_length_add_append]
theorem aM1 (bd:bW m){dP aU T size h q:Nat}{rows:List (List I)}{dm:Option Addr}{cap:Nat}(tX:aP m (.cV dP aU) (.slice dm rows.length cap)) (aL:m.H.tok dP=some (.bC T size aU rows)) (U:h≤rows.length) (bu:q≤h):
  ∃aX,aX.w=m.w∧bW aX∧bV m aX∧aX.H=m.H.ck dP (.bC T size (aU+1) ((rows.take h).drop q))∧aP aX (.cV dP (aU+1)) (.slice (if cap=q then dm else dm.map (·.add (q*size))) (h-q) (cap-q)):=by
 obtain⟨ec,aW,ao,xh⟩:=xz bd aL tX
 have hlen:((rows.take h).drop q).length=h-q:=by simp; omega
 rcases xh with ⟨e,rfl⟩|⟨g,p,cap,cur,e,bo,iT,rL,ka,rQ,iz⟩
 ·simp only[bc4,Nat.le_zero_eq]at U
  subst U
  obtain rfl:q=0:=Nat.le_zero.1 bu
  simp only[Value.slice.injEq]at e
  obtain⟨rfl,_,rfl⟩:=e
  have g0:Grows0 m m.w dP (.bC T size aU []) (.slice none 0 0) (.bC T size (aU+1) []):=⟨rfl,rfl,rfl,bc1 _,fun _ _ _=>rfl,fun _ _ _ _=>rfl,fun k av=>by simp [Value.ew]at av,bc1 _,rfl,rfl,bm9 _,fun e=>by simp [bM.bC]at e⟩
  have ju:qj m m.w dP (.bC T size aU []) (.slice none 0 0) (.bC T size (aU+1) []):=⟨g0,[],⟨by simp [bM.bC,bM.len],.inl ⟨rfl,rfl⟩⟩,fun dT h=>by cases h; exact⟨by simp [aR],by simp,by simp⟩⟩
  have r:=bW.gt bd aL ju
  exact⟨m.gt m.w dP (.slice none 0 0) (.bC T size (aU+1) []),rfl,r,bV.gt bd aL g0,rfl,sP r (T:=T) (size:=size) (rows:=[]) (by simp [Mem.gt,aA.ck]) (by simp [Mem.gt]) rfl⟩
 ·simp only[Value.slice.injEq]at e
  obtain⟨rfl,_,rfl⟩:=e
  have hq:(m.L dP).ew=some g:=by rw[ec]; rfl
  obtain⟨o,ad,aa3,M6⟩: ∃o,(if cap=q then some (⟨g,p,none⟩:Addr) else (some (⟨g,p,none⟩:Addr)).map (·.add (q*size)))=some ⟨g,o,none⟩∧o+(cap-q)*size≤cur.size∧(cur.toList.drop o).take ((h-q)*size)=(cur.toList.drop (p+q*size)).take ((h-q)*size):=by
   by_cases an:cap=q
   ·have aW:h-q=0:=by omega
    refine⟨p,by rw[if_pos an],?_,by rw[aW,bq0,bg2,bg2]⟩
    rw[an,Nat.sub_self,bq0]
    exact bg1 (bn0 (bc3 _) _) ka
   ·refine⟨p+q*size,by rw[if_neg an]; simp [np],?_,rfl⟩
    rw[bj2,←bf3,show q+(cap-q)=cap by omega]
    exact ka
  rw[ad]
  have ad0:h*size≤rows.length*size:=bf9 _ U
  have Nx:(cur.toList.drop (p+q*size)).take ((h-q)*size)=(((cur.toList.drop p).take (rows.length*size)).take (h*size)).drop (q*size):=by
   rw[List.take_take,Nat.min_eq_left ad0,bq6,bm5,Nat.sub_mul]
  have g0:Grows0 m m.w dP (.bC T size aU rows) (.slice (some ⟨g,o,none⟩) (h-q) (cap-q)) (.bC T size (aU+1) ((rows.take h).drop q)):=⟨rfl,rfl,rfl,bc1 _,fun _ _ _=>rfl,fun _ _ _ _=>rfl,fun k av=> .inl (by rw[hq]; simpa [Value.ew] using av),bc1 _,rfl,rfl,bm9 _,fun e=>by simp [bM.bC]at e⟩
  have aI:=bV.gt bd aL g0
  have ju:qj m m.w dP (.bC T size aU rows) (.slice (some ⟨g,o,none⟩) (h-q) (cap-q)) (.bC T size (aU+1) ((rows.take h).drop q)):=⟨g0,(cur.toList.drop o).take ((h-q)*size),⟨by
   have:=bf9 size (show h-q≤cap-q by omega)
   simp only[bM.bC,bM.len,hlen,be9,bl7,bg4]; omega,.inr ⟨g,o,cap-q,cur,by simp only[bM.bC,bM.len,hlen],bo,by simp only[bM.bC,bM.len,hlen]; omega,by omega,aa3,by simp only[bM.bC,bM.len,hlen]⟩⟩,fun dT a6=>by
   cases a6
   refine⟨aR.aI aI _ _ ?_,fun r ac=>ao r (bm3 (bp3 ac)),fun u hu=>iz u ?_⟩
   ·rw[GN ao,M6,Nx]
    exact aR.drop _ (aR.take _ rQ)
   ·rw[M6,Nx]at hu
    exact bm3 (bp3 hu)⟩
  have r:=bW.gt bd aL ju
  exact⟨m.gt m.w dP (.slice (some ⟨g,o,none⟩) (h-q) (cap-q)) (.bC T size (aU+1) ((rows.take h).drop q)),rfl,r,aI,rfl,sP r (T:=T) (size:=size) (rows:=(rows.take h).drop q) (by simp [Mem.gt,aA.ck]) (by simp [Mem.gt]) rfl⟩
end
section
variable {P:Program}{m:Mem}{env:Env}{a:Act}{o:Oper}
theorem Oo (bd:bW m){t aU T size:Nat}{rows:List (List I)}{v:Value}(aL:m.H.tok t=some (.bC T size aU rows)) (ad:aP m (.cV t aU) v): ∃dm cap,v= .slice dm rows.length cap∧rows.length≤cap:=by
 obtain⟨_,_,_,an⟩:=xz bd aL ad
 rcases an with ⟨rfl,rfl⟩|⟨g,p,cap,cur,rfl,_,h,_⟩
 ·exact⟨none,0,rfl,bc1 _⟩
 ·exact⟨_,cap,rfl,h⟩
theorem X0 {c y t aU T size}{rows:List (List I)}(he:dR m env a.tmps) (bd:bW m) (aj:o.op= .call c) (h:bj P o.op (.iU y)=true) (ap:y.aI env= .cV t aU) (aL:m.H.tok t=some (.bC T size aU rows)):fJ P m a o (.int .i64 rows.length):=by
 obtain⟨callee,args,argTypes⟩:=c
 rw[aj]at h
 cases callee with
 |value f=>simp [bj]at h
 |invoke _ _=>simp [bj]at h
 |builtin b=>
  cases b<;>simp only[bj]at h<;>first
   |(cases h; done)
   |skip
  simp only[bb6]at h
  obtain⟨U,aa⟩:=h
  split at U
  ·rename_i x ab
   split at aa
   ·rename_i dv gB
    have an:=db he U
    obtain rfl:=tk ab
    obtain rfl:=tk gB
    split at aa
    ·rename_i el hu
     rw[ap]at an
     obtain⟨dm,cap,ay,_⟩:=Oo bd aL an
     refine⟨.int .i64 rows.length,?_,by simp only[aP]⟩
     refine AY aj rfl rfl P m.w m.w (.int .i64 rows.length) ?_
     simp [builtin,Builtin.len_,run_underlying hu,ay,goInt]
    ·cases aa
   ·cases aa
  ·cases U
theorem CL {t el:TypeId}(fv:jT P t=some el):P.underlying t=some (.slice el):=by
 unfold jT at fv
 split at fv
 ·rename_i e hu; simp at fv; subst fv; exact hu
 ·cases fv
theorem XV {ty x i size cN dh t aU T k}{rows:List (List I)}{n:Int}(he:dR m env a.tmps) (bd:bW m) (aj:o.op= .indexAddr ty x i) (h:bj P o.op (.iJ size cN dh)=true) (ap:cN.aI env= .cV t aU) (aL:m.H.tok t=some (.bC T size aU rows)) (ay:dh.aI env= .int k n) (aW:0≤n) (ac:n<(rows.length:Int)):fJ P m a o (.mp t aU (n.toNat*size)):=by
 rw[aj]at h
 simp only[bj,bb6]at h
 obtain⟨⟨U,aa⟩,aD⟩:=h
 have af:=db he aa
 have ab:=db he U
 rw[ay]at af
 rw[ap]at ab
 split at aD
 ·rename_i el fv
  have dq:jk P el=some size:=by simpa using aD
  have hu:=CL fv
  obtain⟨ec,eg,ao,an⟩:=xz bd aL ab
  rcases an with ⟨_,rfl⟩|⟨g,p,cap,cur,e,_⟩
  ·simp at ac; omega
  ·refine⟨.pointer (some ⟨g,p+n.toNat*size,none⟩),?_,?_⟩
   ·simp [execOp,aj,Instr.indexAt,e,jM af,asIntOf,run_underlying hu,aW,ac,mY dq,np]
   ·simp only[aP]
    refine⟨rfl,(bd.tok t _ aL).1,fun j bm=> ?_⟩
    rw[aL]at bm
    simp at bm
    subst bm
    exact⟨bc1 _,fun _=>⟨g,p,_,_,ec.trans e,rfl⟩⟩
 ·cases aD
theorem X1 {ty x agg n y t aU k T size r}{rows:List (List I)}(he:dR m env a.tmps) (bd:bW m) (aj:o.op= .load ty x) (h:bj P o.op (.ji agg n y)=true) (ap:y.aI env= .mp t aU k) (aL:m.H.tok t=some (.bC T size aU rows)) (aG:k+n≤rows.flatten.length) (ac:I.iA agg ((rows.flatten.drop k).take n)=some r):fJ P m a o r:=by
 rw[aj]at h
 simp only[bj,bb6]at h
 obtain⟨U,aa⟩:=h
 have ab:=db he aa
 rw[ap]at ab
 obtain⟨g,p,cap,cur,e,_,eg,ao,bo,iT,rL,yZ,rQ,iz⟩:=FH bd ab aL
 have af3:=CE ao
 have j2:=aR.length rQ
 generalize bu:(cur.toList.drop p).take (rows.length*size)=l at rQ iz j2
 refine⟨if agg then .agg ⟨(l.drop k).take n⟩ else ((l.drop k).take n).getD 0 undef,?_,?_⟩
 ·have:=GR (w:=m.w) U g (p+k) ((l.drop k).take n) (by simp; omega) (fun j v bm=>by
   rw[cell_of_row m.w g _ cur T (0,0) bo]
   rw[be8]at bm
   split at bm
   ·rw[bj0,←bu,be8]at bm
    split at bm
    ·rw[bj0,←bj2]at bm
     simpa using bm
    ·cases bm
   ·cases bm)
  simp [execOp,aj,Instr.loadAt,e,Instr.sureAddr,this]
 ·rcases zE ac (aR.take n (aR.drop k rQ)) with ⟨rfl,h⟩|⟨rfl,v,e,h⟩
  ·exact h
  ·simp only[bd5,if_false,e]
   exact h
theorem XU {t x f off y dP aU k T size}{rows:List (List I)}(he:dR m env a.tmps) (bd:bW m) (aj:o.op= .fieldAddr t x f) (h:bj P o.op (.js off y)=true) (ap:y.aI env= .mp dP aU k) (aL:m.H.tok dP=some (.bC T size aU rows)):fJ P m a o (.mp dP aU (k+off)):=by
 rw[aj]at h
 simp only[bj,bb6]at h
 obtain⟨U,aa⟩:=h
 have an:=db he U
 rw[ap]at an
 obtain⟨g,p,cap,cur,cm,cA,_⟩:=FH bd an aL
 split at aa
 ·rename_i cg hu
  split at aa
  ·rename_i q bo
   simp only[bb6,decide_eq_true_eq]at aa
   obtain⟨aa,aD⟩:=aa
   split at aD
   ·rename_i n a1
    have vx:n≠0:=by simpa using aD
    refine⟨.pointer (some ⟨g,p+(k+off),none⟩),?_,?_⟩
    ·simp [execOp,aj,Instr.fieldAt,run_underlying hu,bo,cm,Instr.sureAddr,fieldPlace,mY a1,vx,np,aa,bj2]
    ·simp only[aP]at an ⊢
     refine⟨rfl,an.2.1,fun i af=> ?_⟩
     rw[aL]at af
     cases af
     exact⟨bc1 _,fun _=>⟨g,p,_,cap,cA,rfl⟩⟩
   ·cases aD
  ·cases aa
 ·cases aa
theorem aW9 {size:Nat}{rows:List (List I)}{v:Value}(h:aP m (.aq size rows) v) (ac:rows≠[]): ∃x len cap,v= .slice (some x) len cap:=by
 simp only[aP]at h
 obtain⟨dm,len,cap,rfl,_,_,bA⟩:=h
 rcases bA with bA|⟨b,p,rfl,_⟩
 ·exact absurd (be2 bA) ac
 ·exact⟨_,_,_,rfl⟩
theorem GQ {op t x y u neg cN}(aj:o.op= .binOp op t x y u) (h:bj P o.op (.pd neg cN)=true){dm:Option Addr}{len cap:Nat}(ad:a.eval x= .slice dm len cap):(execOp a.eval o).run P m.w= .ok (.value (.bool (bif neg then !dm.isNone else dm.isNone))) m.w:=by
 rw[aj]at h
 simp only[bj,bb6,decide_eq_true_eq]at h
 obtain⟨⟨⟨⟨U,aa⟩,aD⟩,bA⟩,b6⟩:=h
 split at aD
 ·split at bA
  ·rename_i e he
   have hu:=CL he
   subst U
   have bo: ∀op,(eqGuard op t x (.const (.slice none 0 0)) (.slice dm len cap) (.slice none 0 0)).run P m.w= .ok () m.w:=by
    intro op
    have EJ:P.eqGuardType P.depth t=false:=by simpa using b6
    unfold eqGuard; cases op<;>simp [EJ]
   have bu:(Op.equal t (.slice dm len cap) (.slice none 0 0)).run P m.w= .ok dm.isNone m.w:=by
    have EB: ∀d,(Op.equalIn (d+1) t (.slice dm len cap) (.slice none 0 0)).run P m.w= .ok dm.isNone m.w:=by
     intro d
     cases dm<;>simp [Op.equalIn,run_underlying hu]
    exact EB 9999
   have a8:a.eval (.const (.slice none 0 0))= .slice none 0 0:=rfl
   cases neg<;>simp [execOp,aj,ad,bu,bo,binOp,a8]
  ·cases bA
 ·cases aD
theorem JH {op t x y u neg cN b}(he:dR m env a.tmps) (aj:o.op= .binOp op t x y u) (h:bj P o.op (.pd neg cN)=true) (ad: ∀v,aP m (cN.aI env) v→(v= .slice none 0 0∧b= !neg)∨(∃q len cap,v= .slice (some q) len cap)∧b=neg):fJ P m a o (.bool b):=by
 have aa:cT x cN=true:=by
  rw[aj]at h
  simp only[bj,bb6,decide_eq_true_eq]at h
  exact h.1.1.1.2
 rcases ad _ (db he aa) with ⟨e,rfl⟩|⟨⟨q,len,cap,e⟩,rfl⟩
 ·exact⟨_,GQ aj h e,by simp only[aP]; cases neg<;>rfl⟩
 ·exact⟨_,GQ aj h e,by simp only[aP]; cases b<;>rfl⟩
theorem XZ {op t x y u neg cN size rows}(he:dR m env a.tmps) (aj:o.op= .binOp op t x y u) (h:bj P o.op (.pd neg cN)=true) (ab:cN.aI env= .aq size rows): ∃b v,(execOp a.eval o).run P m.w= .ok (.value v) m.w∧aP m (.bool b) v:=by
 have aa:cT x cN=true:=by
  rw[aj]at h
  simp only[bj,bb6,decide_eq_true_eq]at h
  exact h.1.1.1.2
 have ad:=db he aa
 rw[ab]at ad
 simp only[aP]at ad
 obtain⟨dm,len,cap,e,_⟩:=ad
 exact⟨(bif neg then !dm.isNone else dm.isNone),_,GQ aj h e,by simp only[aP]⟩
theorem X6 {ty x b3 af size y mT gR t aU T h}{rows:List (List I)}(he:dR m env a.tmps) (bd:bW m) (aj:o.op= .slice ty x b3 af none) (an:bj P o.op (.mZ size y mT gR)=true) (ap:y.aI env= .cV t aU) (aL:m.H.tok t=some (.bC T size aU rows)){q:Nat}(aG:jK env 0 mT=some q) (a6:jK env rows.length gR=some h) (aa:h≤rows.length) (bu:q≤h):
  ∃aX v,(execOp a.eval o).run P m.w= .ok (.value v) aX.w∧bW aX∧bV m aX∧aX.H=m.H.ck t (.bC T size (aU+1) ((rows.take h).drop q))∧aP aX (.cV t (aU+1)) v:=by
 rw[aj]at an
 simp only[bj,bb6]at an
 obtain⟨⟨⟨c1,cb⟩,eW⟩,gE⟩:=an
 have ab:=db he c1
 rw[ap]at ab
 split at gE
 ·rename_i el fv
  have dq:jk P el=some size:=by simpa using gE
  have hu:=CL fv
  obtain⟨dm,cap,e,iT⟩:=Oo bd aL ab
  have hb:=GS (P:=P) (w:=m.w) (b:=true) (cap:=cap) he cb eW aG a6 bu aa iT
  rw[e]at ab
  obtain⟨aX,jy,cm,cA,dk,hF⟩:=aM1 bd ab aL aa bu
  refine⟨aX,_,?_,cm,cA,dk,hF⟩
  rw[jy]
  simp [execOp,aj,Instr.sliceAt,Instr.slice,run_underlying hu,e,hb,mY dq]
 ·cases gE
end
end Go.ba
namespace Go.ba
open Go Go.MapKept
section
variable {P:Program}{m:Mem}{env:Env}{a:Act}{o:Oper}
def lz (e:MapEntry):List Value:=[e.key,e.val]
theorem Od {m:Mem}{k:List UInt8}{v:I}{r:List (List I)}{l:List MapEntry}(h:aR m (([.str k,v]::r).flatten) (l.flatMap lz)):
  ∃e bZ,l=e::bZ∧(e.key= .string ⟨⟨k⟩⟩∧k.length≤maxLen)∧aP m v e.val∧aR m r.flatten (bZ.flatMap lz):=by
 cases l with
 |nil=>simp [aR]at h
 |cons e bZ=>
  simp only[bd0,bd2,bd6,bk6,lz,aR]at h
  obtain⟨x,xs,ap,ay,y,eh,b1,dC,gF⟩:=h
  simp only[List.cons.injEq]at ap b1
  obtain⟨rfl,rfl⟩:=ap
  simp only[List.cons.injEq]at b1
  obtain⟨rfl,rfl⟩:=b1
  exact⟨e,bZ,rfl,by simpa only[aP] using ay,dC,gF⟩
theorem FG {m:Mem}{l:List MapEntry}(h:aR m [] (l.flatMap lz)):l=[]:=by
 cases l with
 |nil=>rfl
 |cons e bZ=>simp [aR,lz]at h
theorem xR (s k:List UInt8):Instr.sameNow .string (.string ⟨⟨s⟩⟩) (.string ⟨⟨k⟩⟩)=some (decide (s=k)):=by
 simp only[Instr.sameNow,Option.some.injEq]
 by_cases h:s=k
 ·subst h
  rw[decide_eq_true rfl]
  exact (bytes_beq _ _).2 rfl
 ·rw[decide_eq_false h]
  cases e:(⟨⟨s⟩⟩:ByteArray)==⟨⟨k⟩⟩ with
  |false=>rfl
  |true=>
   have:=(bytes_beq _ _).1 e
   simp at this
   exact absurd this h
theorem Oe {m:Mem}(s:List UInt8): ∀(rows:List (List I)) (l:List MapEntry) (i:Nat) (r:Option I),aR m rows.flatten (l.flatMap lz)→lV s rows=some r→
  (r=none∧Instr.findNow .string (.string ⟨⟨s⟩⟩) l i=some none)∨∃v j e,r=some v∧Instr.findNow .string (.string ⟨⟨s⟩⟩) l i=some (some (i+j,e.val))∧l[j]? =some e∧aP m v e.val
 |[],l,i,r,h,ac=>by
  have:=FG h
  subst this
  simp only[lV,Option.some.injEq]at ac
  exact .inl ⟨ac.symm,rfl⟩
 |row::rows,l,i,r,h,ac=>by
  unfold lV at ac
  split at ac
  ·cases ‹_:: _=[]›
  ·rename_i k v eo bN
   simp only[List.cons.injEq]at bN
   obtain⟨rfl,rfl⟩:=bN
   obtain⟨e,bZ,rfl,⟨U,_⟩,aa,aD⟩:=Od h
   by_cases av:s=k
   ·rw[if_pos av]at ac
    simp only[Option.some.injEq]at ac
    refine .inr ⟨v,0,e,ac.symm,?_,rfl,aa⟩
    simp only[Instr.findNow,U,xR,av,decide_true,bk3]
   ·rw[if_neg av]at ac
    rcases Oe s _ bZ (i+1) r aD ac with ⟨g1,g2⟩|⟨bD,j,ct,g1,g2,g3,g4⟩
    ·exact .inl ⟨g1,by simp only[Instr.findNow,U,xR,av,decide_false]; exact g2⟩
    ·exact .inr ⟨bD,j+1,ct,g1,by simp only[Instr.findNow,U,xR,av,decide_false]; rw[g2,show i+1+j=i+(j+1) by omega],by simpa using g3,g4⟩
  ·cases ac
theorem Og {m:Mem}(s:List UInt8) (v:I): ∀(rows:List (List I)) (l:List MapEntry) (i:Nat) (dT:List (List I)),aR m rows.flatten (l.flatMap lz)→kC s v rows=some dT→
  (dT=rows++[[.str s,v]]∧Instr.findNow .string (.string ⟨⟨s⟩⟩) l i=some none)∨∃j e,Instr.findNow .string (.string ⟨⟨s⟩⟩) l i=some (some (i+j,e.val))∧l[j]? =some e∧e.key= .string ⟨⟨s⟩⟩∧dT=rows.set j [.str s,v]
 |[],l,i,r,h,ac=>by
  have:=FG h
  subst this
  simp only[kC,Option.some.injEq]at ac
  exact .inl ⟨ac.symm,rfl⟩
 |row::rows,l,i,r,h,ac=>by
  unfold kC at ac
  split at ac
  ·cases ‹_:: _=[]›
  ·rename_i k w eo bN
   simp only[List.cons.injEq]at bN
   obtain⟨rfl,rfl⟩:=bN
   obtain⟨e,bZ,rfl,⟨U,_⟩,aa,aD⟩:=Od h
   by_cases av:s=k
   ·rw[if_pos av]at ac
    simp only[Option.some.injEq]at ac
    refine .inr ⟨0,e,?_,rfl,by rw[U,av],ac.symm⟩
    simp only[Instr.findNow,U,xR,av,decide_true,bk3]
   ·rw[if_neg av]at ac
    cases bu:kC s v rows with
    |none=>rw[bu]at ac; cases ac
    |some q=>
     rw[bu]at ac
     simp only[bf0,Option.some.injEq]at ac
     subst ac
     rcases Og s v _ bZ (i+1) q aD bu with ⟨g1,g2⟩|⟨j,ct,g2,g3,g4,g1⟩
     ·exact .inl ⟨by rw[g1]; rfl,by simp only[Instr.findNow,U,xR,av,decide_false]; exact g2⟩
     ·exact .inr ⟨j+1,ct,by simp only[Instr.findNow,U,xR,av,decide_false]; rw[g2,show i+1+j=i+(j+1) by omega],by simpa using g3,g4,by rw[g1]; rfl⟩
  ·cases ac
theorem Oh {m:Mem}{s:List UInt8}{v:I}{val:Value}(ao:s.length≤maxLen) (ad:aP m v val): ∀(rows:List (List I)) (l:List MapEntry) (j:Nat),(∀r∈rows,r.length=2)→aR m rows.flatten (l.flatMap lz)→
  aR m (rows.set j [.str s,v]).flatten ((l.modify j fun e=>{e with key:= .string ⟨⟨s⟩⟩,val:=val}).flatMap lz)
 |[],l,j,_,h=>by
  have:=FG h
  subst this
  simpa using h
 |row::rows,l,j,aa,h=>by
  obtain⟨x,y,rfl⟩: ∃x y,row=[x,y]:=by
   have:=aa row (by simp)
   match row,this with
   |[x,y],_=>exact⟨x,y,rfl⟩
  cases l with
  |nil=>simp [aR]at h
  |cons e bZ=>
   simp only[bd0,bd2,bd6,bk6,lz,aR]at h
   obtain⟨cN,xs,ap,ay,hZ,eh,b1,dC,gF⟩:=h
   simp only[List.cons.injEq]at ap
   obtain⟨rfl,rfl⟩:=ap
   simp only[List.cons.injEq]at b1
   obtain⟨rfl,rfl⟩:=b1
   cases j with
   |zero=>
    simp only[bh5,bd0,bd2,bd6,List.modify_zero_cons,bk6,lz,aR]
    exact⟨_,_,rfl,by simp only[aP,true_and]; exact ao,_,_,rfl,ad,gF⟩
   |succ j=>
    simp only[bi2,bd0,bd2,bd6,List.modify_succ_cons,bk6,lz,aR]
    exact⟨_,_,rfl,ay,_,_,rfl,dC,Oh ao ad rows bZ j (fun r ac=>aa r (by simp [ac])) gF⟩
theorem Of (bd:bW m){t aU T:Nat}{rows:List (List I)}{v:Value}(aL:m.H.tok t=some (.be T aU rows)) (ad:aP m (.cV t aU) v):
  m.L t=v∧(∀r∈rows,r.length=2)∧∃b es nS,v= .map (some b)∧m.w.heap[b]? =some (.map es nS)∧aR m rows.flatten (es.toList.flatMap lz)∧∀u∈es.toList.flatMap lz,u.oneCell'=true:=by
 simp only[aP]at ad
 have ec:m.L t=v:=(ad.2.2 _ aL).2 rfl
 obtain⟨br,bB,⟨xs,cu,hs⟩,eO⟩:=bd.tok t _ aL
 obtain⟨hs,pe,vH⟩:=hs rows rfl
 rw[ec]at cu
 obtain⟨b,es,nS,ap,ay,b1⟩:=cu
 subst b1
 exact⟨ec,pe,b,es,nS,ap,ay,hs,vH⟩
theorem aq9 {aX:Mem}{t aU T:Nat}{rows:List (List I)}{v:Value}(bd:bW aX) (aL:aX.H.tok t=some (.be T aU rows)) (ec:aX.L t=v) (ad:v.oneCell'=true):aP aX (.cV t aU) v:=by
 simp only[aP]
 refine⟨ad,(bd.tok t _ aL).1,fun i af=> ?_⟩
 rw[aL]at af
 simp at af
 subst af
 exact⟨bc1 _,fun _=>ec⟩
theorem as6 (bd:bW m) (T:TypeId):bW (m.bh (m.w.alloc (.map #[] 0)) (.map (some m.w.heap.size)) (.be T 0 []))∧bV m (m.bh (m.w.alloc (.map #[] 0)) (.map (some m.w.heap.size)) (.be T 0 []))∧
  aP (m.bh (m.w.alloc (.map #[] 0)) (.map (some m.w.heap.size)) (.be T 0 [])) (.cV m.T 0) (.map (some m.w.heap.size)):=by
 have ad: ∀b,(Value.map (some m.w.heap.size)).ew=some b→m.w.heap.size≤b:=fun b e=>by simp [Value.ew]at e; omega
 have e:=bV.bh bd (w':=m.w.alloc (.map #[] 0)) (v:= .map (some m.w.heap.size)) (o:= .be T 0 []) rfl rfl rfl (by simp) (fun b hb=>pa m.w _ b hb) ad
 have r:=bW.bh bd (w':=m.w.alloc (.map #[] 0)) (v:= .map (some m.w.heap.size)) (o:= .be T 0 []) rfl rfl rfl (by simp) (fun b hb=>pa m.w _ b hb) ad (by simp [bM.be]) ⟨[],⟨_,#[],0,rfl,sI m.w _,rfl⟩,fun rows h=>by cases h; exact⟨by simp [aR],by simp,by simp⟩⟩
 exact⟨r,e,aq9 r (T:=T) (rows:=[]) (by simp [Mem.bh,aA.ck]) (by simp [Mem.bh]) rfl⟩
theorem aq2 (bd:bW m){t aU T:Nat}{rows:List (List I)}{v:Value}{ty kt eU:TypeId}{s:List UInt8}{z:I}{jO:Value}{r:Option I}(ok:Bool) (aL:m.H.tok t=some (.be T aU rows)) (ad:aP m (.cV t aU) v)
  (hm:P.underlying ty=some (.map kt eU)) (av:P.underlying kt=some .string) (aw:(zeroValue eU).run P m.w= .ok jO m.w) (tZ:aP m z jO) (ac:lV s rows=some r):
  ∃x,(Instr.lookup ty v (.string ⟨⟨s⟩⟩) ok).run P m.w= .ok x m.w∧aP m (kD ok z r) x:=by
 obtain⟨_,_,b,es,nS,rfl,hb,aG,_⟩:=Of bd aL ad
 have tR:IsKey .string (.string ⟨⟨s⟩⟩):=by simp [IsKey]
 rcases Oe s rows es.toList 0 r aG ac with ⟨rfl,U⟩|⟨y,j,e,rfl,U,aa,aD⟩
 ·refine⟨if ok then .tuple #[jO,.bool false] else jO,?_,?_⟩
  ·simp [Instr.lookup,run_underlying hm,Go.MapKept.run_getObj_map hb,run_checkKey av tR,run_findKey av U,aw,Result.andThen]
  ·cases ok
   ·simpa [kD] using tZ
   ·simp only[kD,if_true,bh7,bg9,aP,aR]
    exact⟨_,rfl,_,_,rfl,tZ,_,_,rfl,rfl,rfl⟩
 ·refine⟨if ok then .tuple #[e.val,.bool true] else e.val,?_,?_⟩
  ·simp [Instr.lookup,run_underlying hm,Go.MapKept.run_getObj_map hb,run_checkKey av tR,run_findKey av U,Result.andThen]
  ·cases ok
   ·simpa [kD] using aD
   ·simp only[kD,if_true,Option.getD_some,Option.isSome_some,aP,aR]
    exact⟨_,rfl,_,_,rfl,aD,_,_,rfl,rfl,rfl⟩
theorem look_nil {ty kt eU:TypeId}{s:List UInt8}{z:I}{jO:Value}(ok:Bool)
  (hm:P.underlying ty=some (.map kt eU)) (av:P.underlying kt=some .string) (aw:(zeroValue eU).run P m.w= .ok jO m.w) (tZ:aP m z jO):
  ∃x,(Instr.lookup ty (.map none) (.string ⟨⟨s⟩⟩) ok).run P m.w= .ok x m.w∧aP m (kD ok z none) x:=by
 have tR:IsKey .string (.string ⟨⟨s⟩⟩):=by simp [IsKey]
 have U:Instr.findNow .string (.string ⟨⟨s⟩⟩) [] 0=some none:=rfl
 refine⟨if ok then .tuple #[jO,.bool false] else jO,?_,?_⟩
 ·simp [Instr.lookup,run_underlying hm,run_checkKey av tR,run_findKey av U,aw,Result.andThen]
 ·cases ok
  ·simpa [kD] using tZ
  ·simp only[kD,if_true,bh7,bg9,aP,aR]
   exact⟨_,rfl,_,_,rfl,tZ,_,_,rfl,rfl,rfl⟩
theorem Ok {s:List UInt8}{v:I}: ∀ {rows dT:List (List I)},kC s v rows=some dT→(∀r∈rows,r.length=2)→∀r∈dT,r.length=2
 |[],dT,h,_=>by
  simp only[kC,Option.some.injEq]at h
  subst h
  simp
 |row::rows,dT,h,aa=>by
  unfold kC at h
  split at h
  ·cases ‹_:: _=[]›
  ·rename_i k w eo bN
   simp only[List.cons.injEq]at bN
   obtain⟨rfl,rfl⟩:=bN
   by_cases av:s=k
   ·rw[if_pos av]at h
    simp only[Option.some.injEq]at h
    subst h
    intro r ac
    rcases List.mem_cons.1 ac with rfl|ac
    ·rfl
    ·exact aa r (by simp [ac])
   ·rw[if_neg av]at h
    cases bu:kC s v rows with
    |none=>rw[bu]at h; cases h
    |some q=>
     rw[bu]at h
     simp only[bf0,Option.some.injEq]at h
     subst h
     intro r ac
     rcases List.mem_cons.1 ac with rfl|ac
     ·rfl
     ·exact Ok bu (fun r ac=>aa r (by simp [ac])) r ac
  ·cases h
theorem ay5 (bd:bW m){t aU T:Nat}{rows dT:List (List I)}{v val:Value}{ty kt eU:TypeId}{s:List UInt8}{eL:I}(aL:m.H.tok t=some (.be T aU rows)) (ad:aP m (.cV t aU) v)
  (hm:P.underlying ty=some (.map kt eU)) (av:P.underlying kt=some .string) (ao:s.length≤maxLen) (xe:aP m eL val) (iz:val.oneCell'=true) (ac:kC s eL rows=some dT):
  ∃aX,(Instr.mapUpdate ty v (.string ⟨⟨s⟩⟩) val).run P m.w= .ok () aX.w∧bW aX∧bV m aX∧aX.H=m.H.ck t (.be T aU dT):=by
 obtain⟨ec,aa,b,es,nS,rfl,hb,aG,aj⟩:=Of bd aL ad
 have tR:IsKey .string (.string ⟨⟨s⟩⟩):=by simp [IsKey]
 have hq:(m.L t).ew=some b:=by rw[ec]; rfl
 have main: ∀(tF:Array MapEntry) (wP:Nat) (he:(∀aX,bV m aX→aR aX dT.flatten (tF.toList.flatMap lz))) (mR: ∀u∈tF.toList.flatMap lz,u.oneCell'=true),
   bW (m.gt {m.w with heap:=m.w.heap.setIfInBounds b (.map tF wP)} t (m.L t) (.be T aU dT))∧bV m (m.gt {m.w with heap:=m.w.heap.setIfInBounds b (.map tF wP)} t (m.L t) (.be T aU dT)):=by
  intro tF wP he mR
  obtain⟨s1,s2⟩:=heap_set (w:=m.w) (o':= .map tF wP) hb
  have g0:Grows0 m {m.w with heap:=m.w.heap.setIfInBounds b (.map tF wP)} t (.be T aU rows) (m.L t) (.be T aU dT):=
   ⟨rfl,rfl,rfl,by simp,fun k av eg=>s2 k (fun e=>eg (by rw[hq,e])),fun k c av an=>by
    rw[hq]at av
    cases av
    simp only[World.cell?,s1,hb],fun k av=> .inl av,bc1 _,rfl,rfl,bc1 _,fun _=>rfl⟩
  have aI:=bV.gt bd aL g0
  exact⟨bW.gt bd aL ⟨g0,_,⟨b,tF,wP,ec,s1,rfl⟩,fun q bu=>by
   cases bu
   exact⟨he _ aI,Ok ac aa,mR⟩⟩,aI⟩
 rcases Og s eL rows es.toList 0 dT aG ac with ⟨ap,U⟩|⟨j,e,U,bm,aD,ap⟩
 ·obtain⟨cm,cA⟩:=main (es.push {key:= .string ⟨⟨s⟩⟩,val:=val,born:=nS}) (nS+1) (fun aX aI=>by
   rw[ap,bm8]
   simp only[Array.toList_push,List.flatMap_append]
   refine aR.append (aR.aI aI _ _ aG) ?_
   simp only[bd0,be3,bd8,bk6,List.flatMap_nil,lz,aR]
   exact⟨_,_,rfl,by simp only[aP,true_and]; exact ao,_,_,rfl,aP.aI aI _ _ xe,rfl⟩) (fun u hu=>by
   simp only[Array.toList_push,List.flatMap_append,bf7,bk6,List.flatMap_nil,bd8]at hu
   rcases hu with hu|hu
   ·exact aj u hu
   ·simp only[lz,be4,bh8,or_false]at hu
    rcases hu with rfl|rfl
    ·rfl
    ·exact iz)
  refine⟨_,?_,cm,cA,rfl⟩
  simp [Instr.mapUpdate,run_underlying hm,Go.MapKept.run_getObj_map hb,run_checkKey av tR,run_findKey av U,run_setObj_map _ hb,Result.andThen,Mem.gt]
 ·rw[bf6]at U
  have jh:es[j]? =some e:=by simpa using bm
  obtain⟨cm,cA⟩:=main (es.modify j fun ct=>{ct with key:= .string ⟨⟨s⟩⟩,val:=val}) nS (fun aX aI=>by
   rw[ap,Array.toList_modify]
   exact Oh ao (aP.aI aI _ _ xe) rows es.toList j aa (aR.aI aI _ _ aG)) (fun u hu=>by
   rw[Array.toList_modify]at hu
   obtain⟨x,ab,hu⟩:=List.mem_flatMap.1 hu
   rw[List.mem_iff_getElem?]at ab
   obtain⟨i,ab⟩:=ab
   rw[List.getElem?_modify]at ab
   cases af:es.toList[i]? with
   |none=>rw[af]at ab; cases ab
   |some y=>
    rw[af]at ab
    simp only[Option.map_eq_map,bf0,Option.some.injEq]at ab
    subst ab
    have a8: ∀u∈lz y,u.oneCell'=true:=fun u hu=>aj u (List.mem_flatMap.2 ⟨y,bc2 af,hu⟩)
    by_cases BM:j=i
    ·rw[if_pos BM]at hu
     simp only[lz,be4,bh8,or_false]at hu
     rcases hu with rfl|rfl
     ·rfl
     ·exact iz
    ·rw[if_neg BM]at hu
     exact a8 u hu)
  refine⟨_,?_,cm,cA,rfl⟩
  simp [Instr.mapUpdate,run_underlying hm,Go.MapKept.run_getObj_map hb,run_checkKey av tR,run_findKey av U,jh,aD,run_keyThatStays tR,run_setObj_map _ hb,Result.andThen,Mem.gt]
theorem N2 {t eU:TypeId}(h:zy P t=some eU): ∃kt,P.underlying t=some (.map kt eU)∧P.underlying kt=some .string:=by
 unfold zy at h
 split at h
 ·rename_i kt yH hu
  split at h
  ·rename_i av
   cases h
   exact⟨kt,hu,av⟩
  ·cases h
 ·cases h
theorem N3 {t:TypeId}{z:I}(h:FF P t z=true): ∃kt eU jO,P.underlying t=some (.map kt eU)∧P.underlying kt=some .string∧(zeroValue eU).run P m.w= .ok jO m.w∧aP m z jO:=by
 unfold FF at h
 cases av:zy P t with
 |none=>rw[av]at h; cases h
 |some eU=>
  rw[av]at h
  simp only at h
  obtain⟨kt,U,aa⟩:=N2 av
  cases af:P.info? eU with
  |none=>rw[af]at h; simp at h
  |some i=>
   rw[af]at h
   cases aw:i.zero with
   |none=>simp [aw]at h
   |some jO=>
    refine⟨kt,eU,jO,U,aa,?_,?_⟩
    ·simp [zeroValue,typeInfo,af,aw,Result.andThen]
    ·simp only[Option.bind_some,aw]at h
     cases jO<;>simp only[bd5]at h
     all_goals
      cases z<;>simp only[bd5]at h
      simp_all [aP]
theorem X2 {ty x k ok vR z cN ff t aU T s r}{rows:List (List I)}(he:dR m env a.tmps) (bd:bW m) (aj:o.op= .lookup ty x k ok) (h:bj P o.op (.iv vR z cN ff)=true) (ap:cN.aI env= .cV t aU) (aL:m.H.tok t=some (.be T aU rows)) (ay:ff.aI env= .str s) (ac:lV s rows=some r):fJ P m a o (kD vR z r):=by
 rw[aj]at h
 simp only[bj,bb6,decide_eq_true_eq]at h
 obtain⟨⟨⟨rfl,U⟩,aa⟩,aD⟩:=h
 have ab:=db he U
 have av:=db he aa
 rw[ap]at ab
 rw[ay]at av
 simp only[aP]at av
 obtain⟨kt,eU,jO,g1,g2,g3,g4⟩:=N3 (m:=m) aD
 obtain⟨y,g5,g6⟩:=aq2 (P:=P) bd ok aL ab g1 g2 g3 g4 ac
 exact⟨y,by simp [execOp,aj,av.1,g5],g6⟩
theorem X3 {ty x k ok vR z cN ff s}(he:dR m env a.tmps) (aj:o.op= .lookup ty x k ok) (h:bj P o.op (.iv vR z cN ff)=true) (ap:cN.aI env= .dV (.map none)) (ay:ff.aI env= .str s):fJ P m a o (kD vR z none):=by
 rw[aj]at h
 simp only[bj,bb6,decide_eq_true_eq]at h
 obtain⟨⟨⟨rfl,U⟩,aa⟩,aD⟩:=h
 have ab:=db he U
 have av:=db he aa
 rw[ap]at ab
 rw[ay]at av
 simp only[aP]at av ab
 obtain⟨kt,eU,jO,g1,g2,g3,g4⟩:=N3 (m:=m) aD
 obtain⟨y,g5,g6⟩:=look_nil (P:=P) (m:=m) (s:=s) ok g1 g2 g3 g4
 exact⟨y,by simp [execOp,aj,av.1,ab,g5],g6⟩
end
end Go.ba
