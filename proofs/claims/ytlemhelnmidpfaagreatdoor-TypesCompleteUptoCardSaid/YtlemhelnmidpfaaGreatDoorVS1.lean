/- Part of a proof; own work. -/
import Derived.WalkKit
import Derived.Recover
import Derived.Lib.Strings
import Derived.Lib.SmallJoins
import Derived.MapKept
set_option linter.unusedVariables false
set_option linter.unusedSimpArgs false
open Array renaming toList_map→be8,length_toList→aX4,getElem?_append→bj2,size_append→be4,toList_append→bj7
open Bool renaming and_eq_true→aT0,false_ne_true→bk0,and_true→aW0,false_eq_true→aU6
open List renaming cons_append→aU4,take_succ_cons→aY1,set_cons_zero→aY9,set_cons_succ→ba0,length_append→aT2,length_cons→aT3,getElem?_append_left→aX7,getElem?_append_right→aZ8,flatten_cons→aU3,take_left→bg3,drop_left→bg4,getElem?_take→aV6,getElem?_drop→aZ0,replicate→aU2,drop_take→bi8,map_nil→aX6,map_cons→aU5,all_eq_true→bb1,getElem?_of_mem→aW5,getElem?_eq_getElem→aU0,all_cons→aV0,all_nil→bf4,drop_eq_nil_of_le→aT9,drop_drop→bg5,length_drop→bd3,flatten_nil→aW2,nil_append→aV1,length_nil→aU1,length_map→aT1,eq_nil_of_length_eq_zero→aV3,size_toArray→ba5,mem_of_getElem?→aT6,replicate_succ→ba3,append_assoc→aU9,flatten_append→bf0,getElem?_toArray→bd7,drop_append_of_le_length→bj5,mem_append→aW9,mem_of_mem_take→be6,mem_of_mem_drop→bh2,take_length_add_append→bg6,take_zero→aX5,flatMap_cons→aZ6,append_nil→aV7,mem_cons→aV8,not_mem_nil→aY4,length_take→aX3
open Nat renaming le_refl→aT4,le_trans→aX0,lt_of_lt_of_le→aZ9,add_mul→aW4,blt→aW7,zero_le→aT8,mul_le_mul_right→aW1,ble→aV2,le_of_ble_eq_true→aZ3,add_comm→bd0,add_assoc→ba9,zero_add→aW6,add_zero→bb8,le_add_right→bh4,le_succ→bf1,add_le_add_left→bb7,zero_mul→bi6,reduceBEq→bd1,reduceAdd→bd2
open Option renaming none→bc9,map_some→aV5,getD_none→aZ4,isSome_none→aY0
namespace Go.aX
open Go
def yd:List (Nat×(Obj→Prop)):=[
 (0,fun mT=> ∃T oH,mT= .cells (((List.range 20).map fun i=>((10^i:Nat):Int)).map fun z=>Value.int .u64 z).toArray T oH)]
def lz (w:World):Prop:=∀p∈yd,∃mT,w.heap[p.1]? =some mT∧p.2 mT
def iy:Nat:=1000000
def qm (f:FuncId) (l:List Value):Value:=if f<iy then .func (.func f) #[] ⟨l⟩ else .func (.func (f-iy)) ⟨l⟩ #[]
theorem uG {f:FuncId}(h:f<iy) (l:List Value):qm f l= .func (.func f) #[] ⟨l⟩:=if_pos h
theorem KC (f:FuncId) (l:List Value):qm (f+iy) l= .func (.func f) ⟨l⟩ #[]:=by
 unfold qm
 rw[if_neg (Nat.not_lt.2 (Nat.le_add_left iy f)),Nat.add_sub_cancel]
inductive I where
 |ec
 |bool (b:Bool)
 |int (k:IntKind) (n:Int)
 |str (s:List UInt8)
 |dI (v:Value)
 |ptr (b o:Nat)
 |agg (cs:List I)
 |cV (cs:List I)
 |ak (size:Nat) (rows:List (List I))
 |own (t:Nat) (size:Nat) (rows:List (List I))
 |cz (t ver:Nat)
 |mp (t ver k:Nat)
 |dL (row:List I) (off:Nat)
 |fn (f:FuncId) (cap:List I)
 |gJ (t:TypeId) (v:I)
structure bB where
 ty:TypeId
 size:Nat
 n:Nat
 ver:Nat
 kq:Option (List (List I))
def bB.len (i:bB):Nat:=match i.kq with|none=>i.n|some rows=>rows.length
structure aw where
 aV:Nat→Option (TypeId×List I)
 tok:Nat→Option bB
def aw.none:aw:=⟨fun _=>bc9,fun _=>bc9⟩
def aw.cc (H:aw) (b:Nat) (T:TypeId) (cs:List I):aw:={H with aV:=fun x=>if x=b then some (T,cs) else H.aV x}
def aw.oF (H:aw) (b:Nat):aw:={H with aV:=fun x=>if x=b then bc9 else H.aV x}
def aw.b7 (H:aw) (t:Nat) (o:bB):aw:={H with tok:=fun x=>if x=t then some o else H.tok x}
def _root_.Go.Value.dV:Value→Option Nat
 | .slice (some a) _ _=>some a.block
 | .map (some b)=>some b
 | _=>bc9
def _root_.Go.World.za (w:World) (e:TypeId) (size:Nat) (v:Value) (n:Nat) (xs:List Value):Prop:=
 xs.length=n*size∧((v= .slice none 0 0∧n=0)∨∃g p cap cur,v= .slice (some ⟨g,p,none⟩) n cap∧w.heap[g]? =some (.cells cur e (0,0))∧n≤cap∧cap≤maxLen∧p+cap*size≤cur.size∧(cur.toList.drop p).take (n*size)=xs)
def _root_.Go.World.qB (w:World) (i:bB) (v:Value) (xs:List Value):Prop:=
 match i.kq with
 |bc9=>w.ownsRow 0 i.ty i.size v i.len xs
 |some _=>match i.n with
  |0=>w.za i.ty i.size v i.len xs
  | _+1=> ∃b es nr,v= .map (some b)∧w.heap[b]? =some (.map es nr)∧xs=es.toList.flatMap fun e=>[e.key,e.val]
structure Mem where
 w:World
 H:aw
 L:Nat→Value
 T:Nat
structure lC (m:Mem) (b o:Nat):Prop where
 lt:b<m.w.heap.size
 aV:m.H.aV b=bc9
 tok: ∀t i,m.H.tok t=some i→(m.L t).dV=some b→o<i.n*i.size
mutual
def aK (m:Mem):I→Value→Prop
 | .ec,_=>True
 | .bool b,v=>v= .bool b
 | .int k n,v=>v= .int k n
 | .str s,v=>v= .string ⟨⟨s⟩⟩∧s.length≤maxLen
 | .dI x,v=>v=x
 | .ptr b o,v=>v= .pointer (some ⟨b,o,none⟩)
 | .agg cs,v=> ∃l,v= .agg ⟨l⟩∧aM m cs l
 | .cV cs,v=> ∃l,v= .tuple ⟨l⟩∧aM m cs l
 | .ak size rows,v=> ∃a len cap,v= .slice a len cap∧len=rows.length∧(len≤cap∧cap≤maxLen)∧(rows.length=0∨∃b o,a=some ⟨b,o,none⟩∧dy m size rows b o)
 | .own t size rows,v=>(∃a len cap,v= .slice a len cap∧len=rows.length∧(len≤cap∧cap≤maxLen)∧(rows.length=0∨∃b o,a=some ⟨b,o,none⟩∧dy m size rows b o))∧t<m.T∧(∀i,m.H.tok t=some i→rows.length≤i.ver∧(i.ver=rows.length→m.L t=v∧i.size=size))
 | .cz t ver,v=>v.oneCell'=true∧t<m.T∧(∀i,m.H.tok t=some i→ver≤i.ver∧(i.ver=ver→m.L t=v))
 | .mp t ver k,v=>v.oneCell'=true∧t<m.T∧(∀i,m.H.tok t=some i→ver≤i.ver∧(i.ver=ver→∃b p len cap,m.L t= .slice (some ⟨b,p,none⟩) len cap∧v= .pointer (some ⟨b,p+k,none⟩)))
 | .dL row off,v=> ∃b o,v= .pointer (some ⟨b,o+off,none⟩)∧ez m row b o
 | .fn f cap,v=> ∃l,v=qm f l∧aM m cap l
 | .gJ t a,v=> ∃x,v= .iface t x∧aK m a x
def aM (m:Mem):List I→List Value→Prop
 |[],l=>l=[]
 |a::az,l=> ∃v ak,l=v::ak∧aK m a v∧aM m az ak
def ez (m:Mem):List I→Nat→Nat→Prop
 |[],_,_=>True
 |a::az,b,o=>(∃v,m.w.cell? ⟨b,o,none⟩=some v∧v.oneCell'=true∧lC m b o∧aK m a v)∧ez m az b (o+1)
def dy (m:Mem) (size:Nat):List (List I)→Nat→Nat→Prop
 |[],_,_=>True
 |r::aN,b,o=>r.length=size∧ez m r b o∧dy m size aN b (o+size)
end
structure bH (m aU:Mem):Prop where
 os:aU.w.os=m.w.os
 tape:aU.w.tape=m.w.tape
 output:aU.w.output=m.w.output
 size:m.w.heap.size≤aU.w.heap.size
 T:m.T≤aU.T
 block: ∀b,b<m.w.heap.size→m.H.aV b=bc9→(∀t i,m.H.tok t=some i→(m.L t).dV≠some b)→aU.w.heap[b]? =m.w.heap[b]? ∧aU.H.aV b=bc9∧(∀t i,aU.H.tok t=some i→(aU.L t).dV≠some b)
 cell: ∀b o,lC m b o→lC aU b o∧aU.w.cell? ⟨b,o,none⟩=m.w.cell? ⟨b,o,none⟩
 tok: ∀t c3,t<m.T→aU.H.tok t=some c3→∃i,m.H.tok t=some i∧i.ver≤c3.ver∧c3.size=i.size∧(c3.ver=i.ver→aU.L t=m.L t)
theorem bH.refl (m:Mem):bH m m:=⟨rfl,rfl,rfl,aT4 _,aT4 _,fun _ _ h hA=>⟨rfl,h,hA⟩,fun _ _ h=>⟨h,rfl⟩,fun _ c3 _ h=>⟨c3,h,aT4 _,rfl,fun _=>rfl⟩⟩
theorem bH.trans {a b c:Mem}(h:bH a b) (k:bH b c):bH a c where
 os:=k.os.trans h.os
 tape:=k.tape.trans h.tape
 output:=k.output.trans h.output
 size:=aX0 h.size k.size
 T:=aX0 h.T k.T
 block:=fun x U hb aF=>by
  obtain⟨aj,aq,bD⟩:=h.block x U hb aF
  obtain⟨f1,f2,f3⟩:=k.block x (aZ9 U h.size) aq bD
  exact⟨f1.trans aj,f2,f3⟩
 cell:=fun x o an=>by
  obtain⟨aj,aq⟩:=h.cell x o an
  obtain⟨f1,f2⟩:=k.cell x o aj
  exact⟨f1,f2.trans aq⟩
 tok:=fun t Yt aF ae=>by
  obtain⟨c3,h1,J,aA,bz⟩:=k.tok t Yt (aZ9 aF h.T) ae
  obtain⟨i,g1,g2,g3,g4⟩:=h.tok t c3 aF h1
  refine⟨i,g1,aX0 g2 J,aA.trans g3,fun e=> ?_⟩
  rw[bz (by omega),g4 (by omega)]
mutual
theorem aK.aC {m aU:Mem}(e:bH m aU): ∀(a:I) (v:Value),aK m a v→aK aU a v
 | .ec,_,_=>by simp only[aK]
 | .bool _,_,h=>by simp only[aK]at*; exact h
 | .int _ _,_,h=>by simp only[aK]at*; exact h
 | .str _,_,h=>by simp only[aK]at*; exact h
 | .dI _,_,h=>by simp only[aK]at*; exact h
 | .ptr _ _,_,h=>by simp only[aK]at*; exact h
 | .agg cs,_,h=>by simp only[aK]at*; obtain⟨l,aj,aq⟩:=h; exact⟨l,aj,aM.aC e cs l aq⟩
 | .cV cs,_,h=>by simp only[aK]at*; obtain⟨l,aj,aq⟩:=h; exact⟨l,aj,aM.aC e cs l aq⟩
 | .ak size rows,_,h=>by
  simp only[aK]at*
  obtain⟨a,len,cap,h1,J,aA,bz⟩:=h
  exact⟨a,len,cap,h1,J,aA,bz.imp id fun⟨b,o,g1,g2⟩=>⟨b,o,g1,dy.aC e size rows b o g2⟩⟩
 | .own t size rows,_,h=>by
  simp only[aK]at*
  obtain⟨⟨a,len,cap,h1,J,aA,bz⟩,bZ,ef⟩:=h
  refine⟨⟨a,len,cap,h1,J,aA,bz.imp id fun⟨b,o,g1,g2⟩=>⟨b,o,g1,dy.aC e size rows b o g2⟩⟩,aZ9 bZ e.T,fun i ae=> ?_⟩
  obtain⟨i0,br,bA,cy,eR⟩:=e.tok t i bZ ae
  obtain⟨iG,cb⟩:=ef i0 br
  refine⟨by omega,fun bb=> ?_⟩
  obtain⟨cb,cp⟩:=cb (by omega)
  exact⟨(eR (by omega)).trans cb,cy.trans cp⟩
 | .cz t ver,_,h=>by
  simp only[aK]at*
  obtain⟨aW,bZ,ef⟩:=h
  refine⟨aW,aZ9 bZ e.T,fun i ae=> ?_⟩
  obtain⟨i0,br,bA,cy,eR⟩:=e.tok t i bZ ae
  obtain⟨iG,cb⟩:=ef i0 br
  exact⟨by omega,fun bb=>(eR (by omega)).trans (cb (by omega))⟩
 | .mp t ver k,_,h=>by
  simp only[aK]at*
  obtain⟨aW,bZ,ef⟩:=h
  refine⟨aW,aZ9 bZ e.T,fun i ae=> ?_⟩
  obtain⟨i0,br,bA,cy,eR⟩:=e.tok t i bZ ae
  obtain⟨iG,cb⟩:=ef i0 br
  refine⟨by omega,fun bb=> ?_⟩
  obtain⟨b,p,len,cap,g1,g2⟩:=cb (by omega)
  exact⟨b,p,len,cap,(eR (by omega)).trans g1,g2⟩
 | .dL row off,_,h=>by
  simp only[aK]at*
  obtain⟨b,o,h1,J⟩:=h
  exact⟨b,o,h1,ez.aC e row b o J⟩
 | .fn f cs,_,h=>by simp only[aK]at*; obtain⟨l,aj,aq⟩:=h; exact⟨l,aj,aM.aC e cs l aq⟩
 | .gJ t a,_,h=>by simp only[aK]at*; obtain⟨x,aj,aq⟩:=h; exact⟨x,aj,aK.aC e a x aq⟩
theorem aM.aC {m aU:Mem}(e:bH m aU): ∀(az:List I) (l:List Value),aM m az l→aM aU az l
 |[],_,h=>by simp only[aM]at*; exact h
 |a::az,_,h=>by simp only[aM]at*; obtain⟨v,ak,h1,J,aA⟩:=h; exact⟨v,ak,h1,aK.aC e a v J,aM.aC e az ak aA⟩
theorem ez.aC {m aU:Mem}(e:bH m aU): ∀(az:List I) (b o:Nat),ez m az b o→ez aU az b o
 |[],_,_,_=>by simp only[ez]
 |a::az,b,o,h=>by
  simp only[ez]at*
  obtain⟨⟨v,h1,tA,J,aA⟩,bz⟩:=h
  obtain⟨s1,s2⟩:=e.cell b o J
  exact⟨⟨v,s2.trans h1,tA,s1,aK.aC e a v aA⟩,ez.aC e az b (o+1) bz⟩
theorem dy.aC {m aU:Mem}(e:bH m aU) (size:Nat): ∀(aN:List (List I)) (b o:Nat),dy m size aN b o→dy aU size aN b o
 |[],_,_,_=>by simp only[dy]
 |r::aN,b,o,h=>by
  simp only[dy]at*
  exact⟨h.1,ez.aC e r b o h.2.1,dy.aC e size aN b (o+size) h.2.2⟩
end
def Cb (m:Mem):Prop:=∀p∈yd,m.H.aV p.1=bc9∧∀t i,m.H.tok t=some i→(m.L t).dV≠some p.1
theorem pd.aC {m aU:Mem}(e:bH m aU) (h:lz m.w) (k:Cb m):lz aU.w∧Cb aU:=by
 have key: ∀p∈yd,(∃mT,aU.w.heap[p.1]? =some mT∧p.2 mT)∧aU.H.aV p.1=bc9∧∀t i,aU.H.tok t=some i→(aU.L t).dV≠some p.1:=by
  intro p hp
  obtain⟨mT,h1,J⟩:=h p hp
  obtain⟨br,bA⟩:=k p hp
  obtain⟨aj,aq,bD⟩:=e.block p.1 (Array.getElem?_eq_some_iff.1 h1).1 br bA
  exact⟨⟨mT,aj.trans h1,J⟩,aq,bD⟩
 exact⟨fun p hp=>(key p hp).1,fun p hp=>(key p hp).2⟩
structure bG (m:Mem):Prop where
 aV: ∀b T cs,m.H.aV b=some (T,cs)→∃l,m.w.heap[b]? =some (.cells ⟨l⟩ T (0,0))∧aM m cs l∧∀v∈l,v.oneCell'=true
 tok: ∀t i,m.H.tok t=some i→t<m.T∧i.size≠0∧(∃xs,m.w.qB i (m.L t) xs∧∀rows,i.kq=some rows→aM m rows.flatten xs∧(∀r∈rows,r.length=i.size)∧∀v∈xs,v.oneCell'=true)∧(∀b,(m.L t).dV=some b→m.H.aV b=bc9∧∀dk c3,m.H.tok dk=some c3→(m.L dk).dV=some b→dk=t)
 kr:lz m.w
 ks:Cb m
theorem aM.length {m:Mem}: ∀ {az:List I}{l:List Value},aM m az l→l.length=az.length
 |[],_,h=>by simp only[aM]at h; subst h; rfl
 |a::az,_,h=>by simp only[aM]at h; obtain⟨v,ak,rfl,_,J⟩:=h; simp [aM.length J]
theorem aM.get {m:Mem}: ∀ {az:List I}{l:List Value}(_:aM m az l) (i:Nat) (a:I),az[i]? =some a→∃v,l[i]? =some v∧aK m a v
 |[],_,_,_,_,h=>by simp at h
 |a::az,_,h,0,x,U=>by simp only[aM]at h; obtain⟨v,ak,rfl,h1,J⟩:=h; simp at U; subst U; exact⟨v,rfl,h1⟩
 |a::az,_,h,i+1,x,U=>by simp only[aM]at h; obtain⟨v,ak,rfl,h1,J⟩:=h; simp at U; obtain⟨bp,aj,aq⟩:=aM.get J i x U; exact⟨bp,by simpa using aj,aq⟩
theorem aM.append {m:Mem}: ∀ {az:List I}{l:List Value}{bU:List I}{bM:List Value}(_:aM m az l) (_:aM m bU bM),aM m (az++bU) (l++bM)
 |[],_,_,_,h,k=>by simp only[aM]at h; subst h; simpa using k
 |a::az,_,_,_,h,k=>by simp only[aM]at h; obtain⟨v,ak,rfl,h1,J⟩:=h; simp only[aU4,aM]; exact⟨v,_,rfl,h1,aM.append J k⟩
theorem aM.drop {m:Mem}: ∀(n:Nat){az:List I}{l:List Value}(_:aM m az l),aM m (az.drop n) (l.drop n)
 |0,_,_,h=>by simpa using h
 |n+1,[],_,h=>by simp only[aM]at h; subst h; simp [aM]
 |n+1,a::az,_,h=>by simp only[aM]at h; obtain⟨v,ak,rfl,h1,J⟩:=h; simpa using aM.drop n J
theorem aM.take {m:Mem}: ∀(n:Nat){az:List I}{l:List Value}(_:aM m az l),aM m (az.take n) (l.take n)
 |0,_,_,_=>by simp [aM]
 |n+1,[],_,h=>by simp only[aM]at h; subst h; simp [aM]
 |n+1,a::az,_,h=>by simp only[aM]at h; obtain⟨v,ak,rfl,h1,J⟩:=h; simp only[aY1,aM]; exact⟨v,_,rfl,h1,aM.take n J⟩
theorem aM.set {m:Mem}: ∀(n:Nat){az:List I}{l:List Value}(_:aM m az l){a:I}{v:Value},aK m a v→aM m (az.set n a) (l.set n v)
 | _,[],_,h,_,_,_=>by simp only[aM]at h; subst h; simp [aM]
 |0,a::az,_,h,_,_,ad=>by simp only[aM]at h; obtain⟨v,ak,rfl,h1,J⟩:=h; simp only[aY9,aM]; exact⟨_,_,rfl,ad,J⟩
 |n+1,a::az,_,h,_,_,ad=>by simp only[aM]at h; obtain⟨v,ak,rfl,h1,J⟩:=h; simp only[ba0,aM]; exact⟨_,_,rfl,h1,aM.set n J ad⟩
theorem ez.get {m:Mem}: ∀ {az:List I}{b o:Nat}(_:ez m az b o) (i:Nat) (a:I),az[i]? =some a→∃v,m.w.cell? ⟨b,o+i,none⟩=some v∧v.oneCell'=true∧lC m b (o+i)∧aK m a v
 |[],_,_,_,_,_,h=>by simp at h
 |a::az,b,o,h,0,x,U=>by simp only[ez]at h; simp at U; subst U; exact h.1
 |a::az,b,o,h,i+1,x,U=>by
  simp only[ez]at h
  simp at U
  obtain⟨v,e⟩:=ez.get h.2 i x U
  rw[show o+(i+1)=o+1+i by omega]
  exact⟨v,e⟩
theorem dy.get {m:Mem}{size:Nat}: ∀ {aN:List (List I)}{b o:Nat}(_:dy m size aN b o) (i:Nat) (r:List I),aN[i]? =some r→r.length=size∧ez m r b (o+i*size)
 |[],_,_,_,_,_,h=>by simp at h
 |r::aN,b,o,h,0,x,U=>by simp only[dy]at h; simp at U; subst U; simpa using ⟨h.1,h.2.1⟩
 |r::aN,b,o,h,i+1,x,U=>by
  simp only[dy]at h
  simp at U
  have:=dy.get h.2.2 i x U
  rwa [show o+size+i*size=o+(i+1)*size by rw[aW4]; omega]at this
theorem dy.drop {m:Mem}{size:Nat}: ∀(n:Nat){aN:List (List I)}{b o:Nat},dy m size aN b o→dy m size (aN.drop n) b (o+n*size)
 |0,_,_,_,h=>by simpa using h
 |n+1,[],_,_,_=>by simp [dy]
 |n+1,r::aN,b,o,h=>by
  simp only[dy]at h
  have:=dy.drop n h.2.2
  rw[List.drop_succ_cons]
  rwa [show o+size+n*size=o+(n+1)*size by rw[aW4]; omega]at this
theorem dy.take {m:Mem}{size:Nat}: ∀(n:Nat){aN:List (List I)}{b o:Nat},dy m size aN b o→dy m size (aN.take n) b o
 |0,_,_,_,_=>by simp [dy]
 |n+1,[],_,_,_=>by simp [dy]
 |n+1,r::aN,b,o,h=>by
  simp only[dy]at h
  simp only[aY1,dy]
  exact⟨h.1,h.2.1,dy.take n h.2.2⟩
theorem ez.vL {m:Mem}: ∀ {az:List I}{b o:Nat},ez m az b o→∃l,aM m az l∧(∀j v,l[j]? =some v→m.w.cell? ⟨b,o+j,none⟩=some v∧v.oneCell'=true)
 |[],_,_,_=>⟨[],by simp [aM],by simp⟩
 |a::az,b,o,h=>by
  simp only[ez]at h
  obtain⟨⟨v,h1,tA,_,aA⟩,bz⟩:=h
  obtain⟨l,aj,aq⟩:=ez.vL bz
  refine⟨v::l,by simp only[aM]; exact⟨v,l,rfl,aA,aj⟩,fun j u bq=> ?_⟩
  cases j with
  |zero=>simp at bq; subst bq; exact⟨h1,tA⟩
  |succ j=>simp at bq; have:=aq j u bq; rwa [show o+1+j=o+(j+1) by omega]at this
theorem dy.vL {m:Mem}{size:Nat}: ∀ {aN:List (List I)}{b o:Nat},dy m size aN b o→∃l,aM m aN.flatten l∧l.length=aN.length*size∧(∀j v,l[j]? =some v→m.w.cell? ⟨b,o+j,none⟩=some v∧v.oneCell'=true)
 |[],_,_,_=>⟨[],by simp [aM],by simp,by simp⟩
 |r::aN,b,o,h=>by
  simp only[dy]at h
  obtain⟨h1,J,aA⟩:=h
  obtain⟨l,aj,aq⟩:=ez.vL J
  obtain⟨bM,f1,f2,f3⟩:=dy.vL aA
  have aE:l.length=size:=(aM.length aj).trans h1
  refine⟨l++bM,by simpa using aM.append aj f1,by rw[aT2,f2,aE,aT3,aW4]; omega,fun j u bq=> ?_⟩
  by_cases il:j<l.length
  ·rw[aX7 il]at bq
   exact aq j u bq
  ·rw[aZ8 (by omega)]at bq
   have:=f3 _ u bq
   rwa [show o+size+(j-l.length)=o+j by omega]at this
theorem ez.of {m:Mem}: ∀ {az:List I}{l:List Value}{b o:Nat},aM m az l→(∀j v,l[j]? =some v→m.w.cell? ⟨b,o+j,none⟩=some v∧v.oneCell'=true∧lC m b (o+j))→ez m az b o
 |[],_,_,_,_,_=>by simp only[ez]
 |a::az,l,b,o,h,k=>by
  simp only[aM]at h
  obtain⟨v,ak,rfl,h1,J⟩:=h
  simp only[ez]
  refine⟨⟨v,(k 0 v rfl).1,(k 0 v rfl).2.1,(k 0 v rfl).2.2,h1⟩,ez.of J fun j u bq=> ?_⟩
  have:=k (j+1) u (by simpa using bq)
  rwa [show o+(j+1)=o+1+j by omega]at this
theorem dy.of {m:Mem}{size:Nat}: ∀ {aN:List (List I)}{l:List Value}{b o:Nat},(∀r∈aN,r.length=size)→aM m aN.flatten l→(∀j v,l[j]? =some v→m.w.cell? ⟨b,o+j,none⟩=some v∧v.oneCell'=true∧lC m b (o+j))→dy m size aN b o
 |[],_,_,_,_,_,_=>by simp only[dy]
 |r::aN,l,b,o,an,h,k=>by
  simp only[aU3]at h
  have ab:r.length=size:=an r (by simp)
  have h1:=aM.take r.length h
  have J:=aM.drop r.length h
  simp only[bg3]at h1
  simp only[bg4]at J
  simp only[dy]
  refine⟨ab,ez.of h1 fun j v bq=>k j v ?_,dy.of (fun x U=>an x (by simp [U])) J fun j v bq=> ?_⟩
  ·rw[aV6]at bq
   split at bq
   ·exact bq
   ·cases bq
  ·rw[aZ0]at bq
   have:=k _ v bq
   rwa [show o+(r.length+j)=o+size+j by omega]at this
abbrev I.bn:I:= .dI (.slice none 0 0)
abbrev I.undef:I:= .dI Go.undef
def cR (a b:I):Prop:=∀m v,aK m a v→aK m b v
def dD:List I→List I→Prop
 |[],l=>l=[]
 |a::az,l=> ∃b bU,l=b::bU∧cR a b∧dD az bU
inductive aH where
 |t (n:Nat)
 |c (a:I)
abbrev Env:=List (Nat×I)
def Env.get:Env→Nat→I
 |[],_=> .ec
 |(k,v)::e,j=>bif k==j then v else Env.get e j
def Env.put (e:Env):Option Nat→I→Env
 |none,_=>e
 |some k,v=>(k,v)::e
def aH.aC (env:Env):aH→I
 | .t n=>env.get n
 | .c a=>a
inductive lA where
 |b
 |i (k:IntKind)
 |s
 deriving DecidableEq
inductive ba where
 |fO (x:aH)
 |pick (c a b:aH)
 |fB (x:aH)
 |box (T:TypeId) (x:aH)
 |alloc (T:TypeId) (zero:List I)
 |build (zero:List I) (parts:List (Nat×Nat×aH))
 |eu (T size n:Nat) (zero:List I) (parts:List (Nat×aH))
 |l4 (T size n:Nat) (zero:List I) (parts:List (Nat×aH))
 |load (agg:Bool) (n:Nat) (x:aH)
 |gq (eJ:Nat) (agg:Bool) (n:Nat) (x:aH)
 |qz (agg:Bool) (n:Nat) (x:aH)
 |store (n:Nat) (a v:aH)
 |nA (off:Nat) (x:aH)
 |field (agg:Bool) (off n:Nat) (x:aH)
 |gS (size:Nat) (x i:aH)
 |me (len size:Nat) (x i:aH)
 |iD (agg:Bool) (len size:Nat) (x i:aH)
 |gp (x i:aH)
 |bin (op:BinOp) (x y:aH)
 |p7 (op:BinOp) (x y:aH)
 |ny (neg:Bool) (T:TypeId) (bx:List lA) (x y:aH)
 |not (x:aH)
 |neg (x:aH)
 |conv (k:IntKind) (x:aH)
 |kV (x:aH)
 |len (x:aH)
 |pE (n:Nat)
 |j4 (ll:Bool) (xs:List aH)
 |append (T size bytes:Nat) (x y:aH)
 |iW (x:aH) (cm ae:Option aH)
 |gL (size:Nat) (x:aH) (cm ae lp:Option aH)
 |qd (int:Bool) (x:aH)
 |jh (T:TypeId) (x:aH)
 |xj (len size:Nat) (x:aH)
 |sE (f:FuncId) (cap:List aH)
 |extract (i:Nat) (x:aH)
 |iS (f:FuncId) (cap:List aH)
 |oR (T:TypeId) (x:aH)
 |call (f:FuncId) (args:List aH)
 |fx (x:aH) (args:List aH)
 |fQ (others:List Nat) (f:FuncId) (args:List aH)
 |kn (others:List Nat) (x:aH) (args:List aH)
 |io (f:FuncId) (args:List aH)
 |j8 (x:aH) (args:List aH)
 |vw (f:FuncId) (args:List aH) (r:I)
 |vx (x:aH) (args:List aH) (r:I)
 |panic (x:aH)
 |gF (eJ:Nat) (others:List Nat) (n:Nat) (a v:aH)
 |oO (neg:Bool) (x:aH)
 |qD (neg:Bool) (x:aH)
 |mR (T size bytes:Nat) (zero:List I) (x:aH)
 |iB (off:Nat) (x:aH)
 |hV (x:aH)
 |mkMap (T:TypeId)
 |hs (ok:Bool) (z:I) (x k:aH)
 |mQ (x k v:aH)
 |hE (size:Nat) (x i:aH)
 |ib (agg:Bool) (n:Nat) (x:aH)
 |lD (T size bytes:Nat) (x y:aH)
 |mo (size:Nat) (x:aH) (cm ae:Option aH)
 |lF (T size n:Nat) (zero:List I) (parts:List (Nat×aH))
 |rM (T size:Nat) (f:FuncId) (args:List aH)
 |w9 (T size:Nat) (f:FuncId) (args:List aH) (rows:List (List I))
def I.one:I→Bool
 | .agg _=>false
 | .cV _=>false
 | .ec=>false
 | .dI v=>v.oneCell'
 | _=>true
def I.cells:I→List I
 | .agg cs=>cs
 |a=>[a]
def I.ev:I→Bool
 | .agg _=>true
 |a=>a.one
def I.hJ (agg:Bool) (l:List I):Option I:=
 bif agg then some (.agg l) else match l with
  |[a]=>some a
  | _=>none
def p8 (op:BinOp) (k:IntKind) (a b:Int):Option I:=
 match op with
 | .add=>some (.int k (k.wrap (a+b)))
 | .sub=>some (.int k (k.wrap (a-b)))
 | .mul=>some (.int k (k.wrap (a*b)))
 | .eql=>some (.bool (decide (a=b)))
 | .neq=>some (.bool (!decide (a=b)))
 | .lss=>some (.bool (decide (a<b)))
 | .leq=>some (.bool (decide (a≤b)))
 | .gtr=>some (.bool (decide (b<a)))
 | .geq=>some (.bool (decide (b≤a)))
 | .and=>some (.int k (k.wrap (BitVec.ofInt k.bits a&&& BitVec.ofInt k.bits b).toNat))
 | .or=>some (.int k (k.wrap (BitVec.ofInt k.bits a|||BitVec.ofInt k.bits b).toNat))
 | .xor=>some (.int k (k.wrap (BitVec.ofInt k.bits a^^^BitVec.ofInt k.bits b).toNat))
 | .shl=>if 0≤b then some (.int k (k.wrap (a*2^(min b.toNat k.bits)))) else none
 | .shr=>if 0≤b then some (.int k (a.fdiv (2^(min b.toNat k.bits)))) else none
 | _=>none
def tW (op:BinOp) (k:IntKind) (a b:Int):Option I:=
 match op with
 | .shl=>if 0≤b then some (.int k (k.wrap (a*2^(min b.toNat k.bits)))) else none
 | .shr=>if 0≤b then some (.int k (a.fdiv (2^(min b.toNat k.bits)))) else none
 | _=>none
def km:List (List I)→Option (List UInt8)
 |[]=>some []
 |[.int .u8 n]::aN=>match km aN with
  |some l=>some (UInt8.ofNat n.toNat::l)
  |none=>none
 | _=>none
def iT (env:Env) (C4:Nat):Option aH→Option Nat
 |none=>some C4
 |some x=>match x.aC env with
  | .int _ (.ofNat n)=>some n
  | _=>none
def sa (op:BinOp) (a b:List UInt8):Option I:=
 match op with
 | .eql=>some (.bool (decide (a=b)))
 | .neq=>some (.bool (!decide (a=b)))
 | .lss=>some (.bool (Go.Op.bytesLess a b))
 | .leq=>some (.bool (Go.Op.bytesLess a b||decide (a=b)))
 | .gtr=>some (.bool (!(Go.Op.bytesLess a b||decide (a=b))))
 | .geq=>some (.bool (!Go.Op.bytesLess a b))
 | _=>none
def s6 (op:BinOp) (a b:Bool):Option I:=
 match op with
 | .eql=>some (.bool (a==b))
 | .neq=>some (.bool (!(a==b)))
 | _=>none
def nz:lA→I→I→Option Bool
 | .i l,.int k a,.int j b=>if k=l∧j=l then some (decide (a=b)) else none
 | .s,.str a,.str b=>some (decide (a=b))
 | .b,.bool a,.bool b=>some (a==b)
 | _,_,_=>none
def gb:List lA→List I→List I→Option Bool
 |[],[],[]=>some true
 |k::bx,a::az,b::bU=>match nz k a b,gb bx az bU with
  |some x,some y=>some (x&&y)
  | _,_=>none
 | _,_,_=>none
def fs (l:List I) (o:Nat) (new:List I):List I:=l.take o++new++l.drop (o+new.length)
def nl (env:Env) (cells:List I):List (Nat×Nat×aH)→Option (List I)
 |[]=>some cells
 |(off,size,x)::rest=>
  let cs:=(x.aC env).cells
  if cs.length=size∧off+size≤cells.length∧(x.aC env).ev=true then nl env (fs cells off cs) rest else none
def kC (ll:Bool):I→List I→Option I
 | .int k a,[]=>some (.int k a)
 | .int k a,.int j b::rest=>if k=j then kC ll (.int k (if ll then max a b else min a b)) rest else none
 | _,_=>none
def bL (op:ba) (env:Env) (H:aw):Option I:=
 match op with
 | .fO x=>some (x.aC env)
 | .pick c a b=>match c.aC env with
  | .bool true=>some (a.aC env)
  | .bool false=>some (b.aC env)
  | _=>none
 | .fB x=>match x.aC env with
  | .ptr b o=>some (.ptr b o)
  | .dL r o=>some (.dL r o)
  | .fn f c=>some (.fn f c)
  | _=>none
 | .build zero parts=>(nl env zero parts).map .agg
 | .load agg n x=>match x.aC env with
  | .ptr b o=>match H.aV b with
   |some (_,cs)=>if o+n≤cs.length then I.hJ agg ((cs.drop o).take n) else none
   |none=>none
  | .dL row o=>if o+n≤row.length then I.hJ agg ((row.drop o).take n) else none
  | _=>none
 | .gq eJ agg n x=>match env.get eJ,x.aC env with
  | .ptr b 0,.ptr bJ o=>if bJ=b then (match H.aV bJ with
   |some (_,cs)=>if o+n≤cs.length then I.hJ agg ((cs.drop o).take n) else none
   |none=>none) else none
  | _,_=>none
 | .qz agg n x=>match x.aC env with
  | .dL row o=>if o+n≤row.length then I.hJ agg ((row.drop o).take n) else none
  | _=>none
 | .nA off x=>match x.aC env with
  | .ptr b o=>some (.ptr b (o+off))
  | .dL row o=>some (.dL row (o+off))
  | _=>none
 | .field agg off n x=>match x.aC env with
  | .agg cs=>if off+n≤cs.length then I.hJ agg ((cs.drop off).take n) else none
  | _=>none
 | .bin op x y=>match x.aC env,y.aC env with
  | .int k a,.int j b=>if k=j then p8 op k a b else tW op k a b
  | .str a,.str b=>sa op a b
  | _,_=>none
 | .p7 op x y=>match x.aC env,y.aC env with
  | .bool a,.bool b=>s6 op a b
  | _,_=>none
 | .ny neg _ bx x y=>match x.aC env,y.aC env with
  | .agg a,.agg b=>(gb bx a b).map fun r=> .bool (bif neg then !r else r)
  | _,_=>none
 | .not x=>match x.aC env with
  | .bool b=>some (.bool (!b))
  | _=>none
 | .qD neg x=>match x.aC env with
  | .ptr _ _=>some (.bool neg)
  | .dL _ _=>some (.bool neg)
  | .dI (.pointer none)=>some (.bool (!neg))
  | _=>none
 | .neg x=>match x.aC env with
  | .int k n=>some (.int k (k.wrap (0-n)))
  | _=>none
 | .conv k x=>match x.aC env with
  | .int _ n=>some (.int k (k.wrap n))
  | _=>none
 | .kV x=>match x.aC env with
  | .str s=>some (.int .i64 s.length)
  | _=>none
 | .len x=>match x.aC env with
  | .ak _ rows=>some (.int .i64 rows.length)
  | .own _ _ rows=>some (.int .i64 rows.length)
  | .dI (.slice _ n _)=>some (.int .i64 n)
  | _=>none
 | .pE n=>some (.int .i64 n)
 | .j4 ll xs=>match xs.map (aH.aC env) with
  |a::rest=>kC ll a rest
  |[]=>none
 | .extract i x=>match x.aC env with
  | .cV l=>l[i]?
  | _=>none
 | .iS f cap=>some (.fn f (cap.map (aH.aC env)))
 | .sE f cap=>some (.fn (f+iy) (cap.map (aH.aC env)))
 | .qd int x=>match int,x.aC env with
  |true,.int _ n=>some (.str (Utf8.encode n).data.toList)
  |false,.ak 1 rows=>(km rows).map .str
  |false,.own _ 1 rows=>(km rows).map .str
  |false,.dI (.slice none _ _)=>some (.str [])
  | _,_=>none
 | .oR T x=>some (.gJ T (x.aC env))
 | _=>none
def bB.bP (T size n:Nat):bB:=⟨T,size,n,n,none⟩
def bB.bc (T size ver:Nat) (rows:List (List I)):bB:=⟨T,size,0,ver,some rows⟩
def bB.bk (T ver:Nat) (rows:List (List I)):bB:=⟨T,2,1,ver,some rows⟩
def lm (s:List UInt8):List (List I)→Option (Option I)
 |[]=>some none
 |[.str k,v]::r=>if s=k then some (some v) else lm s r
 | _:: _=>none
def j5 (s:List UInt8) (v:I):List (List I)→Option (List (List I))
 |[]=>some [[.str s,v]]
 |[.str k,w]::r=>if s=k then some ([.str s,v]::r) else (j5 s v r).map ([.str k,w]:: ·)
 | _:: _=>none
def j6 (ok:Bool) (z:I) (r:Option I):I:=if ok then .cV [r.getD z,.bool r.isSome] else r.getD z
inductive D where
 |cP (v:I)
 |iF (T:TypeId) (cs:List I)
 |bf (o:bB) (v:Nat→I)
abbrev D.Bm (T size:Nat) (rows:List (List I)):D:= .bf (.bP T size rows.length) fun x=> .own x size rows
abbrev D.vn (T size:Nat) (rows:List (List I)):D:= .bf (.bc T size 0 rows) fun x=> .cz x 0
def D.fresh (d:D) (x:Nat) (H:aw):Prop:=
 match d with
 | .cP _=>True
 | .iF _ _=>H.aV x=none
 | .bf _ _=>H.tok x=none
def D.val (d:D) (x:Nat):I:=
 match d with
 | .cP v=>v
 | .iF _ _=> .ptr x 0
 | .bf _ v=>v x
def D.heap (d:D) (H:aw) (x:Nat):aw:=
 match d with
 | .cP _=>H
 | .iF T cs=>H.cc x T cs
 | .bf o _=>H.b7 x o
inductive Out where
 |ret (a:I)
 |dW (a:I)
def pU (m:Mem):Out→Ending→Prop
 | .ret a,e=> ∃v,e= .returned v∧aK m a v
 | .dW a,e=> ∃v,e= .panicked [{v,recovered:=false}]∧aK m a v
def iu (P:Program) (f:FuncId) (args:List I) (H:aw) (Q:Out→aw→Prop):Prop:=
 ∀(m:Mem) (ak:List Value),m.H=H→bG m→aM m args ak→
  Calls P f ⟨ak⟩ m.w fun e w'=> ∃o av fI cu,bG ⟨w',av,fI,cu⟩∧bH m ⟨w',av,fI,cu⟩∧pU ⟨w',av,fI,cu⟩ o e∧Q o av
def Pure (P:Program) (f:FuncId) (args:List I) (r:I):Prop:=∀H,iu P f args H fun o av=>o= .ret r∧av=H
def zU (P:Program) (f:FuncId) (args:List I) (T size:Nat) (rows:List (List I)):Prop:=∀H,iu P f args H fun o av=> ∃t,H.tok t=none∧o= .ret (.cz t 0)∧av=H.b7 t (.bc T size 0 rows)
def cT (P:Program) (f:FuncId):Bool:=match P.funcs[f]? with|some fn=>fn.body.isSome&& !(fn.name== "runtime.NumGoroutine")&&aW7 f iy|none=>false
def rowsOf (size:Nat):I→Option (List (List I))
 | .ak s rows=>if s=size then some rows else none
 | .own _ s rows=>if s=size then some rows else none
 | .dI (.slice _ 0 _)=>some []
 | .str s=>if size=1 then some (s.map fun c=>[.int .u8 c.toNat]) else none
 | _=>none
def jB (env:Env) (parts:List (Nat×aH)):List (List I):=parts.map fun p=>(p.2.aC env).cells
def mX (size:Nat):I→Option (List (List I))
 | .ak s rows=>if s=size then some rows else none
 | .own _ s rows=>if s=size then some rows else none
 | _=>none
inductive ed (P:Program):ba→Env→aw→D→Prop
 |pure {op env H v}(h:bL op env H=some v):ed P op env H (.cP v)
 |quo {x y env H k a b}(U:x.aC env= .int k a) (bg:y.aC env= .int k b) (hb:b≠0):ed P (.bin .quo x y) env H (.cP (.int k (k.wrap (a.tdiv b))))
 |rem {x y env H k a b}(U:x.aC env= .int k a) (bg:y.aC env= .int k b) (hb:b≠0):ed P (.bin .rem x y) env H (.cP (.int k (a.tmod b)))
 |ij {x y env H a b}(U:x.aC env= .str a) (bg:y.aC env= .str b) (hb:a.length+b.length≤maxLen):ed P (.bin .add x y) env H (.cP (.str (a++b)))
 |nI {size x i env H rows k n r}(U:x.aC env= .ak size rows) (ae:i.aC env= .int k n) (aW:0≤n) (ab:rows[n.toNat]? =some r):ed P (.gS size x i) env H (.cP (.dL r 0))
 |nG {size x i env H t rows k n r}(U:x.aC env= .own t size rows) (ae:i.aC env= .int k n) (aW:0≤n) (ab:rows[n.toNat]? =some r):ed P (.gS size x i) env H (.cP (.dL r 0))
 |oh {size x i env H b o cap k}{len:Nat}{n:Int}(U:x.aC env= .dI (.slice (some ⟨b,o,none⟩) len cap)) (ae:i.aC env= .int k n) (aW:0≤n) (h1:n<(len:Int)):ed P (.gS size x i) env H (.cP (.ptr b (o+n.toNat*size)))
 |mP {size x i env H b o k}{len:Nat}{n:Int}(U:x.aC env= .ptr b o) (ae:i.aC env= .int k n) (aW:0≤n) (h1:n<(len:Int)):ed P (.me len size x i) env H (.cP (.ptr b (o+n.toNat*size)))
 |nH {size x i env H row o k}{len:Nat}{n:Int}(U:x.aC env= .dL row o) (ae:i.aC env= .int k n) (aW:0≤n) (h1:n<(len:Int)):ed P (.me len size x i) env H (.cP (.dL row (o+n.toNat*size)))
 |iD {agg size x i env H cs k}{len:Nat}{n:Int}{v}(U:x.aC env= .agg cs) (ae:i.aC env= .int k n) (aW:0≤n) (h1:n<(len:Int)) (aE:n.toNat*size+size≤cs.length) (ad:I.hJ agg ((cs.drop (n.toNat*size)).take size)=some v):ed P (.iD agg len size x i) env H (.cP v)
 |gp {x i env H s k n c}(U:x.aC env= .str s) (ae:i.aC env= .int k n) (aW:0≤n) (ah:s[n.toNat]? =some c):ed P (.gp x i) env H (.cP (.int .u8 c.toNat))
 |iW {x cm ae env H s l h}(U:x.aC env= .str s) (aE:iT env 0 cm=some l) (a8:iT env s.length ae=some h) (h1:l≤h) (J:h≤s.length):ed P (.iW x cm ae) env H (.cP (.str ((s.take h).drop l)))
 |gL {size x cm ae env H rows l h}(U:mX size (x.aC env)=some rows) (aE:iT env 0 cm=some l) (a8:iT env rows.length ae=some h) (h1:l≤h) (J:h≤rows.length):ed P (.gL size x cm ae none) env H (.cP (.ak size ((rows.take h).drop l)))
 |jh {T x env H s}(U:x.aC env= .str s):ed P (.jh T x) env H (.cP (.ak 1 (s.map fun c=>[.int .u8 c.toNat])))
 |box {T x env H}(U:((x.aC env).cells).all I.one=true):ed P (.box T x) env H (.iF T (x.aC env).cells)
 |alloc {T zero env H}(aD:zero.all I.one=true):ed P (.alloc T zero) env H (.iF T zero)
 |nS {T size n zero parts env H rows}(ab:jB env parts=rows) (an:rows.all (fun r=>r.length==size)=true) (af:rows.flatten.all I.one=true):ed P (.eu T size n zero parts) env H (.cP (.ak size rows))
 |l4 {T size n zero parts env H rows}(ab:jB env parts=rows) (an:rows.all (fun r=>r.length==size)=true) (af:rows.flatten.all I.one=true) (aW:size≠0):ed P (.l4 T size n zero parts) env H (.Bm T size rows)
 |pY {T size bytes x y env H rows}(U:x.aC env= .bn) (bg:rowsOf size (y.aC env)=some rows) (hb:rows.length*bytes≤140737488355328) (hm:rows.length≤maxLen) (aW:size≠0):ed P (.append T size bytes x y) env H (.Bm T size rows)
 |hV {x env H t ver T size rows}(U:x.aC env= .cz t ver) (aF:H.tok t=some (.bc T size ver rows)):ed P (.hV x) env H (.cP (.int .i64 rows.length))
 |mkMap {T env H}:ed P (.mkMap T) env H (.bf (.bk T 0 []) fun x=> .cz x 0)
 |hs {ok z x k env H t ver T rows s r}(U:x.aC env= .cz t ver) (aF:H.tok t=some (.bk T ver rows)) (hk:k.aC env= .str s) (ab:lm s rows=some r):ed P (.hs ok z x k) env H (.cP (j6 ok z r))
 |pF {ok z x k env H s}(U:x.aC env= .dI (.map none)) (hk:k.aC env= .str s):ed P (.hs ok z x k) env H (.cP (j6 ok z none))
 |mR {T size bytes zero x env H k}{n:Nat}(U:x.aC env= .int k (n:Int)) (hb:bytes*n≤281474976710656) (hm:n≤maxLen) (af:zero.all I.one=true) (aD:zero.length=size) (aW:size≠0):ed P (.mR T size bytes zero x) env H (.vn T size (aU2 n zero))
 |tL {neg x env H}(U:x.aC env= .bn):ed P (.oO neg x) env H (.cP (.bool (!neg)))
 |tK {neg x env H size rows}(U:x.aC env= .ak size rows) (ab:rows≠[]):ed P (.oO neg x) env H (.cP (.bool neg))
 |iB {off x env H t ver k T size rows}(U:x.aC env= .mp t ver k) (aF:H.tok t=some (.bc T size ver rows)):ed P (.iB off x) env H (.cP (.mp t ver (k+off)))
 |hE {size x i env H t ver T rows k n}(U:x.aC env= .cz t ver) (aF:H.tok t=some (.bc T size ver rows)) (ae:i.aC env= .int k n) (aW:0≤n) (h1:n<(rows.length:Int)):ed P (.hE size x i) env H (.cP (.mp t ver (n.toNat*size)))
 |ib {agg n x env H t ver k T size rows v}(U:x.aC env= .mp t ver k) (aF:H.tok t=some (.bc T size ver rows)) (aE:k+n≤rows.flatten.length) (ad:I.hJ agg ((rows.flatten.drop k).take n)=some v):ed P (.ib agg n x) env H (.cP v)
 |lF {T size n zero parts env H rows}(ab:jB env parts=rows) (an:rows.all (fun r=>r.length==size)=true) (af:rows.flatten.all I.one=true) (aW:size≠0):ed P (.lF T size n zero parts) env H (.vn T size rows)
 |uy {T size bytes x y env H rows}(U:x.aC env= .bn) (bg:rowsOf size (y.aC env)=some rows) (hb:rows.length*bytes≤140737488355328) (hm:rows.length≤maxLen) (aW:size≠0):ed P (.lD T size bytes x y) env H (.vn T size rows)
 |tS {f args env H az T size rows}(aL:dD (args.map (aH.aC env)) az) (h:zU P f az T size rows):ed P (.w9 T size f args rows) env H (.vn T size rows)
 |io {f args env H az r}(aL:dD (args.map (aH.aC env)) az) (h:Pure P f az r):ed P (.call f args) env H (.cP r)
 |j8 {x args env H f cap az r}(U:x.aC env= .fn f cap) (aO:cT P f=true) (aL:dD (args.map (aH.aC env)++cap) az) (h:Pure P f az r):ed P (.fx x args) env H (.cP r)
 |oU {f args env H az r}(aL:dD (args.map (aH.aC env)) az) (h:Pure P f az r):ed P (.vw f args r) env H (.cP r)
 |pJ {x args env H f cap az r}(U:x.aC env= .fn f cap) (aO:cT P f=true) (aL:dD (args.map (aH.aC env)++cap) az) (h:Pure P f az r):ed P (.vx x args r) env H (.cP r)
def vU (K Rp:I→aw→Prop) (av:aw):Out→Prop
 | .ret v=>K v av
 | .dW v=>Rp v av
def gv (H:aw):Prop:=∃N,∀n,N≤n→H.aV n=none∧H.tok n=none
inductive gH (P:Program):ba→Env→aw→(I→aw→Prop)→(I→aw→Prop)→Prop
 |gU {op env H K Rp}(d:D) (bw:ed P op env H d) (h: ∀x,d.fresh x H→K (d.val x) (d.heap H x)):gH P op env H K Rp
 |store {n a v env H K Rp b o T cs}(aL:a.aC env= .ptr b o) (hb:H.aV b=some (T,cs)) (bb:(v.aC env).cells.length=n) (aE:o+n≤cs.length) (af:((v.aC env).cells).all I.one=true)
  (h:K .undef (H.cc b T (fs cs o (v.aC env).cells))):gH P (.store n a v) env H K Rp
 |gF {eJ others n a v env H K Rp b o T cs}(oK:env.get eJ= .ptr b 0) (kx: ∀s∈others,∃bJ,env.get s= .ptr bJ 0∧bJ≠b) (aL:a.aC env= .ptr b o) (hb:H.aV b=some (T,cs)) (bb:(v.aC env).cells.length=n) (aE:o+n≤cs.length) (af:((v.aC env).cells).all I.one=true)
  (h:K .undef (H.cc b T (fs cs o (v.aC env).cells))):gH P (.gF eJ others n a v) env H K Rp
 |append {T size bytes x y env H K Rp t rows new}(U:x.aC env= .own t size rows) (aF:H.tok t=some (.bP T size rows.length)) (bg:rowsOf size (y.aC env)=some new) (hb:(rows.length+new.length)*bytes≤140737488355328) (hm:rows.length+new.length≤maxLen)
  (h:K (.own t size (rows++new)) (H.b7 t (.bP T size (rows.length+new.length)))):gH P (.append T size bytes x y) env H K Rp
 |lD {T size bytes x y env H K Rp t ver rows new}(U:x.aC env= .cz t ver) (aF:H.tok t=some (.bc T size ver rows)) (bg:rowsOf size (y.aC env)=some new) (hb:(rows.length+new.length)*bytes≤140737488355328) (hm:rows.length+new.length≤maxLen)
  (h:K (.cz t (ver+1)) (H.b7 t (.bc T size (ver+1) (rows++new)))):gH P (.lD T size bytes x y) env H K Rp
 |yF {neg x env H K Rp size rows}(U:x.aC env= .ak size rows) (h: ∀b,K (.bool b) H):gH P (.oO neg x) env H K Rp
 |mo {size x cm ae env H K Rp t ver T rows h q}(U:x.aC env= .cz t ver) (aF:H.tok t=some (.bc T size ver rows)) (aE:iT env 0 cm=some q) (a8:iT env rows.length ae=some h) (h1:h≤rows.length) (bs:q≤h)
  (h:K (.cz t (ver+1)) (H.b7 t (.bc T size (ver+1) ((rows.take h).drop q)))):gH P (.mo size x cm ae) env H K Rp
 |tZ {n a v env H K Rp t ver k T size rows rows'}(aL:a.aC env= .mp t ver k) (aF:H.tok t=some (.bc T size ver rows)) (bb:(v.aC env).cells.length=n) (aE:k+n≤rows.flatten.length) (af:((v.aC env).cells).all I.one=true)
  (aO:rows'.flatten=fs rows.flatten k (v.aC env).cells) (ab: ∀r∈rows',r.length=size) (hlen:rows'.length=rows.length)
  (h:K .undef (H.b7 t (.bc T size ver rows'))):gH P (.store n a v) env H K Rp
 |mQ {x k v env H K Rp t ver T rows rows' s}(U:x.aC env= .cz t ver) (aF:H.tok t=some (.bk T ver rows)) (hk:k.aC env= .str s) (af:(v.aC env).one=true) (ab:j5 s (v.aC env) rows=some rows')
  (h:K .undef (H.b7 t (.bk T ver rows'))):gH P (.mQ x k v) env H K Rp
 |call {f args env H K Rp az}(Q:Out→aw→Prop) (aL:dD (args.map (aH.aC env)) az) (ah:iu P f az H Q) (h: ∀o av,Q o av→vU K Rp av o):gH P (.call f args) env H K Rp
 |fQ {others f args env H K Rp az}(Q:Out→aw→Prop) (af: ∀s∈others,∃b,env.get s= .ptr b 0∧∀o av,Q o av→av.aV b=H.aV b) (he:gv H→∃r av,Q (.ret r) av∧gv av) (aL:dD (args.map (aH.aC env)) az) (ah:iu P f az H Q) (h: ∀o av,Q o av→vU K Rp av o):gH P (.fQ others f args) env H K Rp
 |kn {others x args env H K Rp f cap az}(Q:Out→aw→Prop) (U:x.aC env= .fn f cap) (aO:cT P f=true) (af: ∀s∈others,∃b,env.get s= .ptr b 0∧∀o av,Q o av→av.aV b=H.aV b) (he:gv H→∃r av,Q (.ret r) av∧gv av) (aL:dD (args.map (aH.aC env)++cap) az) (ah:iu P f az H Q) (h: ∀o av,Q o av→vU K Rp av o):gH P (.kn others x args) env H K Rp
 |fx {x args env H K Rp f cap az}(Q:Out→aw→Prop) (U:x.aC env= .fn f cap) (aO:cT P f=true) (aL:dD (args.map (aH.aC env)++cap) az) (ah:iu P f az H Q) (h: ∀o av,Q o av→vU K Rp av o):gH P (.fx x args) env H K Rp
 |v8 {x args env H K Rp f cap az}(Q:Out→aw→Prop) (U:x.aC env= .fn (f+iy) cap) (aO:cT P f=true) (aL:dD (cap++args.map (aH.aC env)) az) (ah:iu P f az H Q) (h: ∀o av,Q o av→vU K Rp av o):gH P (.fx x args) env H K Rp
 |xk {len size x env H K Rp b T cs rows}(U:x.aC env= .ptr b 0) (hb:H.aV b=some (T,cs)) (aO:rows.flatten=cs) (ab: ∀r∈rows,r.length=size) (aE:rows.length=len) (aW:0<len) (hm:len≤maxLen)
  (h:K (.ak size rows) (H.oF b)):gH P (.xj len size x) env H K Rp
 |panic {x env H K Rp t v}(U:x.aC env= .gJ t v) (h:Rp (.gJ t v) H):gH P (.panic x) env H K Rp
structure bC where
 dst:Option Nat
 guard:Option (Nat×Bool)
 op:ba
def wanted (i:bC) (env:Env):Option Bool:=
 match i.guard with
 |none=>some true
 |some (j,want)=>match env.get j with
  | .bool b=>some (b==want)
  | .dI (.tuple ⟨[]⟩)=>some false
  | _=>none
def bh (P:Program):List bC→Env→aw→(Env→aw→Prop)→(I→aw→Prop)→Prop
 |[],env,H,K,_=>K env H
 |i::l,env,H,K,Rp=>match wanted i env with
  |some true=>gH P i.op env H (fun v av=>bh P l (env.put i.dst v) av K Rp) Rp
  |some false=>bh P l (env.put i.dst .undef) H K Rp
  |none=>False
def I.rows:I→List (List I)
 | .ak _ rows=>rows
 | _=>[]
def eB:List bC→List I→List bC
 |[],_=>[]
 |⟨d,g,.io f args⟩::l,r::aN=>⟨d,g,.vw f args r⟩::eB l aN
 |⟨d,g,.j8 x args⟩::l,r::aN=>⟨d,g,.vx x args r⟩::eB l aN
 |⟨d,g,.rM T size f args⟩::l,r::aN=>⟨d,g,.w9 T size f args (I.rows r)⟩::eB l aN
 |i::l,aN=>i::eB l aN
inductive bu where
 |skip
 |region (ops:List bC) (draw:Bool)
 |seq (a b:bu)
 |cond (c:aH) (a b:bu)
 |block (id:Nat) (body:bu)
 |loop (body:bu)
 |exit (id:Nat)
 |ret
 |sk (d:Nat) (f:FuncId) (cap:List aH)
inductive Item where
 |c (c:bu)
 |aV (id:Nat)
 |round (eT:Nat→Env→aw→Prop) (m0:Nat)
def oW (id:Nat):List Item→Option (List Item)
 | .aV j::k=>if j=id then some k else oW id k
 | _::k=>oW id k
 |[]=>none
inductive bj where
 |t (n:Nat)
 |cell (agg:Bool) (n:Nat) (addr:Nat)
def bj.aC (env:Env) (H:aw):bj→Option I
 | .t n=>some (env.get n)
 | .cell agg n a=>bL (.load agg n (.t a)) env H
def results (aN:List bj) (env:Env) (H:aw):Option I:=
 match aN with
 |[r]=>r.aC env H
 |aN=>(aN.mapM (bj.aC env H)).map .cV
def bu.j7 (t:Nat):bu→Bool
 | .region ops _=>ops.all fun i=>i.dst !=some t
 | .seq a b=>bu.j7 t a&&bu.j7 t b
 | .cond _ a b=>bu.j7 t a&&bu.j7 t b
 | .block _ b=>bu.j7 t b
 | .loop b=>bu.j7 t b
 | .sk d _ _=>d !=t
 | _=>true
def Item.j7 (t:Nat):Item→Bool
 | .c e=>e.j7 t
 | .aV _=>true
 | .round _ _=>false
def sX (P:Program) (f:FuncId) (fJ:List I) (x:I) (H:aw) (Q:aw→Prop):Prop:=
 ∀(m:Mem) (ak:List Value) (jY:Value),m.H=H→bG m→aM m fJ ak→aK m x jY→
  CallsD P f ⟨ak⟩ (.panicking [{v:=jY,recovered:=false}]) m.w fun e pQ w'=>(∃v,e= .returned v)∧pQ= .panicking [{v:=jY,recovered:=true}]∧∃av fI cu,bG ⟨w',av,fI,cu⟩∧bH m ⟨w',av,fI,cu⟩∧Q av
def zM (P:Program) (f:FuncId) (fJ:List I):Prop:=
 ∀(m:Mem) (ak:List Value),bG m→aM m fJ ak→CallsD P f ⟨ak⟩ .returning m.w fun e pQ w'=>(∃v,e= .returned v)∧pQ= .returning∧∃fI cu,bG ⟨w',m.H,fI,cu⟩∧bH m ⟨w',m.H,fI,cu⟩
inductive ci (P:Program) (aN:List bj):(Out→aw→Prop)→List Item→Env→aw→Prop
 |done {R:Out→aw→Prop}{env H v}(ad:aX.results aN env H=some v) (h:R (.ret v) H):ci P aN R [] env H
 |ret {R:Out→aw→Prop}{k env H v}(ad:aX.results aN env H=some v) (h:R (.ret v) H):ci P aN R (.c .ret::k) env H
 |skip {R:Out→aw→Prop}{k env H}(h:ci P aN R k env H):ci P aN R (.c .skip::k) env H
 |xT {R:Out→aw→Prop}{id k env H}(h:ci P aN R k env H):ci P aN R (.aV id::k) env H
 |seq {R:Out→aw→Prop}{a b k env H}(h:ci P aN R (.c a:: .c b::k) env H):ci P aN R (.c (.seq a b)::k) env H
 |block {R:Out→aw→Prop}{id body k env H}(h:ci P aN R (.c body:: .aV id::k) env H):ci P aN R (.c (.block id body)::k) env H
 |exit {R:Out→aw→Prop}{id k eX env H}(hk:oW id k=some eX) (h:ci P aN R eX env H):ci P aN R (.c (.exit id)::k) env H
 |cond {R:Out→aw→Prop}{c a b k env H t}(ah:c.aC env= .bool t) (h1:t=true→ci P aN R (.c a::k) env H) (J:t=false→ci P aN R (.c b::k) env H):ci P aN R (.c (.cond c a b)::k) env H
 |region {R:Out→aw→Prop}{ops draw k env H}(anns:List I) (K:Env→aw→Prop) (h:bh P (eB ops anns) env H K (fun v av=>R (.dW v) av)) (dz: ∀a7 av,K a7 av→ci P aN R k a7 av):ci P aN R (.c (.region ops draw)::k) env H
 |loop {R:Out→aw→Prop}{body k env H}(eT:Nat→Env→aw→Prop) (m:Nat) (aW:eT m env H) (h: ∀aU a7 av,eT aU a7 av→ci P aN R (.c body:: .round eT aU::k) a7 av):ci P aN R (.c (.loop body)::k) env H
 |round {R:Out→aw→Prop}{eT m0 k env H}(m:Nat) (aW:eT m env H) (h1:m<m0):ci P aN R (.round eT m0::k) env H
 |conv {R:Out→aw→Prop}{k env H}(S:Env→aw→Prop) (an: ∀m:Mem,m.H=H→bG m→∃a7 av fI cu,S a7 av∧bG ⟨m.w,av,fI,cu⟩∧bH m ⟨m.w,av,fI,cu⟩∧∀j v,aK m (env.get j) v→aK ⟨m.w,av,fI,cu⟩ (a7.get j) v) (h: ∀a7 av,S a7 av→ci P aN R k a7 av):ci P aN R k env H
 |xw {R:Out→aw→Prop}{k env a7 H}(he: ∀j,cR (env.get j) (a7.get j)) (h:ci P aN R k a7 H):ci P aN R k env H
 |sk {R:Out→aw→Prop}{d:Nat}{f:FuncId}{cap:List aH}{k:List Item}{env:Env}{H:aw}(nQ:Out→aw→Prop) (kt:Env) (AZ: ∀j,cR (env.get j) (kt.get j)) (hk: ∀p∈kt,k.all (Item.j7 p.1)=true) (bw: ∀p∈kt,d≠p.1) (ah:k.all (fun i=>match i with| .round _ _=>false| _=>true)=true)
  (aO:cT P f=true) (AX:zM P f (cap.map (aH.aC env))) (A7: ∀v av,nQ (.ret v) av→R (.ret v) av)
  (A6: ∀x av,nQ (.dW x) av→sX P f (cap.map (aH.aC env)) x av fun df=> ∃v,aX.results aN kt df=some v∧R (.ret v) df)
  (h:ci P aN nQ k ((d,.fn f (cap.map (aH.aC env)))::env) H):ci P aN R (.c (.sk d f cap)::k) env H
variable {P:Program}{aN:List bj}{R:Out→aw→Prop}
theorem ci.kG {ops draw k env H}(anns:List I) (h:bh P (eB ops anns) env H (fun a7 av=>ci P aN R k a7 av) (fun v av=>R (.dW v) av)):ci P aN R (.c (.region ops draw)::k) env H:=
 ci.region anns _ h fun _ _ h=>h
theorem bh.nil {env H K Rp}(h:K env H):bh P [] env H K Rp:=h
theorem bh.step {i l env H K Rp}(hw:wanted i env=some true) (h:gH P i.op env H (fun v av=>bh P l (env.put i.dst v) av K Rp) Rp):bh P (i::l) env H K Rp:=by
 simp only[bh,hw]; exact h
theorem bh.skip {i l env H K Rp}(hw:wanted i env=some false) (h:bh P l (env.put i.dst .undef) H K Rp):bh P (i::l) env H K Rp:=by
 simp only[bh,hw]; exact h
theorem bh.nM {i l env H K Rp v}(hw:wanted i env=some true) (ad:bL i.op env H=some v) (h:bh P l (env.put i.dst v) H K Rp):bh P (i::l) env H K Rp:=
 bh.step hw (.gU (.cP v) (.pure ad) fun _ _=>h)
theorem bh.uC {i l env H K Rp}(d:D) (hw:wanted i env=some true) (bw:ed P i.op env H d) (h: ∀x,d.fresh x H→bh P l (env.put i.dst (d.val x)) (d.heap H x) K Rp):bh P (i::l) env H K Rp:=
 bh.step hw (.gU d bw h)
end Go.aX
namespace Go.aX
open Go
theorem oL (w:World) (o:Obj) (i:Nat) (h:i<w.heap.size):(w.alloc o).heap[i]? =w.heap[i]? :=by
 show (w.heap.push o)[i]? = _
 rw[Array.getElem?_push,if_neg (by omega)]
theorem sx (w:World) (o:Obj):(w.alloc o).heap[w.heap.size]? =some o:=by
 show (w.heap.push o)[w.heap.size]? = _
 rw[Array.getElem?_push,if_pos rfl]
theorem bH.hid {m:Mem}{w':World}(h1:w'.os=m.w.os) (J:w'.tape=m.w.tape) (aA:w'.output=m.w.output) (bz:m.w.heap.size≤w'.heap.size) (bZ: ∀b,b<m.w.heap.size→w'.heap[b]? =m.w.heap[b]?):bH m {m with w:=w'} where
 os:=h1
 tape:=J
 output:=aA
 size:=bz
 T:=aT4 _
 block:=fun b hb h hA=>⟨bZ b hb,h,hA⟩
 cell:=fun b o an=>⟨⟨aZ9 an.lt bz,an.aV,an.tok⟩,World.cell?_of_block (a:=⟨b,o,none⟩) (bZ b an.lt)⟩
 tok:=fun t c3 _ h=>⟨c3,h,aT4 _,rfl,fun _=>rfl⟩
theorem ad0 {w w':World}{base:Nat}{e:TypeId}{size n:Nat}{v:Value}{xs:List Value}(h:w.ownsRow base e size v n xs) (hk: ∀b,v.dV=some b→w'.heap[b]? =w.heap[b]?):w'.ownsRow base e size v n xs:=by
 refine⟨h.1,?_⟩
 rcases h.2 with bb|⟨g,cap,cur,rfl,hb,D3,rest⟩
 ·exact .inl bb
 ·exact .inr ⟨g,cap,cur,rfl,hb,by rw[hk g (by simp [Value.dV])]; exact D3,rest⟩
theorem ac9 {w w':World}{e:TypeId}{size n:Nat}{v:Value}{xs:List Value}(h:w.za e size v n xs) (hk: ∀b,v.dV=some b→w'.heap[b]? =w.heap[b]?):w'.za e size v n xs:=by
 refine⟨h.1,?_⟩
 rcases h.2 with bb|⟨g,p,cap,cur,rfl,D3,rest⟩
 ·exact .inl bb
 ·exact .inr ⟨g,p,cap,cur,rfl,by rw[hk g (by simp [Value.dV])]; exact D3,rest⟩
theorem ad1 {w:World}{i:bB}{v:Value}{xs:List Value}(h:w.qB i v xs):w.ownsRow 0 i.ty i.size v i.len xs∨w.za i.ty i.size v i.len xs∨∃b es nr,v= .map (some b)∧w.heap[b]? =some (.map es nr)∧xs=es.toList.flatMap fun e=>[e.key,e.val]:=by
 obtain⟨ty,size,n,ver,kq⟩:=i
 cases kq with
 |none=>exact .inl h
 |some rows=>cases n with
  |zero=>exact .inr (.inl h)
  |succ n=>exact .inr (.inr h)
theorem w8 {w w':World}{i:bB}{v:Value}{xs:List Value}(h:w.qB i v xs) (hk: ∀b,v.dV=some b→w'.heap[b]? =w.heap[b]?):w'.qB i v xs:=by
 obtain⟨ty,size,n,ver,kq⟩:=i
 cases kq with
 |none=>exact ad0 h hk
 |some rows=>cases n with
  |zero=>exact ac9 h hk
  |succ n=>
   obtain⟨b,es,nr,rfl,J,aA⟩:=h
   exact⟨b,es,nr,rfl,(hk b rfl).trans J,aA⟩
theorem _root_.Go.World.qB.lt {w:World}{i:bB}{v:Value}{xs:List Value}(h:w.qB i v xs) (b:Nat) (hb:v.dV=some b):0≤b∧b<w.heap.size:=by
 rcases ad1 h with h|h|⟨c,es,nr,rfl,J,_⟩
 ·refine h.lt b ?_
  rcases h.2 with ⟨rfl,_⟩|⟨g,cap,cur,rfl,_⟩
  ·simp [Value.dV]at hb
  ·exact hb
 ·rcases h.2 with ⟨rfl,_⟩|⟨g,p,cap,cur,rfl,bm,_⟩
  ·simp [Value.dV]at hb
  ·simp only[Value.dV,Option.some.injEq]at hb
   subst hb
   exact⟨aT8 _,(Array.getElem?_eq_some_iff.1 bm).1⟩
 ·simp only[Value.dV,Option.some.injEq]at hb
  subst hb
  exact⟨aT8 _,(Array.getElem?_eq_some_iff.1 J).1⟩
theorem _root_.Go.World.qB.alloc {w:World}{i:bB}{v:Value}{xs:List Value}(h:w.qB i v xs) (o:Obj):(w.alloc o).qB i v xs:=
 w8 h fun b hb=>oL w o b (h.lt b hb).2
theorem bG.hid {m:Mem}(r:bG m){w':World}(h1:w'.os=m.w.os) (J:w'.tape=m.w.tape) (aA:w'.output=m.w.output) (bz:m.w.heap.size≤w'.heap.size) (bZ: ∀b,b<m.w.heap.size→w'.heap[b]? =m.w.heap[b]?):bG {m with w:=w'} where
 kr:=(pd.aC (bH.hid h1 J aA bz bZ) r.kr r.ks).1
 ks:=(pd.aC (bH.hid h1 J aA bz bZ) r.kr r.ks).2
 aV:=fun b T cs hb=>by
  obtain⟨l,aj,aq,bD⟩:=r.aV b T cs hb
  have cL:b<m.w.heap.size:=(Array.getElem?_eq_some_iff.1 aj).1
  exact⟨l,(bZ b cL).trans aj,aM.aC (bH.hid h1 J aA bz bZ) cs l aq,bD⟩
 tok:=fun t i aF=>by
  obtain⟨br,bA,⟨xs,cy,gT⟩,eR⟩:=r.tok t i aF
  exact⟨br,bA,⟨xs,w8 cy fun b hb=>bZ b (cy.lt b hb).2,fun rows ab=>⟨aM.aC (bH.hid h1 J aA bz bZ) _ _ (gT rows ab).1,(gT rows ab).2⟩⟩,eR⟩
theorem bH.drew (m:Mem):bH m {m with w:=m.w.drew}:=bH.hid rfl rfl rfl (aT4 _) fun _ _=>rfl
theorem bG.drew {m:Mem}(r:bG m):bG {m with w:=m.w.drew}:=r.hid rfl rfl rfl (aT4 _) fun _ _=>rfl
theorem bH.alloc (m:Mem) (o:Obj):bH m {m with w:=m.w.alloc o}:=bH.hid rfl rfl rfl (by simp) fun b hb=>oL m.w o b hb
theorem bG.alloc {m:Mem}(r:bG m) (o:Obj):bG {m with w:=m.w.alloc o}:=r.hid rfl rfl rfl (by simp) fun b hb=>oL m.w o b hb
theorem sb {m:Mem}(r:bG m){b T cs}(h:m.H.aV b=some (T,cs)):b<m.w.heap.size:=by
 obtain⟨l,aj,_⟩:=r.aV b T cs h
 exact (Array.getElem?_eq_some_iff.1 aj).1
theorem vY {m:Mem}(r:bG m):m.H.aV m.w.heap.size=none:=by
 cases h:m.H.aV m.w.heap.size with
 |none=>rfl
 |some x=>have:=sb r (b:=m.w.heap.size) (T:=x.1) (cs:=x.2) h; omega
theorem ua {m:Mem}(r:bG m){t i b}(h:m.H.tok t=some i) (hb:(m.L t).dV=some b):b<m.w.heap.size:=by
 obtain⟨_,_,⟨xs,cy,_⟩,_⟩:=r.tok t i h
 exact (cy.lt b hb).2
theorem qL {m:Mem}(r:bG m):m.H.tok m.T=none:=by
 cases h:m.H.tok m.T with
 |none=>rfl
 |some i=>have:=(r.tok _ _ h).1; omega
def Mem.bN (m:Mem) (T:TypeId) (cs:List I) (l:List Value):Mem:={m with w:=m.w.alloc (.cells ⟨l⟩ T),H:=m.H.cc m.w.heap.size T cs}
theorem bH.bN (m:Mem) (T:TypeId) (cs:List I) (l:List Value):bH m (m.bN T cs l) where
 os:=rfl
 tape:=rfl
 output:=rfl
 size:=by simp [Mem.bN]
 T:=aT4 _
 block:=fun b hb h hA=>⟨oL m.w _ b hb,by simp only[Mem.bN,aw.cc]; rw[if_neg (by omega)]; exact h,hA⟩
 cell:=fun b o an=>⟨⟨by have:=an.lt; simp [Mem.bN]; omega,by have:=an.lt; simp only[Mem.bN,aw.cc]; rw[if_neg (by omega)]; exact an.aV,an.tok⟩,World.cell?_of_block (a:=⟨b,o,none⟩) (oL m.w _ b an.lt)⟩
 tok:=fun t c3 _ h=>⟨c3,h,aT4 _,rfl,fun _=>rfl⟩
theorem bG.bN {m:Mem}(r:bG m){T:TypeId}{cs:List I}{l:List Value}(aE:aM m cs l) (af: ∀v∈l,v.oneCell'=true):bG (m.bN T cs l) where
 kr:=(pd.aC (bH.bN m T cs l) r.kr r.ks).1
 ks:=(pd.aC (bH.bN m T cs l) r.kr r.ks).2
 aV:=fun b cu cn hb=>by
  simp only[Mem.bN,aw.cc]at hb
  by_cases e:b=m.w.heap.size
  ·rw[if_pos e]at hb
   simp only[Option.some.injEq,Prod.mk.injEq]at hb
   obtain⟨rfl,rfl⟩:=hb
   subst e
   exact⟨l,sx m.w _,aM.aC (bH.bN m _ _ l) _ l aE,af⟩
  ·rw[if_neg e]at hb
   obtain⟨bM,aj,aq,bD⟩:=r.aV b cu cn hb
   exact⟨bM,(oL m.w _ b (sb r hb)).trans aj,aM.aC (bH.bN m _ _ l) _ bM aq,bD⟩
 tok:=fun t i aF=>by
  obtain⟨br,bA,⟨xs,cy,gT⟩,eR⟩:=r.tok t i aF
  refine⟨br,bA,⟨xs,cy.alloc _,fun rows ab=>⟨aM.aC (bH.bN m _ _ l) _ _ (gT rows ab).1,(gT rows ab).2⟩⟩,fun b hb=> ?_⟩
  obtain⟨g1,g2⟩:=eR b hb
  have:=ua r aF hb
  exact⟨by simp only[Mem.bN,aw.cc]; rw[if_neg (by omega)]; exact g1,g2⟩
def Mem.bf (m:Mem) (w':World) (v:Value) (o:bB):Mem:=⟨w',m.H.b7 m.T o,fun x=>if x=m.T then v else m.L x,m.T+1⟩
theorem bH.bf {m:Mem}(r:bG m){w':World}{v:Value}{o:bB}(h1:w'.os=m.w.os) (J:w'.tape=m.w.tape) (aA:w'.output=m.w.output) (bz:m.w.heap.size≤w'.heap.size) (bZ: ∀b,b<m.w.heap.size→w'.heap[b]? =m.w.heap[b]?)
  (ad: ∀b,v.dV=some b→m.w.heap.size≤b):bH m (m.bf w' v o) where
 os:=h1
 tape:=J
 output:=aA
 size:=bz
 T:=by simp [Mem.bf]
 block:=fun b hb h hA=>⟨bZ b hb,h,fun t i aF e=>by
  simp only[Mem.bf,aw.b7]at aF e
  by_cases eC:t=m.T
  ·rw[if_pos eC]at e
   have:=ad b e
   omega
  ·rw[if_neg eC]at e aF
   exact hA t i aF e⟩
 cell:=fun b c an=>⟨⟨aZ9 an.lt bz,an.aV,fun t i aF e=>by
  simp only[Mem.bf,aw.b7]at aF e
  by_cases eC:t=m.T
  ·rw[if_pos eC]at e
   have:=ad b e
   have:=an.lt
   omega
  ·rw[if_neg eC]at e aF
   exact an.tok t i aF e⟩,World.cell?_of_block (a:=⟨b,c,none⟩) (bZ b an.lt)⟩
 tok:=fun t c3 aF h=>by
  simp only[Mem.bf,aw.b7]at h ⊢
  rw[if_neg (by omega)]at h ⊢
  exact⟨c3,h,aT4 _,rfl,fun _=>rfl⟩
theorem bG.bf {m:Mem}(r:bG m){w':World}{v:Value}{o:bB}(h1:w'.os=m.w.os) (J:w'.tape=m.w.tape) (aA:w'.output=m.w.output) (bz:m.w.heap.size≤w'.heap.size) (bZ: ∀b,b<m.w.heap.size→w'.heap[b]? =m.w.heap[b]?)
  (ad: ∀b,v.dV=some b→m.w.heap.size≤b) (an:o.size≠0) (af: ∃xs,w'.qB o v xs∧∀rows,o.kq=some rows→aM (m.bf w' v o) rows.flatten xs∧(∀r∈rows,r.length=o.size)∧∀v∈xs,v.oneCell'=true):bG (m.bf w' v o) where
 kr:=(pd.aC (bH.bf r h1 J aA bz bZ ad) r.kr r.ks).1
 ks:=(pd.aC (bH.bf r h1 J aA bz bZ ad) r.kr r.ks).2
 aV:=fun b T cs hb=>by
  obtain⟨l,aj,aq,bD⟩:=r.aV b T cs hb
  exact⟨l,(bZ b (sb r hb)).trans aj,aM.aC (bH.bf r h1 J aA bz bZ ad) cs l aq,bD⟩
 tok:=fun t i aF=>by
  simp only[Mem.bf,aw.b7]at aF ⊢
  by_cases eC:t=m.T
  ·rw[if_pos eC]at aF
   simp only[Option.some.injEq]at aF
   subst aF
   refine⟨by omega,an,by rw[if_pos eC]; exact af,fun b hb=> ?_⟩
   rw[if_pos eC]at hb
   have ck:=ad b hb
   refine⟨?_,fun dk c3 fL gd=> ?_⟩
   ·cases U:m.H.aV b with
    |none=>rfl
    |some x=>have:=sb r (T:=x.1) (cs:=x.2) U; omega
   ·by_cases ya:dk=m.T
    ·omega
    ·rw[if_neg ya]at fL gd
     have:=ua r fL gd
     omega
  ·rw[if_neg eC]at aF
   obtain⟨br,bA,⟨xs,cy,gT⟩,eR⟩:=r.tok t i aF
   refine⟨by omega,bA,⟨xs,by rw[if_neg eC]; exact w8 cy fun b hb=>bZ b (cy.lt b hb).2,fun rows ab=>⟨aM.aC (bH.bf r h1 J aA bz bZ ad) _ _ (gT rows ab).1,(gT rows ab).2⟩⟩,fun b hb=> ?_⟩
   rw[if_neg eC]at hb
   obtain⟨g1,g2⟩:=eR b hb
   refine⟨g1,fun dk c3 fL gd=> ?_⟩
   by_cases ya:dk=m.T
   ·rw[if_pos ya]at gd
    have:=ad b gd
    have:=(cy.lt b hb).2
    omega
   ·rw[if_neg ya]at fL gd
    exact g2 dk c3 fL gd
def Mem.ic (m:Mem) (w':World) (b:Nat) (T:TypeId) (cs:List I):Mem:={m with w:=w',H:=m.H.cc b T cs}
theorem bH.ic {m:Mem}(r:bG m){w':World}{b:Nat}{T s0:TypeId}{cs qf:List I}(hb:m.H.aV b=some (s0,qf)) (h1:w'.os=m.w.os) (J:w'.tape=m.w.tape) (aA:w'.output=m.w.output) (bz:w'.heap.size=m.w.heap.size) (bZ: ∀k,k≠b→w'.heap[k]? =m.w.heap[k]?):bH m (m.ic w' b T cs) where
 os:=h1
 tape:=J
 output:=aA
 size:=by simp [Mem.ic,bz]
 T:=aT4 _
 block:=fun k hk h hA=>by
  have dP:k≠b:=fun e=>by subst e; rw[h]at hb; cases hb
  exact⟨bZ k dP,by simp only[Mem.ic,aw.cc]; rw[if_neg dP]; exact h,hA⟩
 cell:=fun k o an=>by
  have dP:k≠b:=fun e=>by subst e; have:=an.aV; rw[this]at hb; cases hb
  exact⟨⟨by rw[show (m.ic w' b T cs).w=w' from rfl,bz]; exact an.lt,by simp only[Mem.ic,aw.cc]; rw[if_neg dP]; exact an.aV,an.tok⟩,World.cell?_of_block (a:=⟨k,o,none⟩) (bZ k dP)⟩
 tok:=fun t c3 _ h=>⟨c3,h,aT4 _,rfl,fun _=>rfl⟩
theorem bG.ic {m:Mem}(r:bG m){w':World}{b:Nat}{T s0:TypeId}{cs qf:List I}{l:List Value}(hb:m.H.aV b=some (s0,qf)) (h1:w'.os=m.w.os) (J:w'.tape=m.w.tape) (aA:w'.output=m.w.output) (bz:w'.heap.size=m.w.heap.size) (bZ: ∀k,k≠b→w'.heap[k]? =m.w.heap[k]?)
  (ef:w'.heap[b]? =some (.cells ⟨l⟩ T (0,0))) (aE:aM m cs l) (af: ∀v∈l,v.oneCell'=true):bG (m.ic w' b T cs) where
 kr:=(pd.aC (bH.ic r hb h1 J aA bz bZ) r.kr r.ks).1
 ks:=(pd.aC (bH.ic r hb h1 J aA bz bZ) r.kr r.ks).2
 aV:=fun k cu cn hk=>by
  simp only[Mem.ic,aw.cc]at hk
  by_cases e:k=b
  ·rw[if_pos e]at hk
   simp only[Option.some.injEq,Prod.mk.injEq]at hk
   obtain⟨rfl,rfl⟩:=hk
   subst e
   exact⟨l,ef,aM.aC (bH.ic r hb h1 J aA bz bZ) _ l aE,af⟩
  ·rw[if_neg e]at hk
   obtain⟨bM,aj,aq,bD⟩:=r.aV k cu cn hk
   exact⟨bM,(bZ k e).trans aj,aM.aC (bH.ic r hb h1 J aA bz bZ) _ bM aq,bD⟩
 tok:=fun t i aF=>by
  obtain⟨br,bA,⟨xs,cy,gT⟩,eR⟩:=r.tok t i aF
  have dP: ∀k,(m.L t).dV=some k→k≠b:=fun k hk e=>by subst e; have:=(eR k hk).1; rw[this]at hb; cases hb
  refine⟨br,bA,⟨xs,w8 cy fun k hk=>bZ k (dP k hk),fun rows ab=>⟨aM.aC (bH.ic r hb h1 J aA bz bZ) _ _ (gT rows ab).1,(gT rows ab).2⟩⟩,fun k hk=> ?_⟩
  obtain⟨g1,g2⟩:=eR k hk
  exact⟨by simp only[Mem.ic,aw.cc]; rw[if_neg (dP k hk)]; exact g1,g2⟩
def Mem.gt (m:Mem) (w':World) (t:Nat) (v:Value) (o:bB):Mem:={m with w:=w',H:=m.H.b7 t o,L:=fun x=>if x=t then v else m.L x}
structure Grows0 (m:Mem) (w':World) (t:Nat) (i:bB) (v:Value) (o:bB):Prop where
 os:w'.os=m.w.os
 tape:w'.tape=m.w.tape
 output:w'.output=m.w.output
 size:m.w.heap.size≤w'.heap.size
 block: ∀k,k<m.w.heap.size→(m.L t).dV≠some k→w'.heap[k]? =m.w.heap[k]?
 cell: ∀k c,(m.L t).dV=some k→c<i.n*i.size→w'.cell? ⟨k,c,none⟩=m.w.cell? ⟨k,c,none⟩
 own: ∀k,v.dV=some k→(m.L t).dV=some k∨m.w.heap.size≤k
 n:i.n≤o.n
 pN:o.size=i.size
 ty:o.ty=i.ty
 ver:i.ver≤o.ver
 same:o.ver=i.ver→v=m.L t
structure ov (m:Mem) (w':World) (t:Nat) (i:bB) (v:Value) (o:bB):Prop extends Grows0 m w' t i v o where
 row: ∃xs,w'.qB o v xs∧∀rows,o.kq=some rows→aM (m.gt w' t v o) rows.flatten xs∧(∀r∈rows,r.length=o.size)∧∀v∈xs,v.oneCell'=true
theorem bH.gt {m:Mem}(r:bG m){w':World}{t:Nat}{i:bB}{v:Value}{o:bB}(ae:m.H.tok t=some i) (g:Grows0 m w' t i v o):bH m (m.gt w' t v o) where
 os:=g.os
 tape:=g.tape
 output:=g.output
 size:=g.size
 T:=aT4 _
 block:=fun b hb h hA=>⟨g.block b hb (hA t i ae),h,fun dk c3 fL e=>by
  simp only[Mem.gt,aw.b7]at fL e
  by_cases eC:dk=t
  ·rw[if_pos eC]at e
   rcases g.own b e with e|e
   ·exact hA t i ae e
   ·omega
  ·rw[if_neg eC]at e fL
   exact hA dk c3 fL e⟩
 cell:=fun b c an=>by
  refine⟨⟨aZ9 an.lt g.size,an.aV,fun dk c3 fL e=> ?_⟩,?_⟩
  ·simp only[Mem.gt,aw.b7]at fL e
   by_cases eC:dk=t
   ·rw[if_pos eC]at e fL
    simp only[Option.some.injEq]at fL
    subst fL
    rcases g.own b e with e|e
    ·have:=an.tok t i ae e
     rw[g.pN]
     exact aZ9 this (aW1 _ g.n)
    ·have:=an.lt
     omega
   ·rw[if_neg eC]at e fL
    exact an.tok dk c3 fL e
  ·by_cases e:(m.L t).dV=some b
   ·exact g.cell b c e (an.tok t i ae e)
   ·exact World.cell?_of_block (a:=⟨b,c,none⟩) (g.block b an.lt e)
 tok:=fun dk c3 fL h=>by
  simp only[Mem.gt,aw.b7]at h ⊢
  by_cases eC:dk=t
  ·rw[if_pos eC]at h
   simp only[Option.some.injEq]at h
   subst h
   subst eC
   exact⟨i,ae,g.ver,g.pN,fun e=>by rw[if_pos rfl]; exact g.same e⟩
  ·rw[if_neg eC]at h
   exact⟨c3,h,aT4 _,rfl,fun _=>by rw[if_neg eC]⟩
theorem bG.gt {m:Mem}(r:bG m){w':World}{t:Nat}{i:bB}{v:Value}{o:bB}(ae:m.H.tok t=some i) (g:ov m w' t i v o):bG (m.gt w' t v o) where
 kr:=(pd.aC (bH.gt r ae g.toGrows0) r.kr r.ks).1
 ks:=(pd.aC (bH.gt r ae g.toGrows0) r.kr r.ks).2
 aV:=fun b T cs hb=>by
  obtain⟨l,aj,aq,bD⟩:=r.aV b T cs hb
  refine⟨l,(g.block b (sb r hb) fun e=> ?_).trans aj,aM.aC (bH.gt r ae g.toGrows0) cs l aq,bD⟩
  have:=((r.tok t i ae).2.2.2 b e).1
  have gd:m.H.aV b=some (T,cs):=hb
  rw[this]at gd
  cases gd
 tok:=fun dk c3 fL=>by
  have hk:=r.tok t i ae
  simp only[Mem.gt,aw.b7]at fL ⊢
  by_cases eC:dk=t
  ·rw[if_pos eC]at fL
   simp only[Option.some.injEq]at fL
   subst fL
   subst eC
   refine⟨hk.1,by rw[g.pN]; exact hk.2.1,by rw[if_pos rfl]; exact g.row,fun b hb=> ?_⟩
   rw[if_pos rfl]at hb
   have wH:=g.own b hb
   refine⟨?_,fun t2 i2 lO fN=> ?_⟩
   ·rcases wH with e|e
    ·exact (hk.2.2.2 b e).1
    ·cases U:m.H.aV b with
     |none=>rfl
     |some x=>have:=sb r (T:=x.1) (cs:=x.2) U; omega
   ·by_cases aq:t2=dk
    ·exact aq
    ·rw[if_neg aq]at lO fN
     rcases wH with e|e
     ·exact (hk.2.2.2 b e).2 t2 i2 lO fN
     ·have:=ua r lO fN
      omega
  ·rw[if_neg eC]at fL
   obtain⟨br,bA,⟨xs,cy,gT⟩,eR⟩:=r.tok dk c3 fL
   have dP: ∀b,(m.L dk).dV=some b→(m.L t).dV≠some b:=fun b hb e=>eC ((hk.2.2.2 b e).2 dk c3 fL hb)
   refine⟨br,bA,⟨xs,by rw[if_neg eC]; exact w8 cy fun b hb=>g.block b (cy.lt b hb).2 (dP b hb),fun rows ab=>⟨aM.aC (bH.gt r ae g.toGrows0) _ _ (gT rows ab).1,(gT rows ab).2⟩⟩,fun b hb=> ?_⟩
   rw[if_neg eC]at hb
   obtain⟨g1,g2⟩:=eR b hb
   refine⟨g1,fun t2 i2 lO fN=> ?_⟩
   by_cases aq:t2=t
   ·rw[if_pos aq]at fN
    rcases g.own b fN with e|e
    ·exact absurd e (dP b hb)
    ·have:=(cy.lt b hb).2
     omega
   ·rw[if_neg aq]at lO fN
    exact g2 t2 i2 lO fN
structure HSub (H av:aw):Prop where
 aV: ∀b x,H.aV b=some x→av.aV b=some x
 tok: ∀t x,H.tok t=some x→av.tok t=some x
theorem HSub.refl (H:aw):HSub H H:=⟨fun _ _ h=>h,fun _ _ h=>h⟩
theorem HSub.cc {H av:aw}{b:Nat}{T:TypeId}{cs:List I}(h:HSub H av) (hb:H.aV b=none):HSub H (av.cc b T cs):=
 ⟨fun x y e=>by simp only[aw.cc]; rw[if_neg (by intro a8; subst a8; rw[hb]at e; cases e)]; exact h.aV x y e,fun x y e=>h.tok x y e⟩
theorem HSub.b7 {H av:aw}{t:Nat}{o:bB}(h:HSub H av) (hb:H.tok t=none):HSub H (av.b7 t o):=
 ⟨fun x y e=>h.aV x y e,fun x y e=>by simp only[aw.b7]; rw[if_neg (by intro a8; subst a8; rw[hb]at e; cases e)]; exact h.tok x y e⟩
theorem HSub.vo {H av:aw}(h:HSub H av){b:Nat}(hb:av.aV b=none):H.aV b=none:=by
 cases e:H.aV b with
 |none=>rfl
 |some x=>rw[h.aV b x e]at hb; cases hb
theorem HSub.ME {H av:aw}(h:HSub H av){b:Nat}(hb:av.tok b=none):H.tok b=none:=by
 cases e:H.tok b with
 |none=>rfl
 |some x=>rw[h.tok b x e]at hb; cases hb
section
variable {w:World}{H av:aw}{L:Nat→Value}{T:Nat}
theorem lC.forget (a8:HSub H av){b o:Nat}(h:lC ⟨w,av,L,T⟩ b o):lC ⟨w,H,L,T⟩ b o:=
 ⟨h.lt,a8.vo h.aV,fun t i ae hb=>h.tok t i (a8.tok t i ae) hb⟩
mutual
theorem aK.forget (a8:HSub H av): ∀(a:I) (v:Value),aK ⟨w,av,L,T⟩ a v→aK ⟨w,H,L,T⟩ a v
 | .ec,_,_=>by simp only[aK]
 | .bool _,_,h=>by simp only[aK]at*; exact h
 | .int _ _,_,h=>by simp only[aK]at*; exact h
 | .str _,_,h=>by simp only[aK]at*; exact h
 | .dI _,_,h=>by simp only[aK]at*; exact h
 | .ptr _ _,_,h=>by simp only[aK]at*; exact h
 | .agg cs,_,h=>by simp only[aK]at*; obtain⟨l,aj,aq⟩:=h; exact⟨l,aj,aM.forget a8 cs l aq⟩
 | .cV cs,_,h=>by simp only[aK]at*; obtain⟨l,aj,aq⟩:=h; exact⟨l,aj,aM.forget a8 cs l aq⟩
 | .ak size rows,_,h=>by
  simp only[aK]at*
  obtain⟨a,len,cap,h1,J,aA,bz⟩:=h
  exact⟨a,len,cap,h1,J,aA,bz.imp id fun⟨b,o,g1,g2⟩=>⟨b,o,g1,dy.forget a8 size rows b o g2⟩⟩
 | .own t size rows,_,h=>by
  simp only[aK]at*
  obtain⟨⟨a,len,cap,h1,J,aA,bz⟩,bZ,ef⟩:=h
  exact⟨⟨a,len,cap,h1,J,aA,bz.imp id fun⟨b,o,g1,g2⟩=>⟨b,o,g1,dy.forget a8 size rows b o g2⟩⟩,bZ,fun i ae=>ef i (a8.tok t i ae)⟩
 | .cz t ver,_,h=>by
  simp only[aK]at*
  obtain⟨aW,bZ,ef⟩:=h
  exact⟨aW,bZ,fun i ae=>ef i (a8.tok t i ae)⟩
 | .mp t ver k,_,h=>by
  simp only[aK]at*
  obtain⟨aW,bZ,ef⟩:=h
  exact⟨aW,bZ,fun i ae=>ef i (a8.tok t i ae)⟩
 | .dL row off,_,h=>by
  simp only[aK]at*
  obtain⟨b,o,h1,J⟩:=h
  exact⟨b,o,h1,ez.forget a8 row b o J⟩
 | .fn f cs,_,h=>by simp only[aK]at*; obtain⟨l,aj,aq⟩:=h; exact⟨l,aj,aM.forget a8 cs l aq⟩
 | .gJ t a,_,h=>by simp only[aK]at*; obtain⟨x,aj,aq⟩:=h; exact⟨x,aj,aK.forget a8 a x aq⟩
theorem aM.forget (a8:HSub H av): ∀(az:List I) (l:List Value),aM ⟨w,av,L,T⟩ az l→aM ⟨w,H,L,T⟩ az l
 |[],_,h=>by simp only[aM]at*; exact h
 |a::az,_,h=>by simp only[aM]at*; obtain⟨v,ak,h1,J,aA⟩:=h; exact⟨v,ak,h1,aK.forget a8 a v J,aM.forget a8 az ak aA⟩
theorem ez.forget (a8:HSub H av): ∀(az:List I) (b o:Nat),ez ⟨w,av,L,T⟩ az b o→ez ⟨w,H,L,T⟩ az b o
 |[],_,_,_=>by simp only[ez]
 |a::az,b,o,h=>by
  simp only[ez]at*
  obtain⟨⟨v,h1,tA,J,aA⟩,bz⟩:=h
  exact⟨⟨v,h1,tA,lC.forget a8 J,aK.forget a8 a v aA⟩,ez.forget a8 az b (o+1) bz⟩
theorem dy.forget (a8:HSub H av) (size:Nat): ∀(aN:List (List I)) (b o:Nat),dy ⟨w,av,L,T⟩ size aN b o→dy ⟨w,H,L,T⟩ size aN b o
 |[],_,_,_=>by simp only[dy]
 |r::aN,b,o,h=>by
  simp only[dy]at*
  exact⟨h.1,ez.forget a8 r b o h.2.1,dy.forget a8 size aN b (o+size) h.2.2⟩
end
theorem bG.forget (a8:HSub H av) (h:bG ⟨w,av,L,T⟩):bG ⟨w,H,L,T⟩ where
 kr:=h.kr
 ks:=fun p hp=>⟨a8.vo (h.ks p hp).1,fun t i ae=>(h.ks p hp).2 t i (a8.tok t i ae)⟩
 aV:=fun b RA cs hb=>by
  obtain⟨l,aj,aq,bD⟩:=h.aV b RA cs (a8.aV b _ hb)
  exact⟨l,aj,aM.forget a8 _ _ aq,bD⟩
 tok:=fun t i ae=>by
  obtain⟨aj,aq,bD,da⟩:=h.tok t i (a8.tok t i ae)
  obtain⟨xs,Gk,Gl⟩:=bD
  refine⟨aj,aq,⟨xs,Gk,fun rows ab=>⟨aM.forget a8 _ _ (Gl rows ab).1,(Gl rows ab).2⟩⟩,fun b hb=> ?_⟩
  obtain⟨f1,f2⟩:=da b hb
  exact⟨a8.vo f1,fun dk c3 gB=>f2 dk c3 (a8.tok dk c3 gB)⟩
theorem bH.forget (a8:HSub H av){m:Mem}(h:bH m ⟨w,av,L,T⟩):bH m ⟨w,H,L,T⟩ where
 os:=h.os
 tape:=h.tape
 output:=h.output
 size:=h.size
 T:=h.T
 block:=fun b h1 J aA=>by
  obtain⟨aj,aq,bD⟩:=h.block b h1 J aA
  exact⟨aj,a8.vo aq,fun t i ae=>bD t i (a8.tok t i ae)⟩
 cell:=fun b o an=>by
  obtain⟨aj,aq⟩:=h.cell b o an
  exact⟨lC.forget a8 aj,aq⟩
 tok:=fun t c3 aF ae=>h.tok t c3 aF (a8.tok t c3 ae)
end
theorem HSub.oF (H:aw) (b:Nat):HSub (H.oF b) H:=⟨fun x y h=>by simp only[aw.oF]at h; by_cases e:x=b<;>simp [e]at h; exact h,fun _ _ h=>h⟩
def uB:I→Value→Bool
 | .bool b,.bool c=>b==c
 | .int k n,.int j c=>decide (k=j)&&decide (n=c)
 | .str s,.string b=>decide (b.data.toList=s)&&aV2 s.length maxLen
 | .dI (.slice none 0 0),.slice none 0 0=>true
 | .dI (.pointer none),.pointer none=>true
 | .dI .nilFunc,.nilFunc=>true
 | .dI .nilIface,.nilIface=>true
 | .dI (.map none),.map none=>true
 | .fn f [],.func (.func g) ⟨[]⟩ ⟨[]⟩=>f==g&&aW7 f iy
 | _,_=>false
def wk:List I→List Value→Bool
 |[],[]=>true
 |a::az,v::ak=>uB a v&&wk az ak
 | _,_=>false
def Ao:List I→Value→Bool
 |l,.agg ⟨ak⟩=>wk l ak
 |[a],v=>uB a v
 | _,_=>false
def cK:Operand→aH→Bool
 | .tmp t,.t n=>t==n
 | .const v,.c a=>uB a v
 | .func f,.c (.fn g [])=>f==g&&aW7 f iy
 | _,_=>false
def fD:List Operand→List aH→Bool
 |[],[]=>true
 |x::xs,y::dO=>cK x y&&fD xs dO
 | _,_=>false
def pn:Option Operand→Option aH→Bool
 |none,none=>true
 |some x,some y=>cK x y
 | _,_=>false
def nj (P:Program) (t:TypeId):Option Bool:=
 match P.underlying t with
 |some (.struct _)|some (.array ..)=>some true
 |some _=>some false
 |none=>none
def iq (P:Program) (t:TypeId):Option Nat:=(P.info? t).map (·.size)
def oP (P:Program) (t:TypeId) (agg:Bool) (n:Nat):Bool:=
 decide (nj P t=some agg)&&decide (iq P t=some n)&&(agg||n==1)&& !(n==0)
def jl (P:Program) (t:TypeId):Option TypeId:=
 match P.underlying t with
 |some (.slice e)=>some e
 | _=>none
def sV (P:Program) (t:TypeId) (zero:List I):Bool:=
 match (P.info? t).bind (·.zero) with
 |some z=>Ao zero z
 |none=>false
def yT (P:Program) (t:TypeId):Option TypeId:=
 match P.underlying t with
 |some (.map kt eC)=>(match P.underlying kt with|some .string=>some eC| _=>none)
 | _=>none
def Ev (P:Program) (t:TypeId) (z:I):Bool:=
 match yT P t with
 |some eC=>(match (P.info? eC).bind (·.zero) with
  |some (.int k n)=>(match z with| .int eX fU=>decide (k=eX)&&decide (n=fU)| _=>false)
  |some (.bool b)=>(match z with| .bool bJ=>b==bJ| _=>false)
  | _=>false)
 |none=>false
def wc (P:Program) (b6:Array Field):List (Nat×Operand)→List (Nat×Nat×aH)→Bool
 |[],[]=>true
 |(i,x)::ps,(off,size,y)::iU=>(match b6[i]? with
  |some f=>decide (f.offset=off)&&decide (iq P f.type=some size)
  |none=>false)&&cK x y&&wc P b6 ps iU
 | _,_=>false
def we (size:Nat):List (Nat×Operand)→List (Nat×Nat×aH)→Bool
 |[],[]=>true
 |(i,x)::ps,(off,pN,y)::iU=>decide (off=i*size)&&decide (pN=size)&&cK x y&&we size ps iU
 | _,_=>false
def sf:List (Nat×Operand)→List (Nat×aH)→Bool
 |[],[]=>true
 |(i,x)::ps,(j,y)::iU=>decide (i=j)&&cK x y&&sf ps iU
 | _,_=>false
def wS:Nat→List (Nat×aH)→Bool
 | _,[]=>true
 |k,(i,_)::ps=>decide (i=k)&&wS (k+1) ps
def ww (P:Program) (g:TypeId→Option (List lA)):Nat→List Field→Option (List lA)
 | _,[]=>some []
 |off,f::b6=>match g f.type with
  |some bx=>if f.offset=off∧f.name≠ "_" ∧iq P f.type=some bx.length∧bx≠[] then (ww P g (off+bx.length) b6).map (bx++ ·) else none
  |none=>none
def rs (P:Program):Nat→TypeId→Option (List lA)
 |0,_=>none
 |d+1,t=>match P.underlying t with
  |some .bool=>some [.b]
  |some (.int k)=>some [.i k]
  |some .string=>some [.s]
  |some (.struct b6)=>if P.stoodInHeld t then none else ww P (rs P d) 0 b6.toList
  | _=>none
def aO2 (P:Program) (t:TypeId):Bool:=match P.underlying t with|some .bool=>true| _=>false
def be (P:Program) (o:Op) (e:ba):Bool:=
 match o,e with
 | .move x,.fO y=>cK x y
 | .assign x,.fO y=>cK x y
 | .pick c a b,.pick cB cw bJ=>cK c cB&&cK a cw&&cK b bJ
 | .nilCheck x,.fB y=>cK x y
 | .box T x,.box cu y=>decide (T=cu)&&cK x y
 | .alloc T,.alloc cu zero=>decide (T=cu)&&sV P T zero
 | .build t parts,.build zero ps=>sV P t zero&&(match P.underlying t with
  |some (.struct b6)=>wc P b6 parts.toList ps&&(b6.toList.mapM (fun f=>(P.info? f.type).map fun i=>(f.offset,i.size))).isSome
  |some (.array _ e)=>(match iq P e with|some s=>we s parts.toList ps|none=>false)
  | _=>false)
 | .buildSlice t n parts,.eu T size fU zero ps=>decide (n=fU)&&decide (jl P t=some T)&&decide (iq P T=some size)&&sV P T zero&&decide (zero.length=size)&&aV2 (n*size) 65536&&sf parts.toList ps&&wS 0 ps&&decide (ps.length=n)&& !(size==0)
 | .buildSlice t n parts,.l4 T size fU zero ps=>decide (n=fU)&&decide (jl P t=some T)&&decide (iq P T=some size)&&sV P T zero&&decide (zero.length=size)&&aV2 (n*size) 65536&&sf parts.toList ps&&wS 0 ps&&decide (ps.length=n)&& !(size==0)
 | .buildSlice t n parts,.lF T size fU zero ps=>decide (n=fU)&&decide (jl P t=some T)&&decide (iq P T=some size)&&sV P T zero&&decide (zero.length=size)&&aV2 (n*size) 65536&&sf parts.toList ps&&wS 0 ps&&decide (ps.length=n)&& !(size==0)
 | .load t x,.load agg n y=>oP P t agg n&&cK x y
 | .load t x,.ib agg n y=>oP P t agg n&&cK x y
 | .load t x,.gq _ agg n y=>oP P t agg n&&cK x y
 | .load t x,.qz agg n y=>oP P t agg n&&cK x y
 | .store t a v,.store n cw bp=>decide (iq P t=some n)&&cK a cw&&cK v bp
 | .store t a v,.gF _ _ n cw bp=>decide (iq P t=some n)&&cK a cw&&cK v bp
 | .fieldAddr s x f,.nA off y=>cK x y&&(match P.underlying s with
  |some (.struct b6)=>(match b6[f]? with|some g=>decide (g.offset=off)&&(match iq P g.type with|some n=> !(n==0)|none=>false)|none=>false)
  | _=>false)
 | .field s x f,.field agg off n y=>cK x y&&(match P.underlying s with
  |some (.struct b6)=>(match b6[f]? with|some g=>decide (g.offset=off)&&oP P g.type agg n|none=>false)
  | _=>false)
 | .fieldAddr s x f,.iB off y=>cK x y&&(match P.underlying s with
  |some (.struct b6)=>(match b6[f]? with|some g=>decide (g.offset=off)&&(match iq P g.type with|some n=> !(n==0)|none=>false)|none=>false)
  | _=>false)
 | .indexAddr t x i,.gS size y j=>cK x y&&cK i j&&(match jl P t with|some e=>decide (iq P e=some size)|none=>false)
 | .indexAddr t x i,.hE size y j=>cK x y&&cK i j&&(match jl P t with|some e=>decide (iq P e=some size)|none=>false)
 | .indexAddr t x i,.me len size y j=>cK x y&&cK i j&&(match P.underlying t with|some (.array n e)=>decide (n=len)&&decide (iq P e=some size)| _=>false)
 | .index t x i,.iD agg len size y j=>cK x y&&cK i j&&(match P.underlying t with|some (.array n e)=>decide (n=len)&&oP P e agg size| _=>false)
 | .index t x i,.gp y j=>cK x y&&cK i j&&(match P.underlying t with|some .string=>true| _=>false)
 | .binOp op t x y _,.bin ES cE gO=>decide (op=ES)&&cK x cE&&cK y gO
 | .binOp op t x y _,.p7 ES cE gO=>decide (op=ES)&&cK x cE&&cK y gO&&(match P.underlying t with|some .bool=>true| _=>false)
 | .binOp op t x y _,.ny neg T bx cE gO=>decide (op=(if neg then .neq else .eql))&&decide (t=T)&&cK x cE&&cK y gO&&decide (rs P 8 t=some bx)&& !(P.eqGuardType P.depth t)&&(match P.underlying t with|some (.struct _)=>true| _=>false)
 | .binOp op t x y _,.oO neg cE=>decide (op=(if neg then .neq else .eql))&&cK x cE&&(match y with| .const (.slice none 0 0)=>true| _=>false)&&(match jl P t with|some _=>true|none=>false)&& !(P.eqGuardType P.depth t)
 | .binOp op t x y _,.qD neg cE=>decide (op=(if neg then .neq else .eql))&&cK x cE&&(match y with| .const (.pointer none)=>true| _=>false)&&(match P.underlying t with|some (.pointer _)=>true| _=>false)&& !P.eqGuardType P.depth t
 | .makeSlice t l c,.mR T size bytes zero x=>cK l x&&cK c x&&decide (jl P t=some T)&&decide (iq P T=some size)&&sV P T zero&&(match P.info? T with|some i=>decide (i.bytes=bytes)|none=>false)
 | .makeMap t none,.mkMap T=>decide (t=T)
 | .lookup t x k ok,.hs vs z y j=>decide (ok=vs)&&cK x y&&cK k j&&Ev P t z
 | .mapUpdate t x k v,.mQ y j u=>cK x y&&cK k j&&cK v u&&(yT P t).isSome
 | .unOp .not _ x,.not y=>cK x y
 | .unOp .neg _ x,.neg y=>cK x y
 | .convert s d x,.conv k y=>cK x y&&(match P.underlying s with|some (.int _)=>true| _=>false)&&(match P.underlying d with|some (.int j)=>decide (j=k)| _=>false)
 | .call {callee:= .builtin .len,args,argTypes},.len y=>(match args.toList with|[x]=>cK x y| _=>false)&&(match argTypes.toList with|[t]=>(match P.underlying t with|some (.slice _)=>true| _=>false)| _=>false)
 | .call {callee:= .builtin .len,args,argTypes},.hV y=>(match args.toList with|[x]=>cK x y| _=>false)&&(match argTypes.toList with|[t]=>(match P.underlying t with|some (.slice _)=>true| _=>false)| _=>false)
 | .call {callee:= .builtin .len,args,argTypes},.kV y=>(match args.toList with|[x]=>cK x y| _=>false)&&(match argTypes.toList with|[t]=>(match P.underlying t with|some .string=>true| _=>false)| _=>false)
 | .call {callee:= .builtin .len,args,argTypes},.pE n=>(match args.toList with|[_]=>true| _=>false)&&(match argTypes.toList with|[t]=>(match P.underlying t with|some (.array m _)=>decide (m=n)|some (.pointer a)=>(match P.underlying a with|some (.array m _)=>decide (m=n)| _=>false)| _=>false)| _=>false)
 | .call {callee:= .builtin .min,args,..},.j4 false dO=>fD args.toList dO
 | .call {callee:= .builtin .max,args,..},.j4 true dO=>fD args.toList dO
 | .call {callee:= .builtin .append,args,argTypes},.append T size bytes x y=>fD args.toList [x,y]&&(match argTypes.toList with
  |[t,u]=>decide (jl P t=some T)&&(decide (jl P u=some T)||(match P.underlying u,P.underlying T with|some .string,some (.int .u8)=>true| _,_=>false))&&(match P.info? T with|some i=>decide (i.size=size)&&decide (i.bytes=bytes)&&(match i.zero with|some z=>decide (z.cells.size=size)|none=>false)|none=>false)
  | _=>false)
 | .call {callee:= .builtin .append,args,argTypes},.lD T size bytes x y=>fD args.toList [x,y]&&(match argTypes.toList with
  |[t,u]=>decide (jl P t=some T)&&(decide (jl P u=some T)||(match P.underlying u,P.underlying T with|some .string,some (.int .u8)=>true| _,_=>false))&&(match P.info? T with|some i=>decide (i.size=size)&&decide (i.bytes=bytes)&&(match i.zero with|some z=>decide (z.cells.size=size)|none=>false)|none=>false)
  | _=>false)
 | .slice t x cm ae none,.iW y mg gB=>cK x y&&pn cm mg&&pn ae gB&&(match P.underlying t with|some .string=>true| _=>false)
 | .slice t x cm ae lp,.gL size y mg gB Z7=>cK x y&&pn cm mg&&pn ae gB&&pn lp Z7&&(match jl P t with|some e=>decide (iq P e=some size)|none=>false)
 | .slice t x cm ae none,.mo size y mg gB=>cK x y&&pn cm mg&&pn ae gB&&(match jl P t with|some e=>decide (iq P e=some size)|none=>false)
 | .extract x i,.extract j y=>cK x y&&decide (i=j)
 | .makeFunc (.func f) first fJ,.iS g dO=>decide (f=g)&&first.isEmpty&&fD fJ.toList dO&&aW7 g iy
 | .makeFunc (.func f) first fJ,.sE g dO=>decide (f=g)&&fJ.isEmpty&&fD first.toList dO
 | .convert s d x,.qd int y=>cK x y&&(match P.underlying d with|some .string=>true| _=>false)&&(match P.underlying s with|some (.int _)=>int|some (.slice e)=>(match P.underlying e with|some (.int .u8)=> !int| _=>false)| _=>false)
 | .convert s d x,.jh T y=>cK x y&&(match P.underlying s with|some .string=>true| _=>false)&&decide (jl P d=some T)&&(match P.underlying T with|some (.int .u8)=>true| _=>false)
 | .slice t x none none none,.xj len size y=>cK x y&&(match P.underlying t with|some (.array n e)=>decide (n=len)&&decide (iq P e=some size)| _=>false)
 | .makeInterface t x,.oR T y=>decide (t=T)&&cK x y&&(match P.underlying t with|some (.interface _)=>false|some _=>true|none=>false)
 | .call {callee:= .value f,args,..},.call g dO=>(match f with| .func iQ=>decide (iQ=g)| _=>false)&&fD args.toList dO&&cT P g
 | .call {callee:= .value f,args,..},.fQ _ g dO=>(match f with| .func iQ=>decide (iQ=g)| _=>false)&&fD args.toList dO&&cT P g
 | .call {callee:= .value f,args,..},.fx y dO=>cK f y&&fD args.toList dO
 | .call {callee:= .value f,args,..},.kn _ y dO=>cK f y&&fD args.toList dO
 | .call {callee:= .value f,args,..},.io g dO=>(match f with| .func iQ=>decide (iQ=g)| _=>false)&&fD args.toList dO&&cT P g
 | .call {callee:= .value f,args,..},.rM T size g dO=>(match f with| .func iQ=>decide (iQ=g)| _=>false)&&fD args.toList dO&&cT P g
 | .call {callee:= .value f,args,..},.w9 T size g dO _=>(match f with| .func iQ=>decide (iQ=g)| _=>false)&&fD args.toList dO&&cT P g
 | .call {callee:= .value f,args,..},.j8 y dO=>cK f y&&fD args.toList dO
 | .call {callee:= .value f,args,..},.vw g dO _=>(match f with| .func iQ=>decide (iQ=g)| _=>false)&&fD args.toList dO&&cT P g
 | .call {callee:= .value f,args,..},.vx y dO _=>cK f y&&fD args.toList dO
 | .panic x,.panic y=>cK x y
 | _,_=>false
def An (ops:Array Oper) (g:Option (Nat×Bool)) (h:Option (Nat×Bool)):Bool:=
 match g,h with
 |none,none=>true
 |some (j,w),some (t,w')=>decide (w=w')&&decide ((ops[j]?).bind (·.dst)=some t)
 | _,_=>false
def pk (P:Program) (n:Nat) (ops:Array Oper) (o:Oper) (i:bC):Bool:=
 decide (o.dst=i.dst)&&(match i.dst with|some d=>aW7 d n|none=>true)&&(match i.guard with|some (t,_)=>aW7 t n|none=>true)&&An ops o.guard i.guard&&be P o.op i.op
def lJ (P:Program) (n:Nat) (ops:Array Oper):List Oper→List bC→Bool
 |[],[]=>true
 |o::os,i::is=>pk P n ops o i&&lJ P n ops os is
 | _,_=>false
def aH.ay3:aH→Option Nat
 | .t n=>some n
 | .c _=>none
def ba.ct:ba→List aH
 | .fO x| .fB x| .box _ x| .load _ _ x| .qz _ _ x| .nA _ x| .field _ _ _ x| .not x| .neg x| .conv _ x| .len x| .kV x| .extract _ x| .oR _ x| .panic x| .hV x| .ib _ _ x| .qD _ x| .mR _ _ _ _ x| .oO _ x| .iB _ x| .qd _ x| .jh _ x| .xj _ _ x=>[x]
 | .pick a b c=>[a,b,c]
 | .alloc _ _| .pE _| .mkMap _=>[]
 | .hs _ _ x k=>[x,k]
 | .mQ x k v=>[x,k,v]
 | .build _ ps=>ps.map (·.2.2)
 | .eu _ _ _ _ ps| .l4 _ _ _ _ ps| .lF _ _ _ _ ps=>ps.map (·.2)
 | .store _ a v=>[a,v]
 | .gq eJ _ _ x=>[.t eJ,x]
 | .gF eJ o _ a v=> .t eJ::a::v::o.map .t
 | .gS _ x i| .me _ _ x i| .iD _ _ _ x i| .gp x i| .bin _ x i| .p7 _ x i| .ny _ _ _ x i| .append _ _ _ x i| .hE _ x i| .lD _ _ _ x i=>[x,i]
 | .j4 _ xs| .iS _ xs| .sE _ xs| .call _ xs| .io _ xs| .vw _ xs _| .rM _ _ _ xs| .w9 _ _ _ xs _=>xs
 | .iW x l h| .mo _ x l h=>x::(l.toList++h.toList)
 | .gL _ x l h m=>x::(l.toList++h.toList++m.toList)
 | .fx x xs| .j8 x xs| .vx x xs _=>x::xs
 | .fQ o _ xs=>xs++o.map .t
 | .kn o x xs=>x::(xs++o.map .t)
def bC.reads (i:bC):List Nat:=i.op.ct.filterMap aH.ay3++(i.guard.map (·.1)).toList
def ba.cU:ba→Nat
 | .fO _| .qz .. | .pick .. | .fB _| .build .. | .nA .. | .field .. | .gS .. | .me .. | .iD .. | .gp .. | .bin .. | .p7 .. | .ny .. | .not _| .qD .. | .neg _| .conv .. | .len _| .kV _| .pE _| .j4 .. | .iW .. | .gL .. | .extract .. | .iS .. | .sE .. | .qd .. | .oR .. =>0
 | .load .. | .gq .. | .box .. | .alloc .. | .jh .. | .eu .. | .l4 .. | .io .. | .j8 .. | .vw .. | .vx .. | .lF .. | .mR .. | .mkMap .. | .rM .. | .w9 .. =>1
 | .append .. =>2
 | .store .. | .gF .. | .fQ .. | .kn .. | .call .. | .fx .. | .panic _| .mo .. | .lD .. | .hV .. | .hE .. | .ib .. | .oO .. | .iB .. | .xj .. | .hs .. | .mQ .. =>3
def ba.live:ba→Bool
 | .store .. | .gF .. | .mo .. | .lD .. | .hV .. | .hE .. | .ib .. | .iB .. | .hs .. | .mQ .. =>true
 | _=>false
def ba.quiet:ba→Bool
 | .load .. | .gq .. | .hV .. | .hE .. | .ib .. | .iB .. | .hs .. =>true
 |op=>op.cU==0
def ba.sS:ba→Bool
 | .hV .. | .hE .. | .ib .. | .iB .. | .hs .. =>true
 | _=>false
def ba.s7:ba→Bool
 | .alloc .. | .gF .. =>true
 | _=>false
def bC.total (i:bC):Bool:=i.guard.isNone&&match i.op with
 | .fO _| .pE _| .iS .. | .oR .. =>true
 | _=>false
def bC.tY (i:bC):Option (Bool×Nat×List Nat):=match i.guard,i.op with
 |none,.gF eJ o _ _ _=>some (true,eJ,o)
 |none,.gq eJ _ _ _=>some (false,eJ,[])
 | _,_=>none
def zr (i j:bC):Bool:=match i.tY,j.tY with
 |some (true,_,o),some (true,b,_)=>o.contains b
 |some (false,m,_),some (true,_,o)=>o.contains m
 | _,_=>false
def ba.still:ba→Bool
 | .eu .. | .jh .. | .io .. | .j8 .. | .vw .. | .vx .. =>true
 |op=>op.cU==0
def bC.nT (i:bC):Option (Option (List Nat)×Option Nat):=match i.guard,i.op with
 |none,.fQ o _ _=>some (some o,none)
 |none,.kn o _ _=>some (some o,none)
 |none,.gq eJ _ _ _=>some (none,some eJ)
 |none,op=>if op.still then some (none,none) else none
 |some _,_=>none
def qE (o:List Nat):Option (Option (List Nat)×Option Nat)→Bool
 |some (none,some eJ)=>o.contains eJ
 |some (none,none)=>true
 | _=>false
def xW (i j:bC):Bool:=match i.nT,j.nT with
 |some (some o,_),x=>qE o x
 |x,some (some o,_)=>qE o x
 | _,_=>false
def indep (i j:bC):Bool:=
 (match i.dst with|some d=> !j.reads.contains d&& !(j.dst==some d)|none=>true)&&
 (match j.dst with|some d=> !i.reads.contains d|none=>true)&&
 (xW i j||i.op.cU==0||(i.op.quiet&&j.op.quiet)||(i.op.sS&&j.op.s7)||(i.op.live&&j.op.cU==0)||zr i j||(i.op.cU==3&&j.total)||(i.op.cU≤2&&j.op.cU≤2&& !(i.op.cU==2&&j.op.cU==2)))
def GR (ops:List Oper):List Nat:=
 ops.foldl (fun acc o=>acc++[o.after.foldl (fun s e=>if Region.binds .any e then s|||2^e.on|||acc.getD e.on 0 else s) 0]) []
def vt (ops:List Oper) (is:List bC):Bool:=
 let RG:=GR ops
 (ops.zipIdx.all fun (o,i)=>o.after.all fun e=> !Region.binds .any e||aW7 e.on i)&&
 (is.zipIdx.all fun (y,j)=>is.zipIdx.all fun (x,i)=> !(aW7 i j)||(RG.getD j 0).testBit i||indep x y)
def ko (P:Program) (n:Nat):Code→bu→Bool
 | .skip,.skip=>true
 | .region _ ops draw,.region is VA=>draw==VA&&lJ P n ops ops.toList is&&(!draw||vt ops.toList is)
 | .seq a b,.seq c d=>ko P n a c&&ko P n b d
 | .cond c a b,.cond cB cw bJ=>cK c cB&&ko P n a cw&&ko P n b bJ
 | .block i a,.block j b=>i==j&&ko P n a b
 | .loop a,.loop b=>ko P n a b
 | .exit i,.exit j=>i==j
 | .ret,.ret=>true
 | .region _ ops false,.sk d f cap=>aW7 d n&&cT P f&&match ops.toList with
  |[eS,fq]=>eS.dst==some d&&eS.guard.isNone&&fq.dst==none&&fq.guard.isNone&&(match eS.op with| .makeFunc (.func g) first fJ=>decide (g=f)&&first.isEmpty&&fD fJ.toList cap| _=>false)&&(match fq.op with| .defer {callee:= .value (.tmp t),args,..}=>t==d&&args.isEmpty| _=>false)
  | _=>false
 | _,_=>false
def lK (P:Program):List ResultVar→List bj→Bool
 |[],[]=>true
 | .tmp t::l,.t n::bM=>t==n&&lK P l bM
 | .cell t ty::l,.cell agg n dk::bM=>t==dk&&oP P ty agg n&&lK P l bM
 | _,_=>false
def b4 (P:Program) (fn:Func) (aa3:Nat) (e:bu) (aN:List bj):Bool:=
 aV2 aa3 fn.ntmps&&lK P fn.results.toList aN&&match fn.body with
 |some c=>ko P fn.ntmps c e
 |none=>false
end Go.aX
namespace Go.aX
open Go
theorem v7 (s:List UInt8):(⟨⟨s⟩⟩:ByteArray).toList=s:=by
 rw[Lib.toList_data]
theorem Hl (b:ByteArray):b=⟨⟨b.data.toList⟩⟩:=rfl
theorem Sn (s t:List UInt8):(⟨⟨s⟩⟩:ByteArray)++⟨⟨t⟩⟩=⟨⟨s++t⟩⟩:=by
 rw[Hl ((⟨⟨s⟩⟩:ByteArray)++⟨⟨t⟩⟩)]
 rw[Joins.data_append]
theorem Hk (s:List UInt8) (l h:Nat):(⟨⟨s⟩⟩:ByteArray).extract l h=⟨⟨(s.take h).drop l⟩⟩:=by
 rw[Hl (ByteArray.extract _ _ _)]
 congr 2
 rw[Lib.extract_data]
 simp only[bi8]
theorem CV {m:Mem}{a:I}{v:Value}(h:uB a v=true):aK m a v:=by
 unfold uB at h
 split at h<;>first
  |(simp only[aK]; done)
  |(simp only[aK]; simp at h; subst h; rfl)
  |(simp only[aK]; simp at h; obtain⟨rfl,rfl⟩:=h; rfl)
  |skip
 ·simp only[aK]
  simp only[aT0,decide_eq_true_eq]at h
  obtain⟨rfl,J⟩:=h
  exact⟨rfl,aZ3 J⟩
 ·rename_i f g
  simp at h
  obtain⟨rfl,hb⟩:=h
  simp only[aK,aM]
  exact⟨[],(uG hb []).symm,rfl⟩
 ·cases h
theorem H8 {a:I}{v:Value}(h:uB a v=true):v.oneCell'=true:=by
 unfold uB at h
 split at h<;>first|rfl|cases h
theorem H7 {m:Mem}: ∀ {az:List I}{l:List Value},wk az l=true→aM m az l∧∀v∈l,v.oneCell'=true
 |[],[],_=>⟨by simp only[aM],by simp⟩
 |[],_:: _,h=>by simp [wk]at h
 | _:: _,[],h=>by simp [wk]at h
 |a::az,v::l,h=>by
  simp only[wk,aT0]at h
  obtain⟨br,bA⟩:=H7 (m:=m) h.2
  refine⟨by simp only[aM]; exact⟨v,l,rfl,CV h.1,br⟩,fun u hu=> ?_⟩
  rcases List.mem_cons.1 hu with rfl|hu
  ·exact H8 h.1
  ·exact bA u hu
theorem Ap {m:Mem}{az:List I}{z:Value}(h:Ao az z=true):aM m az z.cells.toList∧∀v∈z.cells.toList,v.oneCell'=true:=by
 unfold Ao at h
 split at h
 ·exact H7 h
 ·rename_i a v dP
  have af:=H8 h
  have ab:=CV (m:=m) h
  have ah:Value.cells z= #[z]:=by
   cases z<;>first|rfl|(simp [Value.oneCell']at af)
  rw[ah]
  refine⟨by simp only[aM]; exact⟨z,[],rfl,ab,rfl⟩,fun u hu=> ?_⟩
  simp at hu
  subst hu
  exact af
 ·cases h
def dF (m:Mem) (env:Env) (tmps:Array Value):Prop:=∀k,aK m (env.get k) (tmps.getD k undef)
theorem cY {m:Mem}{env:Env}{a:Act}{x:Operand}{y:aH}(he:dF m env a.tmps) (h:cK x y=true):aK m (y.aC env) (a.eval x):=by
 unfold cK at h
 split at h
 ·rename_i t n
  have e:t=n:=by simpa using h
  subst e
  exact he t
 ·exact CV h
 ·rename_i f g
  have e:f=g∧f<iy:=by simpa using h
  obtain⟨rfl,hb⟩:=e
  simp only[aH.aC,aK,aM,Act.eval]
  exact⟨[],(uG hb []).symm,rfl⟩
 ·cases h
theorem nU {m:Mem}{env:Env}{a:Act}(he:dF m env a.tmps): ∀ {xs:List Operand}{dO:List aH},fD xs dO=true→aM m (dO.map (aH.aC env)) (xs.map a.eval)
 |[],[],_=>by simp only[aX6,aM]
 |[],_:: _,h=>by simp [fD]at h
 | _:: _,[],h=>by simp [fD]at h
 |x::xs,y::dO,h=>by
  simp only[fD,aT0]at h
  simp only[aU5,aM]
  exact⟨_,_,rfl,cY he h.1,nU he h.2⟩
theorem y7 {m:Mem}{a:I}{v:Value}(h:aK m a v) (af:a.one=true):v.oneCell'=true:=by
 cases a<;>simp only[aK,I.one]at h af<;>first
  |exact absurd af bk0
  |(obtain⟨rfl,_⟩:=h; rfl)
  |(subst h; first|rfl|exact af)
  |exact h.1
  |(obtain⟨_,_,_,rfl,_⟩:=h; rfl)
  |(obtain⟨⟨_,_,_,rfl,_⟩,_⟩:=h; rfl)
  |(obtain⟨_,_,rfl,_⟩:=h; rfl)
  |(obtain⟨_,rfl,_⟩:=h; first|rfl|(unfold qm; split<;>rfl))
theorem HG {v:Value}(h:v.oneCell'=true):v.cells= #[v]:=by
 cases v<;>first|rfl|(simp [Value.oneCell']at h)
theorem Am {m:Mem}{a:I}{v:Value}(h:aK m a v) (af:a.cells.all I.one=true):aM m a.cells v.cells.toList∧∀u∈v.cells.toList,u.oneCell'=true:=by
 cases aL:a with
 |agg cs=>
  subst aL
  simp only[aK]at h
  obtain⟨l,rfl,J⟩:=h
  refine⟨J,fun u hu=> ?_⟩
  simp only[I.cells,bb1]at af
  obtain⟨i,ae⟩:=aW5 hu
  have gB:i<l.length:=(List.getElem?_eq_some_iff.1 ae).1
  rw[aM.length J]at gB
  obtain⟨bp,aj,aq⟩:=aM.get J i cs[i] (aU0 gB)
  have:bp=u:=by
   have Xs:l[i]? =some u:=ae
   rw[Xs]at aj
   simpa using aj.symm
  subst this
  exact y7 aq (af _ (List.getElem_mem gB))
 | _=>
  subst aL
  simp only[I.cells,aV0,bf4,aW0]at af ⊢
  have h1:=y7 h af
  rw[HG h1]
  refine⟨by simp only[aM]; exact⟨v,[],rfl,h,rfl⟩,fun u hu=> ?_⟩
  simp at hu
  subst hu
  exact h1
theorem iV {m:Mem}{k n v}(h:aK m (.int k n) v):v= .int k n:=by simpa only[aK] using h
theorem sO {m:Mem}{b v}(h:aK m (.bool b) v):v= .bool b:=by simpa only[aK] using h
theorem qH {m:Mem}{s v}(h:aK m (.str s) v):v= .string ⟨⟨s⟩⟩∧s.length≤maxLen:=by simpa only[aK] using h
theorem tU {m:Mem}{b o v}(h:aK m (.ptr b o) v):v= .pointer (some ⟨b,o,none⟩):=by simpa only[aK] using h
theorem tV {m:Mem}{x v}(h:aK m (.dI x) v):v=x:=by simpa only[aK] using h
theorem xf {m:Mem}{r o v}(h:aK m (.dL r o) v): ∃b p,v= .pointer (some ⟨b,p+o,none⟩)∧ez m r b p:=by simpa only[aK] using h
theorem zn {m:Mem}{cs v}(h:aK m (.agg cs) v): ∃l,v= .agg ⟨l⟩∧aM m cs l:=by simpa only[aK] using h
theorem ar5 {m:Mem}{cs v}(h:aK m (.cV cs) v): ∃l,v= .tuple ⟨l⟩∧aM m cs l:=by simpa only[aK] using h
theorem vD {m:Mem}{f cs v}(h:aK m (.fn f cs) v): ∃l,v=qm f l∧aM m cs l:=by simpa only[aK] using h
theorem xg {m:Mem}{size rows v}(h:aK m (.ak size rows) v): ∃a cap,v= .slice a rows.length cap∧(rows.length≤cap∧cap≤maxLen)∧(rows.length=0∨∃b o,a=some ⟨b,o,none⟩∧dy m size rows b o):=by
 simp only[aK]at h
 obtain⟨a,len,cap,rfl,rfl,aA,bz⟩:=h
 exact⟨a,cap,rfl,aA,bz⟩
theorem xe {m:Mem}{t size rows v}(h:aK m (.own t size rows) v):aK m (.ak size rows) v:=by
 simp only[aK]at h ⊢
 exact h.1
theorem y4 {m:Mem}{agg:Bool}{cs:List I}{r:I}{l:List Value}(h:I.hJ agg cs=some r) (aE:aM m cs l):(agg=true∧aK m r (.agg ⟨l⟩))∨(agg=false∧∃v,l=[v]∧aK m r v):=by
 unfold I.hJ at h
 cases agg with
 |true=>
  simp at h
  subst h
  exact .inl ⟨rfl,by simp only[aK]; exact⟨l,rfl,aE⟩⟩
 |false=>
  simp only[cond_false]at h
  split at h
  ·rename_i a
   simp at h
   subst h
   simp only[aM]at aE
   obtain⟨v,ak,rfl,h1,rfl⟩:=aE
   exact .inr ⟨rfl,v,rfl,h1⟩
  ·cases h
theorem xd {P:Program}{t:TypeId}{b:Bool}(h:nj P t=some b) (w:World):(isAgg t).run P w= .ok b w:=by
 unfold nj at h
 split at h
 ·rename_i hu; simp at h; subst h; simp [isAgg,run_underlying hu]
 ·rename_i hu; simp at h; subst h; simp [isAgg,run_underlying hu]
 ·rename_i d h1 J hu
  simp at h; subst h
  cases d<;>first|(exact (h1 _ rfl).elim)|(exact (J _ _ rfl).elim)|(simp [isAgg,run_underlying hu]; done)
 ·cases h
theorem BR {P:Program}{t:TypeId}{n:Nat}(h:iq P t=some n): ∃i,P.info? t=some i∧i.size=n:=by
 unfold iq at h
 cases ae:P.info? t with
 |none=>simp [ae]at h
 |some i=>simp [ae]at h; exact⟨i,rfl,h⟩
theorem mn {P:Program}{t:TypeId}{n:Nat}(h:iq P t=some n) (w:World):(sizeOf t).run P w= .ok n w:=by
 obtain⟨i,ae,rfl⟩:=BR h
 simp [sizeOf,typeInfo,ae]
theorem yM {P:Program}{t:TypeId}{agg:Bool}{n:Nat}(h:oP P t agg n=true):nj P t=some agg∧iq P t=some n∧(agg=false→n=1)∧n≠0:=by
 simp only[oP,aT0,decide_eq_true_eq]at h
 obtain⟨⟨⟨h1,J⟩,aA⟩,bz⟩:=h
 refine⟨h1,J,fun e=> ?_,?_⟩
 ·subst e; simpa using aA
 ·simpa using bz
theorem mC (b o n:Nat):(⟨b,o,none⟩:Addr).add n=⟨b,o+n,none⟩:=by
 unfold Addr.add
 split
 ·subst_vars; rfl
 ·rfl
theorem FB {P:Program}{w:World}{t:TypeId}{agg:Bool}{n:Nat}(h:oP P t agg n=true) (b o:Nat) (l:List Value) (aE:l.length=n) (ah: ∀j v,l[j]? =some v→w.cell? ⟨b,o+j,none⟩=some v):
  (loadVar t ⟨b,o,none⟩).run P w= .ok (if agg then .agg ⟨l⟩ else l.getD 0 undef) w:=by
 obtain⟨h1,J,aA,bz⟩:=yM h
 cases agg with
 |true=>
  have:=run_loadCells_list (P:=P) w ⟨b,o,none⟩ l (fun j v bq=>by rw[mC]; exact ah j v bq)
  rw[aE]at this
  simp [loadVar,xd h1,mn J,this]
 |false=>
  have bb:=aA rfl
  subst bb
  match l,aE with
  |[v],_=>
   have:=ah 0 v rfl
   simp at this
   simp [loadVar,xd h1,this]
theorem P8 {P:Program}{w:World}{t:TypeId}{agg:Bool}{n:Nat}(h:oP P t agg n=true) (l:List Value) (off:Nat) (aE:off+n≤l.length):
  (part t ⟨l⟩ off).run P w= .ok (if agg then .agg ⟨(l.drop off).take n⟩ else l.getD off undef) w:=by
 obtain⟨h1,J,aA,bz⟩:=yM h
 cases agg with
 |true=>
  simp [part,xd h1,mn J,List.take_drop,bd0]
 |false=>
  have bb:=aA rfl
  have cL:off<l.length:=by omega
  simp [part,xd h1,cL]
theorem KE (l:List Value) (o:Nat):l.getD o undef=(l.drop o).getD 0 undef:=by
 simp [List.getD]
theorem AF {P:Program}{w:World}(op:BinOp) (t:TypeId) (x y:Operand) (k j:IntKind) (a b:Int):(eqGuard op t x y (.int k a) (.int j b)).run P w= .ok () w:=by
 unfold eqGuard; cases op<;>rfl
theorem Km {P:Program}{w:World}(op:BinOp) (t:TypeId) (x y:Operand) (a b:ByteArray):(eqGuard op t x y (.string a) (.string b)).run P w= .ok () w:=by
 unfold eqGuard; cases op<;>rfl
theorem VU {P:Program}{w:World}(op:BinOp) (t:TypeId) (x y:Operand) (a b:Bool):(eqGuard op t x y (.bool a) (.bool b)).run P w= .ok () w:=by
 unfold eqGuard; cases op<;>rfl
theorem Kl {P:Program}{w:World}(op:BinOp) (t:TypeId) (x y:Operand) (a b:Array Value) (h:P.eqGuardType P.depth t=false):(eqGuard op t x y (.agg a) (.agg b)).run P w= .ok () w:=by
 unfold eqGuard; cases op<;>simp [h]
theorem VR {l:IntKind}{a b:I}{r:Bool}(h:nz (.i l) a b=some r): ∃n j,a= .int l n∧b= .int l j∧r=decide (n=j):=by
 cases a<;>cases b<;>simp [nz]at h
 obtain⟨⟨rfl,rfl⟩,rfl⟩:=h
 exact⟨_,_,rfl,rfl,rfl⟩
theorem VT {a b:I}{r:Bool}(h:nz .s a b=some r): ∃n j,a= .str n∧b= .str j∧r=decide (n=j):=by
 cases a<;>cases b<;>simp [nz]at h
 subst h
 exact⟨_,_,rfl,rfl,rfl⟩
theorem VQ {a b:I}{r:Bool}(h:nz .b a b=some r): ∃n j,a= .bool n∧b= .bool j∧r=(n==j):=by
 cases a<;>cases b<;>simp [nz]at h
 subst h
 exact⟨_,_,rfl,rfl,rfl⟩
theorem Ds: ∀ {bx:List lA}{cs ds:List I}{r:Bool},gb bx cs ds=some r→cs.length=bx.length∧ds.length=bx.length
 |[],[],[],_,_=>⟨rfl,rfl⟩
 |k::bx,a::cs,b::ds,r,h=>by
  simp only[gb]at h
  split at h
  ·rename_i x y h1 J
   obtain⟨aj,aq⟩:=Ds J
   simp [aj,aq]
  ·cases h
 |[],[],_:: _,_,h=>by simp [gb]at h
 |[],_:: _,_,_,h=>by simp [gb]at h
 | _:: _,[],_,_,h=>by simp [gb]at h
 | _:: _,_:: _,[],_,h=>by simp [gb]at h
theorem Kk: ∀ {bx vi:List lA}{cs ds:List I}{r:Bool},gb (bx++vi) cs ds=some r→∃cb cp,gb bx (cs.take bx.length) (ds.take bx.length)=some cb∧gb vi (cs.drop bx.length) (ds.drop bx.length)=some cp∧r=(cb&&cp)
 |[],vi,cs,ds,r,h=>⟨true,r,by simp [gb],by simpa using h,by simp⟩
 | _:: _,_,[],_,_,h=>by simp [gb]at h
 | _:: _,_,_:: _,[],_,h=>by simp [gb]at h
 |k::bx,vi,a::cs,b::ds,r,h=>by
  simp only[aU4,gb]at h
  split at h
  ·rename_i x y h1 J
   obtain⟨cb,cp,aj,aq,rfl⟩:=Kk J
   simp at h
   exact⟨x&&cb,cp,by simp [gb,h1,aj],by simpa using aq,by rw[←h,Bool.and_assoc]⟩
  ·cases h
def vp (agg:Bool) (l:List Value):Value:=if agg then .agg ⟨l⟩ else l.getD 0 undef
theorem P9 {P:Program}{w:World}{t:TypeId}{agg:Bool}{n:Nat}(h1:nj P t=some agg) (J:iq P t=some n) (aA:agg=false→n=1) (l:List Value) (off:Nat) (aE:off+n≤l.length):
  (part t ⟨l⟩ off).run P w= .ok (vp agg ((l.drop off).take n)) w:=by
 cases agg with
 |true=>simp [part,xd h1,mn J,vp,List.take_drop,bd0]
 |false=>
  have bb:=aA rfl
  have cL:off<l.length:=by omega
  subst bb
  simp [part,xd h1,cL,vp,List.getD,aV6]
theorem V8 {P:Program}: ∀ {d:Nat}{t:TypeId}{bx:List lA},rs P d t=some bx→∃agg,nj P t=some agg∧(agg=false→bx.length=1)
 |0,_,_,h=>by simp [rs]at h
 |d+1,t,bx,h=>by
  simp only[rs]at h
  split at h<;>first
   |(cases h; done)
   |(rename_i hu; simp only[Option.some.injEq]at h; subst h; exact⟨false,by simp [nj,hu],fun _=>rfl⟩)
   |(rename_i hu; exact⟨true,by simp [nj,hu],fun e=>by cases e⟩)
theorem Il (s u:List UInt8):((⟨⟨s⟩⟩:ByteArray).toList==(⟨⟨u⟩⟩:ByteArray).toList)=decide (s=u):=by
 rw[v7,v7]
 rw[Bool.eq_iff_iff]
 simp
theorem Kn {P:Program}{w:World}{m:Mem}: ∀(d:Nat){t:TypeId}{bx:List lA}{agg:Bool}{cs ds:List I}{xs dO:List Value}{r:Bool}(e:Nat),rs P d t=some bx→nj P t=some agg→aM m cs xs→aM m ds dO→gb bx cs ds=some r→
  (Op.equalIn (d+e) t (vp agg xs) (vp agg dO)).run P w= .ok r w
 |0,_,_,_,_,_,_,_,_,_,h,_,_,_,_=>by simp [rs]at h
 |d+1,t,bx,agg,cs,ds,xs,dO,r,e,h,aL,U,bg,ab=>by
  rw[show d+1+e=(d+e)+1 by omega]
  simp only[rs]at h
  have one: ∀k,bx=[k]→agg=false→∃a b x y,nz k a b=some r∧aK m a x∧aK m b y∧vp agg xs=x∧vp agg dO=y:=by
   rintro k rfl rfl
   match cs,ds,ab with
   |[a],[b],ab=>
    simp only[aM]at U bg
    obtain⟨x,_,rfl,U,rfl⟩:=U
    obtain⟨y,_,rfl,bg,rfl⟩:=bg
    simp only[gb]at ab
    split at ab
    ·rename_i p q h1 J
     simp at J ab
     subst J
     simp at ab
     subst ab
     exact⟨a,b,x,y,h1,U,bg,rfl,rfl⟩
    ·cases ab
   |[],_,ab=>simp [gb]at ab
   | _:: _,[],ab=>simp [gb]at ab
   | _:: _:: _,_:: _,ab=>simp [gb]at ab
   |[_],_:: _:: _,ab=>simp [gb]at ab
  split at h
  ·rename_i hu
   simp at h
   have uS:agg=false:=by simp [nj,hu]at aL; exact aL
   obtain⟨a,b,x,y,h1,J,aA,aj,aq⟩:=one _ h.symm uS
   rw[aj,aq]
   obtain⟨p,q,rfl,rfl,rfl⟩:=VQ h1
   rw[sO J,sO aA,run_equalIn_bool' _ _ _ _ _ hu]
  ·rename_i k hu
   simp at h
   have uS:agg=false:=by simp [nj,hu]at aL; exact aL
   obtain⟨a,b,x,y,h1,J,aA,aj,aq⟩:=one _ h.symm uS
   rw[aj,aq]
   obtain⟨p,q,rfl,rfl,rfl⟩:=VR h1
   rw[iV J,iV aA,run_equalIn_int _ _ _ _ _ _ _ hu]
   congr 1
  ·rename_i hu
   simp at h
   have uS:agg=false:=by simp [nj,hu]at aL; exact aL
   obtain⟨a,b,x,y,h1,J,aA,aj,aq⟩:=one _ h.symm uS
   rw[aj,aq]
   obtain⟨p,q,rfl,rfl,rfl⟩:=VT h1
   rw[(qH J).1,(qH aA).1,run_equalIn_string _ _ _ _ _ hu,Il]
  ·rename_i b6 hu
   split at h
   ·cases h
   ·rename_i kQ
    have uS:agg=true:=by simp [nj,hu]at aL; exact aL
    subst uS
    have aO:P.fieldsOf t=b6:=by simp [Program.fieldsOf,hu]
    show (Op.equalIn ((d+e)+1) t (.agg ⟨xs⟩) (.agg ⟨dO⟩)).run P w= _
    rw[run_equalIn_struct w (d+e) t ⟨xs⟩ ⟨dO⟩ (by rw[aO]; exact hu) (by simpa using kQ),aO]
    have key: ∀(b6:List Field) (off:Nat) (bx:List lA) (r:Bool),ww P (rs P d) off b6=some bx→gb bx (cs.drop off) (ds.drop off)=some r→(Op.eqFields (d+e) ⟨xs⟩ ⟨dO⟩ b6).run P w= .ok r w:=by
     intro b6
     induction b6 with
     |nil=>
      intro off bx r h1 J
      simp [ww]at h1
      subst h1
      have:=Ds J
      simp at this
      rw[show cs.drop off=[] by exact aT9 (by omega),show ds.drop off=[] by exact aT9 (by omega)]at J
      simp [gb]at J
      subst J
      simp [Op.eqFields]
     |cons f b6 b8=>
      intro off bx r h1 J
      simp only[ww]at h1
      split at h1
      ·rename_i br Ls
       split at h1
       ·rename_i ah
        obtain⟨yk,yl,wG,Xc⟩:=ah
        cases lk:ww P (rs P d) (off+br.length) b6 with
        |none=>simp [lk]at h1
        |some bA=>
         simp [lk]at h1
         subst h1
         obtain⟨cb,cp,g1,g2,rfl⟩:=Kk J
         rw[bg5,bg5]at g2
         obtain⟨GO,ru,gs⟩:=V8 Ls
         have aN6:0<br.length:=List.length_pos_iff.2 Xc
         have hle:=Ds J
         simp only[bd3,aT2]at hle
         have pA:off+br.length≤xs.length:=by have:=aM.length U; omega
         have kv:off+br.length≤dO.length:=by have:=aM.length bg; omega
         have ji:=P9 (w:=w) ru wG gs xs off pA
         have pI:=P9 (w:=w) ru wG gs dO off kv
         have bs:=Kn d e Ls ru (aM.take br.length (aM.drop off U)) (aM.take br.length (aM.drop off bg)) g1 (w:=w)
         simp only[Op.eqFields,yl,ne_eq,not_false_eq_true,if_true,Sem.run_bind,yk,ji,pI,Result.andThen_ok,bs]
         cases cb with
         |false=>simp
         |true=>simpa using b8 _ _ _ lk g2
       ·cases h1
      ·cases h1
    exact key b6.toList 0 bx r h (by simpa using ab)
  ·cases h
def fb (P:Program) (m:Mem) (a:Act) (o:Oper) (r:I):Prop:=
 ∃v,(execOp a.eval o).run P m.w= .ok (.value v) m.w∧aK m r v
section
variable {P:Program}{m:Mem}{env:Env}{a:Act}{o:Oper}
theorem N0 {x y}(he:dF m env a.tmps) (af:o.op= .move x∨o.op= .assign x) (h:cK x y=true):fb P m a o (y.aC env):=
 ⟨a.eval x,by rcases af with af|af<;>simp [execOp,af],cY he h⟩
theorem an1 {c x y cB cE gO r}(he:dF m env a.tmps) (af:o.op= .pick c x y) (h1:cK c cB=true) (J:cK x cE=true) (aA:cK y gO=true) (H:aw) (hp:bL (.pick cB cE gO) env H=some r):fb P m a o r:=by
 simp only[bL]at hp
 have ah:=cY he h1
 split at hp
 ·rename_i e; simp at hp; subst hp; rw[e]at ah
  exact⟨a.eval x,by simp [execOp,af,sO ah,asBool],cY he J⟩
 ·rename_i e; simp at hp; subst hp; rw[e]at ah
  exact⟨a.eval y,by simp [execOp,af,sO ah,asBool],cY he aA⟩
 ·cases hp
theorem am9 {x y r}(he:dF m env a.tmps) (af:o.op= .nilCheck x) (h1:cK x y=true) (H:aw) (hp:bL (.fB y) env H=some r):fb P m a o r:=by
 simp only[bL]at hp
 have ah:=cY he h1
 split at hp
 ·rename_i e; simp at hp; subst hp; rw[e]at ah
  exact⟨_,by simp [execOp,af,tU ah]; rfl,by simp only[aK]⟩
 ·rename_i e; simp at hp; subst hp; rw[e]at ah
  obtain⟨b,p,aj,aq⟩:=xf ah
  exact⟨_,by simp [execOp,af,aj]; rfl,by simp only[aK]; exact⟨b,p,rfl,aq⟩⟩
 ·rename_i e; simp at hp; subst hp; rw[e]at ah
  obtain⟨l,aj,aq⟩:=vD ah
  refine⟨a.eval x,?_,by simp only[aK]; exact⟨l,aj,aq⟩⟩
  unfold qm at aj
  split at aj<;>simp [execOp,af,aj]
 ·cases hp
theorem am0 {t x f off y r}(he:dF m env a.tmps) (af:o.op= .fieldAddr t x f) (h:be P o.op (.nA off y)=true) (H:aw) (hp:bL (.nA off y) env H=some r):fb P m a o r:=by
 rw[af]at h
 simp only[be,aT0]at h
 obtain⟨h1,J⟩:=h
 have ah:=cY he h1
 split at J
 ·rename_i b6 hu
  split at J
  ·rename_i g bm
   simp only[aT0,decide_eq_true_eq]at J
   obtain⟨J,aA⟩:=J
   split at aA
   ·rename_i n bb
    have u1:n≠0:=by simpa using aA
    have j3: ∀b p,a.eval x= .pointer (some ⟨b,p,none⟩)→(execOp a.eval o).run P m.w= .ok (.value (.pointer (some ⟨b,p+off,none⟩))) m.w:=by
     intro b p e
     simp [execOp,af,Instr.fieldAt,run_underlying hu,bm,e,Instr.sureAddr,fieldPlace,mn bb,u1,mC,J]
    simp only[bL]at hp
    split at hp
    ·rename_i b p e; simp at hp; subst hp; rw[e]at ah
     exact⟨_,j3 _ _ (tU ah),by simp only[aK]⟩
    ·rename_i row p e; simp at hp; subst hp; rw[e]at ah
     obtain⟨b,q,aj,aq⟩:=xf ah
     exact⟨_,j3 _ _ aj,by simp only[aK]; exact⟨b,q,by rw[ba9],aq⟩⟩
    ·cases hp
   ·cases aA
  ·cases J
 ·cases J
theorem af3 {agg n x env H r}(hp:bL (.qz agg n x) env H=some r):bL (.load agg n x) env H=some r:=by
 simp only[bL]at hp ⊢
 split at hp
 ·rename_i row o e
  rw[e]
  exact hp
 ·cases hp
theorem EX {eJ agg n x env H r}(hp:bL (.gq eJ agg n x) env H=some r):bL (.load agg n x) env H=some r∧∃b o,env.get eJ= .ptr b 0∧x.aC env= .ptr b o:=by
 simp only[bL]at hp ⊢
 split at hp
 ·rename_i b bJ o aj aq
  split at hp
  ·rename_i hb
   subst hb
   rw[aq]
   exact⟨hp,_,_,aj,rfl⟩
  ·cases hp
 ·cases hp
theorem af2 {eJ agg n x env H r b o}(hp:bL (.load agg n x) env H=some r) (h1:env.get eJ= .ptr b 0) (J:x.aC env= .ptr b o):bL (.gq eJ agg n x) env H=some r:=by
 simp only[bL,J]at hp
 simp only[bL,h1,J,if_true]
 exact hp
theorem Fb {t x agg n y r}(he:dF m env a.tmps) (aZ:bG m) (af:o.op= .load t x) (h1:oP P t agg n=true) (J:cK x y=true) (hp:bL (.load agg n y) env m.H=some r):fb P m a o r:=by
 have ah:=cY he J
 simp only[bL]at hp
 have fin: ∀b p (l:List Value) (cs:List I),a.eval x= .pointer (some ⟨b,p,none⟩)→I.hJ agg cs=some r→aM m cs l→l.length=n→(∀j v,l[j]? =some v→m.w.cell? ⟨b,p+j,none⟩=some v)→fb P m a o r:=by
  intro b p l cs aj aq bD da fh
  refine⟨if agg then .agg ⟨l⟩ else l.getD 0 undef,by simp [execOp,af,Instr.loadAt,aj,Instr.sureAddr,FB h1 b p l da fh],?_⟩
  rcases y4 aq bD with ⟨rfl,h⟩|⟨rfl,v,rfl,h⟩
  ·exact h
  ·exact h
 split at hp
 ·rename_i b p e
  rw[e]at ah
  split at hp
  ·rename_i T cs hb
   split at hp
   ·rename_i hle
    obtain⟨l,g1,g2,g3⟩:=aZ.aV b _ cs hb
    refine fin b p ((l.drop p).take n) _ (tU ah) hp (aM.take n (aM.drop p g2)) ?_ fun j v bq=> ?_
    ·have:=aM.length g2
     simp; omega
    ·rw[cell_of_row m.w b _ _ _ _ g1]
     rw[aV6]at bq
     split at bq
     ·rw[aZ0]at bq
      simpa using bq
     ·cases bq
   ·cases hp
  ·cases hp
 ·rename_i row p e
  rw[e]at ah
  obtain⟨b,q,aj,aq⟩:=xf ah
  split at hp
  ·rename_i hle
   obtain⟨l,g1,g2⟩:=ez.vL aq
   refine fin b (q+p) ((l.drop p).take n) _ aj hp (aM.take n (aM.drop p g1)) ?_ fun j v bq=> ?_
   ·have:=aM.length g1
    simp; omega
   ·rw[aV6]at bq
    split at bq
    ·rw[aZ0]at bq
     rw[ba9]
     exact (g2 _ v bq).1
    ·cases bq
  ·cases hp
 ·cases hp
theorem am1 {t x f agg off n y r}(he:dF m env a.tmps) (af:o.op= .field t x f) (h:be P o.op (.field agg off n y)=true) (H:aw) (hp:bL (.field agg off n y) env H=some r):fb P m a o r:=by
 rw[af]at h
 simp only[be,aT0]at h
 obtain⟨h1,J⟩:=h
 have ah:=cY he h1
 split at J
 ·rename_i b6 hu
  split at J
  ·rename_i g bm
   simp only[aT0,decide_eq_true_eq]at J
   obtain⟨J,aA⟩:=J
   simp only[bL]at hp
   split at hp
   ·rename_i cs e
    rw[e]at ah
    obtain⟨l,aj,aq⟩:=zn ah
    split at hp
    ·rename_i hle
     have aE:=aM.length aq
     refine⟨if agg then .agg ⟨(l.drop off).take n⟩ else l.getD off undef,by simp [execOp,af,Instr.field,run_underlying hu,bm,aj,asAgg,J,P8 aA l off (by omega)],?_⟩
     rcases y4 hp (aM.take n (aM.drop off aq)) with ⟨rfl,h⟩|⟨rfl,v,ad,h⟩
     ·exact h
     ·have bb:=(yM aA).2.2.1 rfl
      subst bb
      rw[KE]
      have:(l.drop off).getD 0 undef=v:=by
       cases bw:l.drop off with
       |nil=>rw[bw]at ad; simp at ad
       |cons x xs=>rw[bw]at ad; simp at ad; simp [ad]
      simp only[aU6,if_false,this]
      exact h
    ·cases hp
   ·cases hp
  ·cases J
 ·cases J
theorem an0 {t x y r}(he:dF m env a.tmps) (af:o.op= .unOp .not t x) (h:cK x y=true) (H:aw) (hp:bL (.not y) env H=some r):fb P m a o r:=by
 have ah:=cY he h
 simp only[bL]at hp
 split at hp
 ·rename_i e; simp at hp; subst hp; rw[e]at ah
  exact⟨_,by simp [execOp,af,sO ah,Op.unary]; rfl,by simp only[aK]⟩
 ·cases hp
theorem an2 {op t x y u neg cE r}(he:dF m env a.tmps) (af:o.op= .binOp op t x y u) (h:be P o.op (.qD neg cE)=true) (H:aw) (hp:bL (.qD neg cE) env H=some r):fb P m a o r:=by
 rw[af]at h
 simp only[be,aT0,decide_eq_true_eq]at h
 obtain⟨⟨⟨⟨h1,J⟩,aA⟩,bz⟩,bZ⟩:=h
 have ah:=cY he J
 split at aA
 ·split at bz
  ·rename_i e hu
   subst h1
   have run: ∀c6,a.eval x= .pointer c6→(execOp a.eval o).run P m.w= .ok (.value (.bool (bif neg then !c6.isNone else c6.isNone))) m.w:=by
    intro c6 ad
    have bm: ∀op,(eqGuard op t x (.const (.pointer none)) (.pointer c6) (.pointer none)).run P m.w= .ok () m.w:=by
     intro op
     have DJ:P.eqGuardType P.depth t=false:=by simpa using bZ
     unfold eqGuard; cases op<;>simp [DJ]
    have bs:(Op.equal t (.pointer c6) (.pointer none)).run P m.w= .ok c6.isNone m.w:=by
     have DE: ∀d,(Op.equalIn (d+1) t (.pointer c6) (.pointer none)).run P m.w= .ok c6.isNone m.w:=by
      intro d
      cases c6<;>simp [Op.equalIn,run_underlying hu]
     exact DE 9999
    have bg:a.eval (.const (.pointer none))= .pointer none:=rfl
    cases neg<;>simp [execOp,af,ad,bs,bm,binOp,bg]
   simp only[bL]at hp
   split at hp
   ·rename_i b p aj; simp at hp; subst hp; rw[aj]at ah
    exact⟨_,run _ (tU ah),by simp only[aK]; cases neg<;>rfl⟩
   ·rename_i row p aj; simp at hp; subst hp; rw[aj]at ah
    obtain⟨b,q,aq,_⟩:=xf ah
    exact⟨_,run _ aq,by simp only[aK]; cases neg<;>rfl⟩
   ·rename_i aj; simp at hp; subst hp; rw[aj]at ah
    exact⟨_,run _ (tV ah),by simp only[aK]; cases neg<;>rfl⟩
   ·cases hp
  ·cases bz
 ·cases aA
theorem am8 {t x y r}(he:dF m env a.tmps) (af:o.op= .unOp .neg t x) (h:cK x y=true) (H:aw) (hp:bL (.neg y) env H=some r):fb P m a o r:=by
 have ah:=cY he h
 simp only[bL]at hp
 split at hp
 ·rename_i e; simp at hp; subst hp; rw[e]at ah
  exact⟨_,by simp [execOp,af,iV ah,Op.unary,Op.intArith]; rfl,by simp only[aK,Int.zero_sub]⟩
 ·cases hp
theorem al6 {s d x k y r}(he:dF m env a.tmps) (af:o.op= .convert s d x) (h:be P o.op (.conv k y)=true) (H:aw) (hp:bL (.conv k y) env H=some r):fb P m a o r:=by
 rw[af]at h
 simp only[be,aT0]at h
 obtain⟨⟨h1,J⟩,aA⟩:=h
 have ah:=cY he h1
 split at J
 ·rename_i bx an
  split at aA
  ·rename_i j bw
   simp at aA
   subst aA
   simp only[bL]at hp
   split at hp
   ·rename_i e; simp at hp; subst hp; rw[e]at ah
    exact⟨_,by simp [execOp,af,iV ah,Go.convert,run_underlying an,run_underlying bw,Conv.intToInt]; rfl,by simp only[aK]⟩
   ·cases hp
  ·cases aA
 ·cases J
theorem al9 {x i y r}(he:dF m env a.tmps) (af:o.op= .extract x i) (h:cK x y=true) (H:aw) (hp:bL (.extract i y) env H=some r):fb P m a o r:=by
 have ah:=cY he h
 simp only[bL]at hp
 split at hp
 ·rename_i l e
  rw[e]at ah
  obtain⟨ak,aj,aq⟩:=ar5 ah
  obtain⟨v,bD,da⟩:=aM.get aq i r hp
  exact⟨v,by simp [execOp,af,aj,Instr.extract,bD],da⟩
 ·cases hp
theorem am6 {f first fJ dO}(he:dF m env a.tmps) (af:o.op= .makeFunc (.func f) first fJ) (aW:fJ.isEmpty=true) (h:fD first.toList dO=true):fb P m a o (.fn (f+iy) (dO.map (aH.aC env))):=by
 have aO:fJ= #[]:=by simpa using aW
 subst aO
 refine⟨_,by simp [execOp,af,Instr.makeFunc]; rfl,?_⟩
 simp only[aK]
 exact⟨first.toList.map a.eval,by rw[KC]; simp [←be8],nU he h⟩
theorem Hj {m:Mem}: ∀ {rows:List (List I)}{s:List UInt8}{l:List Value},km rows=some s→aM m rows.flatten l→∃mS:List Int,l=mS.map (fun n=> .int .u8 n)∧s=mS.map (fun n=>UInt8.ofNat n.toNat)
 |[],s,l,h,k=>by
  simp only[km,Option.some.injEq]at h
  simp only[aW2,aM]at k
  subst h; subst k
  exact⟨[],rfl,rfl⟩
 |r::aN,s,l,h,k=>by
  unfold km at h
  split at h
  ·rename_i e; cases e
  ·rename_i n Fy e
   simp only[List.cons.injEq]at e
   obtain⟨rfl,rfl⟩:=e
   split at h
   ·rename_i bF cd
    simp only[Option.some.injEq]at h
    subst h
    simp only[aU3,aU4,aV1,aM]at k
    obtain⟨v,ak,rfl,h1,J⟩:=k
    obtain⟨mS,rfl,rfl⟩:=Hj cd J
    exact⟨n::mS,by rw[iV h1]; rfl,rfl⟩
   ·cases h
  ·cases h
theorem Hi: ∀ {rows:List (List I)}{s:List UInt8},km rows=some s→s.length=rows.length
 |[],s,h=>by simp only[km,Option.some.injEq]at h; subst h; rfl
 |r::aN,s,h=>by
  unfold km at h
  split at h
  ·rename_i e; cases e
  ·rename_i n Fy e
   simp only[List.cons.injEq]at e
   obtain⟨rfl,rfl⟩:=e
   split at h
   ·rename_i bF cd
    simp only[Option.some.injEq]at h
    subst h
    simp [Hi cd]
   ·cases h
  ·cases h
theorem Dr (n:Int):(Utf8.encode n).data.toList.length≤maxLen:=by
 unfold Utf8.encode
 simp only
 repeat' split
 all_goals (simp only[aT3,aU1,maxLen]; omega)
theorem NR: ∀(l:List Int) (r:ByteArray),l.foldl (fun r n=>r.push (UInt8.ofNat n.toNat)) r=⟨r.data++(l.map fun n=>UInt8.ofNat n.toNat).toArray⟩
 |[],r=>by simp
 |n::l,r=>by
  simp only[List.foldl_cons]
  rw[NR l]
  simp [ByteArray.push]
theorem HU {w:World}{s d e:TypeId}(an:P.underlying s=some (.slice e)) (he:P.underlying e=some (.int .u8)) (bw:P.underlying d=some .string) (c6:Addr) (mS:List Int) (cap:Nat) (ah: ∀(j:Nat) (v:Value),(mS.map (Value.int .u8))[j]? =some v→w.cell? (c6.add j)=some v):
  (convert s d (.slice (some c6) mS.length cap)).run P w= .ok (.string ⟨⟨mS.map fun n=>UInt8.ofNat n.toNat⟩⟩) w:=by
 have h1:=run_loadCells_list (P:=P) w c6 (mS.map (Value.int .u8)) ah
 rw[aT1]at h1
 rw[run_convert_bytes_string w s d e (some c6) mS.length cap an he bw,run_bytesToString w c6 mS.length cap mS (by simpa using h1),NR]
 have Xj:ByteArray.empty.data= #[]:=rfl
 rw[Xj]
 simp
theorem al7 {s d x b y r}(he:dF m env a.tmps) (af:o.op= .convert s d x) (h:be P o.op (.qd b y)=true) (H:aw) (hp:bL (.qd b y) env H=some r):fb P m a o r:=by
 rw[af]at h
 simp only[be,aT0]at h
 obtain⟨⟨h1,J⟩,aA⟩:=h
 have ah:=cY he h1
 split at J
 ·rename_i bw
  cases b with
  |true=>
   simp only[bL]at hp
   split at hp
   ·rename_i k n _ e
    simp only[Option.some.injEq]at hp
    subst hp
    rw[e]at ah
    refine⟨.string (Utf8.encode n),?_,by simp only[aK]; exact⟨trivial,Dr n⟩⟩
    split at aA
    ·rename_i eX hu
     simp [execOp,af,iV ah,Go.convert,run_underlying hu,run_underlying bw,Conv.intToString]
    ·rename_i cd hu
     split at aA<;>simp at aA
    ·cases aA
   all_goals (first|(cases hp; done)|(rename_i ch _; cases ch; done)|(rename_i ch; cases ch; done))
  |false=>
   split at aA
   ·cases aA
   ·rename_i e hu
    split at aA
    ·rename_i wQ
     have rows: ∀ {rows:List (List I)}{bF:List UInt8},km rows=some bF→aK m (.ak 1 rows) (a.eval x)→fb P m a o (.str bF):=by
      intro rows bF hb ad
      obtain⟨c6,cap,aj,⟨g1,g2⟩,g3⟩:=xg ad
      have aE:=Hi hb
      rcases g3 with g3|⟨b,p,rfl,g3⟩
      ·have:rows=[]:=aV3 g3
       subst this
       simp only[km,Option.some.injEq]at hb
       subst hb
       refine⟨.string ⟨⟨[]⟩⟩,?_,by simp only[aK]; exact⟨trivial,aT8 _⟩⟩
       cases c6 with
       |none=>simp [execOp,af,aj,run_convert_bytes_string m.w s d e _ _ _ hu wQ bw,Conv.bytesToString]; rfl
       |some c6=>
        have:=HU (P:=P) (w:=m.w) hu wQ bw c6 [] cap (by simp)
        simp only[aU1,aX6]at this
        simp [execOp,af,aj,this]
      ·obtain⟨l,f1,f2,f3⟩:=dy.vL g3
       obtain⟨mS,rfl,rfl⟩:=Hj hb f1
       have rB:mS.length=rows.length:=by simpa using f2
       refine⟨.string ⟨⟨mS.map fun n=>UInt8.ofNat n.toNat⟩⟩,?_,by simp only[aK]; exact⟨trivial,by simp only[aT1]; omega⟩⟩
       have:=HU (P:=P) (w:=m.w) hu wQ bw ⟨b,p,none⟩ mS cap (fun j v bq=>by rw[mC]; exact (f3 j v bq).1)
       rw[rB]at this
       simp [execOp,af,aj,this]
     simp only[bL]at hp
     split at hp
     ·rename_i ch _; cases ch
     ·rename_i aN _ e
      rw[e]at ah
      cases hb:km aN with
      |none=>simp [hb]at hp
      |some bF=>
       simp only[hb,aV5,Option.some.injEq]at hp
       subst hp
       exact rows hb ah
     ·rename_i t aN _ e
      rw[e]at ah
      cases hb:km aN with
      |none=>simp [hb]at hp
      |some bF=>
       simp only[hb,aV5,Option.some.injEq]at hp
       subst hp
       exact rows hb (xe ah)
     ·rename_i len cap _ aj
      rw[aj]at ah
      simp only[Option.some.injEq]at hp
      subst hp
      refine⟨.string ⟨⟨[]⟩⟩,?_,by simp only[aK]; exact⟨trivial,aT8 _⟩⟩
      simp [execOp,af,tV ah,run_convert_bytes_string m.w s d e _ _ _ hu wQ bw,Conv.bytesToString]; rfl
     ·cases hp
    ·cases aA
   ·cases aA
 ·cases J
theorem Ny {x:Option Operand}{y:Option aH}{d n:Nat}(he:dF m env a.tmps) (h:pn x y=true) (bb:iT env d y=some n):(x=none∧n=d)∨∃my k,x=some my∧a.eval my= .int k n:=by
 unfold pn at h
 split at h
 ·simp [iT]at bb; exact .inl ⟨rfl,bb.symm⟩
 ·rename_i my Gm
  have U:=cY he h
  simp only[iT]at bb
  split at bb
  ·rename_i k q e
   simp at bb
   subst bb
   rw[e]at U
   exact .inr ⟨my,k,rfl,iV U⟩
  ·cases bb
 ·cases h
theorem FC {w:World}{b:Bool}{len cap:Nat}{cm ae:Option Operand}{mg gB:Option aH}{l h:Nat}(he:dF m env a.tmps) (h1:pn cm mg=true) (J:pn ae gB=true) (aE:iT env 0 mg=some l) (a8:iT env len gB=some h) (aA:l≤h) (bz:h≤len) (bZ:len≤cap):
  (Instr.sliceBounds b len cap (cm.map a.eval) (ae.map a.eval) none).run P w= .ok (l,h,cap) w:=by
 have Af: ∀(v:Value) (k:IntKind) (n y:Nat) (c:BoundsCode),v= .int k n→n≤y→(Instr.sliceBound v y c).run P w= .ok n w:=by
  intro v k n y c e hle
  subst e
  have:(0:Int)≤n∧(n:Int)≤y:=⟨by omega,by omega⟩
  simp [Instr.sliceBound,asIntOf,this]
 rcases Ny he h1 aE with ⟨rfl,rfl⟩|⟨my,k,rfl,aj⟩<;>rcases Ny he J a8 with ⟨rfl,rfl⟩|⟨Gk,br,rfl,aq⟩
 ·simp [Instr.sliceBounds]
 ·simp [Instr.sliceBounds,Af _ _ _ cap _ aq (by omega)]
 ·simp [Instr.sliceBounds,Af _ _ _ _ _ aj aA]
 ·simp [Instr.sliceBounds,Af _ _ _ cap _ aq (by omega),Af _ _ _ _ _ aj aA]
theorem NZ {f first fJ dO}(he:dF m env a.tmps) (af:o.op= .makeFunc (.func f) first fJ) (aW:first.isEmpty=true) (h:fD fJ.toList dO=true) (hb:aW7 f iy=true):fb P m a o (.fn f (dO.map (aH.aC env))):=by
 have gd:f<iy:=by simpa using hb
 have aO:first= #[]:=by simpa using aW
 subst aO
 refine⟨_,by simp [execOp,af,Instr.makeFunc]; rfl,?_⟩
 simp only[aK]
 exact⟨fJ.toList.map a.eval,by rw[uG gd]; simp [←be8],nU he h⟩
theorem am7 {t x y}(he:dF m env a.tmps) (af:o.op= .makeInterface t x) (h:cK x y=true) (J:(match P.underlying t with|some (.interface _)=>false|some _=>true|none=>false)=true):fb P m a o (.gJ t (y.aC env)):=by
 refine⟨.iface t (a.eval x),?_,by simp only[aK]; exact⟨_,rfl,cY he h⟩⟩
 split at J
 ·cases J
 ·rename_i d dP hu
  cases d<;>first
   |exact (dP _ hu).elim
   |exact (dP _ rfl).elim
   |simp [execOp,af,Instr.makeInterface,run_underlying hu]
 ·cases J
end
section
variable {P:Program}{m:Mem}{env:Env}{a:Act}{o:Oper}
theorem Sa {w:World}{op:BinOp}{k:IntKind}{x y:Int}{r:I}(t:TypeId) (h:p8 op k x y=some r): ∃v,(binOp op t (.int k x) (.int k y)).run P w= .ok v w∧aK m r v:=by
 cases op<;>simp only[p8,Option.some.injEq]at h<;>first
  |(cases h; done)
  |(subst h; refine⟨_,by simp [binOp,Op.intArith,Op.intCmp]; rfl,?_⟩; simp only[aK]; done)
  |(subst h; refine⟨_,by simp [binOp,Op.intArith,Op.intCmp]; rfl,?_⟩; simp only[aK]; first|rfl|(congr 1; done))
  |(subst h; refine⟨_,by simp [binOp,Op.intBits]; rfl,?_⟩; simp only[aK]; done)
  |(split at h<;>first
   |(cases h; done)
   |(rename_i hb; simp only[Option.some.injEq]at h; subst h; refine⟨_,by simp [binOp,Op.shift,Int.not_lt.2 hb]; rfl,?_⟩; simp only[aK]; done))
theorem at0 {w:World}{op:BinOp}{k j:IntKind}{x y:Int}{r:I}(t:TypeId) (h:tW op k x y=some r): ∃v,(binOp op t (.int k x) (.int j y)).run P w= .ok v w∧aK m r v:=by
 cases op<;>simp only[tW]at h<;>first
  |(cases h; done)
  |(split at h<;>first
   |(cases h; done)
   |(rename_i hb; simp only[Option.some.injEq]at h; subst h; refine⟨_,by simp [binOp,Op.shift,Int.not_lt.2 hb]; rfl,?_⟩; simp only[aK]; done))
theorem Sb {w:World}{op:BinOp}{x y:List UInt8}{r:I}(t:TypeId) (h:sa op x y=some r): ∃v,(binOp op t (.string ⟨⟨x⟩⟩) (.string ⟨⟨y⟩⟩)).run P w= .ok v w∧aK m r v:=by
 have e:=Il x y
 rw[v7,v7]at e
 cases op<;>simp only[sa,Option.some.injEq]at h<;>first
  |(cases h; done)
  |(subst h; refine⟨_,by simp [binOp,Op.stringOp,v7,e]; rfl,?_⟩; simp only[aK]; done)
  |(subst h; refine⟨_,by simp [binOp,Op.stringOp,v7,e]; rfl,?_⟩; simp only[aK]; first|rfl|simp)
theorem R7 {w:World}{op:BinOp}{x y:Bool}{r:I}{t:TypeId}(aF:P.underlying t=some .bool) (h:s6 op x y=some r): ∃v,(binOp op t (.bool x) (.bool y)).run P w= .ok v w∧aK m r v:=by
 have e: ∀w:World,(Op.equal t (.bool x) (.bool y)).run P w= .ok (x==y) w:=fun w=>run_equalIn_bool' w 9999 t x y aF
 cases op<;>simp only[s6,Option.some.injEq]at h<;>first
  |(cases h; done)
  |(subst h; refine⟨_,by simp [binOp,e]; rfl,?_⟩; simp only[aK])
theorem al3 {op t x y u cE gO r}(he:dF m env a.tmps) (af:o.op= .binOp op t x y u) (h:be P o.op (.bin op cE gO)=true) (H:aw) (hp:bL (.bin op cE gO) env H=some r):fb P m a o r:=by
 rw[af]at h
 simp only[be,aT0]at h
 obtain⟨⟨_,h1⟩,J⟩:=h
 have U:=cY he h1
 have bg:=cY he J
 simp only[bL]at hp
 split at hp
 ·rename_i k p j q aj aq
  rw[aj]at U
  rw[aq]at bg
  split at hp
  ·rename_i VL
   subst VL
   obtain⟨v,g1,g2⟩:=Sa (P:=P) (w:=m.w) (m:=m) t hp
   exact⟨v,by simp [execOp,af,iV U,iV bg,AF,g1],g2⟩
  ·obtain⟨v,g1,g2⟩:=at0 (P:=P) (w:=m.w) (m:=m) (j:=j) t hp
   exact⟨v,by simp [execOp,af,iV U,iV bg,AF,g1],g2⟩
 ·rename_i p q aj aq
  rw[aj]at U
  rw[aq]at bg
  obtain⟨v,g1,g2⟩:=Sb (P:=P) (w:=m.w) (m:=m) t hp
  exact⟨v,by simp [execOp,af,(qH U).1,(qH bg).1,Km,g1],g2⟩
 ·cases hp
theorem al4 {op t x y u cE gO r}(he:dF m env a.tmps) (af:o.op= .binOp op t x y u) (h:be P o.op (.p7 op cE gO)=true) (H:aw) (hp:bL (.p7 op cE gO) env H=some r):fb P m a o r:=by
 rw[af]at h
 simp only[be,aT0]at h
 obtain⟨⟨⟨_,h1⟩,J⟩,aA⟩:=h
 have U:=cY he h1
 have bg:=cY he J
 simp only[bL]at hp
 split at aA
 ·rename_i hb
  split at hp
  ·rename_i p q aj aq
   rw[aj]at U
   rw[aq]at bg
   obtain⟨v,g1,g2⟩:=R7 (P:=P) (w:=m.w) (m:=m) hb hp
   exact⟨v,by simp [execOp,af,sO U,sO bg,VU,g1],g2⟩
  ·cases hp
 ·cases aA
theorem al8 {op t x y u neg T bx cE gO r}(he:dF m env a.tmps) (af:o.op= .binOp op t x y u) (h:be P o.op (.ny neg T bx cE gO)=true) (H:aw) (hp:bL (.ny neg T bx cE gO) env H=some r):fb P m a o r:=by
 rw[af]at h
 simp only[be,aT0,decide_eq_true_eq,Bool.not_eq_true']at h
 obtain⟨⟨⟨⟨⟨⟨h1,rfl⟩,J⟩,aA⟩,bz⟩,bZ⟩,ef⟩:=h
 have U:=cY he J
 have bg:=cY he aA
 simp only[bL]at hp
 split at hp
 ·rename_i cs ds aj aq
  rw[aj]at U
  rw[aq]at bg
  obtain⟨l,g1,g2⟩:=zn U
  obtain⟨bM,g3,g4⟩:=zn bg
  cases bs:gb bx cs ds with
  |none=>simp [bs]at hp
  |some b=>
   simp [bs]at hp
   subst hp
   split at ef
   ·rename_i b6 hu
    have aL:nj P t=some true:=by simp [nj,hu]
    have j3:=Kn (P:=P) (w:=m.w) 8 9992 bz aL g2 g4 bs
    have he:(Op.equal t (.agg ⟨l⟩) (.agg ⟨bM⟩)).run P m.w= .ok b m.w:=j3
    refine⟨.bool (bif neg then !b else b),?_,by simp only[aK]⟩
    rw[h1]at af
    cases neg with
    |true=>simp [execOp,af,g1,g3,Kl _ _ _ _ _ _ bZ,binOp,he]
    |false=>simp [execOp,af,g1,g3,Kl _ _ _ _ _ _ bZ,binOp,he]
   ·cases ef
 ·cases hp
theorem s3 {α:Type}{l:Array α}{x:α}(h:l.toList=[x]):l= #[x]:=by cases l; simp at h; rw[h]
theorem Aj {c:Call}{b:Builtin}{x:Operand}(af:o.op= .call c) (hb:c.callee= .builtin b) (U:c.args= #[x]) (P:Program) (w w':World) (v:Value) (h:(builtin b c.argTypes o.type (c.args.map fun| .const _=>true| _=>false) #[a.eval x]).run P w= .ok (.value v) w'):
  (execOp a.eval o).run P w= .ok (.value v) w':=by
 simp [execOp,af,resolve,hb,invoke,U]at h ⊢
 exact h
theorem am4 {c y r}(he:dF m env a.tmps) (af:o.op= .call c) (h:be P o.op (.kV y)=true) (H:aw) (hp:bL (.kV y) env H=some r):fb P m a o r:=by
 obtain⟨callee,args,argTypes⟩:=c
 rw[af]at h
 cases callee with
 |value f=>simp [be]at h
 |invoke _ _=>simp [be]at h
 |builtin b=>
  cases b<;>simp only[be]at h<;>first
   |(cases h; done)
   |skip
  simp only[aT0]at h
  obtain⟨h1,J⟩:=h
  split at h1
  ·rename_i x U
   split at J
   ·rename_i t aF
    have ah:=cY he h1
    obtain rfl:=s3 U
    obtain rfl:=s3 aF
    simp only[bL]at hp
    split at J
    ·rename_i hu
     split at hp
     ·rename_i s e
      rw[e]at ah
      simp at hp
      subst hp
      refine⟨_,Aj af rfl rfl P m.w m.w (.int .i64 s.length) ?_,by simp only[aK]⟩
      simp [builtin,Builtin.len_,run_underlying hu,(qH ah).1,goInt]
      rfl
     ·cases hp
    ·cases J
   ·cases J
  ·cases h1
theorem am2 {c y r}(he:dF m env a.tmps) (af:o.op= .call c) (h:be P o.op (.len y)=true) (H:aw) (hp:bL (.len y) env H=some r):fb P m a o r:=by
 obtain⟨callee,args,argTypes⟩:=c
 rw[af]at h
 cases callee with
 |value f=>simp [be]at h
 |invoke _ _=>simp [be]at h
 |builtin b=>
  cases b<;>simp only[be]at h<;>first
   |(cases h; done)
   |skip
  simp only[aT0]at h
  obtain⟨h1,J⟩:=h
  split at h1
  ·rename_i x U
   split at J
   ·rename_i t aF
    have ah:=cY he h1
    obtain rfl:=s3 U
    obtain rfl:=s3 aF
    simp only[bL]at hp
    split at J
    ·rename_i el hu
     have run: ∀c6 (n cap:Nat),a.eval x= .slice c6 n cap→(execOp a.eval o).run P m.w= .ok (.value (.int .i64 n)) m.w:=by
      intro c6 n cap e
      refine Aj af rfl rfl P m.w m.w (.int .i64 n) ?_
      simp [builtin,Builtin.len_,run_underlying hu,e,goInt]
     split at hp
     ·rename_i e
      rw[e]at ah
      simp at hp
      subst hp
      obtain⟨c6,cap,aj,_⟩:=xg ah
      exact⟨_,run _ _ _ aj,by simp only[aK]⟩
     ·rename_i e
      rw[e]at ah
      simp at hp
      subst hp
      obtain⟨c6,cap,aj,_⟩:=xg (xe ah)
      exact⟨_,run _ _ _ aj,by simp only[aK]⟩
     ·rename_i e
      rw[e]at ah
      simp at hp
      subst hp
      exact⟨_,run _ _ _ (tV ah),by simp only[aK]⟩
     ·cases hp
    ·cases J
   ·cases J
  ·cases h1
theorem am3 {c n}(af:o.op= .call c) (h:be P o.op (.pE n)=true):fb P m a o (.int .i64 n):=by
 obtain⟨callee,args,argTypes⟩:=c
 rw[af]at h
 cases callee with
 |value f=>simp [be]at h
 |invoke _ _=>simp [be]at h
 |builtin b=>
  cases b<;>simp only[be]at h<;>first
   |(cases h; done)
   |skip
  simp only[aT0]at h
  obtain⟨h1,J⟩:=h
  split at h1
  ·rename_i x U
   split at J
   ·rename_i t aF
    obtain rfl:=s3 U
    obtain rfl:=s3 aF
    refine⟨_,Aj af rfl rfl P m.w m.w (.int .i64 n) ?_,by simp only[aK]⟩
    split at J
    ·rename_i hu
     simp at J
     simp [builtin,Builtin.len_,run_underlying hu,goInt,J]
    ·rename_i hu
     split at J
     ·rename_i Yb
      simp at J
      simp [builtin,Builtin.len_,run_underlying hu,run_underlying Yb,goInt,J]
     ·cases J
    ·cases J
   ·cases J
  ·cases h1
end
def fM (l:List Value) (o:Nat) (new:List Value):List Value:=l.take o++new++l.drop (o+new.length)
theorem FH {m:Mem}{cs new:List I}{l wZ:List Value}(h:aM m cs l) (k:aM m new wZ) (o:Nat):aM m (fs cs o new) (fM l o wZ):=by
 unfold fs fM
 rw[aM.length k]
 exact aM.append (aM.append (aM.take _ h) k) (aM.drop _ h)
theorem as3 (l new:List Value) (v:Value) (n:Nat) (h:n<l.length):fM (l.set n v) (n+1) new=fM l n (v::new):=by
 unfold fM
 have aj:(l.set n v).take (n+1)=l.take n++[v]:=by
  rw[List.take_succ_eq_append_getElem (by simpa using h)]
  simp only[List.take_set,List.getElem_set_self]
  rw[List.set_eq_of_length_le (by simp; omega)]
 have aq:(l.set n v).drop (n+1+new.length)=l.drop (n+(new.length+1)):=by
  rw[List.drop_set,if_pos (by omega)]
  congr 1; omega
 rw[aj,aq]; simp
theorem Qm: ∀(new:List Value) (l:List Value) (o j:Nat),o+j+new.length≤l.length→
  (new.zipIdx j).foldl (fun (cs:Array Value) (p:Value×Nat)=>cs.setIfInBounds (o+p.2) p.1) ⟨l⟩=⟨fM l (o+j) new⟩
 |[],l,o,j,h=>by simp [fM]
 |v::new,l,o,j,h=>by
  simp only[aT3]at h
  simp only[List.zipIdx_cons,List.foldl_cons]
  rw[show (⟨l⟩:Array Value).setIfInBounds (o+j) v=⟨l.set (o+j) v⟩ by simp]
  rw[Qm new (l.set (o+j) v) o (j+1) (by simp; omega)]
  rw[show o+(j+1)=(o+j)+1 by omega]
  rw[as3 l new v (o+j) (by omega)]
def oV (place:Nat→Option (Nat×Nat)):List (Nat×Operand)→List (Nat×Nat×aH)→Prop
 |[],iU=>iU=[]
 |p::ps,iU=> ∃q BB,iU=q::BB∧place p.1=some (q.1,q.2.1)∧cK p.2 q.2.2=true∧oV place ps BB
theorem HH {m:Mem}{a:I}{v:Value}(h:aK m a v) (af:a.ev=true):aM m a.cells v.cells.toList:=by
 cases aL:a with
 |agg cs=>
  subst aL
  obtain⟨l,rfl,J⟩:=zn h
  exact J
 |ec=>subst aL; exact absurd af bk0
 |cV cs=>subst aL; exact absurd af bk0
 | _=>
  subst aL
  rw[HG (y7 h af)]
  simp only[I.cells,aM]
  exact⟨v,[],rfl,h,rfl⟩
theorem AJ {m:Mem}{a:Act}{env:Env}(he:dF m env a.tmps) (place:Nat→Option (Nat×Nat)): ∀(ps:List (Nat×Operand)) (iU:List (Nat×Nat×aH)) (cs:List I) (l:List Value) (r:List I),
  oV place ps iU→aM m cs l→nl env cs iU=some r→
  ∃bM,Instr.fill place ⟨l⟩ (ps.map fun (i,x)=>(i,a.eval x))=some ⟨bM⟩∧aM m r bM
 |[],iU,cs,l,r,hp,aE,hb=>by
  simp only[oV]at hp
  subst hp
  simp only[nl,Option.some.injEq]at hb
  subst hb
  exact⟨l,by simp [Instr.fill],aE⟩
 |(i,x)::ps,iU,cs,l,r,hp,aE,hb=>by
  simp only[oV]at hp
  obtain⟨⟨off,size,y⟩,BB,rfl,h1,J,aA⟩:=hp
  simp only[nl]at hb
  split at hb
  ·rename_i ah
   obtain⟨c1,c2,eV⟩:=ah
   have Hn:(y.aC env).cells.length=size:=c1
   have aL0:off+size≤cs.length:=c2
   have sv:(a.eval x).cells.toList.length=size:=(aM.length (HH (cY he J) eV)).trans c1
   have ad:=HH (cY he J) eV
   have hlen:=aM.length ad
   have A0:=aM.length aE
   obtain⟨bM,g1,g2⟩:=AJ he place ps BB _ (fM l off (a.eval x).cells.toList) r aA (FH aE ad off) hb
   refine⟨bM,?_,g2⟩
   simp only[aU5,Instr.fill,h1]
   have dd:(a.eval x).cells.size=size:=by rw[←aX4,hlen]; exact c1
   have sw: ¬((decide ((a.eval x).cells.size≠size)||decide (off+(a.eval x).cells.size>(⟨l⟩:Array Value).size))=true):=by
    simp only[dd,ne_eq,not_true_eq_false,decide_false,Bool.false_or,decide_eq_true_eq,ba5]
    omega
   rw[if_neg sw]
   have aD:(a.eval x).cells.zipIdx.foldl (fun (cs:Array Value) (p:Value×Nat)=>cs.setIfInBounds (off+p.2) p.1) ⟨l⟩=⟨fM l off (a.eval x).cells.toList⟩:=by
    rw[←Array.foldl_toList,Array.toList_zipIdx]
    have:=Qm (a.eval x).cells.toList l off 0 (by rw[sv]; omega)
    simpa using this
   rw[aD]
   exact g1
  ·cases hb
theorem NJ {P:Program}: ∀ {b6:List Field}{places:List (Nat×Nat)},b6.mapM (fun f=>(P.info? f.type).map fun i=>(f.offset,i.size))=some places→∀(i:Nat) (f:Field),b6[i]? =some f→∃xn,P.info? f.type=some xn∧places[i]? =some (f.offset,xn.size)
 |[],_,_,_,_,h=>by simp at h
 |g::b6,places,hp,i,f,h=>by
  simp only[List.mapM_cons,Option.bind_eq_bind,Option.pure_def]at hp
  cases ae:P.info? g.type with
  |none=>simp [ae]at hp
  |some xn=>
   cases ab:b6.mapM (fun f=>(P.info? f.type).map fun i=>(f.offset,i.size)) with
   |none=>simp [ae,ab]at hp
   |some rest=>
    simp [ae,ab]at hp
    subst hp
    cases i with
    |zero=>simp at h; subst h; exact⟨xn,ae,rfl⟩
    |succ i=>simp at h; obtain⟨t2,aj,aq⟩:=NJ ab i f h; exact⟨t2,aj,by simpa using aq⟩
theorem HM {P:Program}{b6:Array Field}{places:List (Nat×Nat)}(hp:b6.toList.mapM (fun f=>(P.info? f.type).map fun i=>(f.offset,i.size))=some places): ∀ {ps:List (Nat×Operand)}{iU:List (Nat×Nat×aH)},wc P b6 ps iU=true→oV (places.toArray[·]?) ps iU
 |[],[],_=>by simp only[oV]
 |[],_:: _,h=>by simp [wc]at h
 | _:: _,[],h=>by simp [wc]at h
 |(i,x)::ps,(off,size,y)::iU,h=>by
  simp only[wc,aT0]at h
  obtain⟨⟨h1,J⟩,aA⟩:=h
  simp only[oV]
  refine⟨_,_,rfl,?_,J,HM hp aA⟩
  split at h1
  ·rename_i f aO
   simp only[aT0,decide_eq_true_eq]at h1
   obtain⟨aj,aq⟩:=h1
   obtain⟨xn,bD,da⟩:=BR aq
   have oJ:b6.toList[i]? =some f:=by simpa using aO
   obtain⟨t2,g1,g2⟩:=NJ hp i f oJ
   rw[bD]at g1
   simp at g1
   subst g1
   simp [g2,aj,da]
  ·cases h1
theorem HL {size:Nat}: ∀ {ps:List (Nat×Operand)}{iU:List (Nat×Nat×aH)},we size ps iU=true→oV (fun i=>some (i*size,size)) ps iU
 |[],[],_=>by simp only[oV]
 |[],_:: _,h=>by simp [we]at h
 | _:: _,[],h=>by simp [we]at h
 |(i,x)::ps,(off,pN,y)::iU,h=>by
  simp only[we,aT0,decide_eq_true_eq]at h
  obtain⟨⟨⟨rfl,rfl⟩,J⟩,aA⟩:=h
  simp only[oV]
  exact⟨_,_,rfl,rfl,J,HL aA⟩
section
variable {P:Program}{m:Mem}{env:Env}{a:Act}{o:Oper}
theorem B8 {t:TypeId}{zero:List I}(h:sV P t zero=true): ∃i z,P.info? t=some i∧i.zero=some z∧Ao zero z=true:=by
 unfold sV at h
 cases ae:P.info? t with
 |none=>simp [ae]at h
 |some i=>
  cases aD:i.zero with
  |none=>simp [ae,aD]at h
  |some z=>simp [ae,aD]at h; exact⟨i,z,rfl,aD,h⟩
theorem al5 {t parts zero ps r}(he:dF m env a.tmps) (af:o.op= .build t parts) (h:be P o.op (.build zero ps)=true) (H:aw) (hp:bL (.build zero ps) env H=some r):fb P m a o r:=by
 rw[af]at h
 simp only[be,aT0]at h
 obtain⟨h1,J⟩:=h
 obtain⟨i,z,ae,aD,ah⟩:=B8 h1
 have LM:=(Ap (m:=m) ah).1
 simp only[bL]at hp
 cases hb:nl env zero ps with
 |none=>simp [hb]at hp
 |some cs=>
  simp [hb]at hp
  subst hp
  have fin: ∀bM,P.built t ((parts.map fun (i,x)=>(i,a.eval x)).toList)=some ⟨bM⟩→aM m cs bM→fb P m a o (.agg cs):=by
   intro bM g1 g2
   refine⟨.agg ⟨bM⟩,?_,by simp only[aK]; exact⟨bM,rfl,g2⟩⟩
   have:=run_build (P:=P) m.w t (parts.map fun (i,x)=>(i,a.eval x)) ⟨bM⟩ g1
   simp only[execOp,af,Sem.run_bind,this,Result.andThen_ok,Sem.run_pure]
  have LK:(⟨z.cells.toList⟩:Array Value)=z.cells:=rfl
  split at J
  ·rename_i b6 hu
   simp only[aT0]at J
   obtain⟨J,aA⟩:=J
   obtain⟨places,Ec⟩:=Option.isSome_iff_exists.1 aA
   obtain⟨bM,g1,g2⟩:=AJ he (places.toArray[·]?) parts.toList ps zero z.cells.toList cs (HM Ec J) LM hb
   refine fin bM ?_ g2
   simp only[Program.built,ae,hu,aD,Ec,be8]
   exact g1
  ·rename_i n e hu
   split at J
   ·rename_i s an
    obtain⟨xn,aj,aq⟩:=BR an
    obtain⟨bM,g1,g2⟩:=AJ he (fun i=>some (i*s,s)) parts.toList ps zero z.cells.toList cs (HL J) LM hb
    refine fin bM ?_ g2
    simp only[Program.built,ae,hu,aD,aj,be8,aq]
    exact g1
   ·cases J
  ·cases J
theorem Mj {w:World}: ∀(rest:List I) (k:IntKind) (x:Int) (l:List Value) (r:I),kC false (.int k x) rest=some r→aM m rest l→∃v,(l.foldlM Builtin.min2 (.int k x)).run P w= .ok v w∧aK m r v
 |[],k,x,l,r,h,aE=>by
  simp only[aM]at aE
  subst aE
  simp [kC]at h
  subst h
  exact⟨_,by simp; rfl,by simp only[aK]⟩
 |b::rest,k,x,l,r,h,aE=>by
  simp only[aM]at aE
  obtain⟨v,ak,rfl,h1,J⟩:=aE
  have hint: ∃j y,b= .int j y:=by
   cases b<;>first
    |exact⟨_,_,rfl⟩
    |(simp [kC]at h; done)
  obtain⟨j,y,rfl⟩:=hint
  simp only[kC]at h
  split at h
  ·rename_i e
   subst e
   obtain⟨bp,g1,g2⟩:=Mj rest k _ ak r h J
   refine⟨bp,?_,g2⟩
   rw[iV h1]
   simp only[List.foldlM_cons,Sem.run_bind,Builtin.min2,Sem.run_pure,Result.andThen_ok]
   rw[show (if y<x then y else x)=min x y by simp only[Int.min_def]; split<;>split<;>omega]
   simpa using g1
  ·cases h
theorem Mc {w:World}: ∀(rest:List I) (k:IntKind) (x:Int) (l:List Value) (r:I),kC true (.int k x) rest=some r→aM m rest l→∃v,(l.foldlM Builtin.max2 (.int k x)).run P w= .ok v w∧aK m r v
 |[],k,x,l,r,h,aE=>by
  simp only[aM]at aE
  subst aE
  simp [kC]at h
  subst h
  exact⟨_,by simp; rfl,by simp only[aK]⟩
 |b::rest,k,x,l,r,h,aE=>by
  simp only[aM]at aE
  obtain⟨v,ak,rfl,h1,J⟩:=aE
  have hint: ∃j y,b= .int j y:=by
   cases b<;>first
    |exact⟨_,_,rfl⟩
    |(simp [kC]at h; done)
  obtain⟨j,y,rfl⟩:=hint
  simp only[kC]at h
  split at h
  ·rename_i e
   subst e
   obtain⟨bp,g1,g2⟩:=Mc rest k _ ak r h J
   refine⟨bp,?_,g2⟩
   rw[iV h1]
   simp only[List.foldlM_cons,Sem.run_bind,Builtin.max2,Sem.run_pure,Result.andThen_ok]
   rw[show (if y>x then y else x)=max x y by simp only[Int.max_def]; split<;>split<;>omega]
   simpa using g1
  ·cases h
theorem am5 {c ll dO r}(he:dF m env a.tmps) (af:o.op= .call c) (h:be P o.op (.j4 ll dO)=true) (H:aw) (hp:bL (.j4 ll dO) env H=some r):fb P m a o r:=by
 obtain⟨callee,args,argTypes⟩:=c
 rw[af]at h
 have key:fD args.toList dO=true→∃k x rest l,(args.map a.eval).toList= .int k x::l∧aM m rest l∧kC ll (.int k x) rest=some r:=by
  intro U
  have aE:=nU he U
  simp only[bL]at hp
  split at hp
  ·rename_i a0 rest e
   rw[e]at aE
   simp only[aM]at aE
   obtain⟨v,ak,g1,g2,g3⟩:=aE
   have hint: ∃k x,a0= .int k x:=by
    cases a0<;>cases rest<;>first
     |exact⟨_,_,rfl⟩
     |(simp [kC]at hp; done)
   obtain⟨k,x,rfl⟩:=hint
   exact⟨k,x,rest,ak,by rw[iV g2]at g1; simpa using g1,g3,hp⟩
  ·cases hp
 cases callee with
 |value f=>simp [be]at h
 |invoke _ _=>simp [be]at h
 |builtin b=>
  cases b<;>cases ll<;>simp only[be]at h<;>first
   |(cases h; done)
   |skip
  ·obtain⟨k,x,rest,l,g1,g2,g3⟩:=key h
   obtain⟨v,aj,aq⟩:=Mc (P:=P) (w:=m.w) rest k x l r g3 g2
   refine⟨v,?_,aq⟩
   simp [execOp,af,resolve,invoke,builtin,Builtin.max_]
   simp at g1
   simp [g1,aj]
  ·obtain⟨k,x,rest,l,g1,g2,g3⟩:=key h
   obtain⟨v,aj,aq⟩:=Mj (P:=P) (w:=m.w) rest k x l r g3 g2
   refine⟨v,?_,aq⟩
   simp [execOp,af,resolve,invoke,builtin,Builtin.min_]
   simp at g1
   simp [g1,aj]
set_option maxHeartbeats 1600000 in
theorem af4 {e:ba}{r:I}(he:dF m env a.tmps) (aZ:bG m) (h:be P o.op e=true) (hp:bL e env m.H=some r):fb P m a o r:=by
 cases e with
 |fO y=>
  simp only[bL,Option.some.injEq]at hp
  subst hp
  cases af:o.op<;>simp [af,be]at h
  ·exact N0 he (.inl af) h
  ·exact N0 he (.inr af) h
 |pick c x y=>
  cases af:o.op<;>simp [af,be]at h
  exact an1 he af h.1.1 h.1.2 h.2 m.H hp
 |fB y=>
  cases af:o.op<;>simp [af,be]at h
  exact am9 he af h m.H hp
 |build zero ps=>
  cases af:o.op<;>try (simp [af,be]at h; done)
  exact al5 he af h m.H hp
 |load agg n y=>
  cases af:o.op<;>simp [af,be]at h
  exact Fb he aZ af h.1 h.2 hp
 |gq eJ agg n y=>
  cases af:o.op<;>simp [af,be]at h
  exact Fb he aZ af h.1 h.2 (EX hp).1
 |qz agg n y=>
  cases af:o.op<;>simp [af,be]at h
  exact Fb he aZ af h.1 h.2 (af3 hp)
 |nA off y=>
  cases af:o.op<;>try (simp [af,be]at h; done)
  exact am0 he af h m.H hp
 |field agg off n y=>
  cases af:o.op<;>try (simp [af,be]at h; done)
  exact am1 he af h m.H hp
 |bin op x y=>
  cases af:o.op<;>try (simp [af,be]at h; done)
  have nF:=h
  rw[af]at nF
  simp only[be,aT0,decide_eq_true_eq]at nF
  obtain⟨⟨rfl,_⟩,_⟩:=nF
  exact al3 he af h m.H hp
 |p7 op x y=>
  cases af:o.op<;>try (simp [af,be]at h; done)
  have nF:=h
  rw[af]at nF
  simp only[be,aT0,decide_eq_true_eq]at nF
  obtain⟨⟨⟨rfl,_⟩,_⟩,_⟩:=nF
  exact al4 he af h m.H hp
 |ny neg T bx x y=>
  cases af:o.op<;>try (simp [af,be]at h; done)
  exact al8 he af h m.H hp
 |not y=>
  cases af:o.op<;>try (simp [af,be]at h; done)
  rename_i u t x
  cases u<;>simp [af,be]at h
  exact an0 he af h m.H hp
 |qD neg y=>
  cases af:o.op<;>try (simp [af,be]at h; done)
  exact an2 he af h m.H hp
 |neg y=>
  cases af:o.op<;>try (simp [af,be]at h; done)
  rename_i u t x
  cases u<;>simp [af,be]at h
  exact am8 he af h m.H hp
 |conv k y=>
  cases af:o.op<;>try (simp [af,be]at h; done)
  exact al6 he af h m.H hp
 |kV y=>
  cases af:o.op<;>try (simp [af,be]at h; done)
  exact am4 he af h m.H hp
 |len y=>
  cases af:o.op<;>try (simp [af,be]at h; done)
  exact am2 he af h m.H hp
 |pE n=>
  simp only[bL,Option.some.injEq]at hp
  subst hp
  cases af:o.op<;>try (simp [af,be]at h; done)
  exact am3 af h
 |j4 ll dO=>
  cases af:o.op<;>try (simp [af,be]at h; done)
  exact am5 he af h m.H hp
 |extract i y=>
  cases af:o.op<;>simp [af,be]at h
  obtain⟨h1,rfl⟩:=h
  exact al9 he af h1 m.H hp
 |iS f dO=>
  simp only[bL,Option.some.injEq]at hp
  subst hp
  cases af:o.op<;>try (simp [af,be]at h; done)
  rename_i g first fJ
  cases g<;>simp [af,be]at h
  obtain⟨⟨⟨rfl,J⟩,aA⟩,bz⟩:=h
  exact NZ he af (by simpa using J) aA (by simpa using bz)
 |sE f dO=>
  simp only[bL,Option.some.injEq]at hp
  subst hp
  cases af:o.op<;>try (simp [af,be]at h; done)
  rename_i g first fJ
  cases g<;>simp [af,be]at h
  obtain⟨⟨rfl,J⟩,aA⟩:=h
  exact am6 he af (by simpa using J) aA
 |qd b y=>
  cases af:o.op<;>try (simp [af,be]at h; done)
  exact al7 he af h m.H hp
 |oR T y=>
  simp only[bL,Option.some.injEq]at hp
  subst hp
  cases af:o.op<;>try (simp [af,be]at h; done)
  rename_i t x
  rw[af]at h
  simp only[be,aT0,decide_eq_true_eq]at h
  obtain⟨⟨rfl,J⟩,aA⟩:=h
  exact am7 he af J aA
 | _=>simp [bL]at hp
end
section
variable {P:Program}{m:Mem}{env:Env}{a:Act}{o:Oper}
theorem ni {K:Act→World→Prop}{Q:Exit→Act→World→Prop}{w w':World}{v:Value}(h:(execOp a.eval o).run P w= .ok (.value v) w') (hk:K (a.put o.dst v) w'):o.wp P a w K Q:=by
 simp only[Oper.wp,h,Oper.upon]
 exact hk
theorem Vb {t x y u cE gO k p q}(he:dF m env a.tmps) (af:o.op= .binOp .quo t x y u) (h1:cK x cE=true) (J:cK y gO=true) (aj:cE.aC env= .int k p) (aq:gO.aC env= .int k q) (bs:q≠0):fb P m a o (.int k (k.wrap (p.tdiv q))):=by
 have U:=cY he h1
 have bg:=cY he J
 rw[aj]at U; rw[aq]at bg
 exact⟨_,by simp [execOp,af,iV U,iV bg,AF,binOp,Op.intDiv,bs]; rfl,by simp only[aK]⟩
theorem Vc {t x y u cE gO k p q}(he:dF m env a.tmps) (af:o.op= .binOp .rem t x y u) (h1:cK x cE=true) (J:cK y gO=true) (aj:cE.aC env= .int k p) (aq:gO.aC env= .int k q) (bs:q≠0):fb P m a o (.int k (p.tmod q)):=by
 have U:=cY he h1
 have bg:=cY he J
 rw[aj]at U; rw[aq]at bg
 exact⟨_,by simp [execOp,af,iV U,iV bg,AF,binOp,Op.intDiv,bs]; rfl,by simp only[aK]⟩
theorem UZ {t x y u cE gO p q}(he:dF m env a.tmps) (af:o.op= .binOp .add t x y u) (h1:cK x cE=true) (J:cK y gO=true) (aj:cE.aC env= .str p) (aq:gO.aC env= .str q) (bs:p.length+q.length≤maxLen):fb P m a o (.str (p++q)):=by
 have U:=cY he h1
 have bg:=cY he J
 rw[aj]at U; rw[aq]at bg
 have an: ¬((((⟨⟨p⟩⟩:ByteArray).size+(⟨⟨q⟩⟩:ByteArray).size:Nat):Int)>IntKind.i64.max):=by
  have aj:(⟨⟨p⟩⟩:ByteArray).size=p.length:=rfl
  have aq:(⟨⟨q⟩⟩:ByteArray).size=q.length:=rfl
  rw[aj,aq]
  have:IntKind.i64.max=9223372036854775807:=by decide
  rw[this]
  simp only[maxLen]at bs
  omega
 refine⟨.string ⟨⟨p++q⟩⟩,?_,by simp only[aK]; exact⟨trivial,by simpa using bs⟩⟩
 simp only[execOp,af,(qH U).1,(qH bg).1,Sem.run_bind,Km,Result.andThen_ok,binOp,Op.stringOp]
 rw[if_neg an]
 simp [Sn]
theorem Bg:maxLen=9223372036854775807:=by decide
theorem If {t x i size cE c3 rows k n r}(he:dF m env a.tmps) (af:o.op= .indexAddr t x i) (h:be P o.op (.gS size cE c3)=true) (aj:aK m (.ak size rows) (a.eval x)) (aq:c3.aC env= .int k n) (aW:0≤n) (ab:rows[n.toNat]? =some r):fb P m a o (.dL r 0):=by
 rw[af]at h
 simp only[be,aT0]at h
 obtain⟨⟨h1,J⟩,aA⟩:=h
 have ae:=cY he J
 rw[aq]at ae
 obtain⟨c6,cap,g1,⟨g2,Wg⟩,g3⟩:=xg aj
 have cL:n.toNat<rows.length:=(List.getElem?_eq_some_iff.1 ab).1
 rcases g3 with g3|⟨b,p,rfl,g3⟩
 ·omega
 ·obtain⟨g4,g5⟩:=dy.get g3 _ _ ab
  split at aA
  ·rename_i el e9
   have dd:iq P el=some size:=by simpa using aA
   have hu:P.underlying t=some (.slice el):=by
    unfold jl at e9
    split at e9
    ·rename_i e hu; simp at e9; subst e9; exact hu
    ·cases e9
   refine⟨.pointer (some ⟨b,p+n.toNat*size,none⟩),?_,by simp only[aK]; exact⟨b,_,rfl,g5⟩⟩
   have bb:0≤n∧n<(rows.length:Int):=⟨aW,by omega⟩
   simp [execOp,af,Instr.indexAt,g1,iV ae,asIntOf,run_underlying hu,bb,mn dd,mC]
  ·cases aA
theorem U4 {t x i size cE c3 b p len cap k}{n:Int}(he:dF m env a.tmps) (af:o.op= .indexAddr t x i) (h:be P o.op (.gS size cE c3)=true) (aj:cE.aC env= .dI (.slice (some ⟨b,p,none⟩) len cap)) (aq:c3.aC env= .int k n) (aW:0≤n) (ab:n<(len:Int)):fb P m a o (.ptr b (p+n.toNat*size)):=by
 rw[af]at h
 simp only[be,aT0]at h
 obtain⟨⟨h1,J⟩,aA⟩:=h
 have ae:=cY he J
 have U:=cY he h1
 rw[aq]at ae
 rw[aj]at U
 split at aA
 ·rename_i el e9
  have dd:iq P el=some size:=by simpa using aA
  have hu:P.underlying t=some (.slice el):=by
   unfold jl at e9
   split at e9
   ·rename_i e hu; simp at e9; subst e9; exact hu
   ·cases e9
  refine⟨.pointer (some ⟨b,p+n.toNat*size,none⟩),?_,by simp only[aK]⟩
  simp [execOp,af,Instr.indexAt,tV U,iV ae,asIntOf,run_underlying hu,aW,ab,mn dd,mC]
 ·cases aA
theorem Ie {t x i size cE c3 b p k}{len:Nat}{n:Int}(he:dF m env a.tmps) (af:o.op= .indexAddr t x i) (h:be P o.op (.me len size cE c3)=true) (aj:a.eval x= .pointer (some ⟨b,p,none⟩)) (aq:c3.aC env= .int k n) (aW:0≤n) (ab:n<(len:Int)):
  (execOp a.eval o).run P m.w= .ok (.value (.pointer (some ⟨b,p+n.toNat*size,none⟩))) m.w:=by
 rw[af]at h
 simp only[be,aT0]at h
 obtain⟨⟨h1,J⟩,aA⟩:=h
 have ae:=cY he J
 rw[aq]at ae
 split at aA
 ·rename_i ZN el hu
  simp only[aT0,decide_eq_true_eq]at aA
  obtain⟨rfl,dd⟩:=aA
  simp [execOp,af,Instr.indexAt,aj,iV ae,asIntOf,run_underlying hu,Instr.sureAddr,aW,ab,mn dd,mC]
 ·cases aA
theorem U3 {t x i agg size cE c3 cs k v}{len:Nat}{n:Int}(he:dF m env a.tmps) (af:o.op= .index t x i) (h:be P o.op (.iD agg len size cE c3)=true) (aj:cE.aC env= .agg cs) (aq:c3.aC env= .int k n) (aW:0≤n) (ab:n<(len:Int)) (aE:n.toNat*size+size≤cs.length) (ad:I.hJ agg ((cs.drop (n.toNat*size)).take size)=some v):fb P m a o v:=by
 rw[af]at h
 simp only[be,aT0]at h
 obtain⟨⟨h1,J⟩,aA⟩:=h
 have ae:=cY he J
 have U:=cY he h1
 rw[aq]at ae
 rw[aj]at U
 obtain⟨l,g1,g2⟩:=zn U
 have li:=aM.length g2
 split at aA
 ·rename_i ZN el hu
  simp only[aT0,decide_eq_true_eq]at aA
  obtain⟨rfl,aA⟩:=aA
  have dd:=(yM aA).2.1
  refine⟨if agg then .agg ⟨(l.drop (n.toNat*size)).take size⟩ else l.getD (n.toNat*size) undef,?_,?_⟩
  ·simp [execOp,af,Instr.index,g1,iV ae,asIntOf,run_underlying hu,aW,ab,mn dd,P8 aA l (n.toNat*size) (by omega)]
  ·rcases y4 ad (aM.take size (aM.drop (n.toNat*size) g2)) with ⟨rfl,h⟩|⟨rfl,u,yx,h⟩
   ·exact h
   ·have bb:=(yM aA).2.2.1 rfl
    subst bb
    rw[KE]
    have:(l.drop (n.toNat*1)).getD 0 undef=u:=by
     cases bw:l.drop (n.toNat*1) with
     |nil=>rw[bw]at yx; simp at yx
     |cons x xs=>rw[bw]at yx; simp at yx; simp [yx]
    simp only[aU6,if_false,this]
    exact h
 ·cases aA
theorem U5 {t x i cE c3 s k n c}(he:dF m env a.tmps) (af:o.op= .index t x i) (h:be P o.op (.gp cE c3)=true) (aj:cE.aC env= .str s) (aq:c3.aC env= .int k n) (aW:0≤n) (ah:s[n.toNat]? =some c):fb P m a o (.int .u8 c.toNat):=by
 rw[af]at h
 simp only[be,aT0]at h
 obtain⟨⟨h1,J⟩,aA⟩:=h
 have ae:=cY he J
 have U:=cY he h1
 rw[aq]at ae
 rw[aj]at U
 split at aA
 ·rename_i hu
  refine⟨.int .u8 c.toNat,?_,by simp only[aK]⟩
  have cL:=(List.getElem?_eq_some_iff.1 ah)
  have hb:(⟨⟨s⟩⟩:ByteArray)[n.toNat]? =some c:=by
   obtain⟨aE,tC⟩:=cL
   have:=getElem?_pos (⟨⟨s⟩⟩:ByteArray) n.toNat aE
   rw[this]
   exact congrArg some tC
  simp [execOp,af,Instr.index,(qH U).1,iV ae,asIntOf,run_underlying hu,aW,hb]
 ·cases aA
theorem Ve {t x cm ae lp y mg gB s l h}(he:dF m env a.tmps) (af:o.op= .slice t x cm ae lp) (ah:be P o.op (.iW y mg gB)=true) (aj:y.aC env= .str s) (aE:iT env 0 mg=some l) (a8:iT env s.length gB=some h) (h1:l≤h) (J:h≤s.length):fb P m a o (.str ((s.take h).drop l)):=by
 rw[af]at ah
 cases lp with
 |some _=>simp [be]at ah
 |none=>
  simp only[be,aT0]at ah
  obtain⟨⟨⟨c1,c2⟩,eV⟩,gn⟩:=ah
  have U:=cY he c1
  rw[aj]at U
  obtain⟨g1,g2⟩:=qH U
  split at gn
  ·rename_i hu
   have an:(⟨⟨s⟩⟩:ByteArray).size=s.length:=rfl
   have hb:=FC (P:=P) (w:=m.w) (b:=false) (cap:=s.length) he c2 eV aE a8 h1 J (aT4 _)
   refine⟨.string ⟨⟨(s.take h).drop l⟩⟩,?_,by simp only[aK]; exact⟨trivial,by simp; omega⟩⟩
   simp [execOp,af,Instr.sliceAt,Instr.slice,run_underlying hu,g1,an,hb,Hk]
  ·cases gn
theorem at7 {m:Mem}{size:Nat}{a:I}{rows:List (List I)}{v:Value}(h:mX size a=some rows) (ad:aK m a v):aK m (.ak size rows) v:=by
 unfold mX at h
 split at h
 ·split at h
  ·rename_i e; subst e; simp only[Option.some.injEq]at h; subst h; exact ad
  ·cases h
 ·split at h
  ·rename_i e; subst e; simp only[Option.some.injEq]at h; subst h; exact xe ad
  ·cases h
 ·cases h
theorem Vf {t x cm ae lp size y mg gB rows l h}(he:dF m env a.tmps) (af:o.op= .slice t x cm ae lp) (ah:be P o.op (.gL size y mg gB none)=true) (aj:mX size (y.aC env)=some rows) (aE:iT env 0 mg=some l) (a8:iT env rows.length gB=some h) (h1:l≤h) (J:h≤rows.length):fb P m a o (.ak size ((rows.take h).drop l)):=by
 rw[af]at ah
 simp only[be,aT0]at ah
 obtain⟨⟨⟨⟨c1,c2⟩,eV⟩,kL⟩,gn⟩:=ah
 have U:=cY he c1
 replace U:=at7 aj U
 have Ea:lp=none:=by cases lp<;>simp [pn]at kL ⊢
 subst Ea
 split at gn
 ·rename_i el e9
  have dd:iq P el=some size:=by simpa using gn
  have hu:P.underlying t=some (.slice el):=by
   unfold jl at e9
   split at e9
   ·rename_i e hu; simp at e9; subst e9; exact hu
   ·cases e9
  obtain⟨c6,cap,g1,⟨g2,Wg⟩,g3⟩:=xg U
  have hb:=FC (P:=P) (w:=m.w) (b:=true) (cap:=cap) he c2 eV aE a8 h1 J g2
  refine⟨.slice (if cap=l then c6 else c6.map (·.add (l*size))) (h-l) (cap-l),?_,?_⟩
  ·simp [execOp,af,Instr.sliceAt,Instr.slice,run_underlying hu,g1,hb,mn dd]
  ·simp only[aK]
   have hlen:((rows.take h).drop l).length=h-l:=by simp; omega
   refine⟨_,_,_,rfl,hlen.symm,⟨by omega,by omega⟩,?_⟩
   by_cases cL:l<h
   ·rcases g3 with g3|⟨b,p,rfl,g3⟩
    ·omega
    ·refine .inr ⟨b,p+l*size,by rw[if_neg (by omega)]; simp [mC],?_⟩
     have:=dy.drop l g3
     have:=dy.take (h-l) this
     rwa [show (rows.take h).drop l=(rows.drop l).take (h-l) by rw[bi8]]
   ·exact .inl (by omega)
 ·cases gn
end
section
variable {P:Program}{m:Mem}{env:Env}{a:Act}{o:Oper}
theorem UY {T x y}(he:dF m env a.tmps) (aZ:bG m) (af:o.op= .box T x) (h:cK x y=true) (bg:((y.aC env).cells).all I.one=true):
  ∃l,(execOp a.eval o).run P m.w= .ok (.value (.pointer (some ⟨m.w.heap.size,0,none⟩))) (m.bN T (y.aC env).cells l).w∧bG (m.bN T (y.aC env).cells l):=by
 obtain⟨h1,J⟩:=Am (cY he h) bg
 exact⟨(a.eval x).cells.toList,by simp [execOp,af,Instr.box,newVar,newRow,Mem.bN],bG.bN aZ h1 J⟩
theorem ar6 {m:Mem}(s:List UInt8):aM m (s.map fun c=>[I.int .u8 c.toNat]).flatten (s.map fun b=>Value.int .u8 b.toNat):=by
 induction s with
 |nil=>simp [aM]
 |cons c s b8=>simp only[aU5,aU3,List.singleton_append,aM]; exact⟨_,_,rfl,by simp only[aK],b8⟩
theorem U0 {t t2 T x y s}(he:dF m env a.tmps) (aZ:bG m) (af:o.op= .convert t t2 x) (h:be P o.op (.jh T y)=true) (bg:y.aC env= .str s):
  ∃w' v,(execOp a.eval o).run P m.w= .ok (.value v) w'∧bG {m with w:=w'}∧bH m {m with w:=w'}∧aK {m with w:=w'} (.ak 1 (s.map fun c=>[.int .u8 c.toNat])) v:=by
 rw[af]at h
 simp only[be,aT0,decide_eq_true_eq]at h
 obtain⟨⟨⟨h1,J⟩,aA⟩,bz⟩:=h
 have U:=cY he h1
 rw[bg]at U
 obtain⟨g1,g2⟩:=qH U
 split at J
 ·rename_i hu
  split at bz
  ·rename_i wQ
   have bw:P.underlying t2=some (.slice T):=by
    unfold jl at aA
    split at aA
    ·rename_i e hu; simp at aA; subst aA; exact hu
    ·cases aA
   have ab:=run_bytes_of_string (P:=P) m.w t t2 T ⟨⟨s⟩⟩ hu bw wQ
   have an:(⟨⟨s⟩⟩:ByteArray).size=s.length:=rfl
   rw[an]at ab
   refine⟨m.w.drew.alloc (.cells (bytesRow ⟨⟨s⟩⟩ (grownCap m.w s.length 0 T)) T ((bytesRow ⟨⟨s⟩⟩ (grownCap m.w s.length 0 T)).size,(bytesRow ⟨⟨s⟩⟩ (grownCap m.w s.length 0 T)).size+1)),.slice (some ⟨m.w.heap.size,0,none⟩) s.length (grownCap m.w s.length 0 T),by simp [execOp,af,g1,ab],?_,?_,?_⟩
   ·exact bG.alloc (bG.drew aZ) _
   ·exact (bH.drew m).trans (bH.alloc {m with w:=m.w.drew} _)
   ·have aC:=(bH.drew m).trans (bH.alloc {m with w:=m.w.drew} (.cells (bytesRow ⟨⟨s⟩⟩ (grownCap m.w s.length 0 T)) T ((bytesRow ⟨⟨s⟩⟩ (grownCap m.w s.length 0 T)).size,(bytesRow ⟨⟨s⟩⟩ (grownCap m.w s.length 0 T)).size+1)))
    simp only[aK]
    have ck:=grownCap_ge m.w s.length 0 T
    have hle:=grownCap_le_maxLen m.w s.length 0 T g2
    refine⟨_,_,_,rfl,by simp,⟨by simpa using ck,hle⟩,.inr ⟨m.w.heap.size,0,rfl,dy.of (fun r ab=>by obtain⟨c,_,rfl⟩:=List.mem_map.1 ab; rfl) (l:=s.map fun b=> .int .u8 b.toNat) ?_ fun j v bq=>⟨?_,?_,⟨by simp,vY aZ,fun t i aF hb=> ?_⟩⟩⟩⟩
    ·exact ar6 s
    ·rw[aW6]
     have ah:=World.cell?_alloc_mark m.w.drew (bytesRow ⟨⟨s⟩⟩ (grownCap m.w s.length 0 T)) T ((bytesRow ⟨⟨s⟩⟩ (grownCap m.w s.length 0 T)).size,(bytesRow ⟨⟨s⟩⟩ (grownCap m.w s.length 0 T)).size+1) j
     have il:j<s.length:=by
      have:=(List.getElem?_eq_some_iff.1 bq).1
      simpa using this
     refine ah.trans ?_
     rw[bytesRow_at _ _ _ (by simpa using il)]
     simp [aU0 il]at bq
     rw[←bq]
     rfl
    ·have:=aT6 bq
     obtain⟨c,_,rfl⟩:=List.mem_map.1 this
     rfl
    ·have:=ua aZ aF hb
     omega
  ·cases bz
 ·cases J
theorem UX {T zero}(aZ:bG m) (af:o.op= .alloc T) (h:sV P T zero=true):
  ∃l,(execOp a.eval o).run P m.w= .ok (.value (.pointer (some ⟨m.w.heap.size,0,none⟩))) (m.bN T zero l).w∧bG (m.bN T zero l):=by
 obtain⟨i,z,ae,aD,ah⟩:=B8 h
 obtain⟨h1,J⟩:=Ap (m:=m) ah
 exact⟨z.cells.toList,by simp [execOp,af,Instr.alloc,zeroValue,typeInfo,ae,aD,newVar,newRow,Mem.bN],bG.bN aZ h1 J⟩
theorem ZY (z:Array Value) (n:Nat):(madeCells z (n*z.size)).toList=(aU2 n z.toList).flatten:=by
 simp only[madeCells,be8,Array.toList_range]
 induction n with
 |zero=>simp
 |succ n b8=>
  rw[Nat.succ_mul,bd0,List.range_add,List.map_append,ba3,aU3,←b8]
  congr 1
  ·apply List.ext_getElem
   ·simp
   ·intro j h1 J
    simp at h1
    simp [Nat.mod_eq_of_lt h1,h1]
  ·rw[List.map_map]
   apply List.map_congr_left
   intro j _
   simp [Nat.add_mod_left]
theorem Qh {az:List I}{l:List Value}(h:aM m az l): ∀n,aM m (aU2 n az).flatten (aU2 n l).flatten
 |0=>by simp [aM]
 |n+1=>by
  rw[ba3,ba3,aU3,aU3]
  exact aM.append h (Qh h n)
theorem as5 (a b c:List I) (h:c.length=b.length): ∀rest,fs (a++b++rest) a.length c=a++c++rest:=by
 intro rest
 unfold fs
 rw[show (a++b++rest).take a.length=a by rw[aU9]; exact bg3,h]
 rw[show (a++b++rest).drop (a.length+b.length)=rest by rw[←aT2]; exact bg4]
theorem Hf {env:Env}{size:Nat}: ∀(ps:List (Nat×aH)) (k:Nat) (done:List I),wS k ps=true→done.length=k*size→(∀p∈ps,(p.2.aC env).cells.length=size∧(p.2.aC env).ev=true)→
  nl env (done++aU2 (ps.length*size) .ec) (ps.map fun p=>(p.1*size,size,p.2))=some (done++(jB env ps).flatten)
 |[],k,done,_,_,_=>by simp [nl,jB]
 |(i,x)::ps,k,done,h1,J,aA=>by
  simp only[wS,aT0,decide_eq_true_eq]at h1
  obtain⟨rfl,h1⟩:=h1
  obtain⟨c1,c2⟩:=aA (i,x) (by simp)
  simp only at c1 c2
  have X2:aU2 (((i,x)::ps).length*size) I.ec=aU2 size I.ec++aU2 (ps.length*size) I.ec:=by
   rw[List.replicate_append_replicate]
   congr 1
   simp only[aT3,aW4]
   omega
  simp only[aU5,nl]
  rw[X2,if_pos ⟨c1,by simp only[aT2,List.length_replicate]; omega,c2⟩]
  rw[←aU9,←J,as5 _ _ _ (by simpa using c1)]
  have:=Hf ps (i+1) (done++(x.aC env).cells) h1 (by simp [J,c1,aW4]) (fun p hp=>aA p (by simp [hp]))
  rw[this]
  simp [jB]
theorem NI {size:Nat}: ∀ {ps:List (Nat×Operand)}{iU:List (Nat×aH)},sf ps iU=true→oV (fun i=>some (i*size,size)) ps (iU.map fun p=>(p.1*size,size,p.2))
 |[],[],_=>by simp [oV]
 |[],_:: _,h=>by simp [sf]at h
 | _:: _,[],h=>by simp [sf]at h
 |(i,x)::ps,(j,y)::iU,h=>by
  simp only[sf,aT0,decide_eq_true_eq]at h
  obtain⟨⟨rfl,J⟩,aA⟩:=h
  simp only[aU5,oV]
  exact⟨_,_,rfl,rfl,J,NI aA⟩
theorem GD {m:Mem}: ∀(l:List Value),aM m (aU2 l.length .ec) l
 |[]=>by simp [aM]
 |v::l=>by simp only[aT3,ba3,aM]; exact⟨v,l,rfl,by simp only[aK],GD l⟩
theorem ac1 {x:I}(h:x.cells.all I.one=true):x.ev=true:=by
 cases x<;>simp only[I.cells,aV0,bf4,aW0,I.one,I.ev]at h ⊢ <;>exact h
theorem C0 {t n parts T size fU zero ps rows}(he:dF m env a.tmps) (aZ:bG m) (af:o.op= .buildSlice t n parts) (h:be P o.op (.eu T size fU zero ps)=true) (ab:jB env ps=rows) (an:rows.all (fun r=>r.length==size)=true) (h1:rows.flatten.all I.one=true):
  ∃l,(execOp a.eval o).run P m.w= .ok (.value (.slice (some ⟨m.w.heap.size,0,none⟩) rows.length rows.length)) (m.w.alloc (.cells ⟨l⟩ T))∧aM m rows.flatten l∧(∀v∈l,v.oneCell'=true)∧l.length=rows.length*size∧rows.length≤65536∧size≠0:=by
 rw[af]at h
 simp only[be,aT0,decide_eq_true_eq]at h
 obtain⟨⟨⟨⟨⟨⟨⟨⟨⟨rfl,c2⟩,eV⟩,gn⟩,kL⟩,lG⟩,np⟩,oD⟩,l5⟩,nn⟩:=h
 have aL1:=aZ3 lG
 have dP:size≠0:=by simpa using nn
 obtain⟨i,z,ae,aD,ah⟩:=B8 gn
 have wO:rows.length=n:=by subst ab; simpa [jB] using l5
 have hu:P.underlying t=some (.slice T):=by
  unfold jl at c2
  split at c2
  ·rename_i e hu; simp at c2; subst c2; exact hu
  ·cases c2
 have pB:z.cells.size=size:=by
  have:=aM.length (Ap (m:=m) ah).1
  simp at this
  omega
 have dd:(sizeOf T).run P m.w= .ok size m.w:=mn eV _
 have XE:((Array.range (n*size)).map (z.cells[·%z.cells.size]!)).size=n*size:=by simp
 have hr: ∀p∈ps,(p.2.aC env).cells.length=size∧(p.2.aC env).ev=true:=by
  intro p hp
  have hm:(p.2.aC env).cells∈rows:=by subst ab; exact List.mem_map.2 ⟨p,hp,rfl⟩
  refine⟨by have:=List.all_eq_true.1 an _ hm; simpa using this,ac1 ?_⟩
  simp only[bb1]at h1 ⊢
  intro x U
  exact h1 x (List.mem_flatten.2 ⟨_,hm,U⟩)
 have hb:=Hf (env:=env) (size:=size) ps 0 [] oD (by simp) hr
 simp only[aV1,ab]at hb
 have LH:=GD (m:=m) ((Array.range (n*size)).map (z.cells[·%z.cells.size]!)).toList
 rw[aX4,XE,show n*size=ps.length*size by rw[l5]]at LH
 obtain⟨l,g1,g2⟩:=AJ he (fun i=>some (i*size,size)) parts.toList _ _ _ _ (NI np) LH hb
 have li:l.length=rows.length*size:=by
  rw[aM.length g2]
  clear g1 g2 hb ab wO h1
  induction rows with
  |nil=>simp
  |cons r rows b8=>
   simp only[aV0,aT0]at an
   have e:r.length=size:=by simpa using an.1
   simp only[aU3,aT2,b8 an.2,aT3,aW4,e]
   omega
 refine⟨l,?_,g2,fun v ad=> ?_,li,?_,dP⟩
 ·have W6: ¬(n*size>2^24):=by omega
  by_cases aW:n*size=0
  ·have u1:n=0:=by rcases Nat.mul_eq_zero.1 aW with e|e<;>omega
   subst u1
   simp at l5
   subst l5
   have XW:parts= #[]:=by
    have:parts.toList=[]:=by cases hp:parts.toList with|nil=>rfl|cons x y=>rw[hp]at np; simp [sf]at np
    simpa using this
   subst XW
   have A0:l=[]:=aV3 (by rw[li,wO]; simp)
   subst A0
   simp [execOp,af,Instr.buildSlice,run_underlying hu,dd,Instr.fill,newRow,wO]
   congr 2
   exact Array.eq_empty_of_size_eq_zero (by simp)
  ·have LK:(zeroValue T).run P m.w= .ok z m.w:=by simp [zeroValue,typeInfo,ae,aD]
   simp only[execOp,af,Instr.buildSlice,Sem.run_bind,run_underlying hu,Result.andThen_ok,dd,Sem.run_ite,if_neg W6,aW,if_false,LK,Sem.run_pure]
   have DA:Instr.fill (fun i=>some (i*size,size)) ((Array.range (n*size)).map (z.cells[·%z.cells.size]!)) ((parts.map fun (i,x)=>(i,a.eval x)).toList)=some ⟨l⟩:=by
    rw[be8]
    rw[l5]at g1
    exact g1
   simp only[DA,Result.andThen_ok,Sem.run_bind,newRow,run_newObj,Sem.run_pure,wO]
   rfl
 ·obtain⟨j,bq⟩:=aW5 ad
  have il:=(List.getElem?_eq_some_iff.1 bq).1
  rw[aM.length g2]at il
  obtain⟨bp,aj,aq⟩:=aM.get g2 j rows.flatten[j] (aU0 il)
  rw[bq]at aj
  simp at aj
  subst aj
  exact y7 aq (List.all_eq_true.1 h1 _ (List.getElem_mem il))
 ·rw[wO]
  have:n*1≤n*size:=Nat.mul_le_mul_left _ (by omega)
  omega
end
section
variable {P:Program}{m:Mem}{env:Env}{a:Act}{o:Oper}
structure Src (P:Program) (m:Mem) (size:Nat) (y:Value) (new:List (List I)) (news:List Value):Prop where
 len: ∀w,(Builtin.lenOf y).run P w= .ok new.length w
 cells: ∀w:World,(∀b o,lC m b o→w.cell? ⟨b,o,none⟩=m.w.cell? ⟨b,o,none⟩)→(Builtin.firstCells size new.length y).run P w= .ok ⟨news⟩ w
 vC:aM m new.flatten news
 one: ∀v∈news,v.oneCell'=true
 n:news.length=new.length*size
 pN: ∀r∈new,r.length=size
theorem ez.zE {m:Mem}: ∀ {az:List I}{b o:Nat},ez m az b o→∃l,aM m az l∧(∀j v,l[j]? =some v→m.w.cell? ⟨b,o+j,none⟩=some v∧v.oneCell'=true∧lC m b (o+j))
 |[],_,_,_=>⟨[],by simp [aM],by simp⟩
 |a::az,b,o,h=>by
  simp only[ez]at h
  obtain⟨⟨v,h1,tA,J,aA⟩,bz⟩:=h
  obtain⟨l,aj,aq⟩:=ez.zE bz
  refine⟨v::l,by simp only[aM]; exact⟨v,l,rfl,aA,aj⟩,fun j u bq=> ?_⟩
  cases j with
  |zero=>simp at bq; subst bq; exact⟨h1,tA,J⟩
  |succ j=>simp at bq; have:=aq j u bq; rwa [show o+1+j=o+(j+1) by omega]at this
theorem dy.zE {m:Mem}{size:Nat}: ∀ {aN:List (List I)}{b o:Nat},dy m size aN b o→∃l,aM m aN.flatten l∧l.length=aN.length*size∧(∀r∈aN,r.length=size)∧(∀j v,l[j]? =some v→m.w.cell? ⟨b,o+j,none⟩=some v∧v.oneCell'=true∧lC m b (o+j))
 |[],_,_,_=>⟨[],by simp [aM],by simp,by simp,by simp⟩
 |r::aN,b,o,h=>by
  simp only[dy]at h
  obtain⟨h1,J,aA⟩:=h
  obtain⟨l,aj,aq⟩:=ez.zE J
  obtain⟨bM,f1,f2,f4,f3⟩:=dy.zE aA
  have aE:l.length=size:=(aM.length aj).trans h1
  refine⟨l++bM,by simpa using aM.append aj f1,by rw[aT2,f2,aE,aT3,aW4]; omega,?_,fun j u bq=> ?_⟩
  ·intro x U
   rcases List.mem_cons.1 U with rfl|U
   ·exact h1
   ·exact f4 x U
  ·by_cases il:j<l.length
   ·rw[aX7 il]at bq
    exact aq j u bq
   ·rw[aZ8 (by omega)]at bq
    have:=f3 _ u bq
    rwa [show o+size+(j-l.length)=o+j by omega]at this
theorem Md {l:List Value}{Q:Value→Prop}(h: ∀(j:Nat) (v:Value),l[j]? =some v→Q v): ∀v∈l,Q v:=fun v ad=>by
 obtain⟨j,bq⟩:=aW5 ad
 exact h j v bq
theorem Q5 {size:Nat}{rows:List (List I)}{v:Value}(h:aK m (.ak size rows) v): ∃c6 cap l,v= .slice c6 rows.length cap∧rows.length≤cap∧cap≤maxLen∧aM m rows.flatten l∧l.length=rows.length*size∧(∀r∈rows,r.length=size)∧(rows.length=0∨∃b p,c6=some ⟨b,p,none⟩∧∀j u,l[j]? =some u→m.w.cell? ⟨b,p+j,none⟩=some u∧u.oneCell'=true∧lC m b (p+j)):=by
 obtain⟨c6,cap,e,⟨h1,J⟩,aA⟩:=xg h
 rcases aA with aA|⟨b,p,rfl,aA⟩
 ·have:rows=[]:=aV3 aA
  subst this
  exact⟨c6,cap,[],e,h1,J,by simp [aM],by simp,by simp,.inl rfl⟩
 ·obtain⟨l,g1,g2,g3,g4⟩:=dy.zE aA
  exact⟨_,cap,l,e,h1,J,g1,g2,g3,.inr ⟨b,p,rfl,g4⟩⟩
theorem Qs {size:Nat}{rows:List (List I)}{v:Value}(h:aK m (.ak size rows) v): ∃news,Src P m size v rows news:=by
 obtain⟨c6,cap,l,rfl,h1,J,g1,g2,g3,g4⟩:=Q5 h
 refine⟨l,⟨fun w=>by simp [Builtin.lenOf],fun w hw=> ?_,g1,?_,g2,g3⟩⟩
 ·rcases g4 with g4|⟨b,p,rfl,g4⟩
  ·have:l=[]:=aV3 (by rw[g2,g4]; simp)
   subst this
   rw[g4]
   cases c6 with
   |none=>simp [Builtin.firstCells]
   |some x=>simp [Builtin.firstCells,loadCells,loadCellsFrom]
  ·have:=run_loadCells_list (P:=P) w ⟨b,p,none⟩ l (fun j u bq=>by
    obtain⟨br,bA,cy⟩:=g4 j u bq
    rw[mC]
    exact (hw b _ cy).trans br)
   rw[g2]at this
   simp [Builtin.firstCells,this]
 ·rcases g4 with g4|⟨b,p,rfl,g4⟩
  ·have:l=[]:=aV3 (by rw[g2,g4]; simp)
   subst this
   simp
  ·exact Md fun j v bq=>(g4 j v bq).2.1
theorem au9 {size:Nat}{c6:Option Addr}{cap:Nat}:Src P m size (.slice c6 0 cap) [] []:=
 ⟨fun w=>by simp [Builtin.lenOf],fun w _=>by cases c6<;>simp [Builtin.firstCells,loadCells,loadCellsFrom],by simp [aM],by simp,by simp,by simp⟩
theorem av8 (s:List UInt8):aM m (s.map fun c=>[I.int .u8 c.toNat]).flatten (s.map fun b=>Value.int .u8 b.toNat):=by
 induction s with
 |nil=>simp [aM]
 |cons c s b8=>simp only[aU5,aU3,List.singleton_append,aM]; exact⟨_,_,rfl,by simp only[aK],b8⟩
theorem av0 {s:List UInt8}:Src P m 1 (.string ⟨⟨s⟩⟩) (s.map fun c=>[.int .u8 c.toNat]) (s.map fun b=> .int .u8 b.toNat):=by
 refine⟨fun w=> ?_,fun w _=> ?_,av8 s,?_,by simp,?_⟩
 ·simp only[Builtin.lenOf,Sem.run_pure,aT1]; rfl
 ·simp only[Builtin.firstCells,Sem.run_pure]
  congr 1
  rw[Hk]
  simp [List.map_take]
 ·intro v ad
  obtain⟨b,_,rfl⟩:=List.mem_map.1 ad
  rfl
 ·intro r ab
  obtain⟨b,_,rfl⟩:=List.mem_map.1 ab
  rfl
structure sW (P:Program) (t u T:TypeId) (size bytes:Nat) where
 aF:P.underlying t=some (.slice T)
 hu:P.underlying u=some (.slice T)∨P.underlying u=some .string
 i:TypeInfo
 ae:P.info? T=some i
 an:i.size=size
 hb:i.bytes=bytes
 z:Value
 aD:i.zero=some z
 pB:z.cells.size=size
theorem xN {t u T ty:TypeId}{size bytes:Nat}(A:sW P t u T size bytes){base:Option Addr}{k cap:Nat}{y:Value}{new:List (List I)}{news:List Value}(S:Src P m size y new news) (jF:k+new.length≤cap):
  (Builtin.append_ #[t,u] ty #[.slice base k cap,y]).run P m.w=(match base with
   |some c6=>((storeCells (c6.add (k*size)) news).run P m.w).andThen fun _ w'=> .ok (.slice base (k+new.length) cap) w'
   |none=> .ok (.slice base (k+new.length) cap) m.w):=by
 have aj:=S.cells m.w (fun _ _ _=>rfl)
 have dd: ∀w,(sizeOf T).run P w= .ok size w:=fun w=>by simp [sizeOf,typeInfo,A.ae,A.an]
 unfold Builtin.append_
 rcases A.hu with hu|hu
 ·cases base with
  |none=>simp [run_underlying A.aF,run_underlying hu,dd,S.len,jF,aj]
  |some c6=>simp [run_underlying A.aF,run_underlying hu,dd,S.len,jF,aj]
 ·cases base with
  |none=>simp [run_underlying A.aF,run_underlying hu,dd,S.len,jF,aj]
  |some c6=>simp [run_underlying A.aF,run_underlying hu,dd,S.len,jF,aj]
theorem GW {t u T ty:TypeId}{size bytes:Nat}(A:sW P t u T size bytes){base:Option Addr}{k cap:Nat}{y:Value}{new:List (List I)}{news olds:List Value}(S:Src P m size y new news) (jF: ¬k+new.length≤cap)
  (ch:(Builtin.firstCells size k (.slice base k cap)).run P m.w.drew= .ok ⟨olds⟩ m.w.drew) (hq:cap≤maxLen) (hk:k≤cap)
  (hb:(k+new.length)*bytes≤140737488355328) (DK:k+new.length≤maxLen):
  (Builtin.append_ #[t,u] ty #[.slice base k cap,y]).run P m.w= .ok (.slice (some ⟨m.w.heap.size,0,none⟩) (k+new.length) (grownCap m.w (k+new.length) cap T))
   (m.w.drew.alloc (.cells (⟨olds++news⟩++Builtin.zeroCells A.z.cells (grownCap m.w (k+new.length) cap T-(k+new.length))) T)):=by
 have aj:=S.cells m.w.drew (fun _ _ _=>rfl)
 have dd: ∀w,(sizeOf T).run P w= .ok size w:=fun w=>by simp [sizeOf,typeInfo,A.ae,A.an]
 have LG: ∀w,(typeInfo T).run P w= .ok A.i w:=fun w=>by simp [typeInfo,A.ae]
 have tJ: ∀w,(zeroValue T).run P w= .ok A.z w:=fun w=>by simp [zeroValue,typeInfo,A.ae,A.aD]
 have KU: ¬(281474976710656<Builtin.nextslicecap (k+new.length) cap*A.i.bytes):=by
  rw[A.hb]
  have:=growslice_fits (need:=k+new.length) (old:=cap) (bytes:=bytes) (by omega) hb
  omega
 have KV: ¬(9223372036854775807<((k:Int)+(new.length:Int))):=by rw[Bg]at DK; omega
 unfold Builtin.append_
 rcases A.hu with hu|hu
 ·simp [run_underlying A.aF,run_underlying hu,dd,S.len,jF,LG,KV,KU,Question.forced,ch,aj,tJ,newRow,grownCap]
  exact congrArg (fun x=>m.w.drew.alloc (Obj.cells x T)) (by rw[←Array.append_assoc]; congr 1; simp)
 ·simp [run_underlying A.aF,run_underlying hu,dd,S.len,jF,LG,KV,KU,Question.forced,ch,aj,tJ,newRow,grownCap]
  exact congrArg (fun x=>m.w.drew.alloc (Obj.cells x T)) (by rw[←Array.append_assoc]; congr 1; simp)
theorem z6 {t u T ty:TypeId}{size bytes:Nat}(A:sW P t u T size bytes){base:Option Addr}{k cap:Nat}{y:Value}{new:List (List I)}{news olds:List Value}(S:Src P m size y new news) (jF: ¬k+new.length≤cap)
  (af: ∀w:World,(∀b o,lC m b o→w.cell? ⟨b,o,none⟩=m.w.cell? ⟨b,o,none⟩)→(Builtin.firstCells size k (.slice base k cap)).run P w= .ok ⟨olds⟩ w) (hq:cap≤maxLen) (hk:k≤cap)
  (hb:(k+new.length)*bytes≤140737488355328) (DK:k+new.length≤maxLen):
  (Builtin.append_ #[t,u] ty #[.slice base k cap,y]).run P m.w= .ok (.slice (some ⟨m.w.heap.size,0,none⟩) (k+new.length) (grownCap m.w (k+new.length) cap T))
   (m.w.drew.alloc (.cells (⟨olds++news⟩++Builtin.zeroCells A.z.cells (grownCap m.w (k+new.length) cap T-(k+new.length))) T)):=
 GW A S jF (af m.w.drew fun _ _ _=>rfl) hq hk hb DK
end
section
variable {P:Program}{m:Mem}{env:Env}{a:Act}{o:Oper}
theorem EW {aU:Mem}(aZ:bG aU){t size n cap b:Nat}{i:bB}{cur:Array Value}{T:TypeId}{rows:List (List I)}{l:List Value}(aF:aU.H.tok t=some i) (dK:aU.L t= .slice (some ⟨b,0,none⟩) n cap) (bb:i.n=rows.length) (aO0:i.ver=rows.length) (an:i.size=size) (rB:n=rows.length) (hb:aU.w.heap[b]? =some (.cells cur T (0,0)))
  (aE:aM aU rows.flatten l) (h1: ∀v∈l,v.oneCell'=true) (hlen:l.length=rows.length*size) (dd: ∀r∈rows,r.length=size) (ah: ∀(j:Nat) (v:Value),l[j]? =some v→cur[j]? =some v) (hq:n≤cap) (kw:cap≤maxLen):aK aU (.own t size rows) (aU.L t):=by
 obtain⟨br,bA,cy,eR⟩:=aZ.tok t i aF
 obtain⟨b5,cA⟩:=eR b (by rw[dK]; rfl)
 have cL:b<aU.w.heap.size:=(Array.getElem?_eq_some_iff.1 hb).1
 simp only[aK]
 refine⟨⟨some ⟨b,0,none⟩,n,cap,dK,rB,⟨hq,kw⟩,.inr ⟨b,0,rfl,dy.of dd aE fun j v bq=>⟨?_,h1 v (aT6 bq),⟨cL,b5,fun dk c3 fL gd=> ?_⟩⟩⟩⟩,br,fun c3 gB=> ?_⟩
 ·rw[aW6,cell_of_row aU.w b j cur T (0,0) hb]
  exact ah j v bq
 ·have:=cA dk c3 fL gd
  subst this
  rw[aF]at fL
  simp at fL
  subst fL
  have:=(List.getElem?_eq_some_iff.1 bq).1
  rw[bb,an]
  omega
 ·rw[aF]at gB
  simp at gB
  subst gB
  exact⟨by omega,fun _=>⟨trivial,an⟩⟩
theorem NB {aU:Mem}(aZ:bG aU){t size:Nat}{i:bB}{v:Value}(aF:aU.H.tok t=some i) (dK:aU.L t=v) (ad: ∃c6 cap,v= .slice c6 0 cap∧cap≤maxLen) (bb:i.ver=0) (an:i.size=size):aK aU (.own t size []) v:=by
 obtain⟨br,bA,cy,eR⟩:=aZ.tok t i aF
 obtain⟨c6,cap,rfl,hm⟩:=ad
 simp only[aK]
 refine⟨⟨c6,0,cap,rfl,rfl,⟨by omega,hm⟩,.inl rfl⟩,br,fun c3 gB=> ?_⟩
 rw[aF]at gB
 simp at gB
 subst gB
 exact⟨by simp,fun _=>⟨dK,an⟩⟩
theorem MA (aZ:bG m){w':World}{T size cap:Nat}{cur:Array Value}{rows:List (List I)}{l:List Value}(h1:w'.os=m.w.os) (J:w'.tape=m.w.tape) (aA:w'.output=m.w.output) (bz:m.w.heap.size≤w'.heap.size) (bZ: ∀b,b<m.w.heap.size→w'.heap[b]? =m.w.heap[b]?)
  (hb:w'.heap[m.w.heap.size]? =some (.cells cur T (0,0))) (aE:aM m rows.flatten l) (af: ∀v∈l,v.oneCell'=true) (hlen:l.length=rows.length*size) (dd: ∀r∈rows,r.length=size) (ah: ∀(j:Nat) (v:Value),l[j]? =some v→cur[j]? =some v) (jE:cur.size=cap*size) (hq:rows.length≤cap) (kw:cap≤maxLen) (aW:size≠0):
  bG (m.bf w' (.slice (some ⟨m.w.heap.size,0,none⟩) rows.length cap) (.bP T size (rows.length)))∧bH m (m.bf w' (.slice (some ⟨m.w.heap.size,0,none⟩) rows.length cap) (.bP T size (rows.length)))∧
  aK (m.bf w' (.slice (some ⟨m.w.heap.size,0,none⟩) rows.length cap) (.bP T size (rows.length))) (.own m.T size rows) (.slice (some ⟨m.w.heap.size,0,none⟩) rows.length cap):=by
 have ad: ∀b,(Value.slice (some ⟨m.w.heap.size,0,none⟩) rows.length cap).dV=some b→m.w.heap.size≤b:=fun b e=>by simp [Value.dV]at e; omega
 have u2:w'.ownsRow 0 T size (.slice (some ⟨m.w.heap.size,0,none⟩) rows.length cap) rows.length (cur.toList.take (rows.length*size)):=by
  refine⟨?_,.inr ⟨m.w.heap.size,cap,cur,rfl,aT8 _,hb,hq,kw,jE,rfl⟩⟩
  have:rows.length*size≤cap*size:=aW1 _ hq
  simp; omega
 have r:=bG.bf aZ (v:= .slice (some ⟨m.w.heap.size,0,none⟩) rows.length cap) (o:=(.bP T size (rows.length))) h1 J aA bz bZ ad aW ⟨_,u2,fun _ h=>by cases h⟩
 have e:=bH.bf aZ (v:= .slice (some ⟨m.w.heap.size,0,none⟩) rows.length cap) (o:=(.bP T size (rows.length))) h1 J aA bz bZ ad
 refine⟨r,e,?_⟩
 have:=EW r (t:=m.T) (i:=(.bP T size (rows.length))) (size:=size) (rows:=rows) (l:=l) (n:=rows.length) (cap:=cap) (b:=m.w.heap.size) (cur:=cur) (T:=T) (by simp [Mem.bf,aw.b7]) (by simp [Mem.bf]) rfl rfl rfl rfl hb (aM.aC e _ _ aE) af hlen dd ah hq kw
 simpa [Mem.bf] using this
theorem EE (aZ:bG m){T size:Nat}(aW:size≠0):bG (m.bf m.w (.slice none 0 0) (.bP T size (0)))∧bH m (m.bf m.w (.slice none 0 0) (.bP T size (0)))∧aK (m.bf m.w (.slice none 0 0) (.bP T size (0))) (.own m.T size []) (.slice none 0 0):=by
 have ad: ∀b,(Value.slice none 0 0).dV=some b→m.w.heap.size≤b:=fun b e=>by simp [Value.dV]at e
 have r:=bG.bf aZ (w':=m.w) (v:= .slice none 0 0) (o:=(.bP T size (0))) rfl rfl rfl (aT4 _) (fun _ _=>rfl) ad aW ⟨[],World.ownsRow_nil _ _ _ _,fun _ h=>by cases h⟩
 have e:=bH.bf aZ (w':=m.w) (v:= .slice none 0 0) (o:=(.bP T size (0))) rfl rfl rfl (aT4 _) (fun _ _=>rfl) ad
 exact⟨r,e,NB r (i:=(.bP T size (0))) (by simp [Mem.bf,aw.b7]) (by simp [Mem.bf]) ⟨none,0,rfl,aT8 _⟩ rfl rfl⟩
theorem xA (z:Array Value) (n:Nat):(Builtin.zeroCells z n).size=n*z.size:=by simp [Builtin.zeroCells]
theorem su (w:World) (mT:Obj) (b:Nat) (h:b<w.heap.size):(w.drew.alloc mT).heap[b]? =w.heap[b]? :=oL w.drew mT b h
theorem uV (w:World) (mT:Obj):(w.drew.alloc mT).heap[w.heap.size]? =some mT:=sx w.drew mT
theorem RM {t u T ty:TypeId}{size bytes:Nat}(A:sW P t u T size bytes) (aZ:bG m){y:Value}{new:List (List I)}{news:List Value}(S:Src P m size y new news) (hb:new.length*bytes≤140737488355328) (kw:new.length≤maxLen) (aW:size≠0):
  ∃aU v,(Builtin.append_ #[t,u] ty #[.slice none 0 0,y]).run P m.w= .ok v aU.w∧bG aU∧bH m aU∧aU.H=m.H.b7 m.T (.bP T size (new.length))∧aK aU (.own m.T size new) v:=by
 by_cases bb:new.length=0
 ·have:new=[]:=aV3 bb
  subst this
  have ab:=xN (ty:=ty) A (base:=none) (k:=0) (cap:=0) S (by simp)
  obtain⟨r,e,v⟩:=EE aZ (T:=T) aW
  exact⟨m.bf m.w (.slice none 0 0) (.bP T size (0)),_,ab,r,e,rfl,v⟩
 ·have ab:=z6 (ty:=ty) A (base:=none) (k:=0) (cap:=0) (olds:=[]) S (by omega) (fun w _=>by simp [Builtin.firstCells]) (aT8 _) (aT4 _) (by simpa using hb) (by simpa using kw)
  simp only[aW6,aV1]at ab
  have ck:=grownCap_ge m.w new.length 0 T
  have hle:=grownCap_le_maxLen m.w new.length 0 T kw
  obtain⟨r,e,v⟩:=MA aZ (T:=T) (size:=size) (cap:=grownCap m.w new.length 0 T) (rows:=new) (l:=news) (w':=m.w.drew.alloc (.cells (⟨news⟩++Builtin.zeroCells A.z.cells (grownCap m.w new.length 0 T-new.length)) T)) rfl rfl rfl (by simp) (su _ _) (uV _ _) S.vC S.one S.n S.pN
   (fun j v bq=>by
    rw[bj2]
    have:=(List.getElem?_eq_some_iff.1 bq).1
    simp only[ba5]
    rw[if_pos this]
    simpa using bq)
   (by
    simp only[be4,ba5,xA,A.pB,S.n,←aW4]
    congr 1
    omega) ck hle aW
  exact⟨_,_,ab,r,e,rfl,v⟩
theorem RN {t u T ty:TypeId}{size bytes:Nat}(A:sW P t u T size bytes) (aZ:bG m){dc:Nat}{rows:List (List I)}{v0:Value}(rD:aK m (.own dc size rows) v0) (aF:m.H.tok dc=some (.bP T size (rows.length))){y:Value}{new:List (List I)}{news:List Value}(S:Src P m size y new news) (hb:(rows.length+new.length)*bytes≤140737488355328) (kw:rows.length+new.length≤maxLen):
  ∃aU v,(Builtin.append_ #[t,u] ty #[v0,y]).run P m.w= .ok v aU.w∧bG aU∧bH m aU∧aU.H=m.H.b7 dc (.bP T size (rows.length+new.length))∧aK aU (.own dc size (rows++new)) v:=by
 obtain⟨br,bA,⟨xs,cy,_⟩,eR⟩:=aZ.tok dc _ aF
 have dK:m.L dc=v0:=by
  simp only[aK]at rD
  exact ((rD.2.2 _ aF).2 rfl).1
 obtain⟨c6,cap,l,rfl,hq,py,g1,g2,g3,g4⟩:=Q5 (xe rD)
 have yo:aM m (rows++new).flatten (l++news):=by rw[bf0]; exact aM.append g1 S.vC
 have hr: ∀v∈l++news,v.oneCell'=true:=fun v ad=>by
  rcases List.mem_append.1 ad with ad|ad
  ·rcases g4 with g4|⟨b,p,rfl,g4⟩
   ·have:l=[]:=aV3 (by rw[g2,g4]; simp)
    subst this
    cases ad
   ·exact Md (Q:=fun v=>v.oneCell'=true) (fun j v bq=>(g4 j v bq).2.1) v ad
  ·exact S.one v ad
 have hlen:(l++news).length=(rows++new).length*size:=by rw[aT2,g2,S.n,aT2,aW4]
 have dd: ∀r∈rows++new,r.length=size:=fun r ab=>by
  rcases List.mem_append.1 ab with ab|ab
  ·exact g3 r ab
  ·exact S.pN r ab
 -- where the row lies
 have u2:=cy.2
 rw[dK]at u2
 simp only[bB.bP,bB.len]at u2
 have olds: ∀w:World,(∀b o,lC m b o→w.cell? ⟨b,o,none⟩=m.w.cell? ⟨b,o,none⟩)→(Builtin.firstCells size rows.length (.slice c6 rows.length cap)).run P w= .ok ⟨l⟩ w:=by
  intro w hw
  rcases g4 with g4|⟨b,p,rfl,g4⟩
  ·have:l=[]:=aV3 (by rw[g2,g4]; simp)
   subst this
   rw[g4]
   cases c6 with
   |none=>simp [Builtin.firstCells]
   |some x=>simp [Builtin.firstCells,loadCells,loadCellsFrom]
  ·have:=run_loadCells_list (P:=P) w ⟨b,p,none⟩ l (fun j u bq=>by
    obtain⟨br,bA,cy⟩:=g4 j u bq
    rw[mC]
    exact (hw b _ cy).trans br)
   rw[g2]at this
   simp [Builtin.firstCells,this]
 by_cases jF:rows.length+new.length≤cap
 ·have ab:=xN (ty:=ty) A (base:=c6) (k:=rows.length) (cap:=cap) S jF
  rcases u2 with ⟨yu,tI⟩|⟨g,CL,cur,yu,_,bm,aN1,aM3,jE,aN9⟩
  ·-- nil
   simp only[Value.slice.injEq]at yu
   obtain⟨rfl,aN0,rfl⟩:=yu
   have XN:new=[]:=aV3 (by omega)
   subst XN
   have h9:ov m m.w dc (.bP T size (rows.length)) (m.L dc) (.bP T size (rows.length+0)):=⟨⟨rfl,rfl,rfl,aT4 _,fun _ _ _=>rfl,fun _ _ _ _=>rfl,fun k hk=> .inl hk,aT4 _,rfl,rfl,aT4 _,fun _=>rfl⟩,⟨xs,cy,fun _ h=>by cases h⟩⟩
   refine⟨m.gt m.w dc (m.L dc) (.bP T size (rows.length+0)),_,ab,bG.gt aZ aF h9,bH.gt aZ aF h9.toGrows0,rfl,?_⟩
   have:=aK.aC (bH.gt aZ aF h9.toGrows0) _ _ rD
   simpa using this
  ·-- in its block
   simp only[Value.slice.injEq]at yu
   obtain⟨rfl,_,rfl⟩:=yu
   have hD:(m.L dc).dV=some g:=by rw[dK]; rfl
   have kQ:=run_storeCells_at P g (rows.length*size) T news 0 cur m.w bm (by
    rw[S.n,jE,bb8,←aW4]
    exact aW1 _ jF) S.one
   simp only[bb8]at kQ
   have jG:(Builtin.append_ #[t,u] ty #[.slice (some ⟨g,0,none⟩) rows.length cap,y]).run P m.w= .ok (.slice (some ⟨g,0,none⟩) (rows.length+new.length) cap) (m.w.setRow g (cur.toList.take (rows.length*size)++news++cur.toList.drop (rows.length*size+news.length)).toArray):=by
    rw[ab]
    simp only[mC,aW6,kQ,Result.andThen_ok]
   generalize nD:(cur.toList.take (rows.length*size)++news++cur.toList.drop (rows.length*size+news.length)).toArray=cur' at jG
   have uY:=setRow_heap m.w g cur cur' T (0,0) bm
   have hle:rows.length*size≤cur.size:=by rw[jE]; exact aW1 _ hq
   have XD:rows.length*size+news.length≤cur.size:=by
    rw[S.n,jE,←aW4]
    exact aW1 _ jF
   have qt:cur'.size=cap*size:=by
    rw[←nD,←jE]
    simp
    omega
   have wN: ∀(j:Nat),j<rows.length*size→cur'[j]? =cur[j]? :=by
    intro j bq
    rw[←nD]
    simp only[bd7,aU9]
    rw[aX7 (by simp; omega),aV6,if_pos bq]
    simp
   have Ed: ∀(j:Nat) (v:Value),(l++news)[j]? =some v→cur'[j]? =some v:=by
    intro j v bq
    by_cases Xv:j<l.length
    ·rw[aX7 Xv]at bq
     rw[wN j (by omega)]
     rcases g4 with g4|⟨b,p,La,g4⟩
     ·have:l.length=0:=by rw[g2,g4]; simp
      omega
     ·simp at La
      obtain⟨rfl,rfl⟩:=La
      have:=(g4 j v bq).1
      rw[aW6,cell_of_row m.w g j cur T (0,0) bm]at this
      exact this
    ·rw[aZ8 (by omega)]at bq
     rw[←nD]
     simp only[bd7,aU9]
     have Ej:(cur.toList.take (rows.length*size)).length=rows.length*size:=by simp; omega
     have aM8:=(List.getElem?_eq_some_iff.1 bq).1
     rw[aZ8 (by omega),Ej,aX7 (by omega),←g2]
     exact bq
   have h9:ov m (m.w.setRow g cur') dc (.bP T size (rows.length)) (.slice (some ⟨g,0,none⟩) (rows.length+new.length) cap) (.bP T size (rows.length+new.length)):=by
    refine⟨⟨rfl,rfl,rfl,by simp,fun k hk dP=>setRow_other m.w g k cur' (fun e=>dP (by rw[hD,e])),fun k c hk ah=> ?_,fun k hk=> .inl ?_,bh4 _ _,rfl,rfl,bh4 _ _,fun e=> ?_⟩,?_⟩
    ·rw[hD]at hk
     simp at hk
     subst hk
     rw[cell_of_row _ g c cur' T (0,0) uY,cell_of_row m.w g c cur T (0,0) bm]
     exact wN c ah
    ·rw[hD]
     simpa [Value.dV] using hk
    ·rw[dK]
     have:new.length=0:=by simpa [bB.bP] using e
     simp [this]
    ·refine⟨cur'.toList.take ((rows.length+new.length)*size),⟨?_,.inr ⟨g,cap,cur',rfl,aT8 _,uY,jF,py,qt,rfl⟩⟩,fun _ h=>by cases h⟩
     have:(rows.length+new.length)*size≤cap*size:=aW1 _ jF
     simp [bB.bP,bB.len]
     omega
   refine⟨m.gt (m.w.setRow g cur') dc (.slice (some ⟨g,0,none⟩) (rows.length+new.length) cap) (.bP T size (rows.length+new.length)),_,jG,bG.gt aZ aF h9,bH.gt aZ aF h9.toGrows0,rfl,?_⟩
   have:=EW (bG.gt aZ aF h9) (t:=dc) (i:=(.bP T size (rows.length+new.length))) (size:=size) (rows:=rows++new) (l:=l++news) (n:=rows.length+new.length) (cap:=cap) (b:=g) (cur:=cur') (T:=T) (by simp [Mem.gt,aw.b7]) (by simp [Mem.gt]) (by simp [bB.bP]) (by simp [bB.bP]) rfl (by simp) uY (aM.aC (bH.gt aZ aF h9.toGrows0) _ _ yo) hr hlen dd Ed jF py
   simpa [Mem.gt] using this
 ·-- into a new block
  have ab:=z6 (ty:=ty) A (base:=c6) (k:=rows.length) (cap:=cap) (olds:=l) S jF olds py hq hb kw
  have ck:=grownCap_ge m.w (rows.length+new.length) cap T
  have hle:=grownCap_le_maxLen m.w (rows.length+new.length) cap T kw
  generalize nD:(⟨l++news⟩++Builtin.zeroCells A.z.cells (grownCap m.w (rows.length+new.length) cap T-(rows.length+new.length)):Array Value)=cur' at ab
  have qt:cur'.size=grownCap m.w (rows.length+new.length) cap T*size:=by
   rw[←nD]
   have:(l++news).length=(rows.length+new.length)*size:=by rw[hlen,aT2]
   simp only[be4,ba5,xA,A.pB,this,←aW4]
   congr 1
   omega
  have Ed: ∀(j:Nat) (v:Value),(l++news)[j]? =some v→cur'[j]? =some v:=by
   intro j v bq
   rw[←nD,bj2]
   have:=(List.getElem?_eq_some_iff.1 bq).1
   simp only[ba5]
   rw[if_pos this]
   simpa using bq
  have h9:ov m (m.w.drew.alloc (.cells cur' T)) dc (.bP T size (rows.length)) (.slice (some ⟨m.w.heap.size,0,none⟩) (rows.length+new.length) (grownCap m.w (rows.length+new.length) cap T)) (.bP T size (rows.length+new.length)):=by
   refine⟨⟨rfl,rfl,rfl,by simp,fun k hk _=>su _ _ _ hk,fun k c hk _=>World.cell?_of_block (a:=⟨k,c,none⟩) (su _ _ _ (ua aZ aF hk)),fun k hk=> .inr ?_,bh4 _ _,rfl,rfl,bh4 _ _,fun e=> ?_⟩,?_⟩
   ·simp [Value.dV]at hk
    omega
   ·have:new.length=0:=by simpa [bB.bP] using e
    omega
   ·refine⟨cur'.toList.take ((rows.length+new.length)*size),⟨?_,.inr ⟨m.w.heap.size,_,cur',rfl,aT8 _,uV _ _,ck,hle,qt,rfl⟩⟩,fun _ h=>by cases h⟩
    have:(rows.length+new.length)*size≤grownCap m.w (rows.length+new.length) cap T*size:=aW1 _ ck
    simp [bB.bP,bB.len]
    omega
  refine⟨m.gt (m.w.drew.alloc (.cells cur' T)) dc (.slice (some ⟨m.w.heap.size,0,none⟩) (rows.length+new.length) (grownCap m.w (rows.length+new.length) cap T)) (.bP T size (rows.length+new.length)),_,ab,bG.gt aZ aF h9,bH.gt aZ aF h9.toGrows0,rfl,?_⟩
  have:=EW (bG.gt aZ aF h9) (t:=dc) (i:=(.bP T size (rows.length+new.length))) (size:=size) (rows:=rows++new) (l:=l++news) (n:=rows.length+new.length) (cap:=grownCap m.w (rows.length+new.length) cap T) (b:=m.w.heap.size) (cur:=cur') (T:=T) (by simp [Mem.gt,aw.b7]) (by simp [Mem.gt]) (by simp [bB.bP]) (by simp [bB.bP]) rfl (by simp) (uV _ _) (aM.aC (bH.gt aZ aF h9.toGrows0) _ _ yo) hr hlen dd Ed ck hle
  simpa [Mem.gt] using this
end
section
variable {P:Program}{m:Mem}{env:Env}{a:Act}{o:Oper}
theorem tP (aZ:bG m){t ver T size:Nat}{rows:List (List I)}{v:Value}(aF:m.H.tok t=some (.bc T size ver rows)) (ad:aK m (.cz t ver) v):
  m.L t=v∧size≠0∧(∀r∈rows,r.length=size)∧((v= .slice none 0 0∧rows=[])∨∃g p cap cur,v= .slice (some ⟨g,p,none⟩) rows.length cap∧m.w.heap[g]? =some (.cells cur T (0,0))∧rows.length≤cap∧cap≤maxLen∧p+cap*size≤cur.size∧aM m rows.flatten ((cur.toList.drop p).take (rows.length*size))∧∀u∈(cur.toList.drop p).take (rows.length*size),u.oneCell'=true):=by
 simp only[aK]at ad
 have dK:m.L t=v:=(ad.2.2 _ aF).2 rfl
 obtain⟨br,bA,⟨xs,cy,gT⟩,eR⟩:=aZ.tok t _ aF
 obtain⟨gT,sA,yH⟩:=gT rows rfl
 refine⟨dK,bA,sA,?_⟩
 rw[dK]at cy
 obtain⟨Zg,cy⟩:=cy
 simp only[bB.bc,bB.len]at cy Zg
 rcases cy with ⟨aj,aq⟩|⟨g,p,cap,cur,aj,aq,bD,da,fh,l6⟩
 ·exact .inl ⟨aj,aV3 aq⟩
 ·subst l6
  exact .inr ⟨g,p,cap,cur,aj,aq,bD,da,fh,gT,yH⟩
theorem sF {aU:Mem}{t ver T size:Nat}{rows:List (List I)}{v:Value}(aZ:bG aU) (aF:aU.H.tok t=some (.bc T size ver rows)) (dK:aU.L t=v) (ad:v.oneCell'=true):aK aU (.cz t ver) v:=by
 simp only[aK]
 refine⟨ad,(aZ.tok t _ aF).1,fun i ae=> ?_⟩
 rw[aF]at ae
 simp at ae
 subst ae
 exact⟨aT4 _,fun _=>dK⟩
theorem Bl (aZ:bG m){w':World}{T size cap:Nat}{cur:Array Value}{rows:List (List I)}(h1:w'.os=m.w.os) (J:w'.tape=m.w.tape) (aA:w'.output=m.w.output) (bz:m.w.heap.size≤w'.heap.size) (bZ: ∀b,b<m.w.heap.size→w'.heap[b]? =m.w.heap[b]?)
  (hb:w'.heap[m.w.heap.size]? =some (.cells cur T (0,0))) (aE:aM m rows.flatten (cur.toList.take (rows.length*size))) (af: ∀v∈cur.toList.take (rows.length*size),v.oneCell'=true) (dd: ∀r∈rows,r.length=size) (jE:cur.size=cap*size) (hq:rows.length≤cap) (kw:cap≤maxLen) (aW:size≠0):
  bG (m.bf w' (.slice (some ⟨m.w.heap.size,0,none⟩) rows.length cap) (.bc T size 0 rows))∧bH m (m.bf w' (.slice (some ⟨m.w.heap.size,0,none⟩) rows.length cap) (.bc T size 0 rows))∧
  aK (m.bf w' (.slice (some ⟨m.w.heap.size,0,none⟩) rows.length cap) (.bc T size 0 rows)) (.cz m.T 0) (.slice (some ⟨m.w.heap.size,0,none⟩) rows.length cap):=by
 have ad: ∀b,(Value.slice (some ⟨m.w.heap.size,0,none⟩) rows.length cap).dV=some b→m.w.heap.size≤b:=fun b e=>by simp [Value.dV]at e; omega
 have e:=bH.bf aZ (v:= .slice (some ⟨m.w.heap.size,0,none⟩) rows.length cap) (o:= .bc T size 0 rows) h1 J aA bz bZ ad
 have u2:w'.za T size (.slice (some ⟨m.w.heap.size,0,none⟩) rows.length cap) rows.length (cur.toList.take (rows.length*size)):=by
  refine⟨?_,.inr ⟨m.w.heap.size,0,cap,cur,rfl,hb,hq,kw,by omega,rfl⟩⟩
  have:rows.length*size≤cap*size:=aW1 _ hq
  simp; omega
 have r:=bG.bf aZ (v:= .slice (some ⟨m.w.heap.size,0,none⟩) rows.length cap) (o:= .bc T size 0 rows) h1 J aA bz bZ ad aW ⟨_,u2,fun rows' h=>by cases h; exact⟨aM.aC e _ _ aE,dd,af⟩⟩
 exact⟨r,e,sF r (T:=T) (size:=size) (rows:=rows) (by simp [Mem.bf,aw.b7]) (by simp [Mem.bf]) rfl⟩
theorem Mz (aZ:bG m){T size:Nat}(aW:size≠0):bG (m.bf m.w (.slice none 0 0) (.bc T size 0 []))∧bH m (m.bf m.w (.slice none 0 0) (.bc T size 0 []))∧aK (m.bf m.w (.slice none 0 0) (.bc T size 0 [])) (.cz m.T 0) (.slice none 0 0):=by
 have ad: ∀b,(Value.slice none 0 0).dV=some b→m.w.heap.size≤b:=fun b e=>by simp [Value.dV]at e
 have e:=bH.bf aZ (w':=m.w) (v:= .slice none 0 0) (o:= .bc T size 0 []) rfl rfl rfl (aT4 _) (fun _ _=>rfl) ad
 have r:=bG.bf aZ (w':=m.w) (v:= .slice none 0 0) (o:= .bc T size 0 []) rfl rfl rfl (aT4 _) (fun _ _=>rfl) ad aW ⟨[],⟨by simp [bB.bc,bB.len],.inl ⟨rfl,rfl⟩⟩,fun rows' h=>by cases h; exact⟨by simp [aM],by simp,by simp⟩⟩
 exact⟨r,e,sF r (T:=T) (size:=size) (rows:=[]) (by simp [Mem.bf,aw.b7]) (by simp [Mem.bf]) rfl⟩
theorem RL {t u T ty:TypeId}{size bytes:Nat}(A:sW P t u T size bytes) (aZ:bG m){y:Value}{new:List (List I)}{news:List Value}(S:Src P m size y new news) (hb:new.length*bytes≤140737488355328) (kw:new.length≤maxLen) (aW:size≠0):
  ∃aU v,(Builtin.append_ #[t,u] ty #[.slice none 0 0,y]).run P m.w= .ok v aU.w∧bG aU∧bH m aU∧aU.H=m.H.b7 m.T (.bc T size 0 new)∧aK aU (.cz m.T 0) v:=by
 by_cases bb:new.length=0
 ·have:new=[]:=aV3 bb
  subst this
  have ab:=xN (ty:=ty) A (base:=none) (k:=0) (cap:=0) S (by simp)
  obtain⟨r,e,v⟩:=Mz aZ (T:=T) aW
  exact⟨m.bf m.w (.slice none 0 0) (.bc T size 0 []),_,ab,r,e,rfl,v⟩
 ·have ab:=z6 (ty:=ty) A (base:=none) (k:=0) (cap:=0) (olds:=[]) S (by omega) (fun w _=>by simp [Builtin.firstCells]) (aT8 _) (aT4 _) (by simpa using hb) (by simpa using kw)
  simp only[aW6,aV1]at ab
  have ck:=grownCap_ge m.w new.length 0 T
  have hle:=grownCap_le_maxLen m.w new.length 0 T kw
  have mO:(⟨news⟩++Builtin.zeroCells A.z.cells (grownCap m.w new.length 0 T-new.length):Array Value).toList.take (new.length*size)=news:=by
   simp only[bj7]
   rw[←S.n,bg3]
  obtain⟨r,e,v⟩:=Bl aZ (T:=T) (size:=size) (cap:=grownCap m.w new.length 0 T) (rows:=new) (cur:=⟨news⟩++Builtin.zeroCells A.z.cells (grownCap m.w new.length 0 T-new.length)) (w':=m.w.drew.alloc (.cells (⟨news⟩++Builtin.zeroCells A.z.cells (grownCap m.w new.length 0 T-new.length)) T)) rfl rfl rfl (by simp) (su _ _) (uV _ _) (by rw[mO]; exact S.vC) (by rw[mO]; exact S.one) S.pN
   (by
    simp only[be4,ba5,xA,A.pB,S.n,←aW4]
    congr 1
    omega) ck hle aW
  exact⟨_,_,ab,r,e,rfl,v⟩
theorem RJ {t u T ty:TypeId}{size bytes:Nat}(A:sW P t u T size bytes) (aZ:bG m){dc ver:Nat}{rows:List (List I)}{v0:Value}(rD:aK m (.cz dc ver) v0) (aF:m.H.tok dc=some (.bc T size ver rows)){y:Value}{new:List (List I)}{news:List Value}(S:Src P m size y new news) (hb:(rows.length+new.length)*bytes≤140737488355328) (kw:rows.length+new.length≤maxLen):
  ∃aU v,(Builtin.append_ #[t,u] ty #[v0,y]).run P m.w= .ok v aU.w∧bG aU∧bH m aU∧aU.H=m.H.b7 dc (.bc T size (ver+1) (rows++new))∧aK aU (.cz dc (ver+1)) v:=by
 obtain⟨dK,aW,an,wH⟩:=tP aZ aF rD
 have dd: ∀r∈rows++new,r.length=size:=fun r ab=>by
  rcases List.mem_append.1 ab with ab|ab
  ·exact an r ab
  ·exact S.pN r ab
 rcases wH with ⟨rfl,rfl⟩|⟨g,p,cap,cur,rfl,bm,hq,py,jE,qs,hr⟩
 ·-- nil
  simp only[aU1,aW6]at hb kw
  by_cases bb:new.length=0
  ·have:new=[]:=aV3 bb
   subst this
   have ab:=xN (ty:=ty) A (base:=none) (k:=0) (cap:=0) S (by simp)
   have g0:Grows0 m m.w dc (.bc T size ver []) (.slice none 0 0) (.bc T size (ver+1) []):=⟨rfl,rfl,rfl,aT4 _,fun _ _ _=>rfl,fun _ _ _ _=>rfl,fun k hk=>by simp [Value.dV]at hk,aT4 _,rfl,rfl,bf1 _,fun e=>by simp [bB.bc]at e⟩
   have h9:ov m m.w dc (.bc T size ver []) (.slice none 0 0) (.bc T size (ver+1) []):=⟨g0,[],⟨by simp [bB.bc,bB.len],.inl ⟨rfl,rfl⟩⟩,fun rows' h=>by cases h; exact⟨by simp [aM],by simp,by simp⟩⟩
   have r:=bG.gt aZ aF h9
   exact⟨m.gt m.w dc (.slice none 0 0) (.bc T size (ver+1) []),_,ab,r,bH.gt aZ aF g0,rfl,sF r (T:=T) (size:=size) (rows:=[]) (by simp [Mem.gt,aw.b7]) (by simp [Mem.gt]) rfl⟩
  ·have ab:=z6 (ty:=ty) A (base:=none) (k:=0) (cap:=0) (olds:=[]) S (by omega) (fun w _=>by simp [Builtin.firstCells]) (aT8 _) (aT4 _) (by simpa using hb) (by simpa using kw)
   simp only[aW6,aV1]at ab
   have ck:=grownCap_ge m.w new.length 0 T
   have hle:=grownCap_le_maxLen m.w new.length 0 T kw
   generalize nD:(⟨news⟩++Builtin.zeroCells A.z.cells (grownCap m.w new.length 0 T-new.length):Array Value)=cur' at ab
   have mO:cur'.toList.take (new.length*size)=news:=by
    rw[←nD]
    simp only[bj7]
    rw[←S.n,bg3]
   have qt:cur'.size=grownCap m.w new.length 0 T*size:=by
    rw[←nD]
    simp only[be4,ba5,xA,A.pB,S.n,←aW4]
    congr 1
    omega
   have g0:Grows0 m (m.w.drew.alloc (.cells cur' T)) dc (.bc T size ver []) (.slice (some ⟨m.w.heap.size,0,none⟩) new.length (grownCap m.w new.length 0 T)) (.bc T size (ver+1) new):=
    ⟨rfl,rfl,rfl,by simp,fun k hk _=>su _ _ _ hk,fun k c hk _=>World.cell?_of_block (a:=⟨k,c,none⟩) (su _ _ _ (ua aZ aF hk)),fun k hk=> .inr (by simp [Value.dV]at hk; omega),aT4 _,rfl,rfl,bf1 _,fun e=>by simp [bB.bc]at e⟩
   have aC:=bH.gt aZ aF g0
   have h9:ov m (m.w.drew.alloc (.cells cur' T)) dc (.bc T size ver []) (.slice (some ⟨m.w.heap.size,0,none⟩) new.length (grownCap m.w new.length 0 T)) (.bc T size (ver+1) new):=
    ⟨g0,news,⟨S.n,.inr ⟨m.w.heap.size,0,_,cur',rfl,uV _ _,ck,hle,by rw[qt,aW6]; exact aT4 _,mO⟩⟩,fun rows' h=>by cases h; exact⟨aM.aC aC _ _ S.vC,S.pN,S.one⟩⟩
   have r:=bG.gt aZ aF h9
   exact⟨m.gt (m.w.drew.alloc (.cells cur' T)) dc (.slice (some ⟨m.w.heap.size,0,none⟩) new.length (grownCap m.w new.length 0 T)) (.bc T size (ver+1) new),_,ab,r,aC,by simp [Mem.gt],sF r (T:=T) (size:=size) (rows:=new) (by simp [Mem.gt,aw.b7]) (by simp [Mem.gt]) rfl⟩
 ·have Lu:p+rows.length*size≤cur.size:=aX0 (bb7 (aW1 _ hq) _) jE
  generalize aE:(cur.toList.drop p).take (rows.length*size)=l at qs hr
  have li:l.length=rows.length*size:=by rw[←aE]; simp; omega
  have XB: ∀(j:Nat) (u:Value),l[j]? =some u→m.w.cell? ⟨g,p+j,none⟩=some u:=by
   intro j u bq
   rw[cell_of_row m.w g (p+j) cur T (0,0) bm]
   rw[←aE,aV6]at bq
   split at bq
   ·simpa [aZ0] using bq
   ·cases bq
  have yo:aM m (rows++new).flatten (l++news):=by rw[bf0]; exact aM.append qs S.vC
  have A3: ∀v∈l++news,v.oneCell'=true:=fun v ad=>by
   rcases List.mem_append.1 ad with ad|ad
   ·exact hr v ad
   ·exact S.one v ad
  have hlen:(l++news).length=(rows++new).length*size:=by rw[aT2,li,S.n,aT2,aW4]
  have hD:(m.L dc).dV=some g:=by rw[dK]; rfl
  by_cases jF:rows.length+new.length≤cap
  ·have ab:=xN (ty:=ty) A (base:=some ⟨g,p,none⟩) (k:=rows.length) (cap:=cap) S jF
   have kQ:=run_storeCells_at P g (p+rows.length*size) T news 0 cur m.w bm (by
    rw[S.n,bb8,ba9,←aW4]
    exact aX0 (bb7 (aW1 _ jF) _) jE) S.one
   simp only[bb8]at kQ
   have jG:(Builtin.append_ #[t,u] ty #[.slice (some ⟨g,p,none⟩) rows.length cap,y]).run P m.w= .ok (.slice (some ⟨g,p,none⟩) (rows.length+new.length) cap) (m.w.setRow g (cur.toList.take (p+rows.length*size)++news++cur.toList.drop (p+rows.length*size+news.length)).toArray):=by
    rw[ab]
    simp only[mC,kQ,Result.andThen_ok]
   have Ya:cur.toList.take (p+rows.length*size)=cur.toList.take p++l:=by rw[←aE,List.take_add]
   rw[Ya]at jG
   generalize nD:(cur.toList.take p++l++news++cur.toList.drop (p+rows.length*size+news.length)).toArray=cur' at jG
   have uY:=setRow_heap m.w g cur cur' T (0,0) bm
   have XD:p+rows.length*size+news.length≤cur.size:=by
    rw[S.n,ba9,←aW4]
    exact aX0 (bb7 (aW1 _ jF) _) jE
   have Ec:(cur.toList.take p).length=p:=by simp; omega
   have qt:p+cap*size≤cur'.size:=by
    refine aX0 jE (Nat.le_of_eq ?_)
    rw[←nD]
    simp
    omega
   have mO:(cur'.toList.drop p).take ((rows++new).length*size)=l++news:=by
    rw[←nD,←hlen]
    simp only[List.toList_toArray,aU9]
    rw[bj5 (by omega),List.drop_of_length_le (by omega),aV1,←aU9,bg3]
   have g0:Grows0 m (m.w.setRow g cur') dc (.bc T size ver rows) (.slice (some ⟨g,p,none⟩) (rows.length+new.length) cap) (.bc T size (ver+1) (rows++new)):=
    ⟨rfl,rfl,rfl,by simp,fun k hk dP=>setRow_other m.w g k cur' (fun e=>dP (by rw[hD,e])),fun k c hk ah=>by simp [bB.bc]at ah,fun k hk=> .inl (by rw[hD]; simpa [Value.dV] using hk),aT4 _,rfl,rfl,bf1 _,fun e=>by simp [bB.bc]at e⟩
   have aC:=bH.gt aZ aF g0
   have h9:ov m (m.w.setRow g cur') dc (.bc T size ver rows) (.slice (some ⟨g,p,none⟩) (rows.length+new.length) cap) (.bc T size (ver+1) (rows++new)):=
    ⟨g0,l++news,⟨hlen,.inr ⟨g,p,cap,cur',by simp [bB.bc,bB.len],uY,by simpa [bB.bc,bB.len] using jF,py,qt,mO⟩⟩,fun rows' h=>by cases h; exact⟨aM.aC aC _ _ yo,dd,A3⟩⟩
   have r:=bG.gt aZ aF h9
   exact⟨m.gt (m.w.setRow g cur') dc (.slice (some ⟨g,p,none⟩) (rows.length+new.length) cap) (.bc T size (ver+1) (rows++new)),_,jG,r,aC,rfl,sF r (T:=T) (size:=size) (rows:=rows++new) (by simp [Mem.gt,aw.b7]) (by simp [Mem.gt]) rfl⟩
  ·have olds:(Builtin.firstCells size rows.length (.slice (some ⟨g,p,none⟩) rows.length cap)).run P m.w.drew= .ok ⟨l⟩ m.w.drew:=by
    have:=run_loadCells_list (P:=P) m.w.drew ⟨g,p,none⟩ l (fun j u bq=>by
     rw[mC]
     exact XB j u bq)
    rw[li]at this
    simp [Builtin.firstCells,this]
   have ab:=GW (ty:=ty) A (base:=some ⟨g,p,none⟩) (k:=rows.length) (cap:=cap) (olds:=l) S jF olds py hq hb kw
   have ck:=grownCap_ge m.w (rows.length+new.length) cap T
   have hle:=grownCap_le_maxLen m.w (rows.length+new.length) cap T kw
   generalize nD:(⟨l++news⟩++Builtin.zeroCells A.z.cells (grownCap m.w (rows.length+new.length) cap T-(rows.length+new.length)):Array Value)=cur' at ab
   have mO:cur'.toList.take ((rows++new).length*size)=l++news:=by
    rw[←nD,←hlen]
    simp only[bj7]
    rw[bg3]
   have qt:cur'.size=grownCap m.w (rows.length+new.length) cap T*size:=by
    rw[←nD]
    have:(l++news).length=(rows.length+new.length)*size:=by rw[hlen,aT2]
    simp only[be4,ba5,xA,A.pB,this,←aW4]
    congr 1
    omega
   have g0:Grows0 m (m.w.drew.alloc (.cells cur' T)) dc (.bc T size ver rows) (.slice (some ⟨m.w.heap.size,0,none⟩) (rows.length+new.length) (grownCap m.w (rows.length+new.length) cap T)) (.bc T size (ver+1) (rows++new)):=
    ⟨rfl,rfl,rfl,by simp,fun k hk _=>su _ _ _ hk,fun k c hk ah=>by simp [bB.bc]at ah,fun k hk=> .inr (by simp [Value.dV]at hk; omega),aT4 _,rfl,rfl,bf1 _,fun e=>by simp [bB.bc]at e⟩
   have aC:=bH.gt aZ aF g0
   have h9:ov m (m.w.drew.alloc (.cells cur' T)) dc (.bc T size ver rows) (.slice (some ⟨m.w.heap.size,0,none⟩) (rows.length+new.length) (grownCap m.w (rows.length+new.length) cap T)) (.bc T size (ver+1) (rows++new)):=
    ⟨g0,l++news,⟨hlen,.inr ⟨m.w.heap.size,0,_,cur',by simp [bB.bc,bB.len],uV _ _,by simpa [bB.bc,bB.len] using ck,hle,by rw[qt,aW6]; exact aT4 _,mO⟩⟩,fun rows' h=>by cases h; exact⟨aM.aC aC _ _ yo,dd,A3⟩⟩
   have r:=bG.gt aZ aF h9
   exact⟨m.gt (m.w.drew.alloc (.cells cur' T)) dc (.slice (some ⟨m.w.heap.size,0,none⟩) (rows.length+new.length) (grownCap m.w (rows.length+new.length) cap T)) (.bc T size (ver+1) (rows++new)),_,ab,r,aC,rfl,sF r (T:=T) (size:=size) (rows:=rows++new) (by simp [Mem.gt,aw.b7]) (by simp [Mem.gt]) rfl⟩
theorem as4 (l new:List Value) (k n:Nat) (h:k+new.length≤n) (bb:n≤l.length):(fM l k new).take n=fM (l.take n) k new:=by
 unfold fM
 have aj:(l.take k++new).length=k+new.length:=by simp; omega
 rw[List.take_append,aj,List.take_of_length_le (by omega),List.take_take,Nat.min_eq_left (by omega),bi8]
theorem BL {size:Nat}: ∀ {rows:List (List I)},(∀r∈rows,r.length=size)→rows.flatten.length=rows.length*size
 |[],_=>by simp
 |r::rows,h=>by
  rw[aU3,aT2,BL (fun x U=>h x (by simp [U])),h r (by simp),aT3,aW4]
  omega
theorem Ey (aZ:bG m){dc ver k T size:Nat}{rows:List (List I)}{nM:Value}(hp:aK m (.mp dc ver k) nM) (aF:m.H.tok dc=some (.bc T size ver rows)):
  ∃g p cap cur,nM= .pointer (some ⟨g,p+k,none⟩)∧m.L dc= .slice (some ⟨g,p,none⟩) rows.length cap∧size≠0∧(∀r∈rows,r.length=size)∧m.w.heap[g]? =some (.cells cur T (0,0))∧rows.length≤cap∧cap≤maxLen∧p+cap*size≤cur.size∧aM m rows.flatten ((cur.toList.drop p).take (rows.length*size))∧∀u∈(cur.toList.drop p).take (rows.length*size),u.oneCell'=true:=by
 simp only[aK]at hp
 obtain⟨b,p,len,cap,aj,aq⟩:=(hp.2.2 _ aF).2 rfl
 have ad:aK m (.cz dc ver) (m.L dc):=sF aZ aF rfl (by rw[aj]; rfl)
 obtain⟨_,aW,an,ah⟩:=tP aZ aF ad
 rw[aj]at ah
 rcases ah with ⟨e,_⟩|⟨g,ad2,CL,cur,e,r⟩
 ·simp at e
 ·simp only[Value.slice.injEq,Option.some.injEq,Addr.mk.injEq]at e
  obtain⟨⟨rfl,rfl,_⟩,rfl,rfl⟩:=e
  exact⟨b,p,cap,cur,aq,aj,aW,an,r⟩
theorem as2 (l new:List Value) (p k:Nat) (h:p+k≤l.length):(fM l (p+k) new).drop p=fM (l.drop p) k new:=by
 unfold fM
 rw[aU9,bj5 (by simp; omega),bi8,bg5,aU9,show p+k-p=k by omega,show p+(k+new.length)=p+k+new.length by omega]
theorem Qt (aZ:bG m){dc ver k T size:Nat}{rows rows':List (List I)}{nM:Value}{cs:List I}{l:List Value}(hp:aK m (.mp dc ver k) nM) (aF:m.H.tok dc=some (.bc T size ver rows)) (aE:k+cs.length≤rows.flatten.length) (jE:aM m cs l) (af: ∀u∈l,u.oneCell'=true)
  (aO:rows'.flatten=fs rows.flatten k cs) (ab: ∀r∈rows',r.length=size) (hlen:rows'.length=rows.length):
  ∃c6 aU,nM= .pointer (some c6)∧(storeCells c6 l 0).run P m.w= .ok () aU.w∧bG aU∧bH m aU∧aU.H=m.H.b7 dc (.bc T size ver rows'):=by
 obtain⟨g,p,cap,cur,aj,aq,aW,an,bm,hq,py,tD,qs,hr⟩:=Ey aZ hp aF
 have bb:=aM.length jE
 have X3:=BL an
 have Lu:p+rows.length*size≤cur.size:=aX0 (bb7 (aW1 _ hq) _) tD
 have kQ:=run_storeCells_at P g (p+k) T l 0 cur m.w bm (by omega) af
 have Xg:(cur.toList.take (p+k+0)++l++cur.toList.drop (p+k+0+l.length)).toArray=⟨fM cur.toList (p+k) l⟩:=by simp [fM]
 rw[Xg]at kQ
 have tE:(fM cur.toList (p+k) l).drop p=fM (cur.toList.drop p) k l:=as2 _ _ _ _ (by have DL:=aX4 (xs:=cur); omega)
 have mO:((fM cur.toList (p+k) l).drop p).take (rows.length*size)=fM ((cur.toList.drop p).take (rows.length*size)) k l:=by
  rw[tE]
  exact as4 _ _ _ _ (by omega) (by have DL:=aX4 (xs:=cur); rw[bd3]; omega)
 have uY:=setRow_heap m.w g cur ⟨fM cur.toList (p+k) l⟩ T (0,0) bm
 have hD:(m.L dc).dV=some g:=by rw[aq]; rfl
 have qt:p+cap*size≤(⟨fM cur.toList (p+k) l⟩:Array Value).size:=by
  refine aX0 tD (Nat.le_of_eq ?_)
  simp [fM]
  omega
 have g0:Grows0 m (m.w.setRow g ⟨fM cur.toList (p+k) l⟩) dc (.bc T size ver rows) (m.L dc) (.bc T size ver rows'):=
  ⟨rfl,rfl,rfl,by simp,fun x hk dP=>setRow_other m.w g x _ (fun e=>dP (by rw[hD,e])),fun x c hk ah=>by simp [bB.bc]at ah,fun x hk=> .inl hk,aT4 _,rfl,rfl,aT4 _,fun _=>rfl⟩
 have aC:=bH.gt aZ aF g0
 have h9:ov m (m.w.setRow g ⟨fM cur.toList (p+k) l⟩) dc (.bc T size ver rows) (m.L dc) (.bc T size ver rows'):=by
  refine⟨g0,fM ((cur.toList.drop p).take (rows.length*size)) k l,⟨?_,.inr ⟨g,p,cap,⟨fM cur.toList (p+k) l⟩,?_,uY,?_,py,qt,?_⟩⟩,fun ap8 a8=> ?_⟩
  ·simp [bB.bc,bB.len,fM]
   rw[hlen]
   omega
  ·rw[aq]; simp [bB.bc,bB.len,hlen]
  ·simp [bB.bc,bB.len,hlen]; exact hq
  ·simp only[bB.bc,bB.len,hlen]; exact mO
  ·cases a8
   refine⟨aM.aC aC _ _ ?_,ab,fun v ad=> ?_⟩
   ·rw[aO]
    exact FH qs jE k
   ·simp only[fM,aW9]at ad
    rcases ad with (ad|ad)|ad
    ·exact hr v (be6 ad)
    ·exact af v ad
    ·exact hr v (bh2 ad)
 have r:=bG.gt aZ aF h9
 exact⟨_,m.gt (m.w.setRow g ⟨fM cur.toList (p+k) l⟩) dc (m.L dc) (.bc T size ver rows'),aj,kQ,r,aC,rfl⟩
theorem Fx: ∀ {rows:List (List I)}{size q h:Nat},(∀r∈rows,r.length=size)→((rows.take h).drop q).flatten=(rows.flatten.take (h*size)).drop (q*size)
 |[],_,_,_,_=>by simp
 |r::rows,size,q,0,_=>by simp
 |r::rows,size,0,h+1,an=>by
  have ab:=an r (by simp)
  have:=Fx (rows:=rows) (size:=size) (q:=0) (h:=h) fun x U=>an x (by simp [U])
  simp only[List.drop_zero,bi6]at this ⊢
  rw[aY1,aU3,aU3,this,aW4,Nat.one_mul,bd0,←ab,bg6]
 |r::rows,size,q+1,h+1,an=>by
  have ab:=an r (by simp)
  have:=Fx (rows:=rows) (size:=size) (q:=q) (h:=h) fun x U=>an x (by simp [U])
  rw[aY1,List.drop_succ_cons,this,aU3,aW4,aW4,Nat.one_mul,bd0 (h*size),bd0 (q*size),←ab,bg6,List.drop_length_add_append]
theorem au0 (aZ:bG m){dc ver T size h q:Nat}{rows:List (List I)}{c6:Option Addr}{cap:Nat}(rD:aK m (.cz dc ver) (.slice c6 rows.length cap)) (aF:m.H.tok dc=some (.bc T size ver rows)) (h1:h≤rows.length) (bs:q≤h):
  ∃aU,aU.w=m.w∧bG aU∧bH m aU∧aU.H=m.H.b7 dc (.bc T size (ver+1) ((rows.take h).drop q))∧aK aU (.cz dc (ver+1)) (.slice (if cap=q then c6 else c6.map (·.add (q*size))) (h-q) (cap-q)):=by
 obtain⟨dK,aW,an,wH⟩:=tP aZ aF rD
 have hlen:((rows.take h).drop q).length=h-q:=by simp; omega
 rcases wH with ⟨e,rfl⟩|⟨g,p,cap,cur,e,bm,hq,py,jE,qs,hr⟩
 ·simp only[aU1,Nat.le_zero_eq]at h1
  subst h1
  obtain rfl:q=0:=Nat.le_zero.1 bs
  simp only[Value.slice.injEq]at e
  obtain⟨rfl,_,rfl⟩:=e
  have g0:Grows0 m m.w dc (.bc T size ver []) (.slice none 0 0) (.bc T size (ver+1) []):=⟨rfl,rfl,rfl,aT4 _,fun _ _ _=>rfl,fun _ _ _ _=>rfl,fun k hk=>by simp [Value.dV]at hk,aT4 _,rfl,rfl,bf1 _,fun e=>by simp [bB.bc]at e⟩
  have h9:ov m m.w dc (.bc T size ver []) (.slice none 0 0) (.bc T size (ver+1) []):=⟨g0,[],⟨by simp [bB.bc,bB.len],.inl ⟨rfl,rfl⟩⟩,fun rows' h=>by cases h; exact⟨by simp [aM],by simp,by simp⟩⟩
  have r:=bG.gt aZ aF h9
  exact⟨m.gt m.w dc (.slice none 0 0) (.bc T size (ver+1) []),rfl,r,bH.gt aZ aF g0,rfl,sF r (T:=T) (size:=size) (rows:=[]) (by simp [Mem.gt,aw.b7]) (by simp [Mem.gt]) rfl⟩
 ·simp only[Value.slice.injEq]at e
  obtain⟨rfl,_,rfl⟩:=e
  have hD:(m.L dc).dV=some g:=by rw[dK]; rfl
  obtain⟨o,ad,Xe,Lg⟩: ∃o,(if cap=q then some (⟨g,p,none⟩:Addr) else (some (⟨g,p,none⟩:Addr)).map (·.add (q*size)))=some ⟨g,o,none⟩∧o+(cap-q)*size≤cur.size∧(cur.toList.drop o).take ((h-q)*size)=(cur.toList.drop (p+q*size)).take ((h-q)*size):=by
   by_cases ah:cap=q
   ·have aW:h-q=0:=by omega
    refine⟨p,by rw[if_pos ah],?_,by rw[aW,bi6,aX5,aX5]⟩
    rw[ah,Nat.sub_self,bi6]
    exact aX0 (bb7 (aT8 _) _) jE
   ·refine⟨p+q*size,by rw[if_neg ah]; simp [mC],?_,rfl⟩
    rw[ba9,←aW4,show q+(cap-q)=cap by omega]
    exact jE
  rw[ad]
  have XC:h*size≤rows.length*size:=aW1 _ h1
  have LI:(cur.toList.drop (p+q*size)).take ((h-q)*size)=(((cur.toList.drop p).take (rows.length*size)).take (h*size)).drop (q*size):=by
   rw[List.take_take,Nat.min_eq_left XC,bi8,bg5,Nat.sub_mul]
  have g0:Grows0 m m.w dc (.bc T size ver rows) (.slice (some ⟨g,o,none⟩) (h-q) (cap-q)) (.bc T size (ver+1) ((rows.take h).drop q)):=⟨rfl,rfl,rfl,aT4 _,fun _ _ _=>rfl,fun _ _ _ _=>rfl,fun k hk=> .inl (by rw[hD]; simpa [Value.dV] using hk),aT4 _,rfl,rfl,bf1 _,fun e=>by simp [bB.bc]at e⟩
  have aC:=bH.gt aZ aF g0
  have h9:ov m m.w dc (.bc T size ver rows) (.slice (some ⟨g,o,none⟩) (h-q) (cap-q)) (.bc T size (ver+1) ((rows.take h).drop q)):=⟨g0,(cur.toList.drop o).take ((h-q)*size),⟨by
   have:=aW1 size (show h-q≤cap-q by omega)
   simp only[bB.bc,bB.len,hlen,aX3,bd3,aX4]; omega,.inr ⟨g,o,cap-q,cur,by simp only[bB.bc,bB.len,hlen],bm,by simp only[bB.bc,bB.len,hlen]; omega,by omega,Xe,by simp only[bB.bc,bB.len,hlen]⟩⟩,fun rows' a8=>by
   cases a8
   refine⟨aM.aC aC _ _ ?_,fun r ab=>an r (be6 (bh2 ab)),fun u hu=>hr u ?_⟩
   ·rw[Fx an,Lg,LI]
    exact aM.drop _ (aM.take _ qs)
   ·rw[Lg,LI]at hu
    exact be6 (bh2 hu)⟩
  have r:=bG.gt aZ aF h9
  exact⟨m.gt m.w dc (.slice (some ⟨g,o,none⟩) (h-q) (cap-q)) (.bc T size (ver+1) ((rows.take h).drop q)),rfl,r,aC,rfl,sF r (T:=T) (size:=size) (rows:=(rows.take h).drop q) (by simp [Mem.gt,aw.b7]) (by simp [Mem.gt]) rfl⟩
end
section
variable {P:Program}{m:Mem}{env:Env}{a:Act}{o:Oper}
theorem Mx (aZ:bG m){t ver T size:Nat}{rows:List (List I)}{v:Value}(aF:m.H.tok t=some (.bc T size ver rows)) (ad:aK m (.cz t ver) v): ∃c6 cap,v= .slice c6 rows.length cap∧rows.length≤cap:=by
 obtain⟨_,_,_,ah⟩:=tP aZ aF ad
 rcases ah with ⟨rfl,rfl⟩|⟨g,p,cap,cur,rfl,_,h,_⟩
 ·exact⟨none,0,rfl,aT4 _⟩
 ·exact⟨_,cap,rfl,h⟩
theorem U7 {c y t ver T size}{rows:List (List I)}(he:dF m env a.tmps) (aZ:bG m) (af:o.op= .call c) (h:be P o.op (.hV y)=true) (aj:y.aC env= .cz t ver) (aF:m.H.tok t=some (.bc T size ver rows)):fb P m a o (.int .i64 rows.length):=by
 obtain⟨callee,args,argTypes⟩:=c
 rw[af]at h
 cases callee with
 |value f=>simp [be]at h
 |invoke _ _=>simp [be]at h
 |builtin b=>
  cases b<;>simp only[be]at h<;>first
   |(cases h; done)
   |skip
  simp only[aT0]at h
  obtain⟨h1,J⟩:=h
  split at h1
  ·rename_i x U
   split at J
   ·rename_i dk fL
    have ah:=cY he h1
    obtain rfl:=s3 U
    obtain rfl:=s3 fL
    split at J
    ·rename_i el hu
     rw[aj]at ah
     obtain⟨c6,cap,aq,_⟩:=Mx aZ aF ah
     refine⟨.int .i64 rows.length,?_,by simp only[aK]⟩
     refine Aj af rfl rfl P m.w m.w (.int .i64 rows.length) ?_
     simp [builtin,Builtin.len_,run_underlying hu,aq,goInt]
    ·cases J
   ·cases J
  ·cases h1
theorem BS {t el:TypeId}(e9:jl P t=some el):P.underlying t=some (.slice el):=by
 unfold jl at e9
 split at e9
 ·rename_i e hu; simp at e9; subst e9; exact hu
 ·cases e9
theorem U2 {ty x i size cE c3 t ver T k}{rows:List (List I)}{n:Int}(he:dF m env a.tmps) (aZ:bG m) (af:o.op= .indexAddr ty x i) (h:be P o.op (.hE size cE c3)=true) (aj:cE.aC env= .cz t ver) (aF:m.H.tok t=some (.bc T size ver rows)) (aq:c3.aC env= .int k n) (aW:0≤n) (ab:n<(rows.length:Int)):fb P m a o (.mp t ver (n.toNat*size)):=by
 rw[af]at h
 simp only[be,aT0]at h
 obtain⟨⟨h1,J⟩,aA⟩:=h
 have ae:=cY he J
 have U:=cY he h1
 rw[aq]at ae
 rw[aj]at U
 split at aA
 ·rename_i el e9
  have dd:iq P el=some size:=by simpa using aA
  have hu:=BS e9
  obtain⟨dK,dP,an,ah⟩:=tP aZ aF U
  rcases ah with ⟨_,rfl⟩|⟨g,p,cap,cur,e,_⟩
  ·simp at ab; omega
  ·refine⟨.pointer (some ⟨g,p+n.toNat*size,none⟩),?_,?_⟩
   ·simp [execOp,af,Instr.indexAt,e,iV ae,asIntOf,run_underlying hu,aW,ab,mn dd,mC]
   ·simp only[aK]
    refine⟨rfl,(aZ.tok t _ aF).1,fun j bq=> ?_⟩
    rw[aF]at bq
    simp at bq
    subst bq
    exact⟨aT4 _,fun _=>⟨g,p,_,_,dK.trans e,rfl⟩⟩
 ·cases aA
theorem U8 {ty x agg n y t ver k T size r}{rows:List (List I)}(he:dF m env a.tmps) (aZ:bG m) (af:o.op= .load ty x) (h:be P o.op (.ib agg n y)=true) (aj:y.aC env= .mp t ver k) (aF:m.H.tok t=some (.bc T size ver rows)) (aE:k+n≤rows.flatten.length) (ab:I.hJ agg ((rows.flatten.drop k).take n)=some r):fb P m a o r:=by
 rw[af]at h
 simp only[be,aT0]at h
 obtain⟨h1,J⟩:=h
 have U:=cY he J
 rw[aj]at U
 obtain⟨g,p,cap,cur,e,_,dP,an,bm,hq,py,tD,qs,hr⟩:=Ey aZ U aF
 have X3:=BL an
 have li:=aM.length qs
 generalize bs:(cur.toList.drop p).take (rows.length*size)=l at qs hr li
 refine⟨if agg then .agg ⟨(l.drop k).take n⟩ else ((l.drop k).take n).getD 0 undef,?_,?_⟩
 ·have:=FB (w:=m.w) h1 g (p+k) ((l.drop k).take n) (by simp; omega) (fun j v bq=>by
   rw[cell_of_row m.w g _ cur T (0,0) bm]
   rw[aV6]at bq
   split at bq
   ·rw[aZ0,←bs,aV6]at bq
    split at bq
    ·rw[aZ0,←ba9]at bq
     simpa using bq
    ·cases bq
   ·cases bq)
  simp [execOp,af,Instr.loadAt,e,Instr.sureAddr,this]
 ·rcases y4 ab (aM.take n (aM.drop k qs)) with ⟨rfl,h⟩|⟨rfl,v,e,h⟩
  ·exact h
  ·simp only[aU6,if_false,e]
   exact h
theorem U1 {t x f off y dc ver k T size}{rows:List (List I)}(he:dF m env a.tmps) (aZ:bG m) (af:o.op= .fieldAddr t x f) (h:be P o.op (.iB off y)=true) (aj:y.aC env= .mp dc ver k) (aF:m.H.tok dc=some (.bc T size ver rows)):fb P m a o (.mp dc ver (k+off)):=by
 rw[af]at h
 simp only[be,aT0]at h
 obtain⟨h1,J⟩:=h
 have ah:=cY he h1
 rw[aj]at ah
 obtain⟨g,p,cap,cur,cb,cp,_⟩:=Ey aZ ah aF
 split at J
 ·rename_i b6 hu
  split at J
  ·rename_i q bm
   simp only[aT0,decide_eq_true_eq]at J
   obtain⟨J,aA⟩:=J
   split at aA
   ·rename_i n bb
    have u1:n≠0:=by simpa using aA
    refine⟨.pointer (some ⟨g,p+(k+off),none⟩),?_,?_⟩
    ·simp [execOp,af,Instr.fieldAt,run_underlying hu,bm,cb,Instr.sureAddr,fieldPlace,mn bb,u1,mC,J,ba9]
    ·simp only[aK]at ah ⊢
     refine⟨rfl,ah.2.1,fun i ae=> ?_⟩
     rw[aF]at ae
     cases ae
     exact⟨aT4 _,fun _=>⟨g,p,_,cap,cp,rfl⟩⟩
   ·cases aA
  ·cases J
 ·cases J
theorem aH0 {size:Nat}{rows:List (List I)}{v:Value}(h:aK m (.ak size rows) v) (ab:rows≠[]): ∃x len cap,v= .slice (some x) len cap:=by
 simp only[aK]at h
 obtain⟨c6,len,cap,rfl,_,_,bz⟩:=h
 rcases bz with bz|⟨b,p,rfl,_⟩
 ·exact absurd (aV3 bz) ab
 ·exact⟨_,_,_,rfl⟩
theorem FA {op t x y u neg cE}(af:o.op= .binOp op t x y u) (h:be P o.op (.oO neg cE)=true){c6:Option Addr}{len cap:Nat}(ad:a.eval x= .slice c6 len cap):(execOp a.eval o).run P m.w= .ok (.value (.bool (bif neg then !c6.isNone else c6.isNone))) m.w:=by
 rw[af]at h
 simp only[be,aT0,decide_eq_true_eq]at h
 obtain⟨⟨⟨⟨h1,J⟩,aA⟩,bz⟩,bZ⟩:=h
 split at aA
 ·split at bz
  ·rename_i e he
   have hu:=BS he
   subst h1
   have bm: ∀op,(eqGuard op t x (.const (.slice none 0 0)) (.slice c6 len cap) (.slice none 0 0)).run P m.w= .ok () m.w:=by
    intro op
    have DJ:P.eqGuardType P.depth t=false:=by simpa using bZ
    unfold eqGuard; cases op<;>simp [DJ]
   have bs:(Op.equal t (.slice c6 len cap) (.slice none 0 0)).run P m.w= .ok c6.isNone m.w:=by
    have DE: ∀d,(Op.equalIn (d+1) t (.slice c6 len cap) (.slice none 0 0)).run P m.w= .ok c6.isNone m.w:=by
     intro d
     cases c6<;>simp [Op.equalIn,run_underlying hu]
    exact DE 9999
   have bg:a.eval (.const (.slice none 0 0))= .slice none 0 0:=rfl
   cases neg<;>simp [execOp,af,ad,bs,bm,binOp,bg]
  ·cases bz
 ·cases aA
theorem Ig {op t x y u neg cE b}(he:dF m env a.tmps) (af:o.op= .binOp op t x y u) (h:be P o.op (.oO neg cE)=true) (ad: ∀v,aK m (cE.aC env) v→(v= .slice none 0 0∧b= !neg)∨(∃q len cap,v= .slice (some q) len cap)∧b=neg):fb P m a o (.bool b):=by
 have J:cK x cE=true:=by
  rw[af]at h
  simp only[be,aT0,decide_eq_true_eq]at h
  exact h.1.1.1.2
 rcases ad _ (cY he J) with ⟨e,rfl⟩|⟨⟨q,len,cap,e⟩,rfl⟩
 ·exact⟨_,FA af h e,by simp only[aK]; cases neg<;>rfl⟩
 ·exact⟨_,FA af h e,by simp only[aK]; cases b<;>rfl⟩
theorem U6 {op t x y u neg cE size rows}(he:dF m env a.tmps) (af:o.op= .binOp op t x y u) (h:be P o.op (.oO neg cE)=true) (U:cE.aC env= .ak size rows): ∃b v,(execOp a.eval o).run P m.w= .ok (.value v) m.w∧aK m (.bool b) v:=by
 have J:cK x cE=true:=by
  rw[af]at h
  simp only[be,aT0,decide_eq_true_eq]at h
  exact h.1.1.1.2
 have ad:=cY he J
 rw[U]at ad
 simp only[aK]at ad
 obtain⟨c6,len,cap,e,_⟩:=ad
 exact⟨(bif neg then !c6.isNone else c6.isNone),_,FA af h e,by simp only[aK]⟩
theorem Vd {ty x cm ae size y mg gB t ver T h}{rows:List (List I)}(he:dF m env a.tmps) (aZ:bG m) (af:o.op= .slice ty x cm ae none) (ah:be P o.op (.mo size y mg gB)=true) (aj:y.aC env= .cz t ver) (aF:m.H.tok t=some (.bc T size ver rows)){q:Nat}(aE:iT env 0 mg=some q) (a8:iT env rows.length gB=some h) (J:h≤rows.length) (bs:q≤h):
  ∃aU v,(execOp a.eval o).run P m.w= .ok (.value v) aU.w∧bG aU∧bH m aU∧aU.H=m.H.b7 t (.bc T size (ver+1) ((rows.take h).drop q))∧aK aU (.cz t (ver+1)) v:=by
 rw[af]at ah
 simp only[be,aT0]at ah
 obtain⟨⟨⟨c1,c2⟩,eV⟩,gn⟩:=ah
 have U:=cY he c1
 rw[aj]at U
 split at gn
 ·rename_i el e9
  have dd:iq P el=some size:=by simpa using gn
  have hu:=BS e9
  obtain⟨c6,cap,e,hq⟩:=Mx aZ aF U
  have hb:=FC (P:=P) (w:=m.w) (b:=true) (cap:=cap) he c2 eV aE a8 bs J hq
  rw[e]at U
  obtain⟨aU,iG,cb,cp,c5,gu⟩:=au0 aZ U aF J bs
  refine⟨aU,_,?_,cb,cp,c5,gu⟩
  rw[iG]
  simp [execOp,af,Instr.sliceAt,Instr.slice,run_underlying hu,e,hb,mn dd]
 ·cases gn
end
end Go.aX
namespace Go.aX
open Go Go.MapKept
section
variable {P:Program}{m:Mem}{env:Env}{a:Act}{o:Oper}
def kN (e:MapEntry):List Value:=[e.key,e.val]
theorem Mo {m:Mem}{k:List UInt8}{v:I}{r:List (List I)}{l:List MapEntry}(h:aM m (([.str k,v]::r).flatten) (l.flatMap kN)):
  ∃e bM,l=e::bM∧(e.key= .string ⟨⟨k⟩⟩∧k.length≤maxLen)∧aK m v e.val∧aM m r.flatten (bM.flatMap kN):=by
 cases l with
 |nil=>simp [aM]at h
 |cons e bM=>
  simp only[aU3,aU4,aV1,aZ6,kN,aM]at h
  obtain⟨x,xs,aj,aq,y,dO,bD,da,fh⟩:=h
  simp only[List.cons.injEq]at aj bD
  obtain⟨rfl,rfl⟩:=aj
  simp only[List.cons.injEq]at bD
  obtain⟨rfl,rfl⟩:=bD
  exact⟨e,bM,rfl,by simpa only[aK] using aq,da,fh⟩
theorem Ex {m:Mem}{l:List MapEntry}(h:aM m [] (l.flatMap kN)):l=[]:=by
 cases l with
 |nil=>rfl
 |cons e bM=>simp [aM,kN]at h
theorem xh (s k:List UInt8):Instr.sameNow .string (.string ⟨⟨s⟩⟩) (.string ⟨⟨k⟩⟩)=some (decide (s=k)):=by
 simp only[Instr.sameNow,Option.some.injEq]
 by_cases h:s=k
 ·subst h
  rw[decide_eq_true rfl]
  exact (bytes_beq _ _).2 rfl
 ·rw[decide_eq_false h]
  cases e:(⟨⟨s⟩⟩:ByteArray)==⟨⟨k⟩⟩ with
  |false=>rfl
  |true=>
   have:=(bytes_beq _ _).1 e
   simp at this
   exact absurd this h
theorem Mp {m:Mem}(s:List UInt8): ∀(rows:List (List I)) (l:List MapEntry) (i:Nat) (r:Option I),aM m rows.flatten (l.flatMap kN)→lm s rows=some r→
  (r=none∧Instr.findNow .string (.string ⟨⟨s⟩⟩) l i=some none)∨∃v j e,r=some v∧Instr.findNow .string (.string ⟨⟨s⟩⟩) l i=some (some (i+j,e.val))∧l[j]? =some e∧aK m v e.val
 |[],l,i,r,h,ab=>by
  have:=Ex h
  subst this
  simp only[lm,Option.some.injEq]at ab
  exact .inl ⟨ab.symm,rfl⟩
 |row::rows,l,i,r,h,ab=>by
  unfold lm at ab
  split at ab
  ·cases ‹_:: _=[]›
  ·rename_i k v dQ ch
   simp only[List.cons.injEq]at ch
   obtain⟨rfl,rfl⟩:=ch
   obtain⟨e,bM,rfl,⟨h1,_⟩,J,aA⟩:=Mo h
   by_cases hk:s=k
   ·rw[if_pos hk]at ab
    simp only[Option.some.injEq]at ab
    refine .inr ⟨v,0,e,ab.symm,?_,rfl,J⟩
    simp only[Instr.findNow,h1,xh,hk,decide_true,bb8]
   ·rw[if_neg hk]at ab
    rcases Mp s _ bM (i+1) r aA ab with ⟨g1,g2⟩|⟨bp,j,cd,g1,g2,g3,g4⟩
    ·exact .inl ⟨g1,by simp only[Instr.findNow,h1,xh,hk,decide_false]; exact g2⟩
    ·exact .inr ⟨bp,j+1,cd,g1,by simp only[Instr.findNow,h1,xh,hk,decide_false]; rw[g2,show i+1+j=i+(j+1) by omega],by simpa using g3,g4⟩
  ·cases ab
theorem Mr {m:Mem}(s:List UInt8) (v:I): ∀(rows:List (List I)) (l:List MapEntry) (i:Nat) (rows':List (List I)),aM m rows.flatten (l.flatMap kN)→j5 s v rows=some rows'→
  (rows'=rows++[[.str s,v]]∧Instr.findNow .string (.string ⟨⟨s⟩⟩) l i=some none)∨∃j e,Instr.findNow .string (.string ⟨⟨s⟩⟩) l i=some (some (i+j,e.val))∧l[j]? =some e∧e.key= .string ⟨⟨s⟩⟩∧rows'=rows.set j [.str s,v]
 |[],l,i,r,h,ab=>by
  have:=Ex h
  subst this
  simp only[j5,Option.some.injEq]at ab
  exact .inl ⟨ab.symm,rfl⟩
 |row::rows,l,i,r,h,ab=>by
  unfold j5 at ab
  split at ab
  ·cases ‹_:: _=[]›
  ·rename_i k w dQ ch
   simp only[List.cons.injEq]at ch
   obtain⟨rfl,rfl⟩:=ch
   obtain⟨e,bM,rfl,⟨h1,_⟩,J,aA⟩:=Mo h
   by_cases hk:s=k
   ·rw[if_pos hk]at ab
    simp only[Option.some.injEq]at ab
    refine .inr ⟨0,e,?_,rfl,by rw[h1,hk],ab.symm⟩
    simp only[Instr.findNow,h1,xh,hk,decide_true,bb8]
   ·rw[if_neg hk]at ab
    cases bs:j5 s v rows with
    |none=>rw[bs]at ab; cases ab
    |some q=>
     rw[bs]at ab
     simp only[aV5,Option.some.injEq]at ab
     subst ab
     rcases Mr s v _ bM (i+1) q aA bs with ⟨g1,g2⟩|⟨j,cd,g2,g3,g4,g1⟩
     ·exact .inl ⟨by rw[g1]; rfl,by simp only[Instr.findNow,h1,xh,hk,decide_false]; exact g2⟩
     ·exact .inr ⟨j+1,cd,by simp only[Instr.findNow,h1,xh,hk,decide_false]; rw[g2,show i+1+j=i+(j+1) by omega],by simpa using g3,g4,by rw[g1]; rfl⟩
  ·cases ab
theorem Ms {m:Mem}{s:List UInt8}{v:I}{val:Value}(an:s.length≤maxLen) (ad:aK m v val): ∀(rows:List (List I)) (l:List MapEntry) (j:Nat),(∀r∈rows,r.length=2)→aM m rows.flatten (l.flatMap kN)→
  aM m (rows.set j [.str s,v]).flatten ((l.modify j fun e=>{e with key:= .string ⟨⟨s⟩⟩,val:=val}).flatMap kN)
 |[],l,j,_,h=>by
  have:=Ex h
  subst this
  simpa using h
 |row::rows,l,j,J,h=>by
  obtain⟨x,y,rfl⟩: ∃x y,row=[x,y]:=by
   have:=J row (by simp)
   match row,this with
   |[x,y],_=>exact⟨x,y,rfl⟩
  cases l with
  |nil=>simp [aM]at h
  |cons e bM=>
   simp only[aU3,aU4,aV1,aZ6,kN,aM]at h
   obtain⟨cE,xs,aj,aq,gO,dO,bD,da,fh⟩:=h
   simp only[List.cons.injEq]at aj
   obtain⟨rfl,rfl⟩:=aj
   simp only[List.cons.injEq]at bD
   obtain⟨rfl,rfl⟩:=bD
   cases j with
   |zero=>
    simp only[aY9,aU3,aU4,aV1,List.modify_zero_cons,aZ6,kN,aM]
    exact⟨_,_,rfl,by simp only[aK,true_and]; exact an,_,_,rfl,ad,fh⟩
   |succ j=>
    simp only[ba0,aU3,aU4,aV1,List.modify_succ_cons,aZ6,kN,aM]
    exact⟨_,_,rfl,aq,_,_,rfl,da,Ms an ad rows bM j (fun r ab=>J r (by simp [ab])) fh⟩
theorem Mq (aZ:bG m){t ver T:Nat}{rows:List (List I)}{v:Value}(aF:m.H.tok t=some (.bk T ver rows)) (ad:aK m (.cz t ver) v):
  m.L t=v∧(∀r∈rows,r.length=2)∧∃b es nr,v= .map (some b)∧m.w.heap[b]? =some (.map es nr)∧aM m rows.flatten (es.toList.flatMap kN)∧∀u∈es.toList.flatMap kN,u.oneCell'=true:=by
 simp only[aK]at ad
 have dK:m.L t=v:=(ad.2.2 _ aF).2 rfl
 obtain⟨br,bA,⟨xs,cy,gT⟩,eR⟩:=aZ.tok t _ aF
 obtain⟨gT,sA,yH⟩:=gT rows rfl
 rw[dK]at cy
 obtain⟨b,es,nr,aj,aq,bD⟩:=cy
 subst bD
 exact⟨dK,sA,b,es,nr,aj,aq,gT,yH⟩
theorem Z4 {aU:Mem}{t ver T:Nat}{rows:List (List I)}{v:Value}(aZ:bG aU) (aF:aU.H.tok t=some (.bk T ver rows)) (dK:aU.L t=v) (ad:v.oneCell'=true):aK aU (.cz t ver) v:=by
 simp only[aK]
 refine⟨ad,(aZ.tok t _ aF).1,fun i ae=> ?_⟩
 rw[aF]at ae
 simp at ae
 subst ae
 exact⟨aT4 _,fun _=>dK⟩
theorem aa8 (aZ:bG m) (T:TypeId):bG (m.bf (m.w.alloc (.map #[] 0)) (.map (some m.w.heap.size)) (.bk T 0 []))∧bH m (m.bf (m.w.alloc (.map #[] 0)) (.map (some m.w.heap.size)) (.bk T 0 []))∧
  aK (m.bf (m.w.alloc (.map #[] 0)) (.map (some m.w.heap.size)) (.bk T 0 [])) (.cz m.T 0) (.map (some m.w.heap.size)):=by
 have ad: ∀b,(Value.map (some m.w.heap.size)).dV=some b→m.w.heap.size≤b:=fun b e=>by simp [Value.dV]at e; omega
 have e:=bH.bf aZ (w':=m.w.alloc (.map #[] 0)) (v:= .map (some m.w.heap.size)) (o:= .bk T 0 []) rfl rfl rfl (by simp) (fun b hb=>oL m.w _ b hb) ad
 have r:=bG.bf aZ (w':=m.w.alloc (.map #[] 0)) (v:= .map (some m.w.heap.size)) (o:= .bk T 0 []) rfl rfl rfl (by simp) (fun b hb=>oL m.w _ b hb) ad (by simp [bB.bk]) ⟨[],⟨_,#[],0,rfl,sx m.w _,rfl⟩,fun rows h=>by cases h; exact⟨by simp [aM],by simp,by simp⟩⟩
 exact⟨r,e,Z4 r (T:=T) (rows:=[]) (by simp [Mem.bf,aw.b7]) (by simp [Mem.bf]) rfl⟩
theorem ZP (aZ:bG m){t ver T:Nat}{rows:List (List I)}{v:Value}{ty kt eC:TypeId}{s:List UInt8}{z:I}{je:Value}{r:Option I}(ok:Bool) (aF:m.H.tok t=some (.bk T ver rows)) (ad:aK m (.cz t ver) v)
  (hm:P.underlying ty=some (.map kt eC)) (hk:P.underlying kt=some .string) (aD:(zeroValue eC).run P m.w= .ok je m.w) (tJ:aK m z je) (ab:lm s rows=some r):
  ∃x,(Instr.lookup ty v (.string ⟨⟨s⟩⟩) ok).run P m.w= .ok x m.w∧aK m (j6 ok z r) x:=by
 obtain⟨_,_,b,es,nr,rfl,hb,aE,_⟩:=Mq aZ aF ad
 have tH:IsKey .string (.string ⟨⟨s⟩⟩):=by simp [IsKey]
 rcases Mp s rows es.toList 0 r aE ab with ⟨rfl,h1⟩|⟨y,j,e,rfl,h1,J,aA⟩
 ·refine⟨if ok then .tuple #[je,.bool false] else je,?_,?_⟩
  ·simp [Instr.lookup,run_underlying hm,Go.MapKept.run_getObj_map hb,run_checkKey hk tH,run_findKey hk h1,aD,Result.andThen]
  ·cases ok
   ·simpa [j6] using tJ
   ·simp only[j6,if_true,aZ4,aY0,aK,aM]
    exact⟨_,rfl,_,_,rfl,tJ,_,_,rfl,rfl,rfl⟩
 ·refine⟨if ok then .tuple #[e.val,.bool true] else e.val,?_,?_⟩
  ·simp [Instr.lookup,run_underlying hm,Go.MapKept.run_getObj_map hb,run_checkKey hk tH,run_findKey hk h1,Result.andThen]
  ·cases ok
   ·simpa [j6] using aA
   ·simp only[j6,if_true,Option.getD_some,Option.isSome_some,aK,aM]
    exact⟨_,rfl,_,_,rfl,aA,_,_,rfl,rfl,rfl⟩
theorem look_nil {ty kt eC:TypeId}{s:List UInt8}{z:I}{je:Value}(ok:Bool)
  (hm:P.underlying ty=some (.map kt eC)) (hk:P.underlying kt=some .string) (aD:(zeroValue eC).run P m.w= .ok je m.w) (tJ:aK m z je):
  ∃x,(Instr.lookup ty (.map none) (.string ⟨⟨s⟩⟩) ok).run P m.w= .ok x m.w∧aK m (j6 ok z none) x:=by
 have tH:IsKey .string (.string ⟨⟨s⟩⟩):=by simp [IsKey]
 have h1:Instr.findNow .string (.string ⟨⟨s⟩⟩) [] 0=some none:=rfl
 refine⟨if ok then .tuple #[je,.bool false] else je,?_,?_⟩
 ·simp [Instr.lookup,run_underlying hm,run_checkKey hk tH,run_findKey hk h1,aD,Result.andThen]
 ·cases ok
  ·simpa [j6] using tJ
  ·simp only[j6,if_true,aZ4,aY0,aK,aM]
   exact⟨_,rfl,_,_,rfl,tJ,_,_,rfl,rfl,rfl⟩
theorem Mt {s:List UInt8}{v:I}: ∀ {rows rows':List (List I)},j5 s v rows=some rows'→(∀r∈rows,r.length=2)→∀r∈rows',r.length=2
 |[],rows',h,_=>by
  simp only[j5,Option.some.injEq]at h
  subst h
  simp
 |row::rows,rows',h,J=>by
  unfold j5 at h
  split at h
  ·cases ‹_:: _=[]›
  ·rename_i k w dQ ch
   simp only[List.cons.injEq]at ch
   obtain⟨rfl,rfl⟩:=ch
   by_cases hk:s=k
   ·rw[if_pos hk]at h
    simp only[Option.some.injEq]at h
    subst h
    intro r ab
    rcases List.mem_cons.1 ab with rfl|ab
    ·rfl
    ·exact J r (by simp [ab])
   ·rw[if_neg hk]at h
    cases bs:j5 s v rows with
    |none=>rw[bs]at h; cases h
    |some q=>
     rw[bs]at h
     simp only[aV5,Option.some.injEq]at h
     subst h
     intro r ab
     rcases List.mem_cons.1 ab with rfl|ab
     ·rfl
     ·exact Mt bs (fun r ab=>J r (by simp [ab])) r ab
  ·cases h
theorem ah1 (aZ:bG m){t ver T:Nat}{rows rows':List (List I)}{v val:Value}{ty kt eC:TypeId}{s:List UInt8}{eU:I}(aF:m.H.tok t=some (.bk T ver rows)) (ad:aK m (.cz t ver) v)
  (hm:P.underlying ty=some (.map kt eC)) (hk:P.underlying kt=some .string) (an:s.length≤maxLen) (wF:aK m eU val) (hr:val.oneCell'=true) (ab:j5 s eU rows=some rows'):
  ∃aU,(Instr.mapUpdate ty v (.string ⟨⟨s⟩⟩) val).run P m.w= .ok () aU.w∧bG aU∧bH m aU∧aU.H=m.H.b7 t (.bk T ver rows'):=by
 obtain⟨dK,J,b,es,nr,rfl,hb,aE,af⟩:=Mq aZ aF ad
 have tH:IsKey .string (.string ⟨⟨s⟩⟩):=by simp [IsKey]
 have hD:(m.L t).dV=some b:=by rw[dK]; rfl
 have main: ∀(tt:Array MapEntry) (wi:Nat) (he:(∀aU,bH m aU→aM aU rows'.flatten (tt.toList.flatMap kN))) (lj: ∀u∈tt.toList.flatMap kN,u.oneCell'=true),
   bG (m.gt {m.w with heap:=m.w.heap.setIfInBounds b (.map tt wi)} t (m.L t) (.bk T ver rows'))∧bH m (m.gt {m.w with heap:=m.w.heap.setIfInBounds b (.map tt wi)} t (m.L t) (.bk T ver rows')):=by
  intro tt wi he lj
  obtain⟨s1,s2⟩:=heap_set (w:=m.w) (o':= .map tt wi) hb
  have g0:Grows0 m {m.w with heap:=m.w.heap.setIfInBounds b (.map tt wi)} t (.bk T ver rows) (m.L t) (.bk T ver rows'):=
   ⟨rfl,rfl,rfl,by simp,fun k hk dP=>s2 k (fun e=>dP (by rw[hD,e])),fun k c hk ah=>by
    rw[hD]at hk
    cases hk
    simp only[World.cell?,s1,hb],fun k hk=> .inl hk,aT4 _,rfl,rfl,aT4 _,fun _=>rfl⟩
  have aC:=bH.gt aZ aF g0
  exact⟨bG.gt aZ aF ⟨g0,_,⟨b,tt,wi,dK,s1,rfl⟩,fun q bs=>by
   cases bs
   exact⟨he _ aC,Mt ab J,lj⟩⟩,aC⟩
 rcases Mr s eU rows es.toList 0 rows' aE ab with ⟨aj,h1⟩|⟨j,e,h1,bq,aA,aj⟩
 ·obtain⟨cb,cp⟩:=main (es.push {key:= .string ⟨⟨s⟩⟩,val:=val,born:=nr}) (nr+1) (fun aU aC=>by
   rw[aj,bf0]
   simp only[Array.toList_push,List.flatMap_append]
   refine aM.append (aM.aC aC _ _ aE) ?_
   simp only[aU3,aW2,aV7,aZ6,List.flatMap_nil,kN,aM]
   exact⟨_,_,rfl,by simp only[aK,true_and]; exact an,_,_,rfl,aK.aC aC _ _ wF,rfl⟩) (fun u hu=>by
   simp only[Array.toList_push,List.flatMap_append,aW9,aZ6,List.flatMap_nil,aV7]at hu
   rcases hu with hu|hu
   ·exact af u hu
   ·simp only[kN,aV8,aY4,or_false]at hu
    rcases hu with rfl|rfl
    ·rfl
    ·exact hr)
  refine⟨_,?_,cb,cp,rfl⟩
  simp [Instr.mapUpdate,run_underlying hm,Go.MapKept.run_getObj_map hb,run_checkKey hk tH,run_findKey hk h1,run_setObj_map _ hb,Result.andThen,Mem.gt]
 ·rw[aW6]at h1
  have il:es[j]? =some e:=by simpa using bq
  obtain⟨cb,cp⟩:=main (es.modify j fun cd=>{cd with key:= .string ⟨⟨s⟩⟩,val:=val}) nr (fun aU aC=>by
   rw[aj,Array.toList_modify]
   exact Ms an (aK.aC aC _ _ wF) rows es.toList j J (aM.aC aC _ _ aE)) (fun u hu=>by
   rw[Array.toList_modify]at hu
   obtain⟨x,U,hu⟩:=List.mem_flatMap.1 hu
   rw[List.mem_iff_getElem?]at U
   obtain⟨i,U⟩:=U
   rw[List.getElem?_modify]at U
   cases ae:es.toList[i]? with
   |none=>rw[ae]at U; cases U
   |some y=>
    rw[ae]at U
    simp only[Option.map_eq_map,aV5,Option.some.injEq]at U
    subst U
    have bg: ∀u∈kN y,u.oneCell'=true:=fun u hu=>af u (List.mem_flatMap.2 ⟨y,aT6 ae,hu⟩)
    by_cases AY:j=i
    ·rw[if_pos AY]at hu
     simp only[kN,aV8,aY4,or_false]at hu
     rcases hu with rfl|rfl
     ·rfl
     ·exact hr
    ·rw[if_neg AY]at hu
     exact bg u hu)
  refine⟨_,?_,cb,cp,rfl⟩
  simp [Instr.mapUpdate,run_underlying hm,Go.MapKept.run_getObj_map hb,run_checkKey hk tH,run_findKey hk h1,il,aA,run_keyThatStays tH,run_setObj_map _ hb,Result.andThen,Mem.gt]
theorem Ma {t eC:TypeId}(h:yT P t=some eC): ∃kt,P.underlying t=some (.map kt eC)∧P.underlying kt=some .string:=by
 unfold yT at h
 split at h
 ·rename_i kt ya hu
  split at h
  ·rename_i hk
   cases h
   exact⟨kt,hu,hk⟩
  ·cases h
 ·cases h
theorem Mb {t:TypeId}{z:I}(h:Ev P t z=true): ∃kt eC je,P.underlying t=some (.map kt eC)∧P.underlying kt=some .string∧(zeroValue eC).run P m.w= .ok je m.w∧aK m z je:=by
 unfold Ev at h
 cases hk:yT P t with
 |none=>rw[hk]at h; cases h
 |some eC=>
  rw[hk]at h
  simp only at h
  obtain⟨kt,h1,J⟩:=Ma hk
  cases ae:P.info? eC with
  |none=>rw[ae]at h; simp at h
  |some i=>
   rw[ae]at h
   cases aD:i.zero with
   |none=>simp [aD]at h
   |some je=>
    refine⟨kt,eC,je,h1,J,?_,?_⟩
    ·simp [zeroValue,typeInfo,ae,aD,Result.andThen]
    ·simp only[Option.bind_some,aD]at h
     cases je<;>simp only[aU6]at h
     all_goals
      cases z<;>simp only[aU6]at h
      simp_all [aK]
theorem U9 {ty x k ok vs z cE eX t ver T s r}{rows:List (List I)}(he:dF m env a.tmps) (aZ:bG m) (af:o.op= .lookup ty x k ok) (h:be P o.op (.hs vs z cE eX)=true) (aj:cE.aC env= .cz t ver) (aF:m.H.tok t=some (.bk T ver rows)) (aq:eX.aC env= .str s) (ab:lm s rows=some r):fb P m a o (j6 vs z r):=by
 rw[af]at h
 simp only[be,aT0,decide_eq_true_eq]at h
 obtain⟨⟨⟨rfl,h1⟩,J⟩,aA⟩:=h
 have U:=cY he h1
 have hk:=cY he J
 rw[aj]at U
 rw[aq]at hk
 simp only[aK]at hk
 obtain⟨kt,eC,je,g1,g2,g3,g4⟩:=Mb (m:=m) aA
 obtain⟨y,g5,g6⟩:=ZP (P:=P) aZ ok aF U g1 g2 g3 g4 ab
 exact⟨y,by simp [execOp,af,hk.1,g5],g6⟩
theorem Va {ty x k ok vs z cE eX s}(he:dF m env a.tmps) (af:o.op= .lookup ty x k ok) (h:be P o.op (.hs vs z cE eX)=true) (aj:cE.aC env= .dI (.map none)) (aq:eX.aC env= .str s):fb P m a o (j6 vs z none):=by
 rw[af]at h
 simp only[be,aT0,decide_eq_true_eq]at h
 obtain⟨⟨⟨rfl,h1⟩,J⟩,aA⟩:=h
 have U:=cY he h1
 have hk:=cY he J
 rw[aj]at U
 rw[aq]at hk
 simp only[aK]at hk U
 obtain⟨kt,eC,je,g1,g2,g3,g4⟩:=Mb (m:=m) aA
 obtain⟨y,g5,g6⟩:=look_nil (P:=P) (m:=m) (s:=s) ok g1 g2 g3 g4
 exact⟨y,by simp [execOp,af,hk.1,U,g5],g6⟩
end
end Go.aX
