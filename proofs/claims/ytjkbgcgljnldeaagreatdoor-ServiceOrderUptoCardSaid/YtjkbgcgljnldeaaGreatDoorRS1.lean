/- Part of a proof; own work. -/
import Derived.WalkKit
import Derived.Recover
import Derived.Lib.Strings
import Derived.Lib.SmallJoins
set_option linter.unusedVariables false
set_option linter.unusedSimpArgs false
namespace Go.bc
open Go
def yH:List (Nat×(Obj→Prop)):=[
 (1,fun l5=> ∃T pM,l5= .cells (((List.range 20).map fun i=>((10^i:Nat):Int)).map fun z=>Value.int .u64 z).toArray T pM)]
def nv (w:World):Prop:=∀p∈yH,∃l5,w.heap[p.1]? =some l5∧p.2 l5
def hW:Nat:=1000000
def rI (f:FuncId) (l:List Value):Value:=if f<hW then .func (.func f) #[] ⟨l⟩ else .func (.func (f-hW)) ⟨l⟩ #[]
theorem wU {f:FuncId}(h:f<hW) (l:List Value):rI f l= .func (.func f) #[] ⟨l⟩:=if_pos h
theorem K0 (f:FuncId) (l:List Value):rI (f+hW) l= .func (.func f) ⟨l⟩ #[]:=by
 unfold rI
 rw[if_neg (Nat.not_lt.2 (Nat.le_add_left hW f)),Nat.add_sub_cancel]
inductive I where
 |ew
 |bool (b:Bool)
 |int (k:IntKind) (n:Int)
 |str (s:List UInt8)
 |dQ (v:Value)
 |ptr (b o:Nat)
 |agg (cs:List I)
 |di (cs:List I)
 |ay (size:Nat) (rows:List (List I))
 |own (t:Nat) (size:Nat) (rows:List (List I))
 |ez (t bg:Nat)
 |mp (t bg k:Nat)
 |dO (row:List I) (off:Nat)
 |fn (f:FuncId) (cap:List I)
 |gW (t:TypeId) (v:I)
structure b2 where
 ty:TypeId
 size:Nat
 n:Nat
 bg:Nat
 n8:Option (List (List I))
def b2.len (i:b2):Nat:=match i.n8 with|none=>i.n|some rows=>rows.length
structure aA where
 aU:Nat→Option (TypeId×List I)
 tok:Nat→Option b2
def aA.none:aA:=⟨fun _=>Option.none,fun _=>Option.none⟩
def aA.ch (H:aA) (b:Nat) (T:TypeId) (cs:List I):aA:={H with aU:=fun x=>if x=b then some (T,cs) else H.aU x}
def aA.oP (H:aA) (b:Nat):aA:={H with aU:=fun x=>if x=b then Option.none else H.aU x}
def aA.cA (H:aA) (t:Nat) (o:b2):aA:={H with tok:=fun x=>if x=t then some o else H.tok x}
structure Mem where
 w:World
 H:aA
 L:Nat→Value
 T:Nat
structure lR (m:Mem) (b o:Nat):Prop where
 lt:b<m.w.heap.size
 aU:m.H.aU b=Option.none
 tok: ∀t i,m.H.tok t=some i→(m.L t).ownBlock=some b→o<i.n*i.size
mutual
def aR (m:Mem):I→Value→Prop
 | .ew,_=>True
 | .bool b,v=>v= .bool b
 | .int k n,v=>v= .int k n
 | .str s,v=>v= .string ⟨⟨s⟩⟩∧s.length≤maxLen
 | .dQ x,v=>v=x
 | .ptr b o,v=>v= .pointer (some ⟨b,o,none⟩)
 | .agg cs,v=> ∃l,v= .agg ⟨l⟩∧aS m cs l
 | .di cs,v=> ∃l,v= .tuple ⟨l⟩∧aS m cs l
 | .ay size rows,v=> ∃a len cap,v= .slice a len cap∧len=rows.length∧(len≤cap∧cap≤maxLen)∧(rows.length=0∨∃b o,a=some ⟨b,o,none⟩∧dE m size rows b o)
 | .own t size rows,v=>(∃a len cap,v= .slice a len cap∧len=rows.length∧(len≤cap∧cap≤maxLen)∧(rows.length=0∨∃b o,a=some ⟨b,o,none⟩∧dE m size rows b o))∧t<m.T∧(∀i,m.H.tok t=some i→rows.length≤i.bg∧(i.bg=rows.length→m.L t=v∧i.size=size))
 | .ez t bg,v=>v.oneCell'=true∧t<m.T∧(∀i,m.H.tok t=some i→bg≤i.bg∧(i.bg=bg→m.L t=v))
 | .mp t bg k,v=>v.oneCell'=true∧t<m.T∧(∀i,m.H.tok t=some i→bg≤i.bg∧(i.bg=bg→∃b len cap,m.L t= .slice (some ⟨b,0,none⟩) len cap∧v= .pointer (some ⟨b,k,none⟩)))
 | .dO row off,v=> ∃b o,v= .pointer (some ⟨b,o+off,none⟩)∧ff m row b o
 | .fn f cap,v=> ∃l,v=rI f l∧aS m cap l
 | .gW t a,v=> ∃x,v= .iface t x∧aR m a x
def aS (m:Mem):List I→List Value→Prop
 |[],l=>l=[]
 |a::az,l=> ∃v ay,l=v::ay∧aR m a v∧aS m az ay
def ff (m:Mem):List I→Nat→Nat→Prop
 |[],_,_=>True
 |a::az,b,o=>(∃v,m.w.cell? ⟨b,o,none⟩=some v∧v.oneCell'=true∧lR m b o∧aR m a v)∧ff m az b (o+1)
def dE (m:Mem) (size:Nat):List (List I)→Nat→Nat→Prop
 |[],_,_=>True
 |r::aL,b,o=>r.length=size∧ff m r b o∧dE m size aL b (o+size)
end
structure b0 (m aX:Mem):Prop where
 os:aX.w.os=m.w.os
 tape:aX.w.tape=m.w.tape
 output:aX.w.output=m.w.output
 size:m.w.heap.size≤aX.w.heap.size
 T:m.T≤aX.T
 block: ∀b,b<m.w.heap.size→m.H.aU b=Option.none→(∀t i,m.H.tok t=some i→(m.L t).ownBlock≠some b)→aX.w.heap[b]? =m.w.heap[b]? ∧aX.H.aU b=Option.none∧(∀t i,aX.H.tok t=some i→(aX.L t).ownBlock≠some b)
 cell: ∀b o,lR m b o→lR aX b o∧aX.w.cell? ⟨b,o,none⟩=m.w.cell? ⟨b,o,none⟩
 tok: ∀t da,t<m.T→aX.H.tok t=some da→∃i,m.H.tok t=some i∧i.bg≤da.bg∧da.size=i.size∧(da.bg=i.bg→aX.L t=m.L t)
theorem b0.refl (m:Mem):b0 m m:=⟨rfl,rfl,rfl,Nat.le_refl _,Nat.le_refl _,fun _ _ h ij=>⟨rfl,h,ij⟩,fun _ _ h=>⟨h,rfl⟩,fun _ da _ h=>⟨da,h,Nat.le_refl _,rfl,fun _=>rfl⟩⟩
theorem b0.trans {a b c:Mem}(h:b0 a b) (k:b0 b c):b0 a c where
 os:=k.os.trans h.os
 tape:=k.tape.trans h.tape
 output:=k.output.trans h.output
 size:=Nat.le_trans h.size k.size
 T:=Nat.le_trans h.T k.T
 block:=fun x ab hb aO=>by
  obtain⟨ar,ax,cw⟩:=h.block x ab hb aO
  obtain⟨f1,f2,f3⟩:=k.block x (Nat.lt_of_lt_of_le ab h.size) ax cw
  exact⟨f1.trans ar,f2,f3⟩
 cell:=fun x o ap=>by
  obtain⟨ar,ax⟩:=h.cell x o ap
  obtain⟨f1,f2⟩:=k.cell x o ar
  exact⟨f1,f2.trans ax⟩
 tok:=fun t aa2 aO ai=>by
  obtain⟨da,J,aa,au,bn⟩:=k.tok t aa2 (Nat.lt_of_lt_of_le aO h.T) ai
  obtain⟨i,g1,g2,g3,g4⟩:=h.tok t da aO J
  refine⟨i,g1,Nat.le_trans g2 aa,au.trans g3,fun e=> ?_⟩
  rw[bn (by omega),g4 (by omega)]
mutual
theorem aR.aJ {m aX:Mem}(e:b0 m aX): ∀(a:I) (v:Value),aR m a v→aR aX a v
 | .ew,_,_=>by simp only[aR]
 | .bool _,_,h=>by simp only[aR]at*; exact h
 | .int _ _,_,h=>by simp only[aR]at*; exact h
 | .str _,_,h=>by simp only[aR]at*; exact h
 | .dQ _,_,h=>by simp only[aR]at*; exact h
 | .ptr _ _,_,h=>by simp only[aR]at*; exact h
 | .agg cs,_,h=>by simp only[aR]at*; obtain⟨l,ar,ax⟩:=h; exact⟨l,ar,aS.aJ e cs l ax⟩
 | .di cs,_,h=>by simp only[aR]at*; obtain⟨l,ar,ax⟩:=h; exact⟨l,ar,aS.aJ e cs l ax⟩
 | .ay size rows,_,h=>by
  simp only[aR]at*
  obtain⟨a,len,cap,J,aa,au,bn⟩:=h
  exact⟨a,len,cap,J,aa,au,bn.imp id fun⟨b,o,g1,g2⟩=>⟨b,o,g1,dE.aJ e size rows b o g2⟩⟩
 | .own t size rows,_,h=>by
  simp only[aR]at*
  obtain⟨⟨a,len,cap,J,aa,au,bn⟩,bL,cq⟩:=h
  refine⟨⟨a,len,cap,J,aa,au,bn.imp id fun⟨b,o,g1,g2⟩=>⟨b,o,g1,dE.aJ e size rows b o g2⟩⟩,Nat.lt_of_lt_of_le bL e.T,fun i ai=> ?_⟩
  obtain⟨i0,bC,bA,cO,fC⟩:=e.tok t i bL ai
  obtain⟨jP,bO⟩:=cq i0 bC
  refine⟨by omega,fun a6=> ?_⟩
  obtain⟨bO,b4⟩:=bO (by omega)
  exact⟨(fC (by omega)).trans bO,cO.trans b4⟩
 | .ez t bg,_,h=>by
  simp only[aR]at*
  obtain⟨aw,bL,cq⟩:=h
  refine⟨aw,Nat.lt_of_lt_of_le bL e.T,fun i ai=> ?_⟩
  obtain⟨i0,bC,bA,cO,fC⟩:=e.tok t i bL ai
  obtain⟨jP,bO⟩:=cq i0 bC
  exact⟨by omega,fun a6=>(fC (by omega)).trans (bO (by omega))⟩
 | .mp t bg k,_,h=>by
  simp only[aR]at*
  obtain⟨aw,bL,cq⟩:=h
  refine⟨aw,Nat.lt_of_lt_of_le bL e.T,fun i ai=> ?_⟩
  obtain⟨i0,bC,bA,cO,fC⟩:=e.tok t i bL ai
  obtain⟨jP,bO⟩:=cq i0 bC
  refine⟨by omega,fun a6=> ?_⟩
  obtain⟨b,len,cap,g1,g2⟩:=bO (by omega)
  exact⟨b,len,cap,(fC (by omega)).trans g1,g2⟩
 | .dO row off,_,h=>by
  simp only[aR]at*
  obtain⟨b,o,J,aa⟩:=h
  exact⟨b,o,J,ff.aJ e row b o aa⟩
 | .fn f cs,_,h=>by simp only[aR]at*; obtain⟨l,ar,ax⟩:=h; exact⟨l,ar,aS.aJ e cs l ax⟩
 | .gW t a,_,h=>by simp only[aR]at*; obtain⟨x,ar,ax⟩:=h; exact⟨x,ar,aR.aJ e a x ax⟩
theorem aS.aJ {m aX:Mem}(e:b0 m aX): ∀(az:List I) (l:List Value),aS m az l→aS aX az l
 |[],_,h=>by simp only[aS]at*; exact h
 |a::az,_,h=>by simp only[aS]at*; obtain⟨v,ay,J,aa,au⟩:=h; exact⟨v,ay,J,aR.aJ e a v aa,aS.aJ e az ay au⟩
theorem ff.aJ {m aX:Mem}(e:b0 m aX): ∀(az:List I) (b o:Nat),ff m az b o→ff aX az b o
 |[],_,_,_=>by simp only[ff]
 |a::az,b,o,h=>by
  simp only[ff]at*
  obtain⟨⟨v,J,uh,aa,au⟩,bn⟩:=h
  obtain⟨s1,s2⟩:=e.cell b o aa
  exact⟨⟨v,s2.trans J,uh,s1,aR.aJ e a v au⟩,ff.aJ e az b (o+1) bn⟩
theorem dE.aJ {m aX:Mem}(e:b0 m aX) (size:Nat): ∀(aL:List (List I)) (b o:Nat),dE m size aL b o→dE aX size aL b o
 |[],_,_,_=>by simp only[dE]
 |r::aL,b,o,h=>by
  simp only[dE]at*
  exact⟨h.1,ff.aJ e r b o h.2.1,dE.aJ e size aL b (o+size) h.2.2⟩
end
def CM (m:Mem):Prop:=∀p∈yH,m.H.aU p.1=Option.none∧∀t i,m.H.tok t=some i→(m.L t).ownBlock≠some p.1
theorem pt.aJ {m aX:Mem}(e:b0 m aX) (h:nv m.w) (k:CM m):nv aX.w∧CM aX:=by
 have key: ∀p∈yH,(∃l5,aX.w.heap[p.1]? =some l5∧p.2 l5)∧aX.H.aU p.1=Option.none∧∀t i,aX.H.tok t=some i→(aX.L t).ownBlock≠some p.1:=by
  intro p hp
  obtain⟨l5,J,aa⟩:=h p hp
  obtain⟨bC,bA⟩:=k p hp
  obtain⟨ar,ax,cw⟩:=e.block p.1 (Array.getElem?_eq_some_iff.1 J).1 bC bA
  exact⟨⟨l5,ar.trans J,aa⟩,ax,cw⟩
 exact⟨fun p hp=>(key p hp).1,fun p hp=>(key p hp).2⟩
structure b5 (m:Mem):Prop where
 aU: ∀b T cs,m.H.aU b=some (T,cs)→∃l,m.w.heap[b]? =some (.cells ⟨l⟩ T (0,0))∧aS m cs l∧∀v∈l,v.oneCell'=true
 tok: ∀t i,m.H.tok t=some i→t<m.T∧i.size≠0∧(∃xs,m.w.ownsRow 0 i.ty i.size (m.L t) i.len xs∧∀rows,i.n8=some rows→aS m rows.flatten xs∧(∀r∈rows,r.length=i.size)∧∀v∈xs,v.oneCell'=true)∧(∀b,(m.L t).ownBlock=some b→m.H.aU b=Option.none∧∀dx da,m.H.tok dx=some da→(m.L dx).ownBlock=some b→dx=t)
 kH:nv m.w
 kI:CM m
theorem aS.length {m:Mem}: ∀ {az:List I}{l:List Value},aS m az l→l.length=az.length
 |[],_,h=>by simp only[aS]at h; subst h; rfl
 |a::az,_,h=>by simp only[aS]at h; obtain⟨v,ay,rfl,_,aa⟩:=h; simp [aS.length aa]
theorem aS.get {m:Mem}: ∀ {az:List I}{l:List Value}(_:aS m az l) (i:Nat) (a:I),az[i]? =some a→∃v,l[i]? =some v∧aR m a v
 |[],_,_,_,_,h=>by simp at h
 |a::az,_,h,0,x,ab=>by simp only[aS]at h; obtain⟨v,ay,rfl,J,aa⟩:=h; simp at ab; subst ab; exact⟨v,rfl,J⟩
 |a::az,_,h,i+1,x,ab=>by simp only[aS]at h; obtain⟨v,ay,rfl,J,aa⟩:=h; simp at ab; obtain⟨bT,ar,ax⟩:=aS.get aa i x ab; exact⟨bT,by simpa using ar,ax⟩
theorem aS.append {m:Mem}: ∀ {az:List I}{l:List Value}{cH:List I}{b8:List Value}(_:aS m az l) (_:aS m cH b8),aS m (az++cH) (l++b8)
 |[],_,_,_,h,k=>by simp only[aS]at h; subst h; simpa using k
 |a::az,_,_,_,h,k=>by simp only[aS]at h; obtain⟨v,ay,rfl,J,aa⟩:=h; simp only[List.cons_append,aS]; exact⟨v,_,rfl,J,aS.append aa k⟩
theorem aS.drop {m:Mem}: ∀(n:Nat){az:List I}{l:List Value}(_:aS m az l),aS m (az.drop n) (l.drop n)
 |0,_,_,h=>by simpa using h
 |n+1,[],_,h=>by simp only[aS]at h; subst h; simp [aS]
 |n+1,a::az,_,h=>by simp only[aS]at h; obtain⟨v,ay,rfl,J,aa⟩:=h; simpa using aS.drop n aa
theorem aS.take {m:Mem}: ∀(n:Nat){az:List I}{l:List Value}(_:aS m az l),aS m (az.take n) (l.take n)
 |0,_,_,_=>by simp [aS]
 |n+1,[],_,h=>by simp only[aS]at h; subst h; simp [aS]
 |n+1,a::az,_,h=>by simp only[aS]at h; obtain⟨v,ay,rfl,J,aa⟩:=h; simp only[List.take_succ_cons,aS]; exact⟨v,_,rfl,J,aS.take n aa⟩
theorem aS.set {m:Mem}: ∀(n:Nat){az:List I}{l:List Value}(_:aS m az l){a:I}{v:Value},aR m a v→aS m (az.set n a) (l.set n v)
 | _,[],_,h,_,_,_=>by simp only[aS]at h; subst h; simp [aS]
 |0,a::az,_,h,_,_,af=>by simp only[aS]at h; obtain⟨v,ay,rfl,J,aa⟩:=h; simp only[List.set_cons_zero,aS]; exact⟨_,_,rfl,af,aa⟩
 |n+1,a::az,_,h,_,_,af=>by simp only[aS]at h; obtain⟨v,ay,rfl,J,aa⟩:=h; simp only[List.set_cons_succ,aS]; exact⟨_,_,rfl,J,aS.set n aa af⟩
theorem ff.get {m:Mem}: ∀ {az:List I}{b o:Nat}(_:ff m az b o) (i:Nat) (a:I),az[i]? =some a→∃v,m.w.cell? ⟨b,o+i,none⟩=some v∧v.oneCell'=true∧lR m b (o+i)∧aR m a v
 |[],_,_,_,_,_,h=>by simp at h
 |a::az,b,o,h,0,x,ab=>by simp only[ff]at h; simp at ab; subst ab; exact h.1
 |a::az,b,o,h,i+1,x,ab=>by
  simp only[ff]at h
  simp at ab
  obtain⟨v,e⟩:=ff.get h.2 i x ab
  rw[show o+(i+1)=o+1+i by omega]
  exact⟨v,e⟩
theorem dE.get {m:Mem}{size:Nat}: ∀ {aL:List (List I)}{b o:Nat}(_:dE m size aL b o) (i:Nat) (r:List I),aL[i]? =some r→r.length=size∧ff m r b (o+i*size)
 |[],_,_,_,_,_,h=>by simp at h
 |r::aL,b,o,h,0,x,ab=>by simp only[dE]at h; simp at ab; subst ab; simpa using ⟨h.1,h.2.1⟩
 |r::aL,b,o,h,i+1,x,ab=>by
  simp only[dE]at h
  simp at ab
  have:=dE.get h.2.2 i x ab
  rwa [show o+size+i*size=o+(i+1)*size by rw[Nat.add_mul]; omega]at this
theorem dE.drop {m:Mem}{size:Nat}: ∀(n:Nat){aL:List (List I)}{b o:Nat},dE m size aL b o→dE m size (aL.drop n) b (o+n*size)
 |0,_,_,_,h=>by simpa using h
 |n+1,[],_,_,_=>by simp [dE]
 |n+1,r::aL,b,o,h=>by
  simp only[dE]at h
  have:=dE.drop n h.2.2
  rw[List.drop_succ_cons]
  rwa [show o+size+n*size=o+(n+1)*size by rw[Nat.add_mul]; omega]at this
theorem dE.take {m:Mem}{size:Nat}: ∀(n:Nat){aL:List (List I)}{b o:Nat},dE m size aL b o→dE m size (aL.take n) b o
 |0,_,_,_,_=>by simp [dE]
 |n+1,[],_,_,_=>by simp [dE]
 |n+1,r::aL,b,o,h=>by
  simp only[dE]at h
  simp only[List.take_succ_cons,dE]
  exact⟨h.1,h.2.1,dE.take n h.2.2⟩
theorem ff.wh {m:Mem}: ∀ {az:List I}{b o:Nat},ff m az b o→∃l,aS m az l∧(∀j v,l[j]? =some v→m.w.cell? ⟨b,o+j,none⟩=some v∧v.oneCell'=true)
 |[],_,_,_=>⟨[],by simp [aS],by simp⟩
 |a::az,b,o,h=>by
  simp only[ff]at h
  obtain⟨⟨v,J,uh,_,au⟩,bn⟩:=h
  obtain⟨l,ar,ax⟩:=ff.wh bn
  refine⟨v::l,by simp only[aS]; exact⟨v,l,rfl,au,ar⟩,fun j u bq=> ?_⟩
  cases j with
  |zero=>simp at bq; subst bq; exact⟨J,uh⟩
  |succ j=>simp at bq; have:=ax j u bq; rwa [show o+1+j=o+(j+1) by omega]at this
theorem dE.wh {m:Mem}{size:Nat}: ∀ {aL:List (List I)}{b o:Nat},dE m size aL b o→∃l,aS m aL.flatten l∧l.length=aL.length*size∧(∀j v,l[j]? =some v→m.w.cell? ⟨b,o+j,none⟩=some v∧v.oneCell'=true)
 |[],_,_,_=>⟨[],by simp [aS],by simp,by simp⟩
 |r::aL,b,o,h=>by
  simp only[dE]at h
  obtain⟨J,aa,au⟩:=h
  obtain⟨l,ar,ax⟩:=ff.wh aa
  obtain⟨b8,f1,f2,f3⟩:=dE.wh au
  have aH:l.length=size:=(aS.length ar).trans J
  refine⟨l++b8,by simpa using aS.append ar f1,by rw[List.length_append,f2,aH,List.length_cons,Nat.add_mul]; omega,fun j u bq=> ?_⟩
  by_cases lZ:j<l.length
  ·rw[List.getElem?_append_left lZ]at bq
   exact ax j u bq
  ·rw[List.getElem?_append_right (by omega)]at bq
   have:=f3 _ u bq
   rwa [show o+size+(j-l.length)=o+j by omega]at this
theorem ff.of {m:Mem}: ∀ {az:List I}{l:List Value}{b o:Nat},aS m az l→(∀j v,l[j]? =some v→m.w.cell? ⟨b,o+j,none⟩=some v∧v.oneCell'=true∧lR m b (o+j))→ff m az b o
 |[],_,_,_,_,_=>by simp only[ff]
 |a::az,l,b,o,h,k=>by
  simp only[aS]at h
  obtain⟨v,ay,rfl,J,aa⟩:=h
  simp only[ff]
  refine⟨⟨v,(k 0 v rfl).1,(k 0 v rfl).2.1,(k 0 v rfl).2.2,J⟩,ff.of aa fun j u bq=> ?_⟩
  have:=k (j+1) u (by simpa using bq)
  rwa [show o+(j+1)=o+1+j by omega]at this
theorem dE.of {m:Mem}{size:Nat}: ∀ {aL:List (List I)}{l:List Value}{b o:Nat},(∀r∈aL,r.length=size)→aS m aL.flatten l→(∀j v,l[j]? =some v→m.w.cell? ⟨b,o+j,none⟩=some v∧v.oneCell'=true∧lR m b (o+j))→dE m size aL b o
 |[],_,_,_,_,_,_=>by simp only[dE]
 |r::aL,l,b,o,ap,h,k=>by
  simp only[List.flatten_cons]at h
  have ag:r.length=size:=ap r (by simp)
  have J:=aS.take r.length h
  have aa:=aS.drop r.length h
  simp only[List.take_left]at J
  simp only[List.drop_left]at aa
  simp only[dE]
  refine⟨ag,ff.of J fun j v bq=>k j v ?_,dE.of (fun x ab=>ap x (by simp [ab])) aa fun j v bq=> ?_⟩
  ·rw[List.getElem?_take]at bq
   split at bq
   ·exact bq
   ·cases bq
  ·rw[List.getElem?_drop]at bq
   have:=k _ v bq
   rwa [show o+(r.length+j)=o+size+j by omega]at this
abbrev I.aV:I:= .dQ (.slice none 0 0)
abbrev I.undef:I:= .dQ Go.undef
def eI (a b:I):Prop:=∀m v,aR m a v→aR m b v
def e7:List I→List I→Prop
 |[],l=>l=[]
 |a::az,l=> ∃b cH,l=b::cH∧eI a b∧e7 az cH
inductive aK where
 |t (n:Nat)
 |c (a:I)
abbrev Env:=List (Nat×I)
def Env.get:Env→Nat→I
 |[],_=> .ew
 |(k,v)::e,j=>bif k==j then v else Env.get e j
def Env.put (e:Env):Option Nat→I→Env
 |none,_=>e
 |some k,v=>(k,v)::e
def aK.aJ (env:Env):aK→I
 | .t n=>env.get n
 | .c a=>a
inductive lQ where
 |b
 |i (k:IntKind)
 |s
 deriving DecidableEq
inductive bj where
 |hs (x:aK)
 |pick (c a b:aK)
 |cE (x:aK)
 |box (T:TypeId) (x:aK)
 |alloc (T:TypeId) (zero:List I)
 |build (zero:List I) (parts:List (Nat×Nat×aK))
 |dA (T size n:Nat) (zero:List I) (parts:List (Nat×aK))
 |ml (T size n:Nat) (zero:List I) (parts:List (Nat×aK))
 |load (agg:Bool) (n:Nat) (x:aK)
 |hr (e6:Nat) (agg:Bool) (n:Nat) (x:aK)
 |nd (agg:Bool) (n:Nat) (x:aK)
 |store (n:Nat) (a v:aK)
 |nH (off:Nat) (x:aK)
 |field (agg:Bool) (off n:Nat) (x:aK)
 |fW (size:Nat) (x i:aK)
 |o1 (len size:Nat) (x i:aK)
 |jn (agg:Bool) (len size:Nat) (x i:aK)
 |eJ (x i:aK)
 |bin (op:BinOp) (x y:aK)
 |pA (op:BinOp) (x y:aK)
 |oS (neg:Bool) (T:TypeId) (cu:List lQ) (x y:aK)
 |not (x:aK)
 |neg (x:aK)
 |conv (k:IntKind) (x:aK)
 |fQ (x:aK)
 |len (x:aK)
 |pU (n:Nat)
 |nR (lF:Bool) (xs:List aK)
 |append (T size bytes:Nat) (x y:aK)
 |gE (x:aK) (cz ai:Option aK)
 |h9 (size:Nat) (x:aK) (cz ai lI:Option aK)
 |k8 (int:Bool) (x:aK)
 |jC (T:TypeId) (x:aK)
 |xP (len size:Nat) (x:aK)
 |o4 (f:FuncId) (cap:List aK)
 |extract (i:Nat) (x:aK)
 |ng (f:FuncId) (cap:List aK)
 |o5 (T:TypeId) (x:aK)
 |call (f:FuncId) (args:List aK)
 |fw (x:aK) (args:List aK)
 |hM (others:List Nat) (f:FuncId) (args:List aK)
 |hz (f:FuncId) (args:List aK)
 |jq (x:aK) (args:List aK)
 |vS (f:FuncId) (args:List aK) (r:I)
 |vT (x:aK) (args:List aK) (r:I)
 |panic (x:aK)
 |fh (e6:Nat) (others:List Nat) (n:Nat) (a v:aK)
 |nQ (neg:Bool) (x:aK)
 |qZ (neg:Bool) (x:aK)
 |l4 (T size bytes:Nat) (zero:List I) (x:aK)
 |jk (off:Nat) (x:aK)
 |jo (x:aK)
 |j2 (size:Nat) (x i:aK)
 |j3 (agg:Bool) (n:Nat) (x:aK)
 |nz (T size bytes:Nat) (x y:aK)
 |nW (size:Nat) (x:aK) (cz ai:Option aK)
 |mj (T size n:Nat) (zero:List I) (parts:List (Nat×aK))
 |qY (T size:Nat) (f:FuncId) (args:List aK)
 |xB (T size:Nat) (f:FuncId) (args:List aK) (rows:List (List I))
def I.one:I→Bool
 | .agg _=>false
 | .di _=>false
 | .ew=>false
 | .dQ v=>v.oneCell'
 | _=>true
def I.cells:I→List I
 | .agg cs=>cs
 |a=>[a]
def I.eo:I→Bool
 | .agg _=>true
 |a=>a.one
def I.iB (agg:Bool) (l:List I):Option I:=
 bif agg then some (.agg l) else match l with
  |[a]=>some a
  | _=>none
def qn (op:BinOp) (k:IntKind) (a b:Int):Option I:=
 match op with
 | .add=>some (.int k (k.wrap (a+b)))
 | .sub=>some (.int k (k.wrap (a-b)))
 | .mul=>some (.int k (k.wrap (a*b)))
 | .eql=>some (.bool (decide (a=b)))
 | .neq=>some (.bool (!decide (a=b)))
 | .lss=>some (.bool (decide (a<b)))
 | .leq=>some (.bool (decide (a≤b)))
 | .gtr=>some (.bool (decide (b<a)))
 | .geq=>some (.bool (decide (b≤a)))
 | .and=>some (.int k (k.wrap (BitVec.ofInt k.bits a&&& BitVec.ofInt k.bits b).toNat))
 | .or=>some (.int k (k.wrap (BitVec.ofInt k.bits a|||BitVec.ofInt k.bits b).toNat))
 | .xor=>some (.int k (k.wrap (BitVec.ofInt k.bits a^^^BitVec.ofInt k.bits b).toNat))
 | .shl=>if 0≤b then some (.int k (k.wrap (a*2^(min b.toNat k.bits)))) else none
 | .shr=>if 0≤b then some (.int k (a.fdiv (2^(min b.toNat k.bits)))) else none
 | _=>none
def uL (op:BinOp) (k:IntKind) (a b:Int):Option I:=
 match op with
 | .shl=>if 0≤b then some (.int k (k.wrap (a*2^(min b.toNat k.bits)))) else none
 | .shr=>if 0≤b then some (.int k (a.fdiv (2^(min b.toNat k.bits)))) else none
 | _=>none
def jB:List (List I)→Option (List UInt8)
 |[]=>some []
 |[.int .u8 n]::aL=>match jB aL with
  |some l=>some (UInt8.ofNat n.toNat::l)
  |none=>none
 | _=>none
def jv (env:Env) (Dt:Nat):Option aK→Option Nat
 |none=>some Dt
 |some x=>match x.aJ env with
  | .int _ (.ofNat n)=>some n
  | _=>none
def sG (op:BinOp) (a b:List UInt8):Option I:=
 match op with
 | .eql=>some (.bool (decide (a=b)))
 | .neq=>some (.bool (!decide (a=b)))
 | .lss=>some (.bool (Go.Op.bytesLess a b))
 | .leq=>some (.bool (Go.Op.bytesLess a b||decide (a=b)))
 | .gtr=>some (.bool (!(Go.Op.bytesLess a b||decide (a=b))))
 | .geq=>some (.bool (!Go.Op.bytesLess a b))
 | _=>none
def tP (op:BinOp) (a b:Bool):Option I:=
 match op with
 | .eql=>some (.bool (a==b))
 | .neq=>some (.bool (!(a==b)))
 | _=>none
def oe:lQ→I→I→Option Bool
 | .i l,.int k a,.int j b=>if k=l∧j=l then some (decide (a=b)) else none
 | .s,.str a,.str b=>some (decide (a=b))
 | .b,.bool a,.bool b=>some (a==b)
 | _,_,_=>none
def gM:List lQ→List I→List I→Option Bool
 |[],[],[]=>some true
 |k::cu,a::az,b::cH=>match oe k a b,gM cu az cH with
  |some x,some y=>some (x&&y)
  | _,_=>none
 | _,_,_=>none
def gx (l:List I) (o:Nat) (new:List I):List I:=l.take o++new++l.drop (o+new.length)
def nA (env:Env) (cells:List I):List (Nat×Nat×aK)→Option (List I)
 |[]=>some cells
 |(off,size,x)::rest=>
  let cs:=(x.aJ env).cells
  if cs.length=size∧off+size≤cells.length∧(x.aJ env).eo=true then nA env (gx cells off cs) rest else none
def kP (lF:Bool):I→List I→Option I
 | .int k a,[]=>some (.int k a)
 | .int k a,.int j b::rest=>if k=j then kP lF (.int k (if lF then max a b else min a b)) rest else none
 | _,_=>none
def bU (op:bj) (env:Env) (H:aA):Option I:=
 match op with
 | .hs x=>some (x.aJ env)
 | .pick c a b=>match c.aJ env with
  | .bool true=>some (a.aJ env)
  | .bool false=>some (b.aJ env)
  | _=>none
 | .cE x=>match x.aJ env with
  | .ptr b o=>some (.ptr b o)
  | .dO r o=>some (.dO r o)
  | .fn f c=>some (.fn f c)
  | _=>none
 | .build zero parts=>(nA env zero parts).map .agg
 | .load agg n x=>match x.aJ env with
  | .ptr b o=>match H.aU b with
   |some (_,cs)=>if o+n≤cs.length then I.iB agg ((cs.drop o).take n) else none
   |none=>none
  | .dO row o=>if o+n≤row.length then I.iB agg ((row.drop o).take n) else none
  | _=>none
 | .hr e6 agg n x=>match env.get e6,x.aJ env with
  | .ptr b 0,.ptr bX o=>if bX=b then (match H.aU bX with
   |some (_,cs)=>if o+n≤cs.length then I.iB agg ((cs.drop o).take n) else none
   |none=>none) else none
  | _,_=>none
 | .nd agg n x=>match x.aJ env with
  | .dO row o=>if o+n≤row.length then I.iB agg ((row.drop o).take n) else none
  | _=>none
 | .nH off x=>match x.aJ env with
  | .ptr b o=>some (.ptr b (o+off))
  | .dO row o=>some (.dO row (o+off))
  | _=>none
 | .field agg off n x=>match x.aJ env with
  | .agg cs=>if off+n≤cs.length then I.iB agg ((cs.drop off).take n) else none
  | _=>none
 | .bin op x y=>match x.aJ env,y.aJ env with
  | .int k a,.int j b=>if k=j then qn op k a b else uL op k a b
  | .str a,.str b=>sG op a b
  | _,_=>none
 | .pA op x y=>match x.aJ env,y.aJ env with
  | .bool a,.bool b=>tP op a b
  | _,_=>none
 | .oS neg _ cu x y=>match x.aJ env,y.aJ env with
  | .agg a,.agg b=>(gM cu a b).map fun r=> .bool (bif neg then !r else r)
  | _,_=>none
 | .not x=>match x.aJ env with
  | .bool b=>some (.bool (!b))
  | _=>none
 | .qZ neg x=>match x.aJ env with
  | .ptr _ _=>some (.bool neg)
  | .dO _ _=>some (.bool neg)
  | .dQ (.pointer none)=>some (.bool (!neg))
  | _=>none
 | .neg x=>match x.aJ env with
  | .int k n=>some (.int k (k.wrap (0-n)))
  | _=>none
 | .conv k x=>match x.aJ env with
  | .int _ n=>some (.int k (k.wrap n))
  | _=>none
 | .fQ x=>match x.aJ env with
  | .str s=>some (.int .i64 s.length)
  | _=>none
 | .len x=>match x.aJ env with
  | .ay _ rows=>some (.int .i64 rows.length)
  | .own _ _ rows=>some (.int .i64 rows.length)
  | .dQ (.slice _ n _)=>some (.int .i64 n)
  | _=>none
 | .pU n=>some (.int .i64 n)
 | .nR lF xs=>match xs.map (aK.aJ env) with
  |a::rest=>kP lF a rest
  |[]=>none
 | .extract i x=>match x.aJ env with
  | .di l=>l[i]?
  | _=>none
 | .ng f cap=>some (.fn f (cap.map (aK.aJ env)))
 | .o4 f cap=>some (.fn (f+hW) (cap.map (aK.aJ env)))
 | .k8 int x=>match int,x.aJ env with
  |true,.int _ n=>some (.str (Utf8.encode n).data.toList)
  |false,.ay 1 rows=>(jB rows).map .str
  |false,.own _ 1 rows=>(jB rows).map .str
  |false,.dQ (.slice none _ _)=>some (.str [])
  | _,_=>none
 | .o5 T x=>some (.gW T (x.aJ env))
 | _=>none
def b2.bJ (T size n:Nat):b2:=⟨T,size,n,n,none⟩
def b2.bS (T size bg:Nat) (rows:List (List I)):b2:=⟨T,size,0,bg,some rows⟩
inductive D where
 |cT (v:I)
 |jp (T:TypeId) (cs:List I)
 |bF (o:b2) (v:Nat→I)
abbrev D.BL (T size:Nat) (rows:List (List I)):D:= .bF (.bJ T size rows.length) fun x=> .own x size rows
abbrev D.uy (T size:Nat) (rows:List (List I)):D:= .bF (.bS T size 0 rows) fun x=> .ez x 0
def D.fresh (d:D) (x:Nat) (H:aA):Prop:=
 match d with
 | .cT _=>True
 | .jp _ _=>H.aU x=none
 | .bF _ _=>H.tok x=none
def D.val (d:D) (x:Nat):I:=
 match d with
 | .cT v=>v
 | .jp _ _=> .ptr x 0
 | .bF _ v=>v x
def D.heap (d:D) (H:aA) (x:Nat):aA:=
 match d with
 | .cT _=>H
 | .jp T cs=>H.ch x T cs
 | .bF o _=>H.cA x o
inductive Out where
 |ret (a:I)
 |eR (a:I)
def rl (m:Mem):Out→Ending→Prop
 | .ret a,e=> ∃v,e= .returned v∧aR m a v
 | .eR a,e=> ∃v,e= .panicked [{v,recovered:=false}]∧aR m a v
def jr (P:Program) (f:FuncId) (args:List I) (H:aA) (Q:Out→aA→Prop):Prop:=
 ∀(m:Mem) (ay:List Value),m.H=H→b5 m→aS m args ay→
  Calls P f ⟨ay⟩ m.w fun e w'=> ∃o aF gb cQ,b5 ⟨w',aF,gb,cQ⟩∧b0 m ⟨w',aF,gb,cQ⟩∧rl ⟨w',aF,gb,cQ⟩ o e∧Q o aF
def Pure (P:Program) (f:FuncId) (args:List I) (r:I):Prop:=∀H,jr P f args H fun o aF=>o= .ret r∧aF=H
def S8 (P:Program) (f:FuncId) (args:List I) (T size:Nat) (rows:List (List I)):Prop:=∀H,jr P f args H fun o aF=> ∃t,H.tok t=none∧o= .ret (.ez t 0)∧aF=H.cA t (.bS T size 0 rows)
def c9 (P:Program) (f:FuncId):Bool:=match P.funcs[f]? with|some fn=>fn.body.isSome&& !(fn.name== "runtime.NumGoroutine")&&Nat.blt f hW|none=>false
def rowsOf (size:Nat):I→Option (List (List I))
 | .ay s rows=>if s=size then some rows else none
 | .own _ s rows=>if s=size then some rows else none
 | .dQ (.slice _ 0 _)=>some []
 | .str s=>if size=1 then some (s.map fun c=>[.int .u8 c.toNat]) else none
 | _=>none
def j5 (env:Env) (parts:List (Nat×aK)):List (List I):=parts.map fun p=>(p.2.aJ env).cells
def mG (size:Nat):I→Option (List (List I))
 | .ay s rows=>if s=size then some rows else none
 | .own _ s rows=>if s=size then some rows else none
 | _=>none
inductive eO (P:Program):bj→Env→aA→D→Prop
 |pure {op env H v}(h:bU op env H=some v):eO P op env H (.cT v)
 |quo {x y env H k a b}(ab:x.aJ env= .int k a) (aZ:y.aJ env= .int k b) (hb:b≠0):eO P (.bin .quo x y) env H (.cT (.int k (k.wrap (a.tdiv b))))
 |rem {x y env H k a b}(ab:x.aJ env= .int k a) (aZ:y.aJ env= .int k b) (hb:b≠0):eO P (.bin .rem x y) env H (.cT (.int k (a.tmod b)))
 |bR {x y env H a b}(ab:x.aJ env= .str a) (aZ:y.aJ env= .str b) (hb:a.length+b.length≤maxLen):eO P (.bin .add x y) env H (.cT (.str (a++b)))
 |nO {size x i env H rows k n r}(ab:x.aJ env= .ay size rows) (ai:i.aJ env= .int k n) (aw:0≤n) (ag:rows[n.toNat]? =some r):eO P (.fW size x i) env H (.cT (.dO r 0))
 |nM {size x i env H t rows k n r}(ab:x.aJ env= .own t size rows) (ai:i.aJ env= .int k n) (aw:0≤n) (ag:rows[n.toNat]? =some r):eO P (.fW size x i) env H (.cT (.dO r 0))
 |ou {size x i env H b o cap k}{len:Nat}{n:Int}(ab:x.aJ env= .dQ (.slice (some ⟨b,o,none⟩) len cap)) (ai:i.aJ env= .int k n) (aw:0≤n) (J:n<(len:Int)):eO P (.fW size x i) env H (.cT (.ptr b (o+n.toNat*size)))
 |nb {size x i env H b o k}{len:Nat}{n:Int}(ab:x.aJ env= .ptr b o) (ai:i.aJ env= .int k n) (aw:0≤n) (J:n<(len:Int)):eO P (.o1 len size x i) env H (.cT (.ptr b (o+n.toNat*size)))
 |nN {size x i env H row o k}{len:Nat}{n:Int}(ab:x.aJ env= .dO row o) (ai:i.aJ env= .int k n) (aw:0≤n) (J:n<(len:Int)):eO P (.o1 len size x i) env H (.cT (.dO row (o+n.toNat*size)))
 |jn {agg size x i env H cs k}{len:Nat}{n:Int}{v}(ab:x.aJ env= .agg cs) (ai:i.aJ env= .int k n) (aw:0≤n) (J:n<(len:Int)) (aH:n.toNat*size+size≤cs.length) (af:I.iB agg ((cs.drop (n.toNat*size)).take size)=some v):eO P (.jn agg len size x i) env H (.cT v)
 |eJ {x i env H s k n c}(ab:x.aJ env= .str s) (ai:i.aJ env= .int k n) (aw:0≤n) (ah:s[n.toNat]? =some c):eO P (.eJ x i) env H (.cT (.int .u8 c.toNat))
 |gE {x cz ai env H s l h}(ab:x.aJ env= .str s) (aH:jv env 0 cz=some l) (bh:jv env s.length ai=some h) (J:l≤h) (aa:h≤s.length):eO P (.gE x cz ai) env H (.cT (.str ((s.take h).drop l)))
 |h9 {size x cz ai env H rows l h}(ab:mG size (x.aJ env)=some rows) (aH:jv env 0 cz=some l) (bh:jv env rows.length ai=some h) (J:l≤h) (aa:h≤rows.length):eO P (.h9 size x cz ai none) env H (.cT (.ay size ((rows.take h).drop l)))
 |jC {T x env H s}(ab:x.aJ env= .str s):eO P (.jC T x) env H (.cT (.ay 1 (s.map fun c=>[.int .u8 c.toNat])))
 |box {T x env H}(ab:((x.aJ env).cells).all I.one=true):eO P (.box T x) env H (.jp T (x.aJ env).cells)
 |alloc {T zero env H}(aB:zero.all I.one=true):eO P (.alloc T zero) env H (.jp T zero)
 |n6 {T size n zero parts env H rows}(ag:j5 env parts=rows) (ap:rows.all (fun r=>r.length==size)=true) (aq:rows.flatten.all I.one=true):eO P (.dA T size n zero parts) env H (.cT (.ay size rows))
 |ml {T size n zero parts env H rows}(ag:j5 env parts=rows) (ap:rows.all (fun r=>r.length==size)=true) (aq:rows.flatten.all I.one=true) (aw:size≠0):eO P (.ml T size n zero parts) env H (.BL T size rows)
 |ql {T size bytes x y env H rows}(ab:x.aJ env= .aV) (aZ:rowsOf size (y.aJ env)=some rows) (hb:rows.length*bytes≤140737488355328) (hm:rows.length≤maxLen) (aw:size≠0):eO P (.append T size bytes x y) env H (.BL T size rows)
 |jo {x env H t bg T size rows}(ab:x.aJ env= .ez t bg) (aO:H.tok t=some (.bS T size bg rows)):eO P (.jo x) env H (.cT (.int .i64 rows.length))
 |l4 {T size bytes zero x env H k}{n:Nat}(ab:x.aJ env= .int k (n:Int)) (hb:bytes*n≤281474976710656) (hm:n≤maxLen) (aq:zero.all I.one=true) (aB:zero.length=size) (aw:size≠0):eO P (.l4 T size bytes zero x) env H (.uy T size (List.replicate n zero))
 |s3 {neg x env H}(ab:x.aJ env= .aV):eO P (.nQ neg x) env H (.cT (.bool (!neg)))
 |uv {neg x env H size rows}(ab:x.aJ env= .ay size rows) (ag:rows≠[]):eO P (.nQ neg x) env H (.cT (.bool neg))
 |jk {off x env H t bg k T size rows}(ab:x.aJ env= .mp t bg k) (aO:H.tok t=some (.bS T size bg rows)):eO P (.jk off x) env H (.cT (.mp t bg (k+off)))
 |j2 {size x i env H t bg T rows k n}(ab:x.aJ env= .ez t bg) (aO:H.tok t=some (.bS T size bg rows)) (ai:i.aJ env= .int k n) (aw:0≤n) (J:n<(rows.length:Int)):eO P (.j2 size x i) env H (.cT (.mp t bg (n.toNat*size)))
 |j3 {agg n x env H t bg k T size rows v}(ab:x.aJ env= .mp t bg k) (aO:H.tok t=some (.bS T size bg rows)) (aH:k+n≤rows.flatten.length) (af:I.iB agg ((rows.flatten.drop k).take n)=some v):eO P (.j3 agg n x) env H (.cT v)
 |mj {T size n zero parts env H rows}(ag:j5 env parts=rows) (ap:rows.all (fun r=>r.length==size)=true) (aq:rows.flatten.all I.one=true) (aw:size≠0):eO P (.mj T size n zero parts) env H (.uy T size rows)
 |u2 {T size bytes x y env H rows}(ab:x.aJ env= .aV) (aZ:rowsOf size (y.aJ env)=some rows) (hb:rows.length*bytes≤140737488355328) (hm:rows.length≤maxLen) (aw:size≠0):eO P (.nz T size bytes x y) env H (.uy T size rows)
 |uF {f args env H az T size rows}(aP:e7 (args.map (aK.aJ env)) az) (h:S8 P f az T size rows):eO P (.xB T size f args rows) env H (.uy T size rows)
 |hz {f args env H az r}(aP:e7 (args.map (aK.aJ env)) az) (h:Pure P f az r):eO P (.call f args) env H (.cT r)
 |jq {x args env H f cap az r}(ab:x.aJ env= .fn f cap) (aW:c9 P f=true) (aP:e7 (args.map (aK.aJ env)++cap) az) (h:Pure P f az r):eO P (.fw x args) env H (.cT r)
 |o7 {f args env H az r}(aP:e7 (args.map (aK.aJ env)) az) (h:Pure P f az r):eO P (.vS f args r) env H (.cT r)
 |o8 {x args env H f cap az r}(ab:x.aJ env= .fn f cap) (aW:c9 P f=true) (aP:e7 (args.map (aK.aJ env)++cap) az) (h:Pure P f az r):eO P (.vT x args r) env H (.cT r)
def yi (K Rp:I→aA→Prop) (aF:aA):Out→Prop
 | .ret v=>K v aF
 | .eR v=>Rp v aF
def hF (H:aA):Prop:=∃N,∀n,N≤n→H.aU n=none∧H.tok n=none
inductive ie (P:Program):bj→Env→aA→(I→aA→Prop)→(I→aA→Prop)→Prop
 |ia {op env H K Rp}(d:D) (bw:eO P op env H d) (h: ∀x,d.fresh x H→K (d.val x) (d.heap H x)):ie P op env H K Rp
 |store {n a v env H K Rp b o T cs}(aP:a.aJ env= .ptr b o) (hb:H.aU b=some (T,cs)) (a6:(v.aJ env).cells.length=n) (aH:o+n≤cs.length) (aq:((v.aJ env).cells).all I.one=true)
  (h:K .undef (H.ch b T (gx cs o (v.aJ env).cells))):ie P (.store n a v) env H K Rp
 |fh {e6 others n a v env H K Rp b o T cs}(oZ:env.get e6= .ptr b 0) (mu: ∀s∈others,∃bX,env.get s= .ptr bX 0∧bX≠b) (aP:a.aJ env= .ptr b o) (hb:H.aU b=some (T,cs)) (a6:(v.aJ env).cells.length=n) (aH:o+n≤cs.length) (aq:((v.aJ env).cells).all I.one=true)
  (h:K .undef (H.ch b T (gx cs o (v.aJ env).cells))):ie P (.fh e6 others n a v) env H K Rp
 |append {T size bytes x y env H K Rp t rows new}(ab:x.aJ env= .own t size rows) (aO:H.tok t=some (.bJ T size rows.length)) (aZ:rowsOf size (y.aJ env)=some new) (hb:(rows.length+new.length)*bytes≤140737488355328) (hm:rows.length+new.length≤maxLen)
  (h:K (.own t size (rows++new)) (H.cA t (.bJ T size (rows.length+new.length)))):ie P (.append T size bytes x y) env H K Rp
 |nz {T size bytes x y env H K Rp t bg rows new}(ab:x.aJ env= .ez t bg) (aO:H.tok t=some (.bS T size bg rows)) (aZ:rowsOf size (y.aJ env)=some new) (hb:(rows.length+new.length)*bytes≤140737488355328) (hm:rows.length+new.length≤maxLen)
  (h:K (.ez t (bg+1)) (H.cA t (.bS T size (bg+1) (rows++new)))):ie P (.nz T size bytes x y) env H K Rp
 |vA {neg x env H K Rp size rows}(ab:x.aJ env= .ay size rows) (h: ∀b,K (.bool b) H):ie P (.nQ neg x) env H K Rp
 |nW {size x cz ai env H K Rp t bg T rows h}(ab:x.aJ env= .ez t bg) (aO:H.tok t=some (.bS T size bg rows)) (aH:jv env 0 cz=some 0) (bh:jv env rows.length ai=some h) (J:h≤rows.length)
  (h:K (.ez t (bg+1)) (H.cA t (.bS T size (bg+1) (rows.take h)))):ie P (.nW size x cz ai) env H K Rp
 |uO {n a v env H K Rp t bg k T size rows gC}(aP:a.aJ env= .mp t bg k) (aO:H.tok t=some (.bS T size bg rows)) (a6:(v.aJ env).cells.length=n) (aH:k+n≤rows.flatten.length) (aq:((v.aJ env).cells).all I.one=true)
  (aW:gC.flatten=gx rows.flatten k (v.aJ env).cells) (ag: ∀r∈gC,r.length=size) (hlen:gC.length=rows.length)
  (h:K .undef (H.cA t (.bS T size bg gC))):ie P (.store n a v) env H K Rp
 |call {f args env H K Rp az}(Q:Out→aA→Prop) (aP:e7 (args.map (aK.aJ env)) az) (ah:jr P f az H Q) (h: ∀o aF,Q o aF→yi K Rp aF o):ie P (.call f args) env H K Rp
 |hM {others f args env H K Rp az}(Q:Out→aA→Prop) (aq: ∀s∈others,∃b,env.get s= .ptr b 0∧∀o aF,Q o aF→aF.aU b=H.aU b) (he:hF H→∃r aF,Q (.ret r) aF∧hF aF) (aP:e7 (args.map (aK.aJ env)) az) (ah:jr P f az H Q) (h: ∀o aF,Q o aF→yi K Rp aF o):ie P (.hM others f args) env H K Rp
 |fw {x args env H K Rp f cap az}(Q:Out→aA→Prop) (ab:x.aJ env= .fn f cap) (aW:c9 P f=true) (aP:e7 (args.map (aK.aJ env)++cap) az) (ah:jr P f az H Q) (h: ∀o aF,Q o aF→yi K Rp aF o):ie P (.fw x args) env H K Rp
 |sJ {x args env H K Rp f cap az}(Q:Out→aA→Prop) (ab:x.aJ env= .fn (f+hW) cap) (aW:c9 P f=true) (aP:e7 (cap++args.map (aK.aJ env)) az) (ah:jr P f az H Q) (h: ∀o aF,Q o aF→yi K Rp aF o):ie P (.fw x args) env H K Rp
 |xQ {len size x env H K Rp b T cs rows}(ab:x.aJ env= .ptr b 0) (hb:H.aU b=some (T,cs)) (aW:rows.flatten=cs) (ag: ∀r∈rows,r.length=size) (aH:rows.length=len) (aw:0<len) (hm:len≤maxLen)
  (h:K (.ay size rows) (H.oP b)):ie P (.xP len size x) env H K Rp
 |panic {x env H K Rp t v}(ab:x.aJ env= .gW t v) (h:Rp (.gW t v) H):ie P (.panic x) env H K Rp
structure bP where
 dst:Option Nat
 guard:Option (Nat×Bool)
 op:bj
def wanted (i:bP) (env:Env):Option Bool:=
 match i.guard with
 |none=>some true
 |some (j,want)=>match env.get j with
  | .bool b=>some (b==want)
  | .dQ (.tuple ⟨[]⟩)=>some false
  | _=>none
def bf (P:Program):List bP→Env→aA→(Env→aA→Prop)→(I→aA→Prop)→Prop
 |[],env,H,K,_=>K env H
 |i::l,env,H,K,Rp=>match wanted i env with
  |some true=>ie P i.op env H (fun v aF=>bf P l (env.put i.dst v) aF K Rp) Rp
  |some false=>bf P l (env.put i.dst .undef) H K Rp
  |none=>False
def I.rows:I→List (List I)
 | .ay _ rows=>rows
 | _=>[]
def eP:List bP→List I→List bP
 |[],_=>[]
 |⟨d,g,.hz f args⟩::l,r::aL=>⟨d,g,.vS f args r⟩::eP l aL
 |⟨d,g,.jq x args⟩::l,r::aL=>⟨d,g,.vT x args r⟩::eP l aL
 |⟨d,g,.qY T size f args⟩::l,r::aL=>⟨d,g,.xB T size f args (I.rows r)⟩::eP l aL
 |i::l,aL=>i::eP l aL
inductive bu where
 |skip
 |region (ops:List bP) (draw:Bool)
 |seq (a b:bu)
 |cond (c:aK) (a b:bu)
 |block (id:Nat) (body:bu)
 |loop (body:bu)
 |exit (id:Nat)
 |ret
 |rv (d:Nat) (f:FuncId) (cap:List aK)
inductive Item where
 |c (c:bu)
 |aU (id:Nat)
 |round (er:Nat→Env→aA→Prop) (m0:Nat)
def pa (id:Nat):List Item→Option (List Item)
 | .aU j::k=>if j=id then some k else pa id k
 | _::k=>pa id k
 |[]=>none
inductive bk where
 |t (n:Nat)
 |cell (agg:Bool) (n:Nat) (addr:Nat)
def bk.aJ (env:Env) (H:aA):bk→Option I
 | .t n=>some (env.get n)
 | .cell agg n a=>bU (.load agg n (.t a)) env H
def results (aL:List bk) (env:Env) (H:aA):Option I:=
 match aL with
 |[r]=>r.aJ env H
 |aL=>(aL.mapM (bk.aJ env H)).map .di
def bu.kl (t:Nat):bu→Bool
 | .region ops _=>ops.all fun i=>i.dst !=some t
 | .seq a b=>bu.kl t a&&bu.kl t b
 | .cond _ a b=>bu.kl t a&&bu.kl t b
 | .block _ b=>bu.kl t b
 | .loop b=>bu.kl t b
 | .rv d _ _=>d !=t
 | _=>true
def Item.kl (t:Nat):Item→Bool
 | .c e=>e.kl t
 | .aU _=>true
 | .round _ _=>false
def tE (P:Program) (f:FuncId) (gr:List I) (x:I) (H:aA) (Q:aA→Prop):Prop:=
 ∀(m:Mem) (ay:List Value) (kg:Value),m.H=H→b5 m→aS m gr ay→aR m x kg→
  CallsD P f ⟨ay⟩ (.panicking [{v:=kg,recovered:=false}]) m.w fun e q9 w'=>(∃v,e= .returned v)∧q9= .panicking [{v:=kg,recovered:=true}]∧∃aF gb cQ,b5 ⟨w',aF,gb,cQ⟩∧b0 m ⟨w',aF,gb,cQ⟩∧Q aF
def Ab (P:Program) (f:FuncId) (gr:List I):Prop:=
 ∀(m:Mem) (ay:List Value),b5 m→aS m gr ay→CallsD P f ⟨ay⟩ .returning m.w fun e q9 w'=>(∃v,e= .returned v)∧q9= .returning∧∃gb cQ,b5 ⟨w',m.H,gb,cQ⟩∧b0 m ⟨w',m.H,gb,cQ⟩
inductive cx (P:Program) (aL:List bk):(Out→aA→Prop)→List Item→Env→aA→Prop
 |done {R:Out→aA→Prop}{env H v}(af:bc.results aL env H=some v) (h:R (.ret v) H):cx P aL R [] env H
 |ret {R:Out→aA→Prop}{k env H v}(af:bc.results aL env H=some v) (h:R (.ret v) H):cx P aL R (.c .ret::k) env H
 |skip {R:Out→aA→Prop}{k env H}(h:cx P aL R k env H):cx P aL R (.c .skip::k) env H
 |gV {R:Out→aA→Prop}{id k env H}(h:cx P aL R k env H):cx P aL R (.aU id::k) env H
 |seq {R:Out→aA→Prop}{a b k env H}(h:cx P aL R (.c a:: .c b::k) env H):cx P aL R (.c (.seq a b)::k) env H
 |block {R:Out→aA→Prop}{id body k env H}(h:cx P aL R (.c body:: .aU id::k) env H):cx P aL R (.c (.block id body)::k) env H
 |exit {R:Out→aA→Prop}{id k dY env H}(aC:pa id k=some dY) (h:cx P aL R dY env H):cx P aL R (.c (.exit id)::k) env H
 |cond {R:Out→aA→Prop}{c a b k env H t}(ah:c.aJ env= .bool t) (J:t=true→cx P aL R (.c a::k) env H) (aa:t=false→cx P aL R (.c b::k) env H):cx P aL R (.c (.cond c a b)::k) env H
 |region {R:Out→aA→Prop}{ops draw k env H}(anns:List I) (K:Env→aA→Prop) (h:bf P (eP ops anns) env H K (fun v aF=>R (.eR v) aF)) (dv: ∀bb aF,K bb aF→cx P aL R k bb aF):cx P aL R (.c (.region ops draw)::k) env H
 |loop {R:Out→aA→Prop}{body k env H}(er:Nat→Env→aA→Prop) (m:Nat) (aw:er m env H) (h: ∀aX bb aF,er aX bb aF→cx P aL R (.c body:: .round er aX::k) bb aF):cx P aL R (.c (.loop body)::k) env H
 |round {R:Out→aA→Prop}{er m0 k env H}(m:Nat) (aw:er m env H) (J:m<m0):cx P aL R (.round er m0::k) env H
 |conv {R:Out→aA→Prop}{k env H}(S:Env→aA→Prop) (ap: ∀m:Mem,m.H=H→b5 m→∃bb aF gb cQ,S bb aF∧b5 ⟨m.w,aF,gb,cQ⟩∧b0 m ⟨m.w,aF,gb,cQ⟩∧∀j v,aR m (env.get j) v→aR ⟨m.w,aF,gb,cQ⟩ (bb.get j) v) (h: ∀bb aF,S bb aF→cx P aL R k bb aF):cx P aL R k env H
 |x6 {R:Out→aA→Prop}{k env bb H}(he: ∀j,eI (env.get j) (bb.get j)) (h:cx P aL R k bb H):cx P aL R k env H
 |rv {R:Out→aA→Prop}{d:Nat}{f:FuncId}{cap:List aK}{k:List Item}{env:Env}{H:aA}(jt:Out→aA→Prop) (kt:Env) (Bl: ∀j,eI (env.get j) (kt.get j)) (aC: ∀p∈kt,k.all (Item.kl p.1)=true) (bw: ∀p∈kt,d≠p.1) (ah:k.all (fun i=>match i with| .round _ _=>false| _=>true)=true)
  (aW:c9 P f=true) (Bk:Ab P f (cap.map (aK.aJ env))) (Bv: ∀v aF,jt (.ret v) aF→R (.ret v) aF)
  (Bu: ∀x aF,jt (.eR x) aF→tE P f (cap.map (aK.aJ env)) x aF fun dk=> ∃v,bc.results aL kt dk=some v∧R (.ret v) dk)
  (h:cx P aL jt k ((d,.fn f (cap.map (aK.aJ env)))::env) H):cx P aL R (.c (.rv d f cap)::k) env H
variable {P:Program}{aL:List bk}{R:Out→aA→Prop}
theorem cx.fs {ops draw k env H}(anns:List I) (h:bf P (eP ops anns) env H (fun bb aF=>cx P aL R k bb aF) (fun v aF=>R (.eR v) aF)):cx P aL R (.c (.region ops draw)::k) env H:=
 cx.region anns _ h fun _ _ h=>h
theorem bf.nil {env H K Rp}(h:K env H):bf P [] env H K Rp:=h
theorem bf.step {i l env H K Rp}(hw:wanted i env=some true) (h:ie P i.op env H (fun v aF=>bf P l (env.put i.dst v) aF K Rp) Rp):bf P (i::l) env H K Rp:=by
 simp only[bf,hw]; exact h
theorem bf.skip {i l env H K Rp}(hw:wanted i env=some false) (h:bf P l (env.put i.dst .undef) H K Rp):bf P (i::l) env H K Rp:=by
 simp only[bf,hw]; exact h
theorem bf.mE {i l env H K Rp v}(hw:wanted i env=some true) (af:bU i.op env H=some v) (h:bf P l (env.put i.dst v) H K Rp):bf P (i::l) env H K Rp:=
 bf.step hw (.ia (.cT v) (.pure af) fun _ _=>h)
theorem bf.rs {i l env H K Rp}(d:D) (hw:wanted i env=some true) (bw:eO P i.op env H d) (h: ∀x,d.fresh x H→bf P l (env.put i.dst (d.val x)) (d.heap H x) K Rp):bf P (i::l) env H K Rp:=
 bf.step hw (.ia d bw h)
end Go.bc
namespace Go.bc
open Go
theorem sZ (w:World) (o:Obj) (i:Nat) (h:i<w.heap.size):(w.alloc o).heap[i]? =w.heap[i]? :=by
 show (w.heap.push o)[i]? = _
 rw[Array.getElem?_push,if_neg (by omega)]
theorem vz (w:World) (o:Obj):(w.alloc o).heap[w.heap.size]? =some o:=by
 show (w.heap.push o)[w.heap.size]? = _
 rw[Array.getElem?_push,if_pos rfl]
theorem b0.hid {m:Mem}{w':World}(J:w'.os=m.w.os) (aa:w'.tape=m.w.tape) (au:w'.output=m.w.output) (bn:m.w.heap.size≤w'.heap.size) (bL: ∀b,b<m.w.heap.size→w'.heap[b]? =m.w.heap[b]?):b0 m {m with w:=w'} where
 os:=J
 tape:=aa
 output:=au
 size:=bn
 T:=Nat.le_refl _
 block:=fun b hb h ij=>⟨bL b hb,h,ij⟩
 cell:=fun b o ap=>⟨⟨Nat.lt_of_lt_of_le ap.lt bn,ap.aU,ap.tok⟩,World.cell?_of_block (a:=⟨b,o,none⟩) (bL b ap.lt)⟩
 tok:=fun t da _ h=>⟨da,h,Nat.le_refl _,rfl,fun _=>rfl⟩
theorem zp {w w':World}{base:Nat}{e:TypeId}{size n:Nat}{v:Value}{xs:List Value}(h:w.ownsRow base e size v n xs) (aC: ∀b,v.ownBlock=some b→w'.heap[b]? =w.heap[b]?):w'.ownsRow base e size v n xs:=by
 refine⟨h.1,?_⟩
 rcases h.2 with a6|⟨g,cap,cur,rfl,hb,Zc,rest⟩
 ·exact .inl a6
 ·exact .inr ⟨g,cap,cur,rfl,hb,by rw[aC g (by simp [Value.ownBlock])]; exact Zc,rest⟩
theorem b5.hid {m:Mem}(r:b5 m){w':World}(J:w'.os=m.w.os) (aa:w'.tape=m.w.tape) (au:w'.output=m.w.output) (bn:m.w.heap.size≤w'.heap.size) (bL: ∀b,b<m.w.heap.size→w'.heap[b]? =m.w.heap[b]?):b5 {m with w:=w'} where
 kH:=(pt.aJ (b0.hid J aa au bn bL) r.kH r.kI).1
 kI:=(pt.aJ (b0.hid J aa au bn bL) r.kH r.kI).2
 aU:=fun b T cs hb=>by
  obtain⟨l,ar,ax,cw⟩:=r.aU b T cs hb
  have cK:b<m.w.heap.size:=(Array.getElem?_eq_some_iff.1 ar).1
  exact⟨l,(bL b cK).trans ar,aS.aJ (b0.hid J aa au bn bL) cs l ax,cw⟩
 tok:=fun t i aO=>by
  obtain⟨bC,bA,⟨xs,cO,lH⟩,fC⟩:=r.tok t i aO
  exact⟨bC,bA,⟨xs,zp cO fun b hb=>bL b (cO.lt b hb).2,fun rows ag=>⟨aS.aJ (b0.hid J aa au bn bL) _ _ (lH rows ag).1,(lH rows ag).2⟩⟩,fC⟩
theorem b0.drew (m:Mem):b0 m {m with w:=m.w.drew}:=b0.hid rfl rfl rfl (Nat.le_refl _) fun _ _=>rfl
theorem b5.drew {m:Mem}(r:b5 m):b5 {m with w:=m.w.drew}:=r.hid rfl rfl rfl (Nat.le_refl _) fun _ _=>rfl
theorem b0.alloc (m:Mem) (o:Obj):b0 m {m with w:=m.w.alloc o}:=b0.hid rfl rfl rfl (by simp) fun b hb=>sZ m.w o b hb
theorem b5.alloc {m:Mem}(r:b5 m) (o:Obj):b5 {m with w:=m.w.alloc o}:=r.hid rfl rfl rfl (by simp) fun b hb=>sZ m.w o b hb
theorem rp {m:Mem}(r:b5 m){b T cs}(h:m.H.aU b=some (T,cs)):b<m.w.heap.size:=by
 obtain⟨l,ar,_⟩:=r.aU b T cs h
 exact (Array.getElem?_eq_some_iff.1 ar).1
theorem wB {m:Mem}(r:b5 m):m.H.aU m.w.heap.size=none:=by
 cases h:m.H.aU m.w.heap.size with
 |none=>rfl
 |some x=>have:=rp r (b:=m.w.heap.size) (T:=x.1) (cs:=x.2) h; omega
theorem uR {m:Mem}(r:b5 m){t i b}(h:m.H.tok t=some i) (hb:(m.L t).ownBlock=some b):b<m.w.heap.size:=by
 obtain⟨_,_,⟨xs,cO,_⟩,_⟩:=r.tok t i h
 exact (cO.lt b hb).2
theorem uS {m:Mem}(r:b5 m):m.H.tok m.T=none:=by
 cases h:m.H.tok m.T with
 |none=>rfl
 |some i=>have:=(r.tok _ _ h).1; omega
def Mem.b7 (m:Mem) (T:TypeId) (cs:List I) (l:List Value):Mem:={m with w:=m.w.alloc (.cells ⟨l⟩ T),H:=m.H.ch m.w.heap.size T cs}
theorem b0.b7 (m:Mem) (T:TypeId) (cs:List I) (l:List Value):b0 m (m.b7 T cs l) where
 os:=rfl
 tape:=rfl
 output:=rfl
 size:=by simp [Mem.b7]
 T:=Nat.le_refl _
 block:=fun b hb h ij=>⟨sZ m.w _ b hb,by simp only[Mem.b7,aA.ch]; rw[if_neg (by omega)]; exact h,ij⟩
 cell:=fun b o ap=>⟨⟨by have:=ap.lt; simp [Mem.b7]; omega,by have:=ap.lt; simp only[Mem.b7,aA.ch]; rw[if_neg (by omega)]; exact ap.aU,ap.tok⟩,World.cell?_of_block (a:=⟨b,o,none⟩) (sZ m.w _ b ap.lt)⟩
 tok:=fun t da _ h=>⟨da,h,Nat.le_refl _,rfl,fun _=>rfl⟩
theorem b5.b7 {m:Mem}(r:b5 m){T:TypeId}{cs:List I}{l:List Value}(aH:aS m cs l) (aq: ∀v∈l,v.oneCell'=true):b5 (m.b7 T cs l) where
 kH:=(pt.aJ (b0.b7 m T cs l) r.kH r.kI).1
 kI:=(pt.aJ (b0.b7 m T cs l) r.kH r.kI).2
 aU:=fun b cQ c3 hb=>by
  simp only[Mem.b7,aA.ch]at hb
  by_cases e:b=m.w.heap.size
  ·rw[if_pos e]at hb
   simp only[Option.some.injEq,Prod.mk.injEq]at hb
   obtain⟨rfl,rfl⟩:=hb
   subst e
   exact⟨l,vz m.w _,aS.aJ (b0.b7 m _ _ l) _ l aH,aq⟩
  ·rw[if_neg e]at hb
   obtain⟨b8,ar,ax,cw⟩:=r.aU b cQ c3 hb
   exact⟨b8,(sZ m.w _ b (rp r hb)).trans ar,aS.aJ (b0.b7 m _ _ l) _ b8 ax,cw⟩
 tok:=fun t i aO=>by
  obtain⟨bC,bA,⟨xs,cO,lH⟩,fC⟩:=r.tok t i aO
  refine⟨bC,bA,⟨xs,cO.alloc _,fun rows ag=>⟨aS.aJ (b0.b7 m _ _ l) _ _ (lH rows ag).1,(lH rows ag).2⟩⟩,fun b hb=> ?_⟩
  obtain⟨g1,g2⟩:=fC b hb
  have:=uR r aO hb
  exact⟨by simp only[Mem.b7,aA.ch]; rw[if_neg (by omega)]; exact g1,g2⟩
def Mem.bF (m:Mem) (w':World) (v:Value) (o:b2):Mem:=⟨w',m.H.cA m.T o,fun x=>if x=m.T then v else m.L x,m.T+1⟩
theorem b0.bF {m:Mem}(r:b5 m){w':World}{v:Value}{o:b2}(J:w'.os=m.w.os) (aa:w'.tape=m.w.tape) (au:w'.output=m.w.output) (bn:m.w.heap.size≤w'.heap.size) (bL: ∀b,b<m.w.heap.size→w'.heap[b]? =m.w.heap[b]?)
  (af: ∀b,v.ownBlock=some b→m.w.heap.size≤b):b0 m (m.bF w' v o) where
 os:=J
 tape:=aa
 output:=au
 size:=bn
 T:=by simp [Mem.bF]
 block:=fun b hb h ij=>⟨bL b hb,h,fun t i aO e=>by
  simp only[Mem.bF,aA.cA]at aO e
  by_cases iw:t=m.T
  ·rw[if_pos iw]at e
   have:=af b e
   omega
  ·rw[if_neg iw]at e aO
   exact ij t i aO e⟩
 cell:=fun b c ap=>⟨⟨Nat.lt_of_lt_of_le ap.lt bn,ap.aU,fun t i aO e=>by
  simp only[Mem.bF,aA.cA]at aO e
  by_cases iw:t=m.T
  ·rw[if_pos iw]at e
   have:=af b e
   have:=ap.lt
   omega
  ·rw[if_neg iw]at e aO
   exact ap.tok t i aO e⟩,World.cell?_of_block (a:=⟨b,c,none⟩) (bL b ap.lt)⟩
 tok:=fun t da aO h=>by
  simp only[Mem.bF,aA.cA]at h ⊢
  rw[if_neg (by omega)]at h ⊢
  exact⟨da,h,Nat.le_refl _,rfl,fun _=>rfl⟩
theorem b5.bF {m:Mem}(r:b5 m){w':World}{v:Value}{o:b2}(J:w'.os=m.w.os) (aa:w'.tape=m.w.tape) (au:w'.output=m.w.output) (bn:m.w.heap.size≤w'.heap.size) (bL: ∀b,b<m.w.heap.size→w'.heap[b]? =m.w.heap[b]?)
  (af: ∀b,v.ownBlock=some b→m.w.heap.size≤b) (ap:o.size≠0) (aq: ∃xs,w'.ownsRow 0 o.ty o.size v o.len xs∧∀rows,o.n8=some rows→aS (m.bF w' v o) rows.flatten xs∧(∀r∈rows,r.length=o.size)∧∀v∈xs,v.oneCell'=true):b5 (m.bF w' v o) where
 kH:=(pt.aJ (b0.bF r J aa au bn bL af) r.kH r.kI).1
 kI:=(pt.aJ (b0.bF r J aa au bn bL af) r.kH r.kI).2
 aU:=fun b T cs hb=>by
  obtain⟨l,ar,ax,cw⟩:=r.aU b T cs hb
  exact⟨l,(bL b (rp r hb)).trans ar,aS.aJ (b0.bF r J aa au bn bL af) cs l ax,cw⟩
 tok:=fun t i aO=>by
  simp only[Mem.bF,aA.cA]at aO ⊢
  by_cases iw:t=m.T
  ·rw[if_pos iw]at aO
   simp only[Option.some.injEq]at aO
   subst aO
   refine⟨by omega,ap,by rw[if_pos iw]; exact aq,fun b hb=> ?_⟩
   rw[if_pos iw]at hb
   have cM:=af b hb
   refine⟨?_,fun dx da gj gu=> ?_⟩
   ·cases ab:m.H.aU b with
    |none=>rfl
    |some x=>have:=rp r (T:=x.1) (cs:=x.2) ab; omega
   ·by_cases AX:dx=m.T
    ·omega
    ·rw[if_neg AX]at gj gu
     have:=uR r gj gu
     omega
  ·rw[if_neg iw]at aO
   obtain⟨bC,bA,⟨xs,cO,lH⟩,fC⟩:=r.tok t i aO
   refine⟨by omega,bA,⟨xs,by rw[if_neg iw]; exact zp cO fun b hb=>bL b (cO.lt b hb).2,fun rows ag=>⟨aS.aJ (b0.bF r J aa au bn bL af) _ _ (lH rows ag).1,(lH rows ag).2⟩⟩,fun b hb=> ?_⟩
   rw[if_neg iw]at hb
   obtain⟨g1,g2⟩:=fC b hb
   refine⟨g1,fun dx da gj gu=> ?_⟩
   by_cases AX:dx=m.T
   ·rw[if_pos AX]at gu
    have:=af b gu
    have:=(cO.lt b hb).2
    omega
   ·rw[if_neg AX]at gj gu
    exact g2 dx da gj gu
def Mem.jS (m:Mem) (w':World) (b:Nat) (T:TypeId) (cs:List I):Mem:={m with w:=w',H:=m.H.ch b T cs}
theorem b0.jS {m:Mem}(r:b5 m){w':World}{b:Nat}{T tL:TypeId}{cs jX:List I}(hb:m.H.aU b=some (tL,jX)) (J:w'.os=m.w.os) (aa:w'.tape=m.w.tape) (au:w'.output=m.w.output) (bn:w'.heap.size=m.w.heap.size) (bL: ∀k,k≠b→w'.heap[k]? =m.w.heap[k]?):b0 m (m.jS w' b T cs) where
 os:=J
 tape:=aa
 output:=au
 size:=by simp [Mem.jS,bn]
 T:=Nat.le_refl _
 block:=fun k aC h ij=>by
  have dw:k≠b:=fun e=>by subst e; rw[h]at hb; cases hb
  exact⟨bL k dw,by simp only[Mem.jS,aA.ch]; rw[if_neg dw]; exact h,ij⟩
 cell:=fun k o ap=>by
  have dw:k≠b:=fun e=>by subst e; have:=ap.aU; rw[this]at hb; cases hb
  exact⟨⟨by rw[show (m.jS w' b T cs).w=w' from rfl,bn]; exact ap.lt,by simp only[Mem.jS,aA.ch]; rw[if_neg dw]; exact ap.aU,ap.tok⟩,World.cell?_of_block (a:=⟨k,o,none⟩) (bL k dw)⟩
 tok:=fun t da _ h=>⟨da,h,Nat.le_refl _,rfl,fun _=>rfl⟩
theorem b5.jS {m:Mem}(r:b5 m){w':World}{b:Nat}{T tL:TypeId}{cs jX:List I}{l:List Value}(hb:m.H.aU b=some (tL,jX)) (J:w'.os=m.w.os) (aa:w'.tape=m.w.tape) (au:w'.output=m.w.output) (bn:w'.heap.size=m.w.heap.size) (bL: ∀k,k≠b→w'.heap[k]? =m.w.heap[k]?)
  (cq:w'.heap[b]? =some (.cells ⟨l⟩ T (0,0))) (aH:aS m cs l) (aq: ∀v∈l,v.oneCell'=true):b5 (m.jS w' b T cs) where
 kH:=(pt.aJ (b0.jS r hb J aa au bn bL) r.kH r.kI).1
 kI:=(pt.aJ (b0.jS r hb J aa au bn bL) r.kH r.kI).2
 aU:=fun k cQ c3 aC=>by
  simp only[Mem.jS,aA.ch]at aC
  by_cases e:k=b
  ·rw[if_pos e]at aC
   simp only[Option.some.injEq,Prod.mk.injEq]at aC
   obtain⟨rfl,rfl⟩:=aC
   subst e
   exact⟨l,cq,aS.aJ (b0.jS r hb J aa au bn bL) _ l aH,aq⟩
  ·rw[if_neg e]at aC
   obtain⟨b8,ar,ax,cw⟩:=r.aU k cQ c3 aC
   exact⟨b8,(bL k e).trans ar,aS.aJ (b0.jS r hb J aa au bn bL) _ b8 ax,cw⟩
 tok:=fun t i aO=>by
  obtain⟨bC,bA,⟨xs,cO,lH⟩,fC⟩:=r.tok t i aO
  have dw: ∀k,(m.L t).ownBlock=some k→k≠b:=fun k aC e=>by subst e; have:=(fC k aC).1; rw[this]at hb; cases hb
  refine⟨bC,bA,⟨xs,zp cO fun k aC=>bL k (dw k aC),fun rows ag=>⟨aS.aJ (b0.jS r hb J aa au bn bL) _ _ (lH rows ag).1,(lH rows ag).2⟩⟩,fun k aC=> ?_⟩
  obtain⟨g1,g2⟩:=fC k aC
  exact⟨by simp only[Mem.jS,aA.ch]; rw[if_neg (dw k aC)]; exact g1,g2⟩
def Mem.gt (m:Mem) (w':World) (t:Nat) (v:Value) (o:b2):Mem:={m with w:=w',H:=m.H.cA t o,L:=fun x=>if x=t then v else m.L x}
structure Grows0 (m:Mem) (w':World) (t:Nat) (i:b2) (v:Value) (o:b2):Prop where
 os:w'.os=m.w.os
 tape:w'.tape=m.w.tape
 output:w'.output=m.w.output
 size:m.w.heap.size≤w'.heap.size
 block: ∀k,k<m.w.heap.size→(m.L t).ownBlock≠some k→w'.heap[k]? =m.w.heap[k]?
 cell: ∀k c,(m.L t).ownBlock=some k→c<i.n*i.size→w'.cell? ⟨k,c,none⟩=m.w.cell? ⟨k,c,none⟩
 own: ∀k,v.ownBlock=some k→(m.L t).ownBlock=some k∨m.w.heap.size≤k
 n:i.n≤o.n
 oB:o.size=i.size
 ty:o.ty=i.ty
 bg:i.bg≤o.bg
 same:o.bg=i.bg→v=m.L t
structure qg (m:Mem) (w':World) (t:Nat) (i:b2) (v:Value) (o:b2):Prop extends Grows0 m w' t i v o where
 row: ∃xs,w'.ownsRow 0 o.ty o.size v o.len xs∧∀rows,o.n8=some rows→aS (m.gt w' t v o) rows.flatten xs∧(∀r∈rows,r.length=o.size)∧∀v∈xs,v.oneCell'=true
theorem b0.gt {m:Mem}(r:b5 m){w':World}{t:Nat}{i:b2}{v:Value}{o:b2}(ai:m.H.tok t=some i) (g:Grows0 m w' t i v o):b0 m (m.gt w' t v o) where
 os:=g.os
 tape:=g.tape
 output:=g.output
 size:=g.size
 T:=Nat.le_refl _
 block:=fun b hb h ij=>⟨g.block b hb (ij t i ai),h,fun dx da gj e=>by
  simp only[Mem.gt,aA.cA]at gj e
  by_cases iw:dx=t
  ·rw[if_pos iw]at e
   rcases g.own b e with e|e
   ·exact ij t i ai e
   ·omega
  ·rw[if_neg iw]at e gj
   exact ij dx da gj e⟩
 cell:=fun b c ap=>by
  refine⟨⟨Nat.lt_of_lt_of_le ap.lt g.size,ap.aU,fun dx da gj e=> ?_⟩,?_⟩
  ·simp only[Mem.gt,aA.cA]at gj e
   by_cases iw:dx=t
   ·rw[if_pos iw]at e gj
    simp only[Option.some.injEq]at gj
    subst gj
    rcases g.own b e with e|e
    ·have:=ap.tok t i ai e
     rw[g.oB]
     exact Nat.lt_of_lt_of_le this (Nat.mul_le_mul_right _ g.n)
    ·have:=ap.lt
     omega
   ·rw[if_neg iw]at e gj
    exact ap.tok dx da gj e
  ·by_cases e:(m.L t).ownBlock=some b
   ·exact g.cell b c e (ap.tok t i ai e)
   ·exact World.cell?_of_block (a:=⟨b,c,none⟩) (g.block b ap.lt e)
 tok:=fun dx da gj h=>by
  simp only[Mem.gt,aA.cA]at h ⊢
  by_cases iw:dx=t
  ·rw[if_pos iw]at h
   simp only[Option.some.injEq]at h
   subst h
   subst iw
   exact⟨i,ai,g.bg,g.oB,fun e=>by rw[if_pos rfl]; exact g.same e⟩
  ·rw[if_neg iw]at h
   exact⟨da,h,Nat.le_refl _,rfl,fun _=>by rw[if_neg iw]⟩
theorem b5.gt {m:Mem}(r:b5 m){w':World}{t:Nat}{i:b2}{v:Value}{o:b2}(ai:m.H.tok t=some i) (g:qg m w' t i v o):b5 (m.gt w' t v o) where
 kH:=(pt.aJ (b0.gt r ai g.toGrows0) r.kH r.kI).1
 kI:=(pt.aJ (b0.gt r ai g.toGrows0) r.kH r.kI).2
 aU:=fun b T cs hb=>by
  obtain⟨l,ar,ax,cw⟩:=r.aU b T cs hb
  refine⟨l,(g.block b (rp r hb) fun e=> ?_).trans ar,aS.aJ (b0.gt r ai g.toGrows0) cs l ax,cw⟩
  have:=((r.tok t i ai).2.2.2 b e).1
  have gu:m.H.aU b=some (T,cs):=hb
  rw[this]at gu
  cases gu
 tok:=fun dx da gj=>by
  have aC:=r.tok t i ai
  simp only[Mem.gt,aA.cA]at gj ⊢
  by_cases iw:dx=t
  ·rw[if_pos iw]at gj
   simp only[Option.some.injEq]at gj
   subst gj
   subst iw
   refine⟨aC.1,by rw[g.oB]; exact aC.2.1,by rw[if_pos rfl]; exact g.row,fun b hb=> ?_⟩
   rw[if_pos rfl]at hb
   have xd:=g.own b hb
   refine⟨?_,fun t2 i2 rZ hP=> ?_⟩
   ·rcases xd with e|e
    ·exact (aC.2.2.2 b e).1
    ·cases ab:m.H.aU b with
     |none=>rfl
     |some x=>have:=rp r (T:=x.1) (cs:=x.2) ab; omega
   ·by_cases ax:t2=dx
    ·exact ax
    ·rw[if_neg ax]at rZ hP
     rcases xd with e|e
     ·exact (aC.2.2.2 b e).2 t2 i2 rZ hP
     ·have:=uR r rZ hP
      omega
  ·rw[if_neg iw]at gj
   obtain⟨bC,bA,⟨xs,cO,lH⟩,fC⟩:=r.tok dx da gj
   have dw: ∀b,(m.L dx).ownBlock=some b→(m.L t).ownBlock≠some b:=fun b hb e=>iw ((aC.2.2.2 b e).2 dx da gj hb)
   refine⟨bC,bA,⟨xs,by rw[if_neg iw]; exact zp cO fun b hb=>g.block b (cO.lt b hb).2 (dw b hb),fun rows ag=>⟨aS.aJ (b0.gt r ai g.toGrows0) _ _ (lH rows ag).1,(lH rows ag).2⟩⟩,fun b hb=> ?_⟩
   rw[if_neg iw]at hb
   obtain⟨g1,g2⟩:=fC b hb
   refine⟨g1,fun t2 i2 rZ hP=> ?_⟩
   by_cases ax:t2=t
   ·rw[if_pos ax]at hP
    rcases g.own b hP with e|e
    ·exact absurd e (dw b hb)
    ·have:=(cO.lt b hb).2
     omega
   ·rw[if_neg ax]at rZ hP
    exact g2 t2 i2 rZ hP
structure HSub (H aF:aA):Prop where
 aU: ∀b x,H.aU b=some x→aF.aU b=some x
 tok: ∀t x,H.tok t=some x→aF.tok t=some x
theorem HSub.refl (H:aA):HSub H H:=⟨fun _ _ h=>h,fun _ _ h=>h⟩
theorem HSub.ch {H aF:aA}{b:Nat}{T:TypeId}{cs:List I}(h:HSub H aF) (hb:H.aU b=none):HSub H (aF.ch b T cs):=
 ⟨fun x y e=>by simp only[aA.ch]; rw[if_neg (by intro bh; subst bh; rw[hb]at e; cases e)]; exact h.aU x y e,fun x y e=>h.tok x y e⟩
theorem HSub.cA {H aF:aA}{t:Nat}{o:b2}(h:HSub H aF) (hb:H.tok t=none):HSub H (aF.cA t o):=
 ⟨fun x y e=>h.aU x y e,fun x y e=>by simp only[aA.cA]; rw[if_neg (by intro bh; subst bh; rw[hb]at e; cases e)]; exact h.tok x y e⟩
theorem HSub.vK {H aF:aA}(h:HSub H aF){b:Nat}(hb:aF.aU b=none):H.aU b=none:=by
 cases e:H.aU b with
 |none=>rfl
 |some x=>rw[h.aU b x e]at hb; cases hb
theorem HSub.M1 {H aF:aA}(h:HSub H aF){b:Nat}(hb:aF.tok b=none):H.tok b=none:=by
 cases e:H.tok b with
 |none=>rfl
 |some x=>rw[h.tok b x e]at hb; cases hb
section
variable {w:World}{H aF:aA}{L:Nat→Value}{T:Nat}
theorem lR.forget (bh:HSub H aF){b o:Nat}(h:lR ⟨w,aF,L,T⟩ b o):lR ⟨w,H,L,T⟩ b o:=
 ⟨h.lt,bh.vK h.aU,fun t i ai hb=>h.tok t i (bh.tok t i ai) hb⟩
mutual
theorem aR.forget (bh:HSub H aF): ∀(a:I) (v:Value),aR ⟨w,aF,L,T⟩ a v→aR ⟨w,H,L,T⟩ a v
 | .ew,_,_=>by simp only[aR]
 | .bool _,_,h=>by simp only[aR]at*; exact h
 | .int _ _,_,h=>by simp only[aR]at*; exact h
 | .str _,_,h=>by simp only[aR]at*; exact h
 | .dQ _,_,h=>by simp only[aR]at*; exact h
 | .ptr _ _,_,h=>by simp only[aR]at*; exact h
 | .agg cs,_,h=>by simp only[aR]at*; obtain⟨l,ar,ax⟩:=h; exact⟨l,ar,aS.forget bh cs l ax⟩
 | .di cs,_,h=>by simp only[aR]at*; obtain⟨l,ar,ax⟩:=h; exact⟨l,ar,aS.forget bh cs l ax⟩
 | .ay size rows,_,h=>by
  simp only[aR]at*
  obtain⟨a,len,cap,J,aa,au,bn⟩:=h
  exact⟨a,len,cap,J,aa,au,bn.imp id fun⟨b,o,g1,g2⟩=>⟨b,o,g1,dE.forget bh size rows b o g2⟩⟩
 | .own t size rows,_,h=>by
  simp only[aR]at*
  obtain⟨⟨a,len,cap,J,aa,au,bn⟩,bL,cq⟩:=h
  exact⟨⟨a,len,cap,J,aa,au,bn.imp id fun⟨b,o,g1,g2⟩=>⟨b,o,g1,dE.forget bh size rows b o g2⟩⟩,bL,fun i ai=>cq i (bh.tok t i ai)⟩
 | .ez t bg,_,h=>by
  simp only[aR]at*
  obtain⟨aw,bL,cq⟩:=h
  exact⟨aw,bL,fun i ai=>cq i (bh.tok t i ai)⟩
 | .mp t bg k,_,h=>by
  simp only[aR]at*
  obtain⟨aw,bL,cq⟩:=h
  exact⟨aw,bL,fun i ai=>cq i (bh.tok t i ai)⟩
 | .dO row off,_,h=>by
  simp only[aR]at*
  obtain⟨b,o,J,aa⟩:=h
  exact⟨b,o,J,ff.forget bh row b o aa⟩
 | .fn f cs,_,h=>by simp only[aR]at*; obtain⟨l,ar,ax⟩:=h; exact⟨l,ar,aS.forget bh cs l ax⟩
 | .gW t a,_,h=>by simp only[aR]at*; obtain⟨x,ar,ax⟩:=h; exact⟨x,ar,aR.forget bh a x ax⟩
theorem aS.forget (bh:HSub H aF): ∀(az:List I) (l:List Value),aS ⟨w,aF,L,T⟩ az l→aS ⟨w,H,L,T⟩ az l
 |[],_,h=>by simp only[aS]at*; exact h
 |a::az,_,h=>by simp only[aS]at*; obtain⟨v,ay,J,aa,au⟩:=h; exact⟨v,ay,J,aR.forget bh a v aa,aS.forget bh az ay au⟩
theorem ff.forget (bh:HSub H aF): ∀(az:List I) (b o:Nat),ff ⟨w,aF,L,T⟩ az b o→ff ⟨w,H,L,T⟩ az b o
 |[],_,_,_=>by simp only[ff]
 |a::az,b,o,h=>by
  simp only[ff]at*
  obtain⟨⟨v,J,uh,aa,au⟩,bn⟩:=h
  exact⟨⟨v,J,uh,lR.forget bh aa,aR.forget bh a v au⟩,ff.forget bh az b (o+1) bn⟩
theorem dE.forget (bh:HSub H aF) (size:Nat): ∀(aL:List (List I)) (b o:Nat),dE ⟨w,aF,L,T⟩ size aL b o→dE ⟨w,H,L,T⟩ size aL b o
 |[],_,_,_=>by simp only[dE]
 |r::aL,b,o,h=>by
  simp only[dE]at*
  exact⟨h.1,ff.forget bh r b o h.2.1,dE.forget bh size aL b (o+size) h.2.2⟩
end
theorem b5.forget (bh:HSub H aF) (h:b5 ⟨w,aF,L,T⟩):b5 ⟨w,H,L,T⟩ where
 kH:=h.kH
 kI:=fun p hp=>⟨bh.vK (h.kI p hp).1,fun t i ai=>(h.kI p hp).2 t i (bh.tok t i ai)⟩
 aU:=fun b Ta cs hb=>by
  obtain⟨l,ar,ax,cw⟩:=h.aU b Ta cs (bh.aU b _ hb)
  exact⟨l,ar,aS.forget bh _ _ ax,cw⟩
 tok:=fun t i ai=>by
  obtain⟨ar,ax,cw,fq⟩:=h.tok t i (bh.tok t i ai)
  obtain⟨xs,SK,rc⟩:=cw
  refine⟨ar,ax,⟨xs,SK,fun rows ag=>⟨aS.forget bh _ _ (rc rows ag).1,(rc rows ag).2⟩⟩,fun b hb=> ?_⟩
  obtain⟨f1,f2⟩:=fq b hb
  exact⟨bh.vK f1,fun dx da gB=>f2 dx da (bh.tok dx da gB)⟩
theorem b0.forget (bh:HSub H aF){m:Mem}(h:b0 m ⟨w,aF,L,T⟩):b0 m ⟨w,H,L,T⟩ where
 os:=h.os
 tape:=h.tape
 output:=h.output
 size:=h.size
 T:=h.T
 block:=fun b J aa au=>by
  obtain⟨ar,ax,cw⟩:=h.block b J aa au
  exact⟨ar,bh.vK ax,fun t i ai=>cw t i (bh.tok t i ai)⟩
 cell:=fun b o ap=>by
  obtain⟨ar,ax⟩:=h.cell b o ap
  exact⟨lR.forget bh ar,ax⟩
 tok:=fun t da aO ai=>h.tok t da aO (bh.tok t da ai)
end
theorem HSub.oP (H:aA) (b:Nat):HSub (H.oP b) H:=⟨fun x y h=>by simp only[aA.oP]at h; by_cases e:x=b<;>simp [e]at h; exact h,fun _ _ h=>h⟩
def vb:I→Value→Bool
 | .bool b,.bool c=>b==c
 | .int k n,.int j c=>decide (k=j)&&decide (n=c)
 | .str s,.string b=>decide (b.data.toList=s)&&Nat.ble s.length maxLen
 | .dQ (.slice none 0 0),.slice none 0 0=>true
 | .dQ (.pointer none),.pointer none=>true
 | .dQ .nilFunc,.nilFunc=>true
 | .dQ .nilIface,.nilIface=>true
 | .dQ (.map none),.map none=>true
 | .fn f [],.func (.func g) ⟨[]⟩ ⟨[]⟩=>f==g&&Nat.blt f hW
 | _,_=>false
def wJ:List I→List Value→Bool
 |[],[]=>true
 |a::az,v::ay=>vb a v&&wJ az ay
 | _,_=>false
def AB:List I→Value→Bool
 |l,.agg ⟨ay⟩=>wJ l ay
 |[a],v=>vb a v
 | _,_=>false
def cZ:Operand→aK→Bool
 | .tmp t,.t n=>t==n
 | .const v,.c a=>vb a v
 | .func f,.c (.fn g [])=>f==g&&Nat.blt f hW
 | _,_=>false
def gh:List Operand→List aK→Bool
 |[],[]=>true
 |x::xs,y::eH=>cZ x y&&gh xs eH
 | _,_=>false
def pE:Option Operand→Option aK→Bool
 |none,none=>true
 |some x,some y=>cZ x y
 | _,_=>false
def ny (P:Program) (t:TypeId):Option Bool:=
 match P.underlying t with
 |some (.struct _)|some (.array ..)=>some true
 |some _=>some false
 |none=>none
def jf (P:Program) (t:TypeId):Option Nat:=(P.info? t).map (·.size)
def o3 (P:Program) (t:TypeId) (agg:Bool) (n:Nat):Bool:=
 decide (ny P t=some agg)&&decide (jf P t=some n)&&(agg||n==1)&& !(n==0)
def jR (P:Program) (t:TypeId):Option TypeId:=
 match P.underlying t with
 |some (.slice e)=>some e
 | _=>none
def tC (P:Program) (t:TypeId) (zero:List I):Bool:=
 match (P.info? t).bind (·.zero) with
 |some z=>AB zero z
 |none=>false
def wE (P:Program) (fg:Array Field):List (Nat×Operand)→List (Nat×Nat×aK)→Bool
 |[],[]=>true
 |(i,x)::ps,(off,size,y)::im=>(match fg[i]? with
  |some f=>decide (f.offset=off)&&decide (jf P f.type=some size)
  |none=>false)&&cZ x y&&wE P fg ps im
 | _,_=>false
def wF (size:Nat):List (Nat×Operand)→List (Nat×Nat×aK)→Bool
 |[],[]=>true
 |(i,x)::ps,(off,oB,y)::im=>decide (off=i*size)&&decide (oB=size)&&cZ x y&&wF size ps im
 | _,_=>false
def sL:List (Nat×Operand)→List (Nat×aK)→Bool
 |[],[]=>true
 |(i,x)::ps,(j,y)::im=>decide (i=j)&&cZ x y&&sL ps im
 | _,_=>false
def xp:Nat→List (Nat×aK)→Bool
 | _,[]=>true
 |k,(i,_)::ps=>decide (i=k)&&xp (k+1) ps
def wT (P:Program) (g:TypeId→Option (List lQ)):Nat→List Field→Option (List lQ)
 | _,[]=>some []
 |off,f::fg=>match g f.type with
  |some cu=>if f.offset=off∧f.name≠ "_" ∧jf P f.type=some cu.length∧cu≠[] then (wT P g (off+cu.length) fg).map (cu++ ·) else none
  |none=>none
def rH (P:Program):Nat→TypeId→Option (List lQ)
 |0,_=>none
 |d+1,t=>match P.underlying t with
  |some .bool=>some [.b]
  |some (.int k)=>some [.i k]
  |some .string=>some [.s]
  |some (.struct fg)=>if P.stoodInHeld t then none else wT P (rH P d) 0 fg.toList
  | _=>none
def aR4 (P:Program) (t:TypeId):Bool:=match P.underlying t with|some .bool=>true| _=>false
def br (P:Program) (o:Op) (e:bj):Bool:=
 match o,e with
 | .move x,.hs y=>cZ x y
 | .assign x,.hs y=>cZ x y
 | .pick c a b,.pick cB cp bX=>cZ c cB&&cZ a cp&&cZ b bX
 | .nilCheck x,.cE y=>cZ x y
 | .box T x,.box cQ y=>decide (T=cQ)&&cZ x y
 | .alloc T,.alloc cQ zero=>decide (T=cQ)&&tC P T zero
 | .build t parts,.build zero ps=>tC P t zero&&(match P.underlying t with
  |some (.struct fg)=>wE P fg parts.toList ps&&(fg.toList.mapM (fun f=>(P.info? f.type).map fun i=>(f.offset,i.size))).isSome
  |some (.array _ e)=>(match jf P e with|some s=>wF s parts.toList ps|none=>false)
  | _=>false)
 | .buildSlice t n parts,.dA T size gX zero ps=>decide (n=gX)&&decide (jR P t=some T)&&decide (jf P T=some size)&&tC P T zero&&decide (zero.length=size)&&Nat.ble (n*size) 65536&&sL parts.toList ps&&xp 0 ps&&decide (ps.length=n)&& !(size==0)
 | .buildSlice t n parts,.ml T size gX zero ps=>decide (n=gX)&&decide (jR P t=some T)&&decide (jf P T=some size)&&tC P T zero&&decide (zero.length=size)&&Nat.ble (n*size) 65536&&sL parts.toList ps&&xp 0 ps&&decide (ps.length=n)&& !(size==0)
 | .buildSlice t n parts,.mj T size gX zero ps=>decide (n=gX)&&decide (jR P t=some T)&&decide (jf P T=some size)&&tC P T zero&&decide (zero.length=size)&&Nat.ble (n*size) 65536&&sL parts.toList ps&&xp 0 ps&&decide (ps.length=n)&& !(size==0)
 | .load t x,.load agg n y=>o3 P t agg n&&cZ x y
 | .load t x,.j3 agg n y=>o3 P t agg n&&cZ x y
 | .load t x,.hr _ agg n y=>o3 P t agg n&&cZ x y
 | .load t x,.nd agg n y=>o3 P t agg n&&cZ x y
 | .store t a v,.store n cp bT=>decide (jf P t=some n)&&cZ a cp&&cZ v bT
 | .store t a v,.fh _ _ n cp bT=>decide (jf P t=some n)&&cZ a cp&&cZ v bT
 | .fieldAddr s x f,.nH off y=>cZ x y&&(match P.underlying s with
  |some (.struct fg)=>(match fg[f]? with|some g=>decide (g.offset=off)&&(match jf P g.type with|some n=> !(n==0)|none=>false)|none=>false)
  | _=>false)
 | .field s x f,.field agg off n y=>cZ x y&&(match P.underlying s with
  |some (.struct fg)=>(match fg[f]? with|some g=>decide (g.offset=off)&&o3 P g.type agg n|none=>false)
  | _=>false)
 | .fieldAddr s x f,.jk off y=>cZ x y&&(match P.underlying s with
  |some (.struct fg)=>(match fg[f]? with|some g=>decide (g.offset=off)&&(match jf P g.type with|some n=> !(n==0)|none=>false)|none=>false)
  | _=>false)
 | .indexAddr t x i,.fW size y j=>cZ x y&&cZ i j&&(match jR P t with|some e=>decide (jf P e=some size)|none=>false)
 | .indexAddr t x i,.j2 size y j=>cZ x y&&cZ i j&&(match jR P t with|some e=>decide (jf P e=some size)|none=>false)
 | .indexAddr t x i,.o1 len size y j=>cZ x y&&cZ i j&&(match P.underlying t with|some (.array n e)=>decide (n=len)&&decide (jf P e=some size)| _=>false)
 | .index t x i,.jn agg len size y j=>cZ x y&&cZ i j&&(match P.underlying t with|some (.array n e)=>decide (n=len)&&o3 P e agg size| _=>false)
 | .index t x i,.eJ y j=>cZ x y&&cZ i j&&(match P.underlying t with|some .string=>true| _=>false)
 | .binOp op t x y _,.bin ET cY gz=>decide (op=ET)&&cZ x cY&&cZ y gz
 | .binOp op t x y _,.pA ET cY gz=>decide (op=ET)&&cZ x cY&&cZ y gz&&(match P.underlying t with|some .bool=>true| _=>false)
 | .binOp op t x y _,.oS neg T cu cY gz=>decide (op=(if neg then .neq else .eql))&&decide (t=T)&&cZ x cY&&cZ y gz&&decide (rH P 8 t=some cu)&& !(P.eqGuardType P.depth t)&&(match P.underlying t with|some (.struct _)=>true| _=>false)
 | .binOp op t x y _,.nQ neg cY=>decide (op=(if neg then .neq else .eql))&&cZ x cY&&(match y with| .const (.slice none 0 0)=>true| _=>false)&&(match jR P t with|some _=>true|none=>false)&& !(P.eqGuardType P.depth t)
 | .binOp op t x y _,.qZ neg cY=>decide (op=(if neg then .neq else .eql))&&cZ x cY&&(match y with| .const (.pointer none)=>true| _=>false)&&(match P.underlying t with|some (.pointer _)=>true| _=>false)&& !P.eqGuardType P.depth t
 | .makeSlice t l c,.l4 T size bytes zero x=>cZ l x&&cZ c x&&decide (jR P t=some T)&&decide (jf P T=some size)&&tC P T zero&&(match P.info? T with|some i=>decide (i.bytes=bytes)|none=>false)
 | .unOp .not _ x,.not y=>cZ x y
 | .unOp .neg _ x,.neg y=>cZ x y
 | .convert s d x,.conv k y=>cZ x y&&(match P.underlying s with|some (.int _)=>true| _=>false)&&(match P.underlying d with|some (.int j)=>decide (j=k)| _=>false)
 | .call {callee:= .builtin .len,args,argTypes},.len y=>(match args.toList with|[x]=>cZ x y| _=>false)&&(match argTypes.toList with|[t]=>(match P.underlying t with|some (.slice _)=>true| _=>false)| _=>false)
 | .call {callee:= .builtin .len,args,argTypes},.jo y=>(match args.toList with|[x]=>cZ x y| _=>false)&&(match argTypes.toList with|[t]=>(match P.underlying t with|some (.slice _)=>true| _=>false)| _=>false)
 | .call {callee:= .builtin .len,args,argTypes},.fQ y=>(match args.toList with|[x]=>cZ x y| _=>false)&&(match argTypes.toList with|[t]=>(match P.underlying t with|some .string=>true| _=>false)| _=>false)
 | .call {callee:= .builtin .len,args,argTypes},.pU n=>(match args.toList with|[_]=>true| _=>false)&&(match argTypes.toList with|[t]=>(match P.underlying t with|some (.array m _)=>decide (m=n)|some (.pointer a)=>(match P.underlying a with|some (.array m _)=>decide (m=n)| _=>false)| _=>false)| _=>false)
 | .call {callee:= .builtin .min,args,..},.nR false eH=>gh args.toList eH
 | .call {callee:= .builtin .max,args,..},.nR true eH=>gh args.toList eH
 | .call {callee:= .builtin .append,args,argTypes},.append T size bytes x y=>gh args.toList [x,y]&&(match argTypes.toList with
  |[t,u]=>decide (jR P t=some T)&&(decide (jR P u=some T)||(match P.underlying u,P.underlying T with|some .string,some (.int .u8)=>true| _,_=>false))&&(match P.info? T with|some i=>decide (i.size=size)&&decide (i.bytes=bytes)&&(match i.zero with|some z=>decide (z.cells.size=size)|none=>false)|none=>false)
  | _=>false)
 | .call {callee:= .builtin .append,args,argTypes},.nz T size bytes x y=>gh args.toList [x,y]&&(match argTypes.toList with
  |[t,u]=>decide (jR P t=some T)&&(decide (jR P u=some T)||(match P.underlying u,P.underlying T with|some .string,some (.int .u8)=>true| _,_=>false))&&(match P.info? T with|some i=>decide (i.size=size)&&decide (i.bytes=bytes)&&(match i.zero with|some z=>decide (z.cells.size=size)|none=>false)|none=>false)
  | _=>false)
 | .slice t x cz ai none,.gE y mz gB=>cZ x y&&pE cz mz&&pE ai gB&&(match P.underlying t with|some .string=>true| _=>false)
 | .slice t x cz ai lI,.h9 size y mz gB ai3=>cZ x y&&pE cz mz&&pE ai gB&&pE lI ai3&&(match jR P t with|some e=>decide (jf P e=some size)|none=>false)
 | .slice t x cz ai none,.nW size y mz gB=>cZ x y&&pE cz mz&&pE ai gB&&(match jR P t with|some e=>decide (jf P e=some size)|none=>false)
 | .extract x i,.extract j y=>cZ x y&&decide (i=j)
 | .makeFunc (.func f) first gr,.ng g eH=>decide (f=g)&&first.isEmpty&&gh gr.toList eH&&Nat.blt g hW
 | .makeFunc (.func f) first gr,.o4 g eH=>decide (f=g)&&gr.isEmpty&&gh first.toList eH
 | .convert s d x,.k8 int y=>cZ x y&&(match P.underlying d with|some .string=>true| _=>false)&&(match P.underlying s with|some (.int _)=>int|some (.slice e)=>(match P.underlying e with|some (.int .u8)=> !int| _=>false)| _=>false)
 | .convert s d x,.jC T y=>cZ x y&&(match P.underlying s with|some .string=>true| _=>false)&&decide (jR P d=some T)&&(match P.underlying T with|some (.int .u8)=>true| _=>false)
 | .slice t x none none none,.xP len size y=>cZ x y&&(match P.underlying t with|some (.array n e)=>decide (n=len)&&decide (jf P e=some size)| _=>false)
 | .makeInterface t x,.o5 T y=>decide (t=T)&&cZ x y&&(match P.underlying t with|some (.interface _)=>false|some _=>true|none=>false)
 | .call {callee:= .value f,args,..},.call g eH=>(match f with| .func ju=>decide (ju=g)| _=>false)&&gh args.toList eH&&c9 P g
 | .call {callee:= .value f,args,..},.hM _ g eH=>(match f with| .func ju=>decide (ju=g)| _=>false)&&gh args.toList eH&&c9 P g
 | .call {callee:= .value f,args,..},.fw y eH=>cZ f y&&gh args.toList eH
 | .call {callee:= .value f,args,..},.hz g eH=>(match f with| .func ju=>decide (ju=g)| _=>false)&&gh args.toList eH&&c9 P g
 | .call {callee:= .value f,args,..},.qY T size g eH=>(match f with| .func ju=>decide (ju=g)| _=>false)&&gh args.toList eH&&c9 P g
 | .call {callee:= .value f,args,..},.xB T size g eH _=>(match f with| .func ju=>decide (ju=g)| _=>false)&&gh args.toList eH&&c9 P g
 | .call {callee:= .value f,args,..},.jq y eH=>cZ f y&&gh args.toList eH
 | .call {callee:= .value f,args,..},.vS g eH _=>(match f with| .func ju=>decide (ju=g)| _=>false)&&gh args.toList eH&&c9 P g
 | .call {callee:= .value f,args,..},.vT y eH _=>cZ f y&&gh args.toList eH
 | .panic x,.panic y=>cZ x y
 | _,_=>false
def Az (ops:Array Oper) (g:Option (Nat×Bool)) (h:Option (Nat×Bool)):Bool:=
 match g,h with
 |none,none=>true
 |some (j,w),some (t,w')=>decide (w=w')&&decide ((ops[j]?).bind (·.dst)=some t)
 | _,_=>false
def pD (P:Program) (n:Nat) (ops:Array Oper) (o:Oper) (i:bP):Bool:=
 decide (o.dst=i.dst)&&(match i.dst with|some d=>Nat.blt d n|none=>true)&&(match i.guard with|some (t,_)=>Nat.blt t n|none=>true)&&Az ops o.guard i.guard&&br P o.op i.op
def lU (P:Program) (n:Nat) (ops:Array Oper):List Oper→List bP→Bool
 |[],[]=>true
 |o::os,i::is=>pD P n ops o i&&lU P n ops os is
 | _,_=>false
def aK.aJ3:aK→Option Nat
 | .t n=>some n
 | .c _=>none
def bj.cP:bj→List aK
 | .hs x| .cE x| .box _ x| .load _ _ x| .nd _ _ x| .nH _ x| .field _ _ _ x| .not x| .neg x| .conv _ x| .len x| .fQ x| .extract _ x| .o5 _ x| .panic x| .jo x| .j3 _ _ x| .qZ _ x| .l4 _ _ _ _ x| .nQ _ x| .jk _ x| .k8 _ x| .jC _ x| .xP _ _ x=>[x]
 | .pick a b c=>[a,b,c]
 | .alloc _ _| .pU _=>[]
 | .build _ ps=>ps.map (·.2.2)
 | .dA _ _ _ _ ps| .ml _ _ _ _ ps| .mj _ _ _ _ ps=>ps.map (·.2)
 | .store _ a v=>[a,v]
 | .hr e6 _ _ x=>[.t e6,x]
 | .fh e6 o _ a v=> .t e6::a::v::o.map .t
 | .fW _ x i| .o1 _ _ x i| .jn _ _ _ x i| .eJ x i| .bin _ x i| .pA _ x i| .oS _ _ _ x i| .append _ _ _ x i| .j2 _ x i| .nz _ _ _ x i=>[x,i]
 | .nR _ xs| .ng _ xs| .o4 _ xs| .call _ xs| .hz _ xs| .vS _ xs _| .qY _ _ _ xs| .xB _ _ _ xs _=>xs
 | .gE x l h| .nW _ x l h=>x::(l.toList++h.toList)
 | .h9 _ x l h m=>x::(l.toList++h.toList++m.toList)
 | .fw x xs| .jq x xs| .vT x xs _=>x::xs
 | .hM o _ xs=>xs++o.map .t
def bP.reads (i:bP):List Nat:=i.op.cP.filterMap aK.aJ3++(i.guard.map (·.1)).toList
def bj.dh:bj→Nat
 | .hs _| .nd .. | .pick .. | .cE _| .build .. | .nH .. | .field .. | .fW .. | .o1 .. | .jn .. | .eJ .. | .bin .. | .pA .. | .oS .. | .not _| .qZ .. | .neg _| .conv .. | .len _| .fQ _| .pU _| .nR .. | .gE .. | .h9 .. | .extract .. | .ng .. | .o4 .. | .k8 .. | .o5 .. =>0
 | .load .. | .hr .. | .box .. | .alloc .. | .jC .. | .dA .. | .ml .. | .hz .. | .jq .. | .vS .. | .vT .. | .mj .. | .l4 .. | .qY .. | .xB .. =>1
 | .append .. =>2
 | .store .. | .fh .. | .hM .. | .call .. | .fw .. | .panic _| .nW .. | .nz .. | .jo .. | .j2 .. | .j3 .. | .nQ .. | .jk .. | .xP .. =>3
def bj.live:bj→Bool
 | .store .. | .fh .. | .nW .. | .nz .. | .jo .. | .j2 .. | .j3 .. | .jk .. =>true
 | _=>false
def bj.quiet:bj→Bool
 | .load .. | .hr .. | .jo .. | .j2 .. | .j3 .. | .jk .. =>true
 |op=>op.dh==0
def bj.tt:bj→Bool
 | .jo .. | .j2 .. | .j3 .. | .jk .. =>true
 | _=>false
def bj.tQ:bj→Bool
 | .alloc .. | .fh .. =>true
 | _=>false
def bP.total (i:bP):Bool:=i.guard.isNone&&match i.op with
 | .hs _| .pU _| .ng .. | .o5 .. =>true
 | _=>false
def bP.uN (i:bP):Option (Bool×Nat×List Nat):=match i.guard,i.op with
 |none,.fh e6 o _ _ _=>some (true,e6,o)
 |none,.hr e6 _ _ _=>some (false,e6,[])
 | _,_=>none
def zG (i j:bP):Bool:=match i.uN,j.uN with
 |some (true,_,o),some (true,b,_)=>o.contains b
 |some (false,m,_),some (true,_,o)=>o.contains m
 | _,_=>false
def bj.still:bj→Bool
 | .dA .. | .jC .. | .hz .. | .jq .. | .vS .. | .vT .. =>true
 |op=>op.dh==0
def bP.n7 (i:bP):Option (Option (List Nat)×Option Nat):=match i.guard,i.op with
 |none,.hM o _ _=>some (some o,none)
 |none,.hr e6 _ _ _=>some (none,some e6)
 |none,op=>if op.still then some (none,none) else none
 |some _,_=>none
def tj (o:List Nat):Option (Option (List Nat)×Option Nat)→Bool
 |some (none,some e6)=>o.contains e6
 |some (none,none)=>true
 | _=>false
def yq (i j:bP):Bool:=match i.n7,j.n7 with
 |some (some o,_),x=>tj o x
 |x,some (some o,_)=>tj o x
 | _,_=>false
def indep (i j:bP):Bool:=
 (match i.dst with|some d=> !j.reads.contains d&& !(j.dst==some d)|none=>true)&&
 (match j.dst with|some d=> !i.reads.contains d|none=>true)&&
 (yq i j||i.op.dh==0||(i.op.quiet&&j.op.quiet)||(i.op.tt&&j.op.tQ)||(i.op.live&&j.op.dh==0)||zG i j||(i.op.dh==3&&j.total)||(i.op.dh≤2&&j.op.dh≤2&& !(i.op.dh==2&&j.op.dh==2)))
def Hg (ops:List Oper):List Nat:=
 ops.foldl (fun acc o=>acc++[o.after.foldl (fun s e=>if Region.binds .any e then s|||2^e.on|||acc.getD e.on 0 else s) 0]) []
def vO (ops:List Oper) (is:List bP):Bool:=
 let Td:=Hg ops
 (ops.zipIdx.all fun (o,i)=>o.after.all fun e=> !Region.binds .any e||Nat.blt e.on i)&&
 (is.zipIdx.all fun (y,j)=>is.zipIdx.all fun (x,i)=> !(Nat.blt i j)||(Td.getD j 0).testBit i||indep x y)
def kF (P:Program) (n:Nat):Code→bu→Bool
 | .skip,.skip=>true
 | .region _ ops draw,.region is Xd=>draw==Xd&&lU P n ops ops.toList is&&(!draw||vO ops.toList is)
 | .seq a b,.seq c d=>kF P n a c&&kF P n b d
 | .cond c a b,.cond cB cp bX=>cZ c cB&&kF P n a cp&&kF P n b bX
 | .block i a,.block j b=>i==j&&kF P n a b
 | .loop a,.loop b=>kF P n a b
 | .exit i,.exit j=>i==j
 | .ret,.ret=>true
 | .region _ ops false,.rv d f cap=>Nat.blt d n&&c9 P f&&match ops.toList with
  |[gQ,gv]=>gQ.dst==some d&&gQ.guard.isNone&&gv.dst==none&&gv.guard.isNone&&(match gQ.op with| .makeFunc (.func g) first gr=>decide (g=f)&&first.isEmpty&&gh gr.toList cap| _=>false)&&(match gv.op with| .defer {callee:= .value (.tmp t),args,..}=>t==d&&args.isEmpty| _=>false)
  | _=>false
 | _,_=>false
def lV (P:Program):List ResultVar→List bk→Bool
 |[],[]=>true
 | .tmp t::l,.t n::b8=>t==n&&lV P l b8
 | .cell t ty::l,.cell agg n dx::b8=>t==dx&&o3 P ty agg n&&lV P l b8
 | _,_=>false
def bY (P:Program) (fn:Func) (ai6:Nat) (e:bu) (aL:List bk):Bool:=
 Nat.ble ai6 fn.ntmps&&lV P fn.results.toList aL&&match fn.body with
 |some c=>kF P fn.ntmps c e
 |none=>false
end Go.bc
namespace Go.bc
open Go
theorem wC (s:List UInt8):(⟨⟨s⟩⟩:ByteArray).toList=s:=by
 rw[Lib.toList_data]
theorem HD (b:ByteArray):b=⟨⟨b.data.toList⟩⟩:=rfl
theorem TR (s t:List UInt8):(⟨⟨s⟩⟩:ByteArray)++⟨⟨t⟩⟩=⟨⟨s++t⟩⟩:=by
 rw[HD ((⟨⟨s⟩⟩:ByteArray)++⟨⟨t⟩⟩)]
 rw[Joins.data_append]
theorem HC (s:List UInt8) (l h:Nat):(⟨⟨s⟩⟩:ByteArray).extract l h=⟨⟨(s.take h).drop l⟩⟩:=by
 rw[HD (ByteArray.extract _ _ _)]
 congr 2
 rw[Lib.extract_data]
 simp only[List.drop_take]
theorem Dn {m:Mem}{a:I}{v:Value}(h:vb a v=true):aR m a v:=by
 unfold vb at h
 split at h<;>first
  |(simp only[aR]; done)
  |(simp only[aR]; simp at h; subst h; rfl)
  |(simp only[aR]; simp at h; obtain⟨rfl,rfl⟩:=h; rfl)
  |skip
 ·simp only[aR]
  simp only[Bool.and_eq_true,decide_eq_true_eq]at h
  obtain⟨rfl,aa⟩:=h
  exact⟨rfl,Nat.le_of_ble_eq_true aa⟩
 ·rename_i f g
  simp at h
  obtain⟨rfl,hb⟩:=h
  simp only[aR,aS]
  exact⟨[],(wU hb []).symm,rfl⟩
 ·cases h
theorem Ig {a:I}{v:Value}(h:vb a v=true):v.oneCell'=true:=by
 unfold vb at h
 split at h<;>first|rfl|cases h
theorem If {m:Mem}: ∀ {az:List I}{l:List Value},wJ az l=true→aS m az l∧∀v∈l,v.oneCell'=true
 |[],[],_=>⟨by simp only[aS],by simp⟩
 |[],_:: _,h=>by simp [wJ]at h
 | _:: _,[],h=>by simp [wJ]at h
 |a::az,v::l,h=>by
  simp only[wJ,Bool.and_eq_true]at h
  obtain⟨bC,bA⟩:=If (m:=m) h.2
  refine⟨by simp only[aS]; exact⟨v,l,rfl,Dn h.1,bC⟩,fun u hu=> ?_⟩
  rcases List.mem_cons.1 hu with rfl|hu
  ·exact Ig h.1
  ·exact bA u hu
theorem AC {m:Mem}{az:List I}{z:Value}(h:AB az z=true):aS m az z.cells.toList∧∀v∈z.cells.toList,v.oneCell'=true:=by
 unfold AB at h
 split at h
 ·exact If h
 ·rename_i a v dw
  have aq:=Ig h
  have ag:=Dn (m:=m) h
  have ah:Value.cells z= #[z]:=by
   cases z<;>first|rfl|(simp [Value.oneCell']at aq)
  rw[ah]
  refine⟨by simp only[aS]; exact⟨z,[],rfl,ag,rfl⟩,fun u hu=> ?_⟩
  simp at hu
  subst hu
  exact aq
 ·cases h
def dJ (m:Mem) (env:Env) (tmps:Array Value):Prop:=∀k,aR m (env.get k) (tmps.getD k undef)
theorem dl {m:Mem}{env:Env}{a:Act}{x:Operand}{y:aK}(he:dJ m env a.tmps) (h:cZ x y=true):aR m (y.aJ env) (a.eval x):=by
 unfold cZ at h
 split at h
 ·rename_i t n
  have e:t=n:=by simpa using h
  subst e
  exact he t
 ·exact Dn h
 ·rename_i f g
  have e:f=g∧f<hW:=by simpa using h
  obtain⟨rfl,hb⟩:=e
  simp only[aK.aJ,aR,aS,Act.eval]
  exact⟨[],(wU hb []).symm,rfl⟩
 ·cases h
theorem oO {m:Mem}{env:Env}{a:Act}(he:dJ m env a.tmps): ∀ {xs:List Operand}{eH:List aK},gh xs eH=true→aS m (eH.map (aK.aJ env)) (xs.map a.eval)
 |[],[],_=>by simp only[List.map_nil,aS]
 |[],_:: _,h=>by simp [gh]at h
 | _:: _,[],h=>by simp [gh]at h
 |x::xs,y::eH,h=>by
  simp only[gh,Bool.and_eq_true]at h
  simp only[List.map_cons,aS]
  exact⟨_,_,rfl,dl he h.1,oO he h.2⟩
theorem BQ {m:Mem}{a:I}{v:Value}(h:aR m a v) (aq:a.one=true):v.oneCell'=true:=by
 cases a<;>simp only[aR,I.one]at h aq<;>first
  |exact absurd aq Bool.false_ne_true
  |(obtain⟨rfl,_⟩:=h; rfl)
  |(subst h; first|rfl|exact aq)
  |exact h.1
  |(obtain⟨_,_,_,rfl,_⟩:=h; rfl)
  |(obtain⟨⟨_,_,_,rfl,_⟩,_⟩:=h; rfl)
  |(obtain⟨_,_,rfl,_⟩:=h; rfl)
  |(obtain⟨_,rfl,_⟩:=h; first|rfl|(unfold rI; split<;>rfl))
theorem HS {v:Value}(h:v.oneCell'=true):v.cells= #[v]:=by
 cases v<;>first|rfl|(simp [Value.oneCell']at h)
theorem Ay {m:Mem}{a:I}{v:Value}(h:aR m a v) (aq:a.cells.all I.one=true):aS m a.cells v.cells.toList∧∀u∈v.cells.toList,u.oneCell'=true:=by
 cases aP:a with
 |agg cs=>
  subst aP
  simp only[aR]at h
  obtain⟨l,rfl,aa⟩:=h
  refine⟨aa,fun u hu=> ?_⟩
  simp only[I.cells,List.all_eq_true]at aq
  obtain⟨i,ai⟩:=List.getElem?_of_mem hu
  have gB:i<l.length:=(List.getElem?_eq_some_iff.1 ai).1
  rw[aS.length aa]at gB
  obtain⟨bT,ar,ax⟩:=aS.get aa i cs[i] (List.getElem?_eq_getElem gB)
  have:bT=u:=by
   have Zf:l[i]? =some u:=ai
   rw[Zf]at ar
   simpa using ar.symm
  subst this
  exact BQ ax (aq _ (List.getElem_mem gB))
 | _=>
  subst aP
  simp only[I.cells,List.all_cons,List.all_nil,Bool.and_true]at aq ⊢
  have J:=BQ h aq
  rw[HS J]
  refine⟨by simp only[aS]; exact⟨v,[],rfl,h,rfl⟩,fun u hu=> ?_⟩
  simp at hu
  subst hu
  exact J
theorem jx {m:Mem}{k n v}(h:aR m (.int k n) v):v= .int k n:=by simpa only[aR] using h
theorem tn {m:Mem}{b v}(h:aR m (.bool b) v):v= .bool b:=by simpa only[aR] using h
theorem q2 {m:Mem}{s v}(h:aR m (.str s) v):v= .string ⟨⟨s⟩⟩∧s.length≤maxLen:=by simpa only[aR] using h
theorem uJ {m:Mem}{b o v}(h:aR m (.ptr b o) v):v= .pointer (some ⟨b,o,none⟩):=by simpa only[aR] using h
theorem uK {m:Mem}{x v}(h:aR m (.dQ x) v):v=x:=by simpa only[aR] using h
theorem xL {m:Mem}{r o v}(h:aR m (.dO r o) v): ∃b p,v= .pointer (some ⟨b,p+o,none⟩)∧ff m r b p:=by simpa only[aR] using h
theorem zC {m:Mem}{cs v}(h:aR m (.agg cs) v): ∃l,v= .agg ⟨l⟩∧aS m cs l:=by simpa only[aR] using h
theorem aE2 {m:Mem}{cs v}(h:aR m (.di cs) v): ∃l,v= .tuple ⟨l⟩∧aS m cs l:=by simpa only[aR] using h
theorem xK {m:Mem}{f cs v}(h:aR m (.fn f cs) v): ∃l,v=rI f l∧aS m cs l:=by simpa only[aR] using h
theorem xM {m:Mem}{size rows v}(h:aR m (.ay size rows) v): ∃a cap,v= .slice a rows.length cap∧(rows.length≤cap∧cap≤maxLen)∧(rows.length=0∨∃b o,a=some ⟨b,o,none⟩∧dE m size rows b o):=by
 simp only[aR]at h
 obtain⟨a,len,cap,rfl,rfl,au,bn⟩:=h
 exact⟨a,cap,rfl,au,bn⟩
theorem vX {m:Mem}{t size rows v}(h:aR m (.own t size rows) v):aR m (.ay size rows) v:=by
 simp only[aR]at h ⊢
 exact h.1
theorem zm {m:Mem}{agg:Bool}{cs:List I}{r:I}{l:List Value}(h:I.iB agg cs=some r) (aH:aS m cs l):(agg=true∧aR m r (.agg ⟨l⟩))∨(agg=false∧∃v,l=[v]∧aR m r v):=by
 unfold I.iB at h
 cases agg with
 |true=>
  simp at h
  subst h
  exact .inl ⟨rfl,by simp only[aR]; exact⟨l,rfl,aH⟩⟩
 |false=>
  simp only[cond_false]at h
  split at h
  ·rename_i a
   simp at h
   subst h
   simp only[aS]at aH
   obtain⟨v,ay,rfl,J,rfl⟩:=aH
   exact .inr ⟨rfl,v,rfl,J⟩
  ·cases h
theorem xJ {P:Program}{t:TypeId}{b:Bool}(h:ny P t=some b) (w:World):(isAgg t).run P w= .ok b w:=by
 unfold ny at h
 split at h
 ·rename_i hu; simp at h; subst h; simp [isAgg,run_underlying hu]
 ·rename_i hu; simp at h; subst h; simp [isAgg,run_underlying hu]
 ·rename_i d J aa hu
  simp at h; subst h
  cases d<;>first|(exact (J _ rfl).elim)|(exact (aa _ _ rfl).elim)|(simp [isAgg,run_underlying hu]; done)
 ·cases h
theorem Co {P:Program}{t:TypeId}{n:Nat}(h:jf P t=some n): ∃i,P.info? t=some i∧i.size=n:=by
 unfold jf at h
 cases ai:P.info? t with
 |none=>simp [ai]at h
 |some i=>simp [ai]at h; exact⟨i,rfl,h⟩
theorem mF {P:Program}{t:TypeId}{n:Nat}(h:jf P t=some n) (w:World):(sizeOf t).run P w= .ok n w:=by
 obtain⟨i,ai,rfl⟩:=Co h
 simp [sizeOf,typeInfo,ai]
theorem zb {P:Program}{t:TypeId}{agg:Bool}{n:Nat}(h:o3 P t agg n=true):ny P t=some agg∧jf P t=some n∧(agg=false→n=1)∧n≠0:=by
 simp only[o3,Bool.and_eq_true,decide_eq_true_eq]at h
 obtain⟨⟨⟨J,aa⟩,au⟩,bn⟩:=h
 refine⟨J,aa,fun e=> ?_,?_⟩
 ·subst e; simpa using au
 ·simpa using bn
theorem nx (b o n:Nat):(⟨b,o,none⟩:Addr).add n=⟨b,o+n,none⟩:=by
 unfold Addr.add
 split
 ·subst_vars; rfl
 ·rfl
theorem FW {P:Program}{w:World}{t:TypeId}{agg:Bool}{n:Nat}(h:o3 P t agg n=true) (b o:Nat) (l:List Value) (aH:l.length=n) (ah: ∀j v,l[j]? =some v→w.cell? ⟨b,o+j,none⟩=some v):
  (loadVar t ⟨b,o,none⟩).run P w= .ok (if agg then .agg ⟨l⟩ else l.getD 0 undef) w:=by
 obtain⟨J,aa,au,bn⟩:=zb h
 cases agg with
 |true=>
  have:=run_loadCells_list (P:=P) w ⟨b,o,none⟩ l (fun j v bq=>by rw[nx]; exact ah j v bq)
  rw[aH]at this
  simp [loadVar,xJ J,mF aa,this]
 |false=>
  have a6:=au rfl
  subst a6
  match l,aH with
  |[v],_=>
   have:=ah 0 v rfl
   simp at this
   simp [loadVar,xJ J,this]
theorem RH {P:Program}{w:World}{t:TypeId}{agg:Bool}{n:Nat}(h:o3 P t agg n=true) (l:List Value) (off:Nat) (aH:off+n≤l.length):
  (part t ⟨l⟩ off).run P w= .ok (if agg then .agg ⟨(l.drop off).take n⟩ else l.getD off undef) w:=by
 obtain⟨J,aa,au,bn⟩:=zb h
 cases agg with
 |true=>
  simp [part,xJ J,mF aa,List.take_drop,Nat.add_comm]
 |false=>
  have a6:=au rfl
  have cK:off<l.length:=by omega
  simp [part,xJ J,cK]
theorem K1 (l:List Value) (o:Nat):l.getD o undef=(l.drop o).getD 0 undef:=by
 simp [List.getD]
theorem AU {P:Program}{w:World}(op:BinOp) (t:TypeId) (x y:Operand) (k j:IntKind) (a b:Int):(eqGuard op t x y (.int k a) (.int j b)).run P w= .ok () w:=by
 unfold eqGuard; cases op<;>rfl
theorem KL {P:Program}{w:World}(op:BinOp) (t:TypeId) (x y:Operand) (a b:ByteArray):(eqGuard op t x y (.string a) (.string b)).run P w= .ok () w:=by
 unfold eqGuard; cases op<;>rfl
theorem XA {P:Program}{w:World}(op:BinOp) (t:TypeId) (x y:Operand) (a b:Bool):(eqGuard op t x y (.bool a) (.bool b)).run P w= .ok () w:=by
 unfold eqGuard; cases op<;>rfl
theorem KK {P:Program}{w:World}(op:BinOp) (t:TypeId) (x y:Operand) (a b:Array Value) (h:P.eqGuardType P.depth t=false):(eqGuard op t x y (.agg a) (.agg b)).run P w= .ok () w:=by
 unfold eqGuard; cases op<;>simp [h]
theorem Xx {l:IntKind}{a b:I}{r:Bool}(h:oe (.i l) a b=some r): ∃n j,a= .int l n∧b= .int l j∧r=decide (n=j):=by
 cases a<;>cases b<;>simp [oe]at h
 obtain⟨⟨rfl,rfl⟩,rfl⟩:=h
 exact⟨_,_,rfl,rfl,rfl⟩
theorem Xz {a b:I}{r:Bool}(h:oe .s a b=some r): ∃n j,a= .str n∧b= .str j∧r=decide (n=j):=by
 cases a<;>cases b<;>simp [oe]at h
 subst h
 exact⟨_,_,rfl,rfl,rfl⟩
theorem Xw {a b:I}{r:Bool}(h:oe .b a b=some r): ∃n j,a= .bool n∧b= .bool j∧r=(n==j):=by
 cases a<;>cases b<;>simp [oe]at h
 subst h
 exact⟨_,_,rfl,rfl,rfl⟩
theorem DF: ∀ {cu:List lQ}{cs iZ:List I}{r:Bool},gM cu cs iZ=some r→cs.length=cu.length∧iZ.length=cu.length
 |[],[],[],_,_=>⟨rfl,rfl⟩
 |k::cu,a::cs,b::iZ,r,h=>by
  simp only[gM]at h
  split at h
  ·rename_i x y J aa
   obtain⟨ar,ax⟩:=DF aa
   simp [ar,ax]
  ·cases h
 |[],[],_:: _,_,h=>by simp [gM]at h
 |[],_:: _,_,_,h=>by simp [gM]at h
 | _:: _,[],_,_,h=>by simp [gM]at h
 | _:: _,_:: _,[],_,h=>by simp [gM]at h
theorem KI: ∀ {cu vE:List lQ}{cs iZ:List I}{r:Bool},gM (cu++vE) cs iZ=some r→∃bO b4,gM cu (cs.take cu.length) (iZ.take cu.length)=some bO∧gM vE (cs.drop cu.length) (iZ.drop cu.length)=some b4∧r=(bO&&b4)
 |[],vE,cs,iZ,r,h=>⟨true,r,by simp [gM],by simpa using h,by simp⟩
 | _:: _,_,[],_,_,h=>by simp [gM]at h
 | _:: _,_,_:: _,[],_,h=>by simp [gM]at h
 |k::cu,vE,a::cs,b::iZ,r,h=>by
  simp only[List.cons_append,gM]at h
  split at h
  ·rename_i x y J aa
   obtain⟨bO,b4,ar,ax,rfl⟩:=KI aa
   simp at h
   exact⟨x&&bO,b4,by simp [gM,J,ar],by simpa using ax,by rw[←h,Bool.and_assoc]⟩
  ·cases h
def vN (agg:Bool) (l:List Value):Value:=if agg then .agg ⟨l⟩ else l.getD 0 undef
theorem RI {P:Program}{w:World}{t:TypeId}{agg:Bool}{n:Nat}(J:ny P t=some agg) (aa:jf P t=some n) (au:agg=false→n=1) (l:List Value) (off:Nat) (aH:off+n≤l.length):
  (part t ⟨l⟩ off).run P w= .ok (vN agg ((l.drop off).take n)) w:=by
 cases agg with
 |true=>simp [part,xJ J,mF aa,vN,List.take_drop,Nat.add_comm]
 |false=>
  have a6:=au rfl
  have cK:off<l.length:=by omega
  subst a6
  simp [part,xJ J,cK,vN,List.getD,List.getElem?_take]
theorem XS {P:Program}: ∀ {d:Nat}{t:TypeId}{cu:List lQ},rH P d t=some cu→∃agg,ny P t=some agg∧(agg=false→cu.length=1)
 |0,_,_,h=>by simp [rH]at h
 |d+1,t,cu,h=>by
  simp only[rH]at h
  split at h<;>first
   |(cases h; done)
   |(rename_i hu; simp only[Option.some.injEq]at h; subst h; exact⟨false,by simp [ny,hu],fun _=>rfl⟩)
   |(rename_i hu; exact⟨true,by simp [ny,hu],fun e=>by cases e⟩)
theorem Iu (s u:List UInt8):((⟨⟨s⟩⟩:ByteArray).toList==(⟨⟨u⟩⟩:ByteArray).toList)=decide (s=u):=by
 rw[wC,wC]
 rw[Bool.eq_iff_iff]
 simp
theorem KM {P:Program}{w:World}{m:Mem}: ∀(d:Nat){t:TypeId}{cu:List lQ}{agg:Bool}{cs iZ:List I}{xs eH:List Value}{r:Bool}(e:Nat),rH P d t=some cu→ny P t=some agg→aS m cs xs→aS m iZ eH→gM cu cs iZ=some r→
  (Op.equalIn (d+e) t (vN agg xs) (vN agg eH)).run P w= .ok r w
 |0,_,_,_,_,_,_,_,_,_,h,_,_,_,_=>by simp [rH]at h
 |d+1,t,cu,agg,cs,iZ,xs,eH,r,e,h,aP,ab,aZ,ag=>by
  rw[show d+1+e=(d+e)+1 by omega]
  simp only[rH]at h
  have one: ∀k,cu=[k]→agg=false→∃a b x y,oe k a b=some r∧aR m a x∧aR m b y∧vN agg xs=x∧vN agg eH=y:=by
   rintro k rfl rfl
   match cs,iZ,ag with
   |[a],[b],ag=>
    simp only[aS]at ab aZ
    obtain⟨x,_,rfl,ab,rfl⟩:=ab
    obtain⟨y,_,rfl,aZ,rfl⟩:=aZ
    simp only[gM]at ag
    split at ag
    ·rename_i p q J aa
     simp at aa ag
     subst aa
     simp at ag
     subst ag
     exact⟨a,b,x,y,J,ab,aZ,rfl,rfl⟩
    ·cases ag
   |[],_,ag=>simp [gM]at ag
   | _:: _,[],ag=>simp [gM]at ag
   | _:: _:: _,_:: _,ag=>simp [gM]at ag
   |[_],_:: _:: _,ag=>simp [gM]at ag
  split at h
  ·rename_i hu
   simp at h
   have vp:agg=false:=by simp [ny,hu]at aP; exact aP
   obtain⟨a,b,x,y,J,aa,au,ar,ax⟩:=one _ h.symm vp
   rw[ar,ax]
   obtain⟨p,q,rfl,rfl,rfl⟩:=Xw J
   rw[tn aa,tn au,run_equalIn_bool' _ _ _ _ _ hu]
  ·rename_i k hu
   simp at h
   have vp:agg=false:=by simp [ny,hu]at aP; exact aP
   obtain⟨a,b,x,y,J,aa,au,ar,ax⟩:=one _ h.symm vp
   rw[ar,ax]
   obtain⟨p,q,rfl,rfl,rfl⟩:=Xx J
   rw[jx aa,jx au,run_equalIn_int _ _ _ _ _ _ _ hu]
   congr 1
  ·rename_i hu
   simp at h
   have vp:agg=false:=by simp [ny,hu]at aP; exact aP
   obtain⟨a,b,x,y,J,aa,au,ar,ax⟩:=one _ h.symm vp
   rw[ar,ax]
   obtain⟨p,q,rfl,rfl,rfl⟩:=Xz J
   rw[(q2 aa).1,(q2 au).1,run_equalIn_string _ _ _ _ _ hu,Iu]
  ·rename_i fg hu
   split at h
   ·cases h
   ·rename_i lc
    have vp:agg=true:=by simp [ny,hu]at aP; exact aP
    subst vp
    have aW:P.fieldsOf t=fg:=by simp [Program.fieldsOf,hu]
    show (Op.equalIn ((d+e)+1) t (.agg ⟨xs⟩) (.agg ⟨eH⟩)).run P w= _
    rw[run_equalIn_struct w (d+e) t ⟨xs⟩ ⟨eH⟩ (by rw[aW]; exact hu) (by simpa using lc),aW]
    have key: ∀(fg:List Field) (off:Nat) (cu:List lQ) (r:Bool),wT P (rH P d) off fg=some cu→gM cu (cs.drop off) (iZ.drop off)=some r→(Op.eqFields (d+e) ⟨xs⟩ ⟨eH⟩ fg).run P w= .ok r w:=by
     intro fg
     induction fg with
     |nil=>
      intro off cu r J aa
      simp [wT]at J
      subst J
      have:=DF aa
      simp at this
      rw[show cs.drop off=[] by exact List.drop_eq_nil_of_le (by omega),show iZ.drop off=[] by exact List.drop_eq_nil_of_le (by omega)]at aa
      simp [gM]at aa
      subst aa
      simp [Op.eqFields]
     |cons f fg cv=>
      intro off cu r J aa
      simp only[wT]at J
      split at J
      ·rename_i bC LP
       split at J
       ·rename_i ah
        obtain⟨yN,yO,xc,YU⟩:=ah
        cases Es:wT P (rH P d) (off+bC.length) fg with
        |none=>simp [Es]at J
        |some bA=>
         simp [Es]at J
         subst J
         obtain⟨bO,b4,g1,g2,rfl⟩:=KI aa
         rw[List.drop_drop,List.drop_drop]at g2
         obtain⟨He,ue,gs⟩:=XS LP
         have ZG:0<bC.length:=List.length_pos_iff.2 YU
         have hle:=DF aa
         simp only[List.length_drop,List.length_append]at hle
         have yZ:off+bC.length≤xs.length:=by have:=aS.length ab; omega
         have oX:off+bC.length≤eH.length:=by have:=aS.length aZ; omega
         have fR:=RI (w:=w) ue xc gs xs off yZ
         have il:=RI (w:=w) ue xc gs eH off oX
         have bG:=KM d e LP ue (aS.take bC.length (aS.drop off ab)) (aS.take bC.length (aS.drop off aZ)) g1 (w:=w)
         simp only[Op.eqFields,yO,ne_eq,not_false_eq_true,if_true,Sem.run_bind,yN,fR,il,Result.andThen_ok,bG]
         cases bO with
         |false=>simp
         |true=>simpa using cv _ _ _ Es g2
       ·cases J
      ·cases J
    exact key fg.toList 0 cu r h (by simpa using ag)
  ·cases h
def fM (P:Program) (m:Mem) (a:Act) (o:Oper) (r:I):Prop:=
 ∃v,(execOp a.eval o).run P m.w= .ok (.value v) m.w∧aR m r v
section
variable {P:Program}{m:Mem}{env:Env}{a:Act}{o:Oper}
theorem Pc {x y}(he:dJ m env a.tmps) (aq:o.op= .move x∨o.op= .assign x) (h:cZ x y=true):fM P m a o (y.aJ env):=
 ⟨a.eval x,by rcases aq with aq|aq<;>simp [execOp,aq],dl he h⟩
theorem aB4 {c x y cB cY gz r}(he:dJ m env a.tmps) (aq:o.op= .pick c x y) (J:cZ c cB=true) (aa:cZ x cY=true) (au:cZ y gz=true) (H:aA) (hp:bU (.pick cB cY gz) env H=some r):fM P m a o r:=by
 simp only[bU]at hp
 have ah:=dl he J
 split at hp
 ·rename_i e; simp at hp; subst hp; rw[e]at ah
  exact⟨a.eval x,by simp [execOp,aq,tn ah,asBool],dl he aa⟩
 ·rename_i e; simp at hp; subst hp; rw[e]at ah
  exact⟨a.eval y,by simp [execOp,aq,tn ah,asBool],dl he au⟩
 ·cases hp
theorem aB2 {x y r}(he:dJ m env a.tmps) (aq:o.op= .nilCheck x) (J:cZ x y=true) (H:aA) (hp:bU (.cE y) env H=some r):fM P m a o r:=by
 simp only[bU]at hp
 have ah:=dl he J
 split at hp
 ·rename_i e; simp at hp; subst hp; rw[e]at ah
  exact⟨_,by simp [execOp,aq,uJ ah]; rfl,by simp only[aR]⟩
 ·rename_i e; simp at hp; subst hp; rw[e]at ah
  obtain⟨b,p,ar,ax⟩:=xL ah
  exact⟨_,by simp [execOp,aq,ar]; rfl,by simp only[aR]; exact⟨b,p,rfl,ax⟩⟩
 ·rename_i e; simp at hp; subst hp; rw[e]at ah
  obtain⟨l,ar,ax⟩:=xK ah
  refine⟨a.eval x,?_,by simp only[aR]; exact⟨l,ar,ax⟩⟩
  unfold rI at ar
  split at ar<;>simp [execOp,aq,ar]
 ·cases hp
theorem aA3 {t x f off y r}(he:dJ m env a.tmps) (aq:o.op= .fieldAddr t x f) (h:br P o.op (.nH off y)=true) (H:aA) (hp:bU (.nH off y) env H=some r):fM P m a o r:=by
 rw[aq]at h
 simp only[br,Bool.and_eq_true]at h
 obtain⟨J,aa⟩:=h
 have ah:=dl he J
 split at aa
 ·rename_i fg hu
  split at aa
  ·rename_i g aY
   simp only[Bool.and_eq_true,decide_eq_true_eq]at aa
   obtain⟨aa,au⟩:=aa
   split at au
   ·rename_i n a6
    have vx:n≠0:=by simpa using au
    have k9: ∀b p,a.eval x= .pointer (some ⟨b,p,none⟩)→(execOp a.eval o).run P m.w= .ok (.value (.pointer (some ⟨b,p+off,none⟩))) m.w:=by
     intro b p e
     simp [execOp,aq,Instr.fieldAt,run_underlying hu,aY,e,Instr.sureAddr,fieldPlace,mF a6,vx,nx,aa]
    simp only[bU]at hp
    split at hp
    ·rename_i b p e; simp at hp; subst hp; rw[e]at ah
     exact⟨_,k9 _ _ (uJ ah),by simp only[aR]⟩
    ·rename_i row p e; simp at hp; subst hp; rw[e]at ah
     obtain⟨b,q,ar,ax⟩:=xL ah
     exact⟨_,k9 _ _ ar,by simp only[aR]; exact⟨b,q,by rw[Nat.add_assoc],ax⟩⟩
    ·cases hp
   ·cases au
  ·cases aa
 ·cases aa
theorem aq4 {agg n x env H r}(hp:bU (.nd agg n x) env H=some r):bU (.load agg n x) env H=some r:=by
 simp only[bU]at hp ⊢
 split at hp
 ·rename_i row o e
  rw[e]
  exact hp
 ·cases hp
theorem Fc {e6 agg n x env H r}(hp:bU (.hr e6 agg n x) env H=some r):bU (.load agg n x) env H=some r∧∃b o,env.get e6= .ptr b 0∧x.aJ env= .ptr b o:=by
 simp only[bU]at hp ⊢
 split at hp
 ·rename_i b bX o ar ax
  split at hp
  ·rename_i hb
   subst hb
   rw[ax]
   exact⟨hp,_,_,ar,rfl⟩
  ·cases hp
 ·cases hp
theorem aq3 {e6 agg n x env H r b o}(hp:bU (.load agg n x) env H=some r) (J:env.get e6= .ptr b 0) (aa:x.aJ env= .ptr b o):bU (.hr e6 agg n x) env H=some r:=by
 simp only[bU,aa]at hp
 simp only[bU,J,aa,if_true]
 exact hp
theorem FE {t x agg n y r}(he:dJ m env a.tmps) (bo:b5 m) (aq:o.op= .load t x) (J:o3 P t agg n=true) (aa:cZ x y=true) (hp:bU (.load agg n y) env m.H=some r):fM P m a o r:=by
 have ah:=dl he aa
 simp only[bU]at hp
 have fin: ∀b p (l:List Value) (cs:List I),a.eval x= .pointer (some ⟨b,p,none⟩)→I.iB agg cs=some r→aS m cs l→l.length=n→(∀j v,l[j]? =some v→m.w.cell? ⟨b,p+j,none⟩=some v)→fM P m a o r:=by
  intro b p l cs ar ax cw fq lB
  refine⟨if agg then .agg ⟨l⟩ else l.getD 0 undef,by simp [execOp,aq,Instr.loadAt,ar,Instr.sureAddr,FW J b p l fq lB],?_⟩
  rcases zm ax cw with ⟨rfl,h⟩|⟨rfl,v,rfl,h⟩
  ·exact h
  ·exact h
 split at hp
 ·rename_i b p e
  rw[e]at ah
  split at hp
  ·rename_i T cs hb
   split at hp
   ·rename_i hle
    obtain⟨l,g1,g2,g3⟩:=bo.aU b _ cs hb
    refine fin b p ((l.drop p).take n) _ (uJ ah) hp (aS.take n (aS.drop p g2)) ?_ fun j v bq=> ?_
    ·have:=aS.length g2
     simp; omega
    ·rw[cell_of_row m.w b _ _ _ _ g1]
     rw[List.getElem?_take]at bq
     split at bq
     ·rw[List.getElem?_drop]at bq
      simpa using bq
     ·cases bq
   ·cases hp
  ·cases hp
 ·rename_i row p e
  rw[e]at ah
  obtain⟨b,q,ar,ax⟩:=xL ah
  split at hp
  ·rename_i hle
   obtain⟨l,g1,g2⟩:=ff.wh ax
   refine fin b (q+p) ((l.drop p).take n) _ ar hp (aS.take n (aS.drop p g1)) ?_ fun j v bq=> ?_
   ·have:=aS.length g1
    simp; omega
   ·rw[List.getElem?_take]at bq
    split at bq
    ·rw[List.getElem?_drop]at bq
     rw[Nat.add_assoc]
     exact (g2 _ v bq).1
    ·cases bq
  ·cases hp
 ·cases hp
theorem aA4 {t x f agg off n y r}(he:dJ m env a.tmps) (aq:o.op= .field t x f) (h:br P o.op (.field agg off n y)=true) (H:aA) (hp:bU (.field agg off n y) env H=some r):fM P m a o r:=by
 rw[aq]at h
 simp only[br,Bool.and_eq_true]at h
 obtain⟨J,aa⟩:=h
 have ah:=dl he J
 split at aa
 ·rename_i fg hu
  split at aa
  ·rename_i g aY
   simp only[Bool.and_eq_true,decide_eq_true_eq]at aa
   obtain⟨aa,au⟩:=aa
   simp only[bU]at hp
   split at hp
   ·rename_i cs e
    rw[e]at ah
    obtain⟨l,ar,ax⟩:=zC ah
    split at hp
    ·rename_i hle
     have aH:=aS.length ax
     refine⟨if agg then .agg ⟨(l.drop off).take n⟩ else l.getD off undef,by simp [execOp,aq,Instr.field,run_underlying hu,aY,ar,asAgg,aa,RH au l off (by omega)],?_⟩
     rcases zm hp (aS.take n (aS.drop off ax)) with ⟨rfl,h⟩|⟨rfl,v,af,h⟩
     ·exact h
     ·have a6:=(zb au).2.2.1 rfl
      subst a6
      rw[K1]
      have:(l.drop off).getD 0 undef=v:=by
       cases bw:l.drop off with
       |nil=>rw[bw]at af; simp at af
       |cons x xs=>rw[bw]at af; simp at af; simp [af]
      simp only[Bool.false_eq_true,if_false,this]
      exact h
    ·cases hp
   ·cases hp
  ·cases aa
 ·cases aa
theorem aB3 {t x y r}(he:dJ m env a.tmps) (aq:o.op= .unOp .not t x) (h:cZ x y=true) (H:aA) (hp:bU (.not y) env H=some r):fM P m a o r:=by
 have ah:=dl he h
 simp only[bU]at hp
 split at hp
 ·rename_i e; simp at hp; subst hp; rw[e]at ah
  exact⟨_,by simp [execOp,aq,tn ah,Op.unary]; rfl,by simp only[aR]⟩
 ·cases hp
theorem aB5 {op t x y u neg cY r}(he:dJ m env a.tmps) (aq:o.op= .binOp op t x y u) (h:br P o.op (.qZ neg cY)=true) (H:aA) (hp:bU (.qZ neg cY) env H=some r):fM P m a o r:=by
 rw[aq]at h
 simp only[br,Bool.and_eq_true,decide_eq_true_eq]at h
 obtain⟨⟨⟨⟨J,aa⟩,au⟩,bn⟩,bL⟩:=h
 have ah:=dl he aa
 split at au
 ·split at bn
  ·rename_i e hu
   subst J
   have run: ∀c7,a.eval x= .pointer c7→(execOp a.eval o).run P m.w= .ok (.value (.bool (bif neg then !c7.isNone else c7.isNone))) m.w:=by
    intro c7 af
    have aY: ∀op,(eqGuard op t x (.const (.pointer none)) (.pointer c7) (.pointer none)).run P m.w= .ok () m.w:=by
     intro op
     have DY:P.eqGuardType P.depth t=false:=by simpa using bL
     unfold eqGuard; cases op<;>simp [DY]
    have bG:(Op.equal t (.pointer c7) (.pointer none)).run P m.w= .ok c7.isNone m.w:=by
     have DS: ∀d,(Op.equalIn (d+1) t (.pointer c7) (.pointer none)).run P m.w= .ok c7.isNone m.w:=by
      intro d
      cases c7<;>simp [Op.equalIn,run_underlying hu]
     exact DS 9999
    have aZ:a.eval (.const (.pointer none))= .pointer none:=rfl
    cases neg<;>simp [execOp,aq,af,bG,aY,binOp,aZ]
   simp only[bU]at hp
   split at hp
   ·rename_i b p ar; simp at hp; subst hp; rw[ar]at ah
    exact⟨_,run _ (uJ ah),by simp only[aR]; cases neg<;>rfl⟩
   ·rename_i row p ar; simp at hp; subst hp; rw[ar]at ah
    obtain⟨b,q,ax,_⟩:=xL ah
    exact⟨_,run _ ax,by simp only[aR]; cases neg<;>rfl⟩
   ·rename_i ar; simp at hp; subst hp; rw[ar]at ah
    exact⟨_,run _ (uK ah),by simp only[aR]; cases neg<;>rfl⟩
   ·cases hp
  ·cases bn
 ·cases au
theorem aB1 {t x y r}(he:dJ m env a.tmps) (aq:o.op= .unOp .neg t x) (h:cZ x y=true) (H:aA) (hp:bU (.neg y) env H=some r):fM P m a o r:=by
 have ah:=dl he h
 simp only[bU]at hp
 split at hp
 ·rename_i e; simp at hp; subst hp; rw[e]at ah
  exact⟨_,by simp [execOp,aq,jx ah,Op.unary,Op.intArith]; rfl,by simp only[aR,Int.zero_sub]⟩
 ·cases hp
theorem az9 {s d x k y r}(he:dJ m env a.tmps) (aq:o.op= .convert s d x) (h:br P o.op (.conv k y)=true) (H:aA) (hp:bU (.conv k y) env H=some r):fM P m a o r:=by
 rw[aq]at h
 simp only[br,Bool.and_eq_true]at h
 obtain⟨⟨J,aa⟩,au⟩:=h
 have ah:=dl he J
 split at aa
 ·rename_i cu ap
  split at au
  ·rename_i j bw
   simp at au
   subst au
   simp only[bU]at hp
   split at hp
   ·rename_i e; simp at hp; subst hp; rw[e]at ah
    exact⟨_,by simp [execOp,aq,jx ah,Go.convert,run_underlying ap,run_underlying bw,Conv.intToInt]; rfl,by simp only[aR]⟩
   ·cases hp
  ·cases au
 ·cases aa
theorem aA2 {x i y r}(he:dJ m env a.tmps) (aq:o.op= .extract x i) (h:cZ x y=true) (H:aA) (hp:bU (.extract i y) env H=some r):fM P m a o r:=by
 have ah:=dl he h
 simp only[bU]at hp
 split at hp
 ·rename_i l e
  rw[e]at ah
  obtain⟨ay,ar,ax⟩:=aE2 ah
  obtain⟨v,cw,fq⟩:=aS.get ax i r hp
  exact⟨v,by simp [execOp,aq,ar,Instr.extract,cw],fq⟩
 ·cases hp
theorem aA9 {f first gr eH}(he:dJ m env a.tmps) (aq:o.op= .makeFunc (.func f) first gr) (aw:gr.isEmpty=true) (h:gh first.toList eH=true):fM P m a o (.fn (f+hW) (eH.map (aK.aJ env))):=by
 have aW:gr= #[]:=by simpa using aw
 subst aW
 refine⟨_,by simp [execOp,aq,Instr.makeFunc]; rfl,?_⟩
 simp only[aR]
 exact⟨first.toList.map a.eval,by rw[K0]; simp [←Array.toList_map],oO he h⟩
theorem HA {m:Mem}: ∀ {rows:List (List I)}{s:List UInt8}{l:List Value},jB rows=some s→aS m rows.flatten l→∃ni:List Int,l=ni.map (fun n=> .int .u8 n)∧s=ni.map (fun n=>UInt8.ofNat n.toNat)
 |[],s,l,h,k=>by
  simp only[jB,Option.some.injEq]at h
  simp only[List.flatten_nil,aS]at k
  subst h; subst k
  exact⟨[],rfl,rfl⟩
 |r::aL,s,l,h,k=>by
  unfold jB at h
  split at h
  ·rename_i e; cases e
  ·rename_i n FR e
   simp only[List.cons.injEq]at e
   obtain⟨rfl,rfl⟩:=e
   split at h
   ·rename_i bM cC
    simp only[Option.some.injEq]at h
    subst h
    simp only[List.flatten_cons,List.cons_append,List.nil_append,aS]at k
    obtain⟨v,ay,rfl,J,aa⟩:=k
    obtain⟨ni,rfl,rfl⟩:=HA cC aa
    exact⟨n::ni,by rw[jx J]; rfl,rfl⟩
   ·cases h
  ·cases h
theorem Hz: ∀ {rows:List (List I)}{s:List UInt8},jB rows=some s→s.length=rows.length
 |[],s,h=>by simp only[jB,Option.some.injEq]at h; subst h; rfl
 |r::aL,s,h=>by
  unfold jB at h
  split at h
  ·rename_i e; cases e
  ·rename_i n FR e
   simp only[List.cons.injEq]at e
   obtain⟨rfl,rfl⟩:=e
   split at h
   ·rename_i bM cC
    simp only[Option.some.injEq]at h
    subst h
    simp [Hz cC]
   ·cases h
  ·cases h
theorem Xr (n:Int):(Utf8.encode n).data.toList.length≤maxLen:=by
 unfold Utf8.encode
 simp only
 repeat' split
 all_goals (simp only[List.length_cons,List.length_nil,maxLen]; omega)
theorem OM: ∀(l:List Int) (r:ByteArray),l.foldl (fun r n=>r.push (UInt8.ofNat n.toNat)) r=⟨r.data++(l.map fun n=>UInt8.ofNat n.toNat).toArray⟩
 |[],r=>by simp
 |n::l,r=>by
  simp only[List.foldl_cons]
  rw[OM l]
  simp [ByteArray.push]
theorem H5 {w:World}{s d e:TypeId}(ap:P.underlying s=some (.slice e)) (he:P.underlying e=some (.int .u8)) (bw:P.underlying d=some .string) (c7:Addr) (ni:List Int) (cap:Nat) (ah: ∀(j:Nat) (v:Value),(ni.map (Value.int .u8))[j]? =some v→w.cell? (c7.add j)=some v):
  (convert s d (.slice (some c7) ni.length cap)).run P w= .ok (.string ⟨⟨ni.map fun n=>UInt8.ofNat n.toNat⟩⟩) w:=by
 have J:=run_loadCells_list (P:=P) w c7 (ni.map (Value.int .u8)) ah
 rw[List.length_map]at J
 rw[run_convert_bytes_string w s d e (some c7) ni.length cap ap he bw,run_bytesToString w c7 ni.length cap ni (by simpa using J),OM]
 have Y5:ByteArray.empty.data= #[]:=rfl
 rw[Y5]
 simp
theorem aA0 {s d x b y r}(he:dJ m env a.tmps) (aq:o.op= .convert s d x) (h:br P o.op (.k8 b y)=true) (H:aA) (hp:bU (.k8 b y) env H=some r):fM P m a o r:=by
 rw[aq]at h
 simp only[br,Bool.and_eq_true]at h
 obtain⟨⟨J,aa⟩,au⟩:=h
 have ah:=dl he J
 split at aa
 ·rename_i bw
  cases b with
  |true=>
   simp only[bU]at hp
   split at hp
   ·rename_i k n _ e
    simp only[Option.some.injEq]at hp
    subst hp
    rw[e]at ah
    refine⟨.string (Utf8.encode n),?_,by simp only[aR]; exact⟨trivial,Xr n⟩⟩
    split at au
    ·rename_i dY hu
     simp [execOp,aq,jx ah,Go.convert,run_underlying hu,run_underlying bw,Conv.intToString]
    ·rename_i cC hu
     split at au<;>simp at au
    ·cases au
   all_goals (first|(cases hp; done)|(rename_i bE _; cases bE; done)|(rename_i bE; cases bE; done))
  |false=>
   split at au
   ·cases au
   ·rename_i e hu
    split at au
    ·rename_i xn
     have rows: ∀ {rows:List (List I)}{bM:List UInt8},jB rows=some bM→aR m (.ay 1 rows) (a.eval x)→fM P m a o (.str bM):=by
      intro rows bM hb af
      obtain⟨c7,cap,ar,⟨g1,g2⟩,g3⟩:=xM af
      have aH:=Hz hb
      rcases g3 with g3|⟨b,p,rfl,g3⟩
      ·have:rows=[]:=List.eq_nil_of_length_eq_zero g3
       subst this
       simp only[jB,Option.some.injEq]at hb
       subst hb
       refine⟨.string ⟨⟨[]⟩⟩,?_,by simp only[aR]; exact⟨trivial,Nat.zero_le _⟩⟩
       cases c7 with
       |none=>simp [execOp,aq,ar,run_convert_bytes_string m.w s d e _ _ _ hu xn bw,Conv.bytesToString]; rfl
       |some c7=>
        have:=H5 (P:=P) (w:=m.w) hu xn bw c7 [] cap (by simp)
        simp only[List.length_nil,List.map_nil]at this
        simp [execOp,aq,ar,this]
      ·obtain⟨l,f1,f2,f3⟩:=dE.wh g3
       obtain⟨ni,rfl,rfl⟩:=HA hb f1
       have rU:ni.length=rows.length:=by simpa using f2
       refine⟨.string ⟨⟨ni.map fun n=>UInt8.ofNat n.toNat⟩⟩,?_,by simp only[aR]; exact⟨trivial,by simp only[List.length_map]; omega⟩⟩
       have:=H5 (P:=P) (w:=m.w) hu xn bw ⟨b,p,none⟩ ni cap (fun j v bq=>by rw[nx]; exact (f3 j v bq).1)
       rw[rU]at this
       simp [execOp,aq,ar,this]
     simp only[bU]at hp
     split at hp
     ·rename_i bE _; cases bE
     ·rename_i aL _ e
      rw[e]at ah
      cases hb:jB aL with
      |none=>simp [hb]at hp
      |some bM=>
       simp only[hb,Option.map_some,Option.some.injEq]at hp
       subst hp
       exact rows hb ah
     ·rename_i t aL _ e
      rw[e]at ah
      cases hb:jB aL with
      |none=>simp [hb]at hp
      |some bM=>
       simp only[hb,Option.map_some,Option.some.injEq]at hp
       subst hp
       exact rows hb (vX ah)
     ·rename_i len cap _ ar
      rw[ar]at ah
      simp only[Option.some.injEq]at hp
      subst hp
      refine⟨.string ⟨⟨[]⟩⟩,?_,by simp only[aR]; exact⟨trivial,Nat.zero_le _⟩⟩
      simp [execOp,aq,uK ah,run_convert_bytes_string m.w s d e _ _ _ hu xn bw,Conv.bytesToString]; rfl
     ·cases hp
    ·cases au
   ·cases au
 ·cases aa
theorem NT {x:Option Operand}{y:Option aK}{d n:Nat}(he:dJ m env a.tmps) (h:pE x y=true) (a6:jv env d y=some n):(x=none∧n=d)∨∃mN k,x=some mN∧a.eval mN= .int k n:=by
 unfold pE at h
 split at h
 ·simp [jv]at a6; exact .inl ⟨rfl,a6.symm⟩
 ·rename_i mN wo
  have ab:=dl he h
  simp only[jv]at a6
  split at a6
  ·rename_i k q e
   simp at a6
   subst a6
   rw[e]at ab
   exact .inr ⟨mN,k,rfl,jx ab⟩
  ·cases a6
 ·cases h
theorem FY {w:World}{b:Bool}{len cap:Nat}{cz ai:Option Operand}{mz gB:Option aK}{l h:Nat}(he:dJ m env a.tmps) (J:pE cz mz=true) (aa:pE ai gB=true) (aH:jv env 0 mz=some l) (bh:jv env len gB=some h) (au:l≤h) (bn:h≤len) (bL:len≤cap):
  (Instr.sliceBounds b len cap (cz.map a.eval) (ai.map a.eval) none).run P w= .ok (l,h,cap) w:=by
 have Aw: ∀(v:Value) (k:IntKind) (n y:Nat) (c:BoundsCode),v= .int k n→n≤y→(Instr.sliceBound v y c).run P w= .ok n w:=by
  intro v k n y c e hle
  subst e
  have:(0:Int)≤n∧(n:Int)≤y:=⟨by omega,by omega⟩
  simp [Instr.sliceBound,asIntOf,this]
 rcases NT he J aH with ⟨rfl,rfl⟩|⟨mN,k,rfl,ar⟩<;>rcases NT he aa bh with ⟨rfl,rfl⟩|⟨SK,bC,rfl,ax⟩
 ·simp [Instr.sliceBounds]
 ·simp [Instr.sliceBounds,Aw _ _ _ cap _ ax (by omega)]
 ·simp [Instr.sliceBounds,Aw _ _ _ _ _ ar au]
 ·simp [Instr.sliceBounds,Aw _ _ _ cap _ ax (by omega),Aw _ _ _ _ _ ar au]
theorem Pb {f first gr eH}(he:dJ m env a.tmps) (aq:o.op= .makeFunc (.func f) first gr) (aw:first.isEmpty=true) (h:gh gr.toList eH=true) (hb:Nat.blt f hW=true):fM P m a o (.fn f (eH.map (aK.aJ env))):=by
 have gu:f<hW:=by simpa using hb
 have aW:first= #[]:=by simpa using aw
 subst aW
 refine⟨_,by simp [execOp,aq,Instr.makeFunc]; rfl,?_⟩
 simp only[aR]
 exact⟨gr.toList.map a.eval,by rw[wU gu]; simp [←Array.toList_map],oO he h⟩
theorem aB0 {t x y}(he:dJ m env a.tmps) (aq:o.op= .makeInterface t x) (h:cZ x y=true) (aa:(match P.underlying t with|some (.interface _)=>false|some _=>true|none=>false)=true):fM P m a o (.gW t (y.aJ env)):=by
 refine⟨.iface t (a.eval x),?_,by simp only[aR]; exact⟨_,rfl,dl he h⟩⟩
 split at aa
 ·cases aa
 ·rename_i d dw hu
  cases d<;>first
   |exact (dw _ hu).elim
   |exact (dw _ rfl).elim
   |simp [execOp,aq,Instr.makeInterface,run_underlying hu]
 ·cases aa
end
section
variable {P:Program}{m:Mem}{env:Env}{a:Act}{o:Oper}
theorem TE {w:World}{op:BinOp}{k:IntKind}{x y:Int}{r:I}(t:TypeId) (h:qn op k x y=some r): ∃v,(binOp op t (.int k x) (.int k y)).run P w= .ok v w∧aR m r v:=by
 cases op<;>simp only[qn,Option.some.injEq]at h<;>first
  |(cases h; done)
  |(subst h; refine⟨_,by simp [binOp,Op.intArith,Op.intCmp]; rfl,?_⟩; simp only[aR]; done)
  |(subst h; refine⟨_,by simp [binOp,Op.intArith,Op.intCmp]; rfl,?_⟩; simp only[aR]; first|rfl|(congr 1; done))
  |(subst h; refine⟨_,by simp [binOp,Op.intBits]; rfl,?_⟩; simp only[aR]; done)
  |(split at h<;>first
   |(cases h; done)
   |(rename_i hb; simp only[Option.some.injEq]at h; subst h; refine⟨_,by simp [binOp,Op.shift,Int.not_lt.2 hb]; rfl,?_⟩; simp only[aR]; done))
theorem aF7 {w:World}{op:BinOp}{k j:IntKind}{x y:Int}{r:I}(t:TypeId) (h:uL op k x y=some r): ∃v,(binOp op t (.int k x) (.int j y)).run P w= .ok v w∧aR m r v:=by
 cases op<;>simp only[uL]at h<;>first
  |(cases h; done)
  |(split at h<;>first
   |(cases h; done)
   |(rename_i hb; simp only[Option.some.injEq]at h; subst h; refine⟨_,by simp [binOp,Op.shift,Int.not_lt.2 hb]; rfl,?_⟩; simp only[aR]; done))
theorem TF {w:World}{op:BinOp}{x y:List UInt8}{r:I}(t:TypeId) (h:sG op x y=some r): ∃v,(binOp op t (.string ⟨⟨x⟩⟩) (.string ⟨⟨y⟩⟩)).run P w= .ok v w∧aR m r v:=by
 have e:=Iu x y
 rw[wC,wC]at e
 cases op<;>simp only[sG,Option.some.injEq]at h<;>first
  |(cases h; done)
  |(subst h; refine⟨_,by simp [binOp,Op.stringOp,wC,e]; rfl,?_⟩; simp only[aR]; done)
  |(subst h; refine⟨_,by simp [binOp,Op.stringOp,wC,e]; rfl,?_⟩; simp only[aR]; first|rfl|simp)
theorem TC {w:World}{op:BinOp}{x y:Bool}{r:I}{t:TypeId}(aO:P.underlying t=some .bool) (h:tP op x y=some r): ∃v,(binOp op t (.bool x) (.bool y)).run P w= .ok v w∧aR m r v:=by
 have e: ∀w:World,(Op.equal t (.bool x) (.bool y)).run P w= .ok (x==y) w:=fun w=>run_equalIn_bool' w 9999 t x y aO
 cases op<;>simp only[tP,Option.some.injEq]at h<;>first
  |(cases h; done)
  |(subst h; refine⟨_,by simp [binOp,e]; rfl,?_⟩; simp only[aR])
theorem az6 {op t x y u cY gz r}(he:dJ m env a.tmps) (aq:o.op= .binOp op t x y u) (h:br P o.op (.bin op cY gz)=true) (H:aA) (hp:bU (.bin op cY gz) env H=some r):fM P m a o r:=by
 rw[aq]at h
 simp only[br,Bool.and_eq_true]at h
 obtain⟨⟨_,J⟩,aa⟩:=h
 have ab:=dl he J
 have aZ:=dl he aa
 simp only[bU]at hp
 split at hp
 ·rename_i k p j q ar ax
  rw[ar]at ab
  rw[ax]at aZ
  split at hp
  ·rename_i Xm
   subst Xm
   obtain⟨v,g1,g2⟩:=TE (P:=P) (w:=m.w) (m:=m) t hp
   exact⟨v,by simp [execOp,aq,jx ab,jx aZ,AU,g1],g2⟩
  ·obtain⟨v,g1,g2⟩:=aF7 (P:=P) (w:=m.w) (m:=m) (j:=j) t hp
   exact⟨v,by simp [execOp,aq,jx ab,jx aZ,AU,g1],g2⟩
 ·rename_i p q ar ax
  rw[ar]at ab
  rw[ax]at aZ
  obtain⟨v,g1,g2⟩:=TF (P:=P) (w:=m.w) (m:=m) t hp
  exact⟨v,by simp [execOp,aq,(q2 ab).1,(q2 aZ).1,KL,g1],g2⟩
 ·cases hp
theorem az7 {op t x y u cY gz r}(he:dJ m env a.tmps) (aq:o.op= .binOp op t x y u) (h:br P o.op (.pA op cY gz)=true) (H:aA) (hp:bU (.pA op cY gz) env H=some r):fM P m a o r:=by
 rw[aq]at h
 simp only[br,Bool.and_eq_true]at h
 obtain⟨⟨⟨_,J⟩,aa⟩,au⟩:=h
 have ab:=dl he J
 have aZ:=dl he aa
 simp only[bU]at hp
 split at au
 ·rename_i hb
  split at hp
  ·rename_i p q ar ax
   rw[ar]at ab
   rw[ax]at aZ
   obtain⟨v,g1,g2⟩:=TC (P:=P) (w:=m.w) (m:=m) hb hp
   exact⟨v,by simp [execOp,aq,tn ab,tn aZ,XA,g1],g2⟩
  ·cases hp
 ·cases au
theorem aA1 {op t x y u neg T cu cY gz r}(he:dJ m env a.tmps) (aq:o.op= .binOp op t x y u) (h:br P o.op (.oS neg T cu cY gz)=true) (H:aA) (hp:bU (.oS neg T cu cY gz) env H=some r):fM P m a o r:=by
 rw[aq]at h
 simp only[br,Bool.and_eq_true,decide_eq_true_eq,Bool.not_eq_true']at h
 obtain⟨⟨⟨⟨⟨⟨J,rfl⟩,aa⟩,au⟩,bn⟩,bL⟩,cq⟩:=h
 have ab:=dl he aa
 have aZ:=dl he au
 simp only[bU]at hp
 split at hp
 ·rename_i cs iZ ar ax
  rw[ar]at ab
  rw[ax]at aZ
  obtain⟨l,g1,g2⟩:=zC ab
  obtain⟨b8,g3,g4⟩:=zC aZ
  cases bG:gM cu cs iZ with
  |none=>simp [bG]at hp
  |some b=>
   simp [bG]at hp
   subst hp
   split at cq
   ·rename_i fg hu
    have aP:ny P t=some true:=by simp [ny,hu]
    have k9:=KM (P:=P) (w:=m.w) 8 9992 bn aP g2 g4 bG
    have he:(Op.equal t (.agg ⟨l⟩) (.agg ⟨b8⟩)).run P m.w= .ok b m.w:=k9
    refine⟨.bool (bif neg then !b else b),?_,by simp only[aR]⟩
    rw[J]at aq
    cases neg with
    |true=>simp [execOp,aq,g1,g3,KK _ _ _ _ _ _ bL,binOp,he]
    |false=>simp [execOp,aq,g1,g3,KK _ _ _ _ _ _ bL,binOp,he]
   ·cases cq
 ·cases hp
theorem tN {α:Type}{l:Array α}{x:α}(h:l.toList=[x]):l= #[x]:=by cases l; simp at h; rw[h]
theorem Ax {c:Call}{b:Builtin}{x:Operand}(aq:o.op= .call c) (hb:c.callee= .builtin b) (ab:c.args= #[x]) (P:Program) (w w':World) (v:Value) (h:(builtin b c.argTypes o.type (c.args.map fun| .const _=>true| _=>false) #[a.eval x]).run P w= .ok (.value v) w'):
  (execOp a.eval o).run P w= .ok (.value v) w':=by
 simp [execOp,aq,resolve,hb,invoke,ab]at h ⊢
 exact h
theorem aA7 {c y r}(he:dJ m env a.tmps) (aq:o.op= .call c) (h:br P o.op (.fQ y)=true) (H:aA) (hp:bU (.fQ y) env H=some r):fM P m a o r:=by
 obtain⟨callee,args,argTypes⟩:=c
 rw[aq]at h
 cases callee with
 |value f=>simp [br]at h
 |invoke _ _=>simp [br]at h
 |builtin b=>
  cases b<;>simp only[br]at h<;>first
   |(cases h; done)
   |skip
  simp only[Bool.and_eq_true]at h
  obtain⟨J,aa⟩:=h
  split at J
  ·rename_i x ab
   split at aa
   ·rename_i t aO
    have ah:=dl he J
    obtain rfl:=tN ab
    obtain rfl:=tN aO
    simp only[bU]at hp
    split at aa
    ·rename_i hu
     split at hp
     ·rename_i s e
      rw[e]at ah
      simp at hp
      subst hp
      refine⟨_,Ax aq rfl rfl P m.w m.w (.int .i64 s.length) ?_,by simp only[aR]⟩
      simp [builtin,Builtin.len_,run_underlying hu,(q2 ah).1,goInt]
      rfl
     ·cases hp
    ·cases aa
   ·cases aa
  ·cases J
theorem aA5 {c y r}(he:dJ m env a.tmps) (aq:o.op= .call c) (h:br P o.op (.len y)=true) (H:aA) (hp:bU (.len y) env H=some r):fM P m a o r:=by
 obtain⟨callee,args,argTypes⟩:=c
 rw[aq]at h
 cases callee with
 |value f=>simp [br]at h
 |invoke _ _=>simp [br]at h
 |builtin b=>
  cases b<;>simp only[br]at h<;>first
   |(cases h; done)
   |skip
  simp only[Bool.and_eq_true]at h
  obtain⟨J,aa⟩:=h
  split at J
  ·rename_i x ab
   split at aa
   ·rename_i t aO
    have ah:=dl he J
    obtain rfl:=tN ab
    obtain rfl:=tN aO
    simp only[bU]at hp
    split at aa
    ·rename_i el hu
     have run: ∀c7 (n cap:Nat),a.eval x= .slice c7 n cap→(execOp a.eval o).run P m.w= .ok (.value (.int .i64 n)) m.w:=by
      intro c7 n cap e
      refine Ax aq rfl rfl P m.w m.w (.int .i64 n) ?_
      simp [builtin,Builtin.len_,run_underlying hu,e,goInt]
     split at hp
     ·rename_i e
      rw[e]at ah
      simp at hp
      subst hp
      obtain⟨c7,cap,ar,_⟩:=xM ah
      exact⟨_,run _ _ _ ar,by simp only[aR]⟩
     ·rename_i e
      rw[e]at ah
      simp at hp
      subst hp
      obtain⟨c7,cap,ar,_⟩:=xM (vX ah)
      exact⟨_,run _ _ _ ar,by simp only[aR]⟩
     ·rename_i e
      rw[e]at ah
      simp at hp
      subst hp
      exact⟨_,run _ _ _ (uK ah),by simp only[aR]⟩
     ·cases hp
    ·cases aa
   ·cases aa
  ·cases J
theorem aA6 {c n}(aq:o.op= .call c) (h:br P o.op (.pU n)=true):fM P m a o (.int .i64 n):=by
 obtain⟨callee,args,argTypes⟩:=c
 rw[aq]at h
 cases callee with
 |value f=>simp [br]at h
 |invoke _ _=>simp [br]at h
 |builtin b=>
  cases b<;>simp only[br]at h<;>first
   |(cases h; done)
   |skip
  simp only[Bool.and_eq_true]at h
  obtain⟨J,aa⟩:=h
  split at J
  ·rename_i x ab
   split at aa
   ·rename_i t aO
    obtain rfl:=tN ab
    obtain rfl:=tN aO
    refine⟨_,Ax aq rfl rfl P m.w m.w (.int .i64 n) ?_,by simp only[aR]⟩
    split at aa
    ·rename_i hu
     simp at aa
     simp [builtin,Builtin.len_,run_underlying hu,goInt,aa]
    ·rename_i hu
     split at aa
     ·rename_i Bx
      simp at aa
      simp [builtin,Builtin.len_,run_underlying hu,run_underlying Bx,goInt,aa]
     ·cases aa
    ·cases aa
   ·cases aa
  ·cases J
end
def gZ (l:List Value) (o:Nat) (new:List Value):List Value:=l.take o++new++l.drop (o+new.length)
theorem F2 {m:Mem}{cs new:List I}{l kQ:List Value}(h:aS m cs l) (k:aS m new kQ) (o:Nat):aS m (gx cs o new) (gZ l o kQ):=by
 unfold gx gZ
 rw[aS.length k]
 exact aS.append (aS.append (aS.take _ h) k) (aS.drop _ h)
theorem aF0 (l new:List Value) (v:Value) (n:Nat) (h:n<l.length):gZ (l.set n v) (n+1) new=gZ l n (v::new):=by
 unfold gZ
 have ar:(l.set n v).take (n+1)=l.take n++[v]:=by
  rw[List.take_succ_eq_append_getElem (by simpa using h)]
  simp only[List.take_set,List.getElem_set_self]
  rw[List.set_eq_of_length_le (by simp; omega)]
 have ax:(l.set n v).drop (n+1+new.length)=l.drop (n+(new.length+1)):=by
  rw[List.drop_set,if_pos (by omega)]
  congr 1; omega
 rw[ar,ax]; simp
theorem RR: ∀(new:List Value) (l:List Value) (o j:Nat),o+j+new.length≤l.length→
  (new.zipIdx j).foldl (fun (cs:Array Value) (p:Value×Nat)=>cs.setIfInBounds (o+p.2) p.1) ⟨l⟩=⟨gZ l (o+j) new⟩
 |[],l,o,j,h=>by simp [gZ]
 |v::new,l,o,j,h=>by
  simp only[List.length_cons]at h
  simp only[List.zipIdx_cons,List.foldl_cons]
  rw[show (⟨l⟩:Array Value).setIfInBounds (o+j) v=⟨l.set (o+j) v⟩ by simp]
  rw[RR new (l.set (o+j) v) o (j+1) (by simp; omega)]
  rw[show o+(j+1)=(o+j)+1 by omega]
  rw[aF0 l new v (o+j) (by omega)]
def o9 (place:Nat→Option (Nat×Nat)):List (Nat×Operand)→List (Nat×Nat×aK)→Prop
 |[],im=>im=[]
 |p::ps,im=> ∃q Cb,im=q::Cb∧place p.1=some (q.1,q.2.1)∧cZ p.2 q.2.2=true∧o9 place ps Cb
theorem HT {m:Mem}{a:I}{v:Value}(h:aR m a v) (aq:a.eo=true):aS m a.cells v.cells.toList:=by
 cases aP:a with
 |agg cs=>
  subst aP
  obtain⟨l,rfl,aa⟩:=zC h
  exact aa
 |ew=>subst aP; exact absurd aq Bool.false_ne_true
 |di cs=>subst aP; exact absurd aq Bool.false_ne_true
 | _=>
  subst aP
  rw[HS (BQ h aq)]
  simp only[I.cells,aS]
  exact⟨v,[],rfl,h,rfl⟩
theorem A0 {m:Mem}{a:Act}{env:Env}(he:dJ m env a.tmps) (place:Nat→Option (Nat×Nat)): ∀(ps:List (Nat×Operand)) (im:List (Nat×Nat×aK)) (cs:List I) (l:List Value) (r:List I),
  o9 place ps im→aS m cs l→nA env cs im=some r→
  ∃b8,Instr.fill place ⟨l⟩ (ps.map fun (i,x)=>(i,a.eval x))=some ⟨b8⟩∧aS m r b8
 |[],im,cs,l,r,hp,aH,hb=>by
  simp only[o9]at hp
  subst hp
  simp only[nA,Option.some.injEq]at hb
  subst hb
  exact⟨l,by simp [Instr.fill],aH⟩
 |(i,x)::ps,im,cs,l,r,hp,aH,hb=>by
  simp only[o9]at hp
  obtain⟨⟨off,size,y⟩,Cb,rfl,J,aa,au⟩:=hp
  simp only[nA]at hb
  split at hb
  ·rename_i ah
   obtain⟨c1,c2,gg⟩:=ah
   have aO5:(y.aJ env).cells.length=size:=c1
   have aO6:off+size≤cs.length:=c2
   have sX:(a.eval x).cells.toList.length=size:=(aS.length (HT (dl he aa) gg)).trans c1
   have af:=HT (dl he aa) gg
   have hlen:=aS.length af
   have xl:=aS.length aH
   obtain⟨b8,g1,g2⟩:=A0 he place ps Cb _ (gZ l off (a.eval x).cells.toList) r au (F2 aH af off) hb
   refine⟨b8,?_,g2⟩
   simp only[List.map_cons,Instr.fill,J]
   have dm:(a.eval x).cells.size=size:=by rw[←Array.length_toList,hlen]; exact c1
   have ZC: ¬((decide ((a.eval x).cells.size≠size)||decide (off+(a.eval x).cells.size>(⟨l⟩:Array Value).size))=true):=by
    simp only[dm,ne_eq,not_true_eq_false,decide_false,Bool.false_or,decide_eq_true_eq,List.size_toArray]
    omega
   rw[if_neg ZC]
   have aB:(a.eval x).cells.zipIdx.foldl (fun (cs:Array Value) (p:Value×Nat)=>cs.setIfInBounds (off+p.2) p.1) ⟨l⟩=⟨gZ l off (a.eval x).cells.toList⟩:=by
    rw[←Array.foldl_toList,Array.toList_zipIdx]
    have:=RR (a.eval x).cells.toList l off 0 (by rw[sX]; omega)
    simpa using this
   rw[aB]
   exact g1
  ·cases hb
theorem OF {P:Program}: ∀ {fg:List Field}{places:List (Nat×Nat)},fg.mapM (fun f=>(P.info? f.type).map fun i=>(f.offset,i.size))=some places→∀(i:Nat) (f:Field),fg[i]? =some f→∃xT,P.info? f.type=some xT∧places[i]? =some (f.offset,xT.size)
 |[],_,_,_,_,h=>by simp at h
 |g::fg,places,hp,i,f,h=>by
  simp only[List.mapM_cons,Option.bind_eq_bind,Option.pure_def]at hp
  cases ai:P.info? g.type with
  |none=>simp [ai]at hp
  |some xT=>
   cases ag:fg.mapM (fun f=>(P.info? f.type).map fun i=>(f.offset,i.size)) with
   |none=>simp [ai,ag]at hp
   |some rest=>
    simp [ai,ag]at hp
    subst hp
    cases i with
    |zero=>simp at h; subst h; exact⟨xT,ai,rfl⟩
    |succ i=>simp at h; obtain⟨t2,ar,ax⟩:=OF ag i f h; exact⟨t2,ar,by simpa using ax⟩
theorem HX {P:Program}{fg:Array Field}{places:List (Nat×Nat)}(hp:fg.toList.mapM (fun f=>(P.info? f.type).map fun i=>(f.offset,i.size))=some places): ∀ {ps:List (Nat×Operand)}{im:List (Nat×Nat×aK)},wE P fg ps im=true→o9 (places.toArray[·]?) ps im
 |[],[],_=>by simp only[o9]
 |[],_:: _,h=>by simp [wE]at h
 | _:: _,[],h=>by simp [wE]at h
 |(i,x)::ps,(off,size,y)::im,h=>by
  simp only[wE,Bool.and_eq_true]at h
  obtain⟨⟨J,aa⟩,au⟩:=h
  simp only[o9]
  refine⟨_,_,rfl,?_,aa,HX hp au⟩
  split at J
  ·rename_i f aW
   simp only[Bool.and_eq_true,decide_eq_true_eq]at J
   obtain⟨ar,ax⟩:=J
   obtain⟨xT,cw,fq⟩:=Co ax
   have oW:fg.toList[i]? =some f:=by simpa using aW
   obtain⟨t2,g1,g2⟩:=OF hp i f oW
   rw[cw]at g1
   simp at g1
   subst g1
   simp [g2,ar,fq]
  ·cases J
theorem HW {size:Nat}: ∀ {ps:List (Nat×Operand)}{im:List (Nat×Nat×aK)},wF size ps im=true→o9 (fun i=>some (i*size,size)) ps im
 |[],[],_=>by simp only[o9]
 |[],_:: _,h=>by simp [wF]at h
 | _:: _,[],h=>by simp [wF]at h
 |(i,x)::ps,(off,oB,y)::im,h=>by
  simp only[wF,Bool.and_eq_true,decide_eq_true_eq]at h
  obtain⟨⟨⟨rfl,rfl⟩,aa⟩,au⟩:=h
  simp only[o9]
  exact⟨_,_,rfl,rfl,aa,HW au⟩
section
variable {P:Program}{m:Mem}{env:Env}{a:Act}{o:Oper}
theorem CL {t:TypeId}{zero:List I}(h:tC P t zero=true): ∃i z,P.info? t=some i∧i.zero=some z∧AB zero z=true:=by
 unfold tC at h
 cases ai:P.info? t with
 |none=>simp [ai]at h
 |some i=>
  cases aB:i.zero with
  |none=>simp [ai,aB]at h
  |some z=>simp [ai,aB]at h; exact⟨i,z,rfl,aB,h⟩
theorem az8 {t parts zero ps r}(he:dJ m env a.tmps) (aq:o.op= .build t parts) (h:br P o.op (.build zero ps)=true) (H:aA) (hp:bU (.build zero ps) env H=some r):fM P m a o r:=by
 rw[aq]at h
 simp only[br,Bool.and_eq_true]at h
 obtain⟨J,aa⟩:=h
 obtain⟨i,z,ai,aB,ah⟩:=CL J
 have Mh:=(AC (m:=m) ah).1
 simp only[bU]at hp
 cases hb:nA env zero ps with
 |none=>simp [hb]at hp
 |some cs=>
  simp [hb]at hp
  subst hp
  have fin: ∀b8,P.built t ((parts.map fun (i,x)=>(i,a.eval x)).toList)=some ⟨b8⟩→aS m cs b8→fM P m a o (.agg cs):=by
   intro b8 g1 g2
   refine⟨.agg ⟨b8⟩,?_,by simp only[aR]; exact⟨b8,rfl,g2⟩⟩
   have:=run_build (P:=P) m.w t (parts.map fun (i,x)=>(i,a.eval x)) ⟨b8⟩ g1
   simp only[execOp,aq,Sem.run_bind,this,Result.andThen_ok,Sem.run_pure]
  have Mf:(⟨z.cells.toList⟩:Array Value)=z.cells:=rfl
  split at aa
  ·rename_i fg hu
   simp only[Bool.and_eq_true]at aa
   obtain⟨aa,au⟩:=aa
   obtain⟨places,L4⟩:=Option.isSome_iff_exists.1 au
   obtain⟨b8,g1,g2⟩:=A0 he (places.toArray[·]?) parts.toList ps zero z.cells.toList cs (HX L4 aa) Mh hb
   refine fin b8 ?_ g2
   simp only[Program.built,ai,hu,aB,L4,Array.toList_map]
   exact g1
  ·rename_i n e hu
   split at aa
   ·rename_i s ap
    obtain⟨xT,ar,ax⟩:=Co ap
    obtain⟨b8,g1,g2⟩:=A0 he (fun i=>some (i*s,s)) parts.toList ps zero z.cells.toList cs (HW aa) Mh hb
    refine fin b8 ?_ g2
    simp only[Program.built,ai,hu,aB,ar,Array.toList_map,ax]
    exact g1
   ·cases aa
  ·cases aa
theorem MS {w:World}: ∀(rest:List I) (k:IntKind) (x:Int) (l:List Value) (r:I),kP false (.int k x) rest=some r→aS m rest l→∃v,(l.foldlM Builtin.min2 (.int k x)).run P w= .ok v w∧aR m r v
 |[],k,x,l,r,h,aH=>by
  simp only[aS]at aH
  subst aH
  simp [kP]at h
  subst h
  exact⟨_,by simp; rfl,by simp only[aR]⟩
 |b::rest,k,x,l,r,h,aH=>by
  simp only[aS]at aH
  obtain⟨v,ay,rfl,J,aa⟩:=aH
  have hint: ∃j y,b= .int j y:=by
   cases b<;>first
    |exact⟨_,_,rfl⟩
    |(simp [kP]at h; done)
  obtain⟨j,y,rfl⟩:=hint
  simp only[kP]at h
  split at h
  ·rename_i e
   subst e
   obtain⟨bT,g1,g2⟩:=MS rest k _ ay r h aa
   refine⟨bT,?_,g2⟩
   rw[jx J]
   simp only[List.foldlM_cons,Sem.run_bind,Builtin.min2,Sem.run_pure,Result.andThen_ok]
   rw[show (if y<x then y else x)=min x y by simp only[Int.min_def]; split<;>split<;>omega]
   simpa using g1
  ·cases h
theorem MP {w:World}: ∀(rest:List I) (k:IntKind) (x:Int) (l:List Value) (r:I),kP true (.int k x) rest=some r→aS m rest l→∃v,(l.foldlM Builtin.max2 (.int k x)).run P w= .ok v w∧aR m r v
 |[],k,x,l,r,h,aH=>by
  simp only[aS]at aH
  subst aH
  simp [kP]at h
  subst h
  exact⟨_,by simp; rfl,by simp only[aR]⟩
 |b::rest,k,x,l,r,h,aH=>by
  simp only[aS]at aH
  obtain⟨v,ay,rfl,J,aa⟩:=aH
  have hint: ∃j y,b= .int j y:=by
   cases b<;>first
    |exact⟨_,_,rfl⟩
    |(simp [kP]at h; done)
  obtain⟨j,y,rfl⟩:=hint
  simp only[kP]at h
  split at h
  ·rename_i e
   subst e
   obtain⟨bT,g1,g2⟩:=MP rest k _ ay r h aa
   refine⟨bT,?_,g2⟩
   rw[jx J]
   simp only[List.foldlM_cons,Sem.run_bind,Builtin.max2,Sem.run_pure,Result.andThen_ok]
   rw[show (if y>x then y else x)=max x y by simp only[Int.max_def]; split<;>split<;>omega]
   simpa using g1
  ·cases h
theorem aA8 {c lF eH r}(he:dJ m env a.tmps) (aq:o.op= .call c) (h:br P o.op (.nR lF eH)=true) (H:aA) (hp:bU (.nR lF eH) env H=some r):fM P m a o r:=by
 obtain⟨callee,args,argTypes⟩:=c
 rw[aq]at h
 have key:gh args.toList eH=true→∃k x rest l,(args.map a.eval).toList= .int k x::l∧aS m rest l∧kP lF (.int k x) rest=some r:=by
  intro ab
  have aH:=oO he ab
  simp only[bU]at hp
  split at hp
  ·rename_i a0 rest e
   rw[e]at aH
   simp only[aS]at aH
   obtain⟨v,ay,g1,g2,g3⟩:=aH
   have hint: ∃k x,a0= .int k x:=by
    cases a0<;>cases rest<;>first
     |exact⟨_,_,rfl⟩
     |(simp [kP]at hp; done)
   obtain⟨k,x,rfl⟩:=hint
   exact⟨k,x,rest,ay,by rw[jx g2]at g1; simpa using g1,g3,hp⟩
  ·cases hp
 cases callee with
 |value f=>simp [br]at h
 |invoke _ _=>simp [br]at h
 |builtin b=>
  cases b<;>cases lF<;>simp only[br]at h<;>first
   |(cases h; done)
   |skip
  ·obtain⟨k,x,rest,l,g1,g2,g3⟩:=key h
   obtain⟨v,ar,ax⟩:=MP (P:=P) (w:=m.w) rest k x l r g3 g2
   refine⟨v,?_,ax⟩
   simp [execOp,aq,resolve,invoke,builtin,Builtin.max_]
   simp at g1
   simp [g1,ar]
  ·obtain⟨k,x,rest,l,g1,g2,g3⟩:=key h
   obtain⟨v,ar,ax⟩:=MS (P:=P) (w:=m.w) rest k x l r g3 g2
   refine⟨v,?_,ax⟩
   simp [execOp,aq,resolve,invoke,builtin,Builtin.min_]
   simp at g1
   simp [g1,ar]
set_option maxHeartbeats 1600000 in
theorem aq5 {e:bj}{r:I}(he:dJ m env a.tmps) (bo:b5 m) (h:br P o.op e=true) (hp:bU e env m.H=some r):fM P m a o r:=by
 cases e with
 |hs y=>
  simp only[bU,Option.some.injEq]at hp
  subst hp
  cases aq:o.op<;>simp [aq,br]at h
  ·exact Pc he (.inl aq) h
  ·exact Pc he (.inr aq) h
 |pick c x y=>
  cases aq:o.op<;>simp [aq,br]at h
  exact aB4 he aq h.1.1 h.1.2 h.2 m.H hp
 |cE y=>
  cases aq:o.op<;>simp [aq,br]at h
  exact aB2 he aq h m.H hp
 |build zero ps=>
  cases aq:o.op<;>try (simp [aq,br]at h; done)
  exact az8 he aq h m.H hp
 |load agg n y=>
  cases aq:o.op<;>simp [aq,br]at h
  exact FE he bo aq h.1 h.2 hp
 |hr e6 agg n y=>
  cases aq:o.op<;>simp [aq,br]at h
  exact FE he bo aq h.1 h.2 (Fc hp).1
 |nd agg n y=>
  cases aq:o.op<;>simp [aq,br]at h
  exact FE he bo aq h.1 h.2 (aq4 hp)
 |nH off y=>
  cases aq:o.op<;>try (simp [aq,br]at h; done)
  exact aA3 he aq h m.H hp
 |field agg off n y=>
  cases aq:o.op<;>try (simp [aq,br]at h; done)
  exact aA4 he aq h m.H hp
 |bin op x y=>
  cases aq:o.op<;>try (simp [aq,br]at h; done)
  have jG:=h
  rw[aq]at jG
  simp only[br,Bool.and_eq_true,decide_eq_true_eq]at jG
  obtain⟨⟨rfl,_⟩,_⟩:=jG
  exact az6 he aq h m.H hp
 |pA op x y=>
  cases aq:o.op<;>try (simp [aq,br]at h; done)
  have jG:=h
  rw[aq]at jG
  simp only[br,Bool.and_eq_true,decide_eq_true_eq]at jG
  obtain⟨⟨⟨rfl,_⟩,_⟩,_⟩:=jG
  exact az7 he aq h m.H hp
 |oS neg T cu x y=>
  cases aq:o.op<;>try (simp [aq,br]at h; done)
  exact aA1 he aq h m.H hp
 |not y=>
  cases aq:o.op<;>try (simp [aq,br]at h; done)
  rename_i u t x
  cases u<;>simp [aq,br]at h
  exact aB3 he aq h m.H hp
 |qZ neg y=>
  cases aq:o.op<;>try (simp [aq,br]at h; done)
  exact aB5 he aq h m.H hp
 |neg y=>
  cases aq:o.op<;>try (simp [aq,br]at h; done)
  rename_i u t x
  cases u<;>simp [aq,br]at h
  exact aB1 he aq h m.H hp
 |conv k y=>
  cases aq:o.op<;>try (simp [aq,br]at h; done)
  exact az9 he aq h m.H hp
 |fQ y=>
  cases aq:o.op<;>try (simp [aq,br]at h; done)
  exact aA7 he aq h m.H hp
 |len y=>
  cases aq:o.op<;>try (simp [aq,br]at h; done)
  exact aA5 he aq h m.H hp
 |pU n=>
  simp only[bU,Option.some.injEq]at hp
  subst hp
  cases aq:o.op<;>try (simp [aq,br]at h; done)
  exact aA6 aq h
 |nR lF eH=>
  cases aq:o.op<;>try (simp [aq,br]at h; done)
  exact aA8 he aq h m.H hp
 |extract i y=>
  cases aq:o.op<;>simp [aq,br]at h
  obtain⟨J,rfl⟩:=h
  exact aA2 he aq J m.H hp
 |ng f eH=>
  simp only[bU,Option.some.injEq]at hp
  subst hp
  cases aq:o.op<;>try (simp [aq,br]at h; done)
  rename_i g first gr
  cases g<;>simp [aq,br]at h
  obtain⟨⟨⟨rfl,aa⟩,au⟩,bn⟩:=h
  exact Pb he aq (by simpa using aa) au (by simpa using bn)
 |o4 f eH=>
  simp only[bU,Option.some.injEq]at hp
  subst hp
  cases aq:o.op<;>try (simp [aq,br]at h; done)
  rename_i g first gr
  cases g<;>simp [aq,br]at h
  obtain⟨⟨rfl,aa⟩,au⟩:=h
  exact aA9 he aq (by simpa using aa) au
 |k8 b y=>
  cases aq:o.op<;>try (simp [aq,br]at h; done)
  exact aA0 he aq h m.H hp
 |o5 T y=>
  simp only[bU,Option.some.injEq]at hp
  subst hp
  cases aq:o.op<;>try (simp [aq,br]at h; done)
  rename_i t x
  rw[aq]at h
  simp only[br,Bool.and_eq_true,decide_eq_true_eq]at h
  obtain⟨⟨rfl,aa⟩,au⟩:=h
  exact aB0 he aq aa au
 | _=>simp [bU]at hp
end
section
variable {P:Program}{m:Mem}{env:Env}{a:Act}{o:Oper}
theorem nY {K:Act→World→Prop}{Q:Exit→Act→World→Prop}{w w':World}{v:Value}(h:(execOp a.eval o).run P w= .ok (.value v) w') (aC:K (a.put o.dst v) w'):o.wp P a w K Q:=by
 simp only[Oper.wp,h,Oper.upon]
 exact aC
theorem WO {t x y u cY gz k p q}(he:dJ m env a.tmps) (aq:o.op= .binOp .quo t x y u) (J:cZ x cY=true) (aa:cZ y gz=true) (ar:cY.aJ env= .int k p) (ax:gz.aJ env= .int k q) (bG:q≠0):fM P m a o (.int k (k.wrap (p.tdiv q))):=by
 have ab:=dl he J
 have aZ:=dl he aa
 rw[ar]at ab; rw[ax]at aZ
 exact⟨_,by simp [execOp,aq,jx ab,jx aZ,AU,binOp,Op.intDiv,bG]; rfl,by simp only[aR]⟩
theorem WQ {t x y u cY gz k p q}(he:dJ m env a.tmps) (aq:o.op= .binOp .rem t x y u) (J:cZ x cY=true) (aa:cZ y gz=true) (ar:cY.aJ env= .int k p) (ax:gz.aJ env= .int k q) (bG:q≠0):fM P m a o (.int k (p.tmod q)):=by
 have ab:=dl he J
 have aZ:=dl he aa
 rw[ar]at ab; rw[ax]at aZ
 exact⟨_,by simp [execOp,aq,jx ab,jx aZ,AU,binOp,Op.intDiv,bG]; rfl,by simp only[aR]⟩
theorem WD {t x y u cY gz p q}(he:dJ m env a.tmps) (aq:o.op= .binOp .add t x y u) (J:cZ x cY=true) (aa:cZ y gz=true) (ar:cY.aJ env= .str p) (ax:gz.aJ env= .str q) (bG:p.length+q.length≤maxLen):fM P m a o (.str (p++q)):=by
 have ab:=dl he J
 have aZ:=dl he aa
 rw[ar]at ab; rw[ax]at aZ
 have ap: ¬((((⟨⟨p⟩⟩:ByteArray).size+(⟨⟨q⟩⟩:ByteArray).size:Nat):Int)>IntKind.i64.max):=by
  have ar:(⟨⟨p⟩⟩:ByteArray).size=p.length:=rfl
  have ax:(⟨⟨q⟩⟩:ByteArray).size=q.length:=rfl
  rw[ar,ax]
  have:IntKind.i64.max=9223372036854775807:=by decide
  rw[this]
  simp only[maxLen]at bG
  omega
 refine⟨.string ⟨⟨p++q⟩⟩,?_,by simp only[aR]; exact⟨trivial,by simpa using bG⟩⟩
 simp only[execOp,aq,(q2 ab).1,(q2 aZ).1,Sem.run_bind,KL,Result.andThen_ok,binOp,Op.stringOp]
 rw[if_neg ap]
 simp [TR]
theorem BI:maxLen=9223372036854775807:=by decide
theorem Ip {t x i size cY da rows k n r}(he:dJ m env a.tmps) (aq:o.op= .indexAddr t x i) (h:br P o.op (.fW size cY da)=true) (ar:aR m (.ay size rows) (a.eval x)) (ax:da.aJ env= .int k n) (aw:0≤n) (ag:rows[n.toNat]? =some r):fM P m a o (.dO r 0):=by
 rw[aq]at h
 simp only[br,Bool.and_eq_true]at h
 obtain⟨⟨J,aa⟩,au⟩:=h
 have ai:=dl he aa
 rw[ax]at ai
 obtain⟨c7,cap,g1,⟨g2,X1⟩,g3⟩:=xM ar
 have cK:n.toNat<rows.length:=(List.getElem?_eq_some_iff.1 ag).1
 rcases g3 with g3|⟨b,p,rfl,g3⟩
 ·omega
 ·obtain⟨g4,g5⟩:=dE.get g3 _ _ ag
  split at au
  ·rename_i el eU
   have dm:jf P el=some size:=by simpa using au
   have hu:P.underlying t=some (.slice el):=by
    unfold jR at eU
    split at eU
    ·rename_i e hu; simp at eU; subst eU; exact hu
    ·cases eU
   refine⟨.pointer (some ⟨b,p+n.toNat*size,none⟩),?_,by simp only[aR]; exact⟨b,_,rfl,g5⟩⟩
   have a6:0≤n∧n<(rows.length:Int):=⟨aw,by omega⟩
   simp [execOp,aq,Instr.indexAt,g1,jx ai,asIntOf,run_underlying hu,a6,mF dm,nx]
  ·cases au
theorem WJ {t x i size cY da b p len cap k}{n:Int}(he:dJ m env a.tmps) (aq:o.op= .indexAddr t x i) (h:br P o.op (.fW size cY da)=true) (ar:cY.aJ env= .dQ (.slice (some ⟨b,p,none⟩) len cap)) (ax:da.aJ env= .int k n) (aw:0≤n) (ag:n<(len:Int)):fM P m a o (.ptr b (p+n.toNat*size)):=by
 rw[aq]at h
 simp only[br,Bool.and_eq_true]at h
 obtain⟨⟨J,aa⟩,au⟩:=h
 have ai:=dl he aa
 have ab:=dl he J
 rw[ax]at ai
 rw[ar]at ab
 split at au
 ·rename_i el eU
  have dm:jf P el=some size:=by simpa using au
  have hu:P.underlying t=some (.slice el):=by
   unfold jR at eU
   split at eU
   ·rename_i e hu; simp at eU; subst eU; exact hu
   ·cases eU
  refine⟨.pointer (some ⟨b,p+n.toNat*size,none⟩),?_,by simp only[aR]⟩
  simp [execOp,aq,Instr.indexAt,uK ab,jx ai,asIntOf,run_underlying hu,aw,ag,mF dm,nx]
 ·cases au
theorem Io {t x i size cY da b p k}{len:Nat}{n:Int}(he:dJ m env a.tmps) (aq:o.op= .indexAddr t x i) (h:br P o.op (.o1 len size cY da)=true) (ar:a.eval x= .pointer (some ⟨b,p,none⟩)) (ax:da.aJ env= .int k n) (aw:0≤n) (ag:n<(len:Int)):
  (execOp a.eval o).run P m.w= .ok (.value (.pointer (some ⟨b,p+n.toNat*size,none⟩))) m.w:=by
 rw[aq]at h
 simp only[br,Bool.and_eq_true]at h
 obtain⟨⟨J,aa⟩,au⟩:=h
 have ai:=dl he aa
 rw[ax]at ai
 split at au
 ·rename_i l2 el hu
  simp only[Bool.and_eq_true,decide_eq_true_eq]at au
  obtain⟨rfl,dm⟩:=au
  simp [execOp,aq,Instr.indexAt,ar,jx ai,asIntOf,run_underlying hu,Instr.sureAddr,aw,ag,mF dm,nx]
 ·cases au
theorem WI {t x i agg size cY da cs k v}{len:Nat}{n:Int}(he:dJ m env a.tmps) (aq:o.op= .index t x i) (h:br P o.op (.jn agg len size cY da)=true) (ar:cY.aJ env= .agg cs) (ax:da.aJ env= .int k n) (aw:0≤n) (ag:n<(len:Int)) (aH:n.toNat*size+size≤cs.length) (af:I.iB agg ((cs.drop (n.toNat*size)).take size)=some v):fM P m a o v:=by
 rw[aq]at h
 simp only[br,Bool.and_eq_true]at h
 obtain⟨⟨J,aa⟩,au⟩:=h
 have ai:=dl he aa
 have ab:=dl he J
 rw[ax]at ai
 rw[ar]at ab
 obtain⟨l,g1,g2⟩:=zC ab
 have j9:=aS.length g2
 split at au
 ·rename_i l2 el hu
  simp only[Bool.and_eq_true,decide_eq_true_eq]at au
  obtain⟨rfl,au⟩:=au
  have dm:=(zb au).2.1
  refine⟨if agg then .agg ⟨(l.drop (n.toNat*size)).take size⟩ else l.getD (n.toNat*size) undef,?_,?_⟩
  ·simp [execOp,aq,Instr.index,g1,jx ai,asIntOf,run_underlying hu,aw,ag,mF dm,RH au l (n.toNat*size) (by omega)]
  ·rcases zm af (aS.take size (aS.drop (n.toNat*size) g2)) with ⟨rfl,h⟩|⟨rfl,u,y5,h⟩
   ·exact h
   ·have a6:=(zb au).2.2.1 rfl
    subst a6
    rw[K1]
    have:(l.drop (n.toNat*1)).getD 0 undef=u:=by
     cases bw:l.drop (n.toNat*1) with
     |nil=>rw[bw]at y5; simp at y5
     |cons x xs=>rw[bw]at y5; simp at y5; simp [y5]
    simp only[Bool.false_eq_true,if_false,this]
    exact h
 ·cases au
theorem WK {t x i cY da s k n c}(he:dJ m env a.tmps) (aq:o.op= .index t x i) (h:br P o.op (.eJ cY da)=true) (ar:cY.aJ env= .str s) (ax:da.aJ env= .int k n) (aw:0≤n) (ah:s[n.toNat]? =some c):fM P m a o (.int .u8 c.toNat):=by
 rw[aq]at h
 simp only[br,Bool.and_eq_true]at h
 obtain⟨⟨J,aa⟩,au⟩:=h
 have ai:=dl he aa
 have ab:=dl he J
 rw[ax]at ai
 rw[ar]at ab
 split at au
 ·rename_i hu
  refine⟨.int .u8 c.toNat,?_,by simp only[aR]⟩
  have cK:=(List.getElem?_eq_some_iff.1 ah)
  have hb:(⟨⟨s⟩⟩:ByteArray)[n.toNat]? =some c:=by
   obtain⟨aH,ul⟩:=cK
   have:=getElem?_pos (⟨⟨s⟩⟩:ByteArray) n.toNat aH
   rw[this]
   exact congrArg some ul
  simp [execOp,aq,Instr.index,(q2 ab).1,jx ai,asIntOf,run_underlying hu,aw,hb]
 ·cases au
theorem WS {t x cz ai lI y mz gB s l h}(he:dJ m env a.tmps) (aq:o.op= .slice t x cz ai lI) (ah:br P o.op (.gE y mz gB)=true) (ar:y.aJ env= .str s) (aH:jv env 0 mz=some l) (bh:jv env s.length gB=some h) (J:l≤h) (aa:h≤s.length):fM P m a o (.str ((s.take h).drop l)):=by
 rw[aq]at ah
 cases lI with
 |some _=>simp [br]at ah
 |none=>
  simp only[br,Bool.and_eq_true]at ah
  obtain⟨⟨⟨c1,c2⟩,gg⟩,iJ⟩:=ah
  have ab:=dl he c1
  rw[ar]at ab
  obtain⟨g1,g2⟩:=q2 ab
  split at iJ
  ·rename_i hu
   have ap:(⟨⟨s⟩⟩:ByteArray).size=s.length:=rfl
   have hb:=FY (P:=P) (w:=m.w) (b:=false) (cap:=s.length) he c2 gg aH bh J aa (Nat.le_refl _)
   refine⟨.string ⟨⟨(s.take h).drop l⟩⟩,?_,by simp only[aR]; exact⟨trivial,by simp; omega⟩⟩
   simp [execOp,aq,Instr.sliceAt,Instr.slice,run_underlying hu,g1,ap,hb,HC]
  ·cases iJ
theorem aG1 {m:Mem}{size:Nat}{a:I}{rows:List (List I)}{v:Value}(h:mG size a=some rows) (af:aR m a v):aR m (.ay size rows) v:=by
 unfold mG at h
 split at h
 ·split at h
  ·rename_i e; subst e; simp only[Option.some.injEq]at h; subst h; exact af
  ·cases h
 ·split at h
  ·rename_i e; subst e; simp only[Option.some.injEq]at h; subst h; exact vX af
  ·cases h
 ·cases h
theorem WT {t x cz ai lI size y mz gB rows l h}(he:dJ m env a.tmps) (aq:o.op= .slice t x cz ai lI) (ah:br P o.op (.h9 size y mz gB none)=true) (ar:mG size (y.aJ env)=some rows) (aH:jv env 0 mz=some l) (bh:jv env rows.length gB=some h) (J:l≤h) (aa:h≤rows.length):fM P m a o (.ay size ((rows.take h).drop l)):=by
 rw[aq]at ah
 simp only[br,Bool.and_eq_true]at ah
 obtain⟨⟨⟨⟨c1,c2⟩,gg⟩,nB⟩,iJ⟩:=ah
 have ab:=dl he c1
 replace ab:=aG1 ar ab
 have Ej:lI=none:=by cases lI<;>simp [pE]at nB ⊢
 subst Ej
 split at iJ
 ·rename_i el eU
  have dm:jf P el=some size:=by simpa using iJ
  have hu:P.underlying t=some (.slice el):=by
   unfold jR at eU
   split at eU
   ·rename_i e hu; simp at eU; subst eU; exact hu
   ·cases eU
  obtain⟨c7,cap,g1,⟨g2,X1⟩,g3⟩:=xM ab
  have hb:=FY (P:=P) (w:=m.w) (b:=true) (cap:=cap) he c2 gg aH bh J aa g2
  refine⟨.slice (if cap=l then c7 else c7.map (·.add (l*size))) (h-l) (cap-l),?_,?_⟩
  ·simp [execOp,aq,Instr.sliceAt,Instr.slice,run_underlying hu,g1,hb,mF dm]
  ·simp only[aR]
   have hlen:((rows.take h).drop l).length=h-l:=by simp; omega
   refine⟨_,_,_,rfl,hlen.symm,⟨by omega,by omega⟩,?_⟩
   by_cases cK:l<h
   ·rcases g3 with g3|⟨b,p,rfl,g3⟩
    ·omega
    ·refine .inr ⟨b,p+l*size,by rw[if_neg (by omega)]; simp [nx],?_⟩
     have:=dE.drop l g3
     have:=dE.take (h-l) this
     rwa [show (rows.take h).drop l=(rows.drop l).take (h-l) by rw[List.drop_take]]
   ·exact .inl (by omega)
 ·cases iJ
end
section
variable {P:Program}{m:Mem}{env:Env}{a:Act}{o:Oper}
theorem WC {T x y}(he:dJ m env a.tmps) (bo:b5 m) (aq:o.op= .box T x) (h:cZ x y=true) (aZ:((y.aJ env).cells).all I.one=true):
  ∃l,(execOp a.eval o).run P m.w= .ok (.value (.pointer (some ⟨m.w.heap.size,0,none⟩))) (m.b7 T (y.aJ env).cells l).w∧b5 (m.b7 T (y.aJ env).cells l):=by
 obtain⟨J,aa⟩:=Ay (dl he h) aZ
 exact⟨(a.eval x).cells.toList,by simp [execOp,aq,Instr.box,newVar,newRow,Mem.b7],b5.b7 bo J aa⟩
theorem aE3 {m:Mem}(s:List UInt8):aS m (s.map fun c=>[I.int .u8 c.toNat]).flatten (s.map fun b=>Value.int .u8 b.toNat):=by
 induction s with
 |nil=>simp [aS]
 |cons c s cv=>simp only[List.map_cons,List.flatten_cons,List.singleton_append,aS]; exact⟨_,_,rfl,by simp only[aR],cv⟩
theorem WE {t t2 T x y s}(he:dJ m env a.tmps) (bo:b5 m) (aq:o.op= .convert t t2 x) (h:br P o.op (.jC T y)=true) (aZ:y.aJ env= .str s):
  ∃w' v,(execOp a.eval o).run P m.w= .ok (.value v) w'∧b5 {m with w:=w'}∧b0 m {m with w:=w'}∧aR {m with w:=w'} (.ay 1 (s.map fun c=>[.int .u8 c.toNat])) v:=by
 rw[aq]at h
 simp only[br,Bool.and_eq_true,decide_eq_true_eq]at h
 obtain⟨⟨⟨J,aa⟩,au⟩,bn⟩:=h
 have ab:=dl he J
 rw[aZ]at ab
 obtain⟨g1,g2⟩:=q2 ab
 split at aa
 ·rename_i hu
  split at bn
  ·rename_i xn
   have bw:P.underlying t2=some (.slice T):=by
    unfold jR at au
    split at au
    ·rename_i e hu; simp at au; subst au; exact hu
    ·cases au
   have ag:=run_bytes_of_string (P:=P) m.w t t2 T ⟨⟨s⟩⟩ hu bw xn
   have ap:(⟨⟨s⟩⟩:ByteArray).size=s.length:=rfl
   rw[ap]at ag
   refine⟨m.w.drew.alloc (.cells (bytesRow ⟨⟨s⟩⟩ (grownCap m.w s.length 0 T)) T ((bytesRow ⟨⟨s⟩⟩ (grownCap m.w s.length 0 T)).size,(bytesRow ⟨⟨s⟩⟩ (grownCap m.w s.length 0 T)).size+1)),.slice (some ⟨m.w.heap.size,0,none⟩) s.length (grownCap m.w s.length 0 T),by simp [execOp,aq,g1,ag],?_,?_,?_⟩
   ·exact b5.alloc (b5.drew bo) _
   ·exact (b0.drew m).trans (b0.alloc {m with w:=m.w.drew} _)
   ·have aJ:=(b0.drew m).trans (b0.alloc {m with w:=m.w.drew} (.cells (bytesRow ⟨⟨s⟩⟩ (grownCap m.w s.length 0 T)) T ((bytesRow ⟨⟨s⟩⟩ (grownCap m.w s.length 0 T)).size,(bytesRow ⟨⟨s⟩⟩ (grownCap m.w s.length 0 T)).size+1)))
    simp only[aR]
    have cM:=grownCap_ge m.w s.length 0 T
    have hle:=grownCap_le_maxLen m.w s.length 0 T g2
    refine⟨_,_,_,rfl,by simp,⟨by simpa using cM,hle⟩,.inr ⟨m.w.heap.size,0,rfl,dE.of (fun r ag=>by obtain⟨c,_,rfl⟩:=List.mem_map.1 ag; rfl) (l:=s.map fun b=> .int .u8 b.toNat) ?_ fun j v bq=>⟨?_,?_,⟨by simp,wB bo,fun t i aO hb=> ?_⟩⟩⟩⟩
    ·exact aE3 s
    ·rw[Nat.zero_add]
     have ah:=World.cell?_alloc_mark m.w.drew (bytesRow ⟨⟨s⟩⟩ (grownCap m.w s.length 0 T)) T ((bytesRow ⟨⟨s⟩⟩ (grownCap m.w s.length 0 T)).size,(bytesRow ⟨⟨s⟩⟩ (grownCap m.w s.length 0 T)).size+1) j
     have lZ:j<s.length:=by
      have:=(List.getElem?_eq_some_iff.1 bq).1
      simpa using this
     refine ah.trans ?_
     rw[bytesRow_at _ _ _ (by simpa using lZ)]
     simp [List.getElem?_eq_getElem lZ]at bq
     rw[←bq]
     rfl
    ·have:=List.mem_of_getElem? bq
     obtain⟨c,_,rfl⟩:=List.mem_map.1 this
     rfl
    ·have:=uR bo aO hb
     omega
  ·cases bn
 ·cases aa
theorem WB {T zero}(bo:b5 m) (aq:o.op= .alloc T) (h:tC P T zero=true):
  ∃l,(execOp a.eval o).run P m.w= .ok (.value (.pointer (some ⟨m.w.heap.size,0,none⟩))) (m.b7 T zero l).w∧b5 (m.b7 T zero l):=by
 obtain⟨i,z,ai,aB,ah⟩:=CL h
 obtain⟨J,aa⟩:=AC (m:=m) ah
 exact⟨z.cells.toList,by simp [execOp,aq,Instr.alloc,zeroValue,typeInfo,ai,aB,newVar,newRow,Mem.b7],b5.b7 bo J aa⟩
theorem ai0 (z:Array Value) (n:Nat):(madeCells z (n*z.size)).toList=(List.replicate n z.toList).flatten:=by
 simp only[madeCells,Array.toList_map,Array.toList_range]
 induction n with
 |zero=>simp
 |succ n cv=>
  rw[Nat.succ_mul,Nat.add_comm,List.range_add,List.map_append,List.replicate_succ,List.flatten_cons,←cv]
  congr 1
  ·apply List.ext_getElem
   ·simp
   ·intro j J aa
    simp at J
    simp [Nat.mod_eq_of_lt J,J]
  ·rw[List.map_map]
   apply List.map_congr_left
   intro j _
   simp [Nat.add_mod_left]
theorem RP {az:List I}{l:List Value}(h:aS m az l): ∀n,aS m (List.replicate n az).flatten (List.replicate n l).flatten
 |0=>by simp [aS]
 |n+1=>by
  rw[List.replicate_succ,List.replicate_succ,List.flatten_cons,List.flatten_cons]
  exact aS.append h (RP h n)
theorem aF2 (a b c:List I) (h:c.length=b.length): ∀rest,gx (a++b++rest) a.length c=a++c++rest:=by
 intro rest
 unfold gx
 rw[show (a++b++rest).take a.length=a by rw[List.append_assoc]; exact List.take_left,h]
 rw[show (a++b++rest).drop (a.length+b.length)=rest by rw[←List.length_append]; exact List.drop_left]
theorem Hw {env:Env}{size:Nat}: ∀(ps:List (Nat×aK)) (k:Nat) (done:List I),xp k ps=true→done.length=k*size→(∀p∈ps,(p.2.aJ env).cells.length=size∧(p.2.aJ env).eo=true)→
  nA env (done++List.replicate (ps.length*size) .ew) (ps.map fun p=>(p.1*size,size,p.2))=some (done++(j5 env ps).flatten)
 |[],k,done,_,_,_=>by simp [nA,j5]
 |(i,x)::ps,k,done,J,aa,au=>by
  simp only[xp,Bool.and_eq_true,decide_eq_true_eq]at J
  obtain⟨rfl,J⟩:=J
  obtain⟨c1,c2⟩:=au (i,x) (by simp)
  simp only at c1 c2
  have ZO:List.replicate (((i,x)::ps).length*size) I.ew=List.replicate size I.ew++List.replicate (ps.length*size) I.ew:=by
   rw[List.replicate_append_replicate]
   congr 1
   simp only[List.length_cons,Nat.add_mul]
   omega
  simp only[List.map_cons,nA]
  rw[ZO,if_pos ⟨c1,by simp only[List.length_append,List.length_replicate]; omega,c2⟩]
  rw[←List.append_assoc,←aa,aF2 _ _ _ (by simpa using c1)]
  have:=Hw ps (i+1) (done++(x.aJ env).cells) J (by simp [aa,c1,Nat.add_mul]) (fun p hp=>au p (by simp [hp]))
  rw[this]
  simp [j5]
theorem OE {size:Nat}: ∀ {ps:List (Nat×Operand)}{im:List (Nat×aK)},sL ps im=true→o9 (fun i=>some (i*size,size)) ps (im.map fun p=>(p.1*size,size,p.2))
 |[],[],_=>by simp [o9]
 |[],_:: _,h=>by simp [sL]at h
 | _:: _,[],h=>by simp [sL]at h
 |(i,x)::ps,(j,y)::im,h=>by
  simp only[sL,Bool.and_eq_true,decide_eq_true_eq]at h
  obtain⟨⟨rfl,aa⟩,au⟩:=h
  simp only[List.map_cons,o9]
  exact⟨_,_,rfl,rfl,aa,OE au⟩
theorem G4 {m:Mem}: ∀(l:List Value),aS m (List.replicate l.length .ew) l
 |[]=>by simp [aS]
 |v::l=>by simp only[List.length_cons,List.replicate_succ,aS]; exact⟨v,l,rfl,by simp only[aR],G4 l⟩
theorem ak5 {x:I}(h:x.cells.all I.one=true):x.eo=true:=by
 cases x<;>simp only[I.cells,List.all_cons,List.all_nil,Bool.and_true,I.one,I.eo]at h ⊢ <;>exact h
theorem Dr {t n parts T size gX zero ps rows}(he:dJ m env a.tmps) (bo:b5 m) (aq:o.op= .buildSlice t n parts) (h:br P o.op (.dA T size gX zero ps)=true) (ag:j5 env ps=rows) (ap:rows.all (fun r=>r.length==size)=true) (J:rows.flatten.all I.one=true):
  ∃l,(execOp a.eval o).run P m.w= .ok (.value (.slice (some ⟨m.w.heap.size,0,none⟩) rows.length rows.length)) (m.w.alloc (.cells ⟨l⟩ T))∧aS m rows.flatten l∧(∀v∈l,v.oneCell'=true)∧l.length=rows.length*size∧rows.length≤65536∧size≠0:=by
 rw[aq]at h
 simp only[br,Bool.and_eq_true,decide_eq_true_eq]at h
 obtain⟨⟨⟨⟨⟨⟨⟨⟨⟨rfl,c2⟩,gg⟩,iJ⟩,nB⟩,oK⟩,qp⟩,sI⟩,oL⟩,sH⟩:=h
 have aO7:=Nat.le_of_ble_eq_true oK
 have dw:size≠0:=by simpa using sH
 obtain⟨i,z,ai,aB,ah⟩:=CL iJ
 have uq:rows.length=n:=by subst ag; simpa [j5] using oL
 have hu:P.underlying t=some (.slice T):=by
  unfold jR at c2
  split at c2
  ·rename_i e hu; simp at c2; subst c2; exact hu
  ·cases c2
 have pT:z.cells.size=size:=by
  have:=aS.length (AC (m:=m) ah).1
  simp at this
  omega
 have dm:(sizeOf T).run P m.w= .ok size m.w:=mF gg _
 have Zs:((Array.range (n*size)).map (z.cells[·%z.cells.size]!)).size=n*size:=by simp
 have j1: ∀p∈ps,(p.2.aJ env).cells.length=size∧(p.2.aJ env).eo=true:=by
  intro p hp
  have hm:(p.2.aJ env).cells∈rows:=by subst ag; exact List.mem_map.2 ⟨p,hp,rfl⟩
  refine⟨by have:=List.all_eq_true.1 ap _ hm; simpa using this,ak5 ?_⟩
  simp only[List.all_eq_true]at J ⊢
  intro x ab
  exact J x (List.mem_flatten.2 ⟨_,hm,ab⟩)
 have hb:=Hw (env:=env) (size:=size) ps 0 [] sI (by simp) j1
 simp only[List.nil_append,ag]at hb
 have Ma:=G4 (m:=m) ((Array.range (n*size)).map (z.cells[·%z.cells.size]!)).toList
 rw[Array.length_toList,Zs,show n*size=ps.length*size by rw[oL]]at Ma
 obtain⟨l,g1,g2⟩:=A0 he (fun i=>some (i*size,size)) parts.toList _ _ _ _ (OE qp) Ma hb
 have j9:l.length=rows.length*size:=by
  rw[aS.length g2]
  clear g1 g2 hb ag uq J
  induction rows with
  |nil=>simp
  |cons r rows cv=>
   simp only[List.all_cons,Bool.and_eq_true]at ap
   have e:r.length=size:=by simpa using ap.1
   simp only[List.flatten_cons,List.length_append,cv ap.2,List.length_cons,Nat.add_mul,e]
   omega
 refine⟨l,?_,g2,fun v af=> ?_,j9,?_,dw⟩
 ·have YN: ¬(n*size>2^24):=by omega
  by_cases aw:n*size=0
  ·have vx:n=0:=by rcases Nat.mul_eq_zero.1 aw with e|e<;>omega
   subst vx
   simp at oL
   subst oL
   have ZI:parts= #[]:=by
    have:parts.toList=[]:=by cases hp:parts.toList with|nil=>rfl|cons x y=>rw[hp]at qp; simp [sL]at qp
    simpa using this
   subst ZI
   have xl:l=[]:=List.eq_nil_of_length_eq_zero (by rw[j9,uq]; simp)
   subst xl
   simp [execOp,aq,Instr.buildSlice,run_underlying hu,dm,Instr.fill,newRow,uq]
   congr 2
   exact Array.eq_empty_of_size_eq_zero (by simp)
  ·have Mf:(zeroValue T).run P m.w= .ok z m.w:=by simp [zeroValue,typeInfo,ai,aB]
   simp only[execOp,aq,Instr.buildSlice,Sem.run_bind,run_underlying hu,Result.andThen_ok,dm,Sem.run_ite,if_neg YN,aw,if_false,Mf,Sem.run_pure]
   have DO:Instr.fill (fun i=>some (i*size,size)) ((Array.range (n*size)).map (z.cells[·%z.cells.size]!)) ((parts.map fun (i,x)=>(i,a.eval x)).toList)=some ⟨l⟩:=by
    rw[Array.toList_map]
    rw[oL]at g1
    exact g1
   simp only[DO,Result.andThen_ok,Sem.run_bind,newRow,run_newObj,Sem.run_pure,uq]
   rfl
 ·obtain⟨j,bq⟩:=List.getElem?_of_mem af
  have lZ:=(List.getElem?_eq_some_iff.1 bq).1
  rw[aS.length g2]at lZ
  obtain⟨bT,ar,ax⟩:=aS.get g2 j rows.flatten[j] (List.getElem?_eq_getElem lZ)
  rw[bq]at ar
  simp at ar
  subst ar
  exact BQ ax (List.all_eq_true.1 J _ (List.getElem_mem lZ))
 ·rw[uq]
  have:n*1≤n*size:=Nat.mul_le_mul_left _ (by omega)
  omega
end
section
variable {P:Program}{m:Mem}{env:Env}{a:Act}{o:Oper}
structure Src (P:Program) (m:Mem) (size:Nat) (y:Value) (new:List (List I)) (news:List Value):Prop where
 len: ∀w,(Builtin.lenOf y).run P w= .ok new.length w
 cells: ∀w:World,(∀b o,lR m b o→w.cell? ⟨b,o,none⟩=m.w.cell? ⟨b,o,none⟩)→(Builtin.firstCells size new.length y).run P w= .ok ⟨news⟩ w
 zB:aS m new.flatten news
 one: ∀v∈news,v.oneCell'=true
 n:news.length=new.length*size
 oB: ∀r∈new,r.length=size
theorem ff.zV {m:Mem}: ∀ {az:List I}{b o:Nat},ff m az b o→∃l,aS m az l∧(∀j v,l[j]? =some v→m.w.cell? ⟨b,o+j,none⟩=some v∧v.oneCell'=true∧lR m b (o+j))
 |[],_,_,_=>⟨[],by simp [aS],by simp⟩
 |a::az,b,o,h=>by
  simp only[ff]at h
  obtain⟨⟨v,J,uh,aa,au⟩,bn⟩:=h
  obtain⟨l,ar,ax⟩:=ff.zV bn
  refine⟨v::l,by simp only[aS]; exact⟨v,l,rfl,au,ar⟩,fun j u bq=> ?_⟩
  cases j with
  |zero=>simp at bq; subst bq; exact⟨J,uh,aa⟩
  |succ j=>simp at bq; have:=ax j u bq; rwa [show o+1+j=o+(j+1) by omega]at this
theorem dE.zV {m:Mem}{size:Nat}: ∀ {aL:List (List I)}{b o:Nat},dE m size aL b o→∃l,aS m aL.flatten l∧l.length=aL.length*size∧(∀r∈aL,r.length=size)∧(∀j v,l[j]? =some v→m.w.cell? ⟨b,o+j,none⟩=some v∧v.oneCell'=true∧lR m b (o+j))
 |[],_,_,_=>⟨[],by simp [aS],by simp,by simp,by simp⟩
 |r::aL,b,o,h=>by
  simp only[dE]at h
  obtain⟨J,aa,au⟩:=h
  obtain⟨l,ar,ax⟩:=ff.zV aa
  obtain⟨b8,f1,f2,f4,f3⟩:=dE.zV au
  have aH:l.length=size:=(aS.length ar).trans J
  refine⟨l++b8,by simpa using aS.append ar f1,by rw[List.length_append,f2,aH,List.length_cons,Nat.add_mul]; omega,?_,fun j u bq=> ?_⟩
  ·intro x ab
   rcases List.mem_cons.1 ab with rfl|ab
   ·exact J
   ·exact f4 x ab
  ·by_cases lZ:j<l.length
   ·rw[List.getElem?_append_left lZ]at bq
    exact ax j u bq
   ·rw[List.getElem?_append_right (by omega)]at bq
    have:=f3 _ u bq
    rwa [show o+size+(j-l.length)=o+j by omega]at this
theorem MQ {l:List Value}{Q:Value→Prop}(h: ∀(j:Nat) (v:Value),l[j]? =some v→Q v): ∀v∈l,Q v:=fun v af=>by
 obtain⟨j,bq⟩:=List.getElem?_of_mem af
 exact h j v bq
theorem SC {size:Nat}{rows:List (List I)}{v:Value}(h:aR m (.ay size rows) v): ∃c7 cap l,v= .slice c7 rows.length cap∧rows.length≤cap∧cap≤maxLen∧aS m rows.flatten l∧l.length=rows.length*size∧(∀r∈rows,r.length=size)∧(rows.length=0∨∃b p,c7=some ⟨b,p,none⟩∧∀j u,l[j]? =some u→m.w.cell? ⟨b,p+j,none⟩=some u∧u.oneCell'=true∧lR m b (p+j)):=by
 obtain⟨c7,cap,e,⟨J,aa⟩,au⟩:=xM h
 rcases au with au|⟨b,p,rfl,au⟩
 ·have:rows=[]:=List.eq_nil_of_length_eq_zero au
  subst this
  exact⟨c7,cap,[],e,J,aa,by simp [aS],by simp,by simp,.inl rfl⟩
 ·obtain⟨l,g1,g2,g3,g4⟩:=dE.zV au
  exact⟨_,cap,l,e,J,aa,g1,g2,g3,.inr ⟨b,p,rfl,g4⟩⟩
theorem RX {size:Nat}{rows:List (List I)}{v:Value}(h:aR m (.ay size rows) v): ∃news,Src P m size v rows news:=by
 obtain⟨c7,cap,l,rfl,J,aa,g1,g2,g3,g4⟩:=SC h
 refine⟨l,⟨fun w=>by simp [Builtin.lenOf],fun w hw=> ?_,g1,?_,g2,g3⟩⟩
 ·rcases g4 with g4|⟨b,p,rfl,g4⟩
  ·have:l=[]:=List.eq_nil_of_length_eq_zero (by rw[g2,g4]; simp)
   subst this
   rw[g4]
   cases c7 with
   |none=>simp [Builtin.firstCells]
   |some x=>simp [Builtin.firstCells,loadCells,loadCellsFrom]
  ·have:=run_loadCells_list (P:=P) w ⟨b,p,none⟩ l (fun j u bq=>by
    obtain⟨bC,bA,cO⟩:=g4 j u bq
    rw[nx]
    exact (hw b _ cO).trans bC)
   rw[g2]at this
   simp [Builtin.firstCells,this]
 ·rcases g4 with g4|⟨b,p,rfl,g4⟩
  ·have:l=[]:=List.eq_nil_of_length_eq_zero (by rw[g2,g4]; simp)
   subst this
   simp
  ·exact MQ fun j v bq=>(g4 j v bq).2.1
theorem aH0 {size:Nat}{c7:Option Addr}{cap:Nat}:Src P m size (.slice c7 0 cap) [] []:=
 ⟨fun w=>by simp [Builtin.lenOf],fun w _=>by cases c7<;>simp [Builtin.firstCells,loadCells,loadCellsFrom],by simp [aS],by simp,by simp,by simp⟩
theorem Gd (s:List UInt8):aS m (s.map fun c=>[I.int .u8 c.toNat]).flatten (s.map fun b=>Value.int .u8 b.toNat):=by
 induction s with
 |nil=>simp [aS]
 |cons c s cv=>simp only[List.map_cons,List.flatten_cons,List.singleton_append,aS]; exact⟨_,_,rfl,by simp only[aR],cv⟩
theorem aH1 {s:List UInt8}:Src P m 1 (.string ⟨⟨s⟩⟩) (s.map fun c=>[.int .u8 c.toNat]) (s.map fun b=> .int .u8 b.toNat):=by
 refine⟨fun w=> ?_,fun w _=> ?_,Gd s,?_,by simp,?_⟩
 ·simp only[Builtin.lenOf,Sem.run_pure,List.length_map]; rfl
 ·simp only[Builtin.firstCells,Sem.run_pure]
  congr 1
  rw[HC]
  simp [List.map_take]
 ·intro v af
  obtain⟨b,_,rfl⟩:=List.mem_map.1 af
  rfl
 ·intro r ag
  obtain⟨b,_,rfl⟩:=List.mem_map.1 ag
  rfl
structure tD (P:Program) (t u T:TypeId) (size bytes:Nat) where
 aO:P.underlying t=some (.slice T)
 hu:P.underlying u=some (.slice T)∨P.underlying u=some .string
 i:TypeInfo
 ai:P.info? T=some i
 ap:i.size=size
 hb:i.bytes=bytes
 z:Value
 aB:i.zero=some z
 pT:z.cells.size=size
theorem yn {t u T ty:TypeId}{size bytes:Nat}(A:tD P t u T size bytes){base:Option Addr}{k cap:Nat}{y:Value}{new:List (List I)}{news:List Value}(S:Src P m size y new news) (j8:k+new.length≤cap):
  (Builtin.append_ #[t,u] ty #[.slice base k cap,y]).run P m.w=(match base with
   |some c7=>((storeCells (c7.add (k*size)) news).run P m.w).andThen fun _ w'=> .ok (.slice base (k+new.length) cap) w'
   |none=> .ok (.slice base (k+new.length) cap) m.w):=by
 have ar:=S.cells m.w (fun _ _ _=>rfl)
 have dm: ∀w,(sizeOf T).run P w= .ok size w:=fun w=>by simp [sizeOf,typeInfo,A.ai,A.ap]
 unfold Builtin.append_
 rcases A.hu with hu|hu
 ·cases base with
  |none=>simp [run_underlying A.aO,run_underlying hu,dm,S.len,j8,ar]
  |some c7=>simp [run_underlying A.aO,run_underlying hu,dm,S.len,j8,ar]
 ·cases base with
  |none=>simp [run_underlying A.aO,run_underlying hu,dm,S.len,j8,ar]
  |some c7=>simp [run_underlying A.aO,run_underlying hu,dm,S.len,j8,ar]
theorem Hk {t u T ty:TypeId}{size bytes:Nat}(A:tD P t u T size bytes){base:Option Addr}{k cap:Nat}{y:Value}{new:List (List I)}{news olds:List Value}(S:Src P m size y new news) (j8: ¬k+new.length≤cap)
  (bE:(Builtin.firstCells size k (.slice base k cap)).run P m.w.drew= .ok ⟨olds⟩ m.w.drew) (ix:cap≤maxLen) (aC:k≤cap)
  (hb:(k+new.length)*bytes≤140737488355328) (DZ:k+new.length≤maxLen):
  (Builtin.append_ #[t,u] ty #[.slice base k cap,y]).run P m.w= .ok (.slice (some ⟨m.w.heap.size,0,none⟩) (k+new.length) (grownCap m.w (k+new.length) cap T))
   (m.w.drew.alloc (.cells (⟨olds++news⟩++Builtin.zeroCells A.z.cells (grownCap m.w (k+new.length) cap T-(k+new.length))) T)):=by
 have ar:=S.cells m.w.drew (fun _ _ _=>rfl)
 have dm: ∀w,(sizeOf T).run P w= .ok size w:=fun w=>by simp [sizeOf,typeInfo,A.ai,A.ap]
 have L8: ∀w,(typeInfo T).run P w= .ok A.i w:=fun w=>by simp [typeInfo,A.ai]
 have Mi: ∀w,(zeroValue T).run P w= .ok A.z w:=fun w=>by simp [zeroValue,typeInfo,A.ai,A.aB]
 have Lh: ¬(281474976710656<Builtin.nextslicecap (k+new.length) cap*A.i.bytes):=by
  rw[A.hb]
  have:=growslice_fits (need:=k+new.length) (old:=cap) (bytes:=bytes) (by omega) hb
  omega
 have Li: ¬(9223372036854775807<((k:Int)+(new.length:Int))):=by rw[BI]at DZ; omega
 unfold Builtin.append_
 rcases A.hu with hu|hu
 ·simp [run_underlying A.aO,run_underlying hu,dm,S.len,j8,L8,Li,Lh,Question.forced,bE,ar,Mi,newRow,grownCap]
  exact congrArg (fun x=>m.w.drew.alloc (Obj.cells x T)) (by rw[←Array.append_assoc]; congr 1; simp)
 ·simp [run_underlying A.aO,run_underlying hu,dm,S.len,j8,L8,Li,Lh,Question.forced,bE,ar,Mi,newRow,grownCap]
  exact congrArg (fun x=>m.w.drew.alloc (Obj.cells x T)) (by rw[←Array.append_assoc]; congr 1; simp)
theorem Ap {t u T ty:TypeId}{size bytes:Nat}(A:tD P t u T size bytes){base:Option Addr}{k cap:Nat}{y:Value}{new:List (List I)}{news olds:List Value}(S:Src P m size y new news) (j8: ¬k+new.length≤cap)
  (aq: ∀w:World,(∀b o,lR m b o→w.cell? ⟨b,o,none⟩=m.w.cell? ⟨b,o,none⟩)→(Builtin.firstCells size k (.slice base k cap)).run P w= .ok ⟨olds⟩ w) (ix:cap≤maxLen) (aC:k≤cap)
  (hb:(k+new.length)*bytes≤140737488355328) (DZ:k+new.length≤maxLen):
  (Builtin.append_ #[t,u] ty #[.slice base k cap,y]).run P m.w= .ok (.slice (some ⟨m.w.heap.size,0,none⟩) (k+new.length) (grownCap m.w (k+new.length) cap T))
   (m.w.drew.alloc (.cells (⟨olds++news⟩++Builtin.zeroCells A.z.cells (grownCap m.w (k+new.length) cap T-(k+new.length))) T)):=
 Hk A S j8 (aq m.w.drew fun _ _ _=>rfl) ix aC hb DZ
end
section
variable {P:Program}{m:Mem}{env:Env}{a:Act}{o:Oper}
theorem EW {aX:Mem}(bo:b5 aX){t size n cap b:Nat}{i:b2}{cur:Array Value}{T:TypeId}{rows:List (List I)}{l:List Value}(aO:aX.H.tok t=some i) (ek:aX.L t= .slice (some ⟨b,0,none⟩) n cap) (a6:i.n=rows.length) (aQ9:i.bg=rows.length) (ap:i.size=size) (rU:n=rows.length) (hb:aX.w.heap[b]? =some (.cells cur T (0,0)))
  (aH:aS aX rows.flatten l) (J: ∀v∈l,v.oneCell'=true) (hlen:l.length=rows.length*size) (dm: ∀r∈rows,r.length=size) (ah: ∀(j:Nat) (v:Value),l[j]? =some v→cur[j]? =some v) (ix:n≤cap) (kK:cap≤maxLen):aR aX (.own t size rows) (aX.L t):=by
 obtain⟨bC,bA,cO,fC⟩:=bo.tok t i aO
 obtain⟨cI,c8⟩:=fC b (by rw[ek]; rfl)
 have cK:b<aX.w.heap.size:=(Array.getElem?_eq_some_iff.1 hb).1
 simp only[aR]
 refine⟨⟨some ⟨b,0,none⟩,n,cap,ek,rU,⟨ix,kK⟩,.inr ⟨b,0,rfl,dE.of dm aH fun j v bq=>⟨?_,J v (List.mem_of_getElem? bq),⟨cK,cI,fun dx da gj gu=> ?_⟩⟩⟩⟩,bC,fun da gB=> ?_⟩
 ·rw[Nat.zero_add,cell_of_row aX.w b j cur T (0,0) hb]
  exact ah j v bq
 ·have:=c8 dx da gj gu
  subst this
  rw[aO]at gj
  simp at gj
  subst gj
  have:=(List.getElem?_eq_some_iff.1 bq).1
  rw[a6,ap]
  omega
 ·rw[aO]at gB
  simp at gB
  subst gB
  exact⟨by omega,fun _=>⟨trivial,ap⟩⟩
theorem NW {aX:Mem}(bo:b5 aX){t size:Nat}{i:b2}{v:Value}(aO:aX.H.tok t=some i) (ek:aX.L t=v) (af: ∃c7 cap,v= .slice c7 0 cap∧cap≤maxLen) (a6:i.bg=0) (ap:i.size=size):aR aX (.own t size []) v:=by
 obtain⟨bC,bA,cO,fC⟩:=bo.tok t i aO
 obtain⟨c7,cap,rfl,hm⟩:=af
 simp only[aR]
 refine⟨⟨c7,0,cap,rfl,rfl,⟨by omega,hm⟩,.inl rfl⟩,bC,fun da gB=> ?_⟩
 rw[aO]at gB
 simp at gB
 subst gB
 exact⟨by simp,fun _=>⟨ek,ap⟩⟩
theorem MW (bo:b5 m){w':World}{T size cap:Nat}{cur:Array Value}{rows:List (List I)}{l:List Value}(J:w'.os=m.w.os) (aa:w'.tape=m.w.tape) (au:w'.output=m.w.output) (bn:m.w.heap.size≤w'.heap.size) (bL: ∀b,b<m.w.heap.size→w'.heap[b]? =m.w.heap[b]?)
  (hb:w'.heap[m.w.heap.size]? =some (.cells cur T (0,0))) (aH:aS m rows.flatten l) (aq: ∀v∈l,v.oneCell'=true) (hlen:l.length=rows.length*size) (dm: ∀r∈rows,r.length=size) (ah: ∀(j:Nat) (v:Value),l[j]? =some v→cur[j]? =some v) (jc:cur.size=cap*size) (ix:rows.length≤cap) (kK:cap≤maxLen) (aw:size≠0):
  b5 (m.bF w' (.slice (some ⟨m.w.heap.size,0,none⟩) rows.length cap) (.bJ T size (rows.length)))∧b0 m (m.bF w' (.slice (some ⟨m.w.heap.size,0,none⟩) rows.length cap) (.bJ T size (rows.length)))∧
  aR (m.bF w' (.slice (some ⟨m.w.heap.size,0,none⟩) rows.length cap) (.bJ T size (rows.length))) (.own m.T size rows) (.slice (some ⟨m.w.heap.size,0,none⟩) rows.length cap):=by
 have af: ∀b,(Value.slice (some ⟨m.w.heap.size,0,none⟩) rows.length cap).ownBlock=some b→m.w.heap.size≤b:=fun b e=>by simp [Value.ownBlock]at e; omega
 have vy:w'.ownsRow 0 T size (.slice (some ⟨m.w.heap.size,0,none⟩) rows.length cap) rows.length (cur.toList.take (rows.length*size)):=by
  refine⟨?_,.inr ⟨m.w.heap.size,cap,cur,rfl,Nat.zero_le _,hb,ix,kK,jc,rfl⟩⟩
  have:rows.length*size≤cap*size:=Nat.mul_le_mul_right _ ix
  simp; omega
 have r:=b5.bF bo (v:= .slice (some ⟨m.w.heap.size,0,none⟩) rows.length cap) (o:=(.bJ T size (rows.length))) J aa au bn bL af aw ⟨_,vy,fun _ h=>by cases h⟩
 have e:=b0.bF bo (v:= .slice (some ⟨m.w.heap.size,0,none⟩) rows.length cap) (o:=(.bJ T size (rows.length))) J aa au bn bL af
 refine⟨r,e,?_⟩
 have:=EW r (t:=m.T) (i:=(.bJ T size (rows.length))) (size:=size) (rows:=rows) (l:=l) (n:=rows.length) (cap:=cap) (b:=m.w.heap.size) (cur:=cur) (T:=T) (by simp [Mem.bF,aA.cA]) (by simp [Mem.bF]) rfl rfl rfl rfl hb (aS.aJ e _ _ aH) aq hlen dm ah ix kK
 simpa [Mem.bF] using this
theorem EM (bo:b5 m){T size:Nat}(aw:size≠0):b5 (m.bF m.w (.slice none 0 0) (.bJ T size (0)))∧b0 m (m.bF m.w (.slice none 0 0) (.bJ T size (0)))∧aR (m.bF m.w (.slice none 0 0) (.bJ T size (0))) (.own m.T size []) (.slice none 0 0):=by
 have af: ∀b,(Value.slice none 0 0).ownBlock=some b→m.w.heap.size≤b:=fun b e=>by simp [Value.ownBlock]at e
 have r:=b5.bF bo (w':=m.w) (v:= .slice none 0 0) (o:=(.bJ T size (0))) rfl rfl rfl (Nat.le_refl _) (fun _ _=>rfl) af aw ⟨[],World.ownsRow_nil _ _ _ _,fun _ h=>by cases h⟩
 have e:=b0.bF bo (w':=m.w) (v:= .slice none 0 0) (o:=(.bJ T size (0))) rfl rfl rfl (Nat.le_refl _) (fun _ _=>rfl) af
 exact⟨r,e,NW r (i:=(.bJ T size (0))) (by simp [Mem.bF,aA.cA]) (by simp [Mem.bF]) ⟨none,0,rfl,Nat.zero_le _⟩ rfl rfl⟩
theorem x9 (z:Array Value) (n:Nat):(Builtin.zeroCells z n).size=n*z.size:=by simp [Builtin.zeroCells]
theorem sW (w:World) (l5:Obj) (b:Nat) (h:b<w.heap.size):(w.drew.alloc l5).heap[b]? =w.heap[b]? :=sZ w.drew l5 b h
theorem vs (w:World) (l5:Obj):(w.drew.alloc l5).heap[w.heap.size]? =some l5:=vz w.drew l5
theorem Ti {t u T ty:TypeId}{size bytes:Nat}(A:tD P t u T size bytes) (bo:b5 m){y:Value}{new:List (List I)}{news:List Value}(S:Src P m size y new news) (hb:new.length*bytes≤140737488355328) (kK:new.length≤maxLen) (aw:size≠0):
  ∃aX v,(Builtin.append_ #[t,u] ty #[.slice none 0 0,y]).run P m.w= .ok v aX.w∧b5 aX∧b0 m aX∧aX.H=m.H.cA m.T (.bJ T size (new.length))∧aR aX (.own m.T size new) v:=by
 by_cases a6:new.length=0
 ·have:new=[]:=List.eq_nil_of_length_eq_zero a6
  subst this
  have ag:=yn (ty:=ty) A (base:=none) (k:=0) (cap:=0) S (by simp)
  obtain⟨r,e,v⟩:=EM bo (T:=T) aw
  exact⟨m.bF m.w (.slice none 0 0) (.bJ T size (0)),_,ag,r,e,rfl,v⟩
 ·have ag:=Ap (ty:=ty) A (base:=none) (k:=0) (cap:=0) (olds:=[]) S (by omega) (fun w _=>by simp [Builtin.firstCells]) (Nat.zero_le _) (Nat.le_refl _) (by simpa using hb) (by simpa using kK)
  simp only[Nat.zero_add,List.nil_append]at ag
  have cM:=grownCap_ge m.w new.length 0 T
  have hle:=grownCap_le_maxLen m.w new.length 0 T kK
  obtain⟨r,e,v⟩:=MW bo (T:=T) (size:=size) (cap:=grownCap m.w new.length 0 T) (rows:=new) (l:=news) (w':=m.w.drew.alloc (.cells (⟨news⟩++Builtin.zeroCells A.z.cells (grownCap m.w new.length 0 T-new.length)) T)) rfl rfl rfl (by simp) (sW _ _) (vs _ _) S.zB S.one S.n S.oB
   (fun j v bq=>by
    rw[Array.getElem?_append]
    have:=(List.getElem?_eq_some_iff.1 bq).1
    simp only[List.size_toArray]
    rw[if_pos this]
    simpa using bq)
   (by
    simp only[Array.size_append,List.size_toArray,x9,A.pT,S.n,←Nat.add_mul]
    congr 1
    omega) cM hle aw
  exact⟨_,_,ag,r,e,rfl,v⟩
theorem Tj {t u T ty:TypeId}{size bytes:Nat}(A:tD P t u T size bytes) (bo:b5 m){dC:Nat}{rows:List (List I)}{v0:Value}(r0:aR m (.own dC size rows) v0) (aO:m.H.tok dC=some (.bJ T size (rows.length))){y:Value}{new:List (List I)}{news:List Value}(S:Src P m size y new news) (hb:(rows.length+new.length)*bytes≤140737488355328) (kK:rows.length+new.length≤maxLen):
  ∃aX v,(Builtin.append_ #[t,u] ty #[v0,y]).run P m.w= .ok v aX.w∧b5 aX∧b0 m aX∧aX.H=m.H.cA dC (.bJ T size (rows.length+new.length))∧aR aX (.own dC size (rows++new)) v:=by
 obtain⟨bC,bA,⟨xs,cO,_⟩,fC⟩:=bo.tok dC _ aO
 have ek:m.L dC=v0:=by
  simp only[aR]at r0
  exact ((r0.2.2 _ aO).2 rfl).1
 obtain⟨c7,cap,l,rfl,ix,qG,g1,g2,g3,g4⟩:=SC (vX r0)
 have yV:aS m (rows++new).flatten (l++news):=by rw[List.flatten_append]; exact aS.append g1 S.zB
 have j1: ∀v∈l++news,v.oneCell'=true:=fun v af=>by
  rcases List.mem_append.1 af with af|af
  ·rcases g4 with g4|⟨b,p,rfl,g4⟩
   ·have:l=[]:=List.eq_nil_of_length_eq_zero (by rw[g2,g4]; simp)
    subst this
    cases af
   ·exact MQ (Q:=fun v=>v.oneCell'=true) (fun j v bq=>(g4 j v bq).2.1) v af
  ·exact S.one v af
 have hlen:(l++news).length=(rows++new).length*size:=by rw[List.length_append,g2,S.n,List.length_append,Nat.add_mul]
 have dm: ∀r∈rows++new,r.length=size:=fun r ag=>by
  rcases List.mem_append.1 ag with ag|ag
  ·exact g3 r ag
  ·exact S.oB r ag
 -- where the row lies
 have vy:=cO.2
 rw[ek]at vy
 simp only[b2.bJ,b2.len]at vy
 have olds: ∀w:World,(∀b o,lR m b o→w.cell? ⟨b,o,none⟩=m.w.cell? ⟨b,o,none⟩)→(Builtin.firstCells size rows.length (.slice c7 rows.length cap)).run P w= .ok ⟨l⟩ w:=by
  intro w hw
  rcases g4 with g4|⟨b,p,rfl,g4⟩
  ·have:l=[]:=List.eq_nil_of_length_eq_zero (by rw[g2,g4]; simp)
   subst this
   rw[g4]
   cases c7 with
   |none=>simp [Builtin.firstCells]
   |some x=>simp [Builtin.firstCells,loadCells,loadCellsFrom]
  ·have:=run_loadCells_list (P:=P) w ⟨b,p,none⟩ l (fun j u bq=>by
    obtain⟨bC,bA,cO⟩:=g4 j u bq
    rw[nx]
    exact (hw b _ cO).trans bC)
   rw[g2]at this
   simp [Builtin.firstCells,this]
 by_cases j8:rows.length+new.length≤cap
 ·have ag:=yn (ty:=ty) A (base:=c7) (k:=rows.length) (cap:=cap) S j8
  rcases vy with ⟨y1,LY⟩|⟨g,V5,cur,y1,_,aY,aQ3,aP7,jc,aQ7⟩
  ·-- nil
   simp only[Value.slice.injEq]at y1
   obtain⟨rfl,aQ2,rfl⟩:=y1
   have ZB:new=[]:=List.eq_nil_of_length_eq_zero (by omega)
   subst ZB
   have jl:qg m m.w dC (.bJ T size (rows.length)) (m.L dC) (.bJ T size (rows.length+0)):=⟨⟨rfl,rfl,rfl,Nat.le_refl _,fun _ _ _=>rfl,fun _ _ _ _=>rfl,fun k aC=> .inl aC,Nat.le_refl _,rfl,rfl,Nat.le_refl _,fun _=>rfl⟩,⟨xs,cO,fun _ h=>by cases h⟩⟩
   refine⟨m.gt m.w dC (m.L dC) (.bJ T size (rows.length+0)),_,ag,b5.gt bo aO jl,b0.gt bo aO jl.toGrows0,rfl,?_⟩
   have:=aR.aJ (b0.gt bo aO jl.toGrows0) _ _ r0
   simpa using this
  ·-- in its block
   simp only[Value.slice.injEq]at y1
   obtain⟨rfl,_,rfl⟩:=y1
   have hq:(m.L dC).ownBlock=some g:=by rw[ek]; rfl
   have lc:=run_storeCells_at P g (rows.length*size) T news 0 cur m.w aY (by
    rw[S.n,jc,Nat.add_zero,←Nat.add_mul]
    exact Nat.mul_le_mul_right _ j8) S.one
   simp only[Nat.add_zero]at lc
   have kL:(Builtin.append_ #[t,u] ty #[.slice (some ⟨g,0,none⟩) rows.length cap,y]).run P m.w= .ok (.slice (some ⟨g,0,none⟩) (rows.length+new.length) cap) (m.w.setRow g (cur.toList.take (rows.length*size)++news++cur.toList.drop (rows.length*size+news.length)).toArray):=by
    rw[ag]
    simp only[nx,Nat.zero_add,lc,Result.andThen_ok]
   generalize nK:(cur.toList.take (rows.length*size)++news++cur.toList.drop (rows.length*size+news.length)).toArray=fU at kL
   have vv:=setRow_heap m.w g cur fU T (0,0) aY
   have hle:rows.length*size≤cur.size:=by rw[jc]; exact Nat.mul_le_mul_right _ ix
   have Zr:rows.length*size+news.length≤cur.size:=by
    rw[S.n,jc,←Nat.add_mul]
    exact Nat.mul_le_mul_right _ j8
   have qJ:fU.size=cap*size:=by
    rw[←nK,←jc]
    simp
    omega
   have xm: ∀(j:Nat),j<rows.length*size→fU[j]? =cur[j]? :=by
    intro j bq
    rw[←nK]
    simp only[List.getElem?_toArray,List.append_assoc]
    rw[List.getElem?_append_left (by simp; omega),List.getElem?_take,if_pos bq]
    simp
   have En: ∀(j:Nat) (v:Value),(l++news)[j]? =some v→fU[j]? =some v:=by
    intro j v bq
    by_cases LN:j<l.length
    ·rw[List.getElem?_append_left LN]at bq
     rw[xm j (by omega)]
     rcases g4 with g4|⟨b,p,Bg,g4⟩
     ·have:l.length=0:=by rw[g2,g4]; simp
      omega
     ·simp at Bg
      obtain⟨rfl,rfl⟩:=Bg
      have:=(g4 j v bq).1
      rw[Nat.zero_add,cell_of_row m.w g j cur T (0,0) aY]at this
      exact this
    ·rw[List.getElem?_append_right (by omega)]at bq
     rw[←nK]
     simp only[List.getElem?_toArray,List.append_assoc]
     have L9:(cur.toList.take (rows.length*size)).length=rows.length*size:=by simp; omega
     have xk:=(List.getElem?_eq_some_iff.1 bq).1
     rw[List.getElem?_append_right (by omega),L9,List.getElem?_append_left (by omega),←g2]
     exact bq
   have jl:qg m (m.w.setRow g fU) dC (.bJ T size (rows.length)) (.slice (some ⟨g,0,none⟩) (rows.length+new.length) cap) (.bJ T size (rows.length+new.length)):=by
    refine⟨⟨rfl,rfl,rfl,by simp,fun k aC dw=>setRow_other m.w g k fU (fun e=>dw (by rw[hq,e])),fun k c aC ah=> ?_,fun k aC=> .inl ?_,Nat.le_add_right _ _,rfl,rfl,Nat.le_add_right _ _,fun e=> ?_⟩,?_⟩
    ·rw[hq]at aC
     simp at aC
     subst aC
     rw[cell_of_row _ g c fU T (0,0) vv,cell_of_row m.w g c cur T (0,0) aY]
     exact xm c ah
    ·rw[hq]
     simpa [Value.ownBlock] using aC
    ·rw[ek]
     have:new.length=0:=by simpa [b2.bJ] using e
     simp [this]
    ·refine⟨fU.toList.take ((rows.length+new.length)*size),⟨?_,.inr ⟨g,cap,fU,rfl,Nat.zero_le _,vv,j8,qG,qJ,rfl⟩⟩,fun _ h=>by cases h⟩
     have:(rows.length+new.length)*size≤cap*size:=Nat.mul_le_mul_right _ j8
     simp [b2.bJ,b2.len]
     omega
   refine⟨m.gt (m.w.setRow g fU) dC (.slice (some ⟨g,0,none⟩) (rows.length+new.length) cap) (.bJ T size (rows.length+new.length)),_,kL,b5.gt bo aO jl,b0.gt bo aO jl.toGrows0,rfl,?_⟩
   have:=EW (b5.gt bo aO jl) (t:=dC) (i:=(.bJ T size (rows.length+new.length))) (size:=size) (rows:=rows++new) (l:=l++news) (n:=rows.length+new.length) (cap:=cap) (b:=g) (cur:=fU) (T:=T) (by simp [Mem.gt,aA.cA]) (by simp [Mem.gt]) (by simp [b2.bJ]) (by simp [b2.bJ]) rfl (by simp) vv (aS.aJ (b0.gt bo aO jl.toGrows0) _ _ yV) j1 hlen dm En j8 qG
   simpa [Mem.gt] using this
 ·-- into a new block
  have ag:=Ap (ty:=ty) A (base:=c7) (k:=rows.length) (cap:=cap) (olds:=l) S j8 olds qG ix hb kK
  have cM:=grownCap_ge m.w (rows.length+new.length) cap T
  have hle:=grownCap_le_maxLen m.w (rows.length+new.length) cap T kK
  generalize nK:(⟨l++news⟩++Builtin.zeroCells A.z.cells (grownCap m.w (rows.length+new.length) cap T-(rows.length+new.length)):Array Value)=fU at ag
  have qJ:fU.size=grownCap m.w (rows.length+new.length) cap T*size:=by
   rw[←nK]
   have:(l++news).length=(rows.length+new.length)*size:=by rw[hlen,List.length_append]
   simp only[Array.size_append,List.size_toArray,x9,A.pT,this,←Nat.add_mul]
   congr 1
   omega
  have En: ∀(j:Nat) (v:Value),(l++news)[j]? =some v→fU[j]? =some v:=by
   intro j v bq
   rw[←nK,Array.getElem?_append]
   have:=(List.getElem?_eq_some_iff.1 bq).1
   simp only[List.size_toArray]
   rw[if_pos this]
   simpa using bq
  have jl:qg m (m.w.drew.alloc (.cells fU T)) dC (.bJ T size (rows.length)) (.slice (some ⟨m.w.heap.size,0,none⟩) (rows.length+new.length) (grownCap m.w (rows.length+new.length) cap T)) (.bJ T size (rows.length+new.length)):=by
   refine⟨⟨rfl,rfl,rfl,by simp,fun k aC _=>sW _ _ _ aC,fun k c aC _=>World.cell?_of_block (a:=⟨k,c,none⟩) (sW _ _ _ (uR bo aO aC)),fun k aC=> .inr ?_,Nat.le_add_right _ _,rfl,rfl,Nat.le_add_right _ _,fun e=> ?_⟩,?_⟩
   ·simp [Value.ownBlock]at aC
    omega
   ·have:new.length=0:=by simpa [b2.bJ] using e
    omega
   ·refine⟨fU.toList.take ((rows.length+new.length)*size),⟨?_,.inr ⟨m.w.heap.size,_,fU,rfl,Nat.zero_le _,vs _ _,cM,hle,qJ,rfl⟩⟩,fun _ h=>by cases h⟩
    have:(rows.length+new.length)*size≤grownCap m.w (rows.length+new.length) cap T*size:=Nat.mul_le_mul_right _ cM
    simp [b2.bJ,b2.len]
    omega
  refine⟨m.gt (m.w.drew.alloc (.cells fU T)) dC (.slice (some ⟨m.w.heap.size,0,none⟩) (rows.length+new.length) (grownCap m.w (rows.length+new.length) cap T)) (.bJ T size (rows.length+new.length)),_,ag,b5.gt bo aO jl,b0.gt bo aO jl.toGrows0,rfl,?_⟩
  have:=EW (b5.gt bo aO jl) (t:=dC) (i:=(.bJ T size (rows.length+new.length))) (size:=size) (rows:=rows++new) (l:=l++news) (n:=rows.length+new.length) (cap:=grownCap m.w (rows.length+new.length) cap T) (b:=m.w.heap.size) (cur:=fU) (T:=T) (by simp [Mem.gt,aA.cA]) (by simp [Mem.gt]) (by simp [b2.bJ]) (by simp [b2.bJ]) rfl (by simp) (vs _ _) (aS.aJ (b0.gt bo aO jl.toGrows0) _ _ yV) j1 hlen dm En cM hle
  simpa [Mem.gt] using this
end
section
variable {P:Program}{m:Mem}{env:Env}{a:Act}{o:Oper}
theorem xu (bo:b5 m){t bg T size:Nat}{rows:List (List I)}{v:Value}(aO:m.H.tok t=some (.bS T size bg rows)) (af:aR m (.ez t bg) v):
  m.L t=v∧size≠0∧(∀r∈rows,r.length=size)∧((v= .slice none 0 0∧rows=[])∨∃g cap cur,v= .slice (some ⟨g,0,none⟩) rows.length cap∧m.w.heap[g]? =some (.cells cur T (0,0))∧rows.length≤cap∧cap≤maxLen∧cur.size=cap*size∧aS m rows.flatten (cur.toList.take (rows.length*size))∧∀u∈cur.toList.take (rows.length*size),u.oneCell'=true):=by
 simp only[aR]at af
 have ek:m.L t=v:=(af.2.2 _ aO).2 rfl
 obtain⟨bC,bA,⟨xs,cO,lH⟩,fC⟩:=bo.tok t _ aO
 obtain⟨lH,MB,ae2⟩:=lH rows rfl
 refine⟨ek,bA,MB,?_⟩
 rw[ek]at cO
 obtain⟨ae3,cO⟩:=cO
 simp only[b2.bS,b2.len]at cO ae3
 rcases cO with ⟨ar,ax⟩|⟨g,cap,cur,ar,_,ax,cw,fq,lB,AP⟩
 ·exact .inl ⟨ar,List.eq_nil_of_length_eq_zero ax⟩
 ·subst AP
  exact .inr ⟨g,cap,cur,ar,ax,cw,fq,lB,lH,ae2⟩
theorem s6 {aX:Mem}{t bg T size:Nat}{rows:List (List I)}{v:Value}(bo:b5 aX) (aO:aX.H.tok t=some (.bS T size bg rows)) (ek:aX.L t=v) (af:v.oneCell'=true):aR aX (.ez t bg) v:=by
 simp only[aR]
 refine⟨af,(bo.tok t _ aO).1,fun i ai=> ?_⟩
 rw[aO]at ai
 simp at ai
 subst ai
 exact⟨Nat.le_refl _,fun _=>ek⟩
theorem EL (bo:b5 m){w':World}{T size cap:Nat}{cur:Array Value}{rows:List (List I)}(J:w'.os=m.w.os) (aa:w'.tape=m.w.tape) (au:w'.output=m.w.output) (bn:m.w.heap.size≤w'.heap.size) (bL: ∀b,b<m.w.heap.size→w'.heap[b]? =m.w.heap[b]?)
  (hb:w'.heap[m.w.heap.size]? =some (.cells cur T (0,0))) (aH:aS m rows.flatten (cur.toList.take (rows.length*size))) (aq: ∀v∈cur.toList.take (rows.length*size),v.oneCell'=true) (dm: ∀r∈rows,r.length=size) (jc:cur.size=cap*size) (ix:rows.length≤cap) (kK:cap≤maxLen) (aw:size≠0):
  b5 (m.bF w' (.slice (some ⟨m.w.heap.size,0,none⟩) rows.length cap) (.bS T size 0 rows))∧b0 m (m.bF w' (.slice (some ⟨m.w.heap.size,0,none⟩) rows.length cap) (.bS T size 0 rows))∧
  aR (m.bF w' (.slice (some ⟨m.w.heap.size,0,none⟩) rows.length cap) (.bS T size 0 rows)) (.ez m.T 0) (.slice (some ⟨m.w.heap.size,0,none⟩) rows.length cap):=by
 have af: ∀b,(Value.slice (some ⟨m.w.heap.size,0,none⟩) rows.length cap).ownBlock=some b→m.w.heap.size≤b:=fun b e=>by simp [Value.ownBlock]at e; omega
 have e:=b0.bF bo (v:= .slice (some ⟨m.w.heap.size,0,none⟩) rows.length cap) (o:= .bS T size 0 rows) J aa au bn bL af
 have vy:w'.ownsRow 0 T size (.slice (some ⟨m.w.heap.size,0,none⟩) rows.length cap) rows.length (cur.toList.take (rows.length*size)):=by
  refine⟨?_,.inr ⟨m.w.heap.size,cap,cur,rfl,Nat.zero_le _,hb,ix,kK,jc,rfl⟩⟩
  have:rows.length*size≤cap*size:=Nat.mul_le_mul_right _ ix
  simp; omega
 have r:=b5.bF bo (v:= .slice (some ⟨m.w.heap.size,0,none⟩) rows.length cap) (o:= .bS T size 0 rows) J aa au bn bL af aw ⟨_,vy,fun gC h=>by cases h; exact⟨aS.aJ e _ _ aH,dm,aq⟩⟩
 exact⟨r,e,s6 r (T:=T) (size:=size) (rows:=rows) (by simp [Mem.bF,aA.cA]) (by simp [Mem.bF]) rfl⟩
theorem ai9 (bo:b5 m){T size:Nat}(aw:size≠0):b5 (m.bF m.w (.slice none 0 0) (.bS T size 0 []))∧b0 m (m.bF m.w (.slice none 0 0) (.bS T size 0 []))∧aR (m.bF m.w (.slice none 0 0) (.bS T size 0 [])) (.ez m.T 0) (.slice none 0 0):=by
 have af: ∀b,(Value.slice none 0 0).ownBlock=some b→m.w.heap.size≤b:=fun b e=>by simp [Value.ownBlock]at e
 have e:=b0.bF bo (w':=m.w) (v:= .slice none 0 0) (o:= .bS T size 0 []) rfl rfl rfl (Nat.le_refl _) (fun _ _=>rfl) af
 have r:=b5.bF bo (w':=m.w) (v:= .slice none 0 0) (o:= .bS T size 0 []) rfl rfl rfl (Nat.le_refl _) (fun _ _=>rfl) af aw ⟨[],World.ownsRow_nil _ _ _ _,fun gC h=>by cases h; exact⟨by simp [aS],by simp,by simp⟩⟩
 exact⟨r,e,s6 r (T:=T) (size:=size) (rows:=[]) (by simp [Mem.bF,aA.cA]) (by simp [Mem.bF]) rfl⟩
theorem Th {t u T ty:TypeId}{size bytes:Nat}(A:tD P t u T size bytes) (bo:b5 m){y:Value}{new:List (List I)}{news:List Value}(S:Src P m size y new news) (hb:new.length*bytes≤140737488355328) (kK:new.length≤maxLen) (aw:size≠0):
  ∃aX v,(Builtin.append_ #[t,u] ty #[.slice none 0 0,y]).run P m.w= .ok v aX.w∧b5 aX∧b0 m aX∧aX.H=m.H.cA m.T (.bS T size 0 new)∧aR aX (.ez m.T 0) v:=by
 by_cases a6:new.length=0
 ·have:new=[]:=List.eq_nil_of_length_eq_zero a6
  subst this
  have ag:=yn (ty:=ty) A (base:=none) (k:=0) (cap:=0) S (by simp)
  obtain⟨r,e,v⟩:=ai9 bo (T:=T) aw
  exact⟨m.bF m.w (.slice none 0 0) (.bS T size 0 []),_,ag,r,e,rfl,v⟩
 ·have ag:=Ap (ty:=ty) A (base:=none) (k:=0) (cap:=0) (olds:=[]) S (by omega) (fun w _=>by simp [Builtin.firstCells]) (Nat.zero_le _) (Nat.le_refl _) (by simpa using hb) (by simpa using kK)
  simp only[Nat.zero_add,List.nil_append]at ag
  have cM:=grownCap_ge m.w new.length 0 T
  have hle:=grownCap_le_maxLen m.w new.length 0 T kK
  have kM:(⟨news⟩++Builtin.zeroCells A.z.cells (grownCap m.w new.length 0 T-new.length):Array Value).toList.take (new.length*size)=news:=by
   simp only[Array.toList_append]
   rw[←S.n,List.take_left]
  obtain⟨r,e,v⟩:=EL bo (T:=T) (size:=size) (cap:=grownCap m.w new.length 0 T) (rows:=new) (cur:=⟨news⟩++Builtin.zeroCells A.z.cells (grownCap m.w new.length 0 T-new.length)) (w':=m.w.drew.alloc (.cells (⟨news⟩++Builtin.zeroCells A.z.cells (grownCap m.w new.length 0 T-new.length)) T)) rfl rfl rfl (by simp) (sW _ _) (vs _ _) (by rw[kM]; exact S.zB) (by rw[kM]; exact S.one) S.oB
   (by
    simp only[Array.size_append,List.size_toArray,x9,A.pT,S.n,←Nat.add_mul]
    congr 1
    omega) cM hle aw
  exact⟨_,_,ag,r,e,rfl,v⟩
theorem Tg {t u T ty:TypeId}{size bytes:Nat}(A:tD P t u T size bytes) (bo:b5 m){dC bg:Nat}{rows:List (List I)}{v0:Value}(r0:aR m (.ez dC bg) v0) (aO:m.H.tok dC=some (.bS T size bg rows)){y:Value}{new:List (List I)}{news:List Value}(S:Src P m size y new news) (hb:(rows.length+new.length)*bytes≤140737488355328) (kK:rows.length+new.length≤maxLen):
  ∃aX v,(Builtin.append_ #[t,u] ty #[v0,y]).run P m.w= .ok v aX.w∧b5 aX∧b0 m aX∧aX.H=m.H.cA dC (.bS T size (bg+1) (rows++new))∧aR aX (.ez dC (bg+1)) v:=by
 obtain⟨ek,aw,ap,xd⟩:=xu bo aO r0
 have dm: ∀r∈rows++new,r.length=size:=fun r ag=>by
  rcases List.mem_append.1 ag with ag|ag
  ·exact ap r ag
  ·exact S.oB r ag
 rcases xd with ⟨rfl,rfl⟩|⟨g,cap,cur,rfl,aY,ix,qG,jc,rY,j1⟩
 ·-- nil
  simp only[List.length_nil,Nat.zero_add]at hb kK
  by_cases a6:new.length=0
  ·have:new=[]:=List.eq_nil_of_length_eq_zero a6
   subst this
   have ag:=yn (ty:=ty) A (base:=none) (k:=0) (cap:=0) S (by simp)
   have g0:Grows0 m m.w dC (.bS T size bg []) (.slice none 0 0) (.bS T size (bg+1) []):=⟨rfl,rfl,rfl,Nat.le_refl _,fun _ _ _=>rfl,fun _ _ _ _=>rfl,fun k aC=>by simp [Value.ownBlock]at aC,Nat.le_refl _,rfl,rfl,Nat.le_succ _,fun e=>by simp [b2.bS]at e⟩
   have jl:qg m m.w dC (.bS T size bg []) (.slice none 0 0) (.bS T size (bg+1) []):=⟨g0,[],World.ownsRow_nil _ _ _ _,fun gC h=>by cases h; exact⟨by simp [aS],by simp,by simp⟩⟩
   have r:=b5.gt bo aO jl
   exact⟨m.gt m.w dC (.slice none 0 0) (.bS T size (bg+1) []),_,ag,r,b0.gt bo aO g0,rfl,s6 r (T:=T) (size:=size) (rows:=[]) (by simp [Mem.gt,aA.cA]) (by simp [Mem.gt]) rfl⟩
  ·have ag:=Ap (ty:=ty) A (base:=none) (k:=0) (cap:=0) (olds:=[]) S (by omega) (fun w _=>by simp [Builtin.firstCells]) (Nat.zero_le _) (Nat.le_refl _) (by simpa using hb) (by simpa using kK)
   simp only[Nat.zero_add,List.nil_append]at ag
   have cM:=grownCap_ge m.w new.length 0 T
   have hle:=grownCap_le_maxLen m.w new.length 0 T kK
   generalize nK:(⟨news⟩++Builtin.zeroCells A.z.cells (grownCap m.w new.length 0 T-new.length):Array Value)=fU at ag
   have kM:fU.toList.take (new.length*size)=news:=by
    rw[←nK]
    simp only[Array.toList_append]
    rw[←S.n,List.take_left]
   have qJ:fU.size=grownCap m.w new.length 0 T*size:=by
    rw[←nK]
    simp only[Array.size_append,List.size_toArray,x9,A.pT,S.n,←Nat.add_mul]
    congr 1
    omega
   have g0:Grows0 m (m.w.drew.alloc (.cells fU T)) dC (.bS T size bg []) (.slice (some ⟨m.w.heap.size,0,none⟩) new.length (grownCap m.w new.length 0 T)) (.bS T size (bg+1) new):=
    ⟨rfl,rfl,rfl,by simp,fun k aC _=>sW _ _ _ aC,fun k c aC _=>World.cell?_of_block (a:=⟨k,c,none⟩) (sW _ _ _ (uR bo aO aC)),fun k aC=> .inr (by simp [Value.ownBlock]at aC; omega),Nat.le_refl _,rfl,rfl,Nat.le_succ _,fun e=>by simp [b2.bS]at e⟩
   have aJ:=b0.gt bo aO g0
   have jl:qg m (m.w.drew.alloc (.cells fU T)) dC (.bS T size bg []) (.slice (some ⟨m.w.heap.size,0,none⟩) new.length (grownCap m.w new.length 0 T)) (.bS T size (bg+1) new):=
    ⟨g0,news,⟨S.n,.inr ⟨m.w.heap.size,_,fU,rfl,Nat.zero_le _,vs _ _,cM,hle,qJ,kM⟩⟩,fun gC h=>by cases h; exact⟨aS.aJ aJ _ _ S.zB,S.oB,S.one⟩⟩
   have r:=b5.gt bo aO jl
   exact⟨m.gt (m.w.drew.alloc (.cells fU T)) dC (.slice (some ⟨m.w.heap.size,0,none⟩) new.length (grownCap m.w new.length 0 T)) (.bS T size (bg+1) new),_,ag,r,aJ,by simp [Mem.gt],s6 r (T:=T) (size:=size) (rows:=new) (by simp [Mem.gt,aA.cA]) (by simp [Mem.gt]) rfl⟩
 ·have Eh:rows.length*size≤cur.size:=by rw[jc]; exact Nat.mul_le_mul_right _ ix
  generalize aH:cur.toList.take (rows.length*size)=l at rY j1
  have j9:l.length=rows.length*size:=by rw[←aH]; simp; omega
  have Zp: ∀(j:Nat) (u:Value),l[j]? =some u→m.w.cell? ⟨g,j,none⟩=some u:=by
   intro j u bq
   rw[cell_of_row m.w g j cur T (0,0) aY]
   rw[←aH,List.getElem?_take]at bq
   split at bq
   ·simpa using bq
   ·cases bq
  have yV:aS m (rows++new).flatten (l++news):=by rw[List.flatten_append]; exact aS.append rY S.zB
  have Br: ∀v∈l++news,v.oneCell'=true:=fun v af=>by
   rcases List.mem_append.1 af with af|af
   ·exact j1 v af
   ·exact S.one v af
  have hlen:(l++news).length=(rows++new).length*size:=by rw[List.length_append,j9,S.n,List.length_append,Nat.add_mul]
  have hq:(m.L dC).ownBlock=some g:=by rw[ek]; rfl
  by_cases j8:rows.length+new.length≤cap
  ·have ag:=yn (ty:=ty) A (base:=some ⟨g,0,none⟩) (k:=rows.length) (cap:=cap) S j8
   have lc:=run_storeCells_at P g (rows.length*size) T news 0 cur m.w aY (by
    rw[S.n,jc,Nat.add_zero,←Nat.add_mul]
    exact Nat.mul_le_mul_right _ j8) S.one
   simp only[Nat.add_zero]at lc
   have kL:(Builtin.append_ #[t,u] ty #[.slice (some ⟨g,0,none⟩) rows.length cap,y]).run P m.w= .ok (.slice (some ⟨g,0,none⟩) (rows.length+new.length) cap) (m.w.setRow g (cur.toList.take (rows.length*size)++news++cur.toList.drop (rows.length*size+news.length)).toArray):=by
    rw[ag]
    simp only[nx,Nat.zero_add,lc,Result.andThen_ok]
   rw[aH]at kL
   generalize nK:(l++news++cur.toList.drop (rows.length*size+news.length)).toArray=fU at kL
   have vv:=setRow_heap m.w g cur fU T (0,0) aY
   have Zr:rows.length*size+news.length≤cur.size:=by
    rw[S.n,jc,←Nat.add_mul]
    exact Nat.mul_le_mul_right _ j8
   have qJ:fU.size=cap*size:=by
    rw[←nK,←jc]
    simp
    omega
   have kM:fU.toList.take ((rows++new).length*size)=l++news:=by
    rw[←nK,←hlen]
    simp only[List.toList_toArray]
    rw[List.take_left]
   have g0:Grows0 m (m.w.setRow g fU) dC (.bS T size bg rows) (.slice (some ⟨g,0,none⟩) (rows.length+new.length) cap) (.bS T size (bg+1) (rows++new)):=
    ⟨rfl,rfl,rfl,by simp,fun k aC dw=>setRow_other m.w g k fU (fun e=>dw (by rw[hq,e])),fun k c aC ah=>by simp [b2.bS]at ah,fun k aC=> .inl (by rw[hq]; simpa [Value.ownBlock] using aC),Nat.le_refl _,rfl,rfl,Nat.le_succ _,fun e=>by simp [b2.bS]at e⟩
   have aJ:=b0.gt bo aO g0
   have jl:qg m (m.w.setRow g fU) dC (.bS T size bg rows) (.slice (some ⟨g,0,none⟩) (rows.length+new.length) cap) (.bS T size (bg+1) (rows++new)):=
    ⟨g0,l++news,⟨hlen,.inr ⟨g,cap,fU,by simp [b2.bS,b2.len],Nat.zero_le _,vv,by simpa [b2.bS,b2.len] using j8,qG,qJ,kM⟩⟩,fun gC h=>by cases h; exact⟨aS.aJ aJ _ _ yV,dm,Br⟩⟩
   have r:=b5.gt bo aO jl
   exact⟨m.gt (m.w.setRow g fU) dC (.slice (some ⟨g,0,none⟩) (rows.length+new.length) cap) (.bS T size (bg+1) (rows++new)),_,kL,r,aJ,rfl,s6 r (T:=T) (size:=size) (rows:=rows++new) (by simp [Mem.gt,aA.cA]) (by simp [Mem.gt]) rfl⟩
  ·have olds:(Builtin.firstCells size rows.length (.slice (some ⟨g,0,none⟩) rows.length cap)).run P m.w.drew= .ok ⟨l⟩ m.w.drew:=by
    have:=run_loadCells_list (P:=P) m.w.drew ⟨g,0,none⟩ l (fun j u bq=>by
     rw[nx,Nat.zero_add]
     exact Zp j u bq)
    rw[j9]at this
    simp [Builtin.firstCells,this]
   have ag:=Hk (ty:=ty) A (base:=some ⟨g,0,none⟩) (k:=rows.length) (cap:=cap) (olds:=l) S j8 olds qG ix hb kK
   have cM:=grownCap_ge m.w (rows.length+new.length) cap T
   have hle:=grownCap_le_maxLen m.w (rows.length+new.length) cap T kK
   generalize nK:(⟨l++news⟩++Builtin.zeroCells A.z.cells (grownCap m.w (rows.length+new.length) cap T-(rows.length+new.length)):Array Value)=fU at ag
   have kM:fU.toList.take ((rows++new).length*size)=l++news:=by
    rw[←nK,←hlen]
    simp only[Array.toList_append]
    rw[List.take_left]
   have qJ:fU.size=grownCap m.w (rows.length+new.length) cap T*size:=by
    rw[←nK]
    have:(l++news).length=(rows.length+new.length)*size:=by rw[hlen,List.length_append]
    simp only[Array.size_append,List.size_toArray,x9,A.pT,this,←Nat.add_mul]
    congr 1
    omega
   have g0:Grows0 m (m.w.drew.alloc (.cells fU T)) dC (.bS T size bg rows) (.slice (some ⟨m.w.heap.size,0,none⟩) (rows.length+new.length) (grownCap m.w (rows.length+new.length) cap T)) (.bS T size (bg+1) (rows++new)):=
    ⟨rfl,rfl,rfl,by simp,fun k aC _=>sW _ _ _ aC,fun k c aC ah=>by simp [b2.bS]at ah,fun k aC=> .inr (by simp [Value.ownBlock]at aC; omega),Nat.le_refl _,rfl,rfl,Nat.le_succ _,fun e=>by simp [b2.bS]at e⟩
   have aJ:=b0.gt bo aO g0
   have jl:qg m (m.w.drew.alloc (.cells fU T)) dC (.bS T size bg rows) (.slice (some ⟨m.w.heap.size,0,none⟩) (rows.length+new.length) (grownCap m.w (rows.length+new.length) cap T)) (.bS T size (bg+1) (rows++new)):=
    ⟨g0,l++news,⟨hlen,.inr ⟨m.w.heap.size,_,fU,by simp [b2.bS,b2.len],Nat.zero_le _,vs _ _,by simpa [b2.bS,b2.len] using cM,hle,qJ,kM⟩⟩,fun gC h=>by cases h; exact⟨aS.aJ aJ _ _ yV,dm,Br⟩⟩
   have r:=b5.gt bo aO jl
   exact⟨m.gt (m.w.drew.alloc (.cells fU T)) dC (.slice (some ⟨m.w.heap.size,0,none⟩) (rows.length+new.length) (grownCap m.w (rows.length+new.length) cap T)) (.bS T size (bg+1) (rows++new)),_,ag,r,aJ,rfl,s6 r (T:=T) (size:=size) (rows:=rows++new) (by simp [Mem.gt,aA.cA]) (by simp [Mem.gt]) rfl⟩
theorem aF1 (l new:List Value) (k n:Nat) (h:k+new.length≤n) (a6:n≤l.length):(gZ l k new).take n=gZ (l.take n) k new:=by
 unfold gZ
 have ar:(l.take k++new).length=k+new.length:=by simp; omega
 rw[List.take_append,ar,List.take_of_length_le (by omega),List.take_take,Nat.min_eq_left (by omega),List.drop_take]
theorem FQ {size:Nat}: ∀ {rows:List (List I)},(∀r∈rows,r.length=size)→rows.flatten.length=rows.length*size
 |[],_=>by simp
 |r::rows,h=>by
  rw[List.flatten_cons,List.length_append,FQ (fun x ab=>h x (by simp [ab])),h r (by simp),List.length_cons,Nat.add_mul]
  omega
theorem EJ (bo:b5 m){dC bg k T size:Nat}{rows:List (List I)}{mE:Value}(hp:aR m (.mp dC bg k) mE) (aO:m.H.tok dC=some (.bS T size bg rows)):
  ∃g cap cur,mE= .pointer (some ⟨g,k,none⟩)∧m.L dC= .slice (some ⟨g,0,none⟩) rows.length cap∧size≠0∧(∀r∈rows,r.length=size)∧m.w.heap[g]? =some (.cells cur T (0,0))∧rows.length≤cap∧cap≤maxLen∧cur.size=cap*size∧aS m rows.flatten (cur.toList.take (rows.length*size))∧∀u∈cur.toList.take (rows.length*size),u.oneCell'=true:=by
 simp only[aR]at hp
 obtain⟨b,len,cap,ar,ax⟩:=(hp.2.2 _ aO).2 rfl
 have af:aR m (.ez dC bg) (m.L dC):=s6 bo aO rfl (by rw[ar]; rfl)
 obtain⟨_,aw,ap,ah⟩:=xu bo aO af
 rw[ar]at ah
 rcases ah with ⟨e,_⟩|⟨g,V5,cur,e,r⟩
 ·simp at e
 ·simp only[Value.slice.injEq,Option.some.injEq,Addr.mk.injEq]at e
  obtain⟨⟨rfl,_⟩,rfl,rfl⟩:=e
  exact⟨b,cap,cur,ax,ar,aw,ap,r⟩
theorem RY (bo:b5 m){dC bg k T size:Nat}{rows gC:List (List I)}{mE:Value}{cs:List I}{l:List Value}(hp:aR m (.mp dC bg k) mE) (aO:m.H.tok dC=some (.bS T size bg rows)) (aH:k+cs.length≤rows.flatten.length) (jc:aS m cs l) (aq: ∀u∈l,u.oneCell'=true)
  (aW:gC.flatten=gx rows.flatten k cs) (ag: ∀r∈gC,r.length=size) (hlen:gC.length=rows.length):
  ∃g aX,mE= .pointer (some ⟨g,k,none⟩)∧(storeCells ⟨g,k,none⟩ l 0).run P m.w= .ok () aX.w∧b5 aX∧b0 m aX∧aX.H=m.H.cA dC (.bS T size bg gC):=by
 obtain⟨g,cap,cur,ar,ax,aw,ap,aY,ix,qG,yQ,rY,j1⟩:=EJ bo hp aO
 have a6:=aS.length jc
 have ZP:=FQ ap
 have Eh:rows.length*size≤cur.size:=by rw[yQ]; exact Nat.mul_le_mul_right _ ix
 have lc:=run_storeCells_at P g k T l 0 cur m.w aY (by omega) aq
 have YY:(cur.toList.take (k+0)++l++cur.toList.drop (k+0+l.length)).toArray=⟨gZ cur.toList k l⟩:=by simp [gZ]
 rw[YY]at lc
 have kM:(gZ cur.toList k l).take (rows.length*size)=gZ (cur.toList.take (rows.length*size)) k l:=aF1 _ _ _ _ (by omega) (by simpa using Eh)
 have vv:=setRow_heap m.w g cur ⟨gZ cur.toList k l⟩ T (0,0) aY
 have hq:(m.L dC).ownBlock=some g:=by rw[ax]; rfl
 have qJ:(⟨gZ cur.toList k l⟩:Array Value).size=cap*size:=by
  rw[←yQ]
  simp [gZ]
  omega
 have g0:Grows0 m (m.w.setRow g ⟨gZ cur.toList k l⟩) dC (.bS T size bg rows) (m.L dC) (.bS T size bg gC):=
  ⟨rfl,rfl,rfl,by simp,fun x aC dw=>setRow_other m.w g x _ (fun e=>dw (by rw[hq,e])),fun x c aC ah=>by simp [b2.bS]at ah,fun x aC=> .inl aC,Nat.le_refl _,rfl,rfl,Nat.le_refl _,fun _=>rfl⟩
 have aJ:=b0.gt bo aO g0
 have jl:qg m (m.w.setRow g ⟨gZ cur.toList k l⟩) dC (.bS T size bg rows) (m.L dC) (.bS T size bg gC):=by
  refine⟨g0,gZ (cur.toList.take (rows.length*size)) k l,⟨?_,.inr ⟨g,cap,⟨gZ cur.toList k l⟩,?_,Nat.zero_le _,vv,?_,qG,qJ,?_⟩⟩,fun aS0 bh=> ?_⟩
  ·simp [b2.bS,b2.len,gZ]
   rw[hlen]
   omega
  ·rw[ax]; simp [b2.bS,b2.len,hlen]
  ·simp [b2.bS,b2.len,hlen]; exact ix
  ·simp only[b2.bS,b2.len,hlen]; exact kM
  ·cases bh
   refine⟨aS.aJ aJ _ _ ?_,ag,fun v af=> ?_⟩
   ·rw[aW]
    exact F2 rY jc k
   ·simp only[gZ,List.mem_append]at af
    rcases af with (af|af)|af
    ·exact j1 v (List.mem_of_mem_take af)
    ·exact aq v af
    ·exact j1 v (List.mem_of_mem_drop af)
 have r:=b5.gt bo aO jl
 exact⟨g,m.gt (m.w.setRow g ⟨gZ cur.toList k l⟩) dC (m.L dC) (.bS T size bg gC),ar,lc,r,aJ,rfl⟩
theorem aG2 (bo:b5 m){dC bg T size h:Nat}{rows:List (List I)}{c7:Option Addr}{cap:Nat}(r0:aR m (.ez dC bg) (.slice c7 rows.length cap)) (aO:m.H.tok dC=some (.bS T size bg rows)) (J:h≤rows.length):
  ∃aX,aX.w=m.w∧b5 aX∧b0 m aX∧aX.H=m.H.cA dC (.bS T size (bg+1) (rows.take h))∧aR aX (.ez dC (bg+1)) (.slice c7 h cap):=by
 obtain⟨ek,aw,ap,xd⟩:=xu bo aO r0
 have hlen:(rows.take h).length=h:=by simp; omega
 rcases xd with ⟨e,rfl⟩|⟨g,cap,cur,e,aY,ix,qG,jc,rY,j1⟩
 ·simp only[List.length_nil,Nat.le_zero_eq]at J
  subst J
  simp only[Value.slice.injEq]at e
  obtain⟨rfl,_,rfl⟩:=e
  have g0:Grows0 m m.w dC (.bS T size bg []) (.slice none 0 0) (.bS T size (bg+1) []):=⟨rfl,rfl,rfl,Nat.le_refl _,fun _ _ _=>rfl,fun _ _ _ _=>rfl,fun k aC=>by simp [Value.ownBlock]at aC,Nat.le_refl _,rfl,rfl,Nat.le_succ _,fun e=>by simp [b2.bS]at e⟩
  have jl:qg m m.w dC (.bS T size bg []) (.slice none 0 0) (.bS T size (bg+1) []):=⟨g0,[],World.ownsRow_nil _ _ _ _,fun gC h=>by cases h; exact⟨by simp [aS],by simp,by simp⟩⟩
  have r:=b5.gt bo aO jl
  exact⟨m.gt m.w dC (.slice none 0 0) (.bS T size (bg+1) []),rfl,r,b0.gt bo aO g0,rfl,s6 r (T:=T) (size:=size) (rows:=[]) (by simp [Mem.gt,aA.cA]) (by simp [Mem.gt]) rfl⟩
 ·simp only[Value.slice.injEq]at e
  obtain⟨rfl,_,rfl⟩:=e
  have hq:(m.L dC).ownBlock=some g:=by rw[ek]; rfl
  have Eh:rows.length*size≤cur.size:=by rw[jc]; exact Nat.mul_le_mul_right _ ix
  have Zq:h*size≤rows.length*size:=Nat.mul_le_mul_right _ J
  have yU:(rows.take h).flatten=rows.flatten.take (h*size):=by
   have: ∀(rows:List (List I)) (h:Nat),(∀r∈rows,r.length=size)→h≤rows.length→(rows.take h).flatten=rows.flatten.take (h*size):=by
    intro rows
    induction rows with
    |nil=>intro h _ bh; simp
    |cons r rows cv=>
     intro h ap bh
     cases h with
     |zero=>simp
     |succ h=>
      have ag:=ap r (by simp)
      rw[List.take_succ_cons,List.flatten_cons,List.flatten_cons,cv h (fun x ab=>ap x (by simp [ab])) (by simpa using bh),Nat.add_mul,Nat.one_mul,Nat.add_comm,←ag,List.take_length_add_append]
   exact this rows h ap J
  have Mb:cur.toList.take (h*size)=(cur.toList.take (rows.length*size)).take (h*size):=by rw[List.take_take,Nat.min_eq_left Zq]
  have g0:Grows0 m m.w dC (.bS T size bg rows) (.slice (some ⟨g,0,none⟩) h cap) (.bS T size (bg+1) (rows.take h)):=⟨rfl,rfl,rfl,Nat.le_refl _,fun _ _ _=>rfl,fun _ _ _ _=>rfl,fun k aC=> .inl (by rw[hq]; simpa [Value.ownBlock] using aC),Nat.le_refl _,rfl,rfl,Nat.le_succ _,fun e=>by simp [b2.bS]at e⟩
  have aJ:=b0.gt bo aO g0
  have jl:qg m m.w dC (.bS T size bg rows) (.slice (some ⟨g,0,none⟩) h cap) (.bS T size (bg+1) (rows.take h)):=⟨g0,cur.toList.take (h*size),⟨by simp only[b2.bS,b2.len,hlen]; simp; omega,.inr ⟨g,cap,cur,by simp [b2.bS,b2.len]; omega,Nat.zero_le _,aY,by simp [b2.bS,b2.len]; omega,qG,jc,by simp only[b2.bS,b2.len,hlen]⟩⟩,fun gC bh=>by
   cases bh
   refine⟨aS.aJ aJ _ _ ?_,fun r ag=>ap r (List.mem_of_mem_take ag),fun u hu=>j1 u ?_⟩
   ·rw[yU,Mb]
    exact aS.take _ rY
   ·rw[Mb]at hu
    exact List.mem_of_mem_take hu⟩
  have r:=b5.gt bo aO jl
  exact⟨m.gt m.w dC (.slice (some ⟨g,0,none⟩) h cap) (.bS T size (bg+1) (rows.take h)),rfl,r,aJ,rfl,s6 r (T:=T) (size:=size) (rows:=rows.take h) (by simp [Mem.gt,aA.cA]) (by simp [Mem.gt]) rfl⟩
end
section
variable {P:Program}{m:Mem}{env:Env}{a:Act}{o:Oper}
theorem MU (bo:b5 m){t bg T size:Nat}{rows:List (List I)}{v:Value}(aO:m.H.tok t=some (.bS T size bg rows)) (af:aR m (.ez t bg) v): ∃c7 cap,v= .slice c7 rows.length cap∧rows.length≤cap:=by
 obtain⟨_,_,_,ah⟩:=xu bo aO af
 rcases ah with ⟨rfl,rfl⟩|⟨g,cap,cur,rfl,_,h,_⟩
 ·exact⟨none,0,rfl,Nat.le_refl _⟩
 ·exact⟨_,cap,rfl,h⟩
theorem WM {c y t bg T size}{rows:List (List I)}(he:dJ m env a.tmps) (bo:b5 m) (aq:o.op= .call c) (h:br P o.op (.jo y)=true) (ar:y.aJ env= .ez t bg) (aO:m.H.tok t=some (.bS T size bg rows)):fM P m a o (.int .i64 rows.length):=by
 obtain⟨callee,args,argTypes⟩:=c
 rw[aq]at h
 cases callee with
 |value f=>simp [br]at h
 |invoke _ _=>simp [br]at h
 |builtin b=>
  cases b<;>simp only[br]at h<;>first
   |(cases h; done)
   |skip
  simp only[Bool.and_eq_true]at h
  obtain⟨J,aa⟩:=h
  split at J
  ·rename_i x ab
   split at aa
   ·rename_i dx gj
    have ah:=dl he J
    obtain rfl:=tN ab
    obtain rfl:=tN gj
    split at aa
    ·rename_i el hu
     rw[ar]at ah
     obtain⟨c7,cap,ax,_⟩:=MU bo aO ah
     refine⟨.int .i64 rows.length,?_,by simp only[aR]⟩
     refine Ax aq rfl rfl P m.w m.w (.int .i64 rows.length) ?_
     simp [builtin,Builtin.len_,run_underlying hu,ax,goInt]
    ·cases aa
   ·cases aa
  ·cases J
theorem Cq {t el:TypeId}(eU:jR P t=some el):P.underlying t=some (.slice el):=by
 unfold jR at eU
 split at eU
 ·rename_i e hu; simp at eU; subst eU; exact hu
 ·cases eU
theorem WH {ty x i size cY da t bg T k}{rows:List (List I)}{n:Int}(he:dJ m env a.tmps) (bo:b5 m) (aq:o.op= .indexAddr ty x i) (h:br P o.op (.j2 size cY da)=true) (ar:cY.aJ env= .ez t bg) (aO:m.H.tok t=some (.bS T size bg rows)) (ax:da.aJ env= .int k n) (aw:0≤n) (ag:n<(rows.length:Int)):fM P m a o (.mp t bg (n.toNat*size)):=by
 rw[aq]at h
 simp only[br,Bool.and_eq_true]at h
 obtain⟨⟨J,aa⟩,au⟩:=h
 have ai:=dl he aa
 have ab:=dl he J
 rw[ax]at ai
 rw[ar]at ab
 split at au
 ·rename_i el eU
  have dm:jf P el=some size:=by simpa using au
  have hu:=Cq eU
  obtain⟨ek,dw,ap,ah⟩:=xu bo aO ab
  rcases ah with ⟨_,rfl⟩|⟨g,cap,cur,e,_⟩
  ·simp at ag; omega
  ·refine⟨.pointer (some ⟨g,n.toNat*size,none⟩),?_,?_⟩
   ·simp [execOp,aq,Instr.indexAt,e,jx ai,asIntOf,run_underlying hu,aw,ag,mF dm,nx]
   ·simp only[aR]
    refine⟨rfl,(bo.tok t _ aO).1,fun j bq=> ?_⟩
    rw[aO]at bq
    simp at bq
    subst bq
    exact⟨Nat.le_refl _,fun _=>⟨g,_,_,ek.trans e,rfl⟩⟩
 ·cases au
theorem WN {ty x agg n y t bg k T size r}{rows:List (List I)}(he:dJ m env a.tmps) (bo:b5 m) (aq:o.op= .load ty x) (h:br P o.op (.j3 agg n y)=true) (ar:y.aJ env= .mp t bg k) (aO:m.H.tok t=some (.bS T size bg rows)) (aH:k+n≤rows.flatten.length) (ag:I.iB agg ((rows.flatten.drop k).take n)=some r):fM P m a o r:=by
 rw[aq]at h
 simp only[br,Bool.and_eq_true]at h
 obtain⟨J,aa⟩:=h
 have ab:=dl he aa
 rw[ar]at ab
 obtain⟨g,cap,cur,e,_,dw,ap,aY,ix,qG,yQ,rY,j1⟩:=EJ bo ab aO
 have ZP:=FQ ap
 have j9:=aS.length rY
 generalize bG:cur.toList.take (rows.length*size)=l at rY j1 j9
 refine⟨if agg then .agg ⟨(l.drop k).take n⟩ else ((l.drop k).take n).getD 0 undef,?_,?_⟩
 ·have:=FW (w:=m.w) J g k ((l.drop k).take n) (by simp; omega) (fun j v bq=>by
   rw[cell_of_row m.w g _ cur T (0,0) aY]
   rw[List.getElem?_take]at bq
   split at bq
   ·rw[List.getElem?_drop,←bG,List.getElem?_take]at bq
    split at bq
    ·simpa using bq
    ·cases bq
   ·cases bq)
  simp [execOp,aq,Instr.loadAt,e,Instr.sureAddr,this]
 ·rcases zm ag (aS.take n (aS.drop k rY)) with ⟨rfl,h⟩|⟨rfl,v,e,h⟩
  ·exact h
  ·simp only[Bool.false_eq_true,if_false,e]
   exact h
theorem WG {t x f off y dC bg k T size}{rows:List (List I)}(he:dJ m env a.tmps) (bo:b5 m) (aq:o.op= .fieldAddr t x f) (h:br P o.op (.jk off y)=true) (ar:y.aJ env= .mp dC bg k) (aO:m.H.tok dC=some (.bS T size bg rows)):fM P m a o (.mp dC bg (k+off)):=by
 rw[aq]at h
 simp only[br,Bool.and_eq_true]at h
 obtain⟨J,aa⟩:=h
 have ah:=dl he J
 rw[ar]at ah
 obtain⟨g,cap,cur,bO,b4,_⟩:=EJ bo ah aO
 split at aa
 ·rename_i fg hu
  split at aa
  ·rename_i q aY
   simp only[Bool.and_eq_true,decide_eq_true_eq]at aa
   obtain⟨aa,au⟩:=aa
   split at au
   ·rename_i n a6
    have vx:n≠0:=by simpa using au
    refine⟨.pointer (some ⟨g,k+off,none⟩),?_,?_⟩
    ·simp [execOp,aq,Instr.fieldAt,run_underlying hu,aY,bO,Instr.sureAddr,fieldPlace,mF a6,vx,nx,aa]
    ·simp only[aR]at ah ⊢
     refine⟨rfl,ah.2.1,fun i ai=> ?_⟩
     rw[aO]at ai
     cases ai
     exact⟨Nat.le_refl _,fun _=>⟨g,_,cap,b4,rfl⟩⟩
   ·cases au
  ·cases aa
 ·cases aa
theorem aM1 {size:Nat}{rows:List (List I)}{v:Value}(h:aR m (.ay size rows) v) (ag:rows≠[]): ∃x len cap,v= .slice (some x) len cap:=by
 simp only[aR]at h
 obtain⟨c7,len,cap,rfl,_,_,bn⟩:=h
 rcases bn with bn|⟨b,p,rfl,_⟩
 ·exact absurd (List.eq_nil_of_length_eq_zero bn) ag
 ·exact⟨_,_,_,rfl⟩
theorem FV {op t x y u neg cY}(aq:o.op= .binOp op t x y u) (h:br P o.op (.nQ neg cY)=true){c7:Option Addr}{len cap:Nat}(af:a.eval x= .slice c7 len cap):(execOp a.eval o).run P m.w= .ok (.value (.bool (bif neg then !c7.isNone else c7.isNone))) m.w:=by
 rw[aq]at h
 simp only[br,Bool.and_eq_true,decide_eq_true_eq]at h
 obtain⟨⟨⟨⟨J,aa⟩,au⟩,bn⟩,bL⟩:=h
 split at au
 ·split at bn
  ·rename_i e he
   have hu:=Cq he
   subst J
   have aY: ∀op,(eqGuard op t x (.const (.slice none 0 0)) (.slice c7 len cap) (.slice none 0 0)).run P m.w= .ok () m.w:=by
    intro op
    have DY:P.eqGuardType P.depth t=false:=by simpa using bL
    unfold eqGuard; cases op<;>simp [DY]
   have bG:(Op.equal t (.slice c7 len cap) (.slice none 0 0)).run P m.w= .ok c7.isNone m.w:=by
    have DS: ∀d,(Op.equalIn (d+1) t (.slice c7 len cap) (.slice none 0 0)).run P m.w= .ok c7.isNone m.w:=by
     intro d
     cases c7<;>simp [Op.equalIn,run_underlying hu]
    exact DS 9999
   have aZ:a.eval (.const (.slice none 0 0))= .slice none 0 0:=rfl
   cases neg<;>simp [execOp,aq,af,bG,aY,binOp,aZ]
  ·cases bn
 ·cases au
theorem Iq {op t x y u neg cY b}(he:dJ m env a.tmps) (aq:o.op= .binOp op t x y u) (h:br P o.op (.nQ neg cY)=true) (af: ∀v,aR m (cY.aJ env) v→(v= .slice none 0 0∧b= !neg)∨(∃q len cap,v= .slice (some q) len cap)∧b=neg):fM P m a o (.bool b):=by
 have aa:cZ x cY=true:=by
  rw[aq]at h
  simp only[br,Bool.and_eq_true,decide_eq_true_eq]at h
  exact h.1.1.1.2
 rcases af _ (dl he aa) with ⟨e,rfl⟩|⟨⟨q,len,cap,e⟩,rfl⟩
 ·exact⟨_,FV aq h e,by simp only[aR]; cases neg<;>rfl⟩
 ·exact⟨_,FV aq h e,by simp only[aR]; cases b<;>rfl⟩
theorem WL {op t x y u neg cY size rows}(he:dJ m env a.tmps) (aq:o.op= .binOp op t x y u) (h:br P o.op (.nQ neg cY)=true) (ab:cY.aJ env= .ay size rows): ∃b v,(execOp a.eval o).run P m.w= .ok (.value v) m.w∧aR m (.bool b) v:=by
 have aa:cZ x cY=true:=by
  rw[aq]at h
  simp only[br,Bool.and_eq_true,decide_eq_true_eq]at h
  exact h.1.1.1.2
 have af:=dl he aa
 rw[ab]at af
 simp only[aR]at af
 obtain⟨c7,len,cap,e,_⟩:=af
 exact⟨(bif neg then !c7.isNone else c7.isNone),_,FV aq h e,by simp only[aR]⟩
theorem WR {ty x cz ai size y mz gB t bg T h}{rows:List (List I)}(he:dJ m env a.tmps) (bo:b5 m) (aq:o.op= .slice ty x cz ai none) (ah:br P o.op (.nW size y mz gB)=true) (ar:y.aJ env= .ez t bg) (aO:m.H.tok t=some (.bS T size bg rows)) (aH:jv env 0 mz=some 0) (bh:jv env rows.length gB=some h) (aa:h≤rows.length):
  ∃aX v,(execOp a.eval o).run P m.w= .ok (.value v) aX.w∧b5 aX∧b0 m aX∧aX.H=m.H.cA t (.bS T size (bg+1) (rows.take h))∧aR aX (.ez t (bg+1)) v:=by
 rw[aq]at ah
 simp only[br,Bool.and_eq_true]at ah
 obtain⟨⟨⟨c1,c2⟩,gg⟩,iJ⟩:=ah
 have ab:=dl he c1
 rw[ar]at ab
 split at iJ
 ·rename_i el eU
  have dm:jf P el=some size:=by simpa using iJ
  have hu:=Cq eU
  obtain⟨c7,cap,e,ix⟩:=MU bo aO ab
  have hb:=FY (P:=P) (w:=m.w) (b:=true) (cap:=cap) he c2 gg aH bh (Nat.zero_le _) aa ix
  rw[e]at ab
  obtain⟨aX,jP,bO,b4,cJ,fk⟩:=aG2 bo ab aO aa
  have YD:(if cap=0 then c7 else c7.map (·.add (0*size)))=c7:=by
   cases c7 with
   |none=>simp
   |some q=>
    obtain⟨Pd,Pf,im⟩:=q
    have:(⟨Pd,Pf,im⟩:Addr).add (0*size)=⟨Pd,Pf,im⟩:=by
     rw[Nat.zero_mul]
     unfold Addr.add
     simp
    simp only[Option.map_some,this,ite_self]
  refine⟨aX,.slice c7 h cap,?_,bO,b4,cJ,fk⟩
  have:(execOp a.eval o).run P m.w= .ok (.value (.slice (if cap=0 then c7 else c7.map (·.add (0*size))) (h-0) (cap-0))) m.w:=by
   simp [execOp,aq,Instr.sliceAt,Instr.slice,run_underlying hu,e,hb,mF dm]
  rw[this,YD,jP]
  simp
 ·cases iJ
end
section
variable {P:Program}{m:Mem}{env:Env}{a:Act}{o:Oper}
theorem aB6 {r:I}{K:Act→World→Prop}{Q:Exit→Act→World→Prop}(q:fM P m a o r) (h: ∀v,aR m r v→K (a.put o.dst v) m.w):o.wp P a m.w K Q:=by
 obtain⟨v,J,aa⟩:=q
 exact nY J (h v aa)
theorem rn {m:Mem}: ∀ {az cH:List I}{l:List Value},e7 az cH→aS m az l→aS m cH l
 |[],cH,l,h,k=>by simp only[e7]at h; subst h; exact k
 |a::az,cH,l,h,k=>by
  simp only[e7]at h
  obtain⟨b,cH,rfl,J,aa⟩:=h
  simp only[aS]at k ⊢
  obtain⟨v,ay,rfl,bC,bA⟩:=k
  exact⟨v,ay,rfl,J _ _ bC,rn aa bA⟩
theorem Dh {P:Program}{f:FuncId}(h:c9 P f=true):f<hW:=by
 unfold c9 at h
 split at h
 ·simp only[Bool.and_eq_true]at h
  simpa using h.2
 ·cases h
theorem zz {P:Program}{w:World}{f:FuncId}{args:Array Value}(h:c9 P f=true):(callFunc f args).run P w= .ok (.enter f args) w:=by
 unfold c9 at h
 split at h
 ·rename_i fn aW
  simp only[Bool.and_eq_true,Bool.not_eq_true']at h
  obtain⟨⟨J,aa⟩,_⟩:=h
  obtain⟨c,ah⟩:=Option.isSome_iff_exists.1 J
  have Le: ¬fn.name= "runtime.NumGoroutine" :=by simpa using aa
  simp [callFunc,aW,Le,ah]
 ·cases h
theorem zA {c:Call}{f:FuncId}{g:Operand}(aq:o.op= .call c) (ah:c.callee= .value g) (aY:a.eval g= .func (.func f) #[] ⟨[]⟩) (aW:c9 P f=true) (w:World):(execOp a.eval o).run P w= .ok (.enter f (c.args.map a.eval)) w:=by
 have yW:a.eval g= .func (.func f) #[] #[]:=aY
 simp [execOp,aq,resolve,ah,yW,Deferred.ofValue,invoke,zz aW]
theorem FX {c:Call}{f:FuncId}{g:Operand}{l:List Value}(aq:o.op= .call c) (ah:c.callee= .value g) (yW:a.eval g=rI f l) (aW:c9 P f=true) (w:World):(execOp a.eval o).run P w= .ok (.enter f (c.args.map a.eval++⟨l⟩)) w:=by
 have aY:a.eval g= .func (.func f) #[] ⟨l⟩:=yW.trans (wU (Dh aW) l)
 simp [execOp,aq,resolve,ah,aY,Deferred.ofValue,invoke,zz aW]
theorem aE0 {c:Call}{f:FuncId}{g:Operand}{l:List Value}(aq:o.op= .call c) (ah:c.callee= .value g) (yW:a.eval g=rI (f+hW) l) (aW:c9 P f=true) (w:World):(execOp a.eval o).run P w= .ok (.enter f (⟨l⟩++c.args.map a.eval)) w:=by
 have aY:a.eval g= .func (.func f) ⟨l⟩ #[]:=yW.trans (K0 f l)
 simp [execOp,aq,resolve,ah,aY,Deferred.ofValue,invoke,zz aW]
def NV (P:Program) (o:Oper) (a:Act) (K:Act→World→Prop) (Q:Exit→Act→World→Prop):Ending→World→Prop
 | .returned v,w=>K (a.put o.dst v) w
 | .panicked chain,w=>Q (.panic chain) a w
 | .outgrown,_=>LetsOut Q
theorem tA {K:Act→World→Prop}{Q:Exit→Act→World→Prop}{w w':World}{f:FuncId}{args:Array Value}(h:(execOp a.eval o).run P w= .ok (.enter f args) w') (aC:Calls P f args w' (NV P o a K Q)):o.wp P a w K Q:=by
 simp only[Oper.wp,h,Oper.upon_enter]
 refine aC.mono fun e aT3 he=> ?_
 cases e<;>exact he
theorem sB {f:FuncId}{az:List I}{ay:List Value}{R:Out→aA→Prop}{K:Act→World→Prop}{Q:Exit→Act→World→Prop}(bo:b5 m) (af:aS m az ay) (ah:jr P f az m.H R)
  (J: ∀r aX v,R (.ret r) aX.H→b5 aX→b0 m aX→aR aX r v→K (a.put o.dst v) aX.w)
  (aa: ∀r aX v,R (.eR r) aX.H→b5 aX→b0 m aX→aR aX r v→Q (.panic [{v,recovered:=false}]) a aX.w):Calls P f ⟨ay⟩ m.w (NV P o a K Q):=by
 refine (ah m ay rfl bo af).mono fun e w' he=> ?_
 obtain⟨EV,aF,gb,cQ,bO,b4,cJ,fk⟩:=he
 cases EV with
 |ret r=>
  simp only[rl]at cJ
  obtain⟨v,rfl,cJ⟩:=cJ
  exact J r ⟨w',aF,gb,cQ⟩ v fk bO b4 cJ
 |eR r=>
  simp only[rl]at cJ
  obtain⟨v,rfl,cJ⟩:=cJ
  exact aa r ⟨w',aF,gb,cQ⟩ v fk bO b4 cJ
theorem Ao {t u T:TypeId}{size bytes:Nat}(h:(decide (jR P t=some T)&&(decide (jR P u=some T)||(match P.underlying u,P.underlying T with|some .string,some (.int .u8)=>true| _,_=>false))&&(match P.info? T with|some i=>decide (i.size=size)&&decide (i.bytes=bytes)&&(match i.zero with|some z=>decide (z.cells.size=size)|none=>false)|none=>false))=true):Nonempty (tD P t u T size bytes):=by
 simp only[Bool.and_eq_true,Bool.or_eq_true,decide_eq_true_eq]at h
 obtain⟨⟨J,aa⟩,au⟩:=h
 have io: ∀ {t T},jR P t=some T→P.underlying t=some (.slice T):=by
  intro t T h
  unfold jR at h
  split at h
  ·rename_i e hu; simp at h; subst h; exact hu
  ·cases h
 split at au
 ·rename_i i ai
  simp only[Bool.and_eq_true,decide_eq_true_eq]at au
  obtain⟨⟨ar,ax⟩,cw⟩:=au
  split at cw
  ·rename_i z aB
   refine⟨⟨io J,?_,i,ai,ar,ax,z,aB,by simpa using cw⟩⟩
   rcases aa with aa|aa
   ·exact .inl (io aa)
   ·split at aa
    ·rename_i hu _; exact .inr hu
    ·cases aa
  ·cases cw
 ·cases au
theorem Cs {size:Nat}{y:I}{v:Value}{rows:List (List I)}(h:aR m y v) (aZ:rowsOf size y=some rows): ∃news,Src P m size v rows news:=by
 unfold rowsOf at aZ
 split at aZ
 ·split at aZ
  ·rename_i e; subst e; simp at aZ; subst aZ; exact RX h
  ·cases aZ
 ·split at aZ
  ·rename_i e; subst e; simp at aZ; subst aZ; exact RX (vX h)
  ·cases aZ
 ·simp at aZ
  subst aZ
  rw[uK h]
  exact⟨[],aH0⟩
 ·split at aZ
  ·rename_i e; subst e; simp at aZ; subst aZ
   rw[(q2 h).1]
   exact⟨_,aH1⟩
  ·cases aZ
 ·cases aZ
theorem tO {α:Type}{l:Array α}{x y:α}(h:l.toList=[x,y]):l= #[x,y]:=by cases l; simp at h; rw[h]
set_option maxHeartbeats 4000000 in
theorem IA {e:bj}{d:D}{K:Act→World→Prop}{Q:Exit→Act→World→Prop}(bw:eO P e env m.H d) (ah:br P o.op e=true) (bo:b5 m) (he:dJ m env a.tmps)
  (h: ∀x aX v,d.fresh x m.H→aX.H=d.heap m.H x→b5 aX→b0 m aX→aR aX (d.val x) v→K (a.put o.dst v) aX.w):o.wp P a m.w K Q:=by
 have bG: ∀r,d= .cT r→fM P m a o r→o.wp P a m.w K Q:=by
  intro r e q
  subst e
  exact aB6 q fun v af=>h 0 m v trivial rfl bo (b0.refl m) af
 cases bw with
 |pure hp=>exact bG _ rfl (aq5 he bo ah hp)
 |quo ab aZ hb=>
  cases aq:o.op<;>try (simp [aq,br]at ah; done)
  rw[aq]at ah
  simp only[br,Bool.and_eq_true,decide_eq_true_eq]at ah
  obtain⟨⟨rfl,c1⟩,c2⟩:=ah
  exact bG _ rfl (WO he aq c1 c2 ab aZ hb)
 |rem ab aZ hb=>
  cases aq:o.op<;>try (simp [aq,br]at ah; done)
  rw[aq]at ah
  simp only[br,Bool.and_eq_true,decide_eq_true_eq]at ah
  obtain⟨⟨rfl,c1⟩,c2⟩:=ah
  exact bG _ rfl (WQ he aq c1 c2 ab aZ hb)
 |bR ab aZ hb=>
  cases aq:o.op<;>try (simp [aq,br]at ah; done)
  rw[aq]at ah
  simp only[br,Bool.and_eq_true,decide_eq_true_eq]at ah
  obtain⟨⟨rfl,c1⟩,c2⟩:=ah
  exact bG _ rfl (WD he aq c1 c2 ab aZ hb)
 |nO ab ai aw ag=>
  cases aq:o.op<;>try (simp [aq,br]at ah; done)
  have lD:=ah
  rw[aq]at lD
  simp only[br,Bool.and_eq_true]at lD
  have ot:=dl he lD.1.1
  rw[ab]at ot
  exact bG _ rfl (Ip he aq ah ot ai aw ag)
 |nM ab ai aw ag=>
  cases aq:o.op<;>try (simp [aq,br]at ah; done)
  have lD:=ah
  rw[aq]at lD
  simp only[br,Bool.and_eq_true]at lD
  have ot:=dl he lD.1.1
  rw[ab]at ot
  exact bG _ rfl (Ip he aq ah (vX ot) ai aw ag)
 |ou ab ai aw J=>
  cases aq:o.op<;>try (simp [aq,br]at ah; done)
  exact bG _ rfl (WJ he aq ah ab ai aw J)
 |nb ab ai aw J=>
  cases aq:o.op<;>try (simp [aq,br]at ah; done)
  have lD:=ah
  rw[aq]at lD
  simp only[br,Bool.and_eq_true]at lD
  have ot:=dl he lD.1.1
  rw[ab]at ot
  exact bG _ rfl ⟨_,Io he aq ah (uJ ot) ai aw J,by simp only[aR]⟩
 |nN ab ai aw J=>
  cases aq:o.op<;>try (simp [aq,br]at ah; done)
  have lD:=ah
  rw[aq]at lD
  simp only[br,Bool.and_eq_true]at lD
  have ot:=dl he lD.1.1
  rw[ab]at ot
  obtain⟨b,p,ar,ax⟩:=xL ot
  exact bG _ rfl ⟨_,Io he aq ah ar ai aw J,by simp only[aR]; exact⟨b,p,by rw[Nat.add_assoc],ax⟩⟩
 |jn ab ai aw J aH af=>
  cases aq:o.op<;>try (simp [aq,br]at ah; done)
  exact bG _ rfl (WI he aq ah ab ai aw J aH af)
 |eJ ab ai aw ul=>
  cases aq:o.op<;>try (simp [aq,br]at ah; done)
  exact bG _ rfl (WK he aq ah ab ai aw ul)
 |gE ab aH bh J aa=>
  cases aq:o.op<;>try (simp [aq,br]at ah; done)
  exact bG _ rfl (WS he aq ah ab aH bh J aa)
 |h9 ab aH bh J aa=>
  cases aq:o.op<;>try (simp [aq,br]at ah; done)
  exact bG _ rfl (WT he aq ah ab aH bh J aa)
 |jC ab=>
  cases aq:o.op<;>try (simp [aq,br]at ah; done)
  obtain⟨w',v,bO,b4,cJ,fk⟩:=WE he bo aq ah ab
  exact nY bO (h 0 {m with w:=w'} v trivial rfl b4 cJ fk)
 |box ab=>
  cases aq:o.op<;>try (simp [aq,br]at ah; done)
  rw[aq]at ah
  simp only[br,Bool.and_eq_true,decide_eq_true_eq]at ah
  obtain⟨rfl,c1⟩:=ah
  obtain⟨l,bO,b4⟩:=WC he bo aq c1 ab
  exact nY bO (h m.w.heap.size _ _ (wB bo) rfl b4 (b0.b7 _ _ _ _) (by simp only[D.val,aR]))
 |alloc aB=>
  cases aq:o.op<;>try (simp [aq,br]at ah; done)
  rw[aq]at ah
  simp only[br,Bool.and_eq_true,decide_eq_true_eq]at ah
  obtain⟨rfl,c1⟩:=ah
  obtain⟨l,bO,b4⟩:=WB (a:=a) bo aq c1
  exact nY bO (h m.w.heap.size _ _ (wB bo) rfl b4 (b0.b7 _ _ _ _) (by simp only[D.val,aR]))
 |n6 ag ap J=>
  cases aq:o.op<;>try (simp [aq,br]at ah; done)
  obtain⟨l,bO,b4,cJ,fk,jQ,oz⟩:=Dr he bo aq ah ag ap J
  rename_i T size n zero parts rows t gX OA
  have aJ:=b0.alloc m (.cells ⟨l⟩ T)
  refine nY bO (h 0 {m with w:=m.w.alloc (.cells ⟨l⟩ T)} _ trivial rfl (b5.alloc bo _) aJ ?_)
  simp only[D.val,aR]
  refine⟨_,_,_,rfl,rfl,⟨Nat.le_refl _,by rw[BI]; omega⟩,.inr ⟨m.w.heap.size,0,rfl,dE.of (fun r ag=>by have:=List.all_eq_true.1 ap r ag; simpa using this) (aS.aJ aJ _ _ b4) fun j v bq=>⟨?_,cJ v (List.mem_of_getElem? bq),⟨by simp,wB bo,fun t i aO hb=> ?_⟩⟩⟩⟩
  ·rw[Nat.zero_add,cell_of_row _ m.w.heap.size j ⟨l⟩ T (0,0) (vz m.w _)]
   simpa using bq
  ·have:=uR bo aO hb
   omega
 |ml ag ap J aw=>
  cases aq:o.op<;>try (simp [aq,br]at ah; done)
  rename_i T size n zero parts rows t gX OA
  have lD:br P o.op (.dA T size n zero parts)=true:=by rw[aq]at ah ⊢; exact ah
  obtain⟨l,bO,b4,cJ,fk,jQ,oz⟩:=Dr he bo aq lD ag ap J
  obtain⟨cI,c8,ep⟩:=MW bo (w':=m.w.alloc (.cells ⟨l⟩ T)) (T:=T) (size:=size) (cap:=rows.length) (rows:=rows) (l:=l) (cur:=⟨l⟩) rfl rfl rfl (by simp) (fun b hb=>sZ m.w _ b hb) (vz m.w _) b4 cJ fk (fun r ag=>by have:=List.all_eq_true.1 ap r ag; simpa using this) (fun j v bq=>by simpa using bq) (by simpa using fk) (Nat.le_refl _) (by rw[BI]; omega) oz
  exact nY bO (h m.T _ _ (uS bo) rfl cI c8 ep)
 |ql ab aZ hb hm aw=>
  cases aq:o.op<;>try (simp [aq,br]at ah; done)
  rename_i T size bytes x y rows c
  obtain⟨callee,args,argTypes⟩:=c
  rw[aq]at ah
  cases callee with
  |value f=>simp [br]at ah
  |invoke _ _=>simp [br]at ah
  |builtin b=>
   cases b<;>simp only[br]at ah<;>first
    |(cases ah; done)
    |skip
   simp only[Bool.and_eq_true]at ah
   obtain⟨c1,c2⟩:=ah
   split at c2
   ·rename_i t u aO
    obtain⟨A⟩:=Ao c2
    obtain rfl:=tO aO
    have rP: ∃p q,args= #[p,q]∧cZ p x=true∧cZ q y=true:=by
     match aH:args.toList with
     |[p,q]=>rw[aH]at c1; simp only[gh,Bool.and_eq_true]at c1; exact⟨p,q,tO aH,c1.1,c1.2.1⟩
     |[]=>rw[aH]at c1; simp [gh]at c1
     |[_]=>rw[aH]at c1; simp [gh]at c1
     | _:: _:: _:: _=>rw[aH]at c1; simp [gh]at c1
    obtain⟨p,q,rfl,ar,ax⟩:=rP
    have hp:=dl he ar
    rw[ab]at hp
    have y4:=uK hp
    obtain⟨news,S⟩:=Cs (P:=P) (dl he ax) aZ
    obtain⟨aX,v,bO,b4,cJ,fk,jQ⟩:=Ti (ty:=o.type) A bo S hb hm aw
    refine nY (v:=v) (w':=aX.w) ?_ (h m.T aX v (uS bo) fk b4 cJ jQ)
    simp [execOp,aq,resolve,invoke,builtin,y4,bO]
   ·cases c2
 |hz aP hp=>
  cases aq:o.op<;>try (simp [aq,br]at ah; done)
  rename_i f args az r c
  obtain⟨callee,fx,argTypes⟩:=c
  rw[aq]at ah
  cases callee with
  |builtin b=>cases b<;>simp [br]at ah
  |invoke _ _=>simp [br]at ah
  |value g=>
   simp only[br,Bool.and_eq_true]at ah
   obtain⟨⟨c1,c2⟩,gg⟩:=ah
   split at c1
   ·rename_i ju
    have:ju=f:=by simpa using c1
    subst this
    refine tA (zA aq rfl rfl gg m.w) ?_
    have aH:=rn aP (oO he c2)
    have fa:(fx.map a.eval)=⟨fx.toList.map a.eval⟩:=Array.ext' (by simp)
    rw[show ({callee:=Callee.value (Operand.func ju),args:=fx,argTypes:=argTypes}:Call).args.map a.eval=⟨fx.toList.map a.eval⟩ from fa]
    exact sB bo aH (hp m.H) (fun dn aX v ag bO b4 cJ=>by obtain⟨ar,ax⟩:=ag; simp at ar; subst ar; exact h 0 aX v trivial ax bO b4 cJ) (fun dn aX v ag=>by simp at ag)
   ·cases c1
 |jq ab aW aP hp=>
  cases aq:o.op<;>try (simp [aq,br]at ah; done)
  rename_i x args f cap az r c
  obtain⟨callee,fx,argTypes⟩:=c
  rw[aq]at ah
  cases callee with
  |builtin b=>cases b<;>simp [br]at ah
  |invoke _ _=>simp [br]at ah
  |value g=>
   simp only[br,Bool.and_eq_true]at ah
   obtain⟨c1,c2⟩:=ah
   have aY:=dl he c1
   rw[ab]at aY
   obtain⟨l,g1,g2⟩:=xK aY
   refine tA (FX aq rfl g1 aW m.w) ?_
   have aH:=rn aP (aS.append (oO he c2) g2)
   have fa:(fx.map a.eval)++⟨l⟩=⟨fx.toList.map a.eval++l⟩:=by
    apply Array.ext'
    simp
   rw[show ({callee:=Callee.value g,args:=fx,argTypes:=argTypes}:Call).args.map a.eval++⟨l⟩=⟨fx.toList.map a.eval++l⟩ from fa]
   exact sB bo aH (hp m.H) (fun dn aX v ag bO b4 cJ=>by obtain⟨ar,ax⟩:=ag; simp at ar; subst ar; exact h 0 aX v trivial ax bO b4 cJ) (fun dn aX v ag=>by simp at ag)
 |o7 aP hp=>
  cases aq:o.op<;>try (simp [aq,br]at ah; done)
  rename_i f args az r c
  obtain⟨callee,fx,argTypes⟩:=c
  rw[aq]at ah
  cases callee with
  |builtin b=>cases b<;>simp [br]at ah
  |invoke _ _=>simp [br]at ah
  |value g=>
   simp only[br,Bool.and_eq_true]at ah
   obtain⟨⟨c1,c2⟩,gg⟩:=ah
   split at c1
   ·rename_i ju
    have:ju=f:=by simpa using c1
    subst this
    refine tA (zA aq rfl rfl gg m.w) ?_
    have aH:=rn aP (oO he c2)
    have fa:(fx.map a.eval)=⟨fx.toList.map a.eval⟩:=Array.ext' (by simp)
    rw[show ({callee:=Callee.value (Operand.func ju),args:=fx,argTypes:=argTypes}:Call).args.map a.eval=⟨fx.toList.map a.eval⟩ from fa]
    exact sB bo aH (hp m.H) (fun dn aX v ag bO b4 cJ=>by obtain⟨ar,ax⟩:=ag; simp at ar; subst ar; exact h 0 aX v trivial ax bO b4 cJ) (fun dn aX v ag=>by simp at ag)
   ·cases c1
 |o8 ab aW aP hp=>
  cases aq:o.op<;>try (simp [aq,br]at ah; done)
  rename_i x args f cap az r c
  obtain⟨callee,fx,argTypes⟩:=c
  rw[aq]at ah
  cases callee with
  |builtin b=>cases b<;>simp [br]at ah
  |invoke _ _=>simp [br]at ah
  |value g=>
   simp only[br,Bool.and_eq_true]at ah
   obtain⟨c1,c2⟩:=ah
   have aY:=dl he c1
   rw[ab]at aY
   obtain⟨l,g1,g2⟩:=xK aY
   refine tA (FX aq rfl g1 aW m.w) ?_
   have aH:=rn aP (aS.append (oO he c2) g2)
   have fa:(fx.map a.eval)++⟨l⟩=⟨fx.toList.map a.eval++l⟩:=by
    apply Array.ext'
    simp
   rw[show ({callee:=Callee.value g,args:=fx,argTypes:=argTypes}:Call).args.map a.eval++⟨l⟩=⟨fx.toList.map a.eval++l⟩ from fa]
   exact sB bo aH (hp m.H) (fun dn aX v ag bO b4 cJ=>by obtain⟨ar,ax⟩:=ag; simp at ar; subst ar; exact h 0 aX v trivial ax bO b4 cJ) (fun dn aX v ag=>by simp at ag)
 |u2 ab aZ hb hm aw=>
  cases aq:o.op<;>try (simp [aq,br]at ah; done)
  rename_i T size bytes x y rows c
  obtain⟨callee,args,argTypes⟩:=c
  rw[aq]at ah
  cases callee with
  |value f=>simp [br]at ah
  |invoke _ _=>simp [br]at ah
  |builtin b=>
   cases b<;>simp only[br]at ah<;>first
    |(cases ah; done)
    |skip
   simp only[Bool.and_eq_true]at ah
   obtain⟨c1,c2⟩:=ah
   split at c2
   ·rename_i t u aO
    obtain⟨A⟩:=Ao c2
    obtain rfl:=tO aO
    have rP: ∃p q,args= #[p,q]∧cZ p x=true∧cZ q y=true:=by
     match aH:args.toList with
     |[p,q]=>rw[aH]at c1; simp only[gh,Bool.and_eq_true]at c1; exact⟨p,q,tO aH,c1.1,c1.2.1⟩
     |[]=>rw[aH]at c1; simp [gh]at c1
     |[_]=>rw[aH]at c1; simp [gh]at c1
     | _:: _:: _:: _=>rw[aH]at c1; simp [gh]at c1
    obtain⟨p,q,rfl,ar,ax⟩:=rP
    have hp:=dl he ar
    rw[ab]at hp
    have y4:=uK hp
    obtain⟨news,S⟩:=Cs (P:=P) (dl he ax) aZ
    obtain⟨aX,v,bO,b4,cJ,fk,jQ⟩:=Th (ty:=o.type) A bo S hb hm aw
    refine nY (v:=v) (w':=aX.w) ?_ (h m.T aX v (uS bo) fk b4 cJ jQ)
    simp [execOp,aq,resolve,invoke,builtin,y4,bO]
   ·cases c2
 |uF aP hp=>
  cases aq:o.op<;>try (simp [aq,br]at ah; done)
  rename_i f args az T size rows c
  obtain⟨callee,fx,argTypes⟩:=c
  rw[aq]at ah
  cases callee with
  |builtin b=>cases b<;>simp [br]at ah
  |invoke _ _=>simp [br]at ah
  |value g=>
   simp only[br,Bool.and_eq_true]at ah
   obtain⟨⟨c1,c2⟩,gg⟩:=ah
   split at c1
   ·rename_i ju
    have:ju=f:=by simpa using c1
    subst this
    refine tA (zA aq rfl rfl gg m.w) ?_
    have aH:=rn aP (oO he c2)
    have fa:(fx.map a.eval)=⟨fx.toList.map a.eval⟩:=Array.ext' (by simp)
    rw[show ({callee:=Callee.value (Operand.func ju),args:=fx,argTypes:=argTypes}:Call).args.map a.eval=⟨fx.toList.map a.eval⟩ from fa]
    exact sB bo aH (hp m.H) (fun dn aX v ag bO b4 cJ=>by obtain⟨t,bE,ar,ax⟩:=ag; simp at ar; subst ar; exact h t aX v bE ax bO b4 cJ) (fun dn aX v ag=>by obtain⟨t,bE,ar,ax⟩:=ag; simp at ar)
   ·cases c1
 |jo ab aO=>
  cases aq:o.op<;>try (simp [aq,br]at ah; done)
  exact bG _ rfl (WM he bo aq ah ab aO)
 |s3 ab=>
  cases aq:o.op<;>try (simp [aq,br]at ah; done)
  exact bG _ rfl (Iq he aq ah fun v af=> .inl ⟨by rw[ab]at af; simpa only[aR] using af,rfl⟩)
 |uv ab ag=>
  cases aq:o.op<;>try (simp [aq,br]at ah; done)
  exact bG _ rfl (Iq he aq ah fun v af=> .inr ⟨by rw[ab]at af; exact aM1 af ag,rfl⟩)
 |jk ab aO=>
  cases aq:o.op<;>try (simp [aq,br]at ah; done)
  exact bG _ rfl (WG he bo aq ah ab aO)
 |j2 ab aO ai aw J=>
  cases aq:o.op<;>try (simp [aq,br]at ah; done)
  exact bG _ rfl (WH he bo aq ah ab aO ai aw J)
 |j3 ab aO aH af=>
  cases aq:o.op<;>try (simp [aq,br]at ah; done)
  exact bG _ rfl (WN he bo aq ah ab aO aH af)
 |mj ag ap J aw=>
  cases aq:o.op<;>try (simp [aq,br]at ah; done)
  rename_i T size n zero parts rows t gX OA
  have lD:br P o.op (.dA T size n zero parts)=true:=by rw[aq]at ah ⊢; exact ah
  obtain⟨l,bO,b4,cJ,fk,jQ,oz⟩:=Dr he bo aq lD ag ap J
  have kM:(⟨l⟩:Array Value).toList.take (rows.length*size)=l:=by rw[←fk]; simp
  obtain⟨cI,c8,ep⟩:=EL bo (w':=m.w.alloc (.cells ⟨l⟩ T)) (T:=T) (size:=size) (cap:=rows.length) (rows:=rows) (cur:=⟨l⟩) rfl rfl rfl (by simp) (fun b hb=>sZ m.w _ b hb) (vz m.w _) (by rw[kM]; exact b4) (by rw[kM]; exact cJ) (fun r ag=>by have:=List.all_eq_true.1 ap r ag; simpa using this) fk (Nat.le_refl _) (by rw[BI]; omega) aw
  exact nY bO (h m.T _ _ (uS bo) rfl cI c8 ep)
 |l4 ab hb hm Mg aB aw=>
  cases aq:o.op<;>try (simp [aq,br]at ah; done)
  rename_i T size bytes zero x k n dx b8 cB
  rw[aq]at ah
  simp only[br,Bool.and_eq_true,decide_eq_true_eq]at ah
  obtain⟨⟨⟨⟨⟨c1,c2⟩,gg⟩,iJ⟩,nB⟩,oK⟩:=ah
  obtain⟨i,z,ai,aa1,yQ⟩:=CL nB
  obtain⟨g1,g2⟩:=AC (m:=m) yQ
  have ar:=dl he c1
  have ax:=dl he c2
  rw[ab]at ar ax
  have ar:=jx ar
  have ax:=jx ax
  rw[ai]at oK
  simp only[decide_eq_true_eq]at oK
  have dm:i.size=size:=by
   obtain⟨i2,cI,c8⟩:=Co iJ
   rw[ai]at cI
   cases cI
   exact c8
  have pT:z.cells.size=size:=by
   have:=aS.length g1
   rw[←aB,←this]
   simp
  have gu:(i.bytes:Int)*(n:Int)≤281474976710656:=by
   rw[oK]
   have h:((bytes*n:Nat):Int)≤281474976710656:=by omega
   rwa [Int.natCast_mul]at h
  have Zz:(n:Int)≤9223372036854775807:=by have:=hm; unfold maxLen at this; omega
  have k9:=run_make (P:=P) m.w dx T i z (Cq gg) ai aa1 k k (n:Int) (n:Int) (by omega) (by omega) gu Zz
  simp only[Int.toNat_natCast]at k9
  rw[dm]at k9
  have bO:(execOp a.eval o).run P m.w= .ok (.value (.slice (some ⟨m.w.heap.size,0,none⟩) n n)) (m.w.alloc (.cells (madeCells z.cells (n*size)) T)):=by
   simp [execOp,aq,ar,ax,k9]
  have Bo:(madeCells z.cells (n*size)).toList=(List.replicate n z.cells.toList).flatten:=by rw[←pT]; exact ai0 _ _
  have hlen:(List.replicate n zero).length=n:=by simp
  have jc:=size_madeCells z.cells (n*size)
  generalize madeCells z.cells (n*size)=cur at*
  have kM:cur.toList.take ((List.replicate n zero).length*size)=(List.replicate n z.cells.toList).flatten:=by
   rw[hlen,List.take_of_length_le (by rw[Array.length_toList,jc]; exact Nat.le_refl _),Bo]
  obtain⟨cI,c8,ep⟩:=EL bo (w':=m.w.alloc (.cells cur T)) (T:=T) (size:=size) (cap:=n) (rows:=List.replicate n zero) (cur:=cur) rfl rfl rfl (by simp) (fun b hb=>sZ m.w _ b hb) (vz m.w _) (by rw[kM]; exact RP g1 n) (by rw[kM]; intro v af; obtain⟨l,J,aa⟩:=List.mem_flatten.1 af; obtain⟨_,rfl⟩:=List.mem_replicate.1 J; exact g2 v aa) (fun r ag=>by obtain⟨_,rfl⟩:=List.mem_replicate.1 ag; exact aB) jc (by rw[hlen]; exact Nat.le_refl _) hm aw
  rw[hlen]at cI c8 ep
  exact nY bO (h m.T _ _ (uS bo) rfl cI c8 ep)
end
end Go.bc
