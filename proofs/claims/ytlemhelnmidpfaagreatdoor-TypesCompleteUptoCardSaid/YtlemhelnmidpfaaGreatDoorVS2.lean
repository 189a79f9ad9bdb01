/- Part of a proof; own work. -/
import Derived.Orders
import Derived.Test.YtlemhelnmidpfaaGreatDoorVS1
set_option linter.unusedVariables false
set_option linter.unusedSimpArgs false
open Array renaming ext'→bd9,length_toList→aX4,getD_eq_getD_getElem?→aU8,getElem?_setIfInBounds_ne→aZ5,getElem?_eq_getElem→aY5,all_eq_true_iff_forall_mem→be7,replicate→bc6
open Bool renaming and_eq_true→aT0,not_eq_true'→aX1,or_eq_true→bc7,false_eq_true→aU6
open Int renaming natCast_nonneg→bi5
open List renaming mem_of_getElem?→aT6,replicate→aU2,mem_append→aW9,mem_cons→aV8,getD→bg1,cons_append→aU4,map_cons→aU5,range→bb6,getD_eq_getElem?_getD→aV9,getElem?_append_left→aX7,getElem?_append_right→aZ8,getElem?_cons_zero→bb4,all_eq_true→bb1,mem_zipIdx_iff_getElem?→ba4,mem_range→bl5,pairwise_append→bh3,getElem?_take→aV6,getElem?_drop→aZ0,mapM_cons→bi9,all_cons→aV0,pairwise_lt_range→bl2,getElem?_eq_getElem→aU0,take_succ_cons→aY1,length_map→aT1,length_drop→bd3,length_cons→aT3,length_take→aX3,length_append→aT2,length_nil→aU1
open Nat renaming add_assoc→ba9,le_refl→aT4,zero_add→aW6,blt_eq→bg0,blt→aW7,le_of_ble_eq_true→aZ3,reduceBEq→bd1,reduceAdd→bd2,ble→aV2,ble_eq→bb2,add_mul→aW4
open Option renaming isNone_iff_eq_none→bk6,getD_some→aX2,map_some→aV5,map_eq_some_iff→aW3
namespace Go.aX
open Go
section
variable {P:Program}{m:Mem}{env:Env}{a:Act}{o:Oper}
theorem an3 {r:I}{K:Act→World→Prop}{Q:Exit→Act→World→Prop}(q:fb P m a o r) (h: ∀v,aK m r v→K (a.put o.dst v) m.w):o.wp P a m.w K Q:=by
 obtain⟨v,h1,J⟩:=q
 exact ni h1 (h v J)
theorem p0 {m:Mem}: ∀ {az bU:List I}{l:List Value},dD az bU→aM m az l→aM m bU l
 |[],bU,l,h,k=>by simp only[dD]at h; subst h; exact k
 |a::az,bU,l,h,k=>by
  simp only[dD]at h
  obtain⟨b,bU,rfl,h1,J⟩:=h
  simp only[aM]at k ⊢
  obtain⟨v,ak,rfl,br,bA⟩:=k
  exact⟨v,ak,rfl,h1 _ _ br,p0 J bA⟩
theorem CK {P:Program}{f:FuncId}(h:cT P f=true):f<iy:=by
 unfold cT at h
 split at h
 ·simp only[aT0]at h
  simpa using h.2
 ·cases h
theorem zk {P:Program}{w:World}{f:FuncId}{args:Array Value}(h:cT P f=true):(callFunc f args).run P w= .ok (.enter f args) w:=by
 unfold cT at h
 split at h
 ·rename_i fn aO
  simp only[aT0,aX1]at h
  obtain⟨⟨h1,J⟩,_⟩:=h
  obtain⟨c,ah⟩:=Option.isSome_iff_exists.1 h1
  have KT: ¬fn.name= "runtime.NumGoroutine" :=by simpa using J
  simp [callFunc,aO,KT,ah]
 ·cases h
theorem zm {c:Call}{f:FuncId}{g:Operand}(af:o.op= .call c) (ah:c.callee= .value g) (bm:a.eval g= .func (.func f) #[] ⟨[]⟩) (aO:cT P f=true) (w:World):(execOp a.eval o).run P w= .ok (.enter f (c.args.map a.eval)) w:=by
 have yq:a.eval g= .func (.func f) #[] #[]:=bm
 simp [execOp,af,resolve,ah,yq,Deferred.ofValue,invoke,zk aO]
theorem BN {c:Call}{f:FuncId}{g:Operand}{l:List Value}(af:o.op= .call c) (ah:c.callee= .value g) (yq:a.eval g=qm f l) (aO:cT P f=true) (w:World):(execOp a.eval o).run P w= .ok (.enter f (c.args.map a.eval++⟨l⟩)) w:=by
 have bm:a.eval g= .func (.func f) #[] ⟨l⟩:=yq.trans (uG (CK aO) l)
 simp [execOp,af,resolve,ah,bm,Deferred.ofValue,invoke,zk aO]
theorem ar3 {c:Call}{f:FuncId}{g:Operand}{l:List Value}(af:o.op= .call c) (ah:c.callee= .value g) (yq:a.eval g=qm (f+iy) l) (aO:cT P f=true) (w:World):(execOp a.eval o).run P w= .ok (.enter f (⟨l⟩++c.args.map a.eval)) w:=by
 have bm:a.eval g= .func (.func f) ⟨l⟩ #[]:=yq.trans (KC f l)
 simp [execOp,af,resolve,ah,bm,Deferred.ofValue,invoke,zk aO]
def Nz (P:Program) (o:Oper) (a:Act) (K:Act→World→Prop) (Q:Exit→Act→World→Prop):Ending→World→Prop
 | .returned v,w=>K (a.put o.dst v) w
 | .panicked chain,w=>Q (.panic chain) a w
 | .outgrown,_=>LetsOut Q
theorem rY {K:Act→World→Prop}{Q:Exit→Act→World→Prop}{w w':World}{f:FuncId}{args:Array Value}(h:(execOp a.eval o).run P w= .ok (.enter f args) w') (hk:Calls P f args w' (Nz P o a K Q)):o.wp P a w K Q:=by
 simp only[Oper.wp,h,Oper.upon_enter]
 refine hk.mono fun e aS7 he=> ?_
 cases e<;>exact he
theorem q5 {f:FuncId}{az:List I}{ak:List Value}{R:Out→aw→Prop}{K:Act→World→Prop}{Q:Exit→Act→World→Prop}(aZ:bG m) (ad:aM m az ak) (ah:iu P f az m.H R)
  (h1: ∀r aU v,R (.ret r) aU.H→bG aU→bH m aU→aK aU r v→K (a.put o.dst v) aU.w)
  (J: ∀r aU v,R (.dW r) aU.H→bG aU→bH m aU→aK aU r v→Q (.panic [{v,recovered:=false}]) a aU.w):Calls P f ⟨ak⟩ m.w (Nz P o a K Q):=by
 refine (ah m ak rfl aZ ad).mono fun e w' he=> ?_
 obtain⟨y9,av,fI,cu,cb,cp,c5,gu⟩:=he
 cases y9 with
 |ret r=>
  simp only[pU]at c5
  obtain⟨v,rfl,c5⟩:=c5
  exact h1 r ⟨w',av,fI,cu⟩ v gu cb cp c5
 |dW r=>
  simp only[pU]at c5
  obtain⟨v,rfl,c5⟩:=c5
  exact J r ⟨w',av,fI,cu⟩ v gu cb cp c5
theorem zZ {t u T:TypeId}{size bytes:Nat}(h:(decide (jl P t=some T)&&(decide (jl P u=some T)||(match P.underlying u,P.underlying T with|some .string,some (.int .u8)=>true| _,_=>false))&&(match P.info? T with|some i=>decide (i.size=size)&&decide (i.bytes=bytes)&&(match i.zero with|some z=>decide (z.cells.size=size)|none=>false)|none=>false))=true):Nonempty (sW P t u T size bytes):=by
 simp only[aT0,bc7,decide_eq_true_eq]at h
 obtain⟨⟨h1,J⟩,aA⟩:=h
 have fV: ∀ {t T},jl P t=some T→P.underlying t=some (.slice T):=by
  intro t T h
  unfold jl at h
  split at h
  ·rename_i e hu; simp at h; subst h; exact hu
  ·cases h
 split at aA
 ·rename_i i ae
  simp only[aT0,decide_eq_true_eq]at aA
  obtain⟨⟨aj,aq⟩,bD⟩:=aA
  split at bD
  ·rename_i z aD
   refine⟨⟨fV h1,?_,i,ae,aj,aq,z,aD,by simpa using bD⟩⟩
   rcases J with J|J
   ·exact .inl (fV J)
   ·split at J
    ·rename_i hu _; exact .inr hu
    ·cases J
  ·cases bD
 ·cases aA
theorem BV {size:Nat}{y:I}{v:Value}{rows:List (List I)}(h:aK m y v) (bg:rowsOf size y=some rows): ∃news,Src P m size v rows news:=by
 unfold rowsOf at bg
 split at bg
 ·split at bg
  ·rename_i e; subst e; simp at bg; subst bg; exact Qs h
  ·cases bg
 ·split at bg
  ·rename_i e; subst e; simp at bg; subst bg; exact Qs (xe h)
  ·cases bg
 ·simp at bg
  subst bg
  rw[tV h]
  exact⟨[],au9⟩
 ·split at bg
  ·rename_i e; subst e; simp at bg; subst bg
   rw[(qH h).1]
   exact⟨_,av0⟩
  ·cases bg
 ·cases bg
theorem s4 {α:Type}{l:Array α}{x y:α}(h:l.toList=[x,y]):l= #[x,y]:=by cases l; simp at h; rw[h]
set_option maxHeartbeats 4000000 in
theorem Is {e:ba}{d:D}{K:Act→World→Prop}{Q:Exit→Act→World→Prop}(bw:ed P e env m.H d) (ah:be P o.op e=true) (aZ:bG m) (he:dF m env a.tmps)
  (h: ∀x aU v,d.fresh x m.H→aU.H=d.heap m.H x→bG aU→bH m aU→aK aU (d.val x) v→K (a.put o.dst v) aU.w):o.wp P a m.w K Q:=by
 have bs: ∀r,d= .cP r→fb P m a o r→o.wp P a m.w K Q:=by
  intro r e q
  subst e
  exact an3 q fun v ad=>h 0 m v trivial rfl aZ (bH.refl m) ad
 cases bw with
 |pure hp=>exact bs _ rfl (af4 he aZ ah hp)
 |quo U bg hb=>
  cases af:o.op<;>try (simp [af,be]at ah; done)
  rw[af]at ah
  simp only[be,aT0,decide_eq_true_eq]at ah
  obtain⟨⟨rfl,c1⟩,c2⟩:=ah
  exact bs _ rfl (Vb he af c1 c2 U bg hb)
 |rem U bg hb=>
  cases af:o.op<;>try (simp [af,be]at ah; done)
  rw[af]at ah
  simp only[be,aT0,decide_eq_true_eq]at ah
  obtain⟨⟨rfl,c1⟩,c2⟩:=ah
  exact bs _ rfl (Vc he af c1 c2 U bg hb)
 |ij U bg hb=>
  cases af:o.op<;>try (simp [af,be]at ah; done)
  rw[af]at ah
  simp only[be,aT0,decide_eq_true_eq]at ah
  obtain⟨⟨rfl,c1⟩,c2⟩:=ah
  exact bs _ rfl (UZ he af c1 c2 U bg hb)
 |nI U ae aW ab=>
  cases af:o.op<;>try (simp [af,be]at ah; done)
  have lh:=ah
  rw[af]at lh
  simp only[be,aT0]at lh
  have oe:=cY he lh.1.1
  rw[U]at oe
  exact bs _ rfl (If he af ah oe ae aW ab)
 |nG U ae aW ab=>
  cases af:o.op<;>try (simp [af,be]at ah; done)
  have lh:=ah
  rw[af]at lh
  simp only[be,aT0]at lh
  have oe:=cY he lh.1.1
  rw[U]at oe
  exact bs _ rfl (If he af ah (xe oe) ae aW ab)
 |oh U ae aW h1=>
  cases af:o.op<;>try (simp [af,be]at ah; done)
  exact bs _ rfl (U4 he af ah U ae aW h1)
 |mP U ae aW h1=>
  cases af:o.op<;>try (simp [af,be]at ah; done)
  have lh:=ah
  rw[af]at lh
  simp only[be,aT0]at lh
  have oe:=cY he lh.1.1
  rw[U]at oe
  exact bs _ rfl ⟨_,Ie he af ah (tU oe) ae aW h1,by simp only[aK]⟩
 |nH U ae aW h1=>
  cases af:o.op<;>try (simp [af,be]at ah; done)
  have lh:=ah
  rw[af]at lh
  simp only[be,aT0]at lh
  have oe:=cY he lh.1.1
  rw[U]at oe
  obtain⟨b,p,aj,aq⟩:=xf oe
  exact bs _ rfl ⟨_,Ie he af ah aj ae aW h1,by simp only[aK]; exact⟨b,p,by rw[ba9],aq⟩⟩
 |iD U ae aW h1 aE ad=>
  cases af:o.op<;>try (simp [af,be]at ah; done)
  exact bs _ rfl (U3 he af ah U ae aW h1 aE ad)
 |gp U ae aW tC=>
  cases af:o.op<;>try (simp [af,be]at ah; done)
  exact bs _ rfl (U5 he af ah U ae aW tC)
 |iW U aE a8 h1 J=>
  cases af:o.op<;>try (simp [af,be]at ah; done)
  exact bs _ rfl (Ve he af ah U aE a8 h1 J)
 |gL U aE a8 h1 J=>
  cases af:o.op<;>try (simp [af,be]at ah; done)
  exact bs _ rfl (Vf he af ah U aE a8 h1 J)
 |jh U=>
  cases af:o.op<;>try (simp [af,be]at ah; done)
  obtain⟨w',v,cb,cp,c5,gu⟩:=U0 he aZ af ah U
  exact ni cb (h 0 {m with w:=w'} v trivial rfl cp c5 gu)
 |box U=>
  cases af:o.op<;>try (simp [af,be]at ah; done)
  rw[af]at ah
  simp only[be,aT0,decide_eq_true_eq]at ah
  obtain⟨rfl,c1⟩:=ah
  obtain⟨l,cb,cp⟩:=UY he aZ af c1 U
  exact ni cb (h m.w.heap.size _ _ (vY aZ) rfl cp (bH.bN _ _ _ _) (by simp only[D.val,aK]))
 |alloc aD=>
  cases af:o.op<;>try (simp [af,be]at ah; done)
  rw[af]at ah
  simp only[be,aT0,decide_eq_true_eq]at ah
  obtain⟨rfl,c1⟩:=ah
  obtain⟨l,cb,cp⟩:=UX (a:=a) aZ af c1
  exact ni cb (h m.w.heap.size _ _ (vY aZ) rfl cp (bH.bN _ _ _ _) (by simp only[D.val,aK]))
 |nS ab an h1=>
  cases af:o.op<;>try (simp [af,be]at ah; done)
  obtain⟨l,cb,cp,c5,gu,lT,vA⟩:=C0 he aZ af ah ab an h1
  rename_i T size n zero parts rows t fU NE
  have aC:=bH.alloc m (.cells ⟨l⟩ T)
  refine ni cb (h 0 {m with w:=m.w.alloc (.cells ⟨l⟩ T)} _ trivial rfl (bG.alloc aZ _) aC ?_)
  simp only[D.val,aK]
  refine⟨_,_,_,rfl,rfl,⟨aT4 _,by rw[Bg]; omega⟩,.inr ⟨m.w.heap.size,0,rfl,dy.of (fun r ab=>by have:=List.all_eq_true.1 an r ab; simpa using this) (aM.aC aC _ _ cp) fun j v bq=>⟨?_,c5 v (aT6 bq),⟨by simp,vY aZ,fun t i aF hb=> ?_⟩⟩⟩⟩
  ·rw[aW6,cell_of_row _ m.w.heap.size j ⟨l⟩ T (0,0) (sx m.w _)]
   simpa using bq
  ·have:=ua aZ aF hb
   omega
 |l4 ab an h1 aW=>
  cases af:o.op<;>try (simp [af,be]at ah; done)
  rename_i T size n zero parts rows t fU NE
  have lh:be P o.op (.eu T size n zero parts)=true:=by rw[af]at ah ⊢; exact ah
  obtain⟨l,cb,cp,c5,gu,lT,vA⟩:=C0 he aZ af lh ab an h1
  obtain⟨b5,cA,dh⟩:=MA aZ (w':=m.w.alloc (.cells ⟨l⟩ T)) (T:=T) (size:=size) (cap:=rows.length) (rows:=rows) (l:=l) (cur:=⟨l⟩) rfl rfl rfl (by simp) (fun b hb=>oL m.w _ b hb) (sx m.w _) cp c5 gu (fun r ab=>by have:=List.all_eq_true.1 an r ab; simpa using this) (fun j v bq=>by simpa using bq) (by simpa using gu) (aT4 _) (by rw[Bg]; omega) vA
  exact ni cb (h m.T _ _ (qL aZ) rfl b5 cA dh)
 |pY U bg hb hm aW=>
  cases af:o.op<;>try (simp [af,be]at ah; done)
  rename_i T size bytes x y rows c
  obtain⟨callee,args,argTypes⟩:=c
  rw[af]at ah
  cases callee with
  |value f=>simp [be]at ah
  |invoke _ _=>simp [be]at ah
  |builtin b=>
   cases b<;>simp only[be]at ah<;>first
    |(cases ah; done)
    |skip
   simp only[aT0]at ah
   obtain⟨c1,c2⟩:=ah
   split at c2
   ·rename_i t u aF
    obtain⟨A⟩:=zZ c2
    obtain rfl:=s4 aF
    have ry: ∃p q,args= #[p,q]∧cK p x=true∧cK q y=true:=by
     match aE:args.toList with
     |[p,q]=>rw[aE]at c1; simp only[fD,aT0]at c1; exact⟨p,q,s4 aE,c1.1,c1.2.1⟩
     |[]=>rw[aE]at c1; simp [fD]at c1
     |[_]=>rw[aE]at c1; simp [fD]at c1
     | _:: _:: _:: _=>rw[aE]at c1; simp [fD]at c1
    obtain⟨p,q,rfl,aj,aq⟩:=ry
    have hp:=cY he aj
    rw[U]at hp
    have u6:=tV hp
    obtain⟨news,S⟩:=BV (P:=P) (cY he aq) bg
    obtain⟨aU,v,cb,cp,c5,gu,lT⟩:=RM (ty:=o.type) A aZ S hb hm aW
    refine ni (v:=v) (w':=aU.w) ?_ (h m.T aU v (qL aZ) gu cp c5 lT)
    simp [execOp,af,resolve,invoke,builtin,u6,cb]
   ·cases c2
 |io aL hp=>
  cases af:o.op<;>try (simp [af,be]at ah; done)
  rename_i f args az r c
  obtain⟨callee,eL,argTypes⟩:=c
  rw[af]at ah
  cases callee with
  |builtin b=>cases b<;>simp [be]at ah
  |invoke _ _=>simp [be]at ah
  |value g=>
   simp only[be,aT0]at ah
   obtain⟨⟨c1,c2⟩,eV⟩:=ah
   split at c1
   ·rename_i iQ
    have:iQ=f:=by simpa using c1
    subst this
    refine rY (zm af rfl rfl eV m.w) ?_
    have aE:=p0 aL (nU he c2)
    have eE:(eL.map a.eval)=⟨eL.toList.map a.eval⟩:=bd9 (by simp)
    rw[show ({callee:=Callee.value (Operand.func iQ),args:=eL,argTypes:=argTypes}:Call).args.map a.eval=⟨eL.toList.map a.eval⟩ from eE]
    exact q5 aZ aE (hp m.H) (fun dQ aU v ab cb cp c5=>by obtain⟨aj,aq⟩:=ab; simp at aj; subst aj; exact h 0 aU v trivial aq cb cp c5) (fun dQ aU v ab=>by simp at ab)
   ·cases c1
 |j8 U aO aL hp=>
  cases af:o.op<;>try (simp [af,be]at ah; done)
  rename_i x args f cap az r c
  obtain⟨callee,eL,argTypes⟩:=c
  rw[af]at ah
  cases callee with
  |builtin b=>cases b<;>simp [be]at ah
  |invoke _ _=>simp [be]at ah
  |value g=>
   simp only[be,aT0]at ah
   obtain⟨c1,c2⟩:=ah
   have bm:=cY he c1
   rw[U]at bm
   obtain⟨l,g1,g2⟩:=vD bm
   refine rY (BN af rfl g1 aO m.w) ?_
   have aE:=p0 aL (aM.append (nU he c2) g2)
   have eE:(eL.map a.eval)++⟨l⟩=⟨eL.toList.map a.eval++l⟩:=by
    apply bd9
    simp
   rw[show ({callee:=Callee.value g,args:=eL,argTypes:=argTypes}:Call).args.map a.eval++⟨l⟩=⟨eL.toList.map a.eval++l⟩ from eE]
   exact q5 aZ aE (hp m.H) (fun dQ aU v ab cb cp c5=>by obtain⟨aj,aq⟩:=ab; simp at aj; subst aj; exact h 0 aU v trivial aq cb cp c5) (fun dQ aU v ab=>by simp at ab)
 |oU aL hp=>
  cases af:o.op<;>try (simp [af,be]at ah; done)
  rename_i f args az r c
  obtain⟨callee,eL,argTypes⟩:=c
  rw[af]at ah
  cases callee with
  |builtin b=>cases b<;>simp [be]at ah
  |invoke _ _=>simp [be]at ah
  |value g=>
   simp only[be,aT0]at ah
   obtain⟨⟨c1,c2⟩,eV⟩:=ah
   split at c1
   ·rename_i iQ
    have:iQ=f:=by simpa using c1
    subst this
    refine rY (zm af rfl rfl eV m.w) ?_
    have aE:=p0 aL (nU he c2)
    have eE:(eL.map a.eval)=⟨eL.toList.map a.eval⟩:=bd9 (by simp)
    rw[show ({callee:=Callee.value (Operand.func iQ),args:=eL,argTypes:=argTypes}:Call).args.map a.eval=⟨eL.toList.map a.eval⟩ from eE]
    exact q5 aZ aE (hp m.H) (fun dQ aU v ab cb cp c5=>by obtain⟨aj,aq⟩:=ab; simp at aj; subst aj; exact h 0 aU v trivial aq cb cp c5) (fun dQ aU v ab=>by simp at ab)
   ·cases c1
 |pJ U aO aL hp=>
  cases af:o.op<;>try (simp [af,be]at ah; done)
  rename_i x args f cap az r c
  obtain⟨callee,eL,argTypes⟩:=c
  rw[af]at ah
  cases callee with
  |builtin b=>cases b<;>simp [be]at ah
  |invoke _ _=>simp [be]at ah
  |value g=>
   simp only[be,aT0]at ah
   obtain⟨c1,c2⟩:=ah
   have bm:=cY he c1
   rw[U]at bm
   obtain⟨l,g1,g2⟩:=vD bm
   refine rY (BN af rfl g1 aO m.w) ?_
   have aE:=p0 aL (aM.append (nU he c2) g2)
   have eE:(eL.map a.eval)++⟨l⟩=⟨eL.toList.map a.eval++l⟩:=by
    apply bd9
    simp
   rw[show ({callee:=Callee.value g,args:=eL,argTypes:=argTypes}:Call).args.map a.eval++⟨l⟩=⟨eL.toList.map a.eval++l⟩ from eE]
   exact q5 aZ aE (hp m.H) (fun dQ aU v ab cb cp c5=>by obtain⟨aj,aq⟩:=ab; simp at aj; subst aj; exact h 0 aU v trivial aq cb cp c5) (fun dQ aU v ab=>by simp at ab)
 |uy U bg hb hm aW=>
  cases af:o.op<;>try (simp [af,be]at ah; done)
  rename_i T size bytes x y rows c
  obtain⟨callee,args,argTypes⟩:=c
  rw[af]at ah
  cases callee with
  |value f=>simp [be]at ah
  |invoke _ _=>simp [be]at ah
  |builtin b=>
   cases b<;>simp only[be]at ah<;>first
    |(cases ah; done)
    |skip
   simp only[aT0]at ah
   obtain⟨c1,c2⟩:=ah
   split at c2
   ·rename_i t u aF
    obtain⟨A⟩:=zZ c2
    obtain rfl:=s4 aF
    have ry: ∃p q,args= #[p,q]∧cK p x=true∧cK q y=true:=by
     match aE:args.toList with
     |[p,q]=>rw[aE]at c1; simp only[fD,aT0]at c1; exact⟨p,q,s4 aE,c1.1,c1.2.1⟩
     |[]=>rw[aE]at c1; simp [fD]at c1
     |[_]=>rw[aE]at c1; simp [fD]at c1
     | _:: _:: _:: _=>rw[aE]at c1; simp [fD]at c1
    obtain⟨p,q,rfl,aj,aq⟩:=ry
    have hp:=cY he aj
    rw[U]at hp
    have u6:=tV hp
    obtain⟨news,S⟩:=BV (P:=P) (cY he aq) bg
    obtain⟨aU,v,cb,cp,c5,gu,lT⟩:=RL (ty:=o.type) A aZ S hb hm aW
    refine ni (v:=v) (w':=aU.w) ?_ (h m.T aU v (qL aZ) gu cp c5 lT)
    simp [execOp,af,resolve,invoke,builtin,u6,cb]
   ·cases c2
 |tS aL hp=>
  cases af:o.op<;>try (simp [af,be]at ah; done)
  rename_i f args az T size rows c
  obtain⟨callee,eL,argTypes⟩:=c
  rw[af]at ah
  cases callee with
  |builtin b=>cases b<;>simp [be]at ah
  |invoke _ _=>simp [be]at ah
  |value g=>
   simp only[be,aT0]at ah
   obtain⟨⟨c1,c2⟩,eV⟩:=ah
   split at c1
   ·rename_i iQ
    have:iQ=f:=by simpa using c1
    subst this
    refine rY (zm af rfl rfl eV m.w) ?_
    have aE:=p0 aL (nU he c2)
    have eE:(eL.map a.eval)=⟨eL.toList.map a.eval⟩:=bd9 (by simp)
    rw[show ({callee:=Callee.value (Operand.func iQ),args:=eL,argTypes:=argTypes}:Call).args.map a.eval=⟨eL.toList.map a.eval⟩ from eE]
    exact q5 aZ aE (hp m.H) (fun dQ aU v ab cb cp c5=>by obtain⟨t,ch,aj,aq⟩:=ab; simp at aj; subst aj; exact h t aU v ch aq cb cp c5) (fun dQ aU v ab=>by obtain⟨t,ch,aj,aq⟩:=ab; simp at aj)
   ·cases c1
 |hV U aF=>
  cases af:o.op<;>try (simp [af,be]at ah; done)
  exact bs _ rfl (U7 he aZ af ah U aF)
 |tL U=>
  cases af:o.op<;>try (simp [af,be]at ah; done)
  exact bs _ rfl (Ig he af ah fun v ad=> .inl ⟨by rw[U]at ad; simpa only[aK] using ad,rfl⟩)
 |tK U ab=>
  cases af:o.op<;>try (simp [af,be]at ah; done)
  exact bs _ rfl (Ig he af ah fun v ad=> .inr ⟨by rw[U]at ad; exact aH0 ad ab,rfl⟩)
 |iB U aF=>
  cases af:o.op<;>try (simp [af,be]at ah; done)
  exact bs _ rfl (U1 he aZ af ah U aF)
 |hE U aF ae aW h1=>
  cases af:o.op<;>try (simp [af,be]at ah; done)
  exact bs _ rfl (U2 he aZ af ah U aF ae aW h1)
 |ib U aF aE ad=>
  cases af:o.op<;>try (simp [af,be]at ah; done)
  exact bs _ rfl (U8 he aZ af ah U aF aE ad)
 |lF ab an h1 aW=>
  cases af:o.op<;>try (simp [af,be]at ah; done)
  rename_i T size n zero parts rows t fU NE
  have lh:be P o.op (.eu T size n zero parts)=true:=by rw[af]at ah ⊢; exact ah
  obtain⟨l,cb,cp,c5,gu,lT,vA⟩:=C0 he aZ af lh ab an h1
  have mO:(⟨l⟩:Array Value).toList.take (rows.length*size)=l:=by rw[←gu]; simp
  obtain⟨b5,cA,dh⟩:=Bl aZ (w':=m.w.alloc (.cells ⟨l⟩ T)) (T:=T) (size:=size) (cap:=rows.length) (rows:=rows) (cur:=⟨l⟩) rfl rfl rfl (by simp) (fun b hb=>oL m.w _ b hb) (sx m.w _) (by rw[mO]; exact cp) (by rw[mO]; exact c5) (fun r ab=>by have:=List.all_eq_true.1 an r ab; simpa using this) gu (aT4 _) (by rw[Bg]; omega) aW
  exact ni cb (h m.T _ _ (qL aZ) rfl b5 cA dh)
 |hs U aF hk ab=>
  cases af:o.op<;>try (simp [af,be]at ah; done)
  exact bs _ rfl (U9 he aZ af ah U aF hk ab)
 |pF U hk=>
  cases af:o.op<;>try (simp [af,be]at ah; done)
  exact bs _ rfl (Va he af ah U hk)
 |mkMap=>
  cases af:o.op<;>try (simp [af,be]at ah; done)
  rename_i T ty vC
  cases vC with
  |some q=>rw[af]at ah; simp [be]at ah
  |none=>
  obtain⟨b5,cA,dh⟩:=aa8 aZ T
  have cb:(execOp a.eval o).run P m.w= .ok (.value (.map (some m.w.heap.size))) (m.w.alloc (.map #[] 0)):=by
   simp [execOp,af,Instr.makeMap,Result.andThen]
  exact ni cb (h m.T _ _ (qL aZ) rfl b5 cA dh)
 |mR U hb hm A9 aD aW=>
  cases af:o.op<;>try (simp [af,be]at ah; done)
  rename_i T size bytes zero x k n dk bM cB
  rw[af]at ah
  simp only[be,aT0,decide_eq_true_eq]at ah
  obtain⟨⟨⟨⟨⟨c1,c2⟩,eV⟩,gn⟩,kL⟩,lG⟩:=ah
  obtain⟨i,z,ae,Yr,tD⟩:=B8 kL
  obtain⟨g1,g2⟩:=Ap (m:=m) tD
  have aj:=cY he c1
  have aq:=cY he c2
  rw[U]at aj aq
  have aj:=iV aj
  have aq:=iV aq
  rw[ae]at lG
  simp only[decide_eq_true_eq]at lG
  have dd:i.size=size:=by
   obtain⟨i2,b5,cA⟩:=BR gn
   rw[ae]at b5
   cases b5
   exact cA
  have pB:z.cells.size=size:=by
   have:=aM.length g1
   rw[←aD,←this]
   simp
  have gd:(i.bytes:Int)*(n:Int)≤281474976710656:=by
   rw[lG]
   have h:((bytes*n:Nat):Int)≤281474976710656:=by omega
   rwa [Int.natCast_mul]at h
  have XL:(n:Int)≤9223372036854775807:=by have:=hm; unfold maxLen at this; omega
  have j3:=run_make (P:=P) m.w dk T i z (BS eV) ae Yr k k (n:Int) (n:Int) (by omega) (by omega) gd XL
  simp only[Int.toNat_natCast]at j3
  rw[dd]at j3
  have cb:(execOp a.eval o).run P m.w= .ok (.value (.slice (some ⟨m.w.heap.size,0,none⟩) n n)) (m.w.alloc (.cells (madeCells z.cells (n*size)) T)):=by
   simp [execOp,af,aj,aq,j3]
  have XJ:(madeCells z.cells (n*size)).toList=(aU2 n z.cells.toList).flatten:=by rw[←pB]; exact ZY _ _
  have hlen:(aU2 n zero).length=n:=by simp
  have jE:=size_madeCells z.cells (n*size)
  generalize madeCells z.cells (n*size)=cur at*
  have mO:cur.toList.take ((aU2 n zero).length*size)=(aU2 n z.cells.toList).flatten:=by
   rw[hlen,List.take_of_length_le (by rw[aX4,jE]; exact aT4 _),XJ]
  obtain⟨b5,cA,dh⟩:=Bl aZ (w':=m.w.alloc (.cells cur T)) (T:=T) (size:=size) (cap:=n) (rows:=aU2 n zero) (cur:=cur) rfl rfl rfl (by simp) (fun b hb=>oL m.w _ b hb) (sx m.w _) (by rw[mO]; exact Qh g1 n) (by rw[mO]; intro v ad; obtain⟨l,h1,J⟩:=List.mem_flatten.1 ad; obtain⟨_,rfl⟩:=List.mem_replicate.1 h1; exact g2 v J) (fun r ab=>by obtain⟨_,rfl⟩:=List.mem_replicate.1 ab; exact aD) jE (by rw[hlen]; exact aT4 _) hm aW
  rw[hlen]at b5 cA dh
  exact ni cb (h m.T _ _ (qL aZ) rfl b5 cA dh)
end
section
variable {P:Program}{m:Mem}{env:Env}{a:Act}{o:Oper}
theorem as6 {w:World}{b o:Nat}{l new:List Value}(h:o+new.length≤l.length):(((⟨l⟩:Array Value).toList.take (o+0)++new++(⟨l⟩:Array Value).toList.drop (o+0+new.length)).toArray)=(⟨fM l o new⟩:Array Value):=by
 simp [fM]
set_option maxHeartbeats 4000000 in
theorem LU {cF:Nat}{a0 v0:aH}{K Rp:I→aw→Prop}{sZ:Act→World→Prop}{Q:Exit→Act→World→Prop}(an:gH P (.store cF a0 v0) env m.H K Rp) (ah:be P o.op (.store cF a0 v0)=true) (aZ:bG m) (he:dF m env a.tmps)
  (h: ∀x aU v,K x aU.H→bG aU→bH m aU→aK aU x v→sZ (a.put o.dst v) aU.w)
  (hp: ∀x aU v,Rp x aU.H→bG aU→bH m aU→aK aU x v→Q (.panic [{v,recovered:=false}]) a aU.w):o.wp P a m.w sZ Q:=by
 cases an with
 |gU d bw hk=>exact Is bw ah aZ he fun x aU v h1 J aA bz bZ=>h _ aU v (J▸hk x h1) aA bz bZ
 |store aL hb bb aE hr hk=>
  cases af:o.op<;>try (simp [af,be]at ah; done)
  rename_i b p T cs t x y
  rw[af]at ah
  simp only[be,aT0,decide_eq_true_eq]at ah
  obtain⟨⟨c1,c2⟩,eV⟩:=ah
  have U:=cY he c2
  rw[aL]at U
  obtain⟨g1,g2⟩:=Am (cY he eV) hr
  have hlen:=aM.length g1
  obtain⟨l,cb,cp,c5⟩:=aZ.aV b T cs hb
  have li:=aM.length cp
  have kQ:=run_storeCells_at P b p T (a.eval y).cells.toList 0 ⟨l⟩ m.w cb (by simp only[List.size_toArray]; omega) g2
  rw[as6 (w:=m.w) (b:=b) (by omega)]at kQ
  have dd:(a.eval y).cells.size=cF:=by rw[←aX4,hlen]; exact bb
  have j3:(execOp a.eval o).run P m.w= .ok .skip (m.w.setRow b ⟨fM l p (a.eval y).cells.toList⟩):=by
   simp only[execOp,af,Instr.storeAt,tU U,Instr.sureAddr,Sem.run_bind,Sem.run_pure,Result.andThen_ok,storeVar,mn c1,Sem.run_ite,dd,ne_eq,not_true_eq_false,if_false,kQ]
  have hw: ∀k,k≠b→(m.w.setRow b ⟨fM l p (a.eval y).cells.toList⟩).heap[k]? =m.w.heap[k]? :=fun k hk=>setRow_other m.w b k _ hk
  have u7:=FH cp g1 p
  have A3: ∀v∈fM l p (a.eval y).cells.toList,v.oneCell'=true:=by
   intro v ad
   simp only[fM,aW9]at ad
   rcases ad with (ad|ad)|ad
   ·exact c5 v (List.mem_of_mem_take ad)
   ·exact g2 v ad
   ·exact c5 v (List.mem_of_mem_drop ad)
  have Fu:=bG.ic aZ (w':=m.w.setRow b ⟨fM l p (a.eval y).cells.toList⟩) (T:=T) (cs:=fs cs p (aH.aC env v0).cells) (l:=fM l p (a.eval y).cells.toList) hb rfl rfl rfl (by simp) hw (setRow_heap m.w b _ _ T (0,0) cb) u7 A3
  have Dt:=bH.ic aZ (w':=m.w.setRow b ⟨fM l p (a.eval y).cells.toList⟩) (T:=T) (cs:=fs cs p (aH.aC env v0).cells) hb rfl rfl rfl (by simp) hw
  simp only[Oper.wp,j3,Oper.upon]
  exact h _ _ Go.undef hk Fu Dt (by simp only[aK])
 |tZ aL aF bb aE hr aO ab hlen hk=>
  cases af:o.op<;>try (simp [af,be]at ah; done)
  rename_i t ver k T size rows rows' ty x y
  rw[af]at ah
  simp only[be,aT0,decide_eq_true_eq]at ah
  obtain⟨⟨c1,c2⟩,eV⟩:=ah
  have U:=cY he c2
  rw[aL]at U
  obtain⟨g1,g2⟩:=Am (cY he eV) hr
  obtain⟨g,aU,cb,cp,c5,gu,lT⟩:=Qt (P:=P) aZ U aF (by rw[bb]; exact aE) g1 g2 aO ab hlen
  have dd:(a.eval y).cells.size=cF:=by rw[←aX4,aM.length g1]; exact bb
  have j3:(execOp a.eval o).run P m.w= .ok .skip aU.w:=by
   simp only[execOp,af,Instr.storeAt,cb,Instr.sureAddr,Sem.run_bind,Sem.run_pure,Result.andThen_ok,storeVar,mn c1,Sem.run_ite,dd,ne_eq,not_true_eq_false,if_false,cp]
  simp only[Oper.wp,j3,Oper.upon]
  exact h _ aU Go.undef (lT▸hk) c5 gu (by simp only[aK])
set_option maxHeartbeats 4000000 in
theorem YF {e:ba}{K Rp:I→aw→Prop}{sZ:Act→World→Prop}{Q:Exit→Act→World→Prop}(an:gH P e env m.H K Rp) (ah:be P o.op e=true) (aZ:bG m) (he:dF m env a.tmps)
  (h: ∀x aU v,K x aU.H→bG aU→bH m aU→aK aU x v→sZ (a.put o.dst v) aU.w)
  (hp: ∀x aU v,Rp x aU.H→bG aU→bH m aU→aK aU x v→Q (.panic [{v,recovered:=false}]) a aU.w):o.wp P a m.w sZ Q:=by
 cases an with
 |gU d bw hk=>exact Is bw ah aZ he fun x aU v h1 J aA bz bZ=>h _ aU v (J▸hk x h1) aA bz bZ
 |store aL hb bb aE hr hk=>exact LU (.store aL hb bb aE hr hk) ah aZ he h hp
 |gF oK kx aL hb bb aE hr hk=>
  refine LU (.store aL hb bb aE hr hk) ?_ aZ he h hp
  cases af:o.op<;>try (simp [af,be]at ah; done)
  rw[af]at ah
  exact ah
 |append U aF bg hb hm hk=>
  cases af:o.op<;>try (simp [af,be]at ah; done)
  rename_i T size bytes x y dc rows new c
  obtain⟨callee,args,argTypes⟩:=c
  rw[af]at ah
  cases callee with
  |value f=>simp [be]at ah
  |invoke _ _=>simp [be]at ah
  |builtin b=>
   cases b<;>simp only[be]at ah<;>first
    |(cases ah; done)
    |skip
   simp only[aT0]at ah
   obtain⟨c1,c2⟩:=ah
   split at c2
   ·rename_i t u fL
    obtain⟨A⟩:=zZ c2
    obtain rfl:=s4 fL
    have ry: ∃p q,args= #[p,q]∧cK p x=true∧cK q y=true:=by
     match aE:args.toList with
     |[p,q]=>rw[aE]at c1; simp only[fD,aT0]at c1; exact⟨p,q,s4 aE,c1.1,c1.2.1⟩
     |[]=>rw[aE]at c1; simp [fD]at c1
     |[_]=>rw[aE]at c1; simp [fD]at c1
     | _:: _:: _:: _=>rw[aE]at c1; simp [fD]at c1
    obtain⟨p,q,rfl,aj,aq⟩:=ry
    have hp:=cY he aj
    rw[U]at hp
    obtain⟨news,S⟩:=BV (P:=P) (cY he aq) bg
    obtain⟨aU,v,cb,cp,c5,gu,lT⟩:=RN (ty:=o.type) A aZ hp aF S hb hm
    refine ni (v:=v) (w':=aU.w) ?_ (h _ aU v (gu▸hk) cp c5 lT)
    simp [execOp,af,resolve,invoke,builtin,cb]
   ·cases c2
 |lD U aF bg hb hm hk=>
  cases af:o.op<;>try (simp [af,be]at ah; done)
  rename_i T size bytes x y dc ver rows new c
  obtain⟨callee,args,argTypes⟩:=c
  rw[af]at ah
  cases callee with
  |value f=>simp [be]at ah
  |invoke _ _=>simp [be]at ah
  |builtin b=>
   cases b<;>simp only[be]at ah<;>first
    |(cases ah; done)
    |skip
   simp only[aT0]at ah
   obtain⟨c1,c2⟩:=ah
   split at c2
   ·rename_i t u fL
    obtain⟨A⟩:=zZ c2
    obtain rfl:=s4 fL
    have ry: ∃p q,args= #[p,q]∧cK p x=true∧cK q y=true:=by
     match aE:args.toList with
     |[p,q]=>rw[aE]at c1; simp only[fD,aT0]at c1; exact⟨p,q,s4 aE,c1.1,c1.2.1⟩
     |[]=>rw[aE]at c1; simp [fD]at c1
     |[_]=>rw[aE]at c1; simp [fD]at c1
     | _:: _:: _:: _=>rw[aE]at c1; simp [fD]at c1
    obtain⟨p,q,rfl,aj,aq⟩:=ry
    have hp:=cY he aj
    rw[U]at hp
    obtain⟨news,S⟩:=BV (P:=P) (cY he aq) bg
    obtain⟨aU,v,cb,cp,c5,gu,lT⟩:=RJ (ty:=o.type) A aZ hp aF S hb hm
    refine ni (v:=v) (w':=aU.w) ?_ (h _ aU v (gu▸hk) cp c5 lT)
    simp [execOp,af,resolve,invoke,builtin,cb]
   ·cases c2
 |yF U hk=>
  cases af:o.op<;>try (simp [af,be]at ah; done)
  rename_i neg x size rows op t u v w
  obtain⟨b,w',cb,cp⟩:=U6 (P:=P) (m:=m) he af ah U
  exact ni cb (h _ m w' (hk b) aZ (bH.refl m) cp)
 |mo U aF aE a8 h1 bs hk=>
  cases af:o.op<;>try (simp [af,be]at ah; done)
  rename_i lp
  have Ea:lp=none:=by
   cases lp with
   |none=>rfl
   |some q=>rw[af]at ah; simp [be]at ah
  subst Ea
  obtain⟨aU,v,iG,cb,cp,c5,gu⟩:=Vd he aZ af ah U aF aE a8 h1 bs
  exact ni iG (h _ aU v (c5▸hk) cb cp gu)
 |tZ aL aF bb aE hr aO ab hlen hk=>
  cases af:o.op<;>try (simp [af,be]at ah; done)
  rename_i n eU v t ver k T size rows rows' ty x y
  rw[af]at ah
  simp only[be,aT0,decide_eq_true_eq]at ah
  obtain⟨⟨c1,c2⟩,eV⟩:=ah
  have U:=cY he c2
  rw[aL]at U
  obtain⟨g1,g2⟩:=Am (cY he eV) hr
  obtain⟨g,aU,cb,cp,c5,gu,lT⟩:=Qt (P:=P) aZ U aF (by rw[bb]; exact aE) g1 g2 aO ab hlen
  have dd:(a.eval y).cells.size=n:=by rw[←aX4,aM.length g1]; exact bb
  have j3:(execOp a.eval o).run P m.w= .ok .skip aU.w:=by
   simp only[execOp,af,Instr.storeAt,cb,Instr.sureAddr,Sem.run_bind,Sem.run_pure,Result.andThen_ok,storeVar,mn c1,Sem.run_ite,dd,ne_eq,not_true_eq_false,if_false,cp]
  simp only[Oper.wp,j3,Oper.upon]
  exact h _ aU Go.undef (lT▸hk) c5 gu (by simp only[aK])
 |mQ U aF qo hr ab hk=>
  cases af:o.op<;>try (simp [af,be]at ah; done)
  rename_i x k v t ver T rows rows' s ty cE eX bp
  rw[af]at ah
  simp only[be,aT0,decide_eq_true_eq,Option.isSome_iff_exists]at ah
  obtain⟨⟨⟨c1,c2⟩,eV⟩,eC,gn⟩:=ah
  have g1:=cY he c1
  have g2:=cY he c2
  have g3:=cY he eV
  rw[U]at g1
  rw[qo]at g2
  simp only[aK]at g2
  obtain⟨kt,br,bA⟩:=Ma gn
  obtain⟨aU,cb,cp,c5,gu⟩:=ah1 (P:=P) aZ aF g1 br bA g2.2 g3 (y7 g3 hr) ab
  have j3:(execOp a.eval o).run P m.w= .ok .skip aU.w:=by
   simp [execOp,af,g2.1,cb,Result.andThen]
  simp only[Oper.wp,j3,Oper.upon]
  exact h _ aU Go.undef (gu▸hk) cp c5 (by simp only[aK])
 |call uq aL st hk=>
  cases af:o.op<;>try (simp [af,be]at ah; done)
  rename_i f args az c
  obtain⟨callee,eL,argTypes⟩:=c
  rw[af]at ah
  cases callee with
  |builtin b=>cases b<;>simp [be]at ah
  |invoke _ _=>simp [be]at ah
  |value g=>
   simp only[be,aT0]at ah
   obtain⟨⟨c1,c2⟩,eV⟩:=ah
   split at c1
   ·rename_i iQ
    have:iQ=f:=by simpa using c1
    subst this
    refine rY (zm af rfl rfl eV m.w) ?_
    have aE:=p0 aL (nU he c2)
    have eE:(eL.map a.eval)=⟨eL.toList.map a.eval⟩:=bd9 (by simp)
    rw[show ({callee:=Callee.value (Operand.func iQ),args:=eL,argTypes:=argTypes}:Call).args.map a.eval=⟨eL.toList.map a.eval⟩ from eE]
    exact q5 aZ aE st (fun dQ aU v ab cb cp c5=>h _ aU v (hk _ _ ab) cb cp c5) (fun dQ aU v ab cb cp c5=>hp _ aU v (hk _ _ ab) cb cp c5)
   ·cases c1
 |fQ uq kx hex aL st hk=>
  cases af:o.op<;>try (simp [af,be]at ah; done)
  rename_i others f args az c
  obtain⟨callee,eL,argTypes⟩:=c
  rw[af]at ah
  cases callee with
  |builtin b=>cases b<;>simp [be]at ah
  |invoke _ _=>simp [be]at ah
  |value g=>
   simp only[be,aT0]at ah
   obtain⟨⟨c1,c2⟩,eV⟩:=ah
   split at c1
   ·rename_i iQ
    have:iQ=f:=by simpa using c1
    subst this
    refine rY (zm af rfl rfl eV m.w) ?_
    have aE:=p0 aL (nU he c2)
    have eE:(eL.map a.eval)=⟨eL.toList.map a.eval⟩:=bd9 (by simp)
    rw[show ({callee:=Callee.value (Operand.func iQ),args:=eL,argTypes:=argTypes}:Call).args.map a.eval=⟨eL.toList.map a.eval⟩ from eE]
    exact q5 aZ aE st (fun dQ aU v ab cb cp c5=>h _ aU v (hk _ _ ab) cb cp c5) (fun dQ aU v ab cb cp c5=>hp _ aU v (hk _ _ ab) cb cp c5)
   ·cases c1
 |kn uq U aO kx hex aL st hk=>
  cases af:o.op<;>try (simp [af,be]at ah; done)
  rename_i others x args f cap az c
  obtain⟨callee,eL,argTypes⟩:=c
  rw[af]at ah
  cases callee with
  |builtin b=>cases b<;>simp [be]at ah
  |invoke _ _=>simp [be]at ah
  |value g=>
   simp only[be,aT0]at ah
   obtain⟨c1,c2⟩:=ah
   have bm:=cY he c1
   rw[U]at bm
   obtain⟨l,g1,g2⟩:=vD bm
   refine rY (BN af rfl g1 aO m.w) ?_
   have aE:=p0 aL (aM.append (nU he c2) g2)
   have eE:(eL.map a.eval)++⟨l⟩=⟨eL.toList.map a.eval++l⟩:=by
    apply bd9
    simp
   rw[show ({callee:=Callee.value g,args:=eL,argTypes:=argTypes}:Call).args.map a.eval++⟨l⟩=⟨eL.toList.map a.eval++l⟩ from eE]
   exact q5 aZ aE st (fun dQ aU v ab cb cp c5=>h _ aU v (hk _ _ ab) cb cp c5) (fun dQ aU v ab cb cp c5=>hp _ aU v (hk _ _ ab) cb cp c5)
 |fx uq U aO aL st hk=>
  cases af:o.op<;>try (simp [af,be]at ah; done)
  rename_i x args f cap az c
  obtain⟨callee,eL,argTypes⟩:=c
  rw[af]at ah
  cases callee with
  |builtin b=>cases b<;>simp [be]at ah
  |invoke _ _=>simp [be]at ah
  |value g=>
   simp only[be,aT0]at ah
   obtain⟨c1,c2⟩:=ah
   have bm:=cY he c1
   rw[U]at bm
   obtain⟨l,g1,g2⟩:=vD bm
   refine rY (BN af rfl g1 aO m.w) ?_
   have aE:=p0 aL (aM.append (nU he c2) g2)
   have eE:(eL.map a.eval)++⟨l⟩=⟨eL.toList.map a.eval++l⟩:=by
    apply bd9
    simp
   rw[show ({callee:=Callee.value g,args:=eL,argTypes:=argTypes}:Call).args.map a.eval++⟨l⟩=⟨eL.toList.map a.eval++l⟩ from eE]
   exact q5 aZ aE st (fun dQ aU v ab cb cp c5=>h _ aU v (hk _ _ ab) cb cp c5) (fun dQ aU v ab cb cp c5=>hp _ aU v (hk _ _ ab) cb cp c5)
 |v8 uq U aO aL st hk=>
  cases af:o.op<;>try (simp [af,be]at ah; done)
  rename_i x args f cap az c
  obtain⟨callee,eL,argTypes⟩:=c
  rw[af]at ah
  cases callee with
  |builtin b=>cases b<;>simp [be]at ah
  |invoke _ _=>simp [be]at ah
  |value g=>
   simp only[be,aT0]at ah
   obtain⟨c1,c2⟩:=ah
   have bm:=cY he c1
   rw[U]at bm
   obtain⟨l,g1,g2⟩:=vD bm
   refine rY (ar3 af rfl g1 aO m.w) ?_
   have aE:=p0 aL (aM.append g2 (nU he c2))
   have eE:⟨l⟩++(eL.map a.eval)=⟨l++eL.toList.map a.eval⟩:=by
    apply bd9
    simp
   rw[show ⟨l⟩++({callee:=Callee.value g,args:=eL,argTypes:=argTypes}:Call).args.map a.eval=⟨l++eL.toList.map a.eval⟩ from eE]
   exact q5 aZ aE st (fun dQ aU v ab cb cp c5=>h _ aU v (hk _ _ ab) cb cp c5) (fun dQ aU v ab cb cp c5=>hp _ aU v (hk _ _ ab) cb cp c5)
 |xk U hb aO ab aE aW hm hk=>
  cases af:o.op<;>try (simp [af,be]at ah; done)
  rename_i len size cE b T cs rows t x cm ae lp
  rw[af]at ah
  cases cm<;>cases ae<;>cases lp<;>simp only[be,aT0]at ah<;>first
   |(cases ah; done)
   |skip
  obtain⟨c1,c2⟩:=ah
  have oe:=cY he c1
  rw[U]at oe
  split at c2
  ·rename_i n e hu
   simp only[aT0,decide_eq_true_eq]at c2
   obtain⟨rfl,dd⟩:=c2
   have j3:(execOp a.eval o).run P m.w= .ok (.value (.slice (some ⟨b,0,none⟩) n n)) m.w:=by
    have bb: ¬n=0:=by omega
    simp [execOp,af,Instr.sliceAt,Instr.sliceBounds,run_underlying hu,tU oe,Instr.sureAddr,asAddr,mn dd,mC,bb]
   have an:=HSub.oF m.H b
   have cb:bG ⟨m.w,m.H.oF b,m.L,m.T⟩:=bG.forget an aZ
   have v1:bH m ⟨m.w,m.H.oF b,m.L,m.T⟩:=bH.forget an (bH.refl m)
   obtain⟨l,g1,g2,g3⟩:=aZ.aV b T cs hb
   have cL:b<m.w.heap.size:=(Array.getElem?_eq_some_iff.1 g1).1
   refine ni j3 (h _ ⟨m.w,m.H.oF b,m.L,m.T⟩ _ hk cb v1 ?_)
   simp only[aK]
   refine⟨_,_,_,rfl,aE.symm,⟨aT4 _,hm⟩,.inr ⟨b,0,rfl,dy.of ab (l:=l) (by rw[aO]; exact aM.forget (w:=m.w) (L:=m.L) (T:=m.T) an _ _ g2) fun j v bq=>⟨?_,g3 v (aT6 bq),cL,by simp [aw.oF],fun dk i aF W8=> ?_⟩⟩⟩
   ·rw[aW6,cell_of_row m.w b _ _ _ _ g1]
    simpa using bq
   ·have:=((aZ.tok dk i aF).2.2.2 b W8).1
    rw[this]at hb
    cases hb
  ·cases c2
 |panic U hk=>
  cases af:o.op<;>try (simp [af,be]at ah; done)
  rename_i x t eU y
  rw[af]at ah
  simp only[be]at ah
  have ad:=cY he ah
  rw[U]at ad
  have Yc:=ad
  simp only[aK]at ad
  obtain⟨u,hu,_⟩:=ad
  have j3:(execOp a.eval o).run P m.w= .halt (.panic (a.eval y)) m.w:=by
   simp [execOp,af,hu,Instr.panic]
  simp only[Oper.wp,j3,Oper.upon]
  exact hp _ m _ hk aZ (bH.refl m) Yc
end
structure gx where
 m:Mem
 D:List Deferred
 kt:List Env
def gx.free (md:gx) (i:bC):Prop:=∀E∈md.kt,∀p∈E,i.dst≠some p.1
def Rel (n:Nat) (m0:gx) (env:Env) (H:aw) (a:Act) (w:World):Prop:=
 ∃m:Mem,m.w=w∧m.H=H∧bG m∧bH m0.m m∧dF m env a.tmps∧(a.defers=m0.D∧∀E∈m0.kt,dF m E a.tmps)∧a.tmps.size=n
theorem Qf {m aU:Mem}{env:Env}{a:Act}{n:Nat}{dst:Option Nat}{x:I}{v:Value}(he:dF m env a.tmps) (aC:bH m aU) (ad:aK aU x v) (bb:a.tmps.size=n) (bw: ∀d,dst=some d→d<n):dF aU (env.put dst x) (a.put dst v).tmps:=by
 intro k
 cases dst with
 |none=>exact aK.aC aC _ _ (he k)
 |some d=>
  have cL:=bw d rfl
  simp only[Env.put,Env.get,Act.put]
  by_cases e:d=k
  ·subst e
   simp only[beq_self_eq_true,cond_true]
   have:(a.tmps.setIfInBounds d v).getD d undef=v:=by
    simp [aU8,bb,cL]
   rw[this]
   exact ad
  ·have hb:(d==k)=false:=by simpa using e
   simp only[hb,cond_false]
   have:(a.tmps.setIfInBounds d v).getD k undef=a.tmps.getD k undef:=by
    simp [aU8,aZ5 e]
   rw[this]
   exact aK.aC aC _ _ (he k)
theorem put_defers (a:Act) (dst:Option Nat) (v:Value):(a.put dst v).defers=a.defers:=by cases dst<;>rfl
theorem ah2 (a:Act) (dst:Option Nat) (v:Value):(a.put dst v).tmps.size=a.tmps.size:=by cases dst<;>simp [Act.put]
theorem VO {env:Env}{k:Nat}(h: ∀p∈env,p.1≠k):env.get k= .ec:=by
 induction env with
 |nil=>rfl
 |cons p env b8=>
  obtain⟨j,v⟩:=p
  have:(j==k)=false:=by simpa using h (j,v) (by simp)
  simp only[Env.get,this,cond_false]
  exact b8 fun q bs=>h q (by simp [bs])
theorem FD {m aU:Mem}{kt:Env}{a:Act}{dst:Option Nat}{v:Value}(he:dF m kt a.tmps) (aC:bH m aU) (aO: ∀p∈kt,dst≠some p.1):dF aU kt (a.put dst v).tmps:=by
 intro k
 cases dst with
 |none=>exact aK.aC aC _ _ (he k)
 |some d=>
  by_cases e:d=k
  ·subst e
   rw[VO fun p hp e=>aO p hp (by rw[e])]
   simp only[aK]
  ·have:(a.put (some d) v).tmps.getD k undef=a.tmps.getD k undef:=by
    simp [Act.put,aU8,aZ5 e]
   rw[this]
   exact aK.aC aC _ _ (he k)
theorem PZ {n:Nat}{m0:gx}{m aU:Mem}{env:Env}{a:Act}{dst:Option Nat}{x:I}{v:Value}(he:dF m env a.tmps) (ch:bH m0.m m) (aC:bH m aU) (aZ:bG aU) (ad:aK aU x v) (gI:a.defers=m0.D∧∀E∈m0.kt,dF m E a.tmps) (bb:a.tmps.size=n) (bw: ∀d,dst=some d→d<n) (aO: ∀E∈m0.kt,∀p∈E,dst≠some p.1):Rel n m0 (env.put dst x) aU.H (a.put dst v) aU.w:=
 ⟨aU,rfl,rfl,aZ,ch.trans aC,Qf he aC ad bb bw,⟨by rw[put_defers,gI.1],fun E dp=>FD (gI.2 E dp) aC (aO E dp)⟩,by rw[ah2,bb]⟩
theorem UD {P:Program}{n:Nat}{ops:Array Oper}{o:Oper}{i:bC}(h:pk P n ops o i=true):o.dst=i.dst∧(∀d,i.dst=some d→d<n)∧An ops o.guard i.guard=true∧be P o.op i.op=true∧(∀t w,i.guard=some (t,w)→t<n):=by
 simp only[pk,aT0,decide_eq_true_eq]at h
 obtain⟨⟨⟨⟨h1,J⟩,bZ⟩,aA⟩,bz⟩:=h
 refine⟨h1,fun d bw=> ?_,aA,bz,fun t w bm=> ?_⟩
 ·rw[bw]at J
  simp [bg0]at J
  exact J
 ·rw[bm]at bZ
  simp [bg0]at bZ
  exact bZ
theorem Q6 {m:Mem}{env:Env}{ops:Array Oper}{o:Oper}{i:bC}{tmps:Array Value}{b:Bool}(bm:An ops o.guard i.guard=true) (he:dF m env tmps) (hw:wanted i env=some b) (dd: ∀j w,i.guard=some (j,w)→j<tmps.size):Region.wanted o (yielded ops tmps)=b:=by
 unfold wanted at hw
 unfold An at bm
 cases af:o.guard with
 |none=>
  cases ae:i.guard with
  |none=>rw[ae]at hw; simp at hw; subst hw; simp [Region.wanted,af]
  |some _=>rw[af,ae]at bm; cases bm
 |some Es=>
  obtain⟨j,w⟩:=Es
  cases ae:i.guard with
  |none=>rw[af,ae]at bm; cases bm
  |some FV=>
   obtain⟨t,w'⟩:=FV
   rw[af,ae]at bm
   simp only[aT0,decide_eq_true_eq]at bm
   obtain⟨rfl,bw⟩:=bm
   have cL:=dd t w ae
   have bg:yielded ops tmps j=match tmps[t]? with|some (.bool b)=>some b| _=>none:=by
    unfold yielded
    rw[bw]
    rfl
   have wL:tmps[t]? =some (tmps.getD t undef):=by
    simp [aU8,cL]
   rw[ae]at hw
   simp only at hw
   have ab:=he t
   split at hw
   ·rename_i c ah
    rw[ah]at ab
    simp at hw
    subst hw
    simp only[Region.wanted,af,bg,wL,sO ab]
    cases c<;>cases w<;>rfl
   ·rename_i ah
    rw[ah]at ab
    simp at hw
    subst hw
    simp only[Region.wanted,af,bg,wL,tV ab]
    rfl
   ·cases hw
def GStep (P:Program) (i:bC) (env:Env) (H:aw) (K Rp:I→aw→Prop):Prop:=
 match wanted i env with
 |some true=>gH P i.op env H K Rp
 |some false=>K .undef H
 |none=>False
theorem zN {P:Program}{i:bC}{l:List bC}{env:Env}{H:aw}{K:Env→aw→Prop}{Rp:I→aw→Prop}:bh P (i::l) env H K Rp↔GStep P i env H (fun v av=>bh P l (env.put i.dst v) av K Rp) Rp:=by
 simp only[bh,GStep]
 all_goals (cases wanted i env with
  |none=>exact Iff.rfl
  |some b=>cases b<;>exact Iff.rfl)
def jS (e cd:Env):Prop:=∀k,e.get k=cd.get k
def xG (op:ba) (env a7:Env):Prop:=∀x∈op.ct,x.aC env=x.aC a7
def kg (i:bC) (env a7:Env):Prop:=xG i.op env a7∧∀j w,i.guard=some (j,w)→env.get j=a7.get j
theorem GP {i:bC}{env a7:Env}(h: ∀k∈i.reads,env.get k=a7.get k):kg i env a7:=by
 refine⟨fun x U=> ?_,fun j w bm=>h j ?_⟩
 ·cases x with
  |c a=>rfl
  |t n=>exact h n (by simp only[bC.reads,aW9]; exact .inl (List.mem_filterMap.2 ⟨.t n,U,rfl⟩))
 ·simp [bC.reads,bm]
theorem rX {i:bC}{env a7:Env}(h:kg i env a7):wanted i env=wanted i a7:=by
 unfold wanted
 cases bm:i.guard with
 |none=>rfl
 |some Es=>obtain⟨j,w⟩:=Es; simp only[h.2 j w bm]
theorem qA {xs:List aH}{env a7:Env}(h: ∀x∈xs,x.aC env=x.aC a7):xs.map (aH.aC env)=xs.map (aH.aC a7):=List.map_congr_left h
theorem He {env a7:Env}: ∀(ps:List (Nat×Nat×aH)) (cs:List I),(∀x∈ps.map (·.2.2),x.aC env=x.aC a7)→nl env cs ps=nl a7 cs ps
 |[],_,_=>rfl
 |(o,s,x)::ps,cs,h=>by
  have h1:=h x (by simp)
  simp only[nl,h1]
  rw[He ps _ fun y bg=>h y (by simp at bg ⊢; exact .inr bg)]
theorem w7 {env a7:Env}{d:Nat}{x:Option aH}(h: ∀y∈x.toList,y.aC env=y.aC a7):iT env d x=iT a7 d x:=by
 cases x with
 |none=>rfl
 |some y=>simp only[iT,h y (by simp)]
theorem NH {op:ba}{env a7:Env}(H:aw) (h:xG op env a7):bL op env H=bL op a7 H:=by
 cases op<;>simp only[bL]<;>simp only[xG,ba.ct,aV8,List.not_mem_nil,or_false,forall_eq_or_imp,forall_eq]at h<;>first
  |rfl
  |(simp only[h]; done)
  |(rw[h]; done)
  |(obtain⟨h1,J⟩:=h; rw[h1,J]; done)
  |(obtain⟨h1,J,aA⟩:=h; rw[h1,J,aA]; done)
  |(rw[He _ _ h]; done)
  |(obtain⟨h1,J⟩:=h; simp only[aH.aC]at h1; rw[h1,J]; done)
  |(rw[qA h]; done)
theorem Cx {env a7:Env}{ps:List (Nat×aH)}(h: ∀x∈ps.map (·.2),x.aC env=x.aC a7):jB env ps=jB a7 ps:=by
 unfold jB
 refine List.map_congr_left fun p hp=> ?_
 rw[h p.2 (List.mem_map.2 ⟨p,hp,rfl⟩)]
theorem Iq {P:Program}{op:ba}{env a7:Env}{H:aw}{d:D}(h:xG op env a7) (bw:ed P op env H d):ed P op a7 H d:=by
 cases bw with
 |pure hp=>exact .pure ((NH H h).symm.trans hp)
 |quo U bg hb=>exact .quo ((h _ (by simp [ba.ct])).symm.trans U) ((h _ (by simp [ba.ct])).symm.trans bg) hb
 |rem U bg hb=>exact .rem ((h _ (by simp [ba.ct])).symm.trans U) ((h _ (by simp [ba.ct])).symm.trans bg) hb
 |ij U bg hb=>exact .ij ((h _ (by simp [ba.ct])).symm.trans U) ((h _ (by simp [ba.ct])).symm.trans bg) hb
 |nI U ae aW ab=>exact .nI ((h _ (by simp [ba.ct])).symm.trans U) ((h _ (by simp [ba.ct])).symm.trans ae) aW ab
 |nG U ae aW ab=>exact .nG ((h _ (by simp [ba.ct])).symm.trans U) ((h _ (by simp [ba.ct])).symm.trans ae) aW ab
 |oh U ae aW ab=>exact .oh ((h _ (by simp [ba.ct])).symm.trans U) ((h _ (by simp [ba.ct])).symm.trans ae) aW ab
 |mP U ae aW ab=>exact .mP ((h _ (by simp [ba.ct])).symm.trans U) ((h _ (by simp [ba.ct])).symm.trans ae) aW ab
 |nH U ae aW ab=>exact .nH ((h _ (by simp [ba.ct])).symm.trans U) ((h _ (by simp [ba.ct])).symm.trans ae) aW ab
 |iD U ae aW h1 aE ad=>exact .iD ((h _ (by simp [ba.ct])).symm.trans U) ((h _ (by simp [ba.ct])).symm.trans ae) aW h1 aE ad
 |gp U ae aW ah=>exact .gp ((h _ (by simp [ba.ct])).symm.trans U) ((h _ (by simp [ba.ct])).symm.trans ae) aW ah
 |iW U aE a8 h1 J=>exact .iW ((h _ (by simp [ba.ct])).symm.trans U) ((w7 fun y bg=>h y (by simp only[ba.ct,aV8,aW9]; exact .inr (.inl bg))).symm.trans aE) ((w7 fun y bg=>h y (by simp only[ba.ct,aV8,aW9]; exact .inr (.inr bg))).symm.trans a8) h1 J
 |gL U aE a8 h1 J=>exact .gL ((congrArg (mX _) (h _ (by simp [ba.ct]))).symm.trans U) ((w7 fun y bg=>h y (by simp only[ba.ct,aV8,aW9]; exact .inr (.inl (.inl bg)))).symm.trans aE) ((w7 fun y bg=>h y (by simp only[ba.ct,aV8,aW9]; exact .inr (.inl (.inr bg)))).symm.trans a8) h1 J
 |jh U=>exact .jh ((h _ (by simp [ba.ct])).symm.trans U)
 |box U=>rename_i T x; have e:=h x (by simp [ba.ct]); rw[e]at U ⊢; exact .box U
 |alloc aD=>exact .alloc aD
 |nS ab an af=>exact .nS ((Cx fun x U=>h x (by simpa [ba.ct] using U)).symm.trans ab) an af
 |l4 ab an af aW=>exact .l4 ((Cx fun x U=>h x (by simpa [ba.ct] using U)).symm.trans ab) an af aW
 |pY U bg hb hm aW=>
  rename_i T size bytes x y rows
  exact .pY ((h _ (by simp [ba.ct])).symm.trans U) (by rw[←h y (by simp [ba.ct])]; exact bg) hb hm aW
 |io aL hp=>exact .io (by rw[←qA fun x U=>h x (by simpa [ba.ct] using U)]; exact aL) hp
 |j8 U aO aL hp=>exact .j8 ((h _ (by simp [ba.ct])).symm.trans U) aO (by rw[←qA fun x U=>h x (by simp only[ba.ct,aV8]; exact .inr U)]; exact aL) hp
 |oU aL hp=>exact .oU (by rw[←qA fun x U=>h x (by simpa [ba.ct] using U)]; exact aL) hp
 |pJ U aO aL hp=>exact .pJ ((h _ (by simp [ba.ct])).symm.trans U) aO (by rw[←qA fun x U=>h x (by simp only[ba.ct,aV8]; exact .inr U)]; exact aL) hp
 |hV U aF=>exact .hV ((h _ (by simp [ba.ct])).symm.trans U) aF
 |mR U hb hm af aD aW=>exact .mR ((h _ (by simp [ba.ct])).symm.trans U) hb hm af aD aW
 |mkMap=>exact .mkMap
 |hs U aF hk ab=>exact .hs ((h _ (by simp [ba.ct])).symm.trans U) aF ((h _ (by simp [ba.ct])).symm.trans hk) ab
 |pF U hk=>exact .pF ((h _ (by simp [ba.ct])).symm.trans U) ((h _ (by simp [ba.ct])).symm.trans hk)
 |tL U=>exact .tL ((h _ (by simp [ba.ct])).symm.trans U)
 |tK U ab=>exact .tK ((h _ (by simp [ba.ct])).symm.trans U) ab
 |iB U aF=>exact .iB ((h _ (by simp [ba.ct])).symm.trans U) aF
 |hE U aF ae aW h1=>exact .hE ((h _ (by simp [ba.ct])).symm.trans U) aF ((h _ (by simp [ba.ct])).symm.trans ae) aW h1
 |ib U aF aE ad=>exact .ib ((h _ (by simp [ba.ct])).symm.trans U) aF aE ad
 |lF ab an af aW=>exact .lF ((Cx fun x U=>h x (by simpa [ba.ct] using U)).symm.trans ab) an af aW
 |uy U bg hb hm aW=>
  rename_i T size bytes x y rows
  exact .uy ((h _ (by simp [ba.ct])).symm.trans U) (by rw[←h y (by simp [ba.ct])]; exact bg) hb hm aW
 |tS aL hp=>exact .tS (by rw[←qA fun x U=>h x (by simpa [ba.ct] using U)]; exact aL) hp
theorem vd {P:Program}{op:ba}{env a7:Env}{H:aw}{K K' Rp iw:I→aw→Prop}(h:xG op env a7) (hk: ∀v av,K v av→K' v av) (ab: ∀v av,Rp v av→iw v av) (an:gH P op env H K Rp):gH P op a7 H K' iw:=by
 cases an with
 |gU d bw a8=>exact .gU d (Iq h bw) fun x U=>hk _ _ (a8 x U)
 |store aL hb bb aE af a8=>
  rename_i n a v b o T cs
  have e:=h v (by simp [ba.ct])
  exact .store ((h _ (by simp [ba.ct])).symm.trans aL) hb (by rw[←e]; exact bb) aE (by rw[←e]; exact af) (by rw[←e]; exact hk _ _ a8)
 |gF oK kx aL hb bb aE af a8=>
  rename_i eJ others n a v b o T cs
  have e:=h v (by simp [ba.ct])
  refine .gF ((h (.t eJ) (by simp [ba.ct])).symm.trans oK) (fun s an=> ?_) ((h _ (by simp [ba.ct])).symm.trans aL) hb (by rw[←e]; exact bb) aE (by rw[←e]; exact af) (by rw[←e]; exact hk _ _ a8)
  obtain⟨bJ,h1,J⟩:=kx s an
  exact⟨bJ,(h (.t s) (by simp [ba.ct]; exact .inr (.inr (.inr an)))).symm.trans h1,J⟩
 |append U aF bg hb hm a8=>
  rename_i T size bytes x y t rows new
  exact .append ((h _ (by simp [ba.ct])).symm.trans U) aF (by rw[←h y (by simp [ba.ct])]; exact bg) hb hm (hk _ _ a8)
 |lD U aF bg hb hm a8=>
  rename_i T size bytes x y t ver rows new
  exact .lD ((h _ (by simp [ba.ct])).symm.trans U) aF (by rw[←h y (by simp [ba.ct])]; exact bg) hb hm (hk _ _ a8)
 |yF U a8=>exact .yF ((h _ (by simp [ba.ct])).symm.trans U) fun b=>hk _ _ (a8 b)
 |mo U aF aE Xr h1 bs a8=>exact .mo ((h _ (by simp [ba.ct])).symm.trans U) aF ((w7 fun y bg=>h y (by simp only[ba.ct,aV8,aW9]; exact .inr (.inl bg))).symm.trans aE) ((w7 fun y bg=>h y (by simp only[ba.ct,aV8,aW9]; exact .inr (.inr bg))).symm.trans Xr) h1 bs (hk _ _ a8)
 |tZ aL aF bb aE af aO jG hlen a8=>
  rename_i n a v t ver k T size rows rows'
  have e:=h v (by simp [ba.ct])
  exact .tZ ((h _ (by simp [ba.ct])).symm.trans aL) aF (by rw[←e]; exact bb) aE (by rw[←e]; exact af) (by rw[←e]; exact aO) jG hlen (hk _ _ a8)
 |mQ U aF oc af jG a8=>
  rename_i x k v t ver T rows rows' s
  have e:=h v (by simp [ba.ct])
  exact .mQ ((h _ (by simp [ba.ct])).symm.trans U) aF ((h _ (by simp [ba.ct])).symm.trans oc) (by rw[←e]; exact af) (by rw[←e]; exact jG) (hk _ _ a8)
 |call Q aL ah a8=>exact .call Q (by rw[←qA fun x U=>h x (by simpa [ba.ct] using U)]; exact aL) ah fun o av bs=>by have:=a8 o av bs; cases o<;>first|exact hk _ _ this|exact ab _ _ this
 |fx Q U aO aL ah a8=>exact .fx Q ((h _ (by simp [ba.ct])).symm.trans U) aO (by rw[←qA fun x U=>h x (by simp only[ba.ct,aV8]; exact .inr U)]; exact aL) ah fun o av bs=>by have:=a8 o av bs; cases o<;>first|exact hk _ _ this|exact ab _ _ this
 |v8 Q U aO aL ah a8=>exact .v8 Q ((h _ (by simp [ba.ct])).symm.trans U) aO (by rw[←qA fun x U=>h x (by simp only[ba.ct,aV8]; exact .inr U)]; exact aL) ah fun o av bs=>by have:=a8 o av bs; cases o<;>first|exact hk _ _ this|exact ab _ _ this
 |xk U hb aO jG aE aW hm a8=>exact .xk ((h _ (by simp [ba.ct])).symm.trans U) hb aO jG aE aW hm (hk _ _ a8)
 |kn Q U aO af he aL ah a8=>
  refine .kn Q ((h _ (by simp [ba.ct])).symm.trans U) aO (fun s an=> ?_) he (by rw[←qA fun x U=>h x (by simp only[ba.ct,aV8,aW9]; exact .inr (.inl U))]; exact aL) ah fun o av bs=>by have:=a8 o av bs; cases o<;>first|exact hk _ _ this|exact ab _ _ this
  obtain⟨b,h1,J⟩:=af s an
  exact⟨b,(h (.t s) (by simp only[ba.ct,aV8,aW9]; exact .inr (.inr (List.mem_map.2 ⟨s,an,rfl⟩)))).symm.trans h1,J⟩
 |fQ Q af he aL ah a8=>
  refine .fQ Q (fun s an=> ?_) he (by rw[←qA fun x U=>h x (by simp only[ba.ct,aW9]; exact .inl U)]; exact aL) ah fun o av bs=>by have:=a8 o av bs; cases o<;>first|exact hk _ _ this|exact ab _ _ this
  obtain⟨b,h1,J⟩:=af s an
  exact⟨b,(h (.t s) (by simp only[ba.ct,aW9]; exact .inr (List.mem_map.2 ⟨s,an,rfl⟩))).symm.trans h1,J⟩
 |panic U a8=>exact .panic ((h _ (by simp [ba.ct])).symm.trans U) (ab _ _ a8)
theorem uK {P:Program}{i:bC}{env a7:Env}{H:aw}{K K' Rp iw:I→aw→Prop}(h:kg i env a7) (hk: ∀v av,K v av→K' v av) (ab: ∀v av,Rp v av→iw v av) (an:GStep P i env H K Rp):GStep P i a7 H K' iw:=by
 unfold GStep at an ⊢
 rw[←rX h]
 split at an
 ·exact vd h.1 hk ab an
 ·exact hk _ _ an
 ·exact an.elim
theorem E0 {e cd:Env}(h:jS e cd) (d:Option Nat) (v:I):jS (e.put d v) (cd.put d v):=fun k=>by
 cases d with
 |none=>exact h k
 |some d=>simp only[Env.put,Env.get,h k]
theorem xL {i:bC}{e cd:Env}(h:jS e cd):kg i e cd:=GP fun k _=>h k
theorem C6 {P:Program}{K:Env→aw→Prop}{Rp:I→aw→Prop}(dz: ∀e cd H,jS e cd→K e H→K cd H): ∀(l:List bC){e cd:Env}{H:aw},jS e cd→bh P l e H K Rp→bh P l cd H K Rp
 |[],e,cd,H,h,bw=>by simp only[bh]at bw ⊢; exact dz e cd H h bw
 |i::l,e,cd,H,h,bw=>by
  rw[zN]at bw ⊢
  exact uK (xL h) (fun v av a8=>C6 dz l (E0 h i.dst v) a8) (fun _ _ h=>h) bw
def jm (op:ba) (env:Env):D:=
 match op with
 | .bin o x y=>(match o,x.aC env,y.aC env with
  | .quo,.int k a,.int _ b=> .cP (.int k (k.wrap (a.tdiv b)))
  | .rem,.int k a,.int _ b=> .cP (.int k (a.tmod b))
  | .add,.str a,.str b=> .cP (.str (a++b))
  | _,_,_=> .cP .ec)
 | .gS size x i=>(match x.aC env,i.aC env with
  | .ak _ rows,.int _ n=> .cP (.dL (rows.getD n.toNat []) 0)
  | .own _ _ rows,.int _ n=> .cP (.dL (rows.getD n.toNat []) 0)
  | .dI (.slice (some ⟨b,o,_⟩) _ _),.int _ n=> .cP (.ptr b (o+n.toNat*size))
  | _,_=> .cP .ec)
 | .me _ size x i=>(match x.aC env,i.aC env with
  | .ptr b o,.int _ n=> .cP (.ptr b (o+n.toNat*size))
  | .dL r o,.int _ n=> .cP (.dL r (o+n.toNat*size))
  | _,_=> .cP .ec)
 | .iD agg _ size x i=>(match x.aC env,i.aC env with
  | .agg cs,.int _ n=> .cP ((I.hJ agg ((cs.drop (n.toNat*size)).take size)).getD .ec)
  | _,_=> .cP .ec)
 | .gp x i=>(match x.aC env,i.aC env with
  | .str s,.int _ n=> .cP (.int .u8 (s.getD n.toNat 0).toNat)
  | _,_=> .cP .ec)
 | .iW x cm ae=>(match x.aC env with
  | .str s=> .cP (.str ((s.take ((iT env s.length ae).getD 0)).drop ((iT env 0 cm).getD 0)))
  | _=> .cP .ec)
 | .gL size x cm ae _=>(match mX size (x.aC env) with
  |some rows=> .cP (.ak size ((rows.take ((iT env rows.length ae).getD 0)).drop ((iT env 0 cm).getD 0)))
  |none=> .cP .ec)
 | .jh T x=>(match x.aC env with
  | .str s=> .cP (.ak 1 (s.map fun c=>[.int .u8 c.toNat]))
  | _=> .cP .ec)
 | .box T x=> .iF T (x.aC env).cells
 | .alloc T zero=> .iF T zero
 | .eu _ size _ _ parts=> .cP (.ak size (jB env parts))
 | .l4 T size _ _ parts=> .Bm T size (jB env parts)
 | .lF T size _ _ parts=> .vn T size (jB env parts)
 | .mR T size _ zero x=> .vn T size (aU2 (match x.aC env with| .int _ n=>n.toNat| _=>0) zero)
 | .w9 T size _ _ rows=> .vn T size rows
 | .mkMap T=> .bf (.bk T 0 []) fun x=> .cz x 0
 | .append T size _ _ y=> .Bm T size ((rowsOf size (y.aC env)).getD [])
 | .vw _ _ r=> .cP r
 | .vx _ _ r=> .cP r
 | _=> .cP .ec
def Ic (op:ba) (env:Env) (H:aw):D:=
 match bL op env H with
 |some v=> .cP v
 |none=>jm op env
theorem Ir {P:Program}{op:ba}{env:Env}{H:aw}{d:D}(ab:op.cU≤2) (h:ed P op env H d):d=Ic op env H:=by
 unfold Ic
 cases h with
 |pure hp=>simp only[hp]
 |quo U bg hb=>simp [bL,U,bg,p8,jm]
 |rem U bg hb=>simp [bL,U,bg,p8,jm]
 |ij U bg hb=>simp [bL,U,bg,sa,jm]
 |nI U ae aW bs=>simp [bL,U,ae,jm,bs,bg1]
 |nG U ae aW bs=>simp [bL,U,ae,jm,bs,bg1]
 |oh U ae aW ab=>simp [bL,U,ae,jm]
 |mP U ae aW ab=>simp [bL,U,ae,jm]
 |nH U ae aW ab=>simp [bL,U,ae,jm]
 |iD U ae aW h1 aE ad=>simp [bL,U,ae,jm,ad]
 |gp U ae aW ah=>simp [bL,U,ae,jm,ah,bg1]
 |iW U aE a8 h1 J=>simp [bL,U,jm,aE,a8]
 |gL U aE a8 h1 J=>simp [bL,U,jm,aE,a8]
 |jh U=>simp [bL,jm,U]
 |box U=>simp [bL,jm]
 |alloc aD=>simp [bL,jm]
 |nS ab an af=>simp [bL,jm,ab]
 |l4 ab an af aW=>simp [bL,jm,ab]
 |pY U bg hb hm aW=>simp [bL,jm,bg]
 |io aL hp=>simp [ba.cU]at ab
 |j8 U aO aL hp=>simp [ba.cU]at ab
 |hV U aF=>simp [ba.cU]at ab
 |tL U=>simp [ba.cU]at ab
 |tK U _=>simp [ba.cU]at ab
 |iB U aF=>simp [ba.cU]at ab
 |hE U aF ae aW h1=>simp [ba.cU]at ab
 |ib U aF aE ad=>simp [ba.cU]at ab
 |lF bs an af aW=>simp [bL,jm,bs]
 |mR U hb hm af aD aW=>simp [bL,jm,U]
 |mkMap=>simp [bL,jm]
 |hs=>simp [ba.cU]at ab
 |pF=>simp [ba.cU]at ab
 |uy U bg hb hm aW=>simp [ba.cU]at ab
 |tS aL hp=>simp [bL,jm]
 |oU aL hp=>simp [bL,jm]
 |pJ U aO aL hp=>simp [bL,jm]
theorem Vt {P:Program}{op:ba}{env:Env}{H:aw}{d Ia:D}(ab:op.cU≤2) (h:ed P op env H d) (k:ed P op env H Ia):d=Ia:=by
 rw[Ir ab h,Ir ab k]
def zQ (H av:aw):Prop:=∀b x,H.aV b=some x→av.aV b=some x
theorem af5 {op:ba}{env:Env}{H av:aw}{v:I}(h:zQ H av) (hp:bL op env H=some v):bL op env av=some v:=by
 cases op<;>try exact hp
 ·rename_i agg n x
  simp only[bL]at hp ⊢
  split at hp
  ·rename_i b o e
   cases hb:H.aV b with
   |none=>simp [hb]at hp
   |some y=>simp only[h b y hb]; simpa [hb] using hp
  ·rename_i e; exact hp
  ·cases hp
 ·rename_i eJ agg n x
  simp only[bL]at hp ⊢
  split at hp
  ·rename_i b bJ o aj aq
   cases hb:H.aV bJ with
   |none=>simp [hb]at hp
   |some y=>simp only[h bJ y hb]; simpa [hb] using hp
  ·cases hp
theorem Vu {P:Program}{op:ba}{env:Env}{H av:aw}{d:D}(gg:op.cU≤2) (h:zQ H av) (bw:ed P op env H d):ed P op env av d:=by
 cases bw with
 |pure hp=>exact .pure (af5 h hp)
 |quo a b c=>exact .quo a b c
 |rem a b c=>exact .rem a b c
 |ij a b c=>exact .ij a b c
 |nI a b c d=>exact .nI a b c d
 |nG a b c d=>exact .nG a b c d
 |oh a b c d=>exact .oh a b c d
 |mP a b c d=>exact .mP a b c d
 |nH a b c d=>exact .nH a b c d
 |iD a b c d e f=>exact .iD a b c d e f
 |gp a b c d=>exact .gp a b c d
 |iW a b c d e=>exact .iW a b c d e
 |gL a b c d e=>exact .gL a b c d e
 |jh a=>exact .jh a
 |box a=>exact .box a
 |alloc a=>exact .alloc a
 |nS a b c=>exact .nS a b c
 |l4 a b c d=>exact .l4 a b c d
 |pY a b c d e=>exact .pY a b c d e
 |io a b=>exact .io a b
 |j8 a b c d=>exact .j8 a b c d
 |hV U aF=>simp [ba.cU]at gg
 |tL U=>simp [ba.cU]at gg
 |tK U _=>simp [ba.cU]at gg
 |iB U aF=>simp [ba.cU]at gg
 |hE U aF ae aW h1=>simp [ba.cU]at gg
 |ib U aF aE ad=>simp [ba.cU]at gg
 |lF a b c d=>exact .lF a b c d
 |mR a b c d e f=>exact .mR a b c d e f
 |mkMap=>exact .mkMap
 |hs=>simp [ba.cU]at gg
 |pF=>simp [ba.cU]at gg
 |uy U bg hb hm aW=>simp [ba.cU]at gg
 |tS a b=>exact .tS a b
 |oU a b=>exact .oU a b
 |pJ a b c d=>exact .pJ a b c d
def sN (op:ba) (env:Env):Nat:=
 match op with
 | .load _ _ x=>match x.aC env with| .ptr b _=>b| _=>0
 | .gq _ _ _ x=>match x.aC env with| .ptr b _=>b| _=>0
 | .append _ _ _ x _=>match x.aC env with| .own t _ _=>t| _=>0
 | _=>0
theorem Vr {P:Program}{op:ba}{env:Env}{H av:aw}{d:D}(gg:op.cU≤2) (h:av.aV (sN op env)=H.aV (sN op env)) (bw:ed P op env av d):ed P op env H d:=by
 cases bw with
 |pure hp=>
  refine .pure ?_
  cases op<;>try exact hp
  ·rename_i agg n x
   simp only[bL,sN]at hp h ⊢
   split at hp
   ·rename_i b o e
    simp only[e]at h
    rw[←h]
    exact hp
   ·exact hp
   ·cases hp
  ·rename_i eJ agg n x
   simp only[bL,sN]at hp h ⊢
   split at hp
   ·rename_i b bJ o aj aq
    simp only[aq]at h
    rw[←h]
    exact hp
   ·cases hp
 |quo a b c=>exact .quo a b c
 |rem a b c=>exact .rem a b c
 |ij a b c=>exact .ij a b c
 |nI a b c d=>exact .nI a b c d
 |nG a b c d=>exact .nG a b c d
 |oh a b c d=>exact .oh a b c d
 |mP a b c d=>exact .mP a b c d
 |nH a b c d=>exact .nH a b c d
 |iD a b c d e f=>exact .iD a b c d e f
 |gp a b c d=>exact .gp a b c d
 |iW a b c d e=>exact .iW a b c d e
 |gL a b c d e=>exact .gL a b c d e
 |jh a=>exact .jh a
 |box a=>exact .box a
 |alloc a=>exact .alloc a
 |nS a b c=>exact .nS a b c
 |l4 a b c d=>exact .l4 a b c d
 |pY a b c d e=>exact .pY a b c d e
 |io a b=>exact .io a b
 |j8 a b c d=>exact .j8 a b c d
 |hV U aF=>simp [ba.cU]at gg
 |tL U=>simp [ba.cU]at gg
 |tK U _=>simp [ba.cU]at gg
 |iB U aF=>simp [ba.cU]at gg
 |hE U aF ae aW h1=>simp [ba.cU]at gg
 |ib U aF aE ad=>simp [ba.cU]at gg
 |lF a b c d=>exact .lF a b c d
 |mR a b c d e f=>exact .mR a b c d e f
 |mkMap=>exact .mkMap
 |hs=>simp [ba.cU]at gg
 |pF=>simp [ba.cU]at gg
 |uy U bg hb hm aW=>simp [ba.cU]at gg
 |tS a b=>exact .tS a b
 |oU a b=>exact .oU a b
 |pJ a b c d=>exact .pJ a b c d
inductive X where
 |d (d:D)
 |eH (t T size:Nat) (rows new:List (List I))
def X.fresh:X→Nat→aw→Prop
 | .d e,n,H=>e.fresh n H
 | .eH ..,_,_=>True
def X.val:X→Nat→I
 | .d e,n=>e.val n
 | .eH t _ size rows new,_=> .own t size (rows++new)
def X.heap:X→aw→Nat→aw
 | .d e,H,n=>e.heap H n
 | .eH t T size rows new,H,_=>H.b7 t (.bP T size (rows.length+new.length))
def X.ok:X→aw→Prop
 | .d _,_=>True
 | .eH t T size rows _,H=>H.tok t=some (.bP T size rows.length)
inductive kj (P:Program) (i:bC) (env:Env) (H:aw):X→Prop
 |skip (hw:wanted i env=some false):kj P i env H (.d (.cP .undef))
 |d {d}(hw:wanted i env=some true) (bw:ed P i.op env H d):kj P i env H (.d d)
 |eH {T size bytes x y t rows new}(hw:wanted i env=some true) (af:i.op= .append T size bytes x y) (U:x.aC env= .own t size rows) (bg:rowsOf size (y.aC env)=some new) (hb:(rows.length+new.length)*bytes≤140737488355328) (hm:rows.length+new.length≤maxLen):kj P i env H (.eH t T size rows new)
theorem l8 {P:Program}{i:bC}{env:Env}{H:aw}{K Rp:I→aw→Prop}(ab:i.op.cU≤2):GStep P i env H K Rp↔ ∃x,kj P i env H x∧x.ok H∧∀n,x.fresh n H→K (x.val n) (x.heap H n):=by
 constructor
 ·intro h
  unfold GStep at h
  split at h
  ·rename_i hw
   generalize af:i.op=op at h ab
   cases h with
   |gU d bw a8=>exact⟨.d d,.d hw (af▸bw),trivial,a8⟩
   |append U aF bg hb hm a8=>exact⟨.eH _ _ _ _ _,.eH hw af U bg hb hm,aF,fun _ _=>a8⟩
   |store=>simp [ba.cU]at ab
   |call=>simp [ba.cU]at ab
   |fx=>simp [ba.cU]at ab
   |v8=>simp [ba.cU]at ab
   |fQ=>simp [ba.cU]at ab
   |kn=>simp [ba.cU]at ab
   |xk=>simp [ba.cU]at ab
   |panic=>simp [ba.cU]at ab
   |lD=>simp [ba.cU]at ab
   |mo=>simp [ba.cU]at ab
   |yF=>simp [ba.cU]at ab
   |tZ=>simp [ba.cU]at ab
   |mQ=>simp [ba.cU]at ab
   |gF=>simp [ba.cU]at ab
  ·rename_i hw
   exact⟨.d (.cP .undef),.skip hw,trivial,fun _ _=>h⟩
  ·exact h.elim
 ·rintro⟨x,bw,im,a8⟩
  unfold GStep
  cases bw with
  |skip hw=>rw[hw]; exact a8 0 trivial
  |d hw bw=>rw[hw]; exact .gU _ bw a8
  |eH hw af U bg hb hm=>rw[hw,af]; exact .append U im bg hb hm (a8 0 trivial)
theorem rj {P:Program}{i:bC}{env a7:Env}{H:aw}{x:X}(h:kg i env a7) (bw:kj P i env H x):kj P i a7 H x:=by
 have hw:=rX h
 cases bw with
 |skip h1=>exact .skip (hw▸h1)
 |d h1 J=>exact .d (hw▸h1) (Iq h.1 J)
 |eH h1 af U bg hb hm=>
  rename_i T size bytes x y t rows new
  have aj:=h.1 x (by simp [af,ba.ct])
  have aq:=h.1 y (by simp [af,ba.ct])
  exact .eH (hw▸h1) af (aj▸U) (aq▸bg) hb hm
theorem Ip {P:Program}{i:bC}{env:Env}{H av:aw}{x:X}(gg:i.op.cU≤2) (h:zQ H av) (bw:kj P i env H x):kj P i env av x:=by
 cases bw with
 |skip h1=>exact .skip h1
 |d h1 J=>exact .d h1 (Vu gg h J)
 |eH h1 af U bg hb hm=>exact .eH h1 af U bg hb hm
theorem Vp {P:Program}{i:bC}{env:Env}{H av:aw}{x:X}(gg:i.op.cU≤2) (h:av.aV (sN i.op env)=H.aV (sN i.op env)) (bw:kj P i env av x):kj P i env H x:=by
 cases bw with
 |skip h1=>exact .skip h1
 |d h1 J=>exact .d h1 (Vr gg h J)
 |eH h1 af U bg hb hm=>exact .eH h1 af U bg hb hm
theorem As {P:Program}{i:bC}{env:Env}{H:aw}{x cE:X}(ab:i.op.cU≤2) (h:kj P i env H x) (k:kj P i env H cE):x=cE:=by
 cases h with
 |skip h1=>
  cases k with
  |skip=>rfl
  |d br=>rw[h1]at br; cases br
  |eH br=>rw[h1]at br; cases br
 |d h1 J=>
  cases k with
  |skip br=>rw[h1]at br; cases br
  |d br bA=>rw[Vt ab J bA]
  |eH br af U bg hb hm=>
   rw[af]at J
   cases J with
   |pure hp=>simp [bL]at hp
   |pY jI=>rw[U]at jI; cases jI
 |eH h1 af U bg hb hm=>
  cases k with
  |skip br=>rw[h1]at br; cases br
  |d br bA=>
   rw[af]at bA
   cases bA with
   |pure hp=>simp [bL]at hp
   |pY jI=>rw[U]at jI; cases jI
  |eH br lj jI Em gd aM9=>
   rw[af]at lj
   simp at lj
   obtain⟨rfl,rfl,_,rfl,rfl⟩:=lj
   rw[U]at jI
   simp at jI
   obtain⟨rfl,rfl⟩:=jI
   rw[bg]at Em
   simp at Em
   subst Em
   rfl
theorem Kw {H:aw}(h:gv H) (M:Nat) (x:X): ∃n,M<n∧x.fresh n H:=by
 obtain⟨N,dl⟩:=h
 refine⟨max N (M+1),by omega,?_⟩
 have:=dl (max N (M+1)) (by omega)
 cases x with
 |d e=>cases e<;>simp [X.fresh,D.fresh,this]
 |eH=>trivial
theorem Lv {H:aw}{x:X}{n:Nat}(h:x.fresh n H):zQ H (x.heap H n):=by
 intro b y hb
 cases x with
 |d e=>
  cases e with
  |cP=>exact hb
  |bf=>exact hb
  |iF T cs=>
   simp only[X.fresh,D.fresh]at h
   simp only[X.heap,D.heap,aw.cc]
   rw[if_neg (fun e=>by subst e; rw[h]at hb; cases hb)]
   exact hb
 |eH=>exact hb
theorem Sd {H:aw}{x:X}{n b:Nat}(h:b<n):(x.heap H n).aV b=H.aV b:=by
 cases x with
 |d e=>
  cases e with
  |cP=>rfl
  |bf=>rfl
  |iF T cs=>
   simp only[X.heap,D.heap,aw.cc]
   rw[if_neg (by omega)]
 |eH=>rfl
theorem Wb {H:aw}{x y:X}{n k:Nat}(hk:y.fresh k H) (h:x.fresh n (y.heap H k)):x.fresh n H:=by
 cases x with
 |d e=>
  cases e with
  |cP=>trivial
  |iF T cs=>
   simp only[X.fresh,D.fresh]at h ⊢
   cases y with
   |d f=>
    cases f with
    |cP=>exact h
    |bf=>exact h
    |iF=>
     simp only[X.heap,D.heap,aw.cc]at h
     split at h
     ·cases h
     ·exact h
   |eH=>exact h
  |bf o v=>
   simp only[X.fresh,D.fresh]at h ⊢
   cases y with
   |d f=>
    cases f with
    |cP=>exact h
    |iF=>exact h
    |bf=>
     simp only[X.heap,D.heap,aw.b7]at h
     split at h
     ·cases h
     ·exact h
   |eH=>
    simp only[X.heap,aw.b7]at h
    split at h
    ·cases h
    ·exact h
 |eH=>trivial
theorem Wf {H:aw}{x y:X}{n k:Nat}(U:x.ok H) (hk:y.fresh k H) (h:x.fresh n (y.heap H k)):y.fresh k (x.heap H n):=by
 cases y with
 |d f=>
  cases f with
  |cP=>trivial
  |iF T cs=>
   simp only[X.fresh,D.fresh]at hk ⊢
   cases x with
   |d e=>
    cases e with
    |cP=>exact hk
    |bf=>exact hk
    |iF=>
     simp only[X.fresh,D.fresh,X.heap,D.heap,aw.cc]at h ⊢
     by_cases e:k=n
     ·subst e; simp at h
     ·rw[if_neg e]; exact hk
   |eH=>exact hk
  |bf o v=>
   simp only[X.fresh,D.fresh]at hk ⊢
   cases x with
   |d e=>
    cases e with
    |cP=>exact hk
    |iF=>exact hk
    |bf=>
     simp only[X.fresh,D.fresh,X.heap,D.heap,aw.b7]at h ⊢
     by_cases e:k=n
     ·subst e; simp at h
     ·rw[if_neg e]; exact hk
   |eH t cu bF rows new=>
    simp only[X.heap,aw.b7]
    simp only[X.ok]at U
    rw[if_neg (fun e=>by subst e; rw[hk]at U; cases U)]
    exact hk
 |eH=>trivial
theorem zo {H:aw}{a b:Nat}{T pf:TypeId}{c d:List I}(h:a≠b):(H.cc a T c).cc b pf d=(H.cc b pf d).cc a T c:=by
 simp only[aw.cc,aw.mk.injEq,and_true]
 funext x
 by_cases e:x=b
 ·subst e; simp [Ne.symm h]
 ·simp [e]
theorem FI {H:aw}{a b:Nat}{c d:bB}(h:a≠b):(H.b7 a c).b7 b d=(H.b7 b d).b7 a c:=by
 simp only[aw.b7,aw.mk.injEq,true_and]
 funext x
 by_cases e:x=b
 ·subst e; simp [Ne.symm h]
 ·simp [e]
theorem Xk {H:aw}{x y:X}{n k:Nat}(U:x.ok H) (bg:y.ok H) (hk:y.fresh k H) (h:x.fresh n (y.heap H k)) (bb:x.fresh n H) (J: ∀t T s r w dk cu bF dQ w',x= .eH t T s r w→y= .eH dk cu bF dQ w'→False):x.heap (y.heap H k) n=y.heap (x.heap H n) k:=by
 cases x with
 |d e=>
  cases e with
  |cP=>rfl
  |iF T cs=>
   cases y with
   |d f=>
    cases f with
    |cP=>rfl
    |bf=>rfl
    |iF=>
     simp only[X.fresh,D.fresh,X.heap,D.heap,aw.cc]at h
     have dP:k≠n:=fun e=>by subst e; simp at h
     exact zo dP
   |eH=>rfl
  |bf o v=>
   cases y with
   |d f=>
    cases f with
    |cP=>rfl
    |iF=>rfl
    |bf=>
     simp only[X.fresh,D.fresh,X.heap,D.heap,aw.b7]at h
     have dP:k≠n:=fun e=>by subst e; simp at h
     exact FI dP
   |eH t cu bF rows new=>
    simp only[X.ok]at bg
    simp only[X.fresh,D.fresh]at bb
    have dP:t≠n:=fun e=>by subst e; rw[bb]at bg; cases bg
    exact FI dP
 |eH t T s rows new=>
  cases y with
  |d f=>
   cases f with
   |cP=>rfl
   |iF=>rfl
   |bf=>
    simp only[X.ok]at U
    simp only[X.fresh,D.fresh]at hk
    have dP:k≠t:=fun e=>by subst e; rw[hk]at U; cases U
    exact FI dP
  |eH=>exact (J _ _ _ _ _ _ _ _ _ _ rfl rfl).elim
theorem KG {env:Env}{d:Option Nat}{v:I}{k:Nat}(h: ∀x,d=some x→x≠k):(env.put d v).get k=env.get k:=by
 cases d with
 |none=>rfl
 |some x=>
  have:=h x rfl
  simp only[Env.put,Env.get]
  have hb:(x==k)=false:=by simpa using this
  simp [hb]
theorem put_comm {env:Env}{d e:Option Nat}{v u:I}(h: ∀x,d=some x→e≠some x):jS ((env.put d v).put e u) ((env.put e u).put d v):=by
 intro k
 cases d with
 |none=>rfl
 |some x=>
  cases e with
  |none=>rfl
  |some y=>
   have dP:y≠x:=fun e=>h x rfl (by rw[e])
   simp only[Env.put,Env.get]
   by_cases aj:x=k
   ·subst aj
    have hb:(y==x)=false:=by simpa using dP
    simp [hb]
   ·have hb:(x==k)=false:=by simpa using aj
    simp [hb]
theorem YA {i j:bC}(h:indep i j=true):(∀x,i.dst=some x→x∉j.reads∧j.dst≠some x)∧(∀x,j.dst=some x→x∉i.reads)∧(xW i j=true∨(i.op.quiet=true∧j.op.quiet=true)∨(i.op.sS=true∧j.op.s7=true)∨i.op.cU=0∨(i.op.live=true∧j.op.cU=0)∨zr i j=true∨(i.op.cU=3∧j.total=true)∨(i.op.cU≤2∧j.op.cU≤2∧¬(i.op.cU=2∧j.op.cU=2))):=by
 simp only[indep,aT0,bc7,aX1,decide_eq_true_eq,beq_iff_eq,Bool.and_eq_false_iff,beq_eq_false_iff_ne]at h
 obtain⟨⟨h1,J⟩,aA⟩:=h
 refine⟨fun x U=> ?_,fun x U=> ?_,?_⟩
 ·rw[U]at h1
  simp at h1
  exact⟨h1.1,h1.2⟩
 ·rw[U]at J
  simpa using J
 ·rcases aA with ((((((aA|aA)|aA)|aA)|aA)|aA)|aA)|aA
  ·exact .inl aA
  ·exact .inr (.inr (.inr (.inl aA)))
  ·exact .inr (.inl aA)
  ·exact .inr (.inr (.inl aA))
  ·exact .inr (.inr (.inr (.inr (.inl aA))))
  ·exact .inr (.inr (.inr (.inr (.inr (.inl aA)))))
  ·exact .inr (.inr (.inr (.inr (.inr (.inr (.inl aA))))))
  ·refine .inr (.inr (.inr (.inr (.inr (.inr (.inr ⟨aA.1.1,aA.1.2,fun e=> ?_⟩))))))
   rcases aA.2 with cd|cd
   ·exact cd e.1
   ·exact cd e.2
theorem vW {i:bC}{env:Env}{d:Option Nat}{v:I}(h: ∀x,d=some x→x∉i.reads):kg i env (env.put d v):=
 GP fun k hk=>(KG fun x U e=>h x U (e▸hk)).symm
theorem kg.symm {i:bC}{e cd:Env}(h:kg i e cd):kg i cd e:=⟨fun x U=>(h.1 x U).symm,fun j w bm=>(h.2 j w bm).symm⟩
theorem Io {P:Program}{i:bC}{env:Env}{H:aw}{t T s:Nat}{r w:List (List I)}(h:kj P i env H (.eH t T s r w)):i.op.cU=2:=by
 cases h with
 |eH h1 af=>simp [af,ba.cU]
theorem Vq {P:Program}{i:bC}{env:Env}{H:aw}{t T s:Nat}{r w:List (List I)}(h:kj P i env H (.eH t T s r w)):sN i.op env=t:=by
 cases h with
 |eH h1 af U=>simp [af,sN,U]
theorem PX {P:Program}{i:bC}{env:Env}{H:aw}{x:X}(ab:i.op.cU=0) (h:kj P i env H x): ∃v,x= .d (.cP v)∧∀av,kj P i env av x:=by
 cases h with
 |skip hw=>exact⟨_,rfl,fun av=> .skip hw⟩
 |eH hw af=>simp [af,ba.cU]at ab
 |d hw bw=>
  rename_i d
  have Xh: ∃v,d= .cP v:=by
   generalize i.op=op at bw ab
   cases bw<;>first
    |exact⟨_,rfl⟩
    |(simp [ba.cU]at ab; done)
  obtain⟨v,rfl⟩:=Xh
  refine⟨v,rfl,fun av=> .d hw ?_⟩
  have hle: ∀H1 df:aw,ed P i.op env H1 (.cP v)→ed P i.op env df (.cP v):=by
   intro H1 df bw
   generalize i.op=op at bw ab
   cases bw with
   |pure hp=>
    refine .pure ?_
    cases op<;>first
     |exact hp
     |(simp [ba.cU]at ab; done)
   |quo a b c=>exact .quo a b c
   |rem a b c=>exact .rem a b c
   |ij a b c=>exact .ij a b c
   |nI a b c d=>exact .nI a b c d
   |nG a b c d=>exact .nG a b c d
   |oh a b c d=>exact .oh a b c d
   |mP a b c d=>exact .mP a b c d
   |nH a b c d=>exact .nH a b c d
   |iD a b c d e f=>exact .iD a b c d e f
   |gp a b c d=>exact .gp a b c d
   |iW a b c d e=>exact .iW a b c d e
   |gL a b c d e=>exact .gL a b c d e
   |jh a=>exact .jh a
   |nS a b c=>exact .nS a b c
   |io a b=>exact .io a b
   |j8 a b c d=>exact .j8 a b c d
   |hV=>simp [ba.cU]at ab
   |tL=>simp [ba.cU]at ab
   |tK=>simp [ba.cU]at ab
   |iB=>simp [ba.cU]at ab
   |hE=>simp [ba.cU]at ab
   |ib=>simp [ba.cU]at ab
   |hs=>simp [ba.cU]at ab
   |pF=>simp [ba.cU]at ab
   |oU a b=>exact .oU a b
   |pJ a b c d=>exact .pJ a b c d
  exact hle H av bw
theorem ay5 {P:Program}{j:bC}(h:j.total=true) (env:Env) (H:aw): ∃v,kj P j env H (.d (.cP v))∧∀a7,kg j env a7→∀av,kj P j a7 av (.d (.cP v)):=by
 simp only[bC.total,aT0,bk6]at h
 obtain⟨h1,J⟩:=h
 have hw: ∀env,wanted j env=some true:=fun env=>by simp [wanted,h1]
 have ad: ∃v,∀H,bL j.op env H=some v:=by
  split at J<;>first
   |(rename_i e; rw[e]; exact⟨_,fun _=>rfl⟩)
   |cases J
 obtain⟨v,ad⟩:=ad
 exact⟨v,.d (hw env) (.pure (ad H)),fun a7 aL av=> .d (hw a7) (.pure ((NH av aL.1).symm.trans (ad av)))⟩
theorem rr {H:aw}{x:X}{n:Nat}(h:gv H):gv (x.heap H n):=by
 obtain⟨N,dl⟩:=h
 cases x with
 |d e=>
  cases e with
  |cP=>exact⟨N,dl⟩
  |iF T cs=>
   refine⟨max N (n+1),fun k hk=> ?_⟩
   have:=dl k (by omega)
   simp only[X.heap,D.heap,aw.cc]
   rw[if_neg (by omega)]
   exact this
  |bf o v=>
   refine⟨max N (n+1),fun k hk=> ?_⟩
   have:=dl k (by omega)
   simp only[X.heap,D.heap,aw.b7]
   rw[if_neg (by omega)]
   exact this
 |eH t T s r w=>
  refine⟨max N (t+1),fun k hk=> ?_⟩
  have:=dl k (by omega)
  simp only[X.heap,aw.b7]
  rw[if_neg (by omega)]
  exact this
theorem ZL {P:Program}{i:bC}{env:Env}{H:aw}{K Rp:I→aw→Prop}(aE:i.op.live=true) (cM:gv H) (h:GStep P i env H K Rp): ∃O:I→aw→Prop,(∃v av,O v av∧gv av)∧(∀v av,O v av→K v av)∧∀a7,kg i env a7→∀K':I→aw→Prop,(∀v av,O v av→K' v av)→GStep P i a7 H K' Rp:=by
 unfold GStep at h
 split at h
 ·rename_i hw
  have key: ∀ {op:ba},op.live=true→gH P op env H K Rp→∃O:I→aw→Prop,(∃v av,O v av∧gv av)∧(∀v av,O v av→K v av)∧∀K':I→aw→Prop,(∀v av,O v av→K' v av)→gH P op env H K' Rp:=by
   intro op aE h
   cases h with
   |gU d bw a8=>
    obtain⟨n,_,bb⟩:=Kw cM 0 (.d d)
    exact⟨fun v av=> ∃x,d.fresh x H∧v=d.val x∧av=d.heap H x,⟨_,_,⟨n,bb,rfl,rfl⟩,rr (x:= .d d) cM⟩,fun v av ⟨x,h1,J,aA⟩=>by subst J; subst aA; exact a8 x h1,fun K' hk=> .gU d bw fun x U=>hk _ _ ⟨x,U,rfl,rfl⟩⟩
   |store aL hb bb rA af a8=>
    rename_i n a v b o T cs
    exact⟨fun bp av=>bp= .undef∧av=H.cc b T (fs cs o (v.aC env).cells),⟨_,_,⟨rfl,rfl⟩,rr (x:= .d (.iF T _)) (n:=b) cM⟩,fun bp av ⟨h1,J⟩=>by subst h1; subst J; exact a8,fun K' hk=> .store aL hb bb rA af (hk _ _ ⟨rfl,rfl⟩)⟩
   |lD U aF bg hb hm a8=>
    rename_i T size bytes x y t ver rows new
    exact⟨fun bp av=>bp= .cz t (ver+1)∧av=H.b7 t (.bc T size (ver+1) (rows++new)),⟨_,_,⟨rfl,rfl⟩,rr (x:= .d (.bf _ fun _=> .ec)) (n:=t) cM⟩,fun bp av ⟨h1,J⟩=>by subst h1; subst J; exact a8,fun K' hk=> .lD U aF bg hb hm (hk _ _ ⟨rfl,rfl⟩)⟩
   |mo U aF rA Xq h1 bs a8=>
    rename_i size x cm ae t ver T rows h q
    exact⟨fun bp av=>bp= .cz t (ver+1)∧av=H.b7 t (.bc T size (ver+1) ((rows.take h).drop q)),⟨_,_,⟨rfl,rfl⟩,rr (x:= .d (.bf _ fun _=> .ec)) (n:=t) cM⟩,fun bp av ⟨h1,J⟩=>by subst h1; subst J; exact a8,fun K' hk=> .mo U aF rA Xq h1 bs (hk _ _ ⟨rfl,rfl⟩)⟩
   |gF oK kx aL hb bb rA af a8=>
    rename_i eJ others n a v b o T cs
    exact⟨fun bp av=>bp= .undef∧av=H.cc b T (fs cs o (v.aC env).cells),⟨_,_,⟨rfl,rfl⟩,rr (x:= .d (.iF T _)) (n:=b) cM⟩,fun bp av ⟨h1,J⟩=>by subst h1; subst J; exact a8,fun K' hk=> .gF oK kx aL hb bb rA af (hk _ _ ⟨rfl,rfl⟩)⟩
   |tZ aL aF bb rA af aO ab hlen a8=>
    rename_i n a v t ver k T size rows rows'
    exact⟨fun bp av=>bp= .undef∧av=H.b7 t (.bc T size ver rows'),⟨_,_,⟨rfl,rfl⟩,rr (x:= .d (.bf _ fun _=> .ec)) (n:=t) cM⟩,fun bp av ⟨h1,J⟩=>by subst h1; subst J; exact a8,fun K' hk=> .tZ aL aF bb rA af aO ab hlen (hk _ _ ⟨rfl,rfl⟩)⟩
   |mQ U aF hk af ab a8=>
    rename_i x k v t ver T rows rows' s
    exact⟨fun bp av=>bp= .undef∧av=H.b7 t (.bk T ver rows'),⟨_,_,⟨rfl,rfl⟩,rr (x:= .d (.bf _ fun _=> .ec)) (n:=t) cM⟩,fun bp av ⟨h1,J⟩=>by subst h1; subst J; exact a8,fun K' dz=> .mQ U aF hk af ab (dz _ _ ⟨rfl,rfl⟩)⟩
   |yF=>simp [ba.live]at aE
   |append=>simp [ba.live]at aE
   |call=>simp [ba.live]at aE
   |fx=>simp [ba.live]at aE
   |v8=>simp [ba.live]at aE
   |fQ=>simp [ba.live]at aE
   |kn=>simp [ba.live]at aE
   |xk=>simp [ba.live]at aE
   |panic=>simp [ba.live]at aE
  obtain⟨O,h1,J,aA⟩:=key aE h
  refine⟨O,h1,J,fun a7 aL K' hk=> ?_⟩
  unfold GStep
  rw[←rX aL,hw]
  exact vd aL.1 (fun _ _ h=>h) (fun _ _ h=>h) (aA K' hk)
 ·rename_i hw
  refine⟨fun v av=>v= .undef∧av=H,⟨_,_,⟨rfl,rfl⟩,cM⟩,fun v av ⟨h1,J⟩=>by subst h1; subst J; exact h,fun a7 aL K' hk=> ?_⟩
  unfold GStep
  rw[←rX aL,hw]
  exact hk _ _ ⟨rfl,rfl⟩
 ·exact h.elim
theorem FN {i:bC}{eJ:Nat}{o:List Nat}(h:i.tY=some (true,eJ,o)):i.guard=none∧∃n a v,i.op= .gF eJ o n a v:=by
 unfold bC.tY at h
 split at h
 ·rename_i bm af
  simp at h
  obtain⟨rfl,rfl⟩:=h
  exact⟨bm,_,_,_,af⟩
 ·simp at h
 ·cases h
theorem ZG {i:bC}{eJ:Nat}{o:List Nat}(h:i.tY=some (false,eJ,o)):i.guard=none∧∃g n a,i.op= .gq eJ g n a:=by
 unfold bC.tY at h
 split at h
 ·simp at h
 ·rename_i bm af
  simp at h
  obtain⟨rfl,rfl⟩:=h
  exact⟨bm,_,_,_,af⟩
 ·cases h
theorem av1 {P:Program}{i j:bC}{env:Env}{H:aw}{C:Env→aw→Prop}{Rp:I→aw→Prop}(hC: ∀e cd H,jS e cd→C e H→C cd H) (cM:gv H) (ji: ∀x,i.dst=some x→x∉j.reads∧j.dst≠some x) (pI: ∀x,j.dst=some x→x∉i.reads) (an:zr i j=true)
  (h:GStep P i env H (fun v H1=>gv H1→GStep P j (env.put i.dst v) H1 (fun u df=>gv df→C ((env.put i.dst v).put j.dst u) df) Rp) Rp):
  GStep P j env H (fun u H1=>gv H1→GStep P i (env.put j.dst u) H1 (fun v df=>gv df→C ((env.put j.dst u).put i.dst v) df) Rp) Rp:=by
 have mD: ∀v,kg j env (env.put i.dst v):=fun v=>vW fun x U=>(ji x U).1
 have ph: ∀v,kg i env (env.put j.dst v):=fun v=>vW pI
 have mV: ∀v u,jS ((env.put i.dst v).put j.dst u) ((env.put j.dst u).put i.dst v):=fun v u=>put_comm fun x U=>(ji x U).2
 unfold zr at an
 split at an
 ·rename_i m1 eS m2 fq aj aq
  obtain⟨g1,tQ,eG,v1,b5⟩:=FN aj
  obtain⟨g2,rH,a2,v2,cA⟩:=FN aq
  have zH: ∀env,wanted i env=some true:=fun env=>by simp [wanted,g1]
  have zI: ∀env,wanted j env=some true:=fun env=>by simp [wanted,g2]
  simp only[GStep,zH,b5]at h
  cases h with
  |gU d bw _=>cases bw with
   |pure hp=>simp [bL]at hp
  |gF oK kx aL hb bb aE af a8=>
   rename_i b o T cs
   obtain⟨bJ,mb,fN⟩:=kx m2 (by simpa using an)
   have WD:gv (H.cc b T (fs cs o (v1.aC env).cells)):=rr (x:= .d (.iF T _)) (n:=b) cM
   have J:=a8 WD
   simp only[GStep,zI,cA]at J
   have n3: ∀x∈(ba.gF m2 fq rH a2 v2).ct,x.aC env=x.aC (env.put i.dst .undef):=fun x U=>(mD .undef).1 x (by rw[cA]; exact U)
   cases J with
   |gU d bw _=>cases bw with
    |pure hp=>simp [bL]at hp
   |gF XI XV WQ K9 tI kv yw pz=>
    rename_i c Nk GJ H4
    have kM:=(n3 (.t m2) (by simp [ba.ct])).trans XI
    simp only[aH.aC]at kM
    rw[mb]at kM
    have Xd:bJ=c:=by simpa using kM
    subst Xd
    have qv:=n3 v2 (by simp [ba.ct])
    have hblk:H.aV bJ=some (GJ,H4):=by
     simp only[aw.cc]at K9
     rwa [if_neg fN]at K9
    simp only[GStep,zI,cA]
    refine .gF mb (fun s jH=> ?_) ((n3 a2 (by simp [ba.ct])).trans WQ) hblk (by rw[qv]; exact tI) kv (by rw[qv]; exact yw) fun aO=> ?_
    ·obtain⟨y,ui,uj⟩:=XV s jH
     exact⟨y,(n3 (.t s) (by simp [ba.ct]; exact .inr (.inr (.inr jH)))).trans ui,uj⟩
    ·have uT: ∀x∈(ba.gF m1 eS tQ eG v1).ct,x.aC env=x.aC (env.put j.dst .undef):=fun x U=>(ph .undef).1 x (by rw[b5]; exact U)
     have A8:=uT v1 (by simp [ba.ct])
     simp only[GStep,zH,b5]
     refine .gF ((uT (.t m1) (by simp [ba.ct])).symm.trans oK) (fun s jH=> ?_) ((uT eG (by simp [ba.ct])).symm.trans aL) (T:=T) (cs:=cs) ?_ (by rw[←A8]; exact bb) aE (by rw[←A8]; exact af) fun oJ=> ?_
     ·obtain⟨y,ui,uj⟩:=kx s jH
      exact⟨y,(uT (.t s) (by simp [ba.ct]; exact .inr (.inr (.inr jH)))).symm.trans ui,uj⟩
     ·simp only[aw.cc]
      rw[if_neg (Ne.symm fN)]
      exact hb
     ·refine hC _ _ _ (mV .undef .undef) ?_
      rw[←A8,qv,zo fN]
      rw[qv,←A8,zo fN]at oJ
      exact pz (by rw[←qv]; rw[←qv]at oJ; rw[zo (Ne.symm fN)]at oJ; rw[zo (Ne.symm fN)]; exact oJ)
 ·rename_i m1 eS m2 fq aj aq
  obtain⟨g1,GO,tQ,eG,b5⟩:=ZG aj
  obtain⟨g2,rH,a2,v2,cA⟩:=FN aq
  have zH: ∀env,wanted i env=some true:=fun env=>by simp [wanted,g1]
  have zI: ∀env,wanted j env=some true:=fun env=>by simp [wanted,g2]
  simp only[GStep,zH,b5]at h
  cases h with
  |gU d bw a8=>cases bw with
   |pure hp=>
    rename_i r
    have J:=a8 0 trivial cM
    simp only[D.val,D.heap,GStep,zI,cA]at J
    obtain⟨Eb,b,o,hm,U⟩:=EX hp
    have n3: ∀x∈(ba.gF m2 fq rH a2 v2).ct,x.aC env=x.aC (env.put i.dst r):=fun x U=>(mD r).1 x (by rw[cA]; exact U)
    cases J with
    |gU d bw _=>cases bw with
     |pure hp=>simp [bL]at hp
    |gF oK kx aL hb bb aE af pz=>
     rename_i c Nk GJ H4
     have qv:=n3 v2 (by simp [ba.ct])
     simp only[GStep,zI,cA]
     have W5:c≠b:=by
      obtain⟨y,ui,uj⟩:=kx m1 (by simpa using an)
      have e:=(n3 (.t m1) (by simp [ba.ct]; exact .inr (.inr (.inr (by simpa using an))))).trans ui
      simp only[aH.aC]at e
      rw[hm]at e
      have:b=y:=by simpa using e
      subst this
      exact Ne.symm uj
     refine .gF ((n3 (.t m2) (by simp [ba.ct])).trans oK) (fun s jH=> ?_) ((n3 a2 (by simp [ba.ct])).trans aL) hb (by rw[qv]; exact bb) aE (by rw[qv]; exact af) fun aO=> ?_
     ·obtain⟨y,ui,uj⟩:=kx s jH
      exact⟨y,(n3 (.t s) (by simp [ba.ct]; exact .inr (.inr (.inr jH)))).trans ui,uj⟩
     ·have uT: ∀x∈(ba.gq m1 GO tQ eG).ct,x.aC env=x.aC (env.put j.dst .undef):=fun x U=>(ph .undef).1 x (by rw[b5]; exact U)
      simp only[GStep,zH,b5]
      refine .gU (.cP r) (.pure ?_) fun n _ oJ=> ?_
      ·have aj:=uT (.t m1) (by simp [ba.ct])
       have aq:=uT eG (by simp [ba.ct])
       refine af2 ?_ (aj.symm.trans hm) (aq.symm.trans U)
       simp only[bL,U]at Eb
       simp only[bL,aq.symm.trans U,aw.cc]
       rw[if_neg (Ne.symm W5)]
       exact Eb
      ·refine hC _ _ _ (mV r .undef) ?_
       rw[qv]
       exact pz (by rw[←qv]; exact aO)
 ·cases an
theorem N1 {P:Program}{op:ba}{env:Env}{H:aw}{K Rp:I→aw→Prop}(bs:op.quiet=true) (h:gH P op env H K Rp): ∃v,ed P op env H (.cP v)∧K v H:=by
 cases h with
 |gU d bw a8=>
  cases bw with
  |pure h=>exact⟨_,.pure h,a8 0 trivial⟩
  |hV a b=>exact⟨_,.hV a b,a8 0 trivial⟩
  |iB a b=>exact⟨_,.iB a b,a8 0 trivial⟩
  |hE a b c d e=>exact⟨_,.hE a b c d e,a8 0 trivial⟩
  |ib a b c d=>exact⟨_,.ib a b c d,a8 0 trivial⟩
  |hs a b c d=>exact⟨_,.hs a b c d,a8 0 trivial⟩
  |pF a b=>exact⟨_,.pF a b,a8 0 trivial⟩
  |quo a b c=>exact⟨_,.quo a b c,a8 0 trivial⟩
  |rem a b c=>exact⟨_,.rem a b c,a8 0 trivial⟩
  |ij a b c=>exact⟨_,.ij a b c,a8 0 trivial⟩
  |nI a b c d=>exact⟨_,.nI a b c d,a8 0 trivial⟩
  |nG a b c d=>exact⟨_,.nG a b c d,a8 0 trivial⟩
  |oh a b c d=>exact⟨_,.oh a b c d,a8 0 trivial⟩
  |mP a b c d=>exact⟨_,.mP a b c d,a8 0 trivial⟩
  |nH a b c d=>exact⟨_,.nH a b c d,a8 0 trivial⟩
  |iD a b c d e f=>exact⟨_,.iD a b c d e f,a8 0 trivial⟩
  |gp a b c d=>exact⟨_,.gp a b c d,a8 0 trivial⟩
  |iW a b c d e=>exact⟨_,.iW a b c d e,a8 0 trivial⟩
  |gL a b c d e=>exact⟨_,.gL a b c d e,a8 0 trivial⟩
  | _=>simp [ba.quiet,ba.cU]at bs
 | _=>simp [ba.quiet,ba.cU]at bs
theorem KL {P:Program}{i:bC}{env:Env}{H:aw}{K Rp:I→aw→Prop}(bs:i.op.quiet=true) (h:GStep P i env H K Rp): ∃v,K v H∧∀a7,kg i env a7→∀K':I→aw→Prop,K' v H→GStep P i a7 H K' Rp:=by
 unfold GStep at h
 split at h
 ·rename_i hw
  obtain⟨v,h1,J⟩:=N1 bs h
  refine⟨v,J,fun a7 aL K' hk=> ?_⟩
  unfold GStep
  rw[←rX aL,hw]
  exact vd aL.1 (fun _ _ h=>h) (fun _ _ h=>h) (.gU (.cP v) h1 fun _ _=>hk)
 ·rename_i hw
  refine⟨_,h,fun a7 aL K' hk=> ?_⟩
  unfold GStep
  rw[←rX aL,hw]
  exact hk
 ·exact h.elim
theorem Vs {P:Program}{op:ba}{env:Env}{H av:aw}{d:D}(bs:op.sS=true) (h:ed P op env H d) (aF:av.tok=H.tok):ed P op env av d:=by
 cases h with
 |hV a b=>exact .hV a (by rw[aF]; exact b)
 |iB a b=>exact .iB a (by rw[aF]; exact b)
 |hE a b c d e=>exact .hE a (by rw[aF]; exact b) c d e
 |ib a b c d=>exact .ib a (by rw[aF]; exact b) c d
 |hs a b c d=>exact .hs a (by rw[aF]; exact b) c d
 |pF a b=>exact .pF a b
 |pure h=>
  cases op with
  |hV=>simp [bL]at h
  |hE=>simp [bL]at h
  |ib=>simp [bL]at h
  |iB=>simp [bL]at h
  |hs=>simp [bL]at h
  | _=>simp [ba.sS]at bs
 | _=>simp [ba.sS]at bs
theorem Wy {P:Program}{i:bC}{env:Env}{H:aw}{K Rp:I→aw→Prop}(bs:i.op.sS=true) (h:GStep P i env H K Rp): ∃v,K v H∧∀a7 av,kg i env a7→av.tok=H.tok→∀K':I→aw→Prop,K' v av→GStep P i a7 av K' Rp:=by
 have XZ:i.op.quiet=true:=by
  cases af:i.op<;>rw[af]at bs<;>simp [ba.sS]at bs<;>simp [ba.quiet]
 unfold GStep at h
 split at h
 ·rename_i hw
  obtain⟨v,h1,J⟩:=N1 XZ h
  refine⟨v,J,fun a7 av aL aF K' hk=> ?_⟩
  unfold GStep
  rw[←rX aL,hw]
  exact vd aL.1 (fun _ _ h=>h) (fun _ _ h=>h) (.gU (.cP v) (Vs bs h1 aF) fun _ _=>hk)
 ·rename_i hw
  refine⟨_,h,fun a7 av aL aF K' hk=> ?_⟩
  unfold GStep
  rw[←rX aL,hw]
  exact hk
 ·exact h.elim
theorem Se {P:Program}{i:bC}{env:Env}{H:aw}{K Rp:I→aw→Prop}(aE:i.op.s7=true) (h:GStep P i env H K Rp): ∃O:I→aw→Prop,(∀v av,O v av→K v av∧av.tok=H.tok)∧∀a7,kg i env a7→∀K':I→aw→Prop,(∀v av,O v av→K' v av)→GStep P i a7 H K' Rp:=by
 unfold GStep at h
 split at h
 ·rename_i hw
  have key: ∀ {op:ba},op.s7=true→gH P op env H K Rp→∃O:I→aw→Prop,(∀v av,O v av→K v av∧av.tok=H.tok)∧∀K':I→aw→Prop,(∀v av,O v av→K' v av)→gH P op env H K' Rp:=by
   intro op aE h
   cases h with
   |gU d bw a8=>
    refine⟨fun v av=> ∃x,d.fresh x H∧v=d.val x∧av=d.heap H x,fun v av ⟨x,h1,J,aA⟩=> ?_,fun K' hk=> .gU d bw fun x U=>hk _ _ ⟨x,U,rfl,rfl⟩⟩
    subst J
    subst aA
    refine⟨a8 x h1,?_⟩
    cases bw with
    |alloc=>rfl
    |pure h=>rfl
    | _=>simp [ba.s7]at aE
   |gF oK kx aL hb bb rA af a8=>
    rename_i eJ others n a v b o T cs
    exact⟨fun bp av=>bp= .undef∧av=H.cc b T (fs cs o (v.aC env).cells),fun bp av ⟨h1,J⟩=>by subst h1; subst J; exact⟨a8,rfl⟩,fun K' hk=> .gF oK kx aL hb bb rA af (hk _ _ ⟨rfl,rfl⟩)⟩
   | _=>simp [ba.s7]at aE
  obtain⟨O,h1,J⟩:=key aE h
  refine⟨O,h1,fun a7 aL K' hk=> ?_⟩
  unfold GStep
  rw[←rX aL,hw]
  exact vd aL.1 (fun _ _ h=>h) (fun _ _ h=>h) (J K' hk)
 ·rename_i hw
  refine⟨fun v av=>v= .undef∧av=H,fun v av ⟨h1,J⟩=>by subst h1; subst J; exact⟨h,rfl⟩,fun a7 aL K' hk=> ?_⟩
  unfold GStep
  rw[←rX aL,hw]
  exact hk _ _ ⟨rfl,rfl⟩
 ·exact h.elim
theorem Fs {P:Program}{i:bC}{env:Env}{H:aw}{x:X}{y:Option (List Nat)×Option Nat}{o:List Nat}(ae:i.nT=some y) (ab:qE o (some y)=true) (h:kj P i env H x):
  ∃v,x= .d (.cP v)∧∀av,(∀s∈o,∀b,env.get s= .ptr b 0→av.aV b=H.aV b)→kj P i env av x:=by
 have key: ∀(op:ba),op.still=true→∀d,ed P op env H d→∃v,d= .cP v∧∀av,ed P op env av d:=by
  intro op an d bw
  cases bw with
  |pure hp=>
   refine⟨_,rfl,fun av=> .pure ?_⟩
   cases op<;>first
    |exact hp
    |(simp [ba.still,ba.cU]at an; done)
  |quo a b c=>exact⟨_,rfl,fun _=> .quo a b c⟩
  |rem a b c=>exact⟨_,rfl,fun _=> .rem a b c⟩
  |ij a b c=>exact⟨_,rfl,fun _=> .ij a b c⟩
  |nI a b c d=>exact⟨_,rfl,fun _=> .nI a b c d⟩
  |nG a b c d=>exact⟨_,rfl,fun _=> .nG a b c d⟩
  |oh a b c d=>exact⟨_,rfl,fun _=> .oh a b c d⟩
  |mP a b c d=>exact⟨_,rfl,fun _=> .mP a b c d⟩
  |nH a b c d=>exact⟨_,rfl,fun _=> .nH a b c d⟩
  |iD a b c d e f=>exact⟨_,rfl,fun _=> .iD a b c d e f⟩
  |gp a b c d=>exact⟨_,rfl,fun _=> .gp a b c d⟩
  |iW a b c d e=>exact⟨_,rfl,fun _=> .iW a b c d e⟩
  |gL a b c d e=>exact⟨_,rfl,fun _=> .gL a b c d e⟩
  |jh a=>exact⟨_,rfl,fun _=> .jh a⟩
  |nS a b c=>exact⟨_,rfl,fun _=> .nS a b c⟩
  |oU a b=>exact⟨_,rfl,fun _=> .oU a b⟩
  |pJ a b c d=>exact⟨_,rfl,fun _=> .pJ a b c d⟩
  | _=>simp [ba.still,ba.cU]at an
 unfold bC.nT at ae
 split at ae
 ·simp at ae; subst ae; simp [qE]at ab
 ·simp at ae; subst ae; simp [qE]at ab
 ·rename_i eJ agg n x bm af
  simp at ae
  subst ae
  have oK:eJ∈o:=by simpa [qE] using ab
  cases h with
  |skip hw=>simp [wanted,bm]at hw
  |eH hw lj=>rw[af]at lj; cases lj
  |d hw bw=>
   rw[af]at bw
   cases bw with
   |pure hp=>
    obtain⟨Eb,b,p,hm,U⟩:=EX hp
    refine⟨_,rfl,fun av hb=> .d hw ?_⟩
    rw[af]
    refine .pure ?_
    have:=hb eJ oK b hm
    simp only[bL,hm,U,if_true]at hp ⊢
    rw[this]
    exact hp
 ·split at ae
  ·rename_i an
   cases h with
   |skip hw=>exact⟨_,rfl,fun av _=> .skip hw⟩
   |eH hw lj=>rw[lj]at an; simp [ba.still,ba.cU]at an
   |d hw bw=>
    obtain⟨v,rfl,J⟩:=key _ an _ bw
    exact⟨v,rfl,fun av _=> .d hw (J av)⟩
  ·cases ae
 ·cases ae
theorem PY {i:bC}{y:Option (List Nat)×Option Nat}{o:List Nat}(ae:i.nT=some y) (ab:qE o (some y)=true):i.op.cU≤2:=by
 unfold bC.nT at ae
 split at ae
 ·simp at ae; subst ae; simp [qE]at ab
 ·simp at ae; subst ae; simp [qE]at ab
 ·rename_i af; rw[af]; simp [ba.cU]
 ·split at ae
  ·rename_i an
   cases nF:i.op<;>rw[nF]at an<;>simp [ba.still,ba.cU]at an ⊢
  ·cases ae
 ·cases ae
theorem Hz {i:bC}{o:List Nat}{z:Option Nat}(h:i.nT=some (some o,z)):i.guard=none∧((∃f args,i.op= .fQ o f args)∨∃x args,i.op= .kn o x args):=by
 unfold bC.nT at h
 split at h
 ·rename_i bm af
  simp at h
  obtain⟨rfl,_⟩:=h
  exact⟨bm,.inl ⟨_,_,af⟩⟩
 ·rename_i bm af
  simp at h
  obtain⟨rfl,_⟩:=h
  exact⟨bm,.inr ⟨_,_,af⟩⟩
 ·simp at h
 ·split at h<;>simp at h
 ·cases h
theorem HA {P:Program}{i:bC}{o:List Nat}{z:Option Nat}{env:Env}{H:aw}{K Rp:I→aw→Prop}(ae:i.nT=some (some o,z)) (cM:gv H) (h:GStep P i env H K Rp):
  ∃O:I→aw→Prop,(∃v av,O v av∧gv av)∧(∀v av,O v av→K v av∧∀s∈o,∀b,env.get s= .ptr b 0→av.aV b=H.aV b)∧∀a7,kg i env a7→∀K':I→aw→Prop,(∀v av,O v av→K' v av)→GStep P i a7 H K' Rp:=by
 obtain⟨bm,af⟩:=Hz ae
 have hw: ∀env,wanted i env=some true:=fun env=>by simp [wanted,bm]
 unfold GStep at h
 rw[hw]at h
 simp only at h
 rcases af with af|af
 ·obtain⟨f,args,af⟩:=af
  rw[af]at h
  cases h with
  |gU d bw a8=>cases bw with
   |pure hp=>simp [bL]at hp
  |fQ Q kx hex aL ah hk=>
   obtain⟨iG,H0,b5,cA⟩:=hex cM
   refine⟨fun v av=>Q (.ret v) av,⟨iG,H0,b5,cA⟩,fun v av bs=>⟨hk _ _ bs,fun s an b hb=> ?_⟩,fun a7 n3 K' oc=> ?_⟩
   ·obtain⟨bJ,aj,aq⟩:=kx s an
    rw[hb]at aj
    cases aj
    exact aq _ _ bs
   ·unfold GStep
    rw[hw]
    simp only
    have aW:gH P (.fQ o f args) env H K' Rp:= .fQ Q kx hex aL ah fun y9 av bs=>by
     cases y9 with
     |ret v=>exact oc v av bs
     |dW v=>exact hk _ _ bs
    rw[af]
    exact vd (by have:=n3.1; rw[af]at this; exact this) (fun _ _ h=>h) (fun _ _ h=>h) aW
 ·obtain⟨x,args,af⟩:=af
  rw[af]at h
  cases h with
  |gU d bw a8=>cases bw with
   |pure hp=>simp [bL]at hp
  |kn Q U aO kx hex aL ah hk=>
   obtain⟨iG,H0,b5,cA⟩:=hex cM
   refine⟨fun v av=>Q (.ret v) av,⟨iG,H0,b5,cA⟩,fun v av bs=>⟨hk _ _ bs,fun s an b hb=> ?_⟩,fun a7 n3 K' oc=> ?_⟩
   ·obtain⟨bJ,aj,aq⟩:=kx s an
    rw[hb]at aj
    cases aj
    exact aq _ _ bs
   ·unfold GStep
    rw[hw]
    simp only
    have aW:gH P (.kn o x args) env H K' Rp:= .kn Q U aO kx hex aL ah fun y9 av bs=>by
     cases y9 with
     |ret v=>exact oc v av bs
     |dW v=>exact hk _ _ bs
    rw[af]
    exact vd (by have:=n3.1; rw[af]at this; exact this) (fun _ _ h=>h) (fun _ _ h=>h) aW
theorem Ux {P:Program}{i j:bC}{env:Env}{H:aw}{C:Env→aw→Prop}{Rp:I→aw→Prop}(hC: ∀e cd H,jS e cd→C e H→C cd H) (cM:gv H) (ji: ∀x,i.dst=some x→x∉j.reads∧j.dst≠some x) (pI: ∀x,j.dst=some x→x∉i.reads) (an:xW i j=true)
  (h:GStep P i env H (fun v H1=>gv H1→GStep P j (env.put i.dst v) H1 (fun u df=>gv df→C ((env.put i.dst v).put j.dst u) df) Rp) Rp):
  GStep P j env H (fun u H1=>gv H1→GStep P i (env.put j.dst u) H1 (fun v df=>gv df→C ((env.put j.dst u).put i.dst v) df) Rp) Rp:=by
 have mD: ∀v,kg j env (env.put i.dst v):=fun v=>vW fun x U=>(ji x U).1
 have ph: ∀v,kg i env (env.put j.dst v):=fun v=>vW pI
 have mV: ∀v u,jS ((env.put i.dst v).put j.dst u) ((env.put j.dst u).put i.dst v):=fun v u=>put_comm fun x U=>(ji x U).2
 have Wk: ∀ {k:bC}{o:List Nat}{z:Option Nat}{d:Option Nat}{v:I},k.nT=some (some o,z)→(∀x,d=some x→x∉k.reads)→∀s∈o,(env.put d v).get s=env.get s:=by
  intro k o z d v hk bw s an
  obtain⟨_,af⟩:=Hz hk
  refine KG fun x U e=>bw x U ?_
  subst e
  rcases af with ⟨f,args,af⟩|⟨cE,args,af⟩
  ·simp only[bC.reads,af,ba.ct,aW9,List.mem_filterMap]
   exact .inl ⟨.t x,.inr (List.mem_map.2 ⟨x,an,rfl⟩),rfl⟩
  ·simp only[bC.reads,af,ba.ct,aW9,aV8,List.mem_filterMap]
   exact .inl ⟨.t x,.inr (.inr (List.mem_map.2 ⟨x,an,rfl⟩)),rfl⟩
 unfold xW at an
 split at an
 ·rename_i o z x tq
  cases rm:j.nT with
  |none=>rw[rm]at an; simp [qE]at an
  |some y=>
   rw[rm]at an
   have gg:=PY rm an
   obtain⟨O,⟨v0,H0,eS,fq⟩,lR,yZ⟩:=HA tq cM h
   obtain⟨my,d1,d2,d3⟩:=(l8 gg).1 ((lR _ _ eS).1 fq)
   have CW:=rj (mD v0).symm d1
   obtain⟨u,rfl,th⟩:=Fs rm an CW
   have Ib:=th H fun s jH b hb=>((lR _ _ eS).2 s jH b hb).symm
   refine (l8 gg).2 ⟨_,Ib,trivial,fun n _ aO=> ?_⟩
   refine yZ _ (ph _) _ fun v av af oJ=> ?_
   obtain⟨Gm,aj,aq,bD⟩:=(l8 gg).1 ((lR _ _ af).1 oJ)
   obtain⟨vK,fh,Vi⟩:=Fs rm an Ib
   have CZ:=Vi av (lR _ _ af).2
   have:=As gg (rj (mD v).symm aj) CZ
   subst this
   exact hC _ _ _ (mV v u) (bD 0 trivial oJ)
 ·rename_i x o z rm aN3
  cases tq:i.nT with
  |none=>rw[tq]at an; simp [qE]at an
  |some y=>
   rw[tq]at an
   have gg:=PY tq an
   obtain⟨my,d1,d2,d3⟩:=(l8 gg).1 h
   obtain⟨v,rfl,th⟩:=Fs tq an d1
   have h1:=d3 0 trivial cM
   obtain⟨O,_,lR,yZ⟩:=HA rm cM h1
   refine yZ _ (mD v).symm _ fun u av af aO=> ?_
   have CZ:=th av fun s jH b hb=>(lR _ _ af).2 s jH b ((Wk rm (fun x U=>(ji x U).1) s jH).trans hb)
   refine (l8 gg).2 ⟨_,rj (ph u) CZ,trivial,fun n _ Xn=> ?_⟩
   exact hC _ _ _ (mV v u) ((lR _ _ af).1 aO)
 ·cases an
theorem Ww {P:Program}{i j:bC}{env:Env}{H:aw}{C:Env→aw→Prop}{Rp:I→aw→Prop}(hC: ∀e cd H,jS e cd→C e H→C cd H) (cM:gv H) (ae:indep i j=true)
  (h:GStep P i env H (fun v H1=>gv H1→GStep P j (env.put i.dst v) H1 (fun u df=>gv df→C ((env.put i.dst v).put j.dst u) df) Rp) Rp):
  GStep P j env H (fun u H1=>gv H1→GStep P i (env.put j.dst u) H1 (fun v df=>gv df→C ((env.put j.dst u).put i.dst v) df) Rp) Rp:=by
 obtain⟨ji,pI,jj⟩:=YA ae
 have mD: ∀v,kg j env (env.put i.dst v):=fun v=>vW fun x U=>(ji x U).1
 have ph: ∀v,kg i env (env.put j.dst v):=fun v=>vW pI
 have mV: ∀v u,jS ((env.put i.dst v).put j.dst u) ((env.put j.dst u).put i.dst v):=fun v u=>put_comm fun x U=>(ji x U).2
 rcases jj with jj|jj
 ·exact Ux hC cM ji pI jj h
 rcases jj with ⟨b5,cA⟩|jj
 ·obtain⟨v,br,bA⟩:=KL b5 h
  obtain⟨u,cy,eR⟩:=KL cA (br cM)
  exact eR _ (mD v).symm _ fun _=>bA _ (ph u) _ fun _=>hC _ _ _ (mV v u) (cy cM)
 rcases jj with ⟨b5,cA⟩|jj
 ·obtain⟨v,br,bA⟩:=Wy b5 h
  obtain⟨O,cy,eR⟩:=Se cA (br cM)
  exact eR _ (mD v).symm _ fun u av af _=>bA _ av (ph u) (cy u av af).2 _ fun aO=>hC _ _ _ (mV v u) ((cy u av af).1 aO)
 rcases jj with jj|⟨jj,tR⟩|jj|jj|⟨jj,tR,ae4⟩
 rotate_left
 rotate_left
 ·exact av1 hC cM ji pI jj h
 rotate_right
 ·obtain⟨O,⟨v0,H0,eS,fq⟩,lR,yZ⟩:=ZL jj cM h
  obtain⟨x,d1,d2,d3⟩:=(l8 (by omega)).1 (lR _ _ eS fq)
  obtain⟨u,rfl,th⟩:=PX tR d1
  refine (l8 (by omega)).2 ⟨_,rj (mD v0).symm (th H),trivial,fun n _ aO=> ?_⟩
  refine yZ _ (ph _) _ fun v av af oJ=> ?_
  obtain⟨y,aj,aq,bD⟩:=(l8 (by omega)).1 (lR _ _ af oJ)
  have:=As (by omega) (rj (mD v).symm aj) (rj (mD v0).symm (th av))
  subst this
  exact hC _ _ _ (mV v u) (bD 0 trivial oJ)
 rotate_right
 ·obtain⟨x,d1,d2,d3⟩:=(l8 (by omega)).1 h
  obtain⟨v,rfl,th⟩:=PX jj d1
  have h1:=d3 0 trivial cM
  refine uK (mD v).symm (fun u av a8 aO=> ?_) (fun _ _ h=>h) h1
  refine (l8 (by omega)).2 ⟨_,rj (ph u) (th av),trivial,fun n _ Xn=> ?_⟩
  exact hC _ _ _ (mV v u) (a8 aO)
 ·obtain⟨u,t1,t2⟩:=ay5 jj.2 env H
  have ab:j.op.cU≤2:=by
   have:=jj.2
   simp only[bC.total,aT0]at this
   have J:=this.2
   split at J<;>first
    |(rename_i e; rw[e]; simp [ba.cU])
    |cases J
  refine (l8 ab).2 ⟨_,t1,trivial,fun n _ Lk=> ?_⟩
  refine uK (ph u) (fun v av a8 aO=> ?_) (fun _ _ h=>h) h
  obtain⟨y,aj,aq,bD⟩:=(l8 ab).1 (a8 aO)
  have:=As ab aj (t2 _ (mD v) av)
  subst this
  exact hC _ _ _ (mV v u) (bD 0 trivial aO)
 ·obtain⟨x,d1,d2,d3⟩:=(l8 jj).1 h
  obtain⟨cF,u1,Lk⟩:=Kw cM (sN j.op env) x
  have g0:=d3 cF Lk (rr cM)
  obtain⟨y,aj,aq,bD⟩:=(l8 tR).1 g0
  have sl:=rj (mD (x.val cF)).symm aj
  have da:kj P j env H y:=Vp tR (Sd u1) sl
  have notboth: ∀t T s r w dk cu bF dQ w',x= .eH t T s r w→y= .eH dk cu bF dQ w'→False:=by
   rintro t T s r w dk cu bF dQ w' rfl rfl
   exact ae4 ⟨Io d1,Io da⟩
  have bg:y.ok H:=by
   cases y with
   |d e=>trivial
   |eH t T s r w=>
    have ab:=Vq da
    simp only[X.ok]at aq ⊢
    cases x with
    |d f=>
     cases f with
     |cP=>exact aq
     |iF=>exact aq
     |bf=>
      simp only[X.heap,D.heap,aw.b7]at aq
      rw[if_neg (by omega)]at aq
      exact aq
    |eH=>exact (notboth _ _ _ _ _ _ _ _ _ _ rfl rfl).elim
  refine (l8 tR).2 ⟨y,da,bg,fun k hk aM5=> ?_⟩
  have CW:=Ip jj (Lv hk) (rj (ph (y.val k)) d1)
  have jI:x.ok (y.heap H k):=by
   cases x with
   |d e=>trivial
   |eH t T s r w=>
    simp only[X.ok]at d2 ⊢
    cases y with
    |d f=>
     cases f with
     |cP=>exact d2
     |iF=>exact d2
     |bf=>
      simp only[X.fresh,D.fresh]at hk
      simp only[X.heap,D.heap,aw.b7]
      rw[if_neg (fun e=>by subst e; rw[hk]at d2; cases d2)]
      exact d2
    |eH=>exact (notboth _ _ _ _ _ _ _ _ _ _ rfl rfl).elim
  refine (l8 jj).2 ⟨x,CW,jI,fun n bb wK=> ?_⟩
  have rB:=Wb hk bb
  have g1:=d3 n rB (rr cM)
  obtain⟨gO,f1,f2,f3⟩:=(l8 tR).1 g1
  have VZ:=rj (mD (x.val n)).symm f1
  have:=As tR VZ (Ip tR (Lv rB) da)
  subst this
  rw[Xk d2 bg hk bb rB notboth]at wK ⊢
  exact hC _ _ _ (mV _ _) (f3 k (Wf d2 hk bb) wK)
def ki (P:Program):List bC→Env→aw→(Env→aw→Prop)→(I→aw→Prop)→Prop
 |[],env,H,K,_=>K env H
 |i::l,env,H,K,Rp=>GStep P i env H (fun v av=>gv av→ki P l (env.put i.dst v) av K Rp) Rp
theorem C8 {P:Program}{K:Env→aw→Prop}{Rp:I→aw→Prop}: ∀(l:List bC){env:Env}{H:aw},bh P l env H K Rp→ki P l env H K Rp
 |[],_,_,h=>by simpa only[ki,bh] using h
 |i::l,env,H,h=>by
  rw[zN]at h
  exact uK (xL fun _=>rfl) (fun v av a8 _=>C8 l a8) (fun _ _ h=>h) h
theorem It {P:Program}{K:Env→aw→Prop}{Rp:I→aw→Prop}(dz: ∀e cd H,jS e cd→K e H→K cd H): ∀(l:List bC){e cd:Env}{H:aw},jS e cd→ki P l e H K Rp→ki P l cd H K Rp
 |[],e,cd,H,h,bw=>by simp only[ki]at bw ⊢; exact dz e cd H h bw
 |i::l,e,cd,H,h,bw=>by
  simp only[ki]at bw ⊢
  exact uK (xL h) (fun v av a8 aO=>It dz l (E0 h i.dst v) (a8 aO)) (fun _ _ h=>h) bw
theorem C7 {P:Program}{K K':Env→aw→Prop}{Rp:I→aw→Prop}(dz: ∀e H,K e H→K' e H): ∀(l:List bC){e:Env}{H:aw},ki P l e H K Rp→ki P l e H K' Rp
 |[],e,H,bw=>by simp only[ki]at bw ⊢; exact dz e H bw
 |i::l,e,H,bw=>by
  simp only[ki]at bw ⊢
  exact uK (xL fun _=>rfl) (fun v av a8 aO=>C7 dz l (a8 aO)) (fun _ _ h=>h) bw
theorem Iu {P:Program}{K:Env→aw→Prop}{Rp:I→aw→Prop}(dz: ∀e cd H,jS e cd→K e H→K cd H){i:bC}{uv:List bC}: ∀(pe:List bC){env:Env}{H:aw},gv H→(∀y∈pe,indep y i=true)→ki P (pe++i::uv) env H K Rp→ki P (i::(pe++uv)) env H K Rp
 |[],_,_,_,_,h=>h
 |y::pe,env,H,cM,ae,h=>by
  simp only[aU4,ki]at h
  have J:GStep P y env H (fun v H1=>gv H1→GStep P i (env.put y.dst v) H1 (fun u df=>gv df→ki P (pe++uv) ((env.put y.dst v).put i.dst u) df K Rp) Rp) Rp:=
   uK (xL fun _=>rfl) (fun v H1 a8 aO=>Iu dz pe aO (fun z aD=>ae z (by simp [aD])) (a8 aO)) (fun _ _ h=>h) h
  exact Ww (C:=fun e H=>ki P (pe++uv) e H K Rp) (fun e cd H he bw=>It dz _ he bw) cM (ae y (by simp)) J
section
variable {P:Program}{n:Nat}{m0:gx}{ops:Array Oper}{Q:Exit→Act→World→Prop}
theorem Fv {m:Mem}(aZ:bG m):gv m.H:=by
 refine⟨max m.w.heap.size m.T,fun k hk=>⟨?_,?_⟩⟩
 ·cases h:m.H.aV k with
  |none=>rfl
  |some x=>have:=sb aZ (T:=x.1) (cs:=x.2) h; omega
 ·cases h:m.H.tok k with
  |none=>rfl
  |some i=>have:=(aZ.tok k i h).1; omega
def xH (n:Nat) (m0:gx) (Rp:I→aw→Prop) (Q:Exit→Act→World→Prop):Prop:=
 ∀(x:I) (aU:Mem) (jY:Value) (a:Act),Rp x aU.H→bG aU→bH m0.m aU→aK aU x jY→(a.defers=m0.D∧∀E∈m0.kt,dF aU E a.tmps)→a.tmps.size=n→Q (.panic [{v:=jY,recovered:=false}]) a aU.w
theorem KQ {o:Oper}{i:bC}{idx:Nat}{env:Env}{H:aw}{a:Act}{w:World}{K Rp:I→aw→Prop}{sZ:Act→World→Prop}(af:ops[idx]? =some o) (ah:pk P n ops o i=true) (uW:m0.free i) (ab:Rel n m0 env H a w) (hp:xH n m0 Rp Q) (an:GStep P i env H K Rp)
  (h: ∀v av cw w',K v av→gv av→Rel n m0 (env.put i.dst v) av cw w'→sZ cw w'):wpOp P ops Q idx sZ a w:=by
 obtain⟨m,rfl,rfl,aZ,ch,he,gI,dd⟩:=ab
 obtain⟨c1,c2,eV,gn,kL⟩:=UD ah
 unfold wpOp
 simp only[af]
 unfold GStep at an
 split at an
 ·rename_i hw
  have El:=Q6 eV he hw (fun j w bm=>by rw[dd]; exact kL j w bm)
  rw[El]
  simp only[if_true]
  refine .inl (YF an gn aZ he (fun x aU v hk cb cp c5=> ?_) (fun x aU v hk cb cp c5=>hp x aU v a hk cb (ch.trans cp) c5 ⟨gI.1,fun E dp k=>aK.aC cp _ _ (gI.2 E dp k)⟩ dd))
  rw[c1]
  exact h x aU.H _ _ hk (Fv cb) (PZ he ch cp cb c5 gI dd c2 uW)
 ·rename_i hw
  have El:=Q6 eV he hw (fun j w bm=>by rw[dd]; exact kL j w bm)
  rw[El]
  simp only[aU6,if_false]
  rw[c1]
  exact h _ _ _ _ an (Fv aZ) (PZ he ch (bH.refl m) aZ (by simp only[aK]) gI dd c2 uW)
 ·exact an.elim
def Ke:bC:=⟨none,none,.pE 0⟩
def nth (is:List bC) (k:Nat):bC:=is.getD k Ke
theorem CO: ∀ {os:List Oper}{is:List bC},lJ P n ops os is=true→os.length=is.length∧∀k o,os[k]? =some o→pk P n ops o (nth is k)=true
 |[],[],_=>⟨rfl,fun k o h=>by simp at h⟩
 |[],_:: _,h=>by simp [lJ]at h
 | _:: _,[],h=>by simp [lJ]at h
 |o::os,i::is,h=>by
  simp only[lJ,aT0]at h
  obtain⟨aj,aq⟩:=CO h.2
  refine⟨by simp [aj],fun k o' hk=> ?_⟩
  cases k with
  |zero=>simp at hk; subst hk; exact h.1
  |succ k=>simp at hk; have:=aq k o' hk; simpa [nth] using this
theorem C9 {is:List bC}{K:Env→aw→Prop}{Rp:I→aw→Prop}(ah: ∀k o,ops[k]? =some o→pk P n ops o (nth is k)=true) (uW: ∀k,m0.free (nth is k)) (hp:xH n m0 Rp Q) (hk: ∀env H a w,K env H→Rel n m0 env H a w→Q .normal a w):
  ∀(L:List Nat){env:Env}{H:aw}{a:Act}{w:World},(∀k∈L,k<ops.size)→ki P (L.map (nth is)) env H K Rp→Rel n m0 env H a w→wpOps P ops Q L a w
 |[],env,H,a,w,_,h,ab=>by
  simp only[List.map_nil,ki]at h
  exact hk _ _ _ _ h ab
 |k::L,env,H,a,w,aE,h,ab=>by
  rw[wpOps_cons]
  have cL:=aE k (by simp)
  have af:ops[k]? =some ops[k]:=aY5 cL
  simp only[aU5,ki]at h
  exact KQ af (ah k _ af) (uW k) ab hp h fun v av cw w' a8 aO jG=>C9 ah uW hp hk L (fun x U=>aE x (by simp [U])) (a8 aO) jG
theorem BJ {is:List bC}:(bb6 is.length).map (nth is)=is:=by
 apply List.ext_getElem?
 intro k
 by_cases hk:k<is.length
 ·simp [nth,hk]
 ·simp [List.getElem?_eq_none (Nat.le_of_not_lt hk),hk]
end
section
variable {P:Program}{n:Nat}{m0:gx}{ops:Array Oper}{Q:Exit→Act→World→Prop}
def Gq (ops:Array Oper) (listed:Array Bool):Prop:=∀i o,ops[i]? =some o→listed.getD i false=true→∀e∈o.after,Region.binds .any e=true→listed.getD e.on false=true
theorem RH (acc:List Nat) (l:List Edge) (s k:Nat):(l.foldl (fun s e=>if Region.binds .any e then s|||2^e.on|||acc.getD e.on 0 else s) s).testBit k=true→s.testBit k=true∨∃e∈l,Region.binds .any e=true∧(k=e.on∨(acc.getD e.on 0).testBit k=true):=by
 induction l generalizing s with
 |nil=>intro h; exact .inl h
 |cons e l b8=>
  intro h
  simp only[List.foldl_cons]at h
  rcases b8 _ h with h|⟨cd,AU,hb,hk⟩
  ·split at h
   ·rename_i hb
    simp only[Nat.testBit_or,bc7]at h
    rcases h with (h|h)|h
    ·exact .inl h
    ·refine .inr ⟨e,by simp,hb,.inl ?_⟩
     rw[Nat.testBit_two_pow]at h
     exact (by simpa using h:e.on=k).symm
    ·exact .inr ⟨e,by simp,hb,.inr h⟩
   ·exact .inl h
  ·exact .inr ⟨cd,by simp [AU],hb,hk⟩
theorem GS {listed:Array Bool}(ah:Gq ops listed) (hb: ∀i o,ops[i]? =some o→∀e∈o.after,Region.binds .any e=true→e.on<i):
  ∀(os:List Oper) (acc:List Nat),(∀j o,os[j]? =some o→ops[acc.length+j]? =some o)→
   (∀i,i<acc.length→(∀o,ops[i]? =some o→∀e∈o.after,Region.binds .any e=true→listed.getD e.on false=true)→∀k,(acc.getD i 0).testBit k=true→listed.getD k false=true)→
   ∀i,i<acc.length+os.length→(∀o,ops[i]? =some o→∀e∈o.after,Region.binds .any e=true→listed.getD e.on false=true)→
    ∀k,((os.foldl (fun acc o=>acc++[o.after.foldl (fun s e=>if Region.binds .any e then s|||2^e.on|||acc.getD e.on 0 else s) 0]) acc).getD i 0).testBit k=true→listed.getD k false=true
 |[],acc,_,h,i,ae,ab,k,hk=>h i (by simpa using ae) ab k hk
 |o::os,acc,A5,h,i,ae,ab,k,hk=>by
  simp only[List.foldl_cons]at hk
  refine GS ah hb os _ (fun j o' bq=> ?_) (fun c3 gB jG eX oc=> ?_) i (by simp at ae ⊢; omega) ab k hk
  ·have:=A5 (j+1) o' (by simpa using bq)
   simpa [ba9,Nat.add_comm 1 j] using this
  ·simp only[aT2,List.length_singleton]at gB
   by_cases cL:c3<acc.length
   ·refine h c3 cL jG eX ?_
    rw[aV9,aX7 cL,←aV9]at oc
    exact oc
   ·have Xu:c3=acc.length:=by omega
    subst Xu
    have af:ops[acc.length]? =some o:=by have:=A5 0 o rfl; simpa using this
    rw[aV9,aZ8 (aT4 _)]at oc
    simp only[Nat.sub_self,bb4,aX2]at oc
    rw[←Array.foldl_toList]at oc
    rcases RH acc o.after.toList 0 eX oc with aW|⟨e,he,n9,D8⟩
    ·simp at aW
    ·have AU:e∈o.after:=by simpa using he
     have aE:=jG o af e AU n9
     rcases D8 with rfl|D8
     ·exact aE
     ·have cL:=hb _ o af e AU n9
      refine h e.on cL (fun fq yw aq D0 fN=>ah e.on fq yw aE aq D0 fN) eX D8
theorem ab7 {os:List Oper}{is:List bC}(h:vt os is=true):(∀(i:Nat) (o:Oper),os[i]? =some o→∀e∈o.after,Region.binds .any e=true→e.on<i)∧(∀i j,i<j→j<is.length→((GR os).getD j 0).testBit i=true∨indep (nth is i) (nth is j)=true):=by
 simp only[vt,aT0,bb1]at h
 obtain⟨h1,J⟩:=h
 refine⟨fun i o af e he hb=> ?_,fun i j AY bq=> ?_⟩
 ·have:=h1 (o,i) (by rw[ba4]; exact af)
  simp only[be7]at this
  have:=this e he
  simp only[hb,Bool.not_true,Bool.false_or,bg0]at this
  exact this
 ·have ae:i<is.length:=by omega
  have:=J (nth is j,j) (by rw[ba4]; simp [nth,bq]) (nth is i,i) (by rw[ba4]; simp [nth,ae])
  simp only[bc7,aX1]at this
  rcases this with (this|this)|this
  ·have cL:aW7 i j=true:=by rw[bg0]; exact AY
   rw[cL]at this
   cases this
  ·exact .inl this
  ·exact .inr this
theorem Iv {is:List bC}{K:Env→aw→Prop}{Rp:I→aw→Prop}(hlen:ops.size=is.length) (im:vt ops.toList is=true) (ah: ∀k o,ops[k]? =some o→pk P n ops o (nth is k)=true) (uW: ∀k,m0.free (nth is k)) (hp:xH n m0 Rp Q) (dz: ∀e cd H,jS e cd→K e H→K cd H) (hk: ∀env H a w,K env H→Rel n m0 env H a w→Q .normal a w):
  ∀(jq:Nat) (T:List Nat) (listed:Array Bool){env:Env}{H:aw}{a:Act}{w:World},listed.size=ops.size→T.Pairwise (·< ·)→(∀k,k∈T↔k<ops.size∧listed.getD k true=false)→T.length=jq→Gq ops listed→
   ki P (T.map (nth is)) env H K Rp→Rel n m0 env H a w→wpAny P .any ops Q jq listed a w:=by
 obtain⟨hb,rz⟩:=ab7 im
 have gd: ∀(i:Nat) (o:Oper),ops[i]? =some o→∀e∈o.after,Region.binds .any e=true→e.on<i:=fun i o af=>hb i o (by simpa using af)
 have ready: ∀(listed:Array Bool) i,i∈Region.ready .any ops listed↔i<ops.size∧listed.getD i true=false∧∀o,ops[i]? =some o→∀e∈o.after,Region.binds .any e=true→listed.getD e.on false=true:=by
  intro listed i
  simp only[Region.ready,List.mem_filter,bl5,aT0,aX1]
  constructor
  ·rintro⟨h1,J,aA⟩
   refine⟨h1,J,fun o af e he n9=> ?_⟩
   rw[af]at aA
   simp only[aV5,aX2,be7]at aA
   have:=aA e he
   simpa [n9] using this
  ·rintro⟨h1,J,aA⟩
   refine⟨h1,J,?_⟩
   have af:ops[i]? =some ops[i]:=aY5 h1
   rw[af]
   simp only[aV5,aX2,be7]
   intro e he
   by_cases n9:Region.binds .any e=true
   ·simp [n9,aA _ af e he n9]
   ·simp [n9]
 intro jq
 induction jq with
 |zero=>
  intro T listed env H a w dd an dj aE uU h ab
  have:T=[]:=List.eq_nil_of_length_eq_zero aE
  subst this
  refine⟨?_,hk _ _ _ _ h ab⟩
  rw[List.eq_nil_iff_forall_not_mem]
  intro i ae
  obtain⟨h1,J,_⟩:=(ready listed i).1 ae
  have:=(dj i).2 ⟨h1,J⟩
  cases this
 |succ jq b8=>
  intro T listed env H a w dd an dj aE uU h ab
  refine⟨fun XQ=> ?_,fun i ae=> ?_⟩
  ·-- the first that is left is ready
   match T,aE with
   |t::T,_=>
    have aF:=(dj t).1 (by simp)
    have:t∈Region.ready .any ops listed:=by
     refine (ready listed t).2 ⟨aF.1,aF.2,fun o af e he n9=> ?_⟩
     have cL:=gd t o af e he n9
     cases bs:listed.getD e.on true with
     |true=>
      have:e.on<listed.size:=by omega
      simp [aU8,this]at bs ⊢
      exact bs
     |false=>
      have hm:=(dj e.on).2 ⟨by omega,bs⟩
      rcases List.mem_cons.1 hm with aj|aj
      ·omega
      ·have:=List.rel_of_pairwise_cons an aj
       omega
    rw[XQ]at this
    cases this
  ·obtain⟨h1,J,aA⟩:=(ready listed i).1 ae
   have Xt:=(dj i).2 ⟨h1,J⟩
   obtain⟨pe,uv,rfl⟩:=List.append_of_mem Xt
   have af:ops[i]? =some ops[i]:=aY5 h1
   have WU:=GS uU gd ops.toList [] (fun j o bq=>by simpa using bq) (fun i ae=>by simp at ae) i (by simpa using h1) aA
   have D7: ∀y∈pe.map (nth is),indep y (nth is i)=true:=by
    intro y bg
    obtain⟨k,Lt,rfl⟩:=List.mem_map.1 bg
    have Xz:k<i:=by
     rw[bh3]at an
     exact an.2.2 k Lt i (by simp)
    rcases rz k i Xz (by omega) with W7|D7
    ·have wM:=WU k W7
     have qo:=(dj k).1 (by simp [Lt])
     have:k<listed.size:=by omega
     simp [aU8,this]at wM qo
     rw[wM]at qo
     simp at qo
    ·exact D7
   have cM:gv H:=by
    obtain⟨m,rfl,rfl,aZ,_⟩:=ab
    exact Fv aZ
   have Ln:=Iu dz (i:=nth is i) (pe.map (nth is)) cM D7 (by simpa using h)
   simp only[ki]at Ln
   refine KQ af (ah i _ af) (uW i) ab hp Ln fun v av cw w' a8 aO jG=> ?_
   refine b8 (pe++uv) _ (by simpa using dd) ?_ (fun k=> ?_) (by simp at aE ⊢; omega) ?_ (by simpa using a8 aO) jG
   ·rw[bh3,List.pairwise_cons]at an
    rw[bh3]
    exact⟨an.1,an.2.1.2,fun a aL b hb=>an.2.2 a aL b (by simp [hb])⟩
   ·have Le:i∉pe∧i∉uv:=by
     rw[bh3,List.pairwise_cons]at an
     exact⟨fun hm=>by have:=an.2.2 i hm i (by simp); omega,fun hm=>by have:=an.2.1.1 i hm; omega⟩
    have:=dj k
    by_cases e:k=i
    ·subst e
     simp only[aW9,Le.1,Le.2,or_self,false_iff,not_and]
     intro _
     have:k<listed.size:=by omega
     simp [aU8,this]
    ·have dP:(listed.setIfInBounds i true).getD k true=listed.getD k true:=by
      simp [aU8,aZ5 (Ne.symm e)]
     rw[dP,←this]
     simp [e]
   ·intro j o bq Lw e he n9
    by_cases Lr:j=i
    ·subst Lr
     have:=aA o bq e he n9
     by_cases AV:e.on=j
     ·have:=gd j o bq e he n9
      omega
     ·simp only[aU8,aZ5 (Ne.symm AV)]at this ⊢
      exact this
    ·have XF:listed.getD j false=true:=by
      simp only[aU8,aZ5 (Ne.symm Lr)]at Lw ⊢
      exact Lw
     have:=uU j o bq XF e he n9
     by_cases AV:e.on=i
     ·rw[AV]
      have:i<listed.size:=by omega
      simp [aU8,this]
     ·simp only[aU8,aZ5 (Ne.symm AV)]at this ⊢
      exact this
end
theorem ZO {P:Program}{m:Mem}{env:Env}{t:TypeId}{agg:Bool}{n:Nat}{y:aH}{r:I}{nM:Value}(aZ:bG m) (h1:oP P t agg n=true) (ah:aK m (y.aC env) nM) (hp:bL (.load agg n y) env m.H=some r):
  ∃c6 v,nM= .pointer (some c6)∧(loadVar t c6).run P m.w= .ok v m.w∧aK m r v:=by
 simp only[bL]at hp
 have fin: ∀b p (l:List Value) (cs:List I),nM= .pointer (some ⟨b,p,none⟩)→I.hJ agg cs=some r→aM m cs l→l.length=n→(∀(j:Nat) (v:Value),l[j]? =some v→m.w.cell? ⟨b,p+j,none⟩=some v)→∃c6 v,nM= .pointer (some c6)∧(loadVar t c6).run P m.w= .ok v m.w∧aK m r v:=by
  intro b p l cs aj aq bD da fh
  refine⟨_,_,aj,FB h1 b p l da fh,?_⟩
  rcases y4 aq bD with ⟨rfl,h⟩|⟨rfl,v,rfl,h⟩
  ·exact h
  ·exact h
 split at hp
 ·rename_i b p e
  rw[e]at ah
  split at hp
  ·rename_i T cs hb
   split at hp
   ·rename_i hle
    obtain⟨l,g1,g2,g3⟩:=aZ.aV b _ cs hb
    refine fin b p ((l.drop p).take n) _ (tU ah) hp (aM.take n (aM.drop p g2)) ?_ fun j v bq=> ?_
    ·have:=aM.length g2
     simp; omega
    ·rw[cell_of_row m.w b _ _ _ _ g1]
     rw[aV6]at bq
     split at bq
     ·rw[aZ0]at bq
      simpa using bq
     ·cases bq
   ·cases hp
  ·cases hp
 ·rename_i row p e
  rw[e]at ah
  obtain⟨b,q,aj,aq⟩:=xf ah
  split at hp
  ·rename_i hle
   obtain⟨l,g1,g2⟩:=ez.vL aq
   refine fin b (q+p) ((l.drop p).take n) _ aj hp (aM.take n (aM.drop p g1)) ?_ fun j v bq=> ?_
   ·have:=aM.length g1
    simp; omega
   ·rw[aV6]at bq
    split at bq
    ·rw[aZ0]at bq
     rw[ba9]
     exact (g2 _ v bq).1
    ·cases bq
  ·cases hp
 ·cases hp
def BK (tmps:Array Value) (x:ResultVar):Sem Value:=
 match x with
 | .tmp t=>pure (tmps.getD t undef)
 | .cell a t=>do loadVar t (←asAddr (tmps.getD a undef))
theorem VW {P:Program}{m:Mem}{env:Env}{tmps:Array Value}{x:ResultVar}{e:bj}{r:I}(he:dF m env tmps) (aZ:bG m) (ah:lK P [x] [e]=true) (ab:e.aC env m.H=some r):
  ∃v,(BK tmps x).run P m.w= .ok v m.w∧aK m r v:=by
 cases x with
 |tmp t=>
  cases e with
  |t k=>
   simp [lK]at ah
   subst ah
   simp only[bj.aC,Option.some.injEq]at ab
   subst ab
   exact⟨_,rfl,he t⟩
  |cell=>simp [lK]at ah
 |cell a ty=>
  cases e with
  |t k=>simp [lK]at ah
  |cell agg k cw=>
   simp [lK]at ah
   obtain⟨rfl,J⟩:=ah
   simp only[bj.aC]at ab
   obtain⟨c6,v,aj,aq,bD⟩:=ZO (y:= .t a) aZ J (he a) ab
   refine⟨v,?_,bD⟩
   simp only[BK,Sem.run_bind,aj,asAddr,Sem.run_pure,Result.andThen_ok,aq]
theorem UE {P:Program}{x:ResultVar}{xs:List ResultVar}{e:bj}{es:List bj}(h:lK P (x::xs) (e::es)=true):lK P [x] [e]=true∧lK P xs es=true:=by
 cases x<;>cases e<;>simp [lK]at h ⊢
 ·exact h
 ·exact h
theorem P0 {P:Program}{m:Mem}{env:Env}{tmps:Array Value}(he:dF m env tmps) (aZ:bG m): ∀ {xs:List ResultVar}{es:List bj}{aN:List I},lK P xs es=true→es.mapM (bj.aC env m.H)=some aN→
  ∃ak,(xs.mapM (BK tmps)).run P m.w= .ok ak m.w∧aM m aN ak
 |[],[],aN,_,h=>by
  simp at h
  subst h
  exact⟨[],by simp,by simp only[aM]⟩
 |[],_:: _,_,h,_=>by simp [lK]at h
 | _:: _,[],_,h,_=>by simp [lK]at h
 |x::xs,e::es,aN,ah,h=>by
  obtain⟨h1,J⟩:=UE ah
  simp only[bi9,Option.bind_eq_bind,Option.pure_def]at h
  cases ab:e.aC env m.H with
  |none=>simp [ab]at h
  |some r=>
   cases Eg:es.mapM (bj.aC env m.H) with
   |none=>simp [ab,Eg]at h
   |some Fy=>
    simp [ab,Eg]at h
    subst h
    obtain⟨v,g1,g2⟩:=VW he aZ h1 ab
    obtain⟨ak,g3,g4⟩:=P0 he aZ J Eg
    refine⟨v::ak,?_,by simp only[aM]; exact⟨v,ak,rfl,g2,g4⟩⟩
    rw[bi9]
    simp only[Sem.run_bind,g1,Result.andThen_ok,g3,Sem.run_pure]
theorem ao6 {P:Program}{m:Mem}{env:Env}{tmps:Array Value}{fn:Func}{aN:List bj}{r:I}(he:dF m env tmps) (aZ:bG m) (ah:lK P fn.results.toList aN=true) (ab:aX.results aN env m.H=some r):
  ∃v,(Go.results fn tmps).run P m.w= .ok v m.w∧aK m r v:=by
 have key: ∀es:List I,aN.mapM (bj.aC env m.H)=some es→∃ak,(Go.results fn tmps).run P m.w= .ok (if h:ak.toArray.size=1 then ak.toArray[0] else .tuple ak.toArray) m.w∧aM m es ak:=by
  intro es wI
  obtain⟨ak,g1,g2⟩:=P0 he aZ ah wI
  refine⟨ak,?_,g2⟩
  show ((fn.results.mapM (BK tmps))>>=fun ak=>pure (if h:ak.size=1 then ak[0] else .tuple ak)).run P m.w= _
  rw[Array.mapM_eq_mapM_toList]
  simp only[Sem.run_bind,Sem.run_map,g1,Result.andThen_ok,Sem.run_pure]
 unfold aX.results at ab
 split at ab
 ·rename_i e
  obtain⟨ak,g1,g2⟩:=key [r] (by simp [ab])
  simp only[aM]at g2
  obtain⟨v,_,rfl,g2,rfl⟩:=g2
  exact⟨v,by simpa using g1,g2⟩
 ·rename_i dP
  cases wI:aN.mapM (bj.aC env m.H) with
  |none=>simp [wI]at ab
  |some es=>
   simp [wI]at ab
   subst ab
   obtain⟨ak,g1,g2⟩:=key es wI
   have aE:aN.length=es.length:=by
    have: ∀(l:List bj) (es:List I),l.mapM (bj.aC env m.H)=some es→l.length=es.length:=by
     intro l
     induction l with
     |nil=>intro es h; simp at h; subst h; rfl
     |cons x l b8=>
      intro es h
      simp only[bi9,Option.bind_eq_bind,Option.pure_def]at h
      cases U:x.aC env m.H with
      |none=>simp [U]at h
      |some y=>
       cases aE:l.mapM (bj.aC env m.H) with
       |none=>simp [U,aE]at h
       |some dO=>simp [U,aE]at h; subst h; simp [b8 dO aE]
    exact this aN es wI
   have XM:ak.length≠1:=by
    rw[aM.length g2,←aE]
    intro e
    obtain⟨x,U⟩:=List.length_eq_one_iff.1 e
    exact dP x U
   rw[dif_neg (by simpa using XM)]at g1
   exact⟨_,g1,by simp only[aK]; exact⟨ak,rfl,g2⟩⟩
end Go.aX
namespace Go.aX
open Go
inductive pS where
 |c (c:Code)
 |aV (id:Nat)
 |round (ay:Act→World→Prop)
def post (P:Program) (B:Exit→Act→World→Prop):List pS→Exit→Act→World→Prop
 |[],e,a,w=>B e a w
 | .c code::k,e,a,w=>match e with
  | .normal=>code.wp P (post P B k) a w
  |e=>post P B k e a w
 | .aV id::k,e,a,w=>match e with
  | .exit LN=>if LN=id then post P B k .normal a w else post P B k (.exit LN) a w
  |e=>post P B k e a w
 | .round ay::k,e,a,w=>match e with
  | .normal=>ay a w
  |e=>post P B k e a w
def fZ (P:Program) (n:Nat) (m0:gx):List Item→List pS→Prop
 |[],l=>l=[]
 | .c e::k,l=> ∃c bM,l= .c c::bM∧(ko P n c e=true∧∀E∈m0.kt,∀p∈E,e.j7 p.1=true)∧fZ P n m0 k bM
 | .aV id::k,l=> ∃bM,l= .aV id::bM∧fZ P n m0 k bM
 | .round eT m::k,l=> ∃ay bM,l= .round ay::bM∧(∀a w,(∃aU env H,eT aU env H∧aU<m∧Rel n m0 env H a w)→ay a w)∧fZ P n m0 k bM
section
variable {P:Program}{B:Exit→Act→World→Prop}
theorem Bw: ∀(l:List pS) (a:Act) (w:World),B .ret a w→post P B l .ret a w
 |[],_,_,h=>h
 | .c _::l,a,w,h=>Bw l a w h
 | .aV _::l,a,w,h=>Bw l a w h
 | .round _::l,a,w,h=>Bw l a w h
theorem Bv: ∀(l:List pS) (ta:List PanicEntry) (a:Act) (w:World),B (.panic ta) a w→post P B l (.panic ta) a w
 |[],_,_,_,h=>h
 | .c _::l,ta,a,w,h=>Bv l ta a w h
 | .aV _::l,ta,a,w,h=>Bv l ta a w h
 | .round _::l,ta,a,w,h=>Bv l ta a w h
theorem Bu {n:Nat}{m0:gx}{id:Nat}: ∀(k:List Item) (l:List pS) (eX:List Item),fZ P n m0 k l→oW id k=some eX→∃bM,fZ P n m0 eX bM∧∀a w,post P B bM .normal a w→post P B l (.exit id) a w
 |[],_,_,_,h=>by simp [oW]at h
 | .c e::k,l,eX,ae,h=>by
  simp only[fZ]at ae
  obtain⟨c,bM,rfl,_,ae⟩:=ae
  simp only[oW]at h
  obtain⟨fp,g1,g2⟩:=Bu k bM eX ae h
  exact⟨fp,g1,fun a w a8=>g2 a w a8⟩
 | .aV j::k,l,eX,ae,h=>by
  simp only[fZ]at ae
  obtain⟨bM,rfl,ae⟩:=ae
  simp only[oW]at h
  split at h
  ·rename_i e
   subst e
   simp at h
   subst h
   exact⟨bM,ae,fun a w a8=>by simp only[post,if_pos]; exact a8⟩
  ·rename_i e
   obtain⟨fp,g1,g2⟩:=Bu k bM eX ae h
   exact⟨fp,g1,fun a w a8=>by simp only[post]; rw[if_neg (Ne.symm e)]; exact g2 a w a8⟩
 | .round eT m::k,l,eX,ae,h=>by
  simp only[fZ]at ae
  obtain⟨ay,bM,rfl,_,ae⟩:=ae
  simp only[oW]at h
  obtain⟨fp,g1,g2⟩:=Bu k bM eX ae h
  exact⟨fp,g1,fun a w a8=>g2 a w a8⟩
theorem ag3 {c:Code}{l:List pS}:Exit.then (c.wp P (post P B l)) (post P B l)=post P B (.c c::l):=by
 funext e a w
 cases e<;>rfl
theorem ag2 {id:Nat}{l:List pS}:Exit.inBlock id (post P B l)=post P B (.aV id::l):=by
 funext e a w
 cases e<;>rfl
end
theorem r8 {P:Program}{n:Nat}{ops:Array Oper}: ∀ {os:List Oper}{is:List bC}(anns:List I),lJ P n ops os is=true→lJ P n ops os (eB is anns)=true
 |[],[],_,h=>by simpa [eB] using h
 |[],_:: _,_,h=>by simp [lJ]at h
 | _:: _,[],_,h=>by simp [lJ]at h
 |o::os,⟨d,g,op⟩::is,anns,h=>by
  simp only[lJ,aT0]at h
  cases op with
  |io f args=>
   cases anns with
   |nil=>simp only[eB,lJ,aT0]; exact⟨h.1,r8 [] h.2⟩
   |cons r aN=>
    simp only[eB,lJ,aT0]
    refine⟨?_,r8 aN h.2⟩
    have h1:=h.1
    simp only[pk,aT0]at h1 ⊢
    refine⟨h1.1,?_⟩
    have:=h1.2
    cases af:o.op<;>rw[af]at this<;>first
     |(simp [be]at this; done)
     |skip
    rename_i c
    obtain⟨callee,eL,at'⟩:=c
    cases callee<;>first
     |exact this
     |(rename_i b; cases b<;>exact this)
  |j8 x args=>
   cases anns with
   |nil=>simp only[eB,lJ,aT0]; exact⟨h.1,r8 [] h.2⟩
   |cons r aN=>
    simp only[eB,lJ,aT0]
    refine⟨?_,r8 aN h.2⟩
    have h1:=h.1
    simp only[pk,aT0]at h1 ⊢
    refine⟨h1.1,?_⟩
    have:=h1.2
    cases af:o.op<;>rw[af]at this<;>first
     |(simp [be]at this; done)
     |skip
    rename_i c
    obtain⟨callee,eL,at'⟩:=c
    cases callee<;>first
     |exact this
     |(rename_i b; cases b<;>exact this)
  |rM T size f args=>
   cases anns with
   |nil=>simp only[eB,lJ,aT0]; exact⟨h.1,r8 [] h.2⟩
   |cons r aN=>
    simp only[eB,lJ,aT0]
    refine⟨?_,r8 aN h.2⟩
    have h1:=h.1
    simp only[pk,aT0]at h1 ⊢
    refine⟨h1.1,?_⟩
    have:=h1.2
    cases af:o.op<;>rw[af]at this<;>first
     |(simp [be]at this; done)
     |skip
    rename_i c
    obtain⟨callee,eL,at'⟩:=c
    cases callee<;>first
     |exact this
     |(rename_i b; cases b<;>exact this)
  | _=>simp only[eB,lJ,aT0]; exact⟨h.1,r8 anns h.2⟩
theorem q7: ∀(is:List bC) (anns:List I) (k:Nat),(nth (eB is anns) k).dst=(nth is k).dst∧(nth (eB is anns) k).reads=(nth is k).reads∧(nth (eB is anns) k).op.cU=(nth is k).op.cU∧(nth (eB is anns) k).total=(nth is k).total∧(nth (eB is anns) k).op.live=(nth is k).op.live∧(nth (eB is anns) k).tY=(nth is k).tY
 |[],anns,k=>by simp [eB]
 |⟨d,g,op⟩::is,anns,k=>by
  cases op with
  |io f args=>
   cases anns with
   |nil=>
    cases k with
    |zero=>exact⟨rfl,rfl,rfl,rfl,rfl,by first|rfl|(cases g<;>rfl)⟩
    |succ k=>exact q7 is [] k
   |cons r aN=>
    cases k with
    |zero=>exact⟨rfl,rfl,rfl,rfl,rfl,by first|rfl|(cases g<;>rfl)⟩
    |succ k=>exact q7 is aN k
  |j8 f args=>
   cases anns with
   |nil=>
    cases k with
    |zero=>exact⟨rfl,rfl,rfl,rfl,rfl,by first|rfl|(cases g<;>rfl)⟩
    |succ k=>exact q7 is [] k
   |cons r aN=>
    cases k with
    |zero=>exact⟨rfl,rfl,rfl,rfl,rfl,by first|rfl|(cases g<;>rfl)⟩
    |succ k=>exact q7 is aN k
  |rM T size f args=>
   cases anns with
   |nil=>
    cases k with
    |zero=>exact⟨rfl,rfl,rfl,rfl,rfl,by first|rfl|(cases g<;>rfl)⟩
    |succ k=>exact q7 is [] k
   |cons r aN=>
    cases k with
    |zero=>exact⟨rfl,rfl,rfl,rfl,rfl,by first|rfl|(cases g<;>rfl)⟩
    |succ k=>exact q7 is aN k
  | _=>
   cases k with
   |zero=>exact⟨rfl,rfl,rfl,rfl,rfl,by first|rfl|(cases g<;>rfl)⟩
   |succ k=>exact q7 is anns k
theorem r9: ∀(is:List bC) (anns:List I) (k:Nat),(nth (eB is anns) k).op.quiet=(nth is k).op.quiet∧(nth (eB is anns) k).op.sS=(nth is k).op.sS∧(nth (eB is anns) k).op.s7=(nth is k).op.s7∧(nth (eB is anns) k).nT=(nth is k).nT
 |[],anns,k=>by simp [eB]
 |⟨d,g,op⟩::is,anns,k=>by
  cases op with
  |io f args=>
   cases anns with
   |nil=>
    cases k with
    |zero=>exact⟨rfl,rfl,rfl,by first|rfl|(cases g<;>rfl)⟩
    |succ k=>exact r9 is [] k
   |cons r aN=>
    cases k with
    |zero=>exact⟨rfl,rfl,rfl,by first|rfl|(cases g<;>rfl)⟩
    |succ k=>exact r9 is aN k
  |j8 f args=>
   cases anns with
   |nil=>
    cases k with
    |zero=>exact⟨rfl,rfl,rfl,by first|rfl|(cases g<;>rfl)⟩
    |succ k=>exact r9 is [] k
   |cons r aN=>
    cases k with
    |zero=>exact⟨rfl,rfl,rfl,by first|rfl|(cases g<;>rfl)⟩
    |succ k=>exact r9 is aN k
  |rM T size f args=>
   cases anns with
   |nil=>
    cases k with
    |zero=>exact⟨rfl,rfl,rfl,by first|rfl|(cases g<;>rfl)⟩
    |succ k=>exact r9 is [] k
   |cons r aN=>
    cases k with
    |zero=>exact⟨rfl,rfl,rfl,by first|rfl|(cases g<;>rfl)⟩
    |succ k=>exact r9 is aN k
  | _=>
   cases k with
   |zero=>exact⟨rfl,rfl,rfl,by first|rfl|(cases g<;>rfl)⟩
   |succ k=>exact r9 is anns k
theorem vX: ∀(is:List bC) (anns:List I),(eB is anns).length=is.length
 |[],_=>rfl
 |⟨d,g,op⟩::is,anns=>by
  cases op with
  |io f args=>cases anns<;>simp [eB,vX is]
  |j8 f args=>cases anns<;>simp [eB,vX is]
  |rM T size f args=>cases anns<;>simp [eB,vX is]
  | _=>simp [eB,vX is]
theorem GU {os:List Oper}{is:List bC}{anns:List I}(h:vt os is=true):vt os (eB is anns)=true:=by
 simp only[vt,aT0,bb1]at h ⊢
 refine⟨h.1,fun⟨y,j⟩ bg ⟨x,i⟩ U=> ?_⟩
 rw[ba4]at bg U
 have bq:j<is.length:=by rw[←vX is anns]; exact (List.getElem?_eq_some_iff.1 bg).1
 have ae:i<is.length:=by rw[←vX is anns]; exact (List.getElem?_eq_some_iff.1 U).1
 have nY:nth (eB is anns) j=y:=by simp only[nth,aV9]; rw[bg]; rfl
 have ex:nth (eB is anns) i=x:=by simp only[nth,aV9]; rw[U]; rfl
 have:=h.2 (nth is j,j) (by rw[ba4]; simp [nth,bq]) (nth is i,i) (by rw[ba4]; simp [nth,ae])
 have e:indep x y=indep (nth is i) (nth is j):=by
  obtain⟨eG,a2,a3,a4,a5,zW⟩:=q7 is anns i
  obtain⟨ff,jf,lE,pj,xP,z8⟩:=q7 is anns j
  rw[nY]at ff jf lE pj xP z8
  rw[ex]at eG a2 a3 a4 a5 zW
  obtain⟨GL,GM,a9,GK⟩:=r9 is anns i
  obtain⟨Aa,RV,Ab,G2⟩:=r9 is anns j
  rw[nY]at Aa RV Ab G2
  rw[ex]at GL GM a9 GK
  unfold indep zr xW
  rw[GK,G2,GL,Aa,GM,Ab,eG,a2,a3,a5,zW,ff,jf,lE,pj,z8]
 simp only[e]
 exact this
theorem Ft {n:Nat}{m0:gx}{env a7:Env}{H:aw}{a:Act}{w:World}(h: ∀j,cR (env.get j) (a7.get j)) (ab:Rel n m0 env H a w):Rel n m0 a7 H a w:=by
 obtain⟨m,h1,J,aA,bz,bZ,ef⟩:=ab
 exact⟨m,h1,J,aA,bz,fun k=>h k _ _ (bZ k),ef⟩
def Gy (m0:Mem) (R:Out→aw→Prop) (e:Ending) (w':World):Prop:=
 ∃o av fI cu,bG ⟨w',av,fI,cu⟩∧bH m0 ⟨w',av,fI,cu⟩∧pU ⟨w',av,fI,cu⟩ o e∧R o av
structure xE (P:Program) (fn:Func) (n:Nat) (aN:List bj) (Q:Ending→World→Prop) (R:Out→aw→Prop) (m0:gx):Prop where
 ret: ∀env H v a w,aX.results aN env H=some v→R (.ret v) H→Rel n m0 env H a w→Leaves P fn a.tmps Q a.defers .returning w
 dW: ∀(x:I) (aU:Mem) (jY:Value) (a:Act),R (.dW x) aU.H→bG aU→bH m0.m aU→aK aU x jY→(a.defers=m0.D∧∀E∈m0.kt,dF aU E a.tmps)→a.tmps.size=n→Leaves P fn a.tmps Q a.defers (.panicking [{v:=jY,recovered:=false}]) aU.w
theorem W0 {P:Program}{fn:Func}{n:Nat}{m0:Mem}{aN:List bj}{R:Out→aw→Prop}(Ef:lK P fn.results.toList aN=true):xE P fn n aN (Gy m0 R) R ⟨m0,[],[]⟩ where
 ret:=fun env H v a w ad ac ab=>by
  obtain⟨m,rfl,rfl,aZ,ch,he,gI,_⟩:=ab
  obtain⟨jY,g1,g2⟩:=ao6 (fn:=fn) he aZ Ef ad
  rw[gI.1]
  exact⟨jY,g1,.ret v,m.H,m.L,m.T,aZ,ch,⟨jY,rfl,g2⟩,ac⟩
 dW:=fun x aU jY a ac aZ aC ad gI _=>by
  rw[gI.1]
  exact⟨.dW x,aU.H,aU.L,aU.T,aZ,aC,⟨jY,rfl,ad⟩,ac⟩
theorem W1 {P:Program}{fn:Func}{n:Nat}{aN:List bj}{Q:Ending→World→Prop}{R nQ:Out→aw→Prop}{m0:gx}{m1:Mem}{f:FuncId}{fJ:List I}{ak:List Value}{kt:Env}(hb:xE P fn n aN Q R m0) (aO:cT P f=true) (AW:bH m0.m m1) (hq:aM m1 fJ ak) (AX:zM P f fJ)
  (A7: ∀v av,nQ (.ret v) av→R (.ret v) av) (A6: ∀x av,nQ (.dW x) av→sX P f fJ x av fun df=> ∃v,aX.results aN kt df=some v∧R (.ret v) df):
  xE P fn n aN Q nQ ⟨m1,{target:= .fn (.func f) ⟨ak⟩,args:= #[]}::m0.D,kt::m0.kt⟩ where
 ret:=fun env H v a w ad ac ab=>by
  obtain⟨m,rfl,rfl,aZ,ch,he,gI,dd⟩:=ab
  rw[gI.1]
  have hinv:(invoke (.fn (.func f) ⟨ak⟩) #[]).run P m.w= .ok (.enter f ⟨ak⟩) m.w:=by simp [invoke,zk aO]
  refine leaves_cons (by simp) hinv ((AX m ak aZ (aM.aC ch _ _ hq)).mono ?_)
  rintro e pQ w' ⟨⟨bp,rfl⟩,rfl,fI,cu,cb,cp⟩
  have:=hb.ret env m.H v {a with defers:=m0.D} w' ad (A7 _ _ ac) ⟨⟨w',m.H,fI,cu⟩,rfl,rfl,cb,(AW.trans ch).trans cp,fun k=>aK.aC cp _ _ (he k),⟨rfl,fun E dp k=>aK.aC cp _ _ (gI.2 E (by simp [dp]) k)⟩,dd⟩
  exact this
 dW:=fun x aU jY a ac aZ aC ad gI dd=>by
  rw[gI.1]
  have hinv:(invoke (.fn (.func f) ⟨ak⟩) #[]).run P aU.w= .ok (.enter f ⟨ak⟩) aU.w:=by simp [invoke,zk aO]
  refine leaves_cons (by simp) hinv ((A6 x aU.H ac aU ak jY rfl aZ (aM.aC aC _ _ hq) ad).mono ?_)
  rintro e pQ w' ⟨⟨bp,rfl⟩,rfl,av,fI,cu,cb,cp,v,qu,DO⟩
  have:=hb.ret kt av v {a with defers:=m0.D} w' qu DO ⟨⟨w',av,fI,cu⟩,rfl,rfl,cb,(AW.trans aC).trans cp,fun k=>aK.aC cp _ _ (gI.2 kt (by simp) k),⟨rfl,fun E dp k=>aK.aC cp _ _ (gI.2 E (by simp [dp]) k)⟩,dd⟩
  exact this
theorem fZ.more {P:Program}{n:Nat}{m0 m1:gx}: ∀ {k:List Item}{l:List pS},fZ P n m0 k l→(∀E∈m1.kt,E∈m0.kt∨∀p∈E,k.all (Item.j7 p.1)=true)→k.all (fun i=>match i with| .round _ _=>false| _=>true)=true→fZ P n m1 k l
 |[],l,h,_,_=>by simp only[fZ]at*; exact h
 | .c e::k,l,h,hk,ab=>by
  simp only[fZ]at*
  obtain⟨c,bM,rfl,⟨h1,J⟩,aA⟩:=h
  simp only[aV0,aT0]at hk ab
  exact⟨c,bM,rfl,⟨h1,fun E dp p hp=>(hk E dp).elim (fun h=>J E h p hp) fun h=>(h p hp).1⟩,fZ.more aA (fun E dp=>(hk E dp).imp (fun h=>h) fun h p hp=>(h p hp).2) ab.2⟩
 | .aV id::k,l,h,hk,ab=>by
  simp only[fZ]at*
  obtain⟨bM,rfl,aA⟩:=h
  simp only[aV0,aT0]at hk ab
  exact⟨bM,rfl,fZ.more aA (fun E dp=>(hk E dp).imp (fun h=>h) fun h p hp=>(h p hp).2) ab.2⟩
 | .round eT m::k,l,h,hk,ab=>by simp at ab
theorem MD {m0:gx}{ops:List bC}{draw:Bool}(anns:List I) (h: ∀E∈m0.kt,∀p∈E,(bu.region ops draw).j7 p.1=true) (k:Nat):m0.free (nth (eB ops anns) k):=by
 intro E dp p hp e
 have h1:=h E dp p hp
 simp only[bu.j7,bb1]at h1
 rw[(q7 ops anns k).1]at e
 by_cases hk:k<ops.length
 ·have J:=h1 (nth ops k) (by simp [nth,hk])
  simp [e]at J
 ·simp [nth,bg1,hk,Ke]at e
theorem RF {P:Program}{fn:Func}{n:Nat}{aN:List bj}{Q:Ending→World→Prop}{R:Out→aw→Prop}(hm:P.follows .mixedOrders=true){k:List Item}{env:Env}{H:aw}(h:ci P aN R k env H):
  ∀(m0:gx) (hb:xE P fn n aN Q R m0) (l:List pS) (a:Act) (w:World),fZ P n m0 k l→Rel n m0 env H a w→post P (bodyPostD P fn Q) l .normal a w:=by
 have dW: ∀ {R:Out→aw→Prop}(m0:gx) (hb:xE P fn n aN Q R m0) (l:List pS),xH n m0 (fun v av=>R (.dW v) av) (post P (bodyPostD P fn Q) l):=by
  intro R m0 hb l x aU jY a ac aZ aC ad gI dd
  exact Bv l _ a aU.w (hb.dW x aU jY a ac aZ aC ad gI dd)
 induction h with
 |done ad ac=>
  intro m0 hb l a w ae ab
  simp only[fZ]at ae
  subst ae
  exact hb.ret _ _ _ _ _ ad ac ab
 |ret ad ac=>
  intro m0 hb l a w ae ab
  simp only[fZ]at ae
  obtain⟨c,bM,rfl,⟨ah,hw⟩,ae⟩:=ae
  cases c<;>simp [ko]at ah
  exact wp_ret (Bw bM a w (hb.ret _ _ _ _ _ ad ac ab))
 |skip _ b8=>
  intro m0 hb l a w ae ab
  simp only[fZ]at ae
  obtain⟨c,bM,rfl,⟨ah,hw⟩,ae⟩:=ae
  cases c<;>simp [ko]at ah
  exact wp_skip (b8 m0 hb bM a w ae ab)
 |xT _ b8=>
  intro m0 hb l a w ae ab
  simp only[fZ]at ae
  obtain⟨bM,rfl,ae⟩:=ae
  exact b8 m0 hb bM a w ae ab
 |seq _ b8=>
  intro m0 hb l a w ae ab
  simp only[fZ]at ae
  obtain⟨c,bM,rfl,⟨ah,hw⟩,ae⟩:=ae
  cases c<;>simp [ko]at ah
  rename_i x y
  refine wp_seq ?_
  rw[ag3]
  exact b8 m0 hb (.c x:: .c y::bM) a w (by simp only[fZ]; exact⟨_,_,rfl,⟨ah.1,fun E dp p hp=>by have:=hw E dp p hp; simp only[bu.j7,aT0]at this; exact this.1⟩,_,_,rfl,⟨ah.2,fun E dp p hp=>by have:=hw E dp p hp; simp only[bu.j7,aT0]at this; exact this.2⟩,ae⟩) ab
 |block _ b8=>
  intro m0 hb l a w ae ab
  simp only[fZ]at ae
  obtain⟨c,bM,rfl,⟨ah,hw⟩,ae⟩:=ae
  cases c<;>simp [ko]at ah
  rename_i id x
  obtain⟨rfl,ah⟩:=ah
  refine wp_block ?_
  rw[ag2]
  exact b8 m0 hb (.c x:: .aV id::bM) a w (by simp only[fZ]; exact⟨_,_,rfl,⟨ah,fun E dp p hp=>by have:=hw E dp p hp; simpa only[bu.j7] using this⟩,_,rfl,ae⟩) ab
 |exit hk _ b8=>
  intro m0 hb l a w ae ab
  simp only[fZ]at ae
  obtain⟨c,bM,rfl,⟨ah,hw⟩,ae⟩:=ae
  cases c<;>simp [ko]at ah
  subst ah
  obtain⟨fp,g1,g2⟩:=Bu (B:=bodyPostD P fn Q) _ bM _ ae hk
  exact wp_exit (g2 a w (b8 m0 hb fp a w g1 ab))
 |cond Xb _ _ Yw Yx=>
  intro m0 hb l a w ae ab
  simp only[fZ]at ae
  obtain⟨c,bM,rfl,⟨ah,hw⟩,ae⟩:=ae
  cases c<;>simp [ko]at ah
  rename_i x p q
  have U: ∀(c:aH) (env:Env) (H:aw) (t:Bool),cK x c=true→Rel n m0 env H a w→aH.aC env c=I.bool t→a.eval x= .bool t:=by
   intro c env H t h1 ab aF
   obtain⟨m,rfl,rfl,aZ,ch,he,_⟩:=ab
   have:=cY he h1
   rw[aF]at this
   exact sO this
  exact wp_cond_split (U _ _ _ _ ah.1.1 ab Xb) (fun aF=>Yw aF m0 hb (.c p::bM) a w (by simp only[fZ]; exact⟨_,_,rfl,⟨ah.1.2,fun E dp p hp=>by have:=hw E dp p hp; simp only[bu.j7,aT0]at this; exact this.1⟩,ae⟩) ab) (fun aF=>Yx aF m0 hb (.c q::bM) a w (by simp only[fZ]; exact⟨_,_,rfl,⟨ah.2,fun E dp p hp=>by have:=hw E dp p hp; simp only[bu.j7,aT0]at this; exact this.2⟩,ae⟩) ab)
 |region anns K h dz b8=>
  rename_i ops draw k env H
  intro m0 hb l a w ae ab
  simp only[fZ]at ae
  obtain⟨c,bM,rfl,⟨ah,hw⟩,ae⟩:=ae
  cases c<;>simp only[ko,aU6]at ah
  rename_i id nt Uy
  simp only[aT0,beq_iff_eq]at ah
  obtain⟨⟨rfl,yk⟩,yl⟩:=ah
  have wG:=r8 anns yk
  obtain⟨hlen,wL⟩:=CO wG
  have sv:nt.size=(eB ops anns).length:=by rw[←hlen,aX4]
  have yr: ∀k o,nt[k]? =some o→pk P n nt o (nth (eB ops anns) k)=true:=fun k o af=>wL k o (by simpa using af)
  have yn:=C8 _ h
  have yv: ∀env H a w,K env H→Rel n m0 env H a w→post P (bodyPostD P fn Q) bM .normal a w:=fun env H a w hk ab=>b8 env H hk m0 hb bM a w ae ab
  cases Uy with
  |false=>
   refine wp_region ?_
   have:=C9 (Q:=post P (bodyPostD P fn Q) bM) yr (MD anns hw) (dW m0 hb bM) yv (bb6 nt.size) (fun k hk=>by simpa using hk) (by rw[sv,BJ]; exact yn) ab
   exact this
  |true=>
   refine wp_region_any hm ?_
   have im:=GU (anns:=anns) (by simpa using yl)
   have jG:Rel n m0 env H a {w with drawn:=w.drawn+1}:=by
    obtain⟨m,rfl,rfl,aZ,ch,he,gI,dd⟩:=ab
    exact⟨{m with w:=m.w.drew},rfl,rfl,aZ.drew,ch.trans (bH.drew m),fun k=>aK.aC (bH.drew m) _ _ (he k),⟨gI.1,fun E dp k=>aK.aC (bH.drew m) _ _ (gI.2 E dp k)⟩,dd⟩
   have DZ:=C7 (K':=fun env H=> ∃qj,jS qj env∧K qj H) (fun e H hk=>⟨e,fun _=>rfl,hk⟩) _ yn
   refine Iv (K:=fun env H=> ∃qj,jS qj env∧K qj H) sv im yr (MD anns hw) (dW m0 hb bM) (fun e cd H he ⟨ch,h1,J⟩=>⟨ch,fun k=>(h1 k).trans (he k),J⟩) (fun env H a w ⟨ch,h1,J⟩ ab=>yv ch H a w J (Ft (fun j m v ad=>by rw[h1 j]; exact ad) ab)) nt.size (bb6 nt.size) _ (by simp) bl2 (fun k=> ?_) (by simp) ?_ (by rw[sv,BJ]; exact DZ) jG
   ·simp only[bl5]
    constructor
    ·intro hk
     exact⟨hk,by simp [aU8,hk]⟩
    ·exact fun h=>h.1
   ·intro i o af aE
    have cL:=(Array.getElem?_eq_some_iff.1 af).1
    simp [aU8,cL]at aE
 |loop eT m1 aW h b8=>
  rename_i body k env H
  intro m0 hb l a w ae ab
  simp only[fZ]at ae
  obtain⟨c,bM,rfl,⟨ah,hw⟩,ae⟩:=ae
  cases c<;>simp [ko]at ah
  rename_i x
  -- the least measure
  let inv:Act→World→Prop:=fun a w=> ∃aU env H,eT aU env H∧Rel n m0 env H a w
  let bc:Act→World→Nat:=fun a w=>Classical.epsilon fun q=>(∃env H,eT q env H∧Rel n m0 env H a w)∧∀kY,(∃env H,eT kY env H∧Rel n m0 env H a w)→q≤kY
  have Ly: ∀a w,inv a w→(∃env H,eT (bc a w) env H∧Rel n m0 env H a w)∧∀kY,(∃env H,eT kY env H∧Rel n m0 env H a w)→bc a w≤kY:=by
   intro a w hinv
   have hex: ∃q,(∃env H,eT q env H∧Rel n m0 env H a w)∧∀kY,(∃env H,eT kY env H∧Rel n m0 env H a w)→q≤kY:=by
    obtain⟨jN,env,H,h1,J⟩:=hinv
    have key: ∀b,(∃q,q≤b∧∃env H,eT q env H∧Rel n m0 env H a w)→∃q,(∃env H,eT q env H∧Rel n m0 env H a w)∧∀kY,(∃env H,eT kY env H∧Rel n m0 env H a w)→q≤kY:=by
     intro b
     induction b with
     |zero=>rintro⟨q,bs,a8⟩; exact⟨q,a8,fun kY _=>by omega⟩
     |succ b Yy=>
      rintro⟨q,bs,a8⟩
      by_cases Lx: ∃q,q≤b∧∃env H,eT q env H∧Rel n m0 env H a w
      ·exact Yy Lx
      ·exact⟨q,a8,fun kY XX=>by
        rcases Nat.lt_or_ge b kY with cL|ck
        ·omega
        ·exact absurd ⟨kY,ck,XX⟩ Lx⟩
    exact key jN ⟨jN,aT4 _,env,H,h1,J⟩
   exact Classical.epsilon_spec hex
  refine wp_loop inv bc ⟨m1,env,H,aW,ab⟩ fun a w hinv=> ?_
  obtain⟨⟨VN,H1,g1,g2⟩,aL9⟩:=Ly a w hinv
  have:=b8 (bc a w) VN H1 g1 m0 hb (.c x:: .round (fun cw w'=>inv cw w'∧bc cw w'<bc a w)::bM) a w (by
   simp only[fZ]
   refine⟨_,_,rfl,⟨ah,fun E dp p hp=>by have:=hw E dp p hp; simpa only[bu.j7] using this⟩,_,_,rfl,fun cw w' ⟨aU,a7,av,br,bA,cy⟩=> ?_,ae⟩
   have Lq:inv cw w':=⟨aU,a7,av,br,cy⟩
   exact⟨Lq,Nat.lt_of_le_of_lt ((Ly cw w' Lq).2 aU ⟨a7,av,br,cy⟩) bA⟩) g2
  refine wp_mono this fun e cw w' bs=> ?_
  cases e<;>exact bs
 |round m1 aW h1=>
  intro m0 hb l a w ae ab
  simp only[fZ]at ae
  obtain⟨ay,bM,rfl,WH,ae⟩:=ae
  exact WH a w ⟨m1,_,_,aW,h1,ab⟩
 |xw he _ b8=>
  intro m0 hb l a w ae ab
  exact b8 m0 hb l a w ae (Ft he ab)
 |conv S an _ b8=>
  intro m0 hb l a w ae ab
  obtain⟨m,rfl,rfl,aZ,ch,he,gI,dd⟩:=ab
  obtain⟨a7,av,fI,cu,s1,s2,sP,ar7⟩:=an m rfl aZ
  exact b8 a7 av s1 m0 hb l a _ ae ⟨⟨m.w,av,fI,cu⟩,rfl,rfl,s2,ch.trans sP,fun k=>ar7 k _ (he k),⟨gI.1,fun E dp k=>aK.aC sP _ _ (gI.2 E dp k)⟩,dd⟩
 |sk nQ kt AZ hk bw ah aO AX A7 A6 aN4 b8=>
  rename_i R d f cap k env H
  intro m0 hb l a w ae ab
  simp only[fZ]at ae
  obtain⟨c,bM,rfl,⟨tC,hw⟩,ae⟩:=ae
  obtain⟨m,rfl,rfl,aZ,ch,he,gI,dd⟩:=ab
  cases c<;>try (simp only[ko,aU6]at tC; done)
  rename_i id ops draw
  cases draw<;>simp only[ko,aU6]at tC
  simp only[aT0]at tC
  obtain⟨⟨Xi,_⟩,A4⟩:=tC
  have Lf:d<n:=by simpa [bg0] using Xi
  split at A4
  ·rename_i eS fq Lz
   simp only[aT0,beq_iff_eq,bk6]at A4
   obtain⟨⟨⟨⟨⟨h1,J⟩,aA⟩,bz⟩,bZ⟩,ef⟩:=A4
   split at bZ
   ·rename_i g first fJ XT
    simp only[aT0,decide_eq_true_eq]at bZ
    obtain⟨⟨rfl,Wz⟩,WA⟩:=bZ
    split at ef
    ·rename_i t args aK9 yw
     simp only[aT0,beq_iff_eq]at ef
     obtain⟨rfl,WB⟩:=ef
     have XU:ops= #[eS,fq]:=by cases ops; simp at Lz; subst Lz; rfl
     subst XU
     obtain⟨v,j3,ad⟩:=NZ he XT Wz WA (by simpa using CK aO) (P:=P) (m:=m) (o:=eS)
     obtain⟨ak,Yd,hq⟩:=vD ad
     have Ye:=Yd.trans (uG (CK aO) ak)
     subst Ye
     refine wp_region ?_
     have Yf: ∀y,Region.wanted eS y=true:=fun y=>by simp [Region.wanted,J]
     have Yg: ∀y,Region.wanted fq y=true:=fun y=>by simp [Region.wanted,bz]
     have ry:args= #[]:=by simpa using WB
     subst ry
     show wpOps P #[eS,fq] _ [0,1] a m.w
     simp only[wpOps,List.getElem?_toArray,bb4,List.getElem?_cons_succ,Yf,Yg,if_true]
     refine .inl ?_
     simp only[Oper.wp,j3,Oper.upon]
     have AW:(a.put eS.dst (.func (.func g) #[] ⟨ak⟩)).eval (.tmp t)= .func (.func g) #[] ⟨ak⟩:=by
      rw[h1]
      simp [Act.put,Act.eval,aU8,dd,Lf]
     have X4:(execOp (a.put eS.dst (.func (.func g) #[] ⟨ak⟩)).eval fq).run P m.w= .ok (.defer {target:= .fn (.func g) ⟨ak⟩,args:= #[]}) m.w:=by
      simp [execOp,yw,resolve,AW,Deferred.ofValue]
     rw[X4]
     refine .inl ?_
     simp only[Oper.upon]
     refine b8 _ (W1 hb aO ch hq AX A7 A6) bM _ _ (fZ.more ae (fun E dp=> ?_) ah) ?_
     ·rcases List.mem_cons.1 dp with rfl|dp
      ·exact .inr hk
      ·exact .inl dp
     ·have b5:dF m kt a.tmps:=fun k=>AZ k _ _ (he k)
      refine⟨m,rfl,rfl,aZ,bH.refl m,?_,⟨?_,fun E dp=> ?_⟩,?_⟩
      ·have:=Qf (dst:=some t) he (bH.refl m) ad dd (by simpa using Lf)
       rw[h1,aA]
       exact this
      ·rw[h1,aA]
       simp [Act.put,gI.1]
      ·rw[h1,aA]
       rcases List.mem_cons.1 dp with rfl|dp
       ·exact FD (dst:=some t) (v:= .func (.func g) #[] ⟨ak⟩) b5 (bH.refl m) (fun p hp e=>bw p hp (by simpa using e))
       ·exact FD (dst:=some t) (v:= .func (.func g) #[] ⟨ak⟩) (gI.2 E dp) (bH.refl m) (fun p hp e=>by have:=hw E dp p hp; simp only[bu.j7]at this; simp at e; simp [e]at this)
      ·rw[h1,aA]
       simp [Act.put,dd]
    ·cases ef
   ·cases bZ
  ·cases A4
theorem RE {P:Program}{fn:Func}{n:Nat}{m0:Mem}{aN:List bj}{R:Out→aw→Prop}(hm:P.follows .mixedOrders=true) (Ef:lK P fn.results.toList aN=true){k:List Item}{env:Env}{H:aw}(h:ci P aN R k env H)
  (l:List pS) (a:Act) (w:World) (ae:fZ P n ⟨m0,[],[]⟩ k l) (ab:Rel n ⟨m0,[],[]⟩ env H a w):post P (bodyPostD P fn (Gy m0 R)) l .normal a w:=
 RF hm h _ (W0 Ef) l a w ae ab
theorem an9 {P:Program}{n:Nat}{m0:gx}{id:Nat}{nt:Array Oper}{draw:Bool}{ops:List bC}{anns:List I}{env:Env}{H:aw}{K:Env→aw→Prop}{Rp:I→aw→Prop}{Q:Exit→Act→World→Prop}{a:Act}{w:World}(hm:P.follows .mixedOrders=true) (qo:m0.kt=[])
  (ah:ko P n (.region id nt draw) (.region ops draw)=true) (hp:xH n m0 Rp Q) (yv: ∀env H a w,K env H→Rel n m0 env H a w→Q .normal a w) (h:bh P (eB ops anns) env H K Rp) (ab:Rel n m0 env H a w):(Code.region id nt draw).wp P Q a w:=by
 simp only[ko,aT0,beq_iff_eq,BEq.rfl,true_and]at ah
 obtain⟨yk,yl⟩:=ah
 have wG:=r8 anns yk
 obtain⟨hlen,wL⟩:=CO wG
 have sv:nt.size=(eB ops anns).length:=by rw[←hlen,aX4]
 have yr: ∀k o,nt[k]? =some o→pk P n nt o (nth (eB ops anns) k)=true:=fun k o af=>wL k o (by simpa using af)
 have Lm: ∀k,m0.free (nth (eB ops anns) k):=fun k E dp=>by rw[qo]at dp; cases dp
 have yn:=C8 _ h
 cases draw with
 |false=>
  refine wp_region ?_
  exact C9 yr Lm hp yv (bb6 nt.size) (fun k hk=>by simpa using hk) (by rw[sv,BJ]; exact yn) ab
 |true=>
  refine wp_region_any hm ?_
  have im:=GU (anns:=anns) (by simpa using yl)
  have jG:Rel n m0 env H a {w with drawn:=w.drawn+1}:=by
   obtain⟨m,rfl,rfl,aZ,ch,he,gI,dd⟩:=ab
   exact⟨{m with w:=m.w.drew},rfl,rfl,aZ.drew,ch.trans (bH.drew m),fun k=>aK.aC (bH.drew m) _ _ (he k),⟨gI.1,fun E dp k=>aK.aC (bH.drew m) _ _ (gI.2 E dp k)⟩,dd⟩
  have DZ:=C7 (K':=fun env H=> ∃qj,jS qj env∧K qj H) (fun e H hk=>⟨e,fun _=>rfl,hk⟩) _ yn
  refine Iv (K:=fun env H=> ∃qj,jS qj env∧K qj H) sv im yr Lm hp (fun e cd H he ⟨ch,h1,J⟩=>⟨ch,fun k=>(h1 k).trans (he k),J⟩) (fun env H a w ⟨ch,h1,J⟩ ab=>yv ch H a w J (Ft (fun j m v ad=>by rw[h1 j]; exact ad) ab)) nt.size (bb6 nt.size) _ (by simp) bl2 (fun k=> ?_) (by simp) ?_ (by rw[sv,BJ]; exact DZ) jG
  ·simp only[bl5]
   constructor
   ·intro hk
    exact⟨hk,by simp [aU8,hk]⟩
   ·exact fun h=>h.1
  ·intro i o af aE
   have cL:=(Array.getElem?_eq_some_iff.1 af).1
   simp [aU8,cL]at aE
end Go.aX
namespace Go.aX
open Go
def initFrom:Nat→List I→Env
 | _,[]=>[]
 |k,a::az=>(k,a)::initFrom (k+1) az
abbrev kR (args:List I):Env:=initFrom 0 args
theorem Ba: ∀(args:List I) (k j:Nat),(initFrom k args).get j=if k≤j then args.getD (j-k) .ec else .ec
 |[],k,j=>by simp [initFrom,Env.get]
 |a::az,k,j=>by
  simp only[initFrom,Env.get]
  by_cases h:k=j
  ·subst h
   simp
  ·have:(k==j)=false:=by simpa using h
   rw[this,cond_false,Ba az (k+1) j]
   by_cases h1:k+1≤j
   ·have J:k≤j:=by omega
    rw[if_pos h1,if_pos J,show j-k=(j-(k+1))+1 by omega]
    simp
   ·rw[if_neg h1,if_neg (by omega)]
theorem YB {m:Mem}{args:List I}{ak:List Value}{n:Nat}(h:aM m args ak):dF m (kR args) (⟨ak⟩++bc6 n undef):=by
 intro k
 rw[Ba]
 simp only[Nat.zero_le,if_true,Nat.sub_zero]
 by_cases hk:k<args.length
 ·obtain⟨v,aj,aq⟩:=aM.get h k args[k] (aU0 hk)
  have bD:(⟨ak⟩++bc6 n undef:Array Value).getD k undef=v:=by
   have aE:k<ak.length:=by rw[aM.length h]; exact hk
   have sl:ak[k]=v:=by rw[aU0 aE]at aj; simpa using aj
   have:k<(⟨ak⟩:Array Value).size:=aE
   simp only[aU8,Array.getElem?_append,this,if_true]
   simp [aE,sl]
  rw[bD]
  simpa [bg1,hk] using aq
 ·have:args.getD k .ec= .ec:=by simp [bg1,hk]
  rw[this]
  simp only[aK]
theorem GN {P:Program}{f:FuncId}{fn:Func}{args:List I}{e:bu}{aN:List bj}{H:aw}{R:Out→aw→Prop}(hm:P.follows .mixedOrders=true) (aO:P.funcs[f]? =some fn) (ah:b4 P fn args.length e aN=true) (h:ci P aN R [.c e] (kR args) H):iu P f args H R:=by
 intro m ak hH aZ ad
 simp only[b4,aT0]at ah
 obtain⟨⟨bb,ab⟩,hb⟩:=ah
 cases DW:fn.body with
 |none=>rw[DW]at hb; cases hb
 |some c=>
  rw[DW]at hb
  refine calls_of_wp_defers aO DW ?_
  have hlen:=aM.length ad
  have rB:args.length≤fn.ntmps:=aZ3 bb
  have:=RE (fn:=fn) (n:=fn.ntmps) (m0:=m) hm ab h [.c c] {tmps:=⟨ak⟩++bc6 (fn.ntmps-(⟨ak⟩:Array Value).size) undef,defers:=[]} m.w (by simp only[fZ]; exact⟨c,[],rfl,⟨hb,by simp⟩,rfl⟩) ⟨m,rfl,hH,aZ,bH.refl m,YB ad,⟨rfl,by simp⟩,by simp [hlen]; omega⟩
  simp only[post]at this
  refine this
def zS:Out→Out→Prop
 | .ret a,.ret b=>cR a b
 | .dW a,.dW b=>cR a b
 | _,_=>False
theorem cR.refl (a:I):cR a a:=fun _ _ h=>h
theorem iu.mono {P:Program}{f:FuncId}{args:List I}{H:aw}{R nQ:Out→aw→Prop}(h:iu P f args H R) (ab: ∀o av,R o av→∃fq df,zS o fq∧HSub df av∧nQ fq df):iu P f args H nQ:=by
 intro m ak hH aZ ad cs
 obtain⟨e,w',az,⟨o,av,fI,cu,g1,g2,g3,g4⟩,rest⟩:=h m ak hH aZ ad cs
 obtain⟨fq,df,br,bA,cy⟩:=ab o av g4
 refine⟨e,w',az,⟨fq,df,fI,cu,bG.forget bA g1,bH.forget bA g2,?_,cy⟩,rest⟩
 cases o<;>cases fq<;>simp only[zS]at br<;>try exact br.elim
 ·simp only[pU]at g3 ⊢
  obtain⟨v,aj,aq⟩:=g3
  exact⟨v,aj,aK.forget bA _ _ (br _ _ aq)⟩
 ·simp only[pU]at g3 ⊢
  obtain⟨v,aj,aq⟩:=g3
  exact⟨v,aj,aK.forget bA _ _ (br _ _ aq)⟩
theorem iu.pure {P:Program}{f:FuncId}{args:List I}{r:I}(h: ∀H,iu P f args H fun o av=> ∃a,o= .ret a∧cR a r∧HSub H av):Pure P f args r:=fun H=>
 (h H).mono fun o av ⟨a,e,h1,J⟩=>⟨.ret r,H,by subst e; exact h1,J,rfl,rfl⟩
theorem pure_intro {P:Program}{f:FuncId}{fn:Func}{args:List I}{e:bu}{aN:List bj}{r:I}(hm:P.follows .mixedOrders=true) (aO:P.funcs[f]? =some fn) (ah:b4 P fn args.length e aN=true) (h: ∀H,ci P aN (fun o av=> ∃a,o= .ret a∧cR a r∧HSub H av) [.c e] (kR args) H):Pure P f args r:=
 iu.pure fun H=>GN hm aO ah (h H)
end Go.aX
namespace Go.aX
open Go
variable {P:Program}{aN:List bj}{R:Out→aw→Prop}
theorem cR.ec (a:I):cR a .ec:=fun _ _ _=>by simp only[aK]
theorem bh.mV {f args env H l K Rp d}(az:List I) (r:I) (hp:Pure P f az r) (aL:dD (args.map (aH.aC env)) az) (h:bh P l (env.put d r) H K Rp):bh P (⟨d,none,.call f args⟩::l) env H K Rp:=
 bh.uC (.cP r) rfl (.io aL hp) fun _ _=>h
theorem bh.DD {d j t op l env H K Rp}{b:Bool}(hb:env.get j= .bool b) (h:b=t→bh P (⟨d,none,op⟩::l) env H K Rp) (hA:b=(!t)→bh P l (env.put d .undef) H K Rp):bh P (⟨d,some (j,t),op⟩::l) env H K Rp:=by
 by_cases e:b=t
 ·have:=h e
  simp only[bh,wanted]at this ⊢
  rw[hb]
  subst e
  simpa using this
 ·refine bh.skip ?_ (hA (by cases b<;>cases t<;>simp_all))
  simp only[wanted,hb]
  cases b<;>cases t<;>simp_all
theorem pZ:dD [] []:=rfl
theorem fc {a b:I}{az bU:List I}(h:cR a b) (t:dD az bU):dD (a::az) (b::bU):=⟨b,bU,rfl,h,t⟩
theorem dD.refl: ∀(az:List I),dD az az
 |[]=>rfl
 |a::az=>fc (cR.refl a) (dD.refl az)
theorem cR.nil {size:Nat}:cR .bn (.ak size []):=fun m v h=>by
 simp only[aK]at h ⊢
 subst h
 exact⟨none,0,0,rfl,rfl,⟨aT4 _,by unfold maxLen; omega⟩,.inl rfl⟩
theorem xO {az bU:List I}(h:dD az bU):cR (.agg az) (.agg bU):=by
 intro m v ad
 simp only[aK]at ad ⊢
 obtain⟨l,e,aE⟩:=ad
 refine⟨l,e,?_⟩
 clear e
 induction az generalizing bU l with
 |nil=>simp only[dD]at h; subst h; exact aE
 |cons a az b8=>
  simp only[dD]at h
  obtain⟨b,xU,rfl,h1,J⟩:=h
  simp only[aM]at aE ⊢
  obtain⟨x,xs,rfl,g1,g2⟩:=aE
  exact⟨x,xs,rfl,h1 _ _ g1,b8 J _ g2⟩
theorem RS {az bU:List I}(h:dD az bU):cR (.cV az) (.cV bU):=by
 intro m v ad
 simp only[aK]at ad ⊢
 obtain⟨l,e,aE⟩:=ad
 have:=xO h m (.agg ⟨l⟩) (by simp only[aK]; exact⟨l,rfl,aE⟩)
 simp only[aK]at this
 obtain⟨bM,cd,hA⟩:=this
 simp at cd
 subst cd
 exact⟨l,e,hA⟩
theorem ci.congr {k e cd H}(h:jS e cd) (aL:ci P aN R k e H):ci P aN R k cd H:=ci.xw (fun j=>by rw[h j]; exact cR.refl _) aL
theorem Kh {env:Env}{j:Nat}{v:I}(h:env.get j=v):jS ((j,v)::env) env:=fun k=>by
 simp only[Env.get]
 by_cases e:j=k
 ·subst e; simp [h]
 ·have:(j==k)=false:=by simpa using e
  rw[this,cond_false]
theorem bh.DC {d:Option Nat}{j:Nat}{t:Bool}{op:ba}{l:List bC}{env:Env}{H:aw}{k:List Item}{Rp:I→aw→Prop}{b:Bool}(hb:env.get j= .bool b) (h:b=t→bh P (⟨d,none,op⟩::l) ((j,.bool t)::env) H (fun e av=>ci P aN R k e av) Rp) (hA:b=(!t)→bh P l (Env.put ((j,.bool (!t))::env) d .undef) H (fun e av=>ci P aN R k e av) Rp):bh P (⟨d,some (j,t),op⟩::l) env H (fun e av=>ci P aN R k e av) Rp:=by
 refine bh.DD hb (fun e=> ?_) (fun e=> ?_)
 ·subst e
  exact C6 (K:=fun e av=>ci P aN R k e av) (fun _ _ _ he hk=>ci.congr he hk) _ (Kh hb) (h rfl)
 ·subst e
  exact C6 (K:=fun e av=>ci P aN R k e av) (fun _ _ _ he hk=>ci.congr he hk) _ (E0 (Kh hb) _ _) (hA rfl)
theorem ci.UM {c:aH}{a b:bu}{k:List Item}{env:Env}{H:aw}(ah:c.aC env= .bool true) (h:ci P aN R (.c a::k) env H):ci P aN R (.c (.cond c a b)::k) env H:=ci.cond ah (fun _=>h) (fun e=>by cases e)
theorem ci.UL {c:aH}{a b:bu}{k:List Item}{env:Env}{H:aw}(ah:c.aC env= .bool false) (h:ci P aN R (.c b::k) env H):ci P aN R (.c (.cond c a b)::k) env H:=ci.cond ah (fun e=>by cases e) (fun _=>h)
section
variable {d:Nat}{wl:Option Nat}{j:Nat}{t dk:Bool}{op:ba}{l:List bC}{env:Env}{H:aw}{K:Env→aw→Prop}{Rp:I→aw→Prop}{v:I}
theorem bh.p (ad:bL op env H=some v) (h:bh P l ((d,v)::env) H K Rp):bh P (⟨some d,none,op⟩::l) env H K Rp:=bh.nM rfl ad h
end
theorem bh.mJ {d:Nat}{j:Nat}{op:ba}{l:List bC}{env:Env}{H:aw}{k:List Item}{Rp:I→aw→Prop}{b:Bool}(hb:env.get j= .bool b) (h:b=true→bh P (⟨some d,none,op⟩::l) ((j,.bool true)::env) H (fun e av=>ci P aN R k e av) Rp) (hA:b=false→bh P l ((d,.undef)::(j,.bool false)::env) H (fun e av=>ci P aN R k e av) Rp):bh P (⟨some d,some (j,true),op⟩::l) env H (fun e av=>ci P aN R k e av) Rp:=bh.DC hb h hA
theorem bh.mI {d:Nat}{j:Nat}{op:ba}{l:List bC}{env:Env}{H:aw}{k:List Item}{Rp:I→aw→Prop}{b:Bool}(hb:env.get j= .bool b) (h:b=false→bh P (⟨some d,none,op⟩::l) ((j,.bool false)::env) H (fun e av=>ci P aN R k e av) Rp) (hA:b=true→bh P l ((d,.undef)::(j,.bool true)::env) H (fun e av=>ci P aN R k e av) Rp):bh P (⟨some d,some (j,false),op⟩::l) env H (fun e av=>ci P aN R k e av) Rp:=bh.DC hb h hA
theorem G0 {a b:I}(h:a=b):cR a b:=h▸cR.refl a
section
variable {d:Nat}{wl:Option Nat}{j:Nat}{op:ba}{l:List bC}{env:Env}{H:aw}{K:Env→aw→Prop}{Rp:I→aw→Prop}{v:I}{f:FuncId}{args:List aH}{az ha:List I}{r:I}
theorem bh.vy (hp:Pure P f az r) (hm:args.map (aH.aC env)=ha) (aL:dD ha az) (h:bh P l ((d,r)::env) H K Rp):bh P (⟨some d,none,.call f args⟩::l) env H K Rp:=
 bh.mV az r hp (hm▸aL) h
end
theorem wrap64 {n:Int}(aW: -9223372036854775808≤n) (h1:n≤9223372036854775807):IntKind.i64.wrap n=n:=by
 simp only[IntKind.wrap,IntKind.bits,IntKind.signed]
 simp
 omega
variable {P:Program}{aN:List bj}{R:Out→aw→Prop}
theorem yP {α:Type}: ∀ {l:List α}{o:Nat}{v:α},l[o]? =some v→l.set o v=l
 |[],_,_,h=>by simp at h
 |x::l,0,v,h=>by simp at h; simp [h]
 |x::l,o+1,v,h=>by simp at h; simp [yP h]
def lX (H df:aw) (a a2:I):Prop:=∀m:Mem,m.H=H→bG m→∀v,aK m a v→aK ⟨m.w,df,m.L,m.T⟩ a2 v
def qX (H df:aw) (a a2:List I):Prop:=∀m:Mem,m.H=H→bG m→∀v,aM m a v→aM ⟨m.w,df,m.L,m.T⟩ a2 v
theorem lX.le {H df:aw}{a b:I}(a8:HSub df H) (aE:cR a b):lX H df a b:=by
 rintro m rfl aZ v h
 exact aK.forget (w:=m.w) (L:=m.L) (T:=m.T) a8 b v (aE _ _ h)
theorem qX.nil {H df:aw}:qX H df [] []:=fun m _ _ v h=>by simp only[aM]at*; exact h
theorem qX.cons {H df:aw}{a b:I}{az bU:List I}(h:lX H df a b) (t:qX H df az bU):qX H df (a::az) (b::bU):=fun m e r v ad=>by
 simp only[aM]at*
 obtain⟨x,xs,rfl,h1,J⟩:=ad
 exact⟨x,xs,rfl,h m e r _ h1,t m e r _ J⟩
theorem lX.agg {H df:aw}{az bU:List I}(h:qX H df az bU):lX H df (.agg az) (.agg bU):=fun m e r v ad=>by
 simp only[aK]at*
 obtain⟨l,rfl,h1⟩:=ad
 exact⟨l,rfl,h m e r _ h1⟩
theorem lX.cV {H df:aw}{az bU:List I}(h:qX H df az bU):lX H df (.cV az) (.cV bU):=fun m e r v ad=>by
 simp only[aK]at*
 obtain⟨l,rfl,h1⟩:=ad
 exact⟨l,rfl,h m e r _ h1⟩
theorem lX.cz {H df:aw}{t ver T size:Nat}{rows:List (List I)}(a8:HSub df H) (aF:H.tok t=some (.bc T size ver rows)) (lO:df.tok t=none):lX H df (.cz t ver) (.ak size rows):=by
 rintro m rfl aZ v h
 obtain⟨dK,aW,an,ah⟩:=tP aZ aF h
 simp only[aK]
 rcases ah with ⟨rfl,rfl⟩|⟨g,p,cap,cur,rfl,bm,h1,J,aA,bz,bZ⟩
 ·exact⟨none,0,0,rfl,rfl,⟨aT4 _,by unfold maxLen; omega⟩,.inl rfl⟩
 ·obtain⟨br,bA,cy,eR⟩:=aZ.tok t _ aF
  obtain⟨b5,cA⟩:=eR g (by rw[dK]; rfl)
  have cL:g<m.w.heap.size:=(Array.getElem?_eq_some_iff.1 bm).1
  refine⟨some ⟨g,p,none⟩,rows.length,cap,rfl,rfl,⟨h1,J⟩,.inr ⟨g,p,rfl,dy.of an (aM.forget (w:=m.w) (L:=m.L) (T:=m.T) a8 _ _ bz) fun j v bq=>⟨?_,bZ v (aT6 bq),⟨cL,a8.vo b5,fun dk c3 fL gd=> ?_⟩⟩⟩⟩
  ·rw[cell_of_row m.w g (p+j) cur T (0,0) bm]
   have:=bq
   rw[aV6]at this
   split at this
   ·rw[aZ0]at this
    simpa using this
   ·cases this
  ·have:=cA dk c3 (a8.tok dk c3 fL) gd
   subst this
   rw[lO]at fL
   cases fL
def Gv (H df:aw):Out→Out→Prop
 | .ret a,.ret b=>lX H df a b
 | .dW a,.dW b=>lX H df a b
 | _,_=>False
theorem iu.bP {f:FuncId}{args:List I}{H:aw}{R nQ:Out→aw→Prop}(h:iu P f args H R) (ab: ∀o av,R o av→∃fq df,Gv av df o fq∧HSub df av∧nQ fq df):iu P f args H nQ:=by
 intro m ak hH aZ ad cs
 obtain⟨e,w',az,⟨o,av,fI,cu,g1,g2,g3,g4⟩,rest⟩:=h m ak hH aZ ad cs
 obtain⟨fq,df,br,bA,cy⟩:=ab o av g4
 refine⟨e,w',az,⟨fq,df,fI,cu,bG.forget bA g1,bH.forget bA g2,?_,cy⟩,rest⟩
 cases o<;>cases fq<;>simp only[Gv]at br<;>try exact br.elim
 ·simp only[pU]at g3 ⊢
  obtain⟨v,aj,aq⟩:=g3
  exact⟨v,aj,br ⟨w',av,fI,cu⟩ rfl g1 v aq⟩
 ·simp only[pU]at g3 ⊢
  obtain⟨v,aj,aq⟩:=g3
  exact⟨v,aj,br ⟨w',av,fI,cu⟩ rfl g1 v aq⟩
variable {P:Program}{aN:List bj}{R:Out→aw→Prop}
section
variable {H:aw}{b bJ t dk:Nat}{T:TypeId}{c:List I}{o:bB}
theorem We (h:(H.cc b T c).aV bJ=none):bJ≠b∧b≠bJ∧H.aV bJ=none:=by
 simp only[aw.cc]at h
 by_cases e:bJ=b
 ·rw[if_pos e]at h; cases h
 ·rw[if_neg e]at h; exact⟨e,Ne.symm e,h⟩
theorem Wc {G:Prop}(h:(H.cc b T c).aV bJ=none) (k:bJ≠b→b≠bJ→H.aV bJ=none→G):G:=by obtain⟨x,y,z⟩:=We h; exact k x y z
theorem Wd {G:Prop}(h:(H.b7 t o).aV bJ=none) (k:H.aV bJ=none→G):G:=k h
theorem aa4 {x:TypeId×List I}(h:H.aV b=none) (k:H.aV bJ=some x):b≠bJ∧bJ≠b:=by
 have:b≠bJ:=fun e=>by subst e; rw[h]at k; cases k
 exact⟨this,Ne.symm this⟩
theorem aa5 {x:bB}(h:H.tok b=none) (k:H.tok bJ=some x):b≠bJ∧bJ≠b:=by
 have:b≠bJ:=fun e=>by subst e; rw[h]at k; cases k
 exact⟨this,Ne.symm this⟩
theorem FG:(H.cc b T c).aV b=some (T,c):=by simp [aw.cc]
theorem as0 (h:bJ≠b):(H.cc b T c).aV bJ=H.aV bJ:=by simp [aw.cc,h]
theorem as8:(H.b7 t o).tok t=some o:=by simp [aw.b7]
theorem as7 (h:dk≠t):(H.b7 t o).tok dk=H.tok dk:=by simp [aw.b7,h]
theorem DB:(H.cc b T c).aV b=some (T,c):=FG
theorem Wj {x:Option (TypeId×List I)}(h:bJ≠b) (k:H.aV bJ=x):(H.cc b T c).aV bJ=x:=(as0 h).trans k
theorem Wi {x:Option (TypeId×List I)}(k:H.aV bJ=x):(H.b7 t o).aV bJ=x:=k
theorem ax2:(H.b7 t o).tok t=some o:=as8
theorem ax1 {x:Option bB}(h:dk≠t) (k:H.tok dk=x):(H.b7 t o).tok dk=x:=(as7 h).trans k
theorem ax0 {x:Option bB}(k:H.tok dk=x):(H.cc b T c).tok dk=x:=k
theorem as1 {cu:TypeId}{cB:List I}:(H.cc b T c).cc b cu cB=H.cc b cu cB:=by
 simp only[aw.cc,aw.mk.injEq,and_true]
 funext x
 by_cases e:x=b<;>simp [e]
end
theorem ci.forget {k:List Item}{env:Env}{H:aw}(df:aw) (an:HSub df H) (h:ci P aN R k env df):ci P aN R k env H:=
 ci.conv (fun a7 av=>a7=env∧av=df) (fun m e aZ=>by
  subst e
  have aj:bH m ⟨m.w,m.H,m.L,m.T⟩:=bH.refl m
  exact⟨env,df,m.L,m.T,⟨rfl,rfl⟩,bG.forget an aZ,bH.forget an aj,fun j v ad=>aK.forget (w:=m.w) (L:=m.L) (T:=m.T) an _ _ ad⟩) (fun a7 av ⟨aj,aq⟩=>by subst aj; subst aq; exact h)
section
variable {d:Nat}{wl:Option Nat}{l:List bC}{env:Env}{H:aw}{K:Env→aw→Prop}{Rp:I→aw→Prop}{x a v:aH}{cs new cn:List I}{b o n:Nat}{T:TypeId}{r dQ:I}
theorem bh.Sm (U:x.aC env= .agg cs) (af:cs.all I.one=true) (h: ∀b,H.aV b=none→bh P l ((d,.ptr b 0)::env) (H.cc b T cs) K Rp):bh P (⟨some d,none,.box T x⟩::l) env H K Rp:=
 bh.uC (.iF T (x.aC env).cells) rfl (.box (by rw[U]; exact af)) fun b hb=>by
  have:=h b hb
  simp only[D.val,D.heap,U,I.cells]
  exact this
theorem bh.al (af:cs.all I.one=true) (h: ∀b,H.aV b=none→bh P l ((d,.ptr b 0)::env) (H.cc b T cs) K Rp):bh P (⟨some d,none,.alloc T cs⟩::l) env H K Rp:=
 bh.uC (.iF T cs) rfl (.alloc af) fun b hb=>h b hb
theorem take_one {α:Type}{l:List α}{o:Nat}{r:α}(h:l[o]? =some r):(l.drop o).take 1=[r]:=by
 obtain⟨aE,e⟩:=List.getElem?_eq_some_iff.1 h
 rw[List.drop_eq_getElem_cons aE,e]
 rfl
theorem bh.ld1 (U:x.aC env= .ptr b o) (hb:H.aV b=some (T,cs)) (bm:cs[o]? =some r) (h:bh P l ((d,r)::env) H K Rp):bh P (⟨some d,none,.load false 1 x⟩::l) env H K Rp:=by
 refine bh.p (v:=r) ?_ h
 have aE:=(List.getElem?_eq_some_iff.1 bm).1
 simp only[bL,U,hb]
 rw[if_pos (by omega)]
 rw[take_one bm]
 rfl
theorem bh.ZF (U:x.aC env= .ptr b o) (hb:H.aV b=some (T,cs)) (aE:o+n≤cs.length) (bm:(cs.drop o).take n=new) (h:bh P l ((d,.agg new)::env) H K Rp):bh P (⟨some d,none,.load true n x⟩::l) env H K Rp:=by
 refine bh.p (v:= .agg new) ?_ h
 simp only[bL,U,hb]
 rw[if_pos aE,bm]
 rfl
theorem bh.ZH (U:x.aC env= .dL cs o) (bm:cs[o]? =some r) (h:bh P l ((d,r)::env) H K Rp):bh P (⟨some d,none,.load false 1 x⟩::l) env H K Rp:=by
 refine bh.p (v:=r) ?_ h
 have aE:=(List.getElem?_eq_some_iff.1 bm).1
 simp only[bL,U]
 rw[if_pos (by omega)]
 rw[take_one bm]
 rfl
theorem bh.ZI (U:x.aC env= .dL cs o) (aE:o+n≤cs.length) (bm:(cs.drop o).take n=new) (h:bh P l ((d,.agg new)::env) H K Rp):bh P (⟨some d,none,.load true n x⟩::l) env H K Rp:=by
 refine bh.p (v:= .agg new) ?_ h
 simp only[bL,U]
 rw[if_pos aE,bm]
 rfl
inductive qZ (H:aw):I→List I→Nat→Prop
 |p {b o:Nat}{T:TypeId}{cs:List I}(h:H.aV b=some (T,cs)):qZ H (.ptr b o) cs o
 |r {cs:List I}{o:Nat}:qZ H (.dL cs o) cs o
theorem bh.ZJ (U:x.aC env=dQ) (hb:qZ H dQ cs o) (bm:cs[o]? =some r) (h:bh P l ((d,r)::env) H K Rp):bh P (⟨some d,none,.load false 1 x⟩::l) env H K Rp:=by
 cases hb with
 |p hb=>exact bh.ld1 U hb bm h
 |r=>exact bh.ZH U bm h
theorem bh.ZK (U:x.aC env=dQ) (hb:qZ H dQ cs o) (aE:o+n≤cs.length) (bm:(cs.drop o).take n=new) (h:bh P l ((d,.agg new)::env) H K Rp):bh P (⟨some d,none,.load true n x⟩::l) env H K Rp:=by
 cases hb with
 |p hb=>exact bh.ZF U hb aE bm h
 |r=>exact bh.ZI U aE bm h
theorem bh.av2 (aL:a.aC env= .ptr b o) (hb:H.aV b=some (T,cs)) (ad:(v.aC env).cells=new) (bb:new.length=n) (aE:o+n≤cs.length) (af:new.all I.one=true) (an:fs cs o new=cn){av:aw}(hH:H.cc b T cn=av) (h:bh P l env av K Rp):bh P (⟨none,none,.store n a v⟩::l) env H K Rp:=by
 simp only[bh,wanted]
 subst hH
 exact gH.store aL hb (by rw[ad]; exact bb) aE (by rw[ad]; exact af) (by rw[ad,an]; exact h)
theorem bh.YG {size len:Nat}{i:aH}{k:IntKind}{z:Int}(U:x.aC env= .ptr b o) (ae:i.aC env= .int k z) (aW:0≤z) (h1:z<(len:Int)) (hp:o+z.toNat*size=n) (h:bh P l ((d,.ptr b n)::env) H K Rp):bh P (⟨some d,none,.me len size x i⟩::l) env H K Rp:=
 bh.uC (.cP (.ptr b (o+z.toNat*size))) rfl (.mP U ae aW h1) fun _ _=>hp▸h
theorem bh.Sk {size:Nat}{zero:List I}{parts:List (Nat×aH)}{rows:List (List I)}(ab:jB env parts=rows) (an:rows.all (fun r=>r.length==size)=true) (af:rows.flatten.all I.one=true) (h:bh P l ((d,.ak size rows)::env) H K Rp):bh P (⟨some d,none,.eu T size n zero parts⟩::l) env H K Rp:=
 bh.uC (.cP _) rfl (.nS ab an af) fun _ _=>h
section
variable {t ver size k:Nat}{rows:List (List I)}{row:List I}{pW:TypeId}
theorem bh.yS (U:x.aC env= .cz t ver) (aF:H.tok t=some (.bc pW size ver rows)) (h:bh P l ((d,.int .i64 rows.length)::env) H K Rp):bh P (⟨some d,none,.hV x⟩::l) env H K Rp:=
 bh.uC (.cP _) rfl (.hV U aF) fun _ _=>h
theorem bh.V1 {off:Nat}(U:x.aC env= .mp t ver k) (aF:H.tok t=some (.bc pW size ver rows)) (h:bh P l ((d,.mp t ver (k+off))::env) H K Rp):bh P (⟨some d,none,.iB off x⟩::l) env H K Rp:=
 bh.uC (.cP _) rfl (.iB U aF) fun _ _=>h
end
theorem ao3 {cw fU:Nat}(U:env.get cw= .ptr b 0) (hb:H.aV b=some (T,cs)) (aE:fU=cs.length):aX.results [.cell true fU cw] env H=some (.agg cs):=by
 subst aE
 simp [aX.results,bj.aC,bL,aH.aC,U,hb,I.hJ]
theorem ao4 {cw fU aU:Nat}(U:env.get cw= .ptr b 0) (hb:H.aV b=some (T,cs)) (aE:fU=cs.length) (hm:env.get aU=r):aX.results [.cell true fU cw,.t aU] env H=some (.cV [.agg cs,r]):=by
 subst aE
 subst hm
 simp [aX.results,bj.aC,bL,aH.aC,U,hb,I.hJ]
theorem ao8 {cw aU:Nat}{q:I}(U:env.get cw=q) (hm:env.get aU=r):aX.results [.t cw,.t aU] env H=some (.cV [q,r]):=by
 subst hm
 subst U
 simp [aX.results,bj.aC]
theorem ao9 {cw aU cB:Nat}{q kY:I}(U:env.get cw=q) (hm:env.get aU=r) (ah:env.get cB=kY):aX.results [.t cw,.t aU,.t cB] env H=some (.cV [q,r,kY]):=by
 subst hm
 subst U
 subst ah
 simp [aX.results,bj.aC]
theorem ao7 {cw:Nat}(U:env.get cw=r):aX.results [.t cw] env H=some r:=by
 subst U
 simp [aX.results,bj.aC]
theorem ao5:aX.results [] env H=some (.cV []):=by simp [aX.results]
theorem ci.ap0 {aN:List bj}{k:List Item}{H0:aw}{q dQ:I}(ad:aX.results aN env H=some q) (h:cR q dQ) (an:HSub H0 H):ci P aN (fun o av=> ∃a,o= .ret a∧cR a dQ∧HSub H0 av) (.c .ret::k) env H:=
 ci.ret ad ⟨_,rfl,h,an⟩
theorem ci.Vx {aN:List bj}{H0:aw}{q dQ:I}(ad:aX.results aN env H=some q) (h:cR q dQ) (an:HSub H0 H):ci P aN (fun o av=> ∃a,o= .ret a∧cR a dQ∧HSub H0 av) [] env H:=
 ci.done ad ⟨_,rfl,h,an⟩
def zV (S:I→aw→Prop) (o:Out) (H:aw):Prop:=∃r,o= .ret r∧S r H
theorem ci.ap1 {aN:List bj}{k:List Item}{S:I→aw→Prop}{q:I}(ad:aX.results aN env H=some q) (h:S q H):ci P aN (zV S) (.c .ret::k) env H:=
 ci.ret ad ⟨_,rfl,h⟩
theorem ci.Vy {aN:List bj}{S:I→aw→Prop}{q:I}(ad:aX.results aN env H=some q) (h:S q H):ci P aN (zV S) [] env H:=
 ci.done ad ⟨_,rfl,h⟩
end
theorem Cp: ∀(l:List bC),eB l []=l
 |[]=>rfl
 |⟨d,g,op⟩::l=>by cases op<;>simp only[eB,Cp l]
inductive e3:Prop→Prop→Prop
 |au8 {P:Program}{aN:List bj}{R:Out→aw→Prop}{k:List Item}{env:Env}{H:aw}{a b:bu}:e3 (ci P aN R (.c a:: .c b::k) env H) (ci P aN R (.c (.seq a b)::k) env H)
 |jX {P:Program}{aN:List bj}{R:Out→aw→Prop}{k:List Item}{env:Env}{H:aw}{id:Nat}{body:bu}:e3 (ci P aN R (.c body:: .aV id::k) env H) (ci P aN R (.c (.block id body)::k) env H)
 |gj {P:Program}{aN:List bj}{R:Out→aw→Prop}{k:List Item}{env:Env}{H:aw}:e3 (ci P aN R k env H) (ci P aN R (.c .skip::k) env H)
 |R5 {P:Program}{aN:List bj}{R:Out→aw→Prop}{k:List Item}{env:Env}{H:aw}{id:Nat}:e3 (ci P aN R k env H) (ci P aN R (.aV id::k) env H)
 |ex {P:Program}{aN:List bj}{R:Out→aw→Prop}{k:List Item}{eX:List Item}{env:Env}{H:aw}{id:Nat}(hk:oW id k=some eX):e3 (ci P aN R eX env H) (ci P aN R (.c (.exit id)::k) env H)
 |rg {P:Program}{aN:List bj}{R:Out→aw→Prop}{k:List Item}{env:Env}{H:aw}{l:List bC}:e3 (bh P l env H (fun a7 av=>ci P aN R k a7 av) (fun v av=>R (.dW v) av)) (ci P aN R (.c (.region l false)::k) env H)
 |wZ {P:Program}{aN:List bj}{R:Out→aw→Prop}{k:List Item}{env:Env}{H:aw}{Rp:I→aw→Prop}:e3 (ci P aN R k env H) (bh P [] env H (fun a7 av=>ci P aN R k a7 av) Rp)
 |aR {P:Program}{env:Env}{H:aw}{K:Env→aw→Prop}{Rp:I→aw→Prop}{l:List bC}{d:Nat}{x:aH}{cs:List I}{o:Nat}{r:I}{dQ:I}(U:x.aC env=dQ) (hb:qZ H dQ cs o) (bm:cs[o]? =some r):e3 (bh P l ((d,r)::env) H K Rp) (bh P (⟨some d,none,.load false 1 x⟩::l) env H K Rp)
 |Zx {P:Program}{env:Env}{H:aw}{K:Env→aw→Prop}{Rp:I→aw→Prop}{l:List bC}{d:Nat}{x:aH}{cs:List I}{new:List I}{o:Nat}{n:Nat}{dQ:I}(U:x.aC env=dQ) (hb:qZ H dQ cs o) (aE:o+n≤cs.length) (bm:(cs.drop o).take n=new):e3 (bh P l ((d,.agg new)::env) H K Rp) (bh P (⟨some d,none,.load true n x⟩::l) env H K Rp)
 |RX {P:Program}{env:Env}{H:aw}{K:Env→aw→Prop}{Rp:I→aw→Prop}{l:List bC}{d:Nat}{x:aH}{cs:List I}{T:TypeId}(U:x.aC env= .agg cs) (af:cs.all I.one=true):e3 (∀b,H.aV b=none→bh P l ((d,.ptr b 0)::env) (H.cc b T cs) K Rp) (bh P (⟨some d,none,.box T x⟩::l) env H K Rp)
 |al {P:Program}{env:Env}{H:aw}{K:Env→aw→Prop}{Rp:I→aw→Prop}{l:List bC}{d:Nat}{cs:List I}{T:TypeId}(af:cs.all I.one=true):e3 (∀b,H.aV b=none→bh P l ((d,.ptr b 0)::env) (H.cc b T cs) K Rp) (bh P (⟨some d,none,.alloc T cs⟩::l) env H K Rp)
 |Qk {P:Program}{env:Env}{H:aw}{av:aw}{K:Env→aw→Prop}{Rp:I→aw→Prop}{l:List bC}{a:aH}{v:aH}{cs:List I}{new:List I}{cn:List I}{b:Nat}{o:Nat}{n:Nat}{T:TypeId}(aL:a.aC env= .ptr b o) (hb:H.aV b=some (T,cs)) (ad:(v.aC env).cells=new) (bb:new.length=n) (aE:o+n≤cs.length) (af:new.all I.one=true) (an:fs cs o new=cn) (hH:H.cc b T cn=av):e3 (bh P l env av K Rp) (bh P (⟨none,none,.store n a v⟩::l) env H K Rp)
 |Yu {P:Program}{env:Env}{H:aw}{K:Env→aw→Prop}{Rp:I→aw→Prop}{l:List bC}{d:Nat}{x:aH}{i:aH}{b:Nat}{o:Nat}{n:Nat}{size len:Nat}{kU:IntKind}{z:Int}(U:x.aC env= .ptr b o) (ae:i.aC env= .int kU z) (aW:0≤z) (h1:z<(len:Int)) (hp:o+z.toNat*size=n):e3 (bh P l ((d,.ptr b n)::env) H K Rp) (bh P (⟨some d,none,.me len size x i⟩::l) env H K Rp)
 |Zy {P:Program}{env:Env}{H:aw}{K:Env→aw→Prop}{Rp:I→aw→Prop}{l:List bC}{d:Nat}{x:aH}{t ver size:Nat}{rows:List (List I)}{pW:TypeId}(U:x.aC env= .cz t ver) (aF:H.tok t=some (.bc pW size ver rows)):e3 (bh P l ((d,.int .i64 rows.length)::env) H K Rp) (bh P (⟨some d,none,.hV x⟩::l) env H K Rp)
 |V0 {P:Program}{env:Env}{H:aw}{K:Env→aw→Prop}{Rp:I→aw→Prop}{l:List bC}{d:Nat}{x:aH}{t ver size kU off:Nat}{rows:List (List I)}{pW:TypeId}(U:x.aC env= .mp t ver kU) (aF:H.tok t=some (.bc pW size ver rows)):e3 (bh P l ((d,.mp t ver (kU+off))::env) H K Rp) (bh P (⟨some d,none,.iB off x⟩::l) env H K Rp)
 |bU {P:Program}{env:Env}{H:aw}{K:Env→aw→Prop}{Rp:I→aw→Prop}{l:List bC}{d:Nat}{n:Nat}{T:TypeId}{size:Nat}{zero:List I}{parts:List (Nat×aH)}{rows:List (List I)}(ab:jB env parts=rows) (an:rows.all (fun r=>r.length==size)=true) (af:rows.flatten.all I.one=true):e3 (bh P l ((d,.ak size rows)::env) H K Rp) (bh P (⟨some d,none,.eu T size n zero parts⟩::l) env H K Rp)
 |nM {P:Program}{env:Env}{H:aw}{K:Env→aw→Prop}{Rp:I→aw→Prop}{l:List bC}{d:Nat}{r:I}{op:ba}(ad:bL op env H=some r):e3 (bh P l ((d,r)::env) H K Rp) (bh P (⟨some d,none,op⟩::l) env H K Rp)
theorem e3.go {N G:Prop}(h:e3 N G) (bb:N):G:=by
 cases h with
 |au8=>exact ci.seq bb
 |jX=>exact ci.block bb
 |gj=>exact ci.skip bb
 |R5=>exact ci.xT bb
 |ex hk=>exact ci.exit hk bb
 |rg=>exact ci.kG [] (by rw[Cp]; exact bb)
 |wZ=>exact bh.nil bb
 |aR U hb bm=>exact bh.ZJ U hb bm bb
 |Zx U hb aE bm=>exact bh.ZK U hb aE bm bb
 |RX U af=>exact bh.Sm U af bb
 |al af=>exact bh.al af bb
 |Qk aL hb ad rB aE af an hH=>exact bh.av2 aL hb ad rB aE af an hH bb
 |Yu U ae aW h1 hp=>exact bh.YG U ae aW h1 hp bb
 |Zy U aF=>exact bh.yS U aF bb
 |V0 U aF=>exact bh.V1 U aF bb
 |bU ab an af=>exact bh.Sk ab an af bb
 |nM ad=>exact bh.p ad bb
inductive lZ:Prop→Prop→Prop
 |a {P:Program}{aN:List bj}{k:List Item}{env:Env}{H:aw}{dQ:I}{q:I}{H0:aw}(ad:aX.results aN env H=some q) (an:HSub H0 H):lZ (cR q dQ) (ci P aN (fun o av=> ∃a,o= .ret a∧cR a dQ∧HSub H0 av) (.c .ret::k) env H)
 |b {P:Program}{aN:List bj}{env:Env}{H:aw}{dQ:I}{q:I}{H0:aw}(ad:aX.results aN env H=some q) (an:HSub H0 H):lZ (cR q dQ) (ci P aN (fun o av=> ∃a,o= .ret a∧cR a dQ∧HSub H0 av) [] env H)
 |s {P:Program}{aN:List bj}{k:List Item}{env:Env}{H:aw}{q:I}{S:I→aw→Prop}(ad:aX.results aN env H=some q):lZ (S q H) (ci P aN (zV S) (.c .ret::k) env H)
 |t {P:Program}{aN:List bj}{env:Env}{H:aw}{q:I}{S:I→aw→Prop}(ad:aX.results aN env H=some q):lZ (S q H) (ci P aN (zV S) [] env H)
theorem lZ.go {N G:Prop}(h:lZ N G) (bb:N):G:=by
 cases h with
 |a ad an=>exact ci.ap0 ad bb an
 |b ad an=>exact ci.Vx ad bb an
 |s ad=>exact ci.ap1 ad bb
 |t ad=>exact ci.Vy ad bb
inductive jT:Prop→Prop
 |RY {H:aw}{b:Nat}{T:TypeId}{c:List I}:jT ((H.cc b T c).aV b=some (T,c))
 |Z9 {H:aw}{b:Nat}{bJ:Nat}{T:TypeId}{c:List I}{y:Option (TypeId×List I)}(h:bJ≠b) (k:H.aV bJ=y):jT ((H.cc b T c).aV bJ=y)
 |aw8 {H:aw}{bJ:Nat}{t:Nat}{o:bB}{y:Option (TypeId×List I)}(k:H.aV bJ=y):jT ((H.b7 t o).aV bJ=y)
 |G3 {H:aw}{t:Nat}{o:bB}:jT ((H.b7 t o).tok t=some o)
 |aa0 {H:aw}{t dk:Nat}{o:bB}{y:Option bB}(h:dk≠t) (k:H.tok dk=y):jT ((H.b7 t o).tok dk=y)
 |aw9 {H:aw}{b:Nat}{T:TypeId}{t:Nat}{c:List I}{y:Option bB}(k:H.tok t=y):jT ((H.cc b T c).tok t=y)
 |rd {H:aw}{cs:List I}{o:Nat}:jT (qZ H (.dL cs o) cs o)
 |dL {H:aw}{cs:List I}{b:Nat}{o:Nat}{T:TypeId}(h:H.aV b=some (T,cs)):jT (qZ H (.ptr b o) cs o)
 |ab {H:aw}:jT (HSub H H)
 |eh {H:aw}{av:aw}{b:Nat}{T:TypeId}{c:List I}(h:HSub H av) (hb:H.aV b=none):jT (HSub H (av.cc b T c))
 |dj {H:aw}{av:aw}{t:Nat}{o:bB}(h:HSub H av) (hb:H.tok t=none):jT (HSub H (av.b7 t o))
 |jN {env:Env}{H:aw}:jT (aX.results [] env H=some (.cV []))
 |b5 {env:Env}{H:aw}{r:I}{cw:Nat}(U:env.get cw=r):jT (aX.results [.t cw] env H=some r)
 |cA {env:Env}{H:aw}{cs:List I}{b:Nat}{T:TypeId}{cw fU:Nat}(U:env.get cw= .ptr b 0) (hb:H.aV b=some (T,cs)) (aE:fU=cs.length):jT (aX.results [.cell true fU cw] env H=some (.agg cs))
 |dh {env:Env}{H:aw}{cs:List I}{b:Nat}{T:TypeId}{r:I}{cw fU aU:Nat}(U:env.get cw= .ptr b 0) (hb:H.aV b=some (T,cs)) (aE:fU=cs.length) (hm:env.get aU=r):jT (aX.results [.cell true fU cw,.t aU] env H=some (.cV [.agg cs,r]))
 |fC {env:Env}{H:aw}{r:I}{q:I}{cw aU:Nat}(U:env.get cw=q) (hm:env.get aU=r):jT (aX.results [.t cw,.t aU] env H=some (.cV [q,r]))
 |lS {env:Env}{H:aw}{r:I}{dQ:I}{q:I}{cw aU cB:Nat}(U:env.get cw=q) (hm:env.get aU=r) (ah:env.get cB=dQ):jT (aX.results [.t cw,.t aU,.t cB] env H=some (.cV [q,r,dQ]))
theorem jT.go {G:Prop}(h:jT G):G:=by
 cases h with
 |RY=>exact DB
 |Z9 h k=>exact Wj h k
 |aw8 k=>exact Wi k
 |G3=>exact ax2
 |aa0 h k=>exact ax1 h k
 |aw9 k=>exact ax0 k
 |rd=>exact qZ.r
 |dL h=>exact qZ.p h
 |ab=>exact HSub.refl _
 |eh h hb=>exact HSub.cc h hb
 |dj h hb=>exact HSub.b7 h hb
 |jN=>exact ao5
 |b5 U=>exact ao7 U
 |cA U hb aE=>exact ao3 U hb aE
 |dh U hb aE hm=>exact ao4 U hb aE hm
 |fC U hm=>exact ao8 U hm
 |lS U hm ah=>exact ao9 U hm ah
theorem rt {P:Program}{aN:List bj}{R:Out→aw→Prop}{k:List Item}{env:Env}{H:aw}{l:List bC}(h:bh P l env H (fun a7 av=>ci P aN R k a7 av) (fun v av=>R (.dW v) av)):ci P aN R (.c (.region l true)::k) env H:=ci.kG [] (by rw[Cp]; exact h)
theorem xl {H:aw}{b:Nat}{T:TypeId}{cu:TypeId}{c cB:List I}:(H.cc b T c).cc b cu cB=H.cc b cu cB:=as1
theorem mH {H:aw}{b:Nat}{bJ:Nat}{T:TypeId}{G:Prop}{c:List I}(h:(H.cc b T c).aV bJ=none) (k:bJ≠b→b≠bJ→H.aV bJ=none→G):G:=Wc h k
theorem mG {H:aw}{bJ:Nat}{G:Prop}{t:Nat}{o:bB}(h:(H.b7 t o).aV bJ=none) (k:H.aV bJ=none→G):G:=Wd h k
theorem bN {H:aw}{b:Nat}{bJ:Nat}{y:TypeId×List I}(h:H.aV b=none) (k:H.aV bJ=some y):bJ≠b:=(aa4 h k).2
theorem bf {H:aw}{t dk:Nat}{y:bB}(h:H.tok t=none) (k:H.tok dk=some y):dk≠t:=(aa5 h k).2
theorem l7 {P:Program}{env:Env}{H:aw}{K:Env→aw→Prop}{Rp:I→aw→Prop}{l:List bC}{wl:Option Nat}{g:Nat×Bool}{op:ba}(hw:wanted ⟨wl,some g,op⟩ env=some true) (h:bh P (⟨wl,none,op⟩::l) env H K Rp):bh P (⟨wl,some g,op⟩::l) env H K Rp:=by
 simp only[bh]at h ⊢
 rw[hw]
 exact h
theorem gR {P:Program}{env:Env}{H:aw}{K:Env→aw→Prop}{Rp:I→aw→Prop}{l:List bC}{d:Nat}{g:Nat×Bool}{op:ba}(hw:wanted ⟨some d,some g,op⟩ env=some false) (h:bh P l ((d,.undef)::env) H K Rp):bh P (⟨some d,some g,op⟩::l) env H K Rp:=bh.skip hw h
theorem lI {P:Program}{aN:List bj}{R:Out→aw→Prop}{k:List Item}{env:Env}{H:aw}{c:aH}{a b:bu}(ah:c.aC env= .bool true) (h:ci P aN R (.c a::k) env H):ci P aN R (.c (.cond c a b)::k) env H:=ci.UM ah h
theorem lH {P:Program}{aN:List bj}{R:Out→aw→Prop}{k:List Item}{env:Env}{H:aw}{c:aH}{a b:bu}(ah:c.aC env= .bool false) (h:ci P aN R (.c b::k) env H):ci P aN R (.c (.cond c a b)::k) env H:=ci.UL ah h
end Go.aX
namespace Go.aX
theorem e3.g {N G:Prop}(bb:N) (h:e3 N G:=by constructor<;>first|exact xl|(change _= _; first|(simp only[go_sem,bd1,bd2,Nat.reduceLeDiff,reduceIte]<;>rfl)|rfl)|exact aZ3 rfl|decide|((repeat' first|(apply jT.go; constructor)|assumption|exact bN ‹_› ‹_› |exact bf ‹_› ‹_›); done)):G:=e3.go h bb
theorem lZ.g {N G:Prop}(bb:N) (h:lZ N G:=by constructor<;>first|(apply jT.go; constructor<;>first|exact xl|(change _= _; first|(simp only[go_sem,bd1,bd2,Nat.reduceLeDiff,reduceIte]<;>rfl)|rfl)|exact aZ3 rfl|decide|((repeat' first|(apply jT.go; constructor)|assumption|exact bN ‹_› ‹_› |exact bf ‹_› ‹_›); done))|assumption):G:=lZ.go h bb
end Go.aX
namespace Go.aX
open Go
structure bl where
 b:List Nat
 t:List Nat
structure bl.dU (s bF:bl):Prop where
 b: ∀(i x:Nat),s.b[i]? =some x→bF.b[i]? =some x
 t: ∀(i x:Nat),s.t[i]? =some x→bF.t[i]? =some x
theorem bl.dU.refl (s:bl):bl.dU s s:=⟨fun _ _ h=>h,fun _ _ h=>h⟩
theorem bl.dU.trans {a b c:bl}(h:bl.dU a b) (k:bl.dU b c):bl.dU a c:=⟨fun i x e=>k.b i x (h.b i x e),fun i x e=>k.t i x (h.t i x e)⟩
mutual
def aI (s:bl):I→I→Prop
 | .ec,_=>True
 | .ptr b o,a=> ∃x,s.b[b]? =some x∧a= .ptr x o
 | .agg cs,a=> ∃l,a= .agg l∧bd s cs l
 | .cV cs,a=> ∃l,a= .cV l∧bd s cs l
 | .ak n rows,a=> ∃l,a= .ak n l∧bV s rows l
 | .own t n rows,a=> ∃x l,s.t[t]? =some x∧a= .own x n l∧bV s rows l
 | .cz t ver,a=> ∃x,s.t[t]? =some x∧a= .cz x ver
 | .mp t ver k,a=> ∃x,s.t[t]? =some x∧a= .mp x ver k
 | .dL row off,a=> ∃l,a= .dL l off∧bd s row l
 | .fn f cap,a=> ∃l,a= .fn f l∧bd s cap l
 | .gJ t v,a=> ∃x,a= .gJ t x∧aI s v x
 | .bool b,a=>a= .bool b
 | .int k n,a=>a= .int k n
 | .str x,a=>a= .str x
 | .dI v,a=>a= .dI v
def bd (s:bl):List I→List I→Prop
 |[],l=>l=[]
 |a::az,l=> ∃v ak,l=v::ak∧aI s a v∧bd s az ak
def bV (s:bl):List (List I)→List (List I)→Prop
 |[],l=>l=[]
 |r::aN,l=> ∃v ak,l=v::ak∧bd s r v∧bV s aN ak
end
mutual
theorem aI.mono {s bF:bl}(e:bl.dU s bF): ∀(a v:I),aI s a v→aI bF a v
 | .ec,_,_=>by simp only[aI]
 | .ptr b o,_,h=>by simp only[aI]at*; obtain⟨x,h1,J⟩:=h; exact⟨x,e.b _ _ h1,J⟩
 | .agg cs,_,h=>by simp only[aI]at*; obtain⟨l,h1,J⟩:=h; exact⟨l,h1,bd.mono e cs l J⟩
 | .cV cs,_,h=>by simp only[aI]at*; obtain⟨l,h1,J⟩:=h; exact⟨l,h1,bd.mono e cs l J⟩
 | .ak n rows,_,h=>by simp only[aI]at*; obtain⟨l,h1,J⟩:=h; exact⟨l,h1,bV.mono e rows l J⟩
 | .own t n rows,_,h=>by simp only[aI]at*; obtain⟨x,l,h1,J,aA⟩:=h; exact⟨x,l,e.t _ _ h1,J,bV.mono e rows l aA⟩
 | .cz t ver,_,h=>by simp only[aI]at*; obtain⟨x,h1,J⟩:=h; exact⟨x,e.t _ _ h1,J⟩
 | .mp t ver k,_,h=>by simp only[aI]at*; obtain⟨x,h1,J⟩:=h; exact⟨x,e.t _ _ h1,J⟩
 | .dL row off,_,h=>by simp only[aI]at*; obtain⟨l,h1,J⟩:=h; exact⟨l,h1,bd.mono e row l J⟩
 | .fn f cap,_,h=>by simp only[aI]at*; obtain⟨l,h1,J⟩:=h; exact⟨l,h1,bd.mono e cap l J⟩
 | .gJ t v,_,h=>by simp only[aI]at*; obtain⟨x,h1,J⟩:=h; exact⟨x,h1,aI.mono e v x J⟩
 | .bool _,_,h=>by simp only[aI]at*; exact h
 | .int _ _,_,h=>by simp only[aI]at*; exact h
 | .str _,_,h=>by simp only[aI]at*; exact h
 | .dI _,_,h=>by simp only[aI]at*; exact h
theorem bd.mono {s bF:bl}(e:bl.dU s bF): ∀(az l:List I),bd s az l→bd bF az l
 |[],_,h=>by simp only[bd]at*; exact h
 |a::az,_,h=>by simp only[bd]at*; obtain⟨v,ak,h1,J,aA⟩:=h; exact⟨v,ak,h1,aI.mono e a v J,bd.mono e az ak aA⟩
theorem bV.mono {s bF:bl}(e:bl.dU s bF): ∀(az l:List (List I)),bV s az l→bV bF az l
 |[],_,h=>by simp only[bV]at*; exact h
 |r::aN,_,h=>by simp only[bV]at*; obtain⟨v,ak,h1,J,aA⟩:=h; exact⟨v,ak,h1,bd.mono e r v J,bV.mono e aN ak aA⟩
end
section
variable {s:bl}
theorem bd.length: ∀ {az l:List I},bd s az l→l.length=az.length
 |[],_,h=>by simp only[bd]at h; subst h; rfl
 |a::az,_,h=>by simp only[bd]at h; obtain⟨v,ak,rfl,_,J⟩:=h; simp [bd.length J]
theorem bd.get: ∀ {az l:List I}(_:bd s az l) (i:Nat) (a:I),az[i]? =some a→∃v,l[i]? =some v∧aI s a v
 |[],_,_,_,_,h=>by simp at h
 |a::az,_,h,0,x,U=>by simp only[bd]at h; obtain⟨v,ak,rfl,h1,J⟩:=h; simp at U; subst U; exact⟨v,rfl,h1⟩
 |a::az,_,h,i+1,x,U=>by simp only[bd]at h; obtain⟨v,ak,rfl,h1,J⟩:=h; simp at U; obtain⟨bp,aj,aq⟩:=bd.get J i x U; exact⟨bp,by simpa using aj,aq⟩
theorem bd.append: ∀ {az l bU bM:List I}(_:bd s az l) (_:bd s bU bM),bd s (az++bU) (l++bM)
 |[],_,_,_,h,k=>by simp only[bd]at h; subst h; simpa using k
 |a::az,_,_,_,h,k=>by simp only[bd]at h; obtain⟨v,ak,rfl,h1,J⟩:=h; simp only[aU4,bd]; exact⟨v,_,rfl,h1,bd.append J k⟩
theorem bd.drop: ∀(n:Nat){az l:List I}(_:bd s az l),bd s (az.drop n) (l.drop n)
 |0,_,_,h=>by simpa using h
 |n+1,[],_,h=>by simp only[bd]at h; subst h; simp [bd]
 |n+1,a::az,_,h=>by simp only[bd]at h; obtain⟨v,ak,rfl,h1,J⟩:=h; simpa using bd.drop n J
theorem bd.take: ∀(n:Nat){az l:List I}(_:bd s az l),bd s (az.take n) (l.take n)
 |0,_,_,_=>by simp [bd]
 |n+1,[],_,h=>by simp only[bd]at h; subst h; simp [bd]
 |n+1,a::az,_,h=>by simp only[bd]at h; obtain⟨v,ak,rfl,h1,J⟩:=h; simp only[aY1,bd]; exact⟨v,_,rfl,h1,bd.take n J⟩
theorem bd.fs {az l new Bk:List I}(h:bd s az l) (k:bd s new Bk) (o:Nat):bd s (fs az o new) (fs l o Bk):=by
 unfold aX.fs
 rw[bd.length k]
 exact ((h.take o).append k).append (h.drop _)
theorem bV.length: ∀ {az l:List (List I)},bV s az l→l.length=az.length
 |[],_,h=>by simp only[bV]at h; subst h; rfl
 |a::az,_,h=>by simp only[bV]at h; obtain⟨v,ak,rfl,_,J⟩:=h; simp [bV.length J]
theorem bV.get: ∀ {az l:List (List I)}(_:bV s az l) (i:Nat) (a:List I),az[i]? =some a→∃v,l[i]? =some v∧bd s a v
 |[],_,_,_,_,h=>by simp at h
 |a::az,_,h,0,x,U=>by simp only[bV]at h; obtain⟨v,ak,rfl,h1,J⟩:=h; simp at U; subst U; exact⟨v,rfl,h1⟩
 |a::az,_,h,i+1,x,U=>by simp only[bV]at h; obtain⟨v,ak,rfl,h1,J⟩:=h; simp at U; obtain⟨bp,aj,aq⟩:=bV.get J i x U; exact⟨bp,by simpa using aj,aq⟩
theorem bV.append: ∀ {az l bU bM:List (List I)}(_:bV s az l) (_:bV s bU bM),bV s (az++bU) (l++bM)
 |[],_,_,_,h,k=>by simp only[bV]at h; subst h; simpa using k
 |a::az,_,_,_,h,k=>by simp only[bV]at h; obtain⟨v,ak,rfl,h1,J⟩:=h; simp only[aU4,bV]; exact⟨v,_,rfl,h1,bV.append J k⟩
theorem bV.drop: ∀(n:Nat){az l:List (List I)}(_:bV s az l),bV s (az.drop n) (l.drop n)
 |0,_,_,h=>by simpa using h
 |n+1,[],_,h=>by simp only[bV]at h; subst h; simp [bV]
 |n+1,a::az,_,h=>by simp only[bV]at h; obtain⟨v,ak,rfl,h1,J⟩:=h; simpa using bV.drop n J
theorem bV.take: ∀(n:Nat){az l:List (List I)}(_:bV s az l),bV s (az.take n) (l.take n)
 |0,_,_,_=>by simp [bV]
 |n+1,[],_,h=>by simp only[bV]at h; subst h; simp [bV]
 |n+1,a::az,_,h=>by simp only[bV]at h; obtain⟨v,ak,rfl,h1,J⟩:=h; simp only[aY1,bV]; exact⟨v,_,rfl,h1,bV.take n J⟩
theorem bV.flatten: ∀ {az l:List (List I)}(_:bV s az l),bd s az.flatten l.flatten
 |[],_,h=>by simp only[bV]at h; subst h; simp [bd]
 |a::az,_,h=>by simp only[bV]at h; obtain⟨v,ak,rfl,h1,J⟩:=h; simpa using h1.append (bV.flatten J)
theorem bV.FL {n:Nat}: ∀ {az l:List (List I)}(_:bV s az l),az.all (fun r=>r.length==n)=true→l.all (fun r=>r.length==n)=true
 |[],_,h,_=>by simp only[bV]at h; subst h; rfl
 |a::az,_,h,k=>by
  simp only[bV]at h
  obtain⟨v,ak,rfl,h1,J⟩:=h
  simp only[aV0,aT0]at k ⊢
  rw[bd.length h1]
  exact⟨k.1,bV.FL J k.2⟩
theorem aI.one {a v:I}(h:aI s a v) (aL:a.one=true):v.one=true:=by
 cases a<;>simp only[I.one,aU6]at aL<;>simp only[aI]at h
 all_goals first
  |(subst h; first|rfl|exact aL)
  |(obtain⟨x,h1,rfl⟩:=h; rfl)
  |(obtain⟨x,rfl,h1⟩:=h; rfl)
  |(obtain⟨x,l,h1,rfl,J⟩:=h; rfl)
theorem bd.w6: ∀ {az l:List I}(_:bd s az l),az.all I.one=true→l.all I.one=true
 |[],_,h,_=>by simp only[bd]at h; subst h; rfl
 |a::az,_,h,k=>by
  simp only[bd]at h
  obtain⟨v,ak,rfl,h1,J⟩:=h
  simp only[aV0,aT0]at k ⊢
  exact⟨h1.one k.1,bd.w6 J k.2⟩
theorem aI.ev {a v:I}(h:aI s a v) (aL:a.ev=true):v.ev=true∧bd s a.cells v.cells:=by
 cases a with
 |agg cs=>
  simp only[aI]at h
  obtain⟨l,rfl,h1⟩:=h
  exact⟨rfl,h1⟩
 | _=>
  all_goals
   have h1:=h.one (by simpa only[I.ev] using aL)
   have ad:v.cells=[v]∧v.ev=true:=by
    cases v<;>simp only[I.one,aU6]at h1<;>first|exact⟨rfl,rfl⟩|exact⟨rfl,h1⟩
   refine⟨ad.2,?_⟩
   rw[ad.1]
   simp only[I.cells,bd]
   exact⟨_,_,rfl,h,rfl⟩
theorem bd.hJ {agg:Bool}{az l:List I}{v:I}(h:bd s az l) (ad:I.hJ agg az=some v): ∃bp,I.hJ agg l=some bp∧aI s v bp:=by
 cases agg with
 |true=>
  simp only[I.hJ,cond_true,Option.some.injEq]at ad ⊢
  subst ad
  exact⟨_,rfl,by simp only[aI]; exact⟨l,rfl,h⟩⟩
 |false=>
  simp only[I.hJ,cond_false]at ad ⊢
  match az,h,ad with
  |[a],h,ad=>
   simp only[bd]at h
   obtain⟨x,xs,rfl,h1,rfl⟩:=h
   simp only[Option.some.injEq]at ad ⊢
   subst ad
   exact⟨_,rfl,h1⟩
end
mutual
def I.flat:I→Bool
 | .bool _=>true
 | .int _ _=>true
 | .str _=>true
 | .dI _=>true
 | .agg cs=>b9 cs
 | .cV cs=>b9 cs
 | .ak _ rows=>eD rows
 | .dL row _=>b9 row
 | .fn _ cap=>b9 cap
 | .gJ _ v=>v.flat
 | _=>false
def b9:List I→Bool
 |[]=>true
 |a::az=>a.flat&&b9 az
def eD:List (List I)→Bool
 |[]=>true
 |a::az=>b9 a&&eD az
end
mutual
theorem I.j1 {s:bl}: ∀(a:I),a.flat=true→∀v,aI s a v↔v=a
 | .bool _,_,_=>by simp only[aI]
 | .int _ _,_,_=>by simp only[aI]
 | .str _,_,_=>by simp only[aI]
 | .dI _,_,_=>by simp only[aI]
 | .agg cs,h,v=>by simp only[I.flat]at h; simp only[aI,lM cs h]; exact⟨fun⟨l,aj,aq⟩=>by rw[aj,aq],fun e=>⟨cs,e,rfl⟩⟩
 | .cV cs,h,v=>by simp only[I.flat]at h; simp only[aI,lM cs h]; exact⟨fun⟨l,aj,aq⟩=>by rw[aj,aq],fun e=>⟨cs,e,rfl⟩⟩
 | .ak n rows,h,v=>by simp only[I.flat]at h; simp only[aI,nB rows h]; exact⟨fun⟨l,aj,aq⟩=>by rw[aj,aq],fun e=>⟨rows,e,rfl⟩⟩
 | .dL row o,h,v=>by simp only[I.flat]at h; simp only[aI,lM row h]; exact⟨fun⟨l,aj,aq⟩=>by rw[aj,aq],fun e=>⟨row,e,rfl⟩⟩
 | .fn f cap,h,v=>by simp only[I.flat]at h; simp only[aI,lM cap h]; exact⟨fun⟨l,aj,aq⟩=>by rw[aj,aq],fun e=>⟨cap,e,rfl⟩⟩
 | .gJ t a,h,v=>by simp only[I.flat]at h; simp only[aI,I.j1 a h]; exact⟨fun⟨l,aj,aq⟩=>by rw[aj,aq],fun e=>⟨a,e,rfl⟩⟩
theorem lM {s:bl}: ∀(az:List I),b9 az=true→∀l,bd s az l↔l=az
 |[],_,l=>by simp only[bd]
 |a::az,h,l=>by
  simp only[b9,aT0]at h
  simp only[bd,I.j1 a h.1,lM az h.2]
  exact⟨fun⟨v,ak,aj,aq,bD⟩=>by rw[aj,aq,bD],fun e=>⟨a,az,e,rfl,rfl⟩⟩
theorem nB {s:bl}: ∀(az:List (List I)),eD az=true→∀l,bV s az l↔l=az
 |[],_,l=>by simp only[bV]
 |a::az,h,l=>by
  simp only[eD,aT0]at h
  simp only[bV,lM a h.1,nB az h.2]
  exact⟨fun⟨v,ak,aj,aq,bD⟩=>by rw[aj,aq,bD],fun e=>⟨a,az,e,rfl,rfl⟩⟩
end
def gy (s:bl) (env a7:Env):Prop:=∀j,aI s (env.get j) (a7.get j)
def bi (env:Env):aH→I
 | .t n=>env.get n
 | .c a=>bif a.flat then a else .ec
def gm (s:bl) (i c3:bB):Prop:=c3.ty=i.ty∧c3.size=i.size∧c3.n=i.n∧c3.ver=i.ver∧match i.kq with
 |none=>c3.kq=none
 |some rows=> ∃l,c3.kq=some l∧bV s rows l
structure HR (H0:aw) (s:bl) (C H:aw):Prop where
 base:HSub H0 H
 aV: ∀b T cs,C.aV b=some (T,cs)→∃x cn,s.b[b]? =some x∧H.aV x=some (T,cn)∧bd s cs cn
 tok: ∀t i,C.tok t=some i→∃x c3,s.t[t]? =some x∧H.tok x=some c3∧gm s i c3
 kE: ∀(b x:Nat),s.b[b]? =some x→H0.aV x=none∧∃y,H.aV x=some y
 jK: ∀(t x:Nat),s.t[t]? =some x→H0.tok x=none∧∃y,H.tok x=some y
 kS: ∀(b bJ x:Nat),s.b[b]? =some x→s.b[bJ]? =some x→b=bJ
 lP: ∀(b bJ x:Nat),s.t[b]? =some x→s.t[bJ]? =some x→b=bJ
section
variable {P:Program}{s:bl}{env a7:Env}{H0 C H:aw}
theorem jC (he:gy s env a7) (x:aH):aI s (bi env x) (x.aC a7):=by
 cases x with
 |t n=>exact he n
 |c a=>
  show aI s (bif a.flat then a else .ec) a
  cases h:a.flat with
  |false=>simp only[cond_false,aI]
  |true=>rw[cond_true,I.j1 a h]
theorem nq (he:gy s env a7): ∀(xs:List aH),bd s (xs.map (bi env)) (xs.map (aH.aC a7))
 |[]=>by simp [bd]
 |x::xs=>by simp only[aU5,bd]; exact⟨_,_,rfl,jC he x,nq he xs⟩
theorem gy.put (he:gy s env a7){v bp:I}(ad:aI s v bp) (d:Option Nat):gy s (env.put d v) (a7.put d bp):=by
 cases d with
 |none=>exact he
 |some k=>
  intro j
  simp only[Env.put,Env.get]
  cases k==j with
  |true=>exact ad
  |false=>exact he j
theorem gy.mono {bF:bl}(e:bl.dU s bF) (he:gy s env a7):gy bF env a7:=fun j=>aI.mono e _ _ (he j)
def nu (env:Env) (C4:Nat):Option aH→Option Nat
 |none=>some C4
 |some x=>match bi env x with
  | .int _ (.ofNat n)=>some n
  | _=>none
theorem wj (he:gy s env a7){d n:Nat}{x:Option aH}(h:nu env d x=some n):iT a7 d x=some n:=by
 cases x with
 |none=>exact h
 |some x=>
  have U:=jC he x
  simp only[nu]at h
  split at h
  ·rename_i k m e
   rw[e]at U
   simp only[aI]at U
   simp only[iT,U]
   exact h
  ·cases h
def sd (env:Env) (cells:List I):List (Nat×Nat×aH)→Option (List I)
 |[]=>some cells
 |(off,size,x)::rest=>
  let a:=bi env x
  bif a.ev&&(a.cells.length==size&&aV2 (off+size) cells.length) then sd env (fs cells off a.cells) rest else none
theorem HE (he:gy s env a7): ∀(parts:List (Nat×Nat×aH)) (cells xX cs:List I),bd s cells xX→sd env cells parts=some cs→∃cn,nl a7 xX parts=some cn∧bd s cs cn
 |[],cells,xX,cs,h,hb=>by
  simp only[sd,Option.some.injEq]at hb
  subst hb
  exact⟨_,rfl,h⟩
 |(off,size,x)::rest,cells,xX,cs,h,hb=>by
  simp only[sd]at hb
  cases ah:((bi env x).ev&&((bi env x).cells.length==size&&aV2 (off+size) cells.length)) with
  |false=>rw[ah]at hb; cases hb
  |true=>
   rw[ah,cond_true]at hb
   simp only[aT0,beq_iff_eq,bb2]at ah
   obtain⟨h1,J,aA⟩:=ah
   obtain⟨br,bA⟩:=(jC he x).ev h1
   obtain⟨cn,aj,aq⟩:=HE he rest _ (fs xX off (x.aC a7).cells) cs (h.fs bA off) hb
   refine⟨cn,?_,aq⟩
   simp only[nl]
   rw[if_pos ⟨by rw[bd.length bA,J],by rw[bd.length h]; exact aA,br⟩]
   exact aj
theorem Mk (ll:Bool): ∀(l bM:List I) (a cw v:I),aI s a cw→bd s l bM→kC ll a l=some v→kC ll cw bM=some v∧aI s v v
 |[],_,a,cw,v,aL,aE,ad=>by
  simp only[bd]at aE
  subst aE
  cases a<;>simp only[kC,Option.some.injEq,reduceCtorEq]at ad
  subst ad
  simp only[aI]at aL
  subst aL
  exact⟨rfl,by simp only[aI]⟩
 |b::rest,_,a,cw,v,aL,aE,ad=>by
  simp only[bd]at aE
  obtain⟨bJ,fp,rfl,hb,aE⟩:=aE
  cases a<;>cases b<;>simp only[kC,reduceCtorEq]at ad
  simp only[aI]at aL hb
  subst aL hb
  simp only[kC]
  split at ad
  ·rename_i hk
   rw[if_pos hk]
   exact Mk ll rest fp _ _ v (by simp only[aI]) aE ad
  ·cases ad
theorem VS {k:lA}{a cw b bJ:I}{r:Bool}(aL:aI s a cw) (hb:aI s b bJ) (h:nz k a b=some r):nz k cw bJ=some r:=by
 cases k<;>cases a<;>cases b<;>simp only[nz,reduceCtorEq]at h<;>simp only[aI]at aL hb<;>subst aL hb<;>exact h
theorem Kj: ∀(bx:List lA) (az ha bU xU:List I) (r:Bool),bd s az ha→bd s bU xU→gb bx az bU=some r→gb bx ha xU=some r
 |[],[],_,[],_,r,aL,hb,h=>by
  simp only[bd]at aL hb
  subst aL hb
  exact h
 |k::bx,a::az,_,b::bU,_,r,aL,hb,h=>by
  simp only[bd]at aL hb
  obtain⟨cw,ha,rfl,aL,has⟩:=aL
  obtain⟨bJ,xU,rfl,hb,W9⟩:=hb
  simp only[gb]at h ⊢
  split at h
  ·rename_i x y h1 J
   rw[VS aL hb h1,Kj bx az ha bU xU y has W9 J]
   exact h
  ·cases h
 |[],_:: _,_,_,_,_,_,_,h=>by simp [gb]at h
 |[],[],_,_:: _,_,_,_,_,h=>by simp [gb]at h
 | _:: _,[],_,_,_,_,_,_,h=>by simp [gb]at h
 | _:: _,_:: _,_,[],_,_,_,_,h=>by simp [gb]at h
end
def rc (n:Int) (len:Nat):Option Nat:=
 match n with
 | .ofNat k=>bif aW7 k len then some k else none
 | _=>none
theorem wg {n:Int}{len k:Nat}(h:rc n len=some k):0≤n∧n<(len:Int)∧n.toNat=k:=by
 cases n with
 |ofNat j=>
  simp only[rc]at h
  cases hb:aW7 j len with
  |false=>rw[hb]at h; cases h
  |true=>
   rw[hb]at h
   simp only[cond_true,Option.some.injEq]at h
   subst h
   have:j<len:=by simpa [bg0] using hb
   exact⟨bi5 j,Int.ofNat_lt.2 this,rfl⟩
 |negSucc j=>cases h
def nV (cs:List I) (agg:Bool) (o n:Nat):Option I:=bif aV2 (o+n) cs.length then I.hJ agg ((cs.drop o).take n) else none
theorem si {s:bl}{cs cn:List I}{agg:Bool}{o n:Nat}{v:I}(h:bd s cs cn) (ad:nV cs agg o n=some v):o+n≤cn.length∧∃bp,I.hJ agg ((cn.drop o).take n)=some bp∧aI s v bp:=by
 unfold nV at ad
 cases hb:aV2 (o+n) cs.length with
 |false=>rw[hb]at ad; cases ad
 |true=>
  rw[hb,cond_true]at ad
  exact⟨by rw[bd.length h]; exact aZ3 hb,bd.hJ ((h.drop o).take n) ad⟩
def wa (op:BinOp):I→I→Option I
 | .int k a,.int j b=>if k=j then (match op with
  | .quo=>if b=0 then none else some (.int k (k.wrap (a.tdiv b)))
  | .rem=>if b=0 then none else some (.int k (a.tmod b))
  |op=>p8 op k a b) else tW op k a b
 | .str a,.str b=>match op with
  | .add=>bif aV2 (a.length+b.length) maxLen then some (.str (a++b)) else none
  |op=>sa op a b
 | _,_=>none
def e4 (op:ba) (env:Env) (C:aw):Option I:=
 match op with
 | .fO x=>some (bi env x)
 | .pick c a b=>match bi env c with
  | .bool true=>some (bi env a)
  | .bool false=>some (bi env b)
  | _=>none
 | .fB x=>match bi env x with
  | .ptr b o=>some (.ptr b o)
  | .dL r o=>some (.dL r o)
  | .fn f c=>some (.fn f c)
  | _=>none
 | .build zero parts=>bif b9 zero then (sd env zero parts).map .agg else none
 | .load agg n x=>match bi env x with
  | .ptr b o=>match C.aV b with
   |some (_,cs)=>nV cs agg o n
   |none=>none
  | .dL row o=>nV row agg o n
  | _=>none
 | .gq eJ agg n x=>match env.get eJ,bi env x with
  | .ptr b 0,.ptr bJ o=>bif bJ==b then (match C.aV bJ with
   |some (_,cs)=>nV cs agg o n
   |none=>none) else none
  | _,_=>none
 | .qz agg n x=>match bi env x with
  | .dL row o=>nV row agg o n
  | _=>none
 | .nA off x=>match bi env x with
  | .ptr b o=>some (.ptr b (o+off))
  | .dL row o=>some (.dL row (o+off))
  | _=>none
 | .field agg off n x=>match bi env x with
  | .agg cs=>nV cs agg off n
  | _=>none
 | .gS size x i=>match bi env x,bi env i with
  | .ak ka rows,.int _ (.ofNat n)=>bif ka==size then rows[n]?.map fun r=> .dL r 0 else none
  | .own _ ka rows,.int _ (.ofNat n)=>bif ka==size then rows[n]?.map fun r=> .dL r 0 else none
  | _,_=>none
 | .me len size x i=>match bi env x,bi env i with
  | .ptr b o,.int _ n=>(rc n len).map fun k=> .ptr b (o+k*size)
  | .dL row o,.int _ n=>(rc n len).map fun k=> .dL row (o+k*size)
  | _,_=>none
 | .iD agg len size x i=>match bi env x,bi env i with
  | .agg cs,.int _ n=>match rc n len with
   |some k=>nV cs agg (k*size) size
   |none=>none
  | _,_=>none
 | .gp x i=>match bi env x,bi env i with
  | .str b,.int _ (.ofNat n)=>b[n]?.map fun c=> .int .u8 c.toNat
  | _,_=>none
 | .bin op x y=>wa op (bi env x) (bi env y)
 | .p7 op x y=>match bi env x,bi env y with
  | .bool a,.bool b=>s6 op a b
  | _,_=>none
 | .ny neg _ bx x y=>match bi env x,bi env y with
  | .agg a,.agg b=>(gb bx a b).map fun r=> .bool (bif neg then !r else r)
  | _,_=>none
 | .not x=>match bi env x with
  | .bool b=>some (.bool (!b))
  | _=>none
 | .qD neg x=>match bi env x with
  | .ptr _ _=>some (.bool neg)
  | .dL _ _=>some (.bool neg)
  | .dI (.pointer none)=>some (.bool (!neg))
  | _=>none
 | .neg x=>match bi env x with
  | .int k n=>some (.int k (k.wrap (0-n)))
  | _=>none
 | .conv k x=>match bi env x with
  | .int _ n=>some (.int k (k.wrap n))
  | _=>none
 | .kV x=>match bi env x with
  | .str b=>some (.int .i64 b.length)
  | _=>none
 | .len x=>match bi env x with
  | .ak _ rows=>some (.int .i64 rows.length)
  | .own _ _ rows=>some (.int .i64 rows.length)
  | .dI (.slice _ n _)=>some (.int .i64 n)
  | _=>none
 | .pE n=>some (.int .i64 n)
 | .j4 ll xs=>match xs.map (bi env) with
  |a::rest=>kC ll a rest
  |[]=>none
 | .iW x cm ae=>match bi env x with
  | .str b=>match nu env 0 cm,nu env b.length ae with
   |some l,some h=>bif aV2 l h&&aV2 h b.length then some (.str ((b.take h).drop l)) else none
   | _,_=>none
  | _=>none
 | .gL size x cm ae none=>match mX size (bi env x) with
  |some rows=>match nu env 0 cm,nu env rows.length ae with
   |some l,some h=>bif aV2 l h&&aV2 h rows.length then some (.ak size ((rows.take h).drop l)) else none
   | _,_=>none
  |none=>none
 | .extract i x=>match bi env x with
  | .cV l=>l[i]?
  | _=>none
 | .iS f cap=>some (.fn f (cap.map (bi env)))
 | .sE f cap=>some (.fn (f+iy) (cap.map (bi env)))
 | .qd int x=>match int,bi env x with
  |true,.int _ n=>some (.str (Utf8.encode n).data.toList)
  |false,.ak 1 rows=>(km rows).map .str
  |false,.own _ 1 rows=>(km rows).map .str
  |false,.dI (.slice none _ _)=>some (.str [])
  | _,_=>none
 | .jh T x=>match bi env x with
  | .str b=>some (.ak 1 (b.map fun c=>[.int .u8 c.toNat]))
  | _=>none
 | .oR T x=>some (.gJ T (bi env x))
 | .oO neg x=>match bi env x with
  | .dI (.slice none 0 0)=>some (.bool (!neg))
  | .ak _ (_:: _)=>some (.bool neg)
  | _=>none
 | .hV x=>match bi env x with
  | .cz t ver=>match C.tok t with
   |some ⟨_,_,0,fW,some rows⟩=>bif fW==ver then some (.int .i64 rows.length) else none
   | _=>none
  | _=>none
 | .hs ok z x k=>match bi env x,bi env k with
  | .cz t ver,.str s=>match C.tok t with
   |some ⟨_,2,1,fW,some rows⟩=>bif fW==ver&&b9 [z] then (lm s rows).map (j6 ok z) else none
   | _=>none
  | .dI (.map none),.str s=>bif b9 [z] then some (j6 ok z none) else none
  | _,_=>none
 | .iB off x=>match bi env x with
  | .mp t ver k=>match C.tok t with
   |some ⟨_,_,0,fW,some rows⟩=>bif fW==ver then some (.mp t ver (k+off)) else none
   | _=>none
  | _=>none
 | .hE size x i=>match bi env x,bi env i with
  | .cz t ver,.int _ n=>match C.tok t with
   |some ⟨_,ka,0,fW,some rows⟩=>bif fW==ver&&ka==size then (rc n rows.length).map fun k=> .mp t ver (k*size) else none
   | _=>none
  | _,_=>none
 | .ib agg n x=>match bi env x with
  | .mp t ver k=>match C.tok t with
   |some ⟨_,_,0,fW,some rows⟩=>bif fW==ver then nV rows.flatten agg k n else none
   | _=>none
  | _=>none
 | .eu T size n zero parts=>
  let az:=parts.map fun p=>bi env p.2
  bif az.all I.ev&&((az.map I.cells).all (fun r=>r.length==size)&&(az.map I.cells).flatten.all I.one) then some (.ak size (az.map I.cells)) else none
 | _=>none
section
variable {P:Program}{s:bl}{env a7:Env}{H0 C H:aw}
theorem HR.bc (ab:HR H0 s C H){t:Nat}{T:TypeId}{size ver:Nat}{rows:List (List I)}(h:C.tok t=some ⟨T,size,0,ver,some rows⟩): ∃x l,s.t[t]? =some x∧H.tok x=some (.bc T size ver l)∧bV s rows l:=by
 obtain⟨x,⟨cu,ul,fU,bp,cB⟩,h1,J,aj,aq,bD,da,fh⟩:=ab.tok t _ h
 simp only at aj aq bD da fh
 obtain⟨l,fh,l6⟩:=fh
 subst aj aq bD da fh
 exact⟨x,l,h1,J,l6⟩
theorem HR.bk (ab:HR H0 s C H){t:Nat}{T:TypeId}{ver:Nat}{rows:List (List I)}(h:C.tok t=some ⟨T,2,1,ver,some rows⟩): ∃x l,s.t[t]? =some x∧H.tok x=some (.bk T ver l)∧bV s rows l:=by
 obtain⟨x,⟨cu,ul,fU,bp,cB⟩,h1,J,aj,aq,bD,da,fh⟩:=ab.tok t _ h
 simp only at aj aq bD da fh
 obtain⟨l,fh,l6⟩:=fh
 subst aj aq bD da fh
 exact⟨x,l,h1,J,l6⟩
theorem Mw {k:List UInt8}{v:I}{r l:List (List I)}(h:bV s ([.str k,v]::r) l): ∃bp bM,l=[.str k,bp]::bM∧aI s v bp∧bV s r bM:=by
 simp only[bV,bd,aI]at h
 obtain⟨x,bM,rfl,⟨y,dO,rfl,rfl,z,aS8,rfl,aA,rfl⟩,J⟩:=h
 exact⟨z,bM,rfl,aA,J⟩
theorem Mf (k:List UInt8): ∀(rows l:List (List I)) (r:Option I),bV s rows l→lm k rows=some r→(r=none∧lm k l=some none)∨∃v bp,r=some v∧lm k l=some (some bp)∧aI s v bp
 |[],l,r,h,ab=>by
  simp only[bV]at h
  subst h
  simp only[lm,Option.some.injEq]at ab
  exact .inl ⟨ab.symm,rfl⟩
 |row::rows,l,r,h,ab=>by
  unfold lm at ab
  split at ab
  ·cases ‹_:: _=[]›
  ·rename_i q v dQ ch
   simp only[List.cons.injEq]at ch
   obtain⟨rfl,rfl⟩:=ch
   obtain⟨bp,bM,rfl,h1,J⟩:=Mw h
   by_cases hk:k=q
   ·rw[if_pos hk]at ab
    simp only[Option.some.injEq]at ab
    exact .inr ⟨v,bp,ab.symm,by simp only[lm,if_pos hk],h1⟩
   ·rw[if_neg hk]at ab
    rcases Mf k _ bM r J ab with ⟨g1,g2⟩|⟨x,cE,g1,g2,g3⟩
    ·exact .inl ⟨g1,by simp only[lm,if_neg hk]; exact g2⟩
    ·exact .inr ⟨x,cE,g1,by simp only[lm,if_neg hk]; exact g2,g3⟩
  ·cases ab
theorem Mu (k:List UInt8){a cw:I}(aL:aI s a cw): ∀(rows l rows':List (List I)),bV s rows l→j5 k a rows=some rows'→∃bM,j5 k cw l=some bM∧bV s rows' bM
 |[],l,r,h,ab=>by
  simp only[bV]at h
  subst h
  simp only[j5,Option.some.injEq]at ab
  subst ab
  exact⟨_,rfl,by simp only[bV,bd,aI]; exact⟨_,_,rfl,⟨_,_,rfl,rfl,_,_,rfl,aL,rfl⟩,rfl⟩⟩
 |row::rows,l,r,h,ab=>by
  unfold j5 at ab
  split at ab
  ·cases ‹_:: _=[]›
  ·rename_i q v dQ ch
   simp only[List.cons.injEq]at ch
   obtain⟨rfl,rfl⟩:=ch
   obtain⟨bp,bM,rfl,h1,J⟩:=Mw h
   by_cases hk:k=q
   ·rw[if_pos hk]at ab
    simp only[Option.some.injEq]at ab
    subst ab
    exact⟨[.str k,cw]::bM,by simp only[j5,if_pos hk],by simp only[bV,bd,aI]; exact⟨_,_,rfl,⟨_,_,rfl,rfl,_,_,rfl,aL,rfl⟩,J⟩⟩
   ·rw[if_neg hk]at ab
    cases bs:j5 k a rows with
    |none=>rw[bs]at ab; cases ab
    |some kY=>
     rw[bs]at ab
     simp only[aV5,Option.some.injEq]at ab
     subst ab
     obtain⟨fp,g1,g2⟩:=Mu k aL _ bM kY J bs
     exact⟨[.str q,bp]::fp,by simp only[j5,if_neg hk,g1,aV5],by simp only[bV,bd,aI]; exact⟨_,_,rfl,⟨_,_,rfl,rfl,_,_,rfl,h1,rfl⟩,g2⟩⟩
  ·cases ab
theorem Ez {ok:Bool}{z:I}{r dQ:Option I}(aD:b9 [z]=true) (h:(r=none∧dQ=none)∨∃v bp,r=some v∧dQ=some bp∧aI s v bp):aI s (j6 ok z r) (j6 ok z dQ):=by
 have aW:aI s z z:=by
  have:=(lM (s:=s) [z] aD [z]).2 rfl
  simp only[bd]at this
  obtain⟨v,ak,e,h,_⟩:=this
  cases e
  exact h
 rcases h with ⟨rfl,rfl⟩|⟨v,bp,rfl,rfl,h⟩
 ·cases ok
  ·simpa [j6] using aW
  ·simp only[j6,if_true,Option.getD_none,Option.isSome_none,aI,bd]
   exact⟨_,rfl,_,_,rfl,aW,_,_,rfl,rfl,rfl⟩
 ·cases ok
  ·simpa [j6] using h
  ·simp only[j6,if_true,aX2,Option.isSome_some,aI,bd]
   exact⟨_,rfl,_,_,rfl,h,_,_,rfl,rfl,rfl⟩
theorem Cy (he:gy s env a7): ∀(parts:List (Nat×aH)),(parts.map fun p=>bi env p.2).all I.ev=true→bV s ((parts.map fun p=>bi env p.2).map I.cells) (jB a7 parts)
 |[],_=>by simp [jB,bV]
 |p::parts,h=>by
  simp only[aU5,aV0,aT0]at h
  simp only[aU5,jB,bV]
  exact⟨_,_,rfl,((jC he p.2).ev h.1).2,Cy he parts h.2⟩
end
variable {P:Program}{s:bl}{env a7:Env}{H0 C H:aw}
theorem dJ (he:gy s env a7){x:aH}{a:I}(e:bi env x=a):aI s a (x.aC a7):=e▸jC he x
theorem at6 {size:Nat}{a cw:I}{rows:List (List I)}(h:aI s a cw) (e:mX size a=some rows): ∃l,mX size cw=some l∧bV s rows l:=by
 unfold mX at e
 split at e
 ·split at e
  ·rename_i an
   simp only[Option.some.injEq]at e
   subst e
   simp only[aI]at h
   obtain⟨l,rfl,h1⟩:=h
   exact⟨l,by simp [mX,an],h1⟩
  ·cases e
 ·split at e
  ·rename_i an
   simp only[Option.some.injEq]at e
   subst e
   simp only[aI]at h
   obtain⟨x,l,_,rfl,h1⟩:=h
   exact⟨l,by simp [mX,an],h1⟩
  ·cases e
 ·cases e
theorem R9 {op:BinOp}{k:IntKind}{a b:Int}{v:I}(h:p8 op k a b=some v):aI s v v:=by
 cases op<;>simp only[p8,Option.some.injEq,reduceCtorEq]at h<;>first
  |(subst h; simp only[aI]; done)
  |(split at h<;>first
   |(cases h; done)
   |(simp only[Option.some.injEq]at h; subst h; simp only[aI]; done))
theorem as9 {op:BinOp}{k:IntKind}{a b:Int}{v:I}(h:tW op k a b=some v):aI s v v:=by
 cases op<;>simp only[tW,reduceCtorEq]at h<;>first
  |(cases h; done)
  |(split at h<;>first
   |(cases h; done)
   |(simp only[Option.some.injEq]at h; subst h; simp only[aI]; done))
theorem CB: ∀ {rows l:List (List I)}{b:List UInt8},km rows=some b→bV s rows l→km l=some b
 |[],l,b,h,k=>by simp only[bV]at k; subst k; exact h
 |r::aN,l,b,h,k=>by
  simp only[bV]at k
  obtain⟨dQ,bM,rfl,br,bA⟩:=k
  unfold km at h
  split at h
  ·rename_i e; cases e
  ·rename_i n Fy e
   simp only[List.cons.injEq]at e
   obtain⟨rfl,rfl⟩:=e
   simp only[bd,aI]at br
   obtain⟨_,_,rfl,rfl,rfl⟩:=br
   split at h
   ·rename_i bF cd
    simp only[km,CB cd bA]
    exact h
   ·cases h
  ·cases h
theorem Hm: ∀(b:List UInt8),bV s (b.map fun c=>[I.int .u8 c.toNat]) (b.map fun c=>[I.int .u8 c.toNat])
 |[]=>by simp [bV]
 |c::b=>by simp only[aU5,bV,bd,aI]; exact⟨_,_,rfl,⟨_,_,rfl,rfl,rfl⟩,Hm b⟩
theorem Ul {op:BinOp}{x y:aH}{a b v:I}(aL:aI s a (x.aC a7)) (hb:aI s b (y.aC a7)) (h:wa op a b=some v): ∃bp,ed P (.bin op x y) a7 H (.cP bp)∧aI s v bp:=by
 unfold wa at h
 split at h
 ·rename_i k a j b
  simp only[aI]at aL hb
  split at h
  ·rename_i hk
   subst hk
   split at h
   ·split at h
    ·cases h
    ·rename_i aD
     simp only[Option.some.injEq]at h
     subst h
     exact⟨_,.quo aL hb aD,by simp only[aI]⟩
   ·split at h
    ·cases h
    ·rename_i aD
     simp only[Option.some.injEq]at h
     subst h
     exact⟨_,.rem aL hb aD,by simp only[aI]⟩
   ·refine⟨v,.pure (by simp only[bL,aL,hb,if_pos]; exact h),?_⟩
    exact R9 h
  ·rename_i hk
   refine⟨v,.pure (by simp only[bL,aL,hb,if_neg hk]; exact h),as9 h⟩
 ·rename_i a b
  simp only[aI]at aL hb
  split at h
  ·cases hm:aV2 (a.length+b.length) maxLen with
   |false=>rw[hm]at h; cases h
   |true=>
    rw[hm]at h
    simp only[cond_true,Option.some.injEq]at h
    subst h
    exact⟨_,.ij aL hb (aZ3 hm),by simp only[aI]⟩
  ·refine⟨v,.pure (by simp only[bL,aL,hb]; exact h),?_⟩
   cases op<;>simp only[sa,Option.some.injEq,reduceCtorEq]at h<;>subst h<;>simp only[aI]
 ·cases h
theorem Bi {ver fW:Nat}(h:(fW==ver)=true):fW=ver:=by simpa using h
theorem UO (he:gy s env a7) (ab:HR H0 s C H){op:ba}{v:I}(h:e4 op env C=some v): ∃bp,ed P op a7 H (.cP bp)∧aI s v bp:=by
 cases op<;>simp only[e4,reduceCtorEq]at h
 case fO x=>
  simp only[Option.some.injEq]at h
  subst h
  exact⟨_,.pure rfl,jC he x⟩
 case pick c a b=>
  split at h
  ·rename_i e
   have ah:=dJ he e
   simp only[aI]at ah
   simp only[Option.some.injEq]at h
   subst h
   exact⟨_,.pure (by simp only[bL,ah]),jC he a⟩
  ·rename_i e
   have ah:=dJ he e
   simp only[aI]at ah
   simp only[Option.some.injEq]at h
   subst h
   exact⟨_,.pure (by simp only[bL,ah]),jC he b⟩
  ·cases h
 case fB x=>
  split at h
  ·rename_i e
   have U:=dJ he e
   simp only[Option.some.injEq]at h
   subst h
   simp only[aI]at U
   obtain⟨y,h1,J⟩:=U
   exact⟨_,.pure (by simp only[bL,J]; rfl),by simp only[aI]; exact⟨y,h1,rfl⟩⟩
  ·rename_i e
   have U:=dJ he e
   simp only[Option.some.injEq]at h
   subst h
   simp only[aI]at U
   obtain⟨y,J,h1⟩:=U
   exact⟨_,.pure (by simp only[bL,J]; rfl),by simp only[aI]; exact⟨y,rfl,h1⟩⟩
  ·rename_i e
   have U:=dJ he e
   simp only[Option.some.injEq]at h
   subst h
   simp only[aI]at U
   obtain⟨y,J,h1⟩:=U
   exact⟨_,.pure (by simp only[bL,J]; rfl),by simp only[aI]; exact⟨y,rfl,h1⟩⟩
  ·cases h
 case build zero parts=>
  cases aD:b9 zero with
  |false=>rw[aD]at h; cases h
  |true=>
   rw[aD]at h
   simp only[cond_true,aW3]at h
   obtain⟨cs,e,rfl⟩:=h
   obtain⟨cn,aj,aq⟩:=HE he parts zero zero cs ((lM zero aD _).2 rfl) e
   exact⟨_,.pure (by simp only[bL,aj,aV5]; rfl),by simp only[aI]; exact⟨_,rfl,aq⟩⟩
 case load agg n x=>
  split at h
  ·rename_i b o e
   have U:=dJ he e
   simp only[aI]at U
   obtain⟨y,h1,J⟩:=U
   split at h
   ·rename_i T cs aq
    obtain⟨cE,cn,g1,g2,g3⟩:=ab.aV _ _ _ aq
    rw[h1]at g1
    cases g1
    obtain⟨br,bp,bA,cy⟩:=si g3 h
    exact⟨bp,.pure (by simp only[bL,J,g2,if_pos br,bA]),cy⟩
   ·cases h
  ·rename_i row o e
   have U:=dJ he e
   simp only[aI]at U
   obtain⟨l,J,h1⟩:=U
   obtain⟨br,bp,bA,cy⟩:=si h1 h
   exact⟨bp,.pure (by simp only[bL,J,if_pos br,bA]),cy⟩
  ·cases h
 case qz agg n x=>
  split at h
  ·rename_i row o e
   have U:=dJ he e
   simp only[aI]at U
   obtain⟨l,J,h1⟩:=U
   obtain⟨br,bp,bA,cy⟩:=si h1 h
   exact⟨bp,.pure (by simp only[bL,J,if_pos br,bA]),cy⟩
  ·cases h
 case gq eJ agg n x=>
  split at h
  ·rename_i b bJ o ch e
   have U:=dJ he e
   have hm:=he eJ
   rw[ch]at hm
   simp only[aI]at U hm
   obtain⟨y,h1,J⟩:=U
   obtain⟨Gm,aA,bz⟩:=hm
   cases hb:bJ==b with
   |false=>rw[hb]at h; cases h
   |true=>
    rw[hb,cond_true]at h
    have hb:bJ=b:=by simpa using hb
    subst hb
    rw[h1]at aA
    cases aA
    split at h
    ·rename_i T cs aq
     obtain⟨cE,cn,g1,g2,g3⟩:=ab.aV _ _ _ aq
     rw[h1]at g1
     cases g1
     obtain⟨br,bp,bA,cy⟩:=si g3 h
     exact⟨bp,.pure (by simp only[bL,J,bz,g2,if_pos br,bA,if_true]),cy⟩
    ·cases h
  ·cases h
 case nA off x=>
  split at h
  ·rename_i e
   have U:=dJ he e
   simp only[Option.some.injEq]at h
   subst h
   simp only[aI]at U
   obtain⟨y,h1,J⟩:=U
   exact⟨_,.pure (by simp only[bL,J]; rfl),by simp only[aI]; exact⟨y,h1,rfl⟩⟩
  ·rename_i e
   have U:=dJ he e
   simp only[Option.some.injEq]at h
   subst h
   simp only[aI]at U
   obtain⟨y,J,h1⟩:=U
   exact⟨_,.pure (by simp only[bL,J]; rfl),by simp only[aI]; exact⟨y,rfl,h1⟩⟩
  ·cases h
 case field agg off n x=>
  split at h
  ·rename_i e
   have U:=dJ he e
   simp only[aI]at U
   obtain⟨l,J,h1⟩:=U
   obtain⟨br,bp,bA,cy⟩:=si h1 h
   exact⟨bp,.pure (by simp only[bL,J,if_pos br,bA]),cy⟩
  ·cases h
 case gS size x i=>
  split at h
  ·rename_i ka rows k n aj aq
   have U:=dJ he aj
   have ae:=dJ he aq
   simp only[aI]at U ae
   obtain⟨l,J,h1⟩:=U
   cases an:ka==size with
   |false=>rw[an]at h; cases h
   |true=>
    rw[an]at h
    have an:ka=size:=by simpa using an
    subst an
    simp only[cond_true,aW3]at h
    obtain⟨r,g1,rfl⟩:=h
    obtain⟨dQ,g2,g3⟩:=bV.get h1 _ _ g1
    exact⟨_,.nI J ae (bi5 n) g2,by simp only[aI]; exact⟨_,rfl,g3⟩⟩
  ·rename_i dk ka rows k n aj aq
   have U:=dJ he aj
   have ae:=dJ he aq
   simp only[aI]at U ae
   obtain⟨y,l,aW,J,h1⟩:=U
   cases an:ka==size with
   |false=>rw[an]at h; cases h
   |true=>
    rw[an]at h
    have an:ka=size:=by simpa using an
    subst an
    simp only[cond_true,aW3]at h
    obtain⟨r,g1,rfl⟩:=h
    obtain⟨dQ,g2,g3⟩:=bV.get h1 _ _ g1
    exact⟨_,.nG J ae (bi5 n) g2,by simp only[aI]; exact⟨_,rfl,g3⟩⟩
  ·cases h
 case me len size x i=>
  split at h
  ·rename_i b o k n aj aq
   have U:=dJ he aj
   have ae:=dJ he aq
   simp only[aI]at U ae
   obtain⟨y,h1,J⟩:=U
   simp only[aW3]at h
   obtain⟨j,g1,rfl⟩:=h
   obtain⟨g2,g3,rfl⟩:=wg g1
   exact⟨_,.mP J ae g2 g3,by simp only[aI]; exact⟨_,h1,rfl⟩⟩
  ·rename_i row o k n aj aq
   have U:=dJ he aj
   have ae:=dJ he aq
   simp only[aI]at U ae
   obtain⟨l,J,h1⟩:=U
   simp only[aW3]at h
   obtain⟨j,g1,rfl⟩:=h
   obtain⟨g2,g3,rfl⟩:=wg g1
   exact⟨_,.nH J ae g2 g3,by simp only[aI]; exact⟨_,rfl,h1⟩⟩
  ·cases h
 case iD agg len size x i=>
  split at h
  ·rename_i cs k n aj aq
   have U:=dJ he aj
   have ae:=dJ he aq
   simp only[aI]at U ae
   obtain⟨l,J,h1⟩:=U
   split at h
   ·rename_i j g1
    obtain⟨g2,g3,rfl⟩:=wg g1
    obtain⟨br,bp,bA,cy⟩:=si h1 h
    exact⟨bp,.iD J ae g2 g3 br bA,cy⟩
   ·cases h
  ·cases h
 case gp x i=>
  split at h
  ·rename_i b k n aj aq
   have U:=dJ he aj
   have ae:=dJ he aq
   simp only[aI]at U ae
   simp only[aW3]at h
   obtain⟨c,g1,rfl⟩:=h
   exact⟨_,.gp U ae (bi5 n) g1,by simp only[aI]⟩
  ·cases h
 case bin op x y=>exact Ul (jC he x) (jC he y) h
 case p7 op x y=>
  split at h
  ·rename_i a b aj aq
   have U:=dJ he aj
   have bg:=dJ he aq
   simp only[aI]at U bg
   refine⟨v,.pure (by simp only[bL,U,bg]; exact h),?_⟩
   cases op<;>simp only[s6,Option.some.injEq,reduceCtorEq]at h<;>subst h<;>simp only[aI]
  ·cases h
 case ny neg T bx x y=>
  split at h
  ·rename_i a b aj aq
   have U:=dJ he aj
   have bg:=dJ he aq
   simp only[aI]at U bg
   obtain⟨aR,h1,J⟩:=U
   obtain⟨fp,aA,bz⟩:=bg
   simp only[aW3]at h
   obtain⟨r,g1,rfl⟩:=h
   exact⟨_,.pure (by simp only[bL,h1,aA,Kj bx _ _ _ _ r J bz g1,aV5]; rfl),by simp only[aI]⟩
  ·cases h
 case not x=>
  split at h
  ·rename_i e
   have U:=dJ he e
   simp only[aI]at U
   simp only[Option.some.injEq]at h
   subst h
   exact⟨_,.pure (by simp only[bL,U]; rfl),by simp only[aI]⟩
  ·cases h
 case qD neg x=>
  split at h
  ·rename_i e
   have U:=dJ he e
   simp only[aI]at U
   obtain⟨y,h1,J⟩:=U
   simp only[Option.some.injEq]at h
   subst h
   exact⟨_,.pure (by simp only[bL,J]; rfl),by simp only[aI]⟩
  ·rename_i e
   have U:=dJ he e
   simp only[aI]at U
   obtain⟨y,J,h1⟩:=U
   simp only[Option.some.injEq]at h
   subst h
   exact⟨_,.pure (by simp only[bL,J]; rfl),by simp only[aI]⟩
  ·rename_i e
   have U:=dJ he e
   simp only[aI]at U
   simp only[Option.some.injEq]at h
   subst h
   exact⟨_,.pure (by simp only[bL,U]; rfl),by simp only[aI]⟩
  ·cases h
 case neg x=>
  split at h
  ·rename_i e
   have U:=dJ he e
   simp only[aI]at U
   simp only[Option.some.injEq]at h
   subst h
   exact⟨_,.pure (by simp only[bL,U]; rfl),by simp only[aI]⟩
  ·cases h
 case conv k x=>
  split at h
  ·rename_i e
   have U:=dJ he e
   simp only[aI]at U
   simp only[Option.some.injEq]at h
   subst h
   exact⟨_,.pure (by simp only[bL,U]; rfl),by simp only[aI]⟩
  ·cases h
 case kV x=>
  split at h
  ·rename_i e
   have U:=dJ he e
   simp only[aI]at U
   simp only[Option.some.injEq]at h
   subst h
   exact⟨_,.pure (by simp only[bL,U]; rfl),by simp only[aI]⟩
  ·cases h
 case len x=>
  split at h
  ·rename_i e
   have U:=dJ he e
   simp only[aI]at U
   obtain⟨l,J,h1⟩:=U
   simp only[Option.some.injEq]at h
   subst h
   exact⟨_,.pure (by simp only[bL,J]; rfl),by simp only[aI]; rw[bV.length h1]⟩
  ·rename_i e
   have U:=dJ he e
   simp only[aI]at U
   obtain⟨y,l,aW,J,h1⟩:=U
   simp only[Option.some.injEq]at h
   subst h
   exact⟨_,.pure (by simp only[bL,J]; rfl),by simp only[aI]; rw[bV.length h1]⟩
  ·rename_i e
   have U:=dJ he e
   simp only[aI]at U
   simp only[Option.some.injEq]at h
   subst h
   exact⟨_,.pure (by simp only[bL,U]; rfl),by simp only[aI]⟩
  ·cases h
 case pE n=>
  simp only[Option.some.injEq]at h
  subst h
  exact⟨_,.pure rfl,by simp only[aI]⟩
 case j4 ll xs=>
  have aE:=nq he xs
  split at h
  ·rename_i a rest e
   rw[e]at aE
   simp only[bd]at aE
   obtain⟨cw,aP1,cd,h1,J⟩:=aE
   obtain⟨br,bA⟩:=Mk ll _ _ _ _ v h1 J h
   exact⟨v,.pure (by simp only[bL,cd]; exact br),bA⟩
  ·cases h
 case iW x cm ae=>
  split at h
  ·rename_i b e
   have U:=dJ he e
   simp only[aI]at U
   split at h
   ·rename_i l m aj aq
    cases hb:(aV2 l m&&aV2 m b.length) with
    |false=>rw[hb]at h; cases h
    |true=>
     rw[hb]at h
     simp only[cond_true,Option.some.injEq]at h
     subst h
     simp only[aT0,bb2]at hb
     exact⟨_,.iW U (wj he aj) (wj he aq) hb.1 hb.2,by simp only[aI]⟩
   ·cases h
  ·cases h
 case gL size x cm ae lp=>
  cases lp with
  |some _=>cases h
  |none=>
   simp only at h
   split at h
   ·rename_i rows e
    obtain⟨bM,J,h1⟩:=at6 (jC he x) e
    split at h
    ·rename_i l m aj aq
     cases hb:(aV2 l m&&aV2 m rows.length) with
     |false=>rw[hb]at h; cases h
     |true=>
      rw[hb]at h
      simp only[cond_true,Option.some.injEq]at h
      subst h
      simp only[aT0,bb2]at hb
      obtain⟨mb,fN⟩:=hb
      exact⟨_,.gL J (wj he aj) (by rw[bV.length h1]; exact wj he aq) mb (by rw[bV.length h1]; exact fN),by simp only[aI]; exact⟨_,rfl,(h1.take _).drop _⟩⟩
    ·cases h
   ·cases h
 case extract i x=>
  split at h
  ·rename_i e
   have U:=dJ he e
   simp only[aI]at U
   obtain⟨l,J,h1⟩:=U
   obtain⟨bp,g1,g2⟩:=bd.get h1 _ _ h
   exact⟨bp,.pure (by simp only[bL,J]; exact g1),g2⟩
  ·cases h
 case iS f cap=>
  simp only[Option.some.injEq]at h
  subst h
  exact⟨_,.pure rfl,by simp only[aI]; exact⟨_,rfl,nq he cap⟩⟩
 case sE f cap=>
  simp only[Option.some.injEq]at h
  subst h
  exact⟨_,.pure rfl,by simp only[aI]; exact⟨_,rfl,nq he cap⟩⟩
 case jh T x=>
  split at h
  ·rename_i b e
   have U:=dJ he e
   simp only[aI]at U
   simp only[Option.some.injEq]at h
   subst h
   exact⟨_,.jh U,by simp only[aI]; exact⟨_,rfl,Hm b⟩⟩
  ·cases h
 case qd int x=>
  split at h
  ·rename_i k n e
   have U:=dJ he e
   simp only[aI]at U
   simp only[Option.some.injEq]at h
   subst h
   exact⟨_,.pure (by simp only[bL,U]; rfl),by simp only[aI]⟩
  ·rename_i rows e
   have U:=dJ he e
   simp only[aI]at U
   obtain⟨l,J,h1⟩:=U
   cases hb:km rows with
   |none=>simp [hb]at h
   |some b=>
    simp only[hb,aV5,Option.some.injEq]at h
    subst h
    exact⟨_,.pure (by simp only[bL,J,CB hb h1]; rfl),by simp only[aI]⟩
  ·rename_i t rows e
   have U:=dJ he e
   simp only[aI]at U
   obtain⟨y,l,aW,J,h1⟩:=U
   cases hb:km rows with
   |none=>simp [hb]at h
   |some b=>
    simp only[hb,aV5,Option.some.injEq]at h
    subst h
    exact⟨_,.pure (by simp only[bL,J,CB hb h1]; rfl),by simp only[aI]⟩
  ·rename_i n c e
   have U:=dJ he e
   simp only[aI]at U
   simp only[Option.some.injEq]at h
   subst h
   exact⟨.str [],.pure (by simp only[bL,U]),by simp only[aI]⟩
  ·cases h
 case oR T x=>
  simp only[Option.some.injEq]at h
  subst h
  exact⟨_,.pure rfl,by simp only[aI]; exact⟨_,rfl,jC he x⟩⟩
 case oO neg x=>
  split at h
  ·rename_i e
   have U:=dJ he e
   simp only[aI]at U
   simp only[Option.some.injEq]at h
   subst h
   exact⟨_,.tL U,by simp only[aI]⟩
  ·rename_i e
   have U:=dJ he e
   simp only[aI]at U
   obtain⟨l,J,h1⟩:=U
   simp only[Option.some.injEq]at h
   subst h
   refine⟨_,.tK J (fun a8=> ?_),by simp only[aI]⟩
   subst a8
   simpa using bV.length h1
  ·cases h
 case hV x=>
  split at h
  ·rename_i t ver e
   have U:=dJ he e
   simp only[aI]at U
   obtain⟨y,h1,J⟩:=U
   split at h
   ·rename_i T size fW rows aq
    cases ad:fW==ver with
    |false=>rw[ad]at h; cases h
    |true=>
     rw[ad]at h
     simp only[cond_true,Option.some.injEq]at h
     subst h
     have ad:=Bi ad
     subst ad
     obtain⟨z,l,g1,g2,g3⟩:=ab.bc aq
     rw[h1]at g1
     cases g1
     exact⟨_,.hV J g2,by simp only[aI]; rw[bV.length g3]⟩
   ·cases h
  ·cases h
 case hs ok z x k=>
  split at h
  ·rename_i t ver q e cd
   have U:=dJ he e
   have hk:=dJ he cd
   simp only[aI]at U hk
   obtain⟨y,h1,J⟩:=U
   split at h
   ·rename_i T fW rows aq
    cases ad:(fW==ver&&b9 [z]) with
    |false=>rw[ad]at h; cases h
    |true=>
     rw[ad]at h
     simp only[cond_true]at h
     simp only[aT0]at ad
     obtain⟨ad,aD⟩:=ad
     have ad:=Bi ad
     subst ad
     obtain⟨w,l,g1,g2,g3⟩:=ab.bk aq
     rw[h1]at g1
     cases g1
     cases hm:lm q rows with
     |none=>rw[hm]at h; cases h
     |some r=>
      rw[hm]at h
      simp only[aV5,Option.some.injEq]at h
      subst h
      rcases Mf q rows l r g3 hm with ⟨rfl,f2⟩|⟨Gk,Gl,rfl,f2,f3⟩
      ·exact⟨_,.hs J g2 hk f2,Ez aD (.inl ⟨rfl,rfl⟩)⟩
      ·exact⟨_,.hs J g2 hk f2,Ez aD (.inr ⟨_,_,rfl,rfl,f3⟩)⟩
   ·cases h
  ·rename_i q e cd
   have U:=dJ he e
   have hk:=dJ he cd
   simp only[aI]at U hk
   cases aD:b9 [z] with
   |false=>rw[aD]at h; cases h
   |true=>
    rw[aD]at h
    simp only[cond_true,Option.some.injEq]at h
    subst h
    exact⟨_,.pF U hk,Ez aD (.inl ⟨rfl,rfl⟩)⟩
  ·cases h
 case iB off x=>
  split at h
  ·rename_i t ver k e
   have U:=dJ he e
   simp only[aI]at U
   obtain⟨y,h1,J⟩:=U
   split at h
   ·rename_i T size fW rows aq
    cases ad:fW==ver with
    |false=>rw[ad]at h; cases h
    |true=>
     rw[ad]at h
     simp only[cond_true,Option.some.injEq]at h
     subst h
     have ad:=Bi ad
     subst ad
     obtain⟨z,l,g1,g2,g3⟩:=ab.bc aq
     rw[h1]at g1
     cases g1
     exact⟨_,.iB J g2,by simp only[aI]; exact⟨_,h1,rfl⟩⟩
   ·cases h
  ·cases h
 case hE size x i=>
  split at h
  ·rename_i t ver k n e aj
   have U:=dJ he e
   have ae:=dJ he aj
   simp only[aI]at U ae
   obtain⟨y,h1,J⟩:=U
   split at h
   ·rename_i T ka fW rows aq
    cases ad:(fW==ver&&ka==size) with
    |false=>rw[ad]at h; cases h
    |true=>
     rw[ad]at h
     simp only[cond_true,aW3]at h
     simp only[aT0,beq_iff_eq]at ad
     obtain⟨rfl,rfl⟩:=ad
     obtain⟨j,br,rfl⟩:=h
     obtain⟨z,l,g1,g2,g3⟩:=ab.bc aq
     rw[h1]at g1
     cases g1
     obtain⟨bA,cy,rfl⟩:=wg br
     exact⟨_,.hE J g2 ae bA (by rw[bV.length g3]; exact cy),by simp only[aI]; exact⟨_,h1,rfl⟩⟩
   ·cases h
  ·cases h
 case ib agg n x=>
  split at h
  ·rename_i t ver k e
   have U:=dJ he e
   simp only[aI]at U
   obtain⟨y,h1,J⟩:=U
   split at h
   ·rename_i T size fW rows aq
    cases ad:fW==ver with
    |false=>rw[ad]at h; cases h
    |true=>
     rw[ad]at h
     simp only[cond_true]at h
     have ad:=Bi ad
     subst ad
     obtain⟨z,l,g1,g2,g3⟩:=ab.bc aq
     rw[h1]at g1
     cases g1
     obtain⟨br,bp,bA,cy⟩:=si g3.flatten h
     exact⟨bp,.ib J g2 br bA,cy⟩
   ·cases h
  ·cases h
 case eu T size n zero parts=>
  cases ah:((parts.map fun p=>bi env p.2).all I.ev&&(((parts.map fun p=>bi env p.2).map I.cells).all (fun r=>r.length==size)&&((parts.map fun p=>bi env p.2).map I.cells).flatten.all I.one)) with
  |false=>rw[ah]at h; cases h
  |true=>
   rw[ah,cond_true,Option.some.injEq]at h
   subst h
   rw[aT0,aT0]at ah
   obtain⟨h1,J,aA⟩:=ah
   have hb:=Cy he parts h1
   exact⟨_,.nS rfl (hb.FL J) (hb.flatten.w6 aA),by simp only[aI]; exact⟨_,rfl,hb⟩⟩
structure aJ where
 H:aw
 bN:Nat
 bf:Nat
def aJ.new:aJ:=⟨.none,0,0⟩
def aJ.pg (c:aJ) (T:TypeId) (cs:List I):aJ:=⟨c.H.cc c.bN T cs,c.bN+1,c.bf⟩
def aJ.fw (c:aJ) (o:bB):aJ:=⟨c.H.b7 c.bf o,c.bN,c.bf+1⟩
def aJ.cc (c:aJ) (b:Nat) (T:TypeId) (cs:List I):aJ:=⟨c.H.cc b T cs,c.bN,c.bf⟩
def aJ.b7 (c:aJ) (t:Nat) (o:bB):aJ:=⟨c.H.b7 t o,c.bN,c.bf⟩
structure ea (H0:aw) (s:bl) (c:aJ) (H:aw):Prop extends HR H0 s c.H H where
 bN:c.bN=s.b.length
 bf:c.bf=s.t.length
section
variable {P:Program}{s:bl}{env a7:Env}{H0 H:aw}{c:aJ}
theorem gm.mono {bF:bl}(e:bl.dU s bF){i c3:bB}(h:gm s i c3):gm bF i c3:=by
 obtain⟨h1,J,aA,bz,bZ⟩:=h
 refine⟨h1,J,aA,bz,?_⟩
 cases ah:i.kq with
 |none=>rw[ah]at bZ; exact bZ
 |some rows=>rw[ah]at bZ; obtain⟨l,aj,aq⟩:=bZ; exact⟨l,aj,bV.mono e _ _ aq⟩
theorem wz {l:List Nat}{x i y:Nat}(h:(l++[x])[i]? =some y):l[i]? =some y∨(i=l.length∧y=x):=by
 by_cases ae:i<l.length
 ·rw[aX7 ae]at h
  exact .inl h
 ·rw[aZ8 (by omega)]at h
  by_cases aW:i=l.length
  ·subst aW
   simp at h
   exact .inr ⟨rfl,h.symm⟩
  ·have:i-l.length=(i-l.length-1)+1:=by omega
   rw[this]at h
   simp at h
theorem z7 {l:List Nat}{x i y:Nat}(h:l[i]? =some y):(l++[x])[i]? =some y:=by
 have ae:i<l.length:=(List.getElem?_eq_some_iff.1 h).1
 rw[aX7 ae,h]
theorem mE {l:List Nat}{x:Nat}:(l++[x])[l.length]? =some x:=by simp
theorem bl.yN (s:bl) (x:Nat):bl.dU s ⟨s.b++[x],s.t⟩:=⟨fun _ _ h=>z7 h,fun _ _ h=>h⟩
theorem bl.jJ (s:bl) (x:Nat):bl.dU s ⟨s.b,s.t++[x]⟩:=⟨fun _ _ h=>h,fun _ _ h=>z7 h⟩
theorem ea.pg (h:ea H0 s c H){T:TypeId}{cs cn:List I}(ah:bd s cs cn){x:Nat}(U:H.aV x=none):ea H0 ⟨s.b++[x],s.t⟩ (c.pg T cs) (H.cc x T cn) where
 base:=h.base.cc (h.base.vo U)
 aV:=fun b cu l hb=>by
  simp only[aJ.pg,aw.cc]at hb
  split at hb
  ·rename_i e
   subst e
   cases hb
   exact⟨x,cn,by rw[h.bN]; exact mE,by simp [aw.cc],bd.mono (bl.yN s x) _ _ ah⟩
  ·obtain⟨y,bM,g1,g2,g3⟩:=h.aV b cu l hb
   refine⟨y,bM,z7 g1,?_,bd.mono (bl.yN s x) _ _ g3⟩
   simp only[aw.cc]
   rw[if_neg (by intro e; subst e; rw[U]at g2; cases g2)]
   exact g2
 tok:=fun t i hb=>by
  obtain⟨y,c3,g1,g2,g3⟩:=h.tok t i hb
  exact⟨y,c3,g1,g2,g3.mono (bl.yN s x)⟩
 kE:=fun b y hb=>by
  rcases wz hb with g|⟨_,rfl⟩
  ·obtain⟨g1,z,g2⟩:=h.kE b y g
   refine⟨g1,z,?_⟩
   simp only[aw.cc]
   rw[if_neg (by intro e; subst e; rw[U]at g2; cases g2)]
   exact g2
  ·exact⟨h.base.vo U,(T,cn),by simp [aw.cc]⟩
 jK:=fun t y hb=>h.jK t y hb
 kS:=fun b bJ y h1 J=>by
  rcases wz h1 with g|⟨aj,rfl⟩<;>rcases wz J with g'|⟨aq,bD⟩
  ·exact h.kS b bJ y g g'
  ·subst bD
   obtain⟨_,z,g2⟩:=h.kE b _ g
   rw[U]at g2
   cases g2
  ·obtain⟨_,z,g2⟩:=h.kE bJ _ g'
   rw[U]at g2
   cases g2
  ·omega
 lP:=h.lP
 bN:=by simp [aJ.pg,h.bN]
 bf:=h.bf
theorem ea.fw (h:ea H0 s c H){o o':bB}(ah:gm s o o'){x:Nat}(U:H.tok x=none):ea H0 ⟨s.b,s.t++[x]⟩ (c.fw o) (H.b7 x o') where
 base:=h.base.b7 (h.base.ME U)
 tok:=fun b i hb=>by
  simp only[aJ.fw,aw.b7]at hb
  split at hb
  ·rename_i e
   subst e
   cases hb
   exact⟨x,o',by rw[h.bf]; exact mE,by simp [aw.b7],ah.mono (bl.jJ s x)⟩
  ·obtain⟨y,bM,g1,g2,g3⟩:=h.tok b i hb
   refine⟨y,bM,z7 g1,?_,g3.mono (bl.jJ s x)⟩
   simp only[aw.b7]
   rw[if_neg (by intro e; subst e; rw[U]at g2; cases g2)]
   exact g2
 aV:=fun t T i hb=>by
  obtain⟨y,c3,g1,g2,g3⟩:=h.aV t T i hb
  exact⟨y,c3,g1,g2,bd.mono (bl.jJ s x) _ _ g3⟩
 jK:=fun b y hb=>by
  rcases wz hb with g|⟨_,rfl⟩
  ·obtain⟨g1,z,g2⟩:=h.jK b y g
   refine⟨g1,z,?_⟩
   simp only[aw.b7]
   rw[if_neg (by intro e; subst e; rw[U]at g2; cases g2)]
   exact g2
  ·exact⟨h.base.ME U,o',by simp [aw.b7]⟩
 kE:=fun t y hb=>h.kE t y hb
 lP:=fun b bJ y h1 J=>by
  rcases wz h1 with g|⟨aj,rfl⟩<;>rcases wz J with g'|⟨aq,bD⟩
  ·exact h.lP b bJ y g g'
  ·subst bD
   obtain⟨_,z,g2⟩:=h.jK b _ g
   rw[U]at g2
   cases g2
  ·obtain⟨_,z,g2⟩:=h.jK bJ _ g'
   rw[U]at g2
   cases g2
  ·omega
 kS:=h.kS
 bN:=h.bN
 bf:=by simp [aJ.fw,h.bf]
theorem ea.cc (h:ea H0 s c H){b x:Nat}(hb:s.b[b]? =some x){T:TypeId}{cs cn:List I}(ah:bd s cs cn):ea H0 s (c.cc b T cs) (H.cc x T cn) where
 base:=h.base.cc (h.kE b x hb).1
 aV:=fun bJ cu l gd=>by
  simp only[aJ.cc,aw.cc]at gd
  split at gd
  ·rename_i e
   subst e
   cases gd
   exact⟨x,cn,hb,by simp [aw.cc],ah⟩
  ·rename_i dP
   obtain⟨y,bM,g1,g2,g3⟩:=h.aV bJ cu l gd
   refine⟨y,bM,g1,?_,g3⟩
   simp only[aw.cc]
   rw[if_neg (by intro e; subst e; exact dP (h.kS _ _ _ g1 hb))]
   exact g2
 tok:=h.tok
 kE:=fun bJ y gd=>by
  obtain⟨g1,z,g2⟩:=h.kE bJ y gd
  refine⟨g1,?_⟩
  simp only[aw.cc]
  split
  ·exact⟨_,rfl⟩
  ·exact⟨z,g2⟩
 jK:=h.jK
 kS:=h.kS
 lP:=h.lP
 bN:=h.bN
 bf:=h.bf
theorem ea.b7 (h:ea H0 s c H){b x:Nat}(hb:s.t[b]? =some x){o o':bB}(ah:gm s o o'):ea H0 s (c.b7 b o) (H.b7 x o') where
 base:=h.base.b7 (h.jK b x hb).1
 tok:=fun bJ l gd=>by
  simp only[aJ.b7,aw.b7]at gd
  split at gd
  ·rename_i e
   subst e
   cases gd
   exact⟨x,o',hb,by simp [aw.b7],ah⟩
  ·rename_i dP
   obtain⟨y,bM,g1,g2,g3⟩:=h.tok bJ l gd
   refine⟨y,bM,g1,?_,g3⟩
   simp only[aw.b7]
   rw[if_neg (by intro e; subst e; exact dP (h.lP _ _ _ g1 hb))]
   exact g2
 aV:=h.aV
 jK:=fun bJ y gd=>by
  obtain⟨g1,z,g2⟩:=h.jK bJ y gd
  refine⟨g1,?_⟩
  simp only[aw.b7]
  split
  ·exact⟨_,rfl⟩
  ·exact⟨z,g2⟩
 kE:=h.kE
 kS:=h.kS
 lP:=h.lP
 bN:=h.bN
 bf:=h.bf
theorem ea.start (H:aw):ea H ⟨[],[]⟩ .new H where
 base:=HSub.refl H
 aV:=fun _ _ _ h=>by cases h
 tok:=fun _ _ h=>by cases h
 kE:=fun _ _ h=>by simp at h
 jK:=fun _ _ h=>by simp at h
 kS:=fun _ _ _ h=>by simp at h
 lP:=fun _ _ _ h=>by simp at h
 bN:=rfl
 bf:=rfl
theorem qG: ∀(b:List UInt8),eD (b.map fun c=>[I.int .u8 c.toNat])=true
 |[]=>rfl
 | _::b=>by simp only[aU5,eD,b9,I.flat,qG b]; rfl
theorem P5 {size:Nat}{a cw:I}{rows:List (List I)}(h:aI s a cw) (ab:rowsOf size a=some rows): ∃rows',rowsOf size cw=some rows'∧bV s rows rows':=by
 cases a<;>simp only[rowsOf,reduceCtorEq]at ab
 case str b=>
  simp only[aI]at h
  subst h
  refine⟨rows,ab,?_⟩
  split at ab
  ·simp only[Option.some.injEq]at ab
   subst ab
   exact (nB _ (qG b) _).2 rfl
  ·cases ab
 case dI v=>
  simp only[aI]at h
  subst h
  refine⟨rows,ab,?_⟩
  split at ab
  ·rename_i e
   cases e
  ·rename_i e
   cases e
  ·cases ab
   simp [bV]
  ·rename_i e
   cases e
  ·cases ab
 case ak n l=>
  simp only[aI]at h
  obtain⟨bM,rfl,h1⟩:=h
  split at ab
  ·rename_i e
   simp only[Option.some.injEq]at ab
   subst ab
   exact⟨bM,by simp only[rowsOf,if_pos e],h1⟩
  ·cases ab
 case own t n l=>
  simp only[aI]at h
  obtain⟨x,bM,aW,rfl,h1⟩:=h
  split at ab
  ·rename_i e
   simp only[Option.some.injEq]at ab
   subst ab
   exact⟨bM,by simp only[rowsOf,if_pos e],h1⟩
  ·cases ab
end
mutual
def I.aQ:I→I
 | .own _ n rows=> .ak n rows
 | .agg cs=> .agg (jt cs)
 | .cV cs=> .cV (jt cs)
 | .ec=> .ec
 | .bool b=> .bool b
 | .int k n=> .int k n
 | .str b=> .str b
 | .dI v=> .dI v
 | .ptr b o=> .ptr b o
 | .ak n rows=> .ak n rows
 | .cz t v=> .cz t v
 | .mp t v k=> .mp t v k
 | .dL r o=> .dL r o
 | .fn f c=> .fn f c
 | .gJ t v=> .gJ t v
def jt:List I→List I
 |[]=>[]
 |a::az=>a.aQ::jt az
end
mutual
theorem xx {s:bl}{m:Mem}: ∀(a cw:I),aI s a cw→a.aQ.flat=true→∀v,aK m cw v→aK m a.aQ v
 | .own t n rows,cw,h,aO,v,ad=>by
  simp only[I.aQ,I.flat]at aO ⊢
  simp only[aI]at h
  obtain⟨x,l,_,rfl,h1⟩:=h
  have:=(nB rows aO l).1 h1
  subst this
  simp only[aK]at ad ⊢
  exact ad.1
 | .agg cs,cw,h,aO,v,ad=>by
  simp only[I.aQ,I.flat]at aO ⊢
  simp only[aI]at h
  obtain⟨l,rfl,h1⟩:=h
  simp only[aK]at ad ⊢
  obtain⟨rG,aj,aq⟩:=ad
  exact⟨rG,aj,Gi cs l h1 aO rG aq⟩
 | .cV cs,cw,h,aO,v,ad=>by
  simp only[I.aQ,I.flat]at aO ⊢
  simp only[aI]at h
  obtain⟨l,rfl,h1⟩:=h
  simp only[aK]at ad ⊢
  obtain⟨rG,aj,aq⟩:=ad
  exact⟨rG,aj,Gi cs l h1 aO rG aq⟩
 | .ec,cw,h,aO,v,ad=>by simp only[I.aQ,aK]
 | .bool b,cw,h,aO,v,ad=>by simp only[I.aQ]at aO ⊢; rw[I.j1 _ aO]at h; subst h; exact ad
 | .int k n,cw,h,aO,v,ad=>by simp only[I.aQ]at aO ⊢; rw[I.j1 _ aO]at h; subst h; exact ad
 | .str b,cw,h,aO,v,ad=>by simp only[I.aQ]at aO ⊢; rw[I.j1 _ aO]at h; subst h; exact ad
 | .dI b,cw,h,aO,v,ad=>by simp only[I.aQ]at aO ⊢; rw[I.j1 _ aO]at h; subst h; exact ad
 | .ptr b o,cw,h,aO,v,ad=>by simp only[I.aQ,I.flat]at aO; cases aO
 | .ak n rows,cw,h,aO,v,ad=>by simp only[I.aQ]at aO ⊢; rw[I.j1 _ aO]at h; subst h; exact ad
 | .cz t ver,cw,h,aO,v,ad=>by simp only[I.aQ,I.flat]at aO; cases aO
 | .mp t ver k,cw,h,aO,v,ad=>by simp only[I.aQ,I.flat]at aO; cases aO
 | .dL r o,cw,h,aO,v,ad=>by simp only[I.aQ]at aO ⊢; rw[I.j1 _ aO]at h; subst h; exact ad
 | .fn f c,cw,h,aO,v,ad=>by simp only[I.aQ]at aO ⊢; rw[I.j1 _ aO]at h; subst h; exact ad
 | .gJ t x,cw,h,aO,v,ad=>by simp only[I.aQ]at aO ⊢; rw[I.j1 _ aO]at h; subst h; exact ad
theorem Gi {s:bl}{m:Mem}: ∀(az l:List I),bd s az l→b9 (jt az)=true→∀rG,aM m l rG→aM m (jt az) rG
 |[],l,h,_,rG,ad=>by
  simp only[bd]at h
  subst h
  simpa only[jt] using ad
 |a::az,l,h,aO,rG,ad=>by
  simp only[bd]at h
  obtain⟨cw,bM,rfl,h1,J⟩:=h
  simp only[jt,b9,aT0]at aO ⊢
  simp only[aM]at ad ⊢
  obtain⟨v,ak,aj,aq,bD⟩:=ad
  exact⟨v,ak,aj,xx a cw h1 aO.1 v aq,Gi az bM J aO.2 ak bD⟩
end
theorem B3 {s:bl}: ∀(az l:List I),bd s az l→b9 (jt az)=true→dD l (jt az)
 |[],l,h,_=>by
  simp only[bd]at h
  subst h
  simp only[jt,dD]
 |a::az,l,h,aO=>by
  simp only[bd]at h
  obtain⟨cw,bM,rfl,h1,J⟩:=h
  simp only[jt,b9,aT0]at aO ⊢
  simp only[dD]
  exact⟨_,_,rfl,fun m v ad=>xx a cw h1 aO.1 v ad,B3 az bM J aO.2⟩
def qe (env:Env) (parts:List (Nat×aH)):List (List I):=(parts.map fun p=>bi env p.2).map I.cells
def rf (env:Env) (size:Nat) (parts:List (Nat×aH)):Bool:=(parts.map fun p=>bi env p.2).all I.ev&&((qe env parts).all (fun r=>r.length==size)&&((qe env parts).flatten.all I.one&& !(size==0)))
abbrev vP:=FuncId→List I→aJ→Option (I×aJ)
def chunks (size:Nat):Nat→List I→List (List I)
 |0,_=>[]
 |n+1,l=>l.take size::chunks size n (l.drop size)
theorem HN (size:Nat): ∀(n:Nat) (l:List I),l.length=n*size→(chunks size n l).flatten=l∧(∀r∈chunks size n l,r.length=size)∧(chunks size n l).length=n
 |0,l,h=>by
  have:l=[]:=List.length_eq_zero_iff.1 (by omega)
  subst this
  simp [chunks]
 |n+1,l,h=>by
  have an:size≤l.length:=by rw[h,aW4]; omega
  obtain⟨aj,aq,bD⟩:=HN size n (l.drop size) (by rw[bd3,h,aW4]; omega)
  refine⟨by simp only[chunks,List.flatten_cons,aj,List.take_append_drop],fun r ab=> ?_,by simp only[chunks,aT3,bD]⟩
  simp only[chunks,aV8]at ab
  rcases ab with rfl|ab
  ·rw[aX3]; omega
  ·exact aq r ab
theorem HO {s:bl}(size:Nat): ∀(n:Nat) (l bM:List I),bd s l bM→bV s (chunks size n l) (chunks size n bM)
 |0,_,_,_=>by simp [chunks,bV]
 |n+1,l,bM,h=>by simp only[chunks,bV]; exact⟨_,_,rfl,h.take size,HO size n _ _ (h.drop size)⟩
def tf (c:aJ) (b o n:Nat) (x:I):Option (I×aJ):=
 match c.H.aV b with
 |some (T,cs)=>bif (x.ev&&x.cells.length==n)&&(aV2 (o+n) cs.length&&x.cells.all I.one) then some (.undef,c.cc b T (fs cs o x.cells)) else none
 |none=>none
def x2 (c:aJ) (t ver k n:Nat) (x:I):Option (I×aJ):=
 match c.H.tok t with
 |some ⟨T,size,0,fW,some rows⟩=>
  bif (fW==ver&&(x.ev&&x.cells.length==n))&&((aV2 (k+n) rows.flatten.length&&x.cells.all I.one)&&rows.flatten.length==rows.length*size) then some (.undef,c.b7 t (.bc T size ver (chunks size rows.length (fs rows.flatten k x.cells)))) else none
 | _=>none
def CM (c:aJ) (T size bytes:Nat) (x:I) (new:List (List I)):Option (I×aJ):=
 match x with
 | .dI (.slice none 0 0)=>bif aV2 (new.length*bytes) 140737488355328&&(aV2 new.length maxLen&& !(size==0)) then some (.own c.bf size new,c.fw (.bP T size new.length)) else none
 | .own t ka rows=>match c.H.tok t with
  |some ⟨cu,z,n,ver,none⟩=>bif (cu==T&&(z==size&&(n==rows.length&&(ver==rows.length&&ka==size))))&&(aV2 ((rows.length+new.length)*bytes) 140737488355328&&aV2 (rows.length+new.length) maxLen) then some (.own t size (rows++new),c.b7 t (.bP T size (rows.length+new.length))) else none
  | _=>none
 | _=>none
def CN (c:aJ) (T size bytes:Nat) (x:I) (new:List (List I)):Option (I×aJ):=
 match x with
 | .dI (.slice none 0 0)=>bif aV2 (new.length*bytes) 140737488355328&&(aV2 new.length maxLen&& !(size==0)) then some (.cz c.bf 0,c.fw (.bc T size 0 new)) else none
 | .cz t ver=>match c.H.tok t with
  |some ⟨cu,z,0,fW,some rows⟩=>bif (cu==T&&(z==size&&fW==ver))&&(aV2 ((rows.length+new.length)*bytes) 140737488355328&&aV2 (rows.length+new.length) maxLen) then some (.cz t (ver+1),c.b7 t (.bc T size (ver+1) (rows++new))) else none
  | _=>none
 | _=>none
def CU (c:aJ) (env:Env) (size t ver:Nat) (cm ae:Option aH):Option (I×aJ):=
 match c.H.tok t with
 |some ⟨T,ka,0,fW,some rows⟩=>match nu env 0 cm,nu env rows.length ae with
  |some q,some h=>bif (fW==ver&&ka==size)&&(aV2 h rows.length&&aV2 q h) then some (.cz t (ver+1),c.b7 t (.bc T size (ver+1) ((rows.take h).drop q))) else none
  | _,_=>none
 | _=>none
def CR (c:aJ) (t ver:Nat) (s:List UInt8) (v:I):Option (I×aJ):=
 match c.H.tok t with
 |some ⟨T,2,1,fW,some rows⟩=>bif fW==ver&&v.one then (j5 s v rows).map fun r=>(.undef,c.b7 t (.bk T ver r)) else none
 | _=>none
def hQ (env:Env) (b j:Nat):Bool:=
 match env.get j with
 | .ptr jf 0=> !(jf==b)
 | _=>false
def k9 (cvs:List FuncId) (cl:vP) (op:ba) (env:Env) (c:aJ):Option (I×aJ):=
 match op with
 | .box T x=>bif (bi env x).ev&&(bi env x).cells.all I.one then some (.ptr c.bN 0,c.pg T (bi env x).cells) else none
 | .alloc T zero=>bif b9 zero&&zero.all I.one then some (.ptr c.bN 0,c.pg T zero) else none
 | .l4 T size n zero parts=>bif rf env size parts then some (.own c.bf size (qe env parts),c.fw (.bP T size (qe env parts).length)) else none
 | .lF T size n zero parts=>bif rf env size parts then some (.cz c.bf 0,c.fw (.bc T size 0 (qe env parts))) else none
 | .mR T size bytes zero x=>match bi env x with
  | .int _ (.ofNat n)=>bif aV2 (bytes*n) 281474976710656&&(aV2 n maxLen&&(b9 zero&&(zero.all I.one&&(zero.length==size&& !(size==0))))) then some (.cz c.bf 0,c.fw (.bc T size 0 (aU2 n zero))) else none
  | _=>none
 | .mkMap T=>some (.cz c.bf 0,c.fw (.bk T 0 []))
 | .append T size bytes x y=>match rowsOf size (bi env y) with
  |some new=>CM c T size bytes (bi env x) new
  |none=>none
 | .lD T size bytes x y=>match rowsOf size (bi env y) with
  |some new=>CN c T size bytes (bi env x) new
  |none=>none
 | .mo size x cm ae=>match bi env x with
  | .cz t ver=>CU c env size t ver cm ae
  | _=>none
 | .store n a v=>match bi env a with
  | .ptr b o=>tf c b o n (bi env v)
  | .mp t ver k=>x2 c t ver k n (bi env v)
  | _=>none
 | .gF eJ others n a v=>match env.get eJ,bi env a with
  | .ptr b 0,.ptr bJ o=>bif bJ==b&&others.all (hQ env b) then tf c b o n (bi env v) else none
  | _,_=>none
 | .mQ x k v=>match bi env x,bi env k with
  | .cz t ver,.str s=>CR c t ver s (bi env v)
  | _,_=>none
 | .call f args=>cl f (args.map (bi env)) c
 | .fx x args=>match bi env x with
  | .fn f cap=>bif cvs.contains f then cl f (args.map (bi env)++cap) c else bif aV2 iy f&&cvs.contains (f-iy) then cl (f-iy) (cap++args.map (bi env)) c else none
  | _=>none
 |op=>(e4 op env c.H).map fun v=>(v,c)
end Go.aX
