/- Part of a proof; own work. -/
import Derived.Orders
import Derived.Test.YtlemhelnmidpfaaGreatDoorRS1
set_option linter.unusedVariables false
set_option linter.unusedSimpArgs false
open Array renaming ext'→bl2,length_toList→bg4,getD_eq_getD_getElem?→bd9,getElem?_setIfInBounds_ne→bh9,getElem?_eq_getElem→bm2,all_eq_true_iff_forall_mem→bm4,replicate→bk9
open Bool renaming and_eq_true→bb6,not_eq_true'→bg6,or_eq_true→bm0,false_eq_true→bd5
open Int renaming natCast_nonneg→bp9
open List renaming mem_of_getElem?→bc2,replicate→bc9,mem_append→bf7,mem_cons→be4,getD→bo4,cons_append→bd2,map_cons→bd4,range→bq8,getD_eq_getElem?_getD→be7,getElem?_append_left→bh0,getElem?_append_right→bj1,getElem?_cons_zero→bi9,all_eq_true→bj8,mem_zipIdx_iff_getElem?→bi5,mem_range→bt7,pairwise_append→bp4,getElem?_take→be8,getElem?_drop→bj0,mapM_cons→bq7,all_cons→bd3,pairwise_lt_range→bt6,getElem?_eq_getElem→bd1,take_succ_cons→bg0,length_append→bb7,length_drop→bl7,length_take→be9,length_nil→bc4,length_map→bb5,length_cons→bb9
open Nat renaming add_assoc→bj2,le_refl→bc1,zero_add→bf6,blt_eq→bo3,blt→bf8,le_of_ble_eq_true→bh6,reduceBEq→bl3,reduceAdd→bl4,ble→be1,ble_eq→bj9,add_mul→bf3
open Option renaming isNone_iff_eq_none→bs5,getD_some→bh1,map_some→bf0,map_eq_some_iff→bf2
namespace Go.ba
open Go
section
variable {P:Program}{m:Mem}{env:Env}{a:Act}{o:Oper}
theorem aG1 {r:I}{K:Act→World→Prop}{Q:Exit→Act→World→Prop}(q:fJ P m a o r) (h: ∀v,aP m r v→K (a.put o.dst v) m.w):o.wp P a m.w K Q:=by
 obtain⟨v,U,aa⟩:=q
 exact nL U (h v aa)
theorem qo {m:Mem}: ∀ {az ca:List I}{l:List Value},dZ az ca→aR m az l→aR m ca l
 |[],ca,l,h,k=>by simp only[dZ]at h; subst h; exact k
 |a::az,ca,l,h,k=>by
  simp only[dZ]at h
  obtain⟨b,ca,rfl,U,aa⟩:=h
  simp only[aR]at k ⊢
  obtain⟨v,aq,rfl,br,bB⟩:=k
  exact⟨v,aq,rfl,U _ _ br,qo aa bB⟩
theorem DG {P:Program}{f:FuncId}(h:c6 P f=true):f<jp:=by
 unfold c6 at h
 split at h
 ·simp only[bb6]at h
  simpa using h.2
 ·cases h
theorem zT {P:Program}{w:World}{f:FuncId}{args:Array Value}(h:c6 P f=true):(callFunc f args).run P w= .ok (.enter f args) w:=by
 unfold c6 at h
 split at h
 ·rename_i fn aT
  simp only[bb6,bg6]at h
  obtain⟨⟨U,aa⟩,_⟩:=h
  obtain⟨c,an⟩:=Option.isSome_iff_exists.1 U
  have MH: ¬fn.name= "runtime.NumGoroutine" :=by simpa using aa
  simp [callFunc,aT,MH,an]
 ·cases h
theorem zU {c:Call}{f:FuncId}{g:Operand}(aj:o.op= .call c) (an:c.callee= .value g) (bo:a.eval g= .func (.func f) #[] ⟨[]⟩) (aT:c6 P f=true) (w:World):(execOp a.eval o).run P w= .ok (.enter f (c.args.map a.eval)) w:=by
 have y4:a.eval g= .func (.func f) #[] #[]:=bo
 simp [execOp,aj,resolve,an,y4,Deferred.ofValue,invoke,zT aT]
theorem CG {c:Call}{f:FuncId}{g:Operand}{l:List Value}(aj:o.op= .call c) (an:c.callee= .value g) (y4:a.eval g=qD f l) (aT:c6 P f=true) (w:World):(execOp a.eval o).run P w= .ok (.enter f (c.args.map a.eval++⟨l⟩)) w:=by
 have bo:a.eval g= .func (.func f) #[] ⟨l⟩:=y4.trans (vf (DG aT) l)
 simp [execOp,aj,resolve,an,bo,Deferred.ofValue,invoke,zT aT]
theorem aJ6 {c:Call}{f:FuncId}{g:Operand}{l:List Value}(aj:o.op= .call c) (an:c.callee= .value g) (y4:a.eval g=qD (f+jp) l) (aT:c6 P f=true) (w:World):(execOp a.eval o).run P w= .ok (.enter f (⟨l⟩++c.args.map a.eval)) w:=by
 have bo:a.eval g= .func (.func f) ⟨l⟩ #[]:=y4.trans (Mr f l)
 simp [execOp,aj,resolve,an,bo,Deferred.ofValue,invoke,zT aT]
def Pq (P:Program) (o:Oper) (a:Act) (K:Act→World→Prop) (Q:Exit→Act→World→Prop):Ending→World→Prop
 | .returned v,w=>K (a.put o.dst v) w
 | .panicked chain,w=>Q (.panic chain) a w
 | .outgrown,_=>LetsOut Q
theorem sa {K:Act→World→Prop}{Q:Exit→Act→World→Prop}{w w':World}{f:FuncId}{args:Array Value}(h:(execOp a.eval o).run P w= .ok (.enter f args) w') (av:Calls P f args w' (Pq P o a K Q)):o.wp P a w K Q:=by
 simp only[Oper.wp,h,Oper.upon_enter]
 refine av.mono fun e bb2 he=> ?_
 cases e<;>exact he
theorem rp {f:FuncId}{az:List I}{aq:List Value}{R:Out→aA→Prop}{K:Act→World→Prop}{Q:Exit→Act→World→Prop}(bd:bW m) (ad:aR m az aq) (an:jE P f az m.H R)
  (U: ∀r aX v,R (.ret r) aX.H→bW aX→bV m aX→aP aX r v→K (a.put o.dst v) aX.w)
  (aa: ∀r aX v,R (.ey r) aX.H→bW aX→bV m aX→aP aX r v→Q (.panic [{v,recovered:=false}]) a aX.w):Calls P f ⟨aq⟩ m.w (Pq P o a K Q):=by
 refine (an m aq rfl bd ad).mono fun e w' he=> ?_
 obtain⟨zK,aC,gw,cG,cm,cA,dk,hF⟩:=he
 cases zK with
 |ret r=>
  simp only[rk]at dk
  obtain⟨v,rfl,dk⟩:=dk
  exact U r ⟨w',aC,gw,cG⟩ v hF cm cA dk
 |ey r=>
  simp only[rk]at dk
  obtain⟨v,rfl,dk⟩:=dk
  exact aa r ⟨w',aC,gw,cG⟩ v hF cm cA dk
theorem AL {t u T:TypeId}{size bytes:Nat}(h:(decide (jT P t=some T)&&(decide (jT P u=some T)||(match P.underlying u,P.underlying T with|some .string,some (.int .u8)=>true| _,_=>false))&&(match P.info? T with|some i=>decide (i.size=size)&&decide (i.bytes=bytes)&&(match i.zero with|some z=>decide (z.cells.size=size)|none=>false)|none=>false))=true):Nonempty (td P t u T size bytes):=by
 simp only[bb6,bm0,decide_eq_true_eq]at h
 obtain⟨⟨U,aa⟩,aD⟩:=h
 have gW: ∀ {t T},jT P t=some T→P.underlying t=some (.slice T):=by
  intro t T h
  unfold jT at h
  split at h
  ·rename_i e hu; simp at h; subst h; exact hu
  ·cases h
 split at aD
 ·rename_i i af
  simp only[bb6,decide_eq_true_eq]at aD
  obtain⟨⟨ap,ay⟩,b1⟩:=aD
  split at b1
  ·rename_i z aw
   refine⟨⟨gW U,?_,i,af,ap,ay,z,aw,by simpa using b1⟩⟩
   rcases aa with aa|aa
   ·exact .inl (gW aa)
   ·split at aa
    ·rename_i hu _; exact .inr hu
    ·cases aa
  ·cases b1
 ·cases aD
theorem CM {size:Nat}{y:I}{v:Value}{rows:List (List I)}(h:aP m y v) (a8:rowsOf size y=some rows): ∃news,Src P m size v rows news:=by
 unfold rowsOf at a8
 split at a8
 ·split at a8
  ·rename_i e; subst e; simp at a8; subst a8; exact SQ h
  ·cases a8
 ·split at a8
  ·rename_i e; subst e; simp at a8; subst a8; exact SQ (xO h)
  ·cases a8
 ·simp at a8
  subst a8
  rw[uu h]
  exact⟨[],aM9⟩
 ·split at a8
  ·rename_i e; subst e; simp at a8; subst a8
   rw[(qZ h).1]
   exact⟨_,aN0⟩
  ·cases a8
 ·cases a8
theorem tl {α:Type}{l:Array α}{x y:α}(h:l.toList=[x,y]):l= #[x,y]:=by cases l; simp at h; rw[h]
set_option maxHeartbeats 4000000 in
theorem JQ {e:bc}{d:D}{K:Act→World→Prop}{Q:Exit→Act→World→Prop}(bG:eF P e env m.H d) (an:bj P o.op e=true) (bd:bW m) (he:dR m env a.tmps)
  (h: ∀x aX v,d.fresh x m.H→aX.H=d.heap m.H x→bW aX→bV m aX→aP aX (d.val x) v→K (a.put o.dst v) aX.w):o.wp P a m.w K Q:=by
 have bu: ∀r,d= .cZ r→fJ P m a o r→o.wp P a m.w K Q:=by
  intro r e q
  subst e
  exact aG1 q fun v ad=>h 0 m v trivial rfl bd (bV.refl m) ad
 cases bG with
 |pure hp=>exact bu _ rfl (ax3 he bd an hp)
 |quo ab a8 hb=>
  cases aj:o.op<;>try (simp [aj,bj]at an; done)
  rw[aj]at an
  simp only[bj,bb6,decide_eq_true_eq]at an
  obtain⟨⟨rfl,c1⟩,cb⟩:=an
  exact bu _ rfl (X4 he aj c1 cb ab a8 hb)
 |rem ab a8 hb=>
  cases aj:o.op<;>try (simp [aj,bj]at an; done)
  rw[aj]at an
  simp only[bj,bb6,decide_eq_true_eq]at an
  obtain⟨⟨rfl,c1⟩,cb⟩:=an
  exact bu _ rfl (X5 he aj c1 cb ab a8 hb)
 |bU ab a8 hb=>
  cases aj:o.op<;>try (simp [aj,bj]at an; done)
  rw[aj]at an
  simp only[bj,bb6,decide_eq_true_eq]at an
  obtain⟨⟨rfl,c1⟩,cb⟩:=an
  exact bu _ rfl (XS he aj c1 cb ab a8 hb)
 |n5 ab af aW ac=>
  cases aj:o.op<;>try (simp [aj,bj]at an; done)
  have lS:=an
  rw[aj]at lS
  simp only[bj,bb6]at lS
  have oH:=db he lS.1.1
  rw[ab]at oH
  exact bu _ rfl (JG he aj an oH af aW ac)
 |n2 ab af aW ac=>
  cases aj:o.op<;>try (simp [aj,bj]at an; done)
  have lS:=an
  rw[aj]at lS
  simp only[bj,bb6]at lS
  have oH:=db he lS.1.1
  rw[ab]at oH
  exact bu _ rfl (JG he aj an (xO oH) af aW ac)
 |oI ab af aW U=>
  cases aj:o.op<;>try (simp [aj,bj]at an; done)
  exact bu _ rfl (XX he aj an ab af aW U)
 |nA ab af aW U=>
  cases aj:o.op<;>try (simp [aj,bj]at an; done)
  have lS:=an
  rw[aj]at lS
  simp only[bj,bb6]at lS
  have oH:=db he lS.1.1
  rw[ab]at oH
  exact bu _ rfl ⟨_,JF he aj an (ur oH) af aW U,by simp only[aP]⟩
 |n3 ab af aW U=>
  cases aj:o.op<;>try (simp [aj,bj]at an; done)
  have lS:=an
  rw[aj]at lS
  simp only[bj,bb6]at lS
  have oH:=db he lS.1.1
  rw[ab]at oH
  obtain⟨b,p,ap,ay⟩:=xP oH
  exact bu _ rfl ⟨_,JF he aj an ap af aW U,by simp only[aP]; exact⟨b,p,by rw[bj2],ay⟩⟩
 |jw ab af aW U aG ad=>
  cases aj:o.op<;>try (simp [aj,bj]at an; done)
  exact bu _ rfl (XW he aj an ab af aW U aG ad)
 |fQ ab af aW tP=>
  cases aj:o.op<;>try (simp [aj,bj]at an; done)
  exact bu _ rfl (XY he aj an ab af aW tP)
 |iB ab aG a6 U aa=>
  cases aj:o.op<;>try (simp [aj,bj]at an; done)
  exact bu _ rfl (X7 he aj an ab aG a6 U aa)
 |gJ ab aG a6 U aa=>
  cases aj:o.op<;>try (simp [aj,bj]at an; done)
  exact bu _ rfl (X8 he aj an ab aG a6 U aa)
 |jP ab=>
  cases aj:o.op<;>try (simp [aj,bj]at an; done)
  obtain⟨w',v,cm,cA,dk,hF⟩:=XT he bd aj an ab
  exact nL cm (h 0 {m with w:=w'} v trivial rfl cA dk hF)
 |box ab=>
  cases aj:o.op<;>try (simp [aj,bj]at an; done)
  rw[aj]at an
  simp only[bj,bb6,decide_eq_true_eq]at an
  obtain⟨rfl,c1⟩:=an
  obtain⟨l,cm,cA⟩:=XR he bd aj c1 ab
  exact nL cm (h m.w.heap.size _ _ (wF bd) rfl cA (bV.bP _ _ _ _) (by simp only[D.val,aP]))
 |alloc aw=>
  cases aj:o.op<;>try (simp [aj,bj]at an; done)
  rw[aj]at an
  simp only[bj,bb6,decide_eq_true_eq]at an
  obtain⟨rfl,c1⟩:=an
  obtain⟨l,cm,cA⟩:=XQ (a:=a) bd aj c1
  exact nL cm (h m.w.heap.size _ _ (wF bd) rfl cA (bV.bP _ _ _ _) (by simp only[D.val,aP]))
 |oo ac ao U=>
  cases aj:o.op<;>try (simp [aj,bj]at an; done)
  obtain⟨l,cm,cA,dk,hF,mA,v7⟩:=DV he bd aj an ac ao U
  rename_i T size n zero parts rows t gT Pv
  have aI:=bV.alloc m (.cells ⟨l⟩ T)
  refine nL cm (h 0 {m with w:=m.w.alloc (.cells ⟨l⟩ T)} _ trivial rfl (bW.alloc bd _) aI ?_)
  simp only[D.val,aP]
  refine⟨_,_,_,rfl,rfl,⟨bc1 _,by rw[B7]; omega⟩,.inr ⟨m.w.heap.size,0,rfl,dK.of (fun r ac=>by have:=List.all_eq_true.1 ao r ac; simpa using this) (aR.aI aI _ _ cA) fun j v bm=>⟨?_,dk v (bc2 bm),⟨by simp,wF bd,fun t i aL hb=> ?_⟩⟩⟩⟩
  ·rw[bf6,cell_of_row _ m.w.heap.size j ⟨l⟩ T (0,0) (sI m.w _)]
   simpa using bm
  ·have:=uz bd aL hb
   omega
 |lr ac ao U aW=>
  cases aj:o.op<;>try (simp [aj,bj]at an; done)
  rename_i T size n zero parts rows t gT Pv
  have lS:bj P o.op (.et T size n zero parts)=true:=by rw[aj]at an ⊢; exact an
  obtain⟨l,cm,cA,dk,hF,mA,v7⟩:=DV he bd aj lS ac ao U
  obtain⟨ci,cM,dE⟩:=Oq bd (w':=m.w.alloc (.cells ⟨l⟩ T)) (T:=T) (size:=size) (cap:=rows.length) (rows:=rows) (l:=l) (cur:=⟨l⟩) rfl rfl rfl (by simp) (fun b hb=>pa m.w _ b hb) (sI m.w _) cA dk hF (fun r ac=>by have:=List.all_eq_true.1 ao r ac; simpa using this) (fun j v bm=>by simpa using bm) (by simpa using hF) (bc1 _) (by rw[B7]; omega) v7
  exact nL cm (h m.T _ _ (r2 bd) rfl ci cM dE)
 |qm ab a8 hb hm aW=>
  cases aj:o.op<;>try (simp [aj,bj]at an; done)
  rename_i T size bytes x y rows c
  obtain⟨callee,args,argTypes⟩:=c
  rw[aj]at an
  cases callee with
  |value f=>simp [bj]at an
  |invoke _ _=>simp [bj]at an
  |builtin b=>
   cases b<;>simp only[bj]at an<;>first
    |(cases an; done)
    |skip
   simp only[bb6]at an
   obtain⟨c1,cb⟩:=an
   split at cb
   ·rename_i t u aL
    obtain⟨A⟩:=AL cb
    obtain rfl:=tl aL
    have rK: ∃p q,args= #[p,q]∧cT p x=true∧cT q y=true:=by
     match aG:args.toList with
     |[p,q]=>rw[aG]at c1; simp only[gu,bb6]at c1; exact⟨p,q,tl aG,c1.1,c1.2.1⟩
     |[]=>rw[aG]at c1; simp [gu]at c1
     |[_]=>rw[aG]at c1; simp [gu]at c1
     | _:: _:: _:: _=>rw[aG]at c1; simp [gu]at c1
    obtain⟨p,q,rfl,ap,ay⟩:=rK
    have hp:=db he ap
    rw[ab]at hp
    have zc:=uu hp
    obtain⟨news,S⟩:=CM (P:=P) (db he ay) a8
    obtain⟨aX,v,cm,cA,dk,hF,mA⟩:=Ug (ty:=o.type) A bd S hb hm aW
    refine nL (v:=v) (w':=aX.w) ?_ (h m.T aX v (r2 bd) hF cA dk mA)
    simp [execOp,aj,resolve,invoke,builtin,zc,cm]
   ·cases cb
 |jj aS hp=>
  cases aj:o.op<;>try (simp [aj,bj]at an; done)
  rename_i f args az r c
  obtain⟨callee,e6,argTypes⟩:=c
  rw[aj]at an
  cases callee with
  |builtin b=>cases b<;>simp [bj]at an
  |invoke _ _=>simp [bj]at an
  |value g=>
   simp only[bj,bb6]at an
   obtain⟨⟨c1,cb⟩,eW⟩:=an
   split at c1
   ·rename_i jH
    have:jH=f:=by simpa using c1
    subst this
    refine sa (zU aj rfl rfl eW m.w) ?_
    have aG:=qo aS (ot he cb)
    have dJ:(e6.map a.eval)=⟨e6.toList.map a.eval⟩:=bl2 (by simp)
    rw[show ({callee:=Callee.value (Operand.func jH),args:=e6,argTypes:=argTypes}:Call).args.map a.eval=⟨e6.toList.map a.eval⟩ from dJ]
    exact rp bd aG (hp m.H) (fun eo aX v ac cm cA dk=>by obtain⟨ap,ay⟩:=ac; simp at ap; subst ap; exact h 0 aX v trivial ay cm cA dk) (fun eo aX v ac=>by simp at ac)
   ·cases c1
 |j3 ab aT aS hp=>
  cases aj:o.op<;>try (simp [aj,bj]at an; done)
  rename_i x args f cap az r c
  obtain⟨callee,e6,argTypes⟩:=c
  rw[aj]at an
  cases callee with
  |builtin b=>cases b<;>simp [bj]at an
  |invoke _ _=>simp [bj]at an
  |value g=>
   simp only[bj,bb6]at an
   obtain⟨c1,cb⟩:=an
   have bo:=db he c1
   rw[ab]at bo
   obtain⟨l,g1,g2⟩:=wa bo
   refine sa (CG aj rfl g1 aT m.w) ?_
   have aG:=qo aS (aR.append (ot he cb) g2)
   have dJ:(e6.map a.eval)++⟨l⟩=⟨e6.toList.map a.eval++l⟩:=by
    apply bl2
    simp
   rw[show ({callee:=Callee.value g,args:=e6,argTypes:=argTypes}:Call).args.map a.eval++⟨l⟩=⟨e6.toList.map a.eval++l⟩ from dJ]
   exact rp bd aG (hp m.H) (fun eo aX v ac cm cA dk=>by obtain⟨ap,ay⟩:=ac; simp at ap; subst ap; exact h 0 aX v trivial ay cm cA dk) (fun eo aX v ac=>by simp at ac)
 |pq aS hp=>
  cases aj:o.op<;>try (simp [aj,bj]at an; done)
  rename_i f args az r c
  obtain⟨callee,e6,argTypes⟩:=c
  rw[aj]at an
  cases callee with
  |builtin b=>cases b<;>simp [bj]at an
  |invoke _ _=>simp [bj]at an
  |value g=>
   simp only[bj,bb6]at an
   obtain⟨⟨c1,cb⟩,eW⟩:=an
   split at c1
   ·rename_i jH
    have:jH=f:=by simpa using c1
    subst this
    refine sa (zU aj rfl rfl eW m.w) ?_
    have aG:=qo aS (ot he cb)
    have dJ:(e6.map a.eval)=⟨e6.toList.map a.eval⟩:=bl2 (by simp)
    rw[show ({callee:=Callee.value (Operand.func jH),args:=e6,argTypes:=argTypes}:Call).args.map a.eval=⟨e6.toList.map a.eval⟩ from dJ]
    exact rp bd aG (hp m.H) (fun eo aX v ac cm cA dk=>by obtain⟨ap,ay⟩:=ac; simp at ap; subst ap; exact h 0 aX v trivial ay cm cA dk) (fun eo aX v ac=>by simp at ac)
   ·cases c1
 |p7 ab aT aS hp=>
  cases aj:o.op<;>try (simp [aj,bj]at an; done)
  rename_i x args f cap az r c
  obtain⟨callee,e6,argTypes⟩:=c
  rw[aj]at an
  cases callee with
  |builtin b=>cases b<;>simp [bj]at an
  |invoke _ _=>simp [bj]at an
  |value g=>
   simp only[bj,bb6]at an
   obtain⟨c1,cb⟩:=an
   have bo:=db he c1
   rw[ab]at bo
   obtain⟨l,g1,g2⟩:=wa bo
   refine sa (CG aj rfl g1 aT m.w) ?_
   have aG:=qo aS (aR.append (ot he cb) g2)
   have dJ:(e6.map a.eval)++⟨l⟩=⟨e6.toList.map a.eval++l⟩:=by
    apply bl2
    simp
   rw[show ({callee:=Callee.value g,args:=e6,argTypes:=argTypes}:Call).args.map a.eval++⟨l⟩=⟨e6.toList.map a.eval++l⟩ from dJ]
   exact rp bd aG (hp m.H) (fun eo aX v ac cm cA dk=>by obtain⟨ap,ay⟩:=ac; simp at ap; subst ap; exact h 0 aX v trivial ay cm cA dk) (fun eo aX v ac=>by simp at ac)
 |uX ab a8 hb hm aW=>
  cases aj:o.op<;>try (simp [aj,bj]at an; done)
  rename_i T size bytes x y rows c
  obtain⟨callee,args,argTypes⟩:=c
  rw[aj]at an
  cases callee with
  |value f=>simp [bj]at an
  |invoke _ _=>simp [bj]at an
  |builtin b=>
   cases b<;>simp only[bj]at an<;>first
    |(cases an; done)
    |skip
   simp only[bb6]at an
   obtain⟨c1,cb⟩:=an
   split at cb
   ·rename_i t u aL
    obtain⟨A⟩:=AL cb
    obtain rfl:=tl aL
    have rK: ∃p q,args= #[p,q]∧cT p x=true∧cT q y=true:=by
     match aG:args.toList with
     |[p,q]=>rw[aG]at c1; simp only[gu,bb6]at c1; exact⟨p,q,tl aG,c1.1,c1.2.1⟩
     |[]=>rw[aG]at c1; simp [gu]at c1
     |[_]=>rw[aG]at c1; simp [gu]at c1
     | _:: _:: _:: _=>rw[aG]at c1; simp [gu]at c1
    obtain⟨p,q,rfl,ap,ay⟩:=rK
    have hp:=db he ap
    rw[ab]at hp
    have zc:=uu hp
    obtain⟨news,S⟩:=CM (P:=P) (db he ay) a8
    obtain⟨aX,v,cm,cA,dk,hF,mA⟩:=Uf (ty:=o.type) A bd S hb hm aW
    refine nL (v:=v) (w':=aX.w) ?_ (h m.T aX v (r2 bd) hF cA dk mA)
    simp [execOp,aj,resolve,invoke,builtin,zc,cm]
   ·cases cb
 |um aS hp=>
  cases aj:o.op<;>try (simp [aj,bj]at an; done)
  rename_i f args az T size rows c
  obtain⟨callee,e6,argTypes⟩:=c
  rw[aj]at an
  cases callee with
  |builtin b=>cases b<;>simp [bj]at an
  |invoke _ _=>simp [bj]at an
  |value g=>
   simp only[bj,bb6]at an
   obtain⟨⟨c1,cb⟩,eW⟩:=an
   split at c1
   ·rename_i jH
    have:jH=f:=by simpa using c1
    subst this
    refine sa (zU aj rfl rfl eW m.w) ?_
    have aG:=qo aS (ot he cb)
    have dJ:(e6.map a.eval)=⟨e6.toList.map a.eval⟩:=bl2 (by simp)
    rw[show ({callee:=Callee.value (Operand.func jH),args:=e6,argTypes:=argTypes}:Call).args.map a.eval=⟨e6.toList.map a.eval⟩ from dJ]
    exact rp bd aG (hp m.H) (fun eo aX v ac cm cA dk=>by obtain⟨t,bN,ap,ay⟩:=ac; simp at ap; subst ap; exact h t aX v bN ay cm cA dk) (fun eo aX v ac=>by obtain⟨t,bN,ap,ay⟩:=ac; simp at ap)
   ·cases c1
 |iU ab aL=>
  cases aj:o.op<;>try (simp [aj,bj]at an; done)
  exact bu _ rfl (X0 he bd aj an ab aL)
 |ud ab=>
  cases aj:o.op<;>try (simp [aj,bj]at an; done)
  exact bu _ rfl (JH he aj an fun v ad=> .inl ⟨by rw[ab]at ad; simpa only[aP] using ad,rfl⟩)
 |uc ab ac=>
  cases aj:o.op<;>try (simp [aj,bj]at an; done)
  exact bu _ rfl (JH he aj an fun v ad=> .inr ⟨by rw[ab]at ad; exact aW9 ad ac,rfl⟩)
 |js ab aL=>
  cases aj:o.op<;>try (simp [aj,bj]at an; done)
  exact bu _ rfl (XU he bd aj an ab aL)
 |iJ ab aL af aW U=>
  cases aj:o.op<;>try (simp [aj,bj]at an; done)
  exact bu _ rfl (XV he bd aj an ab aL af aW U)
 |ji ab aL aG ad=>
  cases aj:o.op<;>try (simp [aj,bj]at an; done)
  exact bu _ rfl (X1 he bd aj an ab aL aG ad)
 |ma ac ao U aW=>
  cases aj:o.op<;>try (simp [aj,bj]at an; done)
  rename_i T size n zero parts rows t gT Pv
  have lS:bj P o.op (.et T size n zero parts)=true:=by rw[aj]at an ⊢; exact an
  obtain⟨l,cm,cA,dk,hF,mA,v7⟩:=DV he bd aj lS ac ao U
  have ld:(⟨l⟩:Array Value).toList.take (rows.length*size)=l:=by rw[←hF]; simp
  obtain⟨ci,cM,dE⟩:=Cd bd (w':=m.w.alloc (.cells ⟨l⟩ T)) (T:=T) (size:=size) (cap:=rows.length) (rows:=rows) (cur:=⟨l⟩) rfl rfl rfl (by simp) (fun b hb=>pa m.w _ b hb) (sI m.w _) (by rw[ld]; exact cA) (by rw[ld]; exact dk) (fun r ac=>by have:=List.all_eq_true.1 ao r ac; simpa using this) hF (bc1 _) (by rw[B7]; omega) aW
  exact nL cm (h m.T _ _ (r2 bd) rfl ci cM dE)
 |iv ab aL av ac=>
  cases aj:o.op<;>try (simp [aj,bj]at an; done)
  exact bu _ rfl (X2 he bd aj an ab aL av ac)
 |p2 ab av=>
  cases aj:o.op<;>try (simp [aj,bj]at an; done)
  exact bu _ rfl (X3 he aj an ab av)
 |mkMap=>
  cases aj:o.op<;>try (simp [aj,bj]at an; done)
  rename_i T ty v8
  cases v8 with
  |some q=>rw[aj]at an; simp [bj]at an
  |none=>
  obtain⟨ci,cM,dE⟩:=as6 bd T
  have cm:(execOp a.eval o).run P m.w= .ok (.value (.map (some m.w.heap.size))) (m.w.alloc (.map #[] 0)):=by
   simp [execOp,aj,Instr.makeMap,Result.andThen]
  exact nL cm (h m.T _ _ (r2 bd) rfl ci cM dE)
 |nC ab hb hm B0 aw aW=>
  cases aj:o.op<;>try (simp [aj,bj]at an; done)
  rename_i T size bytes zero x k n dv bZ cJ
  rw[aj]at an
  simp only[bj,bb6,decide_eq_true_eq]at an
  obtain⟨⟨⟨⟨⟨c1,cb⟩,eW⟩,gE⟩,ls⟩,me⟩:=an
  obtain⟨i,z,af,ah6,yZ⟩:=C2 ls
  obtain⟨g1,g2⟩:=A5 (m:=m) yZ
  have ap:=db he c1
  have ay:=db he cb
  rw[ab]at ap ay
  have ap:=jM ap
  have ay:=jM ay
  rw[af]at me
  simp only[decide_eq_true_eq]at me
  have dq:i.size=size:=by
   obtain⟨i2,ci,cM⟩:=CK gE
   rw[af]at ci
   cases ci
   exact cM
  have pZ:z.cells.size=size:=by
   have:=aR.length g1
   rw[←aw,←this]
   simp
  have hi:(i.bytes:Int)*(n:Int)≤281474976710656:=by
   rw[me]
   have h:((bytes*n:Nat):Int)≤281474976710656:=by omega
   rwa [Int.natCast_mul]at h
  have ad8:(n:Int)≤9223372036854775807:=by have:=hm; unfold maxLen at this; omega
  have kz:=run_make (P:=P) m.w dv T i z (CL eW) af ah6 k k (n:Int) (n:Int) (by omega) (by omega) hi ad8
  simp only[Int.toNat_natCast]at kz
  rw[dq]at kz
  have cm:(execOp a.eval o).run P m.w= .ok (.value (.slice (some ⟨m.w.heap.size,0,none⟩) n n)) (m.w.alloc (.cells (madeCells z.cells (n*size)) T)):=by
   simp [execOp,aj,ap,ay,kz]
  have ad7:(madeCells z.cells (n*size)).toList=(bc9 n z.cells.toList).flatten:=by rw[←pZ]; exact aq6 _ _
  have hlen:(bc9 n zero).length=n:=by simp
  have ka:=size_madeCells z.cells (n*size)
  generalize madeCells z.cells (n*size)=cur at*
  have ld:cur.toList.take ((bc9 n zero).length*size)=(bc9 n z.cells.toList).flatten:=by
   rw[hlen,List.take_of_length_le (by rw[bg4,ka]; exact bc1 _),ad7]
  obtain⟨ci,cM,dE⟩:=Cd bd (w':=m.w.alloc (.cells cur T)) (T:=T) (size:=size) (cap:=n) (rows:=bc9 n zero) (cur:=cur) rfl rfl rfl (by simp) (fun b hb=>pa m.w _ b hb) (sI m.w _) (by rw[ld]; exact SB g1 n) (by rw[ld]; intro v ad; obtain⟨l,U,aa⟩:=List.mem_flatten.1 ad; obtain⟨_,rfl⟩:=List.mem_replicate.1 U; exact g2 v aa) (fun r ac=>by obtain⟨_,rfl⟩:=List.mem_replicate.1 ac; exact aw) ka (by rw[hlen]; exact bc1 _) hm aW
  rw[hlen]at ci cM dE
  exact nL cm (h m.T _ _ (r2 bd) rfl ci cM dE)
end
section
variable {P:Program}{m:Mem}{env:Env}{a:Act}{o:Oper}
theorem aK9 {w:World}{b o:Nat}{l new:List Value}(h:o+new.length≤l.length):(((⟨l⟩:Array Value).toList.take (o+0)++new++(⟨l⟩:Array Value).toList.drop (o+0+new.length)).toArray)=(⟨gD l o new⟩:Array Value):=by
 simp [gD]
set_option maxHeartbeats 4000000 in
theorem NI {cL:Nat}{a0 v0:aJ}{K Rp:I→aA→Prop}{ti:Act→World→Prop}{Q:Exit→Act→World→Prop}(ao:hT P (.store cL a0 v0) env m.H K Rp) (an:bj P o.op (.store cL a0 v0)=true) (bd:bW m) (he:dR m env a.tmps)
  (h: ∀x aX v,K x aX.H→bW aX→bV m aX→aP aX x v→ti (a.put o.dst v) aX.w)
  (hp: ∀x aX v,Rp x aX.H→bW aX→bV m aX→aP aX x v→Q (.panic [{v,recovered:=false}]) a aX.w):o.wp P a m.w ti Q:=by
 cases ao with
 |ii d bG av=>exact JQ bG an bd he fun x aX v U aa aD bA b6=>h _ aX v (aa▸av x U) aD bA b6
 |store aS hb a1 aG iz av=>
  cases aj:o.op<;>try (simp [aj,bj]at an; done)
  rename_i b p T cs t x y
  rw[aj]at an
  simp only[bj,bb6,decide_eq_true_eq]at an
  obtain⟨⟨c1,cb⟩,eW⟩:=an
  have ab:=db he cb
  rw[aS]at ab
  obtain⟨g1,g2⟩:=A1 (db he eW) iz
  have hlen:=aR.length g1
  obtain⟨l,cm,cA,dk⟩:=bd.aY b T cs hb
  have j2:=aR.length cA
  have lD:=run_storeCells_at P b p T (a.eval y).cells.toList 0 ⟨l⟩ m.w cm (by simp only[List.size_toArray]; omega) g2
  rw[aK9 (w:=m.w) (b:=b) (by omega)]at lD
  have dq:(a.eval y).cells.size=cL:=by rw[←bg4,hlen]; exact a1
  have kz:(execOp a.eval o).run P m.w= .ok .skip (m.w.setRow b ⟨gD l p (a.eval y).cells.toList⟩):=by
   simp only[execOp,aj,Instr.storeAt,ur ab,Instr.sureAddr,Sem.run_bind,Sem.run_pure,Result.andThen_ok,storeVar,mY c1,Sem.run_ite,dq,ne_eq,not_true_eq_false,if_false,lD]
  have hw: ∀k,k≠b→(m.w.setRow b ⟨gD l p (a.eval y).cells.toList⟩).heap[k]? =m.w.heap[k]? :=fun k av=>setRow_other m.w b k _ av
  have vz:=GY cA g1 p
  have BR: ∀v∈gD l p (a.eval y).cells.toList,v.oneCell'=true:=by
   intro v ad
   simp only[gD,bf7]at ad
   rcases ad with (ad|ad)|ad
   ·exact dk v (List.mem_of_mem_take ad)
   ·exact g2 v ad
   ·exact dk v (List.mem_of_mem_drop ad)
  have GK:=bW.iW bd (w':=m.w.setRow b ⟨gD l p (a.eval y).cells.toList⟩) (T:=T) (cs:=gg cs p (aJ.aI env v0).cells) (l:=gD l p (a.eval y).cells.toList) hb rfl rfl rfl (by simp) hw (setRow_heap m.w b _ _ T (0,0) cm) vz BR
  have Ep:=bV.iW bd (w':=m.w.setRow b ⟨gD l p (a.eval y).cells.toList⟩) (T:=T) (cs:=gg cs p (aJ.aI env v0).cells) hb rfl rfl rfl (by simp) hw
  simp only[Oper.wp,kz,Oper.upon]
  exact h _ _ Go.undef av GK Ep (by simp only[aP])
 |uy aS aL a1 aG iz aT ac hlen av=>
  cases aj:o.op<;>try (simp [aj,bj]at an; done)
  rename_i t aU k T size rows dT ty x y
  rw[aj]at an
  simp only[bj,bb6,decide_eq_true_eq]at an
  obtain⟨⟨c1,cb⟩,eW⟩:=an
  have ab:=db he cb
  rw[aS]at ab
  obtain⟨g1,g2⟩:=A1 (db he eW) iz
  obtain⟨g,aX,cm,cA,dk,hF,mA⟩:=SR (P:=P) bd ab aL (by rw[a1]; exact aG) g1 g2 aT ac hlen
  have dq:(a.eval y).cells.size=cL:=by rw[←bg4,aR.length g1]; exact a1
  have kz:(execOp a.eval o).run P m.w= .ok .skip aX.w:=by
   simp only[execOp,aj,Instr.storeAt,cm,Instr.sureAddr,Sem.run_bind,Sem.run_pure,Result.andThen_ok,storeVar,mY c1,Sem.run_ite,dq,ne_eq,not_true_eq_false,if_false,cA]
  simp only[Oper.wp,kz,Oper.upon]
  exact h _ aX Go.undef (mA▸av) dk hF (by simp only[aP])
set_option maxHeartbeats 4000000 in
theorem ai9 {e:bc}{K Rp:I→aA→Prop}{ti:Act→World→Prop}{Q:Exit→Act→World→Prop}(ao:hT P e env m.H K Rp) (an:bj P o.op e=true) (bd:bW m) (he:dR m env a.tmps)
  (h: ∀x aX v,K x aX.H→bW aX→bV m aX→aP aX x v→ti (a.put o.dst v) aX.w)
  (hp: ∀x aX v,Rp x aX.H→bW aX→bV m aX→aP aX x v→Q (.panic [{v,recovered:=false}]) a aX.w):o.wp P a m.w ti Q:=by
 cases ao with
 |ii d bG av=>exact JQ bG an bd he fun x aX v U aa aD bA b6=>h _ aX v (aa▸av x U) aD bA b6
 |store aS hb a1 aG iz av=>exact NI (.store aS hb a1 aG iz av) an bd he h hp
 |gK o9 lc aS hb a1 aG iz av=>
  refine NI (.store aS hb a1 aG iz av) ?_ bd he h hp
  cases aj:o.op<;>try (simp [aj,bj]at an; done)
  rw[aj]at an
  exact an
 |append ab aL a8 hb hm av=>
  cases aj:o.op<;>try (simp [aj,bj]at an; done)
  rename_i T size bytes x y dP rows new c
  obtain⟨callee,args,argTypes⟩:=c
  rw[aj]at an
  cases callee with
  |value f=>simp [bj]at an
  |invoke _ _=>simp [bj]at an
  |builtin b=>
   cases b<;>simp only[bj]at an<;>first
    |(cases an; done)
    |skip
   simp only[bb6]at an
   obtain⟨c1,cb⟩:=an
   split at cb
   ·rename_i t u gB
    obtain⟨A⟩:=AL cb
    obtain rfl:=tl gB
    have rK: ∃p q,args= #[p,q]∧cT p x=true∧cT q y=true:=by
     match aG:args.toList with
     |[p,q]=>rw[aG]at c1; simp only[gu,bb6]at c1; exact⟨p,q,tl aG,c1.1,c1.2.1⟩
     |[]=>rw[aG]at c1; simp [gu]at c1
     |[_]=>rw[aG]at c1; simp [gu]at c1
     | _:: _:: _:: _=>rw[aG]at c1; simp [gu]at c1
    obtain⟨p,q,rfl,ap,ay⟩:=rK
    have hp:=db he ap
    rw[ab]at hp
    obtain⟨news,S⟩:=CM (P:=P) (db he ay) a8
    obtain⟨aX,v,cm,cA,dk,hF,mA⟩:=Uh (ty:=o.type) A bd hp aL S hb hm
    refine nL (v:=v) (w':=aX.w) ?_ (h _ aX v (hF▸av) cA dk mA)
    simp [execOp,aj,resolve,invoke,builtin,cm]
   ·cases cb
 |mJ ab aL a8 hb hm av=>
  cases aj:o.op<;>try (simp [aj,bj]at an; done)
  rename_i T size bytes x y dP aU rows new c
  obtain⟨callee,args,argTypes⟩:=c
  rw[aj]at an
  cases callee with
  |value f=>simp [bj]at an
  |invoke _ _=>simp [bj]at an
  |builtin b=>
   cases b<;>simp only[bj]at an<;>first
    |(cases an; done)
    |skip
   simp only[bb6]at an
   obtain⟨c1,cb⟩:=an
   split at cb
   ·rename_i t u gB
    obtain⟨A⟩:=AL cb
    obtain rfl:=tl gB
    have rK: ∃p q,args= #[p,q]∧cT p x=true∧cT q y=true:=by
     match aG:args.toList with
     |[p,q]=>rw[aG]at c1; simp only[gu,bb6]at c1; exact⟨p,q,tl aG,c1.1,c1.2.1⟩
     |[]=>rw[aG]at c1; simp [gu]at c1
     |[_]=>rw[aG]at c1; simp [gu]at c1
     | _:: _:: _:: _=>rw[aG]at c1; simp [gu]at c1
    obtain⟨p,q,rfl,ap,ay⟩:=rK
    have hp:=db he ap
    rw[ab]at hp
    obtain⟨news,S⟩:=CM (P:=P) (db he ay) a8
    obtain⟨aX,v,cm,cA,dk,hF,mA⟩:=Ue (ty:=o.type) A bd hp aL S hb hm
    refine nL (v:=v) (w':=aX.w) ?_ (h _ aX v (hF▸av) cA dk mA)
    simp [execOp,aj,resolve,invoke,builtin,cm]
   ·cases cb
 |zl ab av=>
  cases aj:o.op<;>try (simp [aj,bj]at an; done)
  rename_i neg x size rows op t u v w
  obtain⟨b,w',cm,cA⟩:=XZ (P:=P) (m:=m) he aj an ab
  exact nL cm (h _ m w' (av b) bd (bV.refl m) cA)
 |mZ ab aL aG a6 U bu av=>
  cases aj:o.op<;>try (simp [aj,bj]at an; done)
  rename_i lX
  have Fe:lX=none:=by
   cases lX with
   |none=>rfl
   |some q=>rw[aj]at an; simp [bj]at an
  subst Fe
  obtain⟨aX,v,jy,cm,cA,dk,hF⟩:=X6 he bd aj an ab aL aG a6 U bu
  exact nL jy (h _ aX v (dk▸av) cm cA hF)
 |uy aS aL a1 aG iz aT ac hlen av=>
  cases aj:o.op<;>try (simp [aj,bj]at an; done)
  rename_i n eL v t aU k T size rows dT ty x y
  rw[aj]at an
  simp only[bj,bb6,decide_eq_true_eq]at an
  obtain⟨⟨c1,cb⟩,eW⟩:=an
  have ab:=db he cb
  rw[aS]at ab
  obtain⟨g1,g2⟩:=A1 (db he eW) iz
  obtain⟨g,aX,cm,cA,dk,hF,mA⟩:=SR (P:=P) bd ab aL (by rw[a1]; exact aG) g1 g2 aT ac hlen
  have dq:(a.eval y).cells.size=n:=by rw[←bg4,aR.length g1]; exact a1
  have kz:(execOp a.eval o).run P m.w= .ok .skip aX.w:=by
   simp only[execOp,aj,Instr.storeAt,cm,Instr.sureAddr,Sem.run_bind,Sem.run_pure,Result.andThen_ok,storeVar,mY c1,Sem.run_ite,dq,ne_eq,not_true_eq_false,if_false,cA]
  simp only[Oper.wp,kz,Oper.upon]
  exact h _ aX Go.undef (mA▸av) dk hF (by simp only[aP])
 |nB ab aL qG iz ac av=>
  cases aj:o.op<;>try (simp [aj,bj]at an; done)
  rename_i x k v t aU T rows dT s ty cN ff bD
  rw[aj]at an
  simp only[bj,bb6,decide_eq_true_eq,Option.isSome_iff_exists]at an
  obtain⟨⟨⟨c1,cb⟩,eW⟩,eU,gE⟩:=an
  have g1:=db he c1
  have g2:=db he cb
  have g3:=db he eW
  rw[ab]at g1
  rw[qG]at g2
  simp only[aP]at g2
  obtain⟨kt,br,bB⟩:=N2 gE
  obtain⟨aX,cm,cA,dk,hF⟩:=ay5 (P:=P) bd aL g1 br bB g2.2 g3 (zI g3 iz) ac
  have kz:(execOp a.eval o).run P m.w= .ok .skip aX.w:=by
   simp [execOp,aj,g2.1,cm,Result.andThen]
  simp only[Oper.wp,kz,Oper.upon]
  exact h _ aX Go.undef (hF▸av) cA dk (by simp only[aP])
 |call uR aS sD av=>
  cases aj:o.op<;>try (simp [aj,bj]at an; done)
  rename_i f args az c
  obtain⟨callee,e6,argTypes⟩:=c
  rw[aj]at an
  cases callee with
  |builtin b=>cases b<;>simp [bj]at an
  |invoke _ _=>simp [bj]at an
  |value g=>
   simp only[bj,bb6]at an
   obtain⟨⟨c1,cb⟩,eW⟩:=an
   split at c1
   ·rename_i jH
    have:jH=f:=by simpa using c1
    subst this
    refine sa (zU aj rfl rfl eW m.w) ?_
    have aG:=qo aS (ot he cb)
    have dJ:(e6.map a.eval)=⟨e6.toList.map a.eval⟩:=bl2 (by simp)
    rw[show ({callee:=Callee.value (Operand.func jH),args:=e6,argTypes:=argTypes}:Call).args.map a.eval=⟨e6.toList.map a.eval⟩ from dJ]
    exact rp bd aG sD (fun eo aX v ac cm cA dk=>h _ aX v (av _ _ ac) cm cA dk) (fun eo aX v ac cm cA dk=>hp _ aX v (av _ _ ac) cm cA dk)
   ·cases c1
 |gP uR lc hex aS sD av=>
  cases aj:o.op<;>try (simp [aj,bj]at an; done)
  rename_i others f args az c
  obtain⟨callee,e6,argTypes⟩:=c
  rw[aj]at an
  cases callee with
  |builtin b=>cases b<;>simp [bj]at an
  |invoke _ _=>simp [bj]at an
  |value g=>
   simp only[bj,bb6]at an
   obtain⟨⟨c1,cb⟩,eW⟩:=an
   split at c1
   ·rename_i jH
    have:jH=f:=by simpa using c1
    subst this
    refine sa (zU aj rfl rfl eW m.w) ?_
    have aG:=qo aS (ot he cb)
    have dJ:(e6.map a.eval)=⟨e6.toList.map a.eval⟩:=bl2 (by simp)
    rw[show ({callee:=Callee.value (Operand.func jH),args:=e6,argTypes:=argTypes}:Call).args.map a.eval=⟨e6.toList.map a.eval⟩ from dJ]
    exact rp bd aG sD (fun eo aX v ac cm cA dk=>h _ aX v (av _ _ ac) cm cA dk) (fun eo aX v ac cm cA dk=>hp _ aX v (av _ _ ac) cm cA dk)
   ·cases c1
 |kT uR ab aT lc hex aS sD av=>
  cases aj:o.op<;>try (simp [aj,bj]at an; done)
  rename_i others x args f cap az c
  obtain⟨callee,e6,argTypes⟩:=c
  rw[aj]at an
  cases callee with
  |builtin b=>cases b<;>simp [bj]at an
  |invoke _ _=>simp [bj]at an
  |value g=>
   simp only[bj,bb6]at an
   obtain⟨c1,cb⟩:=an
   have bo:=db he c1
   rw[ab]at bo
   obtain⟨l,g1,g2⟩:=wa bo
   refine sa (CG aj rfl g1 aT m.w) ?_
   have aG:=qo aS (aR.append (ot he cb) g2)
   have dJ:(e6.map a.eval)++⟨l⟩=⟨e6.toList.map a.eval++l⟩:=by
    apply bl2
    simp
   rw[show ({callee:=Callee.value g,args:=e6,argTypes:=argTypes}:Call).args.map a.eval++⟨l⟩=⟨e6.toList.map a.eval++l⟩ from dJ]
   exact rp bd aG sD (fun eo aX v ac cm cA dk=>h _ aX v (av _ _ ac) cm cA dk) (fun eo aX v ac cm cA dk=>hp _ aX v (av _ _ ac) cm cA dk)
 |gj uR ab aT aS sD av=>
  cases aj:o.op<;>try (simp [aj,bj]at an; done)
  rename_i x args f cap az c
  obtain⟨callee,e6,argTypes⟩:=c
  rw[aj]at an
  cases callee with
  |builtin b=>cases b<;>simp [bj]at an
  |invoke _ _=>simp [bj]at an
  |value g=>
   simp only[bj,bb6]at an
   obtain⟨c1,cb⟩:=an
   have bo:=db he c1
   rw[ab]at bo
   obtain⟨l,g1,g2⟩:=wa bo
   refine sa (CG aj rfl g1 aT m.w) ?_
   have aG:=qo aS (aR.append (ot he cb) g2)
   have dJ:(e6.map a.eval)++⟨l⟩=⟨e6.toList.map a.eval++l⟩:=by
    apply bl2
    simp
   rw[show ({callee:=Callee.value g,args:=e6,argTypes:=argTypes}:Call).args.map a.eval++⟨l⟩=⟨e6.toList.map a.eval++l⟩ from dJ]
   exact rp bd aG sD (fun eo aX v ac cm cA dk=>h _ aX v (av _ _ ac) cm cA dk) (fun eo aX v ac cm cA dk=>hp _ aX v (av _ _ ac) cm cA dk)
 |wJ uR ab aT aS sD av=>
  cases aj:o.op<;>try (simp [aj,bj]at an; done)
  rename_i x args f cap az c
  obtain⟨callee,e6,argTypes⟩:=c
  rw[aj]at an
  cases callee with
  |builtin b=>cases b<;>simp [bj]at an
  |invoke _ _=>simp [bj]at an
  |value g=>
   simp only[bj,bb6]at an
   obtain⟨c1,cb⟩:=an
   have bo:=db he c1
   rw[ab]at bo
   obtain⟨l,g1,g2⟩:=wa bo
   refine sa (aJ6 aj rfl g1 aT m.w) ?_
   have aG:=qo aS (aR.append g2 (ot he cb))
   have dJ:⟨l⟩++(e6.map a.eval)=⟨l++e6.toList.map a.eval⟩:=by
    apply bl2
    simp
   rw[show ⟨l⟩++({callee:=Callee.value g,args:=e6,argTypes:=argTypes}:Call).args.map a.eval=⟨l++e6.toList.map a.eval⟩ from dJ]
   exact rp bd aG sD (fun eo aX v ac cm cA dk=>h _ aX v (av _ _ ac) cm cA dk) (fun eo aX v ac cm cA dk=>hp _ aX v (av _ _ ac) cm cA dk)
 |xU ab hb aT ac aG aW hm av=>
  cases aj:o.op<;>try (simp [aj,bj]at an; done)
  rename_i len size cN b T cs rows t x b3 af lX
  rw[aj]at an
  cases b3<;>cases af<;>cases lX<;>simp only[bj,bb6]at an<;>first
   |(cases an; done)
   |skip
  obtain⟨c1,cb⟩:=an
  have oH:=db he c1
  rw[ab]at oH
  split at cb
  ·rename_i n e hu
   simp only[bb6,decide_eq_true_eq]at cb
   obtain⟨rfl,dq⟩:=cb
   have kz:(execOp a.eval o).run P m.w= .ok (.value (.slice (some ⟨b,0,none⟩) n n)) m.w:=by
    have a1: ¬n=0:=by omega
    simp [execOp,aj,Instr.sliceAt,Instr.sliceBounds,run_underlying hu,ur oH,Instr.sureAddr,asAddr,mY dq,np,a1]
   have ao:=HSub.o5 m.H b
   have cm:bW ⟨m.w,m.H.o5 b,m.L,m.T⟩:=bW.forget ao bd
   have v1:bV m ⟨m.w,m.H.o5 b,m.L,m.T⟩:=bV.forget ao (bV.refl m)
   obtain⟨l,g1,g2,g3⟩:=bd.aY b T cs hb
   have cz:b<m.w.heap.size:=(Array.getElem?_eq_some_iff.1 g1).1
   refine nL kz (h _ ⟨m.w,m.H.o5 b,m.L,m.T⟩ _ av cm v1 ?_)
   simp only[aP]
   refine⟨_,_,_,rfl,aG.symm,⟨bc1 _,hm⟩,.inr ⟨b,0,rfl,dK.of ac (l:=l) (by rw[aT]; exact aR.forget (w:=m.w) (L:=m.L) (T:=m.T) ao _ _ g2) fun j v bm=>⟨?_,g3 v (bc2 bm),cz,by simp [aA.o5],fun dv i aL EV=> ?_⟩⟩⟩
   ·rw[bf6,cell_of_row m.w b _ _ _ _ g1]
    simpa using bm
   ·have:=((bd.tok dv i aL).2.2.2 b EV).1
    rw[this]at hb
    cases hb
  ·cases cb
 |panic ab av=>
  cases aj:o.op<;>try (simp [aj,bj]at an; done)
  rename_i x t eL y
  rw[aj]at an
  simp only[bj]at an
  have ad:=db he an
  rw[ab]at ad
  have ag1:=ad
  simp only[aP]at ad
  obtain⟨u,hu,_⟩:=ad
  have kz:(execOp a.eval o).run P m.w= .halt (.panic (a.eval y)) m.w:=by
   simp [execOp,aj,hu,Instr.panic]
  simp only[Oper.wp,kz,Oper.upon]
  exact hp _ m _ av bd (bV.refl m) ag1
end
structure hO where
 m:Mem
 D:List Deferred
 kt:List Env
def hO.free (md:hO) (i:bK):Prop:=∀E∈md.kt,∀p∈E,i.dst≠some p.1
def Rel (n:Nat) (m0:hO) (env:Env) (H:aA) (a:Act) (w:World):Prop:=
 ∃m:Mem,m.w=w∧m.H=H∧bW m∧bV m0.m m∧dR m env a.tmps∧(a.defers=m0.D∧∀E∈m0.kt,dR m E a.tmps)∧a.tmps.size=n
theorem Sz {m aX:Mem}{env:Env}{a:Act}{n:Nat}{dst:Option Nat}{x:I}{v:Value}(he:dR m env a.tmps) (aI:bV m aX) (ad:aP aX x v) (a1:a.tmps.size=n) (bG: ∀d,dst=some d→d<n):dR aX (env.put dst x) (a.put dst v).tmps:=by
 intro k
 cases dst with
 |none=>exact aP.aI aI _ _ (he k)
 |some d=>
  have cz:=bG d rfl
  simp only[Env.put,Env.get,Act.put]
  by_cases e:d=k
  ·subst e
   simp only[beq_self_eq_true,cond_true]
   have:(a.tmps.setIfInBounds d v).getD d undef=v:=by
    simp [bd9,a1,cz]
   rw[this]
   exact ad
  ·have hb:(d==k)=false:=by simpa using e
   simp only[hb,cond_false]
   have:(a.tmps.setIfInBounds d v).getD k undef=a.tmps.getD k undef:=by
    simp [bd9,bh9 e]
   rw[this]
   exact aP.aI aI _ _ (he k)
theorem put_defers (a:Act) (dst:Option Nat) (v:Value):(a.put dst v).defers=a.defers:=by cases dst<;>rfl
theorem ay6 (a:Act) (dst:Option Nat) (v:Value):(a.put dst v).tmps.size=a.tmps.size:=by cases dst<;>simp [Act.put]
theorem YG {env:Env}{k:Nat}(h: ∀p∈env,p.1≠k):env.get k= .eD:=by
 induction env with
 |nil=>rfl
 |cons p env b7=>
  obtain⟨j,v⟩:=p
  have:(j==k)=false:=by simpa using h (j,v) (by simp)
  simp only[Env.get,this,cond_false]
  exact b7 fun q bu=>h q (by simp [bu])
theorem GV {m aX:Mem}{kt:Env}{a:Act}{dst:Option Nat}{v:Value}(he:dR m kt a.tmps) (aI:bV m aX) (aT: ∀p∈kt,dst≠some p.1):dR aX kt (a.put dst v).tmps:=by
 intro k
 cases dst with
 |none=>exact aP.aI aI _ _ (he k)
 |some d=>
  by_cases e:d=k
  ·subst e
   rw[YG fun p hp e=>aT p hp (by rw[e])]
   simp only[aP]
  ·have:(a.put (some d) v).tmps.getD k undef=a.tmps.getD k undef:=by
    simp [Act.put,bd9,bh9 e]
   rw[this]
   exact aP.aI aI _ _ (he k)
theorem Sk {n:Nat}{m0:hO}{m aX:Mem}{env:Env}{a:Act}{dst:Option Nat}{x:I}{v:Value}(he:dR m env a.tmps) (bN:bV m0.m m) (aI:bV m aX) (bd:bW aX) (ad:aP aX x v) (gA:a.defers=m0.D∧∀E∈m0.kt,dR m E a.tmps) (a1:a.tmps.size=n) (bG: ∀d,dst=some d→d<n) (aT: ∀E∈m0.kt,∀p∈E,dst≠some p.1):Rel n m0 (env.put dst x) aX.H (a.put dst v) aX.w:=
 ⟨aX,rfl,rfl,bd,bN.trans aI,Sz he aI ad a1 bG,⟨by rw[put_defers,gA.1],fun E dc=>GV (gA.2 E dc) aI (aT E dc)⟩,by rw[ay6,a1]⟩
theorem XA {P:Program}{n:Nat}{ops:Array Oper}{o:Oper}{i:bK}(h:pP P n ops o i=true):o.dst=i.dst∧(∀d,i.dst=some d→d<n)∧A3 ops o.guard i.guard=true∧bj P o.op i.op=true∧(∀t w,i.guard=some (t,w)→t<n):=by
 simp only[pP,bb6,decide_eq_true_eq]at h
 obtain⟨⟨⟨⟨U,aa⟩,b6⟩,aD⟩,bA⟩:=h
 refine⟨U,fun d bG=> ?_,aD,bA,fun t w bo=> ?_⟩
 ·rw[bG]at aa
  simp [bo3]at aa
  exact aa
 ·rw[bo]at b6
  simp [bo3]at b6
  exact b6
theorem TA {m:Mem}{env:Env}{ops:Array Oper}{o:Oper}{i:bK}{tmps:Array Value}{b:Bool}(bo:A3 ops o.guard i.guard=true) (he:dR m env tmps) (hw:wanted i env=some b) (dq: ∀j w,i.guard=some (j,w)→j<tmps.size):Region.wanted o (yielded ops tmps)=b:=by
 unfold wanted at hw
 unfold A3 at bo
 cases aj:o.guard with
 |none=>
  cases af:i.guard with
  |none=>rw[af]at hw; simp at hw; subst hw; simp [Region.wanted,aj]
  |some _=>rw[aj,af]at bo; cases bo
 |some FD=>
  obtain⟨j,w⟩:=FD
  cases af:i.guard with
  |none=>rw[aj,af]at bo; cases bo
  |some He=>
   obtain⟨t,w'⟩:=He
   rw[aj,af]at bo
   simp only[bb6,decide_eq_true_eq]at bo
   obtain⟨rfl,bG⟩:=bo
   have cz:=dq t w af
   have a8:yielded ops tmps j=match tmps[t]? with|some (.bool b)=>some b| _=>none:=by
    unfold yielded
    rw[bG]
    rfl
   have xl:tmps[t]? =some (tmps.getD t undef):=by
    simp [bd9,cz]
   rw[af]at hw
   simp only at hw
   have ac:=he t
   split at hw
   ·rename_i c an
    rw[an]at ac
    simp at hw
    subst hw
    simp only[Region.wanted,aj,a8,xl,s0 ac]
    cases c<;>cases w<;>rfl
   ·rename_i an
    rw[an]at ac
    simp at hw
    subst hw
    simp only[Region.wanted,aj,a8,xl,uu ac]
    rfl
   ·cases hw
def GStep (P:Program) (i:bK) (env:Env) (H:aA) (K Rp:I→aA→Prop):Prop:=
 match wanted i env with
 |some true=>hT P i.op env H K Rp
 |some false=>K .undef H
 |none=>False
theorem AA {P:Program}{i:bK}{l:List bK}{env:Env}{H:aA}{K:Env→aA→Prop}{Rp:I→aA→Prop}:bn P (i::l) env H K Rp↔GStep P i env H (fun v aC=>bn P l (env.put i.dst v) aC K Rp) Rp:=by
 simp only[bn,GStep]
 all_goals (cases wanted i env with
  |none=>exact Iff.rfl
  |some b=>cases b<;>exact Iff.rfl)
def kp (e ct:Env):Prop:=∀k,e.get k=ct.get k
def yd (op:bc) (env bb:Env):Prop:=∀x∈op.cF,x.aI env=x.aI bb
def kM (i:bK) (env bb:Env):Prop:=yd i.op env bb∧∀j w,i.guard=some (j,w)→env.get j=bb.get j
theorem If {i:bK}{env bb:Env}(h: ∀k∈i.reads,env.get k=bb.get k):kM i env bb:=by
 refine⟨fun x ab=> ?_,fun j w bo=>h j ?_⟩
 ·cases x with
  |c a=>rfl
  |t n=>exact h n (by simp only[bK.reads,bf7]; exact .inl (List.mem_filterMap.2 ⟨.t n,ab,rfl⟩))
 ·simp [bK.reads,bo]
theorem r8 {i:bK}{env bb:Env}(h:kM i env bb):wanted i env=wanted i bb:=by
 unfold wanted
 cases bo:i.guard with
 |none=>rfl
 |some FD=>obtain⟨j,w⟩:=FD; simp only[h.2 j w bo]
theorem qR {xs:List aJ}{env bb:Env}(h: ∀x∈xs,x.aI env=x.aI bb):xs.map (aJ.aI env)=xs.map (aJ.aI bb):=List.map_congr_left h
theorem IG {env bb:Env}: ∀(ps:List (Nat×Nat×aJ)) (cs:List I),(∀x∈ps.map (·.2.2),x.aI env=x.aI bb)→nO env cs ps=nO bb cs ps
 |[],_,_=>rfl
 |(o,s,x)::ps,cs,h=>by
  have U:=h x (by simp)
  simp only[nO,U]
  rw[IG ps _ fun y a8=>h y (by simp at a8 ⊢; exact .inr a8)]
theorem xE {env bb:Env}{d:Nat}{x:Option aJ}(h: ∀y∈x.toList,y.aI env=y.aI bb):jK env d x=jK bb d x:=by
 cases x with
 |none=>rfl
 |some y=>simp only[jK,h y (by simp)]
theorem Pz {op:bc}{env bb:Env}(H:aA) (h:yd op env bb):bX op env H=bX op bb H:=by
 cases op<;>simp only[bX]<;>simp only[yd,bc.cF,be4,List.not_mem_nil,or_false,forall_eq_or_imp,forall_eq]at h<;>first
  |rfl
  |(simp only[h]; done)
  |(rw[h]; done)
  |(obtain⟨U,aa⟩:=h; rw[U,aa]; done)
  |(obtain⟨U,aa,aD⟩:=h; rw[U,aa,aD]; done)
  |(rw[IG _ _ h]; done)
  |(obtain⟨U,aa⟩:=h; simp only[aJ.aI]at U; rw[U,aa]; done)
  |(rw[qR h]; done)
theorem Ds {env bb:Env}{ps:List (Nat×aJ)}(h: ∀x∈ps.map (·.2),x.aI env=x.aI bb):j7 env ps=j7 bb ps:=by
 unfold j7
 refine List.map_congr_left fun p hp=> ?_
 rw[h p.2 (List.mem_map.2 ⟨p,hp,rfl⟩)]
theorem JO {P:Program}{op:bc}{env bb:Env}{H:aA}{d:D}(h:yd op env bb) (bG:eF P op env H d):eF P op bb H d:=by
 cases bG with
 |pure hp=>exact .pure ((Pz H h).symm.trans hp)
 |quo ab a8 hb=>exact .quo ((h _ (by simp [bc.cF])).symm.trans ab) ((h _ (by simp [bc.cF])).symm.trans a8) hb
 |rem ab a8 hb=>exact .rem ((h _ (by simp [bc.cF])).symm.trans ab) ((h _ (by simp [bc.cF])).symm.trans a8) hb
 |bU ab a8 hb=>exact .bU ((h _ (by simp [bc.cF])).symm.trans ab) ((h _ (by simp [bc.cF])).symm.trans a8) hb
 |n5 ab af aW ac=>exact .n5 ((h _ (by simp [bc.cF])).symm.trans ab) ((h _ (by simp [bc.cF])).symm.trans af) aW ac
 |n2 ab af aW ac=>exact .n2 ((h _ (by simp [bc.cF])).symm.trans ab) ((h _ (by simp [bc.cF])).symm.trans af) aW ac
 |oI ab af aW ac=>exact .oI ((h _ (by simp [bc.cF])).symm.trans ab) ((h _ (by simp [bc.cF])).symm.trans af) aW ac
 |nA ab af aW ac=>exact .nA ((h _ (by simp [bc.cF])).symm.trans ab) ((h _ (by simp [bc.cF])).symm.trans af) aW ac
 |n3 ab af aW ac=>exact .n3 ((h _ (by simp [bc.cF])).symm.trans ab) ((h _ (by simp [bc.cF])).symm.trans af) aW ac
 |jw ab af aW U aG ad=>exact .jw ((h _ (by simp [bc.cF])).symm.trans ab) ((h _ (by simp [bc.cF])).symm.trans af) aW U aG ad
 |fQ ab af aW an=>exact .fQ ((h _ (by simp [bc.cF])).symm.trans ab) ((h _ (by simp [bc.cF])).symm.trans af) aW an
 |iB ab aG a6 U aa=>exact .iB ((h _ (by simp [bc.cF])).symm.trans ab) ((xE fun y a8=>h y (by simp only[bc.cF,be4,bf7]; exact .inr (.inl a8))).symm.trans aG) ((xE fun y a8=>h y (by simp only[bc.cF,be4,bf7]; exact .inr (.inr a8))).symm.trans a6) U aa
 |gJ ab aG a6 U aa=>exact .gJ ((congrArg (na _) (h _ (by simp [bc.cF]))).symm.trans ab) ((xE fun y a8=>h y (by simp only[bc.cF,be4,bf7]; exact .inr (.inl (.inl a8)))).symm.trans aG) ((xE fun y a8=>h y (by simp only[bc.cF,be4,bf7]; exact .inr (.inl (.inr a8)))).symm.trans a6) U aa
 |jP ab=>exact .jP ((h _ (by simp [bc.cF])).symm.trans ab)
 |box ab=>rename_i T x; have e:=h x (by simp [bc.cF]); rw[e]at ab ⊢; exact .box ab
 |alloc aw=>exact .alloc aw
 |oo ac ao aj=>exact .oo ((Ds fun x ab=>h x (by simpa [bc.cF] using ab)).symm.trans ac) ao aj
 |lr ac ao aj aW=>exact .lr ((Ds fun x ab=>h x (by simpa [bc.cF] using ab)).symm.trans ac) ao aj aW
 |qm ab a8 hb hm aW=>
  rename_i T size bytes x y rows
  exact .qm ((h _ (by simp [bc.cF])).symm.trans ab) (by rw[←h y (by simp [bc.cF])]; exact a8) hb hm aW
 |jj aS hp=>exact .jj (by rw[←qR fun x ab=>h x (by simpa [bc.cF] using ab)]; exact aS) hp
 |j3 ab aT aS hp=>exact .j3 ((h _ (by simp [bc.cF])).symm.trans ab) aT (by rw[←qR fun x ab=>h x (by simp only[bc.cF,be4]; exact .inr ab)]; exact aS) hp
 |pq aS hp=>exact .pq (by rw[←qR fun x ab=>h x (by simpa [bc.cF] using ab)]; exact aS) hp
 |p7 ab aT aS hp=>exact .p7 ((h _ (by simp [bc.cF])).symm.trans ab) aT (by rw[←qR fun x ab=>h x (by simp only[bc.cF,be4]; exact .inr ab)]; exact aS) hp
 |iU ab aL=>exact .iU ((h _ (by simp [bc.cF])).symm.trans ab) aL
 |nC ab hb hm aj aw aW=>exact .nC ((h _ (by simp [bc.cF])).symm.trans ab) hb hm aj aw aW
 |mkMap=>exact .mkMap
 |iv ab aL av ac=>exact .iv ((h _ (by simp [bc.cF])).symm.trans ab) aL ((h _ (by simp [bc.cF])).symm.trans av) ac
 |p2 ab av=>exact .p2 ((h _ (by simp [bc.cF])).symm.trans ab) ((h _ (by simp [bc.cF])).symm.trans av)
 |ud ab=>exact .ud ((h _ (by simp [bc.cF])).symm.trans ab)
 |uc ab ac=>exact .uc ((h _ (by simp [bc.cF])).symm.trans ab) ac
 |js ab aL=>exact .js ((h _ (by simp [bc.cF])).symm.trans ab) aL
 |iJ ab aL af aW U=>exact .iJ ((h _ (by simp [bc.cF])).symm.trans ab) aL ((h _ (by simp [bc.cF])).symm.trans af) aW U
 |ji ab aL aG ad=>exact .ji ((h _ (by simp [bc.cF])).symm.trans ab) aL aG ad
 |ma ac ao aj aW=>exact .ma ((Ds fun x ab=>h x (by simpa [bc.cF] using ab)).symm.trans ac) ao aj aW
 |uX ab a8 hb hm aW=>
  rename_i T size bytes x y rows
  exact .uX ((h _ (by simp [bc.cF])).symm.trans ab) (by rw[←h y (by simp [bc.cF])]; exact a8) hb hm aW
 |um aS hp=>exact .um (by rw[←qR fun x ab=>h x (by simpa [bc.cF] using ab)]; exact aS) hp
theorem vD {P:Program}{op:bc}{env bb:Env}{H:aA}{K K' Rp jo:I→aA→Prop}(h:yd op env bb) (av: ∀v aC,K v aC→K' v aC) (ac: ∀v aC,Rp v aC→jo v aC) (ao:hT P op env H K Rp):hT P op bb H K' jo:=by
 cases ao with
 |ii d bG a6=>exact .ii d (JO h bG) fun x ab=>av _ _ (a6 x ab)
 |store aS hb a1 aG aj a6=>
  rename_i n a v b o T cs
  have e:=h v (by simp [bc.cF])
  exact .store ((h _ (by simp [bc.cF])).symm.trans aS) hb (by rw[←e]; exact a1) aG (by rw[←e]; exact aj) (by rw[←e]; exact av _ _ a6)
 |gK o9 lc aS hb a1 aG aj a6=>
  rename_i e3 others n a v b o T cs
  have e:=h v (by simp [bc.cF])
  refine .gK ((h (.t e3) (by simp [bc.cF])).symm.trans o9) (fun s ao=> ?_) ((h _ (by simp [bc.cF])).symm.trans aS) hb (by rw[←e]; exact a1) aG (by rw[←e]; exact aj) (by rw[←e]; exact av _ _ a6)
  obtain⟨bT,U,aa⟩:=lc s ao
  exact⟨bT,(h (.t s) (by simp [bc.cF]; exact .inr (.inr (.inr ao)))).symm.trans U,aa⟩
 |append ab aL a8 hb hm a6=>
  rename_i T size bytes x y t rows new
  exact .append ((h _ (by simp [bc.cF])).symm.trans ab) aL (by rw[←h y (by simp [bc.cF])]; exact a8) hb hm (av _ _ a6)
 |mJ ab aL a8 hb hm a6=>
  rename_i T size bytes x y t aU rows new
  exact .mJ ((h _ (by simp [bc.cF])).symm.trans ab) aL (by rw[←h y (by simp [bc.cF])]; exact a8) hb hm (av _ _ a6)
 |zl ab a6=>exact .zl ((h _ (by simp [bc.cF])).symm.trans ab) fun b=>av _ _ (a6 b)
 |mZ ab aL aG ab8 U bu a6=>exact .mZ ((h _ (by simp [bc.cF])).symm.trans ab) aL ((xE fun y a8=>h y (by simp only[bc.cF,be4,bf7]; exact .inr (.inl a8))).symm.trans aG) ((xE fun y a8=>h y (by simp only[bc.cF,be4,bf7]; exact .inr (.inr a8))).symm.trans ab8) U bu (av _ _ a6)
 |uy aS aL a1 aG aj aT kc hlen a6=>
  rename_i n a v t aU k T size rows dT
  have e:=h v (by simp [bc.cF])
  exact .uy ((h _ (by simp [bc.cF])).symm.trans aS) aL (by rw[←e]; exact a1) aG (by rw[←e]; exact aj) (by rw[←e]; exact aT) kc hlen (av _ _ a6)
 |nB ab aL oG aj kc a6=>
  rename_i x k v t aU T rows dT s
  have e:=h v (by simp [bc.cF])
  exact .nB ((h _ (by simp [bc.cF])).symm.trans ab) aL ((h _ (by simp [bc.cF])).symm.trans oG) (by rw[←e]; exact aj) (by rw[←e]; exact kc) (av _ _ a6)
 |call Q aS an a6=>exact .call Q (by rw[←qR fun x ab=>h x (by simpa [bc.cF] using ab)]; exact aS) an fun o aC bu=>by have:=a6 o aC bu; cases o<;>first|exact av _ _ this|exact ac _ _ this
 |gj Q ab aT aS an a6=>exact .gj Q ((h _ (by simp [bc.cF])).symm.trans ab) aT (by rw[←qR fun x ab=>h x (by simp only[bc.cF,be4]; exact .inr ab)]; exact aS) an fun o aC bu=>by have:=a6 o aC bu; cases o<;>first|exact av _ _ this|exact ac _ _ this
 |wJ Q ab aT aS an a6=>exact .wJ Q ((h _ (by simp [bc.cF])).symm.trans ab) aT (by rw[←qR fun x ab=>h x (by simp only[bc.cF,be4]; exact .inr ab)]; exact aS) an fun o aC bu=>by have:=a6 o aC bu; cases o<;>first|exact av _ _ this|exact ac _ _ this
 |xU ab hb aT kc aG aW hm a6=>exact .xU ((h _ (by simp [bc.cF])).symm.trans ab) hb aT kc aG aW hm (av _ _ a6)
 |kT Q ab aT aj he aS an a6=>
  refine .kT Q ((h _ (by simp [bc.cF])).symm.trans ab) aT (fun s ao=> ?_) he (by rw[←qR fun x ab=>h x (by simp only[bc.cF,be4,bf7]; exact .inr (.inl ab))]; exact aS) an fun o aC bu=>by have:=a6 o aC bu; cases o<;>first|exact av _ _ this|exact ac _ _ this
  obtain⟨b,U,aa⟩:=aj s ao
  exact⟨b,(h (.t s) (by simp only[bc.cF,be4,bf7]; exact .inr (.inr (List.mem_map.2 ⟨s,ao,rfl⟩)))).symm.trans U,aa⟩
 |gP Q aj he aS an a6=>
  refine .gP Q (fun s ao=> ?_) he (by rw[←qR fun x ab=>h x (by simp only[bc.cF,bf7]; exact .inl ab)]; exact aS) an fun o aC bu=>by have:=a6 o aC bu; cases o<;>first|exact av _ _ this|exact ac _ _ this
  obtain⟨b,U,aa⟩:=aj s ao
  exact⟨b,(h (.t s) (by simp only[bc.cF,bf7]; exact .inr (List.mem_map.2 ⟨s,ao,rfl⟩))).symm.trans U,aa⟩
 |panic ab a6=>exact .panic ((h _ (by simp [bc.cF])).symm.trans ab) (ac _ _ a6)
theorem vj {P:Program}{i:bK}{env bb:Env}{H:aA}{K K' Rp jo:I→aA→Prop}(h:kM i env bb) (av: ∀v aC,K v aC→K' v aC) (ac: ∀v aC,Rp v aC→jo v aC) (ao:GStep P i env H K Rp):GStep P i bb H K' jo:=by
 unfold GStep at ao ⊢
 rw[←r8 h]
 split at ao
 ·exact vD h.1 av ac ao
 ·exact av _ _ ao
 ·exact ao.elim
theorem Gc {e ct:Env}(h:kp e ct) (d:Option Nat) (v:I):kp (e.put d v) (ct.put d v):=fun k=>by
 cases d with
 |none=>exact h k
 |some d=>simp only[Env.put,Env.get,h k]
theorem yi {i:bK}{e ct:Env}(h:kp e ct):kM i e ct:=If fun k _=>h k
theorem D0 {P:Program}{K:Env→aA→Prop}{Rp:I→aA→Prop}(dL: ∀e ct H,kp e ct→K e H→K ct H): ∀(l:List bK){e ct:Env}{H:aA},kp e ct→bn P l e H K Rp→bn P l ct H K Rp
 |[],e,ct,H,h,bG=>by simp only[bn]at bG ⊢; exact dL e ct H h bG
 |i::l,e,ct,H,h,bG=>by
  rw[AA]at bG ⊢
  exact vj (yi h) (fun v aC a6=>D0 dL l (Gc h i.dst v) a6) (fun _ _ h=>h) bG
def jU (op:bc) (env:Env):D:=
 match op with
 | .bin o x y=>(match o,x.aI env,y.aI env with
  | .quo,.int k a,.int _ b=> .cZ (.int k (k.wrap (a.tdiv b)))
  | .rem,.int k a,.int _ b=> .cZ (.int k (a.tmod b))
  | .add,.str a,.str b=> .cZ (.str (a++b))
  | _,_,_=> .cZ .eD)
 | .hV size x i=>(match x.aI env,i.aI env with
  | .aq _ rows,.int _ n=> .cZ (.ed (rows.getD n.toNat []) 0)
  | .own _ _ rows,.int _ n=> .cZ (.ed (rows.getD n.toNat []) 0)
  | .dV (.slice (some ⟨b,o,_⟩) _ _),.int _ n=> .cZ (.ptr b (o+n.toNat*size))
  | _,_=> .cZ .eD)
 | .mS _ size x i=>(match x.aI env,i.aI env with
  | .ptr b o,.int _ n=> .cZ (.ptr b (o+n.toNat*size))
  | .ed r o,.int _ n=> .cZ (.ed r (o+n.toNat*size))
  | _,_=> .cZ .eD)
 | .jw agg _ size x i=>(match x.aI env,i.aI env with
  | .agg cs,.int _ n=> .cZ ((I.iA agg ((cs.drop (n.toNat*size)).take size)).getD .eD)
  | _,_=> .cZ .eD)
 | .fQ x i=>(match x.aI env,i.aI env with
  | .str s,.int _ n=> .cZ (.int .u8 (s.getD n.toNat 0).toNat)
  | _,_=> .cZ .eD)
 | .iB x b3 af=>(match x.aI env with
  | .str s=> .cZ (.str ((s.take ((jK env s.length af).getD 0)).drop ((jK env 0 b3).getD 0)))
  | _=> .cZ .eD)
 | .gJ size x b3 af _=>(match na size (x.aI env) with
  |some rows=> .cZ (.aq size ((rows.take ((jK env rows.length af).getD 0)).drop ((jK env 0 b3).getD 0)))
  |none=> .cZ .eD)
 | .jP T x=>(match x.aI env with
  | .str s=> .cZ (.aq 1 (s.map fun c=>[.int .u8 c.toNat]))
  | _=> .cZ .eD)
 | .box T x=> .jx T (x.aI env).cells
 | .alloc T zero=> .jx T zero
 | .et _ size _ _ parts=> .cZ (.aq size (j7 env parts))
 | .lr T size _ _ parts=> .Ce T size (j7 env parts)
 | .ma T size _ _ parts=> .vN T size (j7 env parts)
 | .nC T size _ zero x=> .vN T size (bc9 (match x.aI env with| .int _ n=>n.toNat| _=>0) zero)
 | .xH T size _ _ rows=> .vN T size rows
 | .mkMap T=> .bh (.be T 0 []) fun x=> .cV x 0
 | .append T size _ _ y=> .Ce T size ((rowsOf size (y.aI env)).getD [])
 | .vV _ _ r=> .cZ r
 | .vW _ _ r=> .cZ r
 | _=> .cZ .eD
def JE (op:bc) (env:Env) (H:aA):D:=
 match bX op env H with
 |some v=> .cZ v
 |none=>jU op env
theorem JP {P:Program}{op:bc}{env:Env}{H:aA}{d:D}(ac:op.c7≤2) (h:eF P op env H d):d=JE op env H:=by
 unfold JE
 cases h with
 |pure hp=>simp only[hp]
 |quo ab a8 hb=>simp [bX,ab,a8,qs,jU]
 |rem ab a8 hb=>simp [bX,ab,a8,qs,jU]
 |bU ab a8 hb=>simp [bX,ab,a8,so,jU]
 |n5 ab af aW bu=>simp [bX,ab,af,jU,bu,bo4]
 |n2 ab af aW bu=>simp [bX,ab,af,jU,bu,bo4]
 |oI ab af aW ac=>simp [bX,ab,af,jU]
 |nA ab af aW ac=>simp [bX,ab,af,jU]
 |n3 ab af aW ac=>simp [bX,ab,af,jU]
 |jw ab af aW U aG ad=>simp [bX,ab,af,jU,ad]
 |fQ ab af aW an=>simp [bX,ab,af,jU,an,bo4]
 |iB ab aG a6 U aa=>simp [bX,ab,jU,aG,a6]
 |gJ ab aG a6 U aa=>simp [bX,ab,jU,aG,a6]
 |jP ab=>simp [bX,jU,ab]
 |box ab=>simp [bX,jU]
 |alloc aw=>simp [bX,jU]
 |oo ac ao aj=>simp [bX,jU,ac]
 |lr ac ao aj aW=>simp [bX,jU,ac]
 |qm ab a8 hb hm aW=>simp [bX,jU,a8]
 |jj aS hp=>simp [bc.c7]at ac
 |j3 ab aT aS hp=>simp [bc.c7]at ac
 |iU ab aL=>simp [bc.c7]at ac
 |ud ab=>simp [bc.c7]at ac
 |uc ab _=>simp [bc.c7]at ac
 |js ab aL=>simp [bc.c7]at ac
 |iJ ab aL af aW U=>simp [bc.c7]at ac
 |ji ab aL aG ad=>simp [bc.c7]at ac
 |ma bu ao aj aW=>simp [bX,jU,bu]
 |nC ab hb hm aj aw aW=>simp [bX,jU,ab]
 |mkMap=>simp [bX,jU]
 |iv=>simp [bc.c7]at ac
 |p2=>simp [bc.c7]at ac
 |uX ab a8 hb hm aW=>simp [bc.c7]at ac
 |um aS hp=>simp [bX,jU]
 |pq aS hp=>simp [bX,jU]
 |p7 ab aT aS hp=>simp [bX,jU]
theorem Yj {P:Program}{op:bc}{env:Env}{H:aA}{d kW:D}(ac:op.c7≤2) (h:eF P op env H d) (k:eF P op env H kW):d=kW:=by
 rw[JP ac h,JP ac k]
def AC (H aC:aA):Prop:=∀b x,H.aY b=some x→aC.aY b=some x
theorem ax4 {op:bc}{env:Env}{H aC:aA}{v:I}(h:AC H aC) (hp:bX op env H=some v):bX op env aC=some v:=by
 cases op<;>try exact hp
 ·rename_i agg n x
  simp only[bX]at hp ⊢
  split at hp
  ·rename_i b o e
   cases hb:H.aY b with
   |none=>simp [hb]at hp
   |some y=>simp only[h b y hb]; simpa [hb] using hp
  ·rename_i e; exact hp
  ·cases hp
 ·rename_i e3 agg n x
  simp only[bX]at hp ⊢
  split at hp
  ·rename_i b bT o ap ay
   cases hb:H.aY bT with
   |none=>simp [hb]at hp
   |some y=>simp only[h bT y hb]; simpa [hb] using hp
  ·cases hp
theorem Yk {P:Program}{op:bc}{env:Env}{H aC:aA}{d:D}(hr:op.c7≤2) (h:AC H aC) (bG:eF P op env H d):eF P op env aC d:=by
 cases bG with
 |pure hp=>exact .pure (ax4 h hp)
 |quo a b c=>exact .quo a b c
 |rem a b c=>exact .rem a b c
 |bU a b c=>exact .bU a b c
 |n5 a b c d=>exact .n5 a b c d
 |n2 a b c d=>exact .n2 a b c d
 |oI a b c d=>exact .oI a b c d
 |nA a b c d=>exact .nA a b c d
 |n3 a b c d=>exact .n3 a b c d
 |jw a b c d e f=>exact .jw a b c d e f
 |fQ a b c d=>exact .fQ a b c d
 |iB a b c d e=>exact .iB a b c d e
 |gJ a b c d e=>exact .gJ a b c d e
 |jP a=>exact .jP a
 |box a=>exact .box a
 |alloc a=>exact .alloc a
 |oo a b c=>exact .oo a b c
 |lr a b c d=>exact .lr a b c d
 |qm a b c d e=>exact .qm a b c d e
 |jj a b=>exact .jj a b
 |j3 a b c d=>exact .j3 a b c d
 |iU ab aL=>simp [bc.c7]at hr
 |ud ab=>simp [bc.c7]at hr
 |uc ab _=>simp [bc.c7]at hr
 |js ab aL=>simp [bc.c7]at hr
 |iJ ab aL af aW U=>simp [bc.c7]at hr
 |ji ab aL aG ad=>simp [bc.c7]at hr
 |ma a b c d=>exact .ma a b c d
 |nC a b c d e f=>exact .nC a b c d e f
 |mkMap=>exact .mkMap
 |iv=>simp [bc.c7]at hr
 |p2=>simp [bc.c7]at hr
 |uX ab a8 hb hm aW=>simp [bc.c7]at hr
 |um a b=>exact .um a b
 |pq a b=>exact .pq a b
 |p7 a b c d=>exact .p7 a b c d
def sY (op:bc) (env:Env):Nat:=
 match op with
 | .load _ _ x=>match x.aI env with| .ptr b _=>b| _=>0
 | .gb _ _ _ x=>match x.aI env with| .ptr b _=>b| _=>0
 | .append _ _ _ x _=>match x.aI env with| .own t _ _=>t| _=>0
 | _=>0
theorem Yh {P:Program}{op:bc}{env:Env}{H aC:aA}{d:D}(hr:op.c7≤2) (h:aC.aY (sY op env)=H.aY (sY op env)) (bG:eF P op env aC d):eF P op env H d:=by
 cases bG with
 |pure hp=>
  refine .pure ?_
  cases op<;>try exact hp
  ·rename_i agg n x
   simp only[bX,sY]at hp h ⊢
   split at hp
   ·rename_i b o e
    simp only[e]at h
    rw[←h]
    exact hp
   ·exact hp
   ·cases hp
  ·rename_i e3 agg n x
   simp only[bX,sY]at hp h ⊢
   split at hp
   ·rename_i b bT o ap ay
    simp only[ay]at h
    rw[←h]
    exact hp
   ·cases hp
 |quo a b c=>exact .quo a b c
 |rem a b c=>exact .rem a b c
 |bU a b c=>exact .bU a b c
 |n5 a b c d=>exact .n5 a b c d
 |n2 a b c d=>exact .n2 a b c d
 |oI a b c d=>exact .oI a b c d
 |nA a b c d=>exact .nA a b c d
 |n3 a b c d=>exact .n3 a b c d
 |jw a b c d e f=>exact .jw a b c d e f
 |fQ a b c d=>exact .fQ a b c d
 |iB a b c d e=>exact .iB a b c d e
 |gJ a b c d e=>exact .gJ a b c d e
 |jP a=>exact .jP a
 |box a=>exact .box a
 |alloc a=>exact .alloc a
 |oo a b c=>exact .oo a b c
 |lr a b c d=>exact .lr a b c d
 |qm a b c d e=>exact .qm a b c d e
 |jj a b=>exact .jj a b
 |j3 a b c d=>exact .j3 a b c d
 |iU ab aL=>simp [bc.c7]at hr
 |ud ab=>simp [bc.c7]at hr
 |uc ab _=>simp [bc.c7]at hr
 |js ab aL=>simp [bc.c7]at hr
 |iJ ab aL af aW U=>simp [bc.c7]at hr
 |ji ab aL aG ad=>simp [bc.c7]at hr
 |ma a b c d=>exact .ma a b c d
 |nC a b c d e f=>exact .nC a b c d e f
 |mkMap=>exact .mkMap
 |iv=>simp [bc.c7]at hr
 |p2=>simp [bc.c7]at hr
 |uX ab a8 hb hm aW=>simp [bc.c7]at hr
 |um a b=>exact .um a b
 |pq a b=>exact .pq a b
 |p7 a b c d=>exact .p7 a b c d
inductive X where
 |d (d:D)
 |eV (t T size:Nat) (rows new:List (List I))
def X.fresh:X→Nat→aA→Prop
 | .d e,n,H=>e.fresh n H
 | .eV ..,_,_=>True
def X.val:X→Nat→I
 | .d e,n=>e.val n
 | .eV t _ size rows new,_=> .own t size (rows++new)
def X.heap:X→aA→Nat→aA
 | .d e,H,n=>e.heap H n
 | .eV t T size rows new,H,_=>H.ck t (.bY T size (rows.length+new.length))
def X.ok:X→aA→Prop
 | .d _,_=>True
 | .eV t T size rows _,H=>H.tok t=some (.bY T size rows.length)
inductive kP (P:Program) (i:bK) (env:Env) (H:aA):X→Prop
 |skip (hw:wanted i env=some false):kP P i env H (.d (.cZ .undef))
 |d {d}(hw:wanted i env=some true) (bG:eF P i.op env H d):kP P i env H (.d d)
 |eV {T size bytes x y t rows new}(hw:wanted i env=some true) (aj:i.op= .append T size bytes x y) (ab:x.aI env= .own t size rows) (a8:rowsOf size (y.aI env)=some new) (hb:(rows.length+new.length)*bytes≤140737488355328) (hm:rows.length+new.length≤maxLen):kP P i env H (.eV t T size rows new)
theorem mO {P:Program}{i:bK}{env:Env}{H:aA}{K Rp:I→aA→Prop}(ac:i.op.c7≤2):GStep P i env H K Rp↔ ∃x,kP P i env H x∧x.ok H∧∀n,x.fresh n H→K (x.val n) (x.heap H n):=by
 constructor
 ·intro h
  unfold GStep at h
  split at h
  ·rename_i hw
   generalize aj:i.op=op at h ac
   cases h with
   |ii d bG a6=>exact⟨.d d,.d hw (aj▸bG),trivial,a6⟩
   |append ab aL a8 hb hm a6=>exact⟨.eV _ _ _ _ _,.eV hw aj ab a8 hb hm,aL,fun _ _=>a6⟩
   |store=>simp [bc.c7]at ac
   |call=>simp [bc.c7]at ac
   |gj=>simp [bc.c7]at ac
   |wJ=>simp [bc.c7]at ac
   |gP=>simp [bc.c7]at ac
   |kT=>simp [bc.c7]at ac
   |xU=>simp [bc.c7]at ac
   |panic=>simp [bc.c7]at ac
   |mJ=>simp [bc.c7]at ac
   |mZ=>simp [bc.c7]at ac
   |zl=>simp [bc.c7]at ac
   |uy=>simp [bc.c7]at ac
   |nB=>simp [bc.c7]at ac
   |gK=>simp [bc.c7]at ac
  ·rename_i hw
   exact⟨.d (.cZ .undef),.skip hw,trivial,fun _ _=>h⟩
  ·exact h.elim
 ·rintro⟨x,bG,ir,a6⟩
  unfold GStep
  cases bG with
  |skip hw=>rw[hw]; exact a6 0 trivial
  |d hw bG=>rw[hw]; exact .ii _ bG a6
  |eV hw aj ab a8 hb hm=>rw[hw,aj]; exact .append ab ir a8 hb hm (a6 0 trivial)
theorem rv {P:Program}{i:bK}{env bb:Env}{H:aA}{x:X}(h:kM i env bb) (bG:kP P i env H x):kP P i bb H x:=by
 have hw:=r8 h
 cases bG with
 |skip U=>exact .skip (hw▸U)
 |d U aa=>exact .d (hw▸U) (JO h.1 aa)
 |eV U aj ab a8 hb hm=>
  rename_i T size bytes x y t rows new
  have ap:=h.1 x (by simp [aj,bc.cF])
  have ay:=h.1 y (by simp [aj,bc.cF])
  exact .eV (hw▸U) aj (ap▸ab) (ay▸a8) hb hm
theorem JN {P:Program}{i:bK}{env:Env}{H aC:aA}{x:X}(hr:i.op.c7≤2) (h:AC H aC) (bG:kP P i env H x):kP P i env aC x:=by
 cases bG with
 |skip U=>exact .skip U
 |d U aa=>exact .d U (Yk hr h aa)
 |eV U aj ab a8 hb hm=>exact .eV U aj ab a8 hb hm
theorem Yf {P:Program}{i:bK}{env:Env}{H aC:aA}{x:X}(hr:i.op.c7≤2) (h:aC.aY (sY i.op env)=H.aY (sY i.op env)) (bG:kP P i env aC x):kP P i env H x:=by
 cases bG with
 |skip U=>exact .skip U
 |d U aa=>exact .d U (Yh hr h aa)
 |eV U aj ab a8 hb hm=>exact .eV U aj ab a8 hb hm
theorem Ba {P:Program}{i:bK}{env:Env}{H:aA}{x cN:X}(ac:i.op.c7≤2) (h:kP P i env H x) (k:kP P i env H cN):x=cN:=by
 cases h with
 |skip U=>
  cases k with
  |skip=>rfl
  |d br=>rw[U]at br; cases br
  |eV br=>rw[U]at br; cases br
 |d U aa=>
  cases k with
  |skip br=>rw[U]at br; cases br
  |d br bB=>rw[Yj ac aa bB]
  |eV br aj ab a8 hb hm=>
   rw[aj]at aa
   cases aa with
   |pure hp=>simp [bX]at hp
   |qm jv=>rw[ab]at jv; cases jv
 |eV U aj ab a8 hb hm=>
  cases k with
  |skip br=>rw[U]at br; cases br
  |d br bB=>
   rw[aj]at bB
   cases bB with
   |pure hp=>simp [bX]at hp
   |qm jv=>rw[ab]at jv; cases jv
  |eV br mR jv Fx hi a52=>
   rw[aj]at mR
   simp at mR
   obtain⟨rfl,rfl,_,rfl,rfl⟩:=mR
   rw[ab]at jv
   simp at jv
   obtain⟨rfl,rfl⟩:=jv
   rw[a8]at Fx
   simp at Fx
   subst Fx
   rfl
theorem Ml {H:aA}(h:hL H) (M:Nat) (x:X): ∃n,M<n∧x.fresh n H:=by
 obtain⟨N,cP⟩:=h
 refine⟨max N (M+1),by omega,?_⟩
 have:=cP (max N (M+1)) (by omega)
 cases x with
 |d e=>cases e<;>simp [X.fresh,D.fresh,this]
 |eV=>trivial
theorem Nn {H:aA}{x:X}{n:Nat}(h:x.fresh n H):AC H (x.heap H n):=by
 intro b y hb
 cases x with
 |d e=>
  cases e with
  |cZ=>exact hb
  |bh=>exact hb
  |jx T cs=>
   simp only[X.fresh,D.fresh]at h
   simp only[X.heap,D.heap,aA.cp]
   rw[if_neg (fun e=>by subst e; rw[h]at hb; cases hb)]
   exact hb
 |eV=>exact hb
theorem UI {H:aA}{x:X}{n b:Nat}(h:b<n):(x.heap H n).aY b=H.aY b:=by
 cases x with
 |d e=>
  cases e with
  |cZ=>rfl
  |bh=>rfl
  |jx T cs=>
   simp only[X.heap,D.heap,aA.cp]
   rw[if_neg (by omega)]
 |eV=>rfl
theorem Y7 {H:aA}{x y:X}{n k:Nat}(av:y.fresh k H) (h:x.fresh n (y.heap H k)):x.fresh n H:=by
 cases x with
 |d e=>
  cases e with
  |cZ=>trivial
  |jx T cs=>
   simp only[X.fresh,D.fresh]at h ⊢
   cases y with
   |d f=>
    cases f with
    |cZ=>exact h
    |bh=>exact h
    |jx=>
     simp only[X.heap,D.heap,aA.cp]at h
     split at h
     ·cases h
     ·exact h
   |eV=>exact h
  |bh o v=>
   simp only[X.fresh,D.fresh]at h ⊢
   cases y with
   |d f=>
    cases f with
    |cZ=>exact h
    |jx=>exact h
    |bh=>
     simp only[X.heap,D.heap,aA.ck]at h
     split at h
     ·cases h
     ·exact h
   |eV=>
    simp only[X.heap,aA.ck]at h
    split at h
    ·cases h
    ·exact h
 |eV=>trivial
theorem Zb {H:aA}{x y:X}{n k:Nat}(ab:x.ok H) (av:y.fresh k H) (h:x.fresh n (y.heap H k)):y.fresh k (x.heap H n):=by
 cases y with
 |d f=>
  cases f with
  |cZ=>trivial
  |jx T cs=>
   simp only[X.fresh,D.fresh]at av ⊢
   cases x with
   |d e=>
    cases e with
    |cZ=>exact av
    |bh=>exact av
    |jx=>
     simp only[X.fresh,D.fresh,X.heap,D.heap,aA.cp]at h ⊢
     by_cases e:k=n
     ·subst e; simp at h
     ·rw[if_neg e]; exact av
   |eV=>exact av
  |bh o v=>
   simp only[X.fresh,D.fresh]at av ⊢
   cases x with
   |d e=>
    cases e with
    |cZ=>exact av
    |jx=>exact av
    |bh=>
     simp only[X.fresh,D.fresh,X.heap,D.heap,aA.ck]at h ⊢
     by_cases e:k=n
     ·subst e; simp at h
     ·rw[if_neg e]; exact av
   |eV t cG bR rows new=>
    simp only[X.heap,aA.ck]
    simp only[X.ok]at ab
    rw[if_neg (fun e=>by subst e; rw[av]at ab; cases ab)]
    exact av
 |eV=>trivial
theorem zW {H:aA}{a b:Nat}{T pH:TypeId}{c d:List I}(h:a≠b):(H.cp a T c).cp b pH d=(H.cp b pH d).cp a T c:=by
 simp only[aA.cp,aA.mk.injEq,and_true]
 funext x
 by_cases e:x=b
 ·subst e; simp [Ne.symm h]
 ·simp [e]
theorem GZ {H:aA}{a b:Nat}{c d:bM}(h:a≠b):(H.ck a c).ck b d=(H.ck b d).ck a c:=by
 simp only[aA.ck,aA.mk.injEq,true_and]
 funext x
 by_cases e:x=b
 ·subst e; simp [Ne.symm h]
 ·simp [e]
theorem ab0 {H:aA}{x y:X}{n k:Nat}(ab:x.ok H) (a8:y.ok H) (av:y.fresh k H) (h:x.fresh n (y.heap H k)) (a1:x.fresh n H) (aa: ∀t T s r w dv cG bR eo w',x= .eV t T s r w→y= .eV dv cG bR eo w'→False):x.heap (y.heap H k) n=y.heap (x.heap H n) k:=by
 cases x with
 |d e=>
  cases e with
  |cZ=>rfl
  |jx T cs=>
   cases y with
   |d f=>
    cases f with
    |cZ=>rfl
    |bh=>rfl
    |jx=>
     simp only[X.fresh,D.fresh,X.heap,D.heap,aA.cp]at h
     have eg:k≠n:=fun e=>by subst e; simp at h
     exact zW eg
   |eV=>rfl
  |bh o v=>
   cases y with
   |d f=>
    cases f with
    |cZ=>rfl
    |jx=>rfl
    |bh=>
     simp only[X.fresh,D.fresh,X.heap,D.heap,aA.ck]at h
     have eg:k≠n:=fun e=>by subst e; simp at h
     exact GZ eg
   |eV t cG bR rows new=>
    simp only[X.ok]at a8
    simp only[X.fresh,D.fresh]at a1
    have eg:t≠n:=fun e=>by subst e; rw[a1]at a8; cases a8
    exact GZ eg
 |eV t T s rows new=>
  cases y with
  |d f=>
   cases f with
   |cZ=>rfl
   |jx=>rfl
   |bh=>
    simp only[X.ok]at ab
    simp only[X.fresh,D.fresh]at av
    have eg:k≠t:=fun e=>by subst e; rw[av]at ab; cases ab
    exact GZ eg
  |eV=>exact (aa _ _ _ _ _ _ _ _ _ _ rfl rfl).elim
theorem Mu {env:Env}{d:Option Nat}{v:I}{k:Nat}(h: ∀x,d=some x→x≠k):(env.put d v).get k=env.get k:=by
 cases d with
 |none=>rfl
 |some x=>
  have:=h x rfl
  simp only[Env.put,Env.get]
  have hb:(x==k)=false:=by simpa using this
  simp [hb]
theorem put_comm {env:Env}{d e:Option Nat}{v u:I}(h: ∀x,d=some x→e≠some x):kp ((env.put d v).put e u) ((env.put e u).put d v):=by
 intro k
 cases d with
 |none=>rfl
 |some x=>
  cases e with
  |none=>rfl
  |some y=>
   have eg:y≠x:=fun e=>h x rfl (by rw[e])
   simp only[Env.put,Env.get]
   by_cases ap:x=k
   ·subst ap
    have hb:(y==x)=false:=by simpa using eg
    simp [hb]
   ·have hb:(x==k)=false:=by simpa using ap
    simp [hb]
theorem ai4 {i j:bK}(h:indep i j=true):(∀x,i.dst=some x→x∉j.reads∧j.dst≠some x)∧(∀x,j.dst=some x→x∉i.reads)∧(yr i j=true∨(i.op.quiet=true∧j.op.quiet=true)∨(i.op.s3=true∧j.op.tp=true)∨i.op.c7=0∨(i.op.live=true∧j.op.c7=0)∨zZ i j=true∨(i.op.c7=3∧j.total=true)∨(i.op.c7≤2∧j.op.c7≤2∧¬(i.op.c7=2∧j.op.c7=2))):=by
 simp only[indep,bb6,bm0,bg6,decide_eq_true_eq,beq_iff_eq,Bool.and_eq_false_iff,beq_eq_false_iff_ne]at h
 obtain⟨⟨U,aa⟩,aD⟩:=h
 refine⟨fun x ab=> ?_,fun x ab=> ?_,?_⟩
 ·rw[ab]at U
  simp at U
  exact⟨U.1,U.2⟩
 ·rw[ab]at aa
  simpa using aa
 ·rcases aD with ((((((aD|aD)|aD)|aD)|aD)|aD)|aD)|aD
  ·exact .inl aD
  ·exact .inr (.inr (.inr (.inl aD)))
  ·exact .inr (.inl aD)
  ·exact .inr (.inr (.inl aD))
  ·exact .inr (.inr (.inr (.inr (.inl aD))))
  ·exact .inr (.inr (.inr (.inr (.inr (.inl aD)))))
  ·exact .inr (.inr (.inr (.inr (.inr (.inr (.inl aD))))))
  ·refine .inr (.inr (.inr (.inr (.inr (.inr (.inr ⟨aD.1.1,aD.1.2,fun e=> ?_⟩))))))
   rcases aD.2 with ct|ct
   ·exact ct e.1
   ·exact ct e.2
theorem wD {i:bK}{env:Env}{d:Option Nat}{v:I}(h: ∀x,d=some x→x∉i.reads):kM i env (env.put d v):=
 If fun k av=>(Mu fun x ab e=>h x ab (e▸av)).symm
theorem kM.symm {i:bK}{e ct:Env}(h:kM i e ct):kM i ct e:=⟨fun x ab=>(h.1 x ab).symm,fun j w bo=>(h.2 j w bo).symm⟩
theorem JM {P:Program}{i:bK}{env:Env}{H:aA}{t T s:Nat}{r w:List (List I)}(h:kP P i env H (.eV t T s r w)):i.op.c7=2:=by
 cases h with
 |eV U aj=>simp [aj,bc.c7]
theorem Yg {P:Program}{i:bK}{env:Env}{H:aA}{t T s:Nat}{r w:List (List I)}(h:kP P i env H (.eV t T s r w)):sY i.op env=t:=by
 cases h with
 |eV U aj ab=>simp [aj,sY,ab]
theorem Si {P:Program}{i:bK}{env:Env}{H:aA}{x:X}(ac:i.op.c7=0) (h:kP P i env H x): ∃v,x= .d (.cZ v)∧∀aC,kP P i env aC x:=by
 cases h with
 |skip hw=>exact⟨_,rfl,fun aC=> .skip hw⟩
 |eV hw aj=>simp [aj,bc.c7]at ac
 |d hw bG=>
  rename_i d
  have aa7: ∃v,d= .cZ v:=by
   generalize i.op=op at bG ac
   cases bG<;>first
    |exact⟨_,rfl⟩
    |(simp [bc.c7]at ac; done)
  obtain⟨v,rfl⟩:=aa7
  refine⟨v,rfl,fun aC=> .d hw ?_⟩
  have hle: ∀H1 dt:aA,eF P i.op env H1 (.cZ v)→eF P i.op env dt (.cZ v):=by
   intro H1 dt bG
   generalize i.op=op at bG ac
   cases bG with
   |pure hp=>
    refine .pure ?_
    cases op<;>first
     |exact hp
     |(simp [bc.c7]at ac; done)
   |quo a b c=>exact .quo a b c
   |rem a b c=>exact .rem a b c
   |bU a b c=>exact .bU a b c
   |n5 a b c d=>exact .n5 a b c d
   |n2 a b c d=>exact .n2 a b c d
   |oI a b c d=>exact .oI a b c d
   |nA a b c d=>exact .nA a b c d
   |n3 a b c d=>exact .n3 a b c d
   |jw a b c d e f=>exact .jw a b c d e f
   |fQ a b c d=>exact .fQ a b c d
   |iB a b c d e=>exact .iB a b c d e
   |gJ a b c d e=>exact .gJ a b c d e
   |jP a=>exact .jP a
   |oo a b c=>exact .oo a b c
   |jj a b=>exact .jj a b
   |j3 a b c d=>exact .j3 a b c d
   |iU=>simp [bc.c7]at ac
   |ud=>simp [bc.c7]at ac
   |uc=>simp [bc.c7]at ac
   |js=>simp [bc.c7]at ac
   |iJ=>simp [bc.c7]at ac
   |ji=>simp [bc.c7]at ac
   |iv=>simp [bc.c7]at ac
   |p2=>simp [bc.c7]at ac
   |pq a b=>exact .pq a b
   |p7 a b c d=>exact .p7 a b c d
  exact hle H aC bG
theorem aQ3 {P:Program}{j:bK}(h:j.total=true) (env:Env) (H:aA): ∃v,kP P j env H (.d (.cZ v))∧∀bb,kM j env bb→∀aC,kP P j bb aC (.d (.cZ v)):=by
 simp only[bK.total,bb6,bs5]at h
 obtain⟨U,aa⟩:=h
 have hw: ∀env,wanted j env=some true:=fun env=>by simp [wanted,U]
 have ad: ∃v,∀H,bX j.op env H=some v:=by
  split at aa<;>first
   |(rename_i e; rw[e]; exact⟨_,fun _=>rfl⟩)
   |cases aa
 obtain⟨v,ad⟩:=ad
 exact⟨v,.d (hw env) (.pure (ad H)),fun bb aS aC=> .d (hw bb) (.pure ((Pz aC aS.1).symm.trans (ad aC)))⟩
theorem rE {H:aA}{x:X}{n:Nat}(h:hL H):hL (x.heap H n):=by
 obtain⟨N,cP⟩:=h
 cases x with
 |d e=>
  cases e with
  |cZ=>exact⟨N,cP⟩
  |jx T cs=>
   refine⟨max N (n+1),fun k av=> ?_⟩
   have:=cP k (by omega)
   simp only[X.heap,D.heap,aA.cp]
   rw[if_neg (by omega)]
   exact this
  |bh o v=>
   refine⟨max N (n+1),fun k av=> ?_⟩
   have:=cP k (by omega)
   simp only[X.heap,D.heap,aA.ck]
   rw[if_neg (by omega)]
   exact this
 |eV t T s r w=>
  refine⟨max N (t+1),fun k av=> ?_⟩
  have:=cP k (by omega)
  simp only[X.heap,aA.ck]
  rw[if_neg (by omega)]
  exact this
theorem ap9 {P:Program}{i:bK}{env:Env}{H:aA}{K Rp:I→aA→Prop}(aG:i.op.live=true) (cR:hL H) (h:GStep P i env H K Rp): ∃O:I→aA→Prop,(∃v aC,O v aC∧hL aC)∧(∀v aC,O v aC→K v aC)∧∀bb,kM i env bb→∀K':I→aA→Prop,(∀v aC,O v aC→K' v aC)→GStep P i bb H K' Rp:=by
 unfold GStep at h
 split at h
 ·rename_i hw
  have key: ∀ {op:bc},op.live=true→hT P op env H K Rp→∃O:I→aA→Prop,(∃v aC,O v aC∧hL aC)∧(∀v aC,O v aC→K v aC)∧∀K':I→aA→Prop,(∀v aC,O v aC→K' v aC)→hT P op env H K' Rp:=by
   intro op aG h
   cases h with
   |ii d bG a6=>
    obtain⟨n,_,a1⟩:=Ml cR 0 (.d d)
    exact⟨fun v aC=> ∃x,d.fresh x H∧v=d.val x∧aC=d.heap H x,⟨_,_,⟨n,a1,rfl,rfl⟩,rE (x:= .d d) cR⟩,fun v aC ⟨x,U,aa,aD⟩=>by subst aa; subst aD; exact a6 x U,fun K' av=> .ii d bG fun x ab=>av _ _ ⟨x,ab,rfl,rfl⟩⟩
   |store aS hb a1 rM aj a6=>
    rename_i n a v b o T cs
    exact⟨fun bD aC=>bD= .undef∧aC=H.cp b T (gg cs o (v.aI env).cells),⟨_,_,⟨rfl,rfl⟩,rE (x:= .d (.jx T _)) (n:=b) cR⟩,fun bD aC ⟨U,aa⟩=>by subst U; subst aa; exact a6,fun K' av=> .store aS hb a1 rM aj (av _ _ ⟨rfl,rfl⟩)⟩
   |mJ ab aL a8 hb hm a6=>
    rename_i T size bytes x y t aU rows new
    exact⟨fun bD aC=>bD= .cV t (aU+1)∧aC=H.ck t (.bC T size (aU+1) (rows++new)),⟨_,_,⟨rfl,rfl⟩,rE (x:= .d (.bh _ fun _=> .eD)) (n:=t) cR⟩,fun bD aC ⟨U,aa⟩=>by subst U; subst aa; exact a6,fun K' av=> .mJ ab aL a8 hb hm (av _ _ ⟨rfl,rfl⟩)⟩
   |mZ ab aL rM ab7 U bu a6=>
    rename_i size x b3 af t aU T rows h q
    exact⟨fun bD aC=>bD= .cV t (aU+1)∧aC=H.ck t (.bC T size (aU+1) ((rows.take h).drop q)),⟨_,_,⟨rfl,rfl⟩,rE (x:= .d (.bh _ fun _=> .eD)) (n:=t) cR⟩,fun bD aC ⟨U,aa⟩=>by subst U; subst aa; exact a6,fun K' av=> .mZ ab aL rM ab7 U bu (av _ _ ⟨rfl,rfl⟩)⟩
   |gK o9 lc aS hb a1 rM aj a6=>
    rename_i e3 others n a v b o T cs
    exact⟨fun bD aC=>bD= .undef∧aC=H.cp b T (gg cs o (v.aI env).cells),⟨_,_,⟨rfl,rfl⟩,rE (x:= .d (.jx T _)) (n:=b) cR⟩,fun bD aC ⟨U,aa⟩=>by subst U; subst aa; exact a6,fun K' av=> .gK o9 lc aS hb a1 rM aj (av _ _ ⟨rfl,rfl⟩)⟩
   |uy aS aL a1 rM aj aT ac hlen a6=>
    rename_i n a v t aU k T size rows dT
    exact⟨fun bD aC=>bD= .undef∧aC=H.ck t (.bC T size aU dT),⟨_,_,⟨rfl,rfl⟩,rE (x:= .d (.bh _ fun _=> .eD)) (n:=t) cR⟩,fun bD aC ⟨U,aa⟩=>by subst U; subst aa; exact a6,fun K' av=> .uy aS aL a1 rM aj aT ac hlen (av _ _ ⟨rfl,rfl⟩)⟩
   |nB ab aL av aj ac a6=>
    rename_i x k v t aU T rows dT s
    exact⟨fun bD aC=>bD= .undef∧aC=H.ck t (.be T aU dT),⟨_,_,⟨rfl,rfl⟩,rE (x:= .d (.bh _ fun _=> .eD)) (n:=t) cR⟩,fun bD aC ⟨U,aa⟩=>by subst U; subst aa; exact a6,fun K' dL=> .nB ab aL av aj ac (dL _ _ ⟨rfl,rfl⟩)⟩
   |zl=>simp [bc.live]at aG
   |append=>simp [bc.live]at aG
   |call=>simp [bc.live]at aG
   |gj=>simp [bc.live]at aG
   |wJ=>simp [bc.live]at aG
   |gP=>simp [bc.live]at aG
   |kT=>simp [bc.live]at aG
   |xU=>simp [bc.live]at aG
   |panic=>simp [bc.live]at aG
  obtain⟨O,U,aa,aD⟩:=key aG h
  refine⟨O,U,aa,fun bb aS K' av=> ?_⟩
  unfold GStep
  rw[←r8 aS,hw]
  exact vD aS.1 (fun _ _ h=>h) (fun _ _ h=>h) (aD K' av)
 ·rename_i hw
  refine⟨fun v aC=>v= .undef∧aC=H,⟨_,_,⟨rfl,rfl⟩,cR⟩,fun v aC ⟨U,aa⟩=>by subst U; subst aa; exact h,fun bb aS K' av=> ?_⟩
  unfold GStep
  rw[←r8 aS,hw]
  exact av _ _ ⟨rfl,rfl⟩
 ·exact h.elim
theorem G6 {i:bK}{e3:Nat}{o:List Nat}(h:i.ux=some (true,e3,o)):i.guard=none∧∃n a v,i.op= .gK e3 o n a v:=by
 unfold bK.ux at h
 split at h
 ·rename_i bo aj
  simp at h
  obtain⟨rfl,rfl⟩:=h
  exact⟨bo,_,_,_,aj⟩
 ·simp at h
 ·cases h
theorem ap4 {i:bK}{e3:Nat}{o:List Nat}(h:i.ux=some (false,e3,o)):i.guard=none∧∃g n a,i.op= .gb e3 g n a:=by
 unfold bK.ux at h
 split at h
 ·simp at h
 ·rename_i bo aj
  simp at h
  obtain⟨rfl,rfl⟩:=h
  exact⟨bo,_,_,_,aj⟩
 ·cases h
theorem aN1 {P:Program}{i j:bK}{env:Env}{H:aA}{C:Env→aA→Prop}{Rp:I→aA→Prop}(hC: ∀e ct H,kp e ct→C e H→C ct H) (cR:hL H) (fU: ∀x,i.dst=some x→x∉j.reads∧j.dst≠some x) (hX: ∀x,j.dst=some x→x∉i.reads) (ao:zZ i j=true)
  (h:GStep P i env H (fun v H1=>hL H1→GStep P j (env.put i.dst v) H1 (fun u dt=>hL dt→C ((env.put i.dst v).put j.dst u) dt) Rp) Rp):
  GStep P j env H (fun u H1=>hL H1→GStep P i (env.put j.dst u) H1 (fun v dt=>hL dt→C ((env.put j.dst u).put i.dst v) dt) Rp) Rp:=by
 have nr: ∀v,kM j env (env.put i.dst v):=fun v=>wD fun x ab=>(fU x ab).1
 have pJ: ∀v,kM i env (env.put j.dst v):=fun v=>wD hX
 have nG: ∀v u,kp ((env.put i.dst v).put j.dst u) ((env.put j.dst u).put i.dst v):=fun v u=>put_comm fun x ab=>(fU x ab).2
 unfold zZ at ao
 split at ao
 ·rename_i m1 e4 m2 fT ap ay
  obtain⟨g1,qS,er,v1,ci⟩:=G6 ap
  obtain⟨g2,p4,a2,v2,cM⟩:=G6 ay
  have Aq: ∀env,wanted i env=some true:=fun env=>by simp [wanted,g1]
  have Ar: ∀env,wanted j env=some true:=fun env=>by simp [wanted,g2]
  simp only[GStep,Aq,ci]at h
  cases h with
  |ii d bG _=>cases bG with
   |pure hp=>simp [bX]at hp
  |gK o9 lc aS hb a1 aG aj a6=>
   rename_i b o T cs
   obtain⟨bT,mP,gH⟩:=lc m2 (by simpa using ao)
   have ZB:hL (H.cp b T (gg cs o (v1.aI env).cells)):=rE (x:= .d (.jx T _)) (n:=b) cR
   have aa:=a6 ZB
   simp only[GStep,Ar,cM]at aa
   have oD: ∀x∈(bc.gK m2 fT p4 a2 v2).cF,x.aI env=x.aI (env.put i.dst .undef):=fun x ab=>(nr .undef).1 x (by rw[cM]; exact ab)
   cases aa with
   |ii d bG _=>cases bG with
    |pure hp=>simp [bX]at hp
   |gK ad6 ae4 ZM M0 tU mr zb pY=>
    rename_i c at0 H7 Jx
    have ly:=(oD (.t m2) (by simp [bc.cF])).trans ad6
    simp only[aJ.aI]at ly
    rw[mP]at ly
    have aa1:bT=c:=by simpa using ly
    subst aa1
    have qJ:=oD v2 (by simp [bc.cF])
    have Z5:H.aY bT=some (H7,Jx):=by
     simp only[aA.cp]at M0
     rwa [if_neg gH]at M0
    simp only[GStep,Ar,cM]
    refine .gK mP (fun s iu=> ?_) ((oD a2 (by simp [bc.cF])).trans ZM) Z5 (by rw[qJ]; exact tU) mr (by rw[qJ]; exact zb) fun aT=> ?_
    ·obtain⟨y,qg,uP⟩:=ae4 s iu
     exact⟨y,(oD (.t s) (by simp [bc.cF]; exact .inr (.inr (.inr iu)))).trans qg,uP⟩
    ·have vq: ∀x∈(bc.gK m1 e4 qS er v1).cF,x.aI env=x.aI (env.put j.dst .undef):=fun x ab=>(pJ .undef).1 x (by rw[ci]; exact ab)
     have BZ:=vq v1 (by simp [bc.cF])
     simp only[GStep,Aq,ci]
     refine .gK ((vq (.t m1) (by simp [bc.cF])).symm.trans o9) (fun s iu=> ?_) ((vq er (by simp [bc.cF])).symm.trans aS) (T:=T) (cs:=cs) ?_ (by rw[←BZ]; exact a1) aG (by rw[←BZ]; exact aj) fun o8=> ?_
     ·obtain⟨y,qg,uP⟩:=lc s iu
      exact⟨y,(vq (.t s) (by simp [bc.cF]; exact .inr (.inr (.inr iu)))).symm.trans qg,uP⟩
     ·simp only[aA.cp]
      rw[if_neg (Ne.symm gH)]
      exact hb
     ·refine hC _ _ _ (nG .undef .undef) ?_
      rw[←BZ,qJ,zW gH]
      rw[qJ,←BZ,zW gH]at o8
      exact pY (by rw[←qJ]; rw[←qJ]at o8; rw[zW (Ne.symm gH)]at o8; rw[zW (Ne.symm gH)]; exact o8)
 ·rename_i m1 e4 m2 fT ap ay
  obtain⟨g1,Ie,qS,er,ci⟩:=ap4 ap
  obtain⟨g2,p4,a2,v2,cM⟩:=G6 ay
  have Aq: ∀env,wanted i env=some true:=fun env=>by simp [wanted,g1]
  have Ar: ∀env,wanted j env=some true:=fun env=>by simp [wanted,g2]
  simp only[GStep,Aq,ci]at h
  cases h with
  |ii d bG a6=>cases bG with
   |pure hp=>
    rename_i r
    have aa:=a6 0 trivial cR
    simp only[D.val,D.heap,GStep,Ar,cM]at aa
    obtain⟨zd,b,o,hm,ab⟩:=F3 hp
    have oD: ∀x∈(bc.gK m2 fT p4 a2 v2).cF,x.aI env=x.aI (env.put i.dst r):=fun x ab=>(nr r).1 x (by rw[cM]; exact ab)
    cases aa with
    |ii d bG _=>cases bG with
     |pure hp=>simp [bX]at hp
    |gK o9 lc aS hb a1 aG aj pY=>
     rename_i c at0 H7 Jx
     have qJ:=oD v2 (by simp [bc.cF])
     simp only[GStep,Ar,cM]
     have Z2:c≠b:=by
      obtain⟨y,qg,uP⟩:=lc m1 (by simpa using ao)
      have e:=(oD (.t m1) (by simp [bc.cF]; exact .inr (.inr (.inr (by simpa using ao))))).trans qg
      simp only[aJ.aI]at e
      rw[hm]at e
      have:b=y:=by simpa using e
      subst this
      exact Ne.symm uP
     refine .gK ((oD (.t m2) (by simp [bc.cF])).trans o9) (fun s iu=> ?_) ((oD a2 (by simp [bc.cF])).trans aS) hb (by rw[qJ]; exact a1) aG (by rw[qJ]; exact aj) fun aT=> ?_
     ·obtain⟨y,qg,uP⟩:=lc s iu
      exact⟨y,(oD (.t s) (by simp [bc.cF]; exact .inr (.inr (.inr iu)))).trans qg,uP⟩
     ·have vq: ∀x∈(bc.gb m1 Ie qS er).cF,x.aI env=x.aI (env.put j.dst .undef):=fun x ab=>(pJ .undef).1 x (by rw[ci]; exact ab)
      simp only[GStep,Aq,ci]
      refine .ii (.cZ r) (.pure ?_) fun n _ o8=> ?_
      ·have ap:=vq (.t m1) (by simp [bc.cF])
       have ay:=vq er (by simp [bc.cF])
       refine ax1 ?_ (ap.symm.trans hm) (ay.symm.trans ab)
       simp only[bX,ab]at zd
       simp only[bX,ay.symm.trans ab,aA.cp]
       rw[if_neg (Ne.symm Z2)]
       exact zd
      ·refine hC _ _ _ (nG r .undef) ?_
       rw[qJ]
       exact pY (by rw[←qJ]; exact aT)
 ·cases ao
theorem PZ {P:Program}{op:bc}{env:Env}{H:aA}{K Rp:I→aA→Prop}(bu:op.quiet=true) (h:hT P op env H K Rp): ∃v,eF P op env H (.cZ v)∧K v H:=by
 cases h with
 |ii d bG a6=>
  cases bG with
  |pure h=>exact⟨_,.pure h,a6 0 trivial⟩
  |iU a b=>exact⟨_,.iU a b,a6 0 trivial⟩
  |js a b=>exact⟨_,.js a b,a6 0 trivial⟩
  |iJ a b c d e=>exact⟨_,.iJ a b c d e,a6 0 trivial⟩
  |ji a b c d=>exact⟨_,.ji a b c d,a6 0 trivial⟩
  |iv a b c d=>exact⟨_,.iv a b c d,a6 0 trivial⟩
  |p2 a b=>exact⟨_,.p2 a b,a6 0 trivial⟩
  |quo a b c=>exact⟨_,.quo a b c,a6 0 trivial⟩
  |rem a b c=>exact⟨_,.rem a b c,a6 0 trivial⟩
  |bU a b c=>exact⟨_,.bU a b c,a6 0 trivial⟩
  |n5 a b c d=>exact⟨_,.n5 a b c d,a6 0 trivial⟩
  |n2 a b c d=>exact⟨_,.n2 a b c d,a6 0 trivial⟩
  |oI a b c d=>exact⟨_,.oI a b c d,a6 0 trivial⟩
  |nA a b c d=>exact⟨_,.nA a b c d,a6 0 trivial⟩
  |n3 a b c d=>exact⟨_,.n3 a b c d,a6 0 trivial⟩
  |jw a b c d e f=>exact⟨_,.jw a b c d e f,a6 0 trivial⟩
  |fQ a b c d=>exact⟨_,.fQ a b c d,a6 0 trivial⟩
  |iB a b c d e=>exact⟨_,.iB a b c d e,a6 0 trivial⟩
  |gJ a b c d e=>exact⟨_,.gJ a b c d e,a6 0 trivial⟩
  | _=>simp [bc.quiet,bc.c7]at bu
 | _=>simp [bc.quiet,bc.c7]at bu
theorem Mw {P:Program}{i:bK}{env:Env}{H:aA}{K Rp:I→aA→Prop}(bu:i.op.quiet=true) (h:GStep P i env H K Rp): ∃v,K v H∧∀bb,kM i env bb→∀K':I→aA→Prop,K' v H→GStep P i bb H K' Rp:=by
 unfold GStep at h
 split at h
 ·rename_i hw
  obtain⟨v,U,aa⟩:=PZ bu h
  refine⟨v,aa,fun bb aS K' av=> ?_⟩
  unfold GStep
  rw[←r8 aS,hw]
  exact vD aS.1 (fun _ _ h=>h) (fun _ _ h=>h) (.ii (.cZ v) U fun _ _=>av)
 ·rename_i hw
  refine⟨_,h,fun bb aS K' av=> ?_⟩
  unfold GStep
  rw[←r8 aS,hw]
  exact av
 ·exact h.elim
theorem Yi {P:Program}{op:bc}{env:Env}{H aC:aA}{d:D}(bu:op.s3=true) (h:eF P op env H d) (aL:aC.tok=H.tok):eF P op env aC d:=by
 cases h with
 |iU a b=>exact .iU a (by rw[aL]; exact b)
 |js a b=>exact .js a (by rw[aL]; exact b)
 |iJ a b c d e=>exact .iJ a (by rw[aL]; exact b) c d e
 |ji a b c d=>exact .ji a (by rw[aL]; exact b) c d
 |iv a b c d=>exact .iv a (by rw[aL]; exact b) c d
 |p2 a b=>exact .p2 a b
 |pure h=>
  cases op with
  |iU=>simp [bX]at h
  |iJ=>simp [bX]at h
  |ji=>simp [bX]at h
  |js=>simp [bX]at h
  |iv=>simp [bX]at h
  | _=>simp [bc.s3]at bu
 | _=>simp [bc.s3]at bu
theorem Zw {P:Program}{i:bK}{env:Env}{H:aA}{K Rp:I→aA→Prop}(bu:i.op.s3=true) (h:GStep P i env H K Rp): ∃v,K v H∧∀bb aC,kM i env bb→aC.tok=H.tok→∀K':I→aA→Prop,K' v aC→GStep P i bb aC K' Rp:=by
 have ae9:i.op.quiet=true:=by
  cases aj:i.op<;>rw[aj]at bu<;>simp [bc.s3]at bu<;>simp [bc.quiet]
 unfold GStep at h
 split at h
 ·rename_i hw
  obtain⟨v,U,aa⟩:=PZ ae9 h
  refine⟨v,aa,fun bb aC aS aL K' av=> ?_⟩
  unfold GStep
  rw[←r8 aS,hw]
  exact vD aS.1 (fun _ _ h=>h) (fun _ _ h=>h) (.ii (.cZ v) (Yi bu U aL) fun _ _=>av)
 ·rename_i hw
  refine⟨_,h,fun bb aC aS aL K' av=> ?_⟩
  unfold GStep
  rw[←r8 aS,hw]
  exact av
 ·exact h.elim
theorem UJ {P:Program}{i:bK}{env:Env}{H:aA}{K Rp:I→aA→Prop}(aG:i.op.tp=true) (h:GStep P i env H K Rp): ∃O:I→aA→Prop,(∀v aC,O v aC→K v aC∧aC.tok=H.tok)∧∀bb,kM i env bb→∀K':I→aA→Prop,(∀v aC,O v aC→K' v aC)→GStep P i bb H K' Rp:=by
 unfold GStep at h
 split at h
 ·rename_i hw
  have key: ∀ {op:bc},op.tp=true→hT P op env H K Rp→∃O:I→aA→Prop,(∀v aC,O v aC→K v aC∧aC.tok=H.tok)∧∀K':I→aA→Prop,(∀v aC,O v aC→K' v aC)→hT P op env H K' Rp:=by
   intro op aG h
   cases h with
   |ii d bG a6=>
    refine⟨fun v aC=> ∃x,d.fresh x H∧v=d.val x∧aC=d.heap H x,fun v aC ⟨x,U,aa,aD⟩=> ?_,fun K' av=> .ii d bG fun x ab=>av _ _ ⟨x,ab,rfl,rfl⟩⟩
    subst aa
    subst aD
    refine⟨a6 x U,?_⟩
    cases bG with
    |alloc=>rfl
    |pure h=>rfl
    | _=>simp [bc.tp]at aG
   |gK o9 lc aS hb a1 rM aj a6=>
    rename_i e3 others n a v b o T cs
    exact⟨fun bD aC=>bD= .undef∧aC=H.cp b T (gg cs o (v.aI env).cells),fun bD aC ⟨U,aa⟩=>by subst U; subst aa; exact⟨a6,rfl⟩,fun K' av=> .gK o9 lc aS hb a1 rM aj (av _ _ ⟨rfl,rfl⟩)⟩
   | _=>simp [bc.tp]at aG
  obtain⟨O,U,aa⟩:=key aG h
  refine⟨O,U,fun bb aS K' av=> ?_⟩
  unfold GStep
  rw[←r8 aS,hw]
  exact vD aS.1 (fun _ _ h=>h) (fun _ _ h=>h) (aa K' av)
 ·rename_i hw
  refine⟨fun v aC=>v= .undef∧aC=H,fun v aC ⟨U,aa⟩=>by subst U; subst aa; exact⟨h,rfl⟩,fun bb aS K' av=> ?_⟩
  unfold GStep
  rw[←r8 aS,hw]
  exact av _ _ ⟨rfl,rfl⟩
 ·exact h.elim
theorem GI {P:Program}{i:bK}{env:Env}{H:aA}{x:X}{y:Option (List Nat)×Option Nat}{o:List Nat}(af:i.oq=some y) (ac:qW o (some y)=true) (h:kP P i env H x):
  ∃v,x= .d (.cZ v)∧∀aC,(∀s∈o,∀b,env.get s= .ptr b 0→aC.aY b=H.aY b)→kP P i env aC x:=by
 have key: ∀(op:bc),op.still=true→∀d,eF P op env H d→∃v,d= .cZ v∧∀aC,eF P op env aC d:=by
  intro op ao d bG
  cases bG with
  |pure hp=>
   refine⟨_,rfl,fun aC=> .pure ?_⟩
   cases op<;>first
    |exact hp
    |(simp [bc.still,bc.c7]at ao; done)
  |quo a b c=>exact⟨_,rfl,fun _=> .quo a b c⟩
  |rem a b c=>exact⟨_,rfl,fun _=> .rem a b c⟩
  |bU a b c=>exact⟨_,rfl,fun _=> .bU a b c⟩
  |n5 a b c d=>exact⟨_,rfl,fun _=> .n5 a b c d⟩
  |n2 a b c d=>exact⟨_,rfl,fun _=> .n2 a b c d⟩
  |oI a b c d=>exact⟨_,rfl,fun _=> .oI a b c d⟩
  |nA a b c d=>exact⟨_,rfl,fun _=> .nA a b c d⟩
  |n3 a b c d=>exact⟨_,rfl,fun _=> .n3 a b c d⟩
  |jw a b c d e f=>exact⟨_,rfl,fun _=> .jw a b c d e f⟩
  |fQ a b c d=>exact⟨_,rfl,fun _=> .fQ a b c d⟩
  |iB a b c d e=>exact⟨_,rfl,fun _=> .iB a b c d e⟩
  |gJ a b c d e=>exact⟨_,rfl,fun _=> .gJ a b c d e⟩
  |jP a=>exact⟨_,rfl,fun _=> .jP a⟩
  |oo a b c=>exact⟨_,rfl,fun _=> .oo a b c⟩
  |pq a b=>exact⟨_,rfl,fun _=> .pq a b⟩
  |p7 a b c d=>exact⟨_,rfl,fun _=> .p7 a b c d⟩
  | _=>simp [bc.still,bc.c7]at ao
 unfold bK.oq at af
 split at af
 ·simp at af; subst af; simp [qW]at ac
 ·simp at af; subst af; simp [qW]at ac
 ·rename_i e3 agg n x bo aj
  simp at af
  subst af
  have o9:e3∈o:=by simpa [qW] using ac
  cases h with
  |skip hw=>simp [wanted,bo]at hw
  |eV hw mR=>rw[aj]at mR; cases mR
  |d hw bG=>
   rw[aj]at bG
   cases bG with
   |pure hp=>
    obtain⟨zd,b,p,hm,ab⟩:=F3 hp
    refine⟨_,rfl,fun aC hb=> .d hw ?_⟩
    rw[aj]
    refine .pure ?_
    have:=hb e3 o9 b hm
    simp only[bX,hm,ab,if_true]at hp ⊢
    rw[this]
    exact hp
 ·split at af
  ·rename_i ao
   cases h with
   |skip hw=>exact⟨_,rfl,fun aC _=> .skip hw⟩
   |eV hw mR=>rw[mR]at ao; simp [bc.still,bc.c7]at ao
   |d hw bG=>
    obtain⟨v,rfl,aa⟩:=key _ ao _ bG
    exact⟨v,rfl,fun aC _=> .d hw (aa aC)⟩
  ·cases af
 ·cases af
theorem Sj {i:bK}{y:Option (List Nat)×Option Nat}{o:List Nat}(af:i.oq=some y) (ac:qW o (some y)=true):i.op.c7≤2:=by
 unfold bK.oq at af
 split at af
 ·simp at af; subst af; simp [qW]at ac
 ·simp at af; subst af; simp [qW]at ac
 ·rename_i aj; rw[aj]; simp [bc.c7]
 ·split at af
  ·rename_i ao
   cases k9:i.op<;>rw[k9]at ao<;>simp [bc.still,bc.c7]at ao ⊢
  ·cases af
 ·cases af
theorem I3 {i:bK}{o:List Nat}{z:Option Nat}(h:i.oq=some (some o,z)):i.guard=none∧((∃f args,i.op= .gP o f args)∨∃x args,i.op= .kT o x args):=by
 unfold bK.oq at h
 split at h
 ·rename_i bo aj
  simp at h
  obtain⟨rfl,_⟩:=h
  exact⟨bo,.inl ⟨_,_,aj⟩⟩
 ·rename_i bo aj
  simp at h
  obtain⟨rfl,_⟩:=h
  exact⟨bo,.inr ⟨_,_,aj⟩⟩
 ·simp at h
 ·split at h<;>simp at h
 ·cases h
theorem I4 {P:Program}{i:bK}{o:List Nat}{z:Option Nat}{env:Env}{H:aA}{K Rp:I→aA→Prop}(af:i.oq=some (some o,z)) (cR:hL H) (h:GStep P i env H K Rp):
  ∃O:I→aA→Prop,(∃v aC,O v aC∧hL aC)∧(∀v aC,O v aC→K v aC∧∀s∈o,∀b,env.get s= .ptr b 0→aC.aY b=H.aY b)∧∀bb,kM i env bb→∀K':I→aA→Prop,(∀v aC,O v aC→K' v aC)→GStep P i bb H K' Rp:=by
 obtain⟨bo,aj⟩:=I3 af
 have hw: ∀env,wanted i env=some true:=fun env=>by simp [wanted,bo]
 unfold GStep at h
 rw[hw]at h
 simp only at h
 rcases aj with aj|aj
 ·obtain⟨f,args,aj⟩:=aj
  rw[aj]at h
  cases h with
  |ii d bG a6=>cases bG with
   |pure hp=>simp [bX]at hp
  |gP Q lc hex aS an av=>
   obtain⟨jy,H0,ci,cM⟩:=hex cR
   refine⟨fun v aC=>Q (.ret v) aC,⟨jy,H0,ci,cM⟩,fun v aC bu=>⟨av _ _ bu,fun s ao b hb=> ?_⟩,fun bb oD K' oG=> ?_⟩
   ·obtain⟨bT,ap,ay⟩:=lc s ao
    rw[hb]at ap
    cases ap
    exact ay _ _ bu
   ·unfold GStep
    rw[hw]
    simp only
    have aW:hT P (.gP o f args) env H K' Rp:= .gP Q lc hex aS an fun zK aC bu=>by
     cases zK with
     |ret v=>exact oG v aC bu
     |ey v=>exact av _ _ bu
    rw[aj]
    exact vD (by have:=oD.1; rw[aj]at this; exact this) (fun _ _ h=>h) (fun _ _ h=>h) aW
 ·obtain⟨x,args,aj⟩:=aj
  rw[aj]at h
  cases h with
  |ii d bG a6=>cases bG with
   |pure hp=>simp [bX]at hp
  |kT Q ab aT lc hex aS an av=>
   obtain⟨jy,H0,ci,cM⟩:=hex cR
   refine⟨fun v aC=>Q (.ret v) aC,⟨jy,H0,ci,cM⟩,fun v aC bu=>⟨av _ _ bu,fun s ao b hb=> ?_⟩,fun bb oD K' oG=> ?_⟩
   ·obtain⟨bT,ap,ay⟩:=lc s ao
    rw[hb]at ap
    cases ap
    exact ay _ _ bu
   ·unfold GStep
    rw[hw]
    simp only
    have aW:hT P (.kT o x args) env H K' Rp:= .kT Q ab aT lc hex aS an fun zK aC bu=>by
     cases zK with
     |ret v=>exact oG v aC bu
     |ey v=>exact av _ _ bu
    rw[aj]
    exact vD (by have:=oD.1; rw[aj]at this; exact this) (fun _ _ h=>h) (fun _ _ h=>h) aW
theorem Xt {P:Program}{i j:bK}{env:Env}{H:aA}{C:Env→aA→Prop}{Rp:I→aA→Prop}(hC: ∀e ct H,kp e ct→C e H→C ct H) (cR:hL H) (fU: ∀x,i.dst=some x→x∉j.reads∧j.dst≠some x) (hX: ∀x,j.dst=some x→x∉i.reads) (ao:yr i j=true)
  (h:GStep P i env H (fun v H1=>hL H1→GStep P j (env.put i.dst v) H1 (fun u dt=>hL dt→C ((env.put i.dst v).put j.dst u) dt) Rp) Rp):
  GStep P j env H (fun u H1=>hL H1→GStep P i (env.put j.dst u) H1 (fun v dt=>hL dt→C ((env.put j.dst u).put i.dst v) dt) Rp) Rp:=by
 have nr: ∀v,kM j env (env.put i.dst v):=fun v=>wD fun x ab=>(fU x ab).1
 have pJ: ∀v,kM i env (env.put j.dst v):=fun v=>wD hX
 have nG: ∀v u,kp ((env.put i.dst v).put j.dst u) ((env.put j.dst u).put i.dst v):=fun v u=>put_comm fun x ab=>(fU x ab).2
 have Zg: ∀ {k:bK}{o:List Nat}{z:Option Nat}{d:Option Nat}{v:I},k.oq=some (some o,z)→(∀x,d=some x→x∉k.reads)→∀s∈o,(env.put d v).get s=env.get s:=by
  intro k o z d v av bG s ao
  obtain⟨_,aj⟩:=I3 av
  refine Mu fun x ab e=>bG x ab ?_
  subst e
  rcases aj with ⟨f,args,aj⟩|⟨cN,args,aj⟩
  ·simp only[bK.reads,aj,bc.cF,bf7,List.mem_filterMap]
   exact .inl ⟨.t x,.inr (List.mem_map.2 ⟨x,ao,rfl⟩),rfl⟩
  ·simp only[bK.reads,aj,bc.cF,bf7,be4,List.mem_filterMap]
   exact .inl ⟨.t x,.inr (.inr (List.mem_map.2 ⟨x,ao,rfl⟩)),rfl⟩
 unfold yr at ao
 split at ao
 ·rename_i o z x tD
  cases rA:j.oq with
  |none=>rw[rA]at ao; simp [qW]at ao
  |some y=>
   rw[rA]at ao
   have hr:=Sj rA ao
   obtain⟨O,⟨v0,H0,e4,fT⟩,my,zD⟩:=I4 tD cR h
   obtain⟨nj,d1,d2,d3⟩:=(mO hr).1 ((my _ _ e4).1 fT)
   have DR:=rv (nr v0).symm d1
   obtain⟨u,rfl,tx⟩:=GI rA ao DR
   have JD:=tx H fun s iu b hb=>((my _ _ e4).2 s iu b hb).symm
   refine (mO hr).2 ⟨_,JD,trivial,fun n _ aT=> ?_⟩
   refine zD _ (pJ _) _ fun v aC aj o8=> ?_
   obtain⟨C0,ap,ay,b1⟩:=(mO hr).1 ((my _ _ aj).1 o8)
   obtain⟨s6,gF,Yb⟩:=GI rA ao JD
   have DU:=Yb aC (my _ _ aj).2
   have:=Ba hr (rv (nr v).symm ap) DU
   subst this
   exact hC _ _ _ (nG v u) (b1 0 trivial o8)
 ·rename_i x o z rA a57
  cases tD:i.oq with
  |none=>rw[tD]at ao; simp [qW]at ao
  |some y=>
   rw[tD]at ao
   have hr:=Sj tD ao
   obtain⟨nj,d1,d2,d3⟩:=(mO hr).1 h
   obtain⟨v,rfl,tx⟩:=GI tD ao d1
   have U:=d3 0 trivial cR
   obtain⟨O,_,my,zD⟩:=I4 rA cR U
   refine zD _ (nr v).symm _ fun u aC aj aT=> ?_
   have DU:=tx aC fun s iu b hb=>(my _ _ aj).2 s iu b ((Zg rA (fun x ab=>(fU x ab).1) s iu).trans hb)
   refine (mO hr).2 ⟨_,rv (pJ u) DU,trivial,fun n _ ab3=> ?_⟩
   exact hC _ _ _ (nG v u) ((my _ _ aj).1 aT)
 ·cases ao
theorem Zu {P:Program}{i j:bK}{env:Env}{H:aA}{C:Env→aA→Prop}{Rp:I→aA→Prop}(hC: ∀e ct H,kp e ct→C e H→C ct H) (cR:hL H) (af:indep i j=true)
  (h:GStep P i env H (fun v H1=>hL H1→GStep P j (env.put i.dst v) H1 (fun u dt=>hL dt→C ((env.put i.dst v).put j.dst u) dt) Rp) Rp):
  GStep P j env H (fun u H1=>hL H1→GStep P i (env.put j.dst u) H1 (fun v dt=>hL dt→C ((env.put j.dst u).put i.dst v) dt) Rp) Rp:=by
 obtain⟨fU,hX,fV⟩:=ai4 af
 have nr: ∀v,kM j env (env.put i.dst v):=fun v=>wD fun x ab=>(fU x ab).1
 have pJ: ∀v,kM i env (env.put j.dst v):=fun v=>wD hX
 have nG: ∀v u,kp ((env.put i.dst v).put j.dst u) ((env.put j.dst u).put i.dst v):=fun v u=>put_comm fun x ab=>(fU x ab).2
 rcases fV with fV|fV
 ·exact Xt hC cR fU hX fV h
 rcases fV with ⟨ci,cM⟩|fV
 ·obtain⟨v,br,bB⟩:=Mw ci h
  obtain⟨u,cu,eO⟩:=Mw cM (br cR)
  exact eO _ (nr v).symm _ fun _=>bB _ (pJ u) _ fun _=>hC _ _ _ (nG v u) (cu cR)
 rcases fV with ⟨ci,cM⟩|fV
 ·obtain⟨v,br,bB⟩:=Zw ci h
  obtain⟨O,cu,eO⟩:=UJ cM (br cR)
  exact eO _ (nr v).symm _ fun u aC aj _=>bB _ aC (pJ u) (cu u aC aj).2 _ fun aT=>hC _ _ _ (nG v u) ((cu u aC aj).1 aT)
 rcases fV with fV|⟨fV,kg⟩|fV|fV|⟨fV,kg,ul⟩
 rotate_left
 rotate_left
 ·exact aN1 hC cR fU hX fV h
 rotate_right
 ·obtain⟨O,⟨v0,H0,e4,fT⟩,my,zD⟩:=ap9 fV cR h
  obtain⟨x,d1,d2,d3⟩:=(mO (by omega)).1 (my _ _ e4 fT)
  obtain⟨u,rfl,tx⟩:=Si kg d1
  refine (mO (by omega)).2 ⟨_,rv (nr v0).symm (tx H),trivial,fun n _ aT=> ?_⟩
  refine zD _ (pJ _) _ fun v aC aj o8=> ?_
  obtain⟨y,ap,ay,b1⟩:=(mO (by omega)).1 (my _ _ aj o8)
  have:=Ba (by omega) (rv (nr v).symm ap) (rv (nr v0).symm (tx aC))
  subst this
  exact hC _ _ _ (nG v u) (b1 0 trivial o8)
 rotate_right
 ·obtain⟨x,d1,d2,d3⟩:=(mO (by omega)).1 h
  obtain⟨v,rfl,tx⟩:=Si fV d1
  have U:=d3 0 trivial cR
  refine vj (nr v).symm (fun u aC a6 aT=> ?_) (fun _ _ h=>h) U
  refine (mO (by omega)).2 ⟨_,rv (pJ u) (tx aC),trivial,fun n _ ab3=> ?_⟩
  exact hC _ _ _ (nG v u) (a6 aT)
 ·obtain⟨u,t1,t2⟩:=aQ3 fV.2 env H
  have ac:j.op.c7≤2:=by
   have:=fV.2
   simp only[bK.total,bb6]at this
   have aa:=this.2
   split at aa<;>first
    |(rename_i e; rw[e]; simp [bc.c7])
    |cases aa
  refine (mO ac).2 ⟨_,t1,trivial,fun n _ M8=> ?_⟩
  refine vj (pJ u) (fun v aC a6 aT=> ?_) (fun _ _ h=>h) h
  obtain⟨y,ap,ay,b1⟩:=(mO ac).1 (a6 aT)
  have:=Ba ac ap (t2 _ (nr v) aC)
  subst this
  exact hC _ _ _ (nG v u) (b1 0 trivial aT)
 ·obtain⟨x,d1,d2,d3⟩:=(mO fV).1 h
  obtain⟨cL,vx,M8⟩:=Ml cR (sY j.op env) x
  have g0:=d3 cL M8 (rE cR)
  obtain⟨y,ap,ay,b1⟩:=(mO kg).1 g0
  have sw:=rv (nr (x.val cL)).symm ap
  have dC:kP P j env H y:=Yf kg (UI vx) sw
  have notboth: ∀t T s r w dv cG bR eo w',x= .eV t T s r w→y= .eV dv cG bR eo w'→False:=by
   rintro t T s r w dv cG bR eo w' rfl rfl
   exact ul ⟨JM d1,JM dC⟩
  have a8:y.ok H:=by
   cases y with
   |d e=>trivial
   |eV t T s r w=>
    have ac:=Yg dC
    simp only[X.ok]at ay ⊢
    cases x with
    |d f=>
     cases f with
     |cZ=>exact ay
     |jx=>exact ay
     |bh=>
      simp only[X.heap,D.heap,aA.ck]at ay
      rw[if_neg (by omega)]at ay
      exact ay
    |eV=>exact (notboth _ _ _ _ _ _ _ _ _ _ rfl rfl).elim
  refine (mO kg).2 ⟨y,dC,a8,fun k av a47=> ?_⟩
  have DR:=JN fV (Nn av) (rv (pJ (y.val k)) d1)
  have jv:x.ok (y.heap H k):=by
   cases x with
   |d e=>trivial
   |eV t T s r w=>
    simp only[X.ok]at d2 ⊢
    cases y with
    |d f=>
     cases f with
     |cZ=>exact d2
     |jx=>exact d2
     |bh=>
      simp only[X.fresh,D.fresh]at av
      simp only[X.heap,D.heap,aA.ck]
      rw[if_neg (fun e=>by subst e; rw[av]at d2; cases d2)]
      exact d2
    |eV=>exact (notboth _ _ _ _ _ _ _ _ _ _ rfl rfl).elim
  refine (mO fV).2 ⟨x,DR,jv,fun n a1 xk=> ?_⟩
  have rO:=Y7 av a1
  have g1:=d3 n rO (rE cR)
  obtain⟨hZ,f1,f2,f3⟩:=(mO kg).1 g1
  have YR:=rv (nr (x.val n)).symm f1
  have:=Ba kg YR (JN kg (Nn rO) dC)
  subst this
  rw[ab0 d2 a8 av a1 rO notboth]at xk ⊢
  exact hC _ _ _ (nG _ _) (f3 k (Zb d2 av a1) xk)
def kO (P:Program):List bK→Env→aA→(Env→aA→Prop)→(I→aA→Prop)→Prop
 |[],env,H,K,_=>K env H
 |i::l,env,H,K,Rp=>GStep P i env H (fun v aC=>hL aC→kO P l (env.put i.dst v) aC K Rp) Rp
theorem D2 {P:Program}{K:Env→aA→Prop}{Rp:I→aA→Prop}: ∀(l:List bK){env:Env}{H:aA},bn P l env H K Rp→kO P l env H K Rp
 |[],_,_,h=>by simpa only[kO,bn] using h
 |i::l,env,H,h=>by
  rw[AA]at h
  exact vj (yi fun _=>rfl) (fun v aC a6 _=>D2 l a6) (fun _ _ h=>h) h
theorem JR {P:Program}{K:Env→aA→Prop}{Rp:I→aA→Prop}(dL: ∀e ct H,kp e ct→K e H→K ct H): ∀(l:List bK){e ct:Env}{H:aA},kp e ct→kO P l e H K Rp→kO P l ct H K Rp
 |[],e,ct,H,h,bG=>by simp only[kO]at bG ⊢; exact dL e ct H h bG
 |i::l,e,ct,H,h,bG=>by
  simp only[kO]at bG ⊢
  exact vj (yi h) (fun v aC a6 aT=>JR dL l (Gc h i.dst v) (a6 aT)) (fun _ _ h=>h) bG
theorem D1 {P:Program}{K K':Env→aA→Prop}{Rp:I→aA→Prop}(dL: ∀e H,K e H→K' e H): ∀(l:List bK){e:Env}{H:aA},kO P l e H K Rp→kO P l e H K' Rp
 |[],e,H,bG=>by simp only[kO]at bG ⊢; exact dL e H bG
 |i::l,e,H,bG=>by
  simp only[kO]at bG ⊢
  exact vj (yi fun _=>rfl) (fun v aC a6 aT=>D1 dL l (a6 aT)) (fun _ _ h=>h) bG
theorem JS {P:Program}{K:Env→aA→Prop}{Rp:I→aA→Prop}(dL: ∀e ct H,kp e ct→K e H→K ct H){i:bK}{uV:List bK}: ∀(pG:List bK){env:Env}{H:aA},hL H→(∀y∈pG,indep y i=true)→kO P (pG++i::uV) env H K Rp→kO P (i::(pG++uV)) env H K Rp
 |[],_,_,_,_,h=>h
 |y::pG,env,H,cR,af,h=>by
  simp only[bd2,kO]at h
  have aa:GStep P y env H (fun v H1=>hL H1→GStep P i (env.put y.dst v) H1 (fun u dt=>hL dt→kO P (pG++uV) ((env.put y.dst v).put i.dst u) dt K Rp) Rp) Rp:=
   vj (yi fun _=>rfl) (fun v H1 a6 aT=>JS dL pG aT (fun z aw=>af z (by simp [aw])) (a6 aT)) (fun _ _ h=>h) h
  exact Zu (C:=fun e H=>kO P (pG++uV) e H K Rp) (fun e ct H he bG=>JR dL _ he bG) cR (af y (by simp)) aa
section
variable {P:Program}{n:Nat}{m0:hO}{ops:Array Oper}{Q:Exit→Act→World→Prop}
theorem GL {m:Mem}(bd:bW m):hL m.H:=by
 refine⟨max m.w.heap.size m.T,fun k av=>⟨?_,?_⟩⟩
 ·cases h:m.H.aY k with
  |none=>rfl
  |some x=>have:=sp bd (T:=x.1) (cs:=x.2) h; omega
 ·cases h:m.H.tok k with
  |none=>rfl
  |some i=>have:=(bd.tok k i h).1; omega
def yf (n:Nat) (m0:hO) (Rp:I→aA→Prop) (Q:Exit→Act→World→Prop):Prop:=
 ∀(x:I) (aX:Mem) (ku:Value) (a:Act),Rp x aX.H→bW aX→bV m0.m aX→aP aX x ku→(a.defers=m0.D∧∀E∈m0.kt,dR aX E a.tmps)→a.tmps.size=n→Q (.panic [{v:=ku,recovered:=false}]) a aX.w
theorem MB {o:Oper}{i:bK}{idx:Nat}{env:Env}{H:aA}{a:Act}{w:World}{K Rp:I→aA→Prop}{ti:Act→World→Prop}(aj:ops[idx]? =some o) (an:pP P n ops o i=true) (vt:m0.free i) (ac:Rel n m0 env H a w) (hp:yf n m0 Rp Q) (ao:GStep P i env H K Rp)
  (h: ∀v aC cI w',K v aC→hL aC→Rel n m0 (env.put i.dst v) aC cI w'→ti cI w'):wpOp P ops Q idx ti a w:=by
 obtain⟨m,rfl,rfl,bd,bN,he,gA,dq⟩:=ac
 obtain⟨c1,cb,eW,gE,ls⟩:=XA an
 unfold wpOp
 simp only[aj]
 unfold GStep at ao
 split at ao
 ·rename_i hw
  have Fw:=TA eW he hw (fun j w bo=>by rw[dq]; exact ls j w bo)
  rw[Fw]
  simp only[if_true]
  refine .inl (ai9 ao gE bd he (fun x aX v av cm cA dk=> ?_) (fun x aX v av cm cA dk=>hp x aX v a av cm (bN.trans cA) dk ⟨gA.1,fun E dc k=>aP.aI cA _ _ (gA.2 E dc k)⟩ dq))
  rw[c1]
  exact h x aX.H _ _ av (GL cm) (Sk he bN cA cm dk gA dq cb vt)
 ·rename_i hw
  have Fw:=TA eW he hw (fun j w bo=>by rw[dq]; exact ls j w bo)
  rw[Fw]
  simp only[bd5,if_false]
  rw[c1]
  exact h _ _ _ _ ao (GL bd) (Sk he bN (bV.refl m) bd (by simp only[aP]) gA dq cb vt)
 ·exact ao.elim
def L4:bK:=⟨none,none,.p1 0⟩
def nth (is:List bK) (k:Nat):bK:=is.getD k L4
theorem DJ: ∀ {os:List Oper}{is:List bK},mh P n ops os is=true→os.length=is.length∧∀k o,os[k]? =some o→pP P n ops o (nth is k)=true
 |[],[],_=>⟨rfl,fun k o h=>by simp at h⟩
 |[],_:: _,h=>by simp [mh]at h
 | _:: _,[],h=>by simp [mh]at h
 |o::os,i::is,h=>by
  simp only[mh,bb6]at h
  obtain⟨ap,ay⟩:=DJ h.2
  refine⟨by simp [ap],fun k o' av=> ?_⟩
  cases k with
  |zero=>simp at av; subst av; exact h.1
  |succ k=>simp at av; have:=ay k o' av; simpa [nth] using this
theorem D3 {is:List bK}{K:Env→aA→Prop}{Rp:I→aA→Prop}(an: ∀k o,ops[k]? =some o→pP P n ops o (nth is k)=true) (vt: ∀k,m0.free (nth is k)) (hp:yf n m0 Rp Q) (av: ∀env H a w,K env H→Rel n m0 env H a w→Q .normal a w):
  ∀(L:List Nat){env:Env}{H:aA}{a:Act}{w:World},(∀k∈L,k<ops.size)→kO P (L.map (nth is)) env H K Rp→Rel n m0 env H a w→wpOps P ops Q L a w
 |[],env,H,a,w,_,h,ac=>by
  simp only[List.map_nil,kO]at h
  exact av _ _ _ _ h ac
 |k::L,env,H,a,w,aG,h,ac=>by
  rw[wpOps_cons]
  have cz:=aG k (by simp)
  have aj:ops[k]? =some ops[k]:=bm2 cz
  simp only[bd4,kO]at h
  exact MB aj (an k _ aj) (vt k) ac hp h fun v aC cI w' a6 aT kc=>D3 an vt hp av L (fun x ab=>aG x (by simp [ab])) (a6 aT) kc
theorem CC {is:List bK}:(bq8 is.length).map (nth is)=is:=by
 apply List.ext_getElem?
 intro k
 by_cases av:k<is.length
 ·simp [nth,av]
 ·simp [List.getElem?_eq_none (Nat.le_of_not_lt av),av]
end
section
variable {P:Program}{n:Nat}{m0:hO}{ops:Array Oper}{Q:Exit→Act→World→Prop}
def HM (ops:Array Oper) (listed:Array Bool):Prop:=∀i o,ops[i]? =some o→listed.getD i false=true→∀e∈o.after,Region.binds .any e=true→listed.getD e.on false=true
theorem Uc (acc:List Nat) (l:List Edge) (s k:Nat):(l.foldl (fun s e=>if Region.binds .any e then s|||2^e.on|||acc.getD e.on 0 else s) s).testBit k=true→s.testBit k=true∨∃e∈l,Region.binds .any e=true∧(k=e.on∨(acc.getD e.on 0).testBit k=true):=by
 induction l generalizing s with
 |nil=>intro h; exact .inl h
 |cons e l b7=>
  intro h
  simp only[List.foldl_cons]at h
  rcases b7 _ h with h|⟨ct,BG,hb,av⟩
  ·split at h
   ·rename_i hb
    simp only[Nat.testBit_or,bm0]at h
    rcases h with (h|h)|h
    ·exact .inl h
    ·refine .inr ⟨e,by simp,hb,.inl ?_⟩
     rw[Nat.testBit_two_pow]at h
     exact (by simpa using h:e.on=k).symm
    ·exact .inr ⟨e,by simp,hb,.inr h⟩
   ·exact .inl h
  ·exact .inr ⟨ct,by simp [BG],hb,av⟩
theorem Ii {listed:Array Bool}(an:HM ops listed) (hb: ∀i o,ops[i]? =some o→∀e∈o.after,Region.binds .any e=true→e.on<i):
  ∀(os:List Oper) (acc:List Nat),(∀j o,os[j]? =some o→ops[acc.length+j]? =some o)→
   (∀i,i<acc.length→(∀o,ops[i]? =some o→∀e∈o.after,Region.binds .any e=true→listed.getD e.on false=true)→∀k,(acc.getD i 0).testBit k=true→listed.getD k false=true)→
   ∀i,i<acc.length+os.length→(∀o,ops[i]? =some o→∀e∈o.after,Region.binds .any e=true→listed.getD e.on false=true)→
    ∀k,((os.foldl (fun acc o=>acc++[o.after.foldl (fun s e=>if Region.binds .any e then s|||2^e.on|||acc.getD e.on 0 else s) 0]) acc).getD i 0).testBit k=true→listed.getD k false=true
 |[],acc,_,h,i,af,ac,k,av=>h i (by simpa using af) ac k av
 |o::os,acc,BU,h,i,af,ac,k,av=>by
  simp only[List.foldl_cons]at av
  refine Ii an hb os _ (fun j o' bm=> ?_) (fun dh gR kc ff oG=> ?_) i (by simp at af ⊢; omega) ac k av
  ·have:=BU (j+1) o' (by simpa using bm)
   simpa [bj2,Nat.add_comm 1 j] using this
  ·simp only[bb7,List.length_singleton]at gR
   by_cases cz:dh<acc.length
   ·refine h dh cz kc ff ?_
    rw[be7,bh0 cz,←be7]at oG
    exact oG
   ·have ac1:dh=acc.length:=by omega
    subst ac1
    have aj:ops[acc.length]? =some o:=by have:=BU 0 o rfl; simpa using this
    rw[be7,bj1 (bc1 _)]at oG
    simp only[Nat.sub_self,bi9,bh1]at oG
    rw[←Array.foldl_toList]at oG
    rcases Uc acc o.after.toList 0 ff oG with aW|⟨e,he,oF,Fa⟩
    ·simp at aW
    ·have BG:e∈o.after:=by simpa using he
     have aG:=kc o aj e BG oF
     rcases Fa with rfl|Fa
     ·exact aG
     ·have cz:=hb _ o aj e BG oF
      refine h e.on cz (fun fT zb ay E2 gH=>an e.on fT zb aG ay E2 gH) ff Fa
theorem au1 {os:List Oper}{is:List bK}(h:vS os is=true):(∀(i:Nat) (o:Oper),os[i]? =some o→∀e∈o.after,Region.binds .any e=true→e.on<i)∧(∀i j,i<j→j<is.length→((Ih os).getD j 0).testBit i=true∨indep (nth is i) (nth is j)=true):=by
 simp only[vS,bb6,bj8]at h
 obtain⟨U,aa⟩:=h
 refine⟨fun i o aj e he hb=> ?_,fun i j BM bm=> ?_⟩
 ·have:=U (o,i) (by rw[bi5]; exact aj)
  simp only[bm4]at this
  have:=this e he
  simp only[hb,Bool.not_true,Bool.false_or,bo3]at this
  exact this
 ·have af:i<is.length:=by omega
  have:=aa (nth is j,j) (by rw[bi5]; simp [nth,bm]) (nth is i,i) (by rw[bi5]; simp [nth,af])
  simp only[bm0,bg6]at this
  rcases this with (this|this)|this
  ·have cz:bf8 i j=true:=by rw[bo3]; exact BM
   rw[cz]at this
   cases this
  ·exact .inl this
  ·exact .inr this
theorem JT {is:List bK}{K:Env→aA→Prop}{Rp:I→aA→Prop}(hlen:ops.size=is.length) (ir:vS ops.toList is=true) (an: ∀k o,ops[k]? =some o→pP P n ops o (nth is k)=true) (vt: ∀k,m0.free (nth is k)) (hp:yf n m0 Rp Q) (dL: ∀e ct H,kp e ct→K e H→K ct H) (av: ∀env H a w,K env H→Rel n m0 env H a w→Q .normal a w):
  ∀(j0:Nat) (T:List Nat) (listed:Array Bool){env:Env}{H:aA}{a:Act}{w:World},listed.size=ops.size→T.Pairwise (·< ·)→(∀k,k∈T↔k<ops.size∧listed.getD k true=false)→T.length=j0→HM ops listed→
   kO P (T.map (nth is)) env H K Rp→Rel n m0 env H a w→wpAny P .any ops Q j0 listed a w:=by
 obtain⟨hb,qF⟩:=au1 ir
 have hi: ∀(i:Nat) (o:Oper),ops[i]? =some o→∀e∈o.after,Region.binds .any e=true→e.on<i:=fun i o aj=>hb i o (by simpa using aj)
 have ready: ∀(listed:Array Bool) i,i∈Region.ready .any ops listed↔i<ops.size∧listed.getD i true=false∧∀o,ops[i]? =some o→∀e∈o.after,Region.binds .any e=true→listed.getD e.on false=true:=by
  intro listed i
  simp only[Region.ready,List.mem_filter,bt7,bb6,bg6]
  constructor
  ·rintro⟨U,aa,aD⟩
   refine⟨U,aa,fun o aj e he oF=> ?_⟩
   rw[aj]at aD
   simp only[bf0,bh1,bm4]at aD
   have:=aD e he
   simpa [oF] using this
  ·rintro⟨U,aa,aD⟩
   refine⟨U,aa,?_⟩
   have aj:ops[i]? =some ops[i]:=bm2 U
   rw[aj]
   simp only[bf0,bh1,bm4]
   intro e he
   by_cases oF:Region.binds .any e=true
   ·simp [oF,aD _ aj e he oF]
   ·simp [oF]
 intro j0
 induction j0 with
 |zero=>
  intro T listed env H a w dq ao c4 aG vr h ac
  have:T=[]:=List.eq_nil_of_length_eq_zero aG
  subst this
  refine⟨?_,av _ _ _ _ h ac⟩
  rw[List.eq_nil_iff_forall_not_mem]
  intro i af
  obtain⟨U,aa,_⟩:=(ready listed i).1 af
  have:=(c4 i).2 ⟨U,aa⟩
  cases this
 |succ j0 b7=>
  intro T listed env H a w dq ao c4 aG vr h ac
  refine⟨fun Fg=> ?_,fun i af=> ?_⟩
  ·-- the first that is left is ready
   match T,aG with
   |t::T,_=>
    have aL:=(c4 t).1 (by simp)
    have:t∈Region.ready .any ops listed:=by
     refine (ready listed t).2 ⟨aL.1,aL.2,fun o aj e he oF=> ?_⟩
     have cz:=hi t o aj e he oF
     cases bu:listed.getD e.on true with
     |true=>
      have:e.on<listed.size:=by omega
      simp [bd9,this]at bu ⊢
      exact bu
     |false=>
      have hm:=(c4 e.on).2 ⟨by omega,bu⟩
      rcases List.mem_cons.1 hm with ap|ap
      ·omega
      ·have:=List.rel_of_pairwise_cons ao ap
       omega
    rw[Fg]at this
    cases this
  ·obtain⟨U,aa,aD⟩:=(ready listed i).1 af
   have ac0:=(c4 i).2 ⟨U,aa⟩
   obtain⟨pG,uV,rfl⟩:=List.append_of_mem ac0
   have aj:ops[i]? =some ops[i]:=bm2 U
   have ZS:=Ii vr hi ops.toList [] (fun j o bm=>by simpa using bm) (fun i af=>by simp at af) i (by simpa using U) aD
   have E9: ∀y∈pG.map (nth is),indep y (nth is i)=true:=by
    intro y a8
    obtain⟨k,Nl,rfl⟩:=List.mem_map.1 a8
    have ac6:k<i:=by
     rw[bp4]at ao
     exact ao.2.2 k Nl i (by simp)
    rcases qF k i ac6 (by omega) with Z4|E9
    ·have vv:=ZS k Z4
     have qG:=(c4 k).1 (by simp [Nl])
     have:k<listed.size:=by omega
     simp [bd9,this]at vv qG
     rw[vv]at qG
     simp at qG
    ·exact E9
   have cR:hL H:=by
    obtain⟨m,rfl,rfl,bd,_⟩:=ac
    exact GL bd
   have Nb:=JS dL (i:=nth is i) (pG.map (nth is)) cR E9 (by simpa using h)
   simp only[kO]at Nb
   refine MB aj (an i _ aj) (vt i) ac hp Nb fun v aC cI w' a6 aT kc=> ?_
   refine b7 (pG++uV) _ (by simpa using dq) ?_ (fun k=> ?_) (by simp at aG ⊢; omega) ?_ (by simpa using a6 aT) kc
   ·rw[bp4,List.pairwise_cons]at ao
    rw[bp4]
    exact⟨ao.1,ao.2.1.2,fun a aS b hb=>ao.2.2 a aS b (by simp [hb])⟩
   ·have M4:i∉pG∧i∉uV:=by
     rw[bp4,List.pairwise_cons]at ao
     exact⟨fun hm=>by have:=ao.2.2 i hm i (by simp); omega,fun hm=>by have:=ao.2.1.1 i hm; omega⟩
    have:=c4 k
    by_cases e:k=i
    ·subst e
     simp only[bf7,M4.1,M4.2,or_self,false_iff,not_and]
     intro _
     have:k<listed.size:=by omega
     simp [bd9,this]
    ·have eg:(listed.setIfInBounds i true).getD k true=listed.getD k true:=by
      simp [bd9,bh9 (Ne.symm e)]
     rw[eg,←this]
     simp [e]
   ·intro j o bm No e he oF
    by_cases Nh:j=i
    ·subst Nh
     have:=aD o bm e he oF
     by_cases BI:e.on=j
     ·have:=hi j o bm e he oF
      omega
     ·simp only[bd9,bh9 (Ne.symm BI)]at this ⊢
      exact this
    ·have ad3:listed.getD j false=true:=by
      simp only[bd9,bh9 (Ne.symm Nh)]at No ⊢
      exact No
     have:=vr j o bm ad3 e he oF
     by_cases BI:e.on=i
     ·rw[BI]
      have:i<listed.size:=by omega
      simp [bd9,this]
     ·simp only[bd9,bh9 (Ne.symm BI)]at this ⊢
      exact this
end
theorem aq1 {P:Program}{m:Mem}{env:Env}{t:TypeId}{agg:Bool}{n:Nat}{y:aJ}{r:I}{n9:Value}(bd:bW m) (U:ph P t agg n=true) (an:aP m (y.aI env) n9) (hp:bX (.load agg n y) env m.H=some r):
  ∃dm v,n9= .pointer (some dm)∧(loadVar t dm).run P m.w= .ok v m.w∧aP m r v:=by
 simp only[bX]at hp
 have fin: ∀b p (l:List Value) (cs:List I),n9= .pointer (some ⟨b,p,none⟩)→I.iA agg cs=some r→aR m cs l→l.length=n→(∀(j:Nat) (v:Value),l[j]? =some v→m.w.cell? ⟨b,p+j,none⟩=some v)→∃dm v,n9= .pointer (some dm)∧(loadVar t dm).run P m.w= .ok v m.w∧aP m r v:=by
  intro b p l cs ap ay b1 dC gF
  refine⟨_,_,ap,GR U b p l dC gF,?_⟩
  rcases zE ay b1 with ⟨rfl,h⟩|⟨rfl,v,rfl,h⟩
  ·exact h
  ·exact h
 split at hp
 ·rename_i b p e
  rw[e]at an
  split at hp
  ·rename_i T cs hb
   split at hp
   ·rename_i hle
    obtain⟨l,g1,g2,g3⟩:=bd.aY b _ cs hb
    refine fin b p ((l.drop p).take n) _ (ur an) hp (aR.take n (aR.drop p g2)) ?_ fun j v bm=> ?_
    ·have:=aR.length g2
     simp; omega
    ·rw[cell_of_row m.w b _ _ _ _ g1]
     rw[be8]at bm
     split at bm
     ·rw[bj0]at bm
      simpa using bm
     ·cases bm
   ·cases hp
  ·cases hp
 ·rename_i row p e
  rw[e]at an
  obtain⟨b,q,ap,ay⟩:=xP an
  split at hp
  ·rename_i hle
   obtain⟨l,g1,g2⟩:=eS.wk ay
   refine fin b (q+p) ((l.drop p).take n) _ ap hp (aR.take n (aR.drop p g1)) ?_ fun j v bm=> ?_
   ·have:=aR.length g1
    simp; omega
   ·rw[be8]at bm
    split at bm
    ·rw[bj0]at bm
     rw[bj2]
     exact (g2 _ v bm).1
    ·cases bm
  ·cases hp
 ·cases hp
def CD (tmps:Array Value) (x:ResultVar):Sem Value:=
 match x with
 | .tmp t=>pure (tmps.getD t undef)
 | .cell a t=>do loadVar t (←asAddr (tmps.getD a undef))
theorem YO {P:Program}{m:Mem}{env:Env}{tmps:Array Value}{x:ResultVar}{e:bf}{r:I}(he:dR m env tmps) (bd:bW m) (an:mi P [x] [e]=true) (ac:e.aI env m.H=some r):
  ∃v,(CD tmps x).run P m.w= .ok v m.w∧aP m r v:=by
 cases x with
 |tmp t=>
  cases e with
  |t k=>
   simp [mi]at an
   subst an
   simp only[bf.aI,Option.some.injEq]at ac
   subst ac
   exact⟨_,rfl,he t⟩
  |cell=>simp [mi]at an
 |cell a ty=>
  cases e with
  |t k=>simp [mi]at an
  |cell agg k cI=>
   simp [mi]at an
   obtain⟨rfl,aa⟩:=an
   simp only[bf.aI]at ac
   obtain⟨dm,v,ap,ay,b1⟩:=aq1 (y:= .t a) bd aa (he a) ac
   refine⟨v,?_,b1⟩
   simp only[CD,Sem.run_bind,ap,asAddr,Sem.run_pure,Result.andThen_ok,ay]
theorem XB {P:Program}{x:ResultVar}{xs:List ResultVar}{e:bf}{es:List bf}(h:mi P (x::xs) (e::es)=true):mi P [x] [e]=true∧mi P xs es=true:=by
 cases x<;>cases e<;>simp [mi]at h ⊢
 ·exact h
 ·exact h
theorem Sl {P:Program}{m:Mem}{env:Env}{tmps:Array Value}(he:dR m env tmps) (bd:bW m): ∀ {xs:List ResultVar}{es:List bf}{aQ:List I},mi P xs es=true→es.mapM (bf.aI env m.H)=some aQ→
  ∃aq,(xs.mapM (CD tmps)).run P m.w= .ok aq m.w∧aR m aQ aq
 |[],[],aQ,_,h=>by
  simp at h
  subst h
  exact⟨[],by simp,by simp only[aR]⟩
 |[],_:: _,_,h,_=>by simp [mi]at h
 | _:: _,[],_,h,_=>by simp [mi]at h
 |x::xs,e::es,aQ,an,h=>by
  obtain⟨U,aa⟩:=XB an
  simp only[bq7,Option.bind_eq_bind,Option.pure_def]at h
  cases ac:e.aI env m.H with
  |none=>simp [ac]at h
  |some r=>
   cases Fq:es.mapM (bf.aI env m.H) with
   |none=>simp [ac,Fq]at h
   |some GO=>
    simp [ac,Fq]at h
    subst h
    obtain⟨v,g1,g2⟩:=YO he bd U ac
    obtain⟨aq,g3,g4⟩:=Sl he bd aa Fq
    refine⟨v::aq,?_,by simp only[aR]; exact⟨v,aq,rfl,g2,g4⟩⟩
    rw[bq7]
    simp only[Sem.run_bind,g1,Result.andThen_ok,g3,Sem.run_pure]
theorem aH0 {P:Program}{m:Mem}{env:Env}{tmps:Array Value}{fn:Func}{aQ:List bf}{r:I}(he:dR m env tmps) (bd:bW m) (an:mi P fn.results.toList aQ=true) (ac:ba.results aQ env m.H=some r):
  ∃v,(Go.results fn tmps).run P m.w= .ok v m.w∧aP m r v:=by
 have key: ∀es:List I,aQ.mapM (bf.aI env m.H)=some es→∃aq,(Go.results fn tmps).run P m.w= .ok (if h:aq.toArray.size=1 then aq.toArray[0] else .tuple aq.toArray) m.w∧aR m es aq:=by
  intro es xi
  obtain⟨aq,g1,g2⟩:=Sl he bd an xi
  refine⟨aq,?_,g2⟩
  show ((fn.results.mapM (CD tmps))>>=fun aq=>pure (if h:aq.size=1 then aq[0] else .tuple aq)).run P m.w= _
  rw[Array.mapM_eq_mapM_toList]
  simp only[Sem.run_bind,Sem.run_map,g1,Result.andThen_ok,Sem.run_pure]
 unfold ba.results at ac
 split at ac
 ·rename_i e
  obtain⟨aq,g1,g2⟩:=key [r] (by simp [ac])
  simp only[aR]at g2
  obtain⟨v,_,rfl,g2,rfl⟩:=g2
  exact⟨v,by simpa using g1,g2⟩
 ·rename_i eg
  cases xi:aQ.mapM (bf.aI env m.H) with
  |none=>simp [xi]at ac
  |some es=>
   simp [xi]at ac
   subst ac
   obtain⟨aq,g1,g2⟩:=key es xi
   have aG:aQ.length=es.length:=by
    have: ∀(l:List bf) (es:List I),l.mapM (bf.aI env m.H)=some es→l.length=es.length:=by
     intro l
     induction l with
     |nil=>intro es h; simp at h; subst h; rfl
     |cons x l b7=>
      intro es h
      simp only[bq7,Option.bind_eq_bind,Option.pure_def]at h
      cases ab:x.aI env m.H with
      |none=>simp [ab]at h
      |some y=>
       cases aG:l.mapM (bf.aI env m.H) with
       |none=>simp [ab,aG]at h
       |some eh=>simp [ab,aG]at h; subst h; simp [b7 eh aG]
    exact this aQ es xi
   have ad9:aq.length≠1:=by
    rw[aR.length g2,←aG]
    intro e
    obtain⟨x,ab⟩:=List.length_eq_one_iff.1 e
    exact eg x ab
   rw[dif_neg (by simpa using ad9)]at g1
   exact⟨_,g1,by simp only[aP]; exact⟨aq,rfl,g2⟩⟩
end Go.ba
namespace Go.ba
open Go
inductive qh where
 |c (c:Code)
 |aY (id:Nat)
 |round (ar:Act→World→Prop)
def post (P:Program) (B:Exit→Act→World→Prop):List qh→Exit→Act→World→Prop
 |[],e,a,w=>B e a w
 | .c code::k,e,a,w=>match e with
  | .normal=>code.wp P (post P B k) a w
  |e=>post P B k e a w
 | .aY id::k,e,a,w=>match e with
  | .exit NB=>if NB=id then post P B k .normal a w else post P B k (.exit NB) a w
  |e=>post P B k e a w
 | .round ar::k,e,a,w=>match e with
  | .normal=>ar a w
  |e=>post P B k e a w
def gY (P:Program) (n:Nat) (m0:hO):List Item→List qh→Prop
 |[],l=>l=[]
 | .c e::k,l=> ∃c bZ,l= .c c::bZ∧(kU P n c e=true∧∀E∈m0.kt,∀p∈E,e.kF p.1=true)∧gY P n m0 k bZ
 | .aY id::k,l=> ∃bZ,l= .aY id::bZ∧gY P n m0 k bZ
 | .round eG m::k,l=> ∃ar bZ,l= .round ar::bZ∧(∀a w,(∃aX env H,eG aX env H∧aX<m∧Rel n m0 env H a w)→ar a w)∧gY P n m0 k bZ
section
variable {P:Program}{B:Exit→Act→World→Prop}
theorem Co: ∀(l:List qh) (a:Act) (w:World),B .ret a w→post P B l .ret a w
 |[],_,_,h=>h
 | .c _::l,a,w,h=>Co l a w h
 | .aY _::l,a,w,h=>Co l a w h
 | .round _::l,a,w,h=>Co l a w h
theorem Cn: ∀(l:List qh) (tq:List PanicEntry) (a:Act) (w:World),B (.panic tq) a w→post P B l (.panic tq) a w
 |[],_,_,_,h=>h
 | .c _::l,tq,a,w,h=>Cn l tq a w h
 | .aY _::l,tq,a,w,h=>Cn l tq a w h
 | .round _::l,tq,a,w,h=>Cn l tq a w h
theorem Cm {n:Nat}{m0:hO}{id:Nat}: ∀(k:List Item) (l:List qh) (ff:List Item),gY P n m0 k l→pt id k=some ff→∃bZ,gY P n m0 ff bZ∧∀a w,post P B bZ .normal a w→post P B l (.exit id) a w
 |[],_,_,_,h=>by simp [pt]at h
 | .c e::k,l,ff,af,h=>by
  simp only[gY]at af
  obtain⟨c,bZ,rfl,_,af⟩:=af
  simp only[pt]at h
  obtain⟨fR,g1,g2⟩:=Cm k bZ ff af h
  exact⟨fR,g1,fun a w a6=>g2 a w a6⟩
 | .aY j::k,l,ff,af,h=>by
  simp only[gY]at af
  obtain⟨bZ,rfl,af⟩:=af
  simp only[pt]at h
  split at h
  ·rename_i e
   subst e
   simp at h
   subst h
   exact⟨bZ,af,fun a w a6=>by simp only[post,if_pos]; exact a6⟩
  ·rename_i e
   obtain⟨fR,g1,g2⟩:=Cm k bZ ff af h
   exact⟨fR,g1,fun a w a6=>by simp only[post]; rw[if_neg (Ne.symm e)]; exact g2 a w a6⟩
 | .round eG m::k,l,ff,af,h=>by
  simp only[gY]at af
  obtain⟨ar,bZ,rfl,_,af⟩:=af
  simp only[pt]at h
  obtain⟨fR,g1,g2⟩:=Cm k bZ ff af h
  exact⟨fR,g1,fun a w a6=>g2 a w a6⟩
theorem ax9 {c:Code}{l:List qh}:Exit.then (c.wp P (post P B l)) (post P B l)=post P B (.c c::l):=by
 funext e a w
 cases e<;>rfl
theorem ax8 {id:Nat}{l:List qh}:Exit.inBlock id (post P B l)=post P B (.aY id::l):=by
 funext e a w
 cases e<;>rfl
end
theorem sl {P:Program}{n:Nat}{ops:Array Oper}: ∀ {os:List Oper}{is:List bK}(anns:List I),mh P n ops os is=true→mh P n ops os (eT is anns)=true
 |[],[],_,h=>by simpa [eT] using h
 |[],_:: _,_,h=>by simp [mh]at h
 | _:: _,[],_,h=>by simp [mh]at h
 |o::os,⟨d,g,op⟩::is,anns,h=>by
  simp only[mh,bb6]at h
  cases op with
  |jj f args=>
   cases anns with
   |nil=>simp only[eT,mh,bb6]; exact⟨h.1,sl [] h.2⟩
   |cons r aQ=>
    simp only[eT,mh,bb6]
    refine⟨?_,sl aQ h.2⟩
    have U:=h.1
    simp only[pP,bb6]at U ⊢
    refine⟨U.1,?_⟩
    have:=U.2
    cases aj:o.op<;>rw[aj]at this<;>first
     |(simp [bj]at this; done)
     |skip
    rename_i c
    obtain⟨callee,e6,at'⟩:=c
    cases callee<;>first
     |exact this
     |(rename_i b; cases b<;>exact this)
  |j3 x args=>
   cases anns with
   |nil=>simp only[eT,mh,bb6]; exact⟨h.1,sl [] h.2⟩
   |cons r aQ=>
    simp only[eT,mh,bb6]
    refine⟨?_,sl aQ h.2⟩
    have U:=h.1
    simp only[pP,bb6]at U ⊢
    refine⟨U.1,?_⟩
    have:=U.2
    cases aj:o.op<;>rw[aj]at this<;>first
     |(simp [bj]at this; done)
     |skip
    rename_i c
    obtain⟨callee,e6,at'⟩:=c
    cases callee<;>first
     |exact this
     |(rename_i b; cases b<;>exact this)
  |rX T size f args=>
   cases anns with
   |nil=>simp only[eT,mh,bb6]; exact⟨h.1,sl [] h.2⟩
   |cons r aQ=>
    simp only[eT,mh,bb6]
    refine⟨?_,sl aQ h.2⟩
    have U:=h.1
    simp only[pP,bb6]at U ⊢
    refine⟨U.1,?_⟩
    have:=U.2
    cases aj:o.op<;>rw[aj]at this<;>first
     |(simp [bj]at this; done)
     |skip
    rename_i c
    obtain⟨callee,e6,at'⟩:=c
    cases callee<;>first
     |exact this
     |(rename_i b; cases b<;>exact this)
  | _=>simp only[eT,mh,bb6]; exact⟨h.1,sl anns h.2⟩
theorem rq: ∀(is:List bK) (anns:List I) (k:Nat),(nth (eT is anns) k).dst=(nth is k).dst∧(nth (eT is anns) k).reads=(nth is k).reads∧(nth (eT is anns) k).op.c7=(nth is k).op.c7∧(nth (eT is anns) k).total=(nth is k).total∧(nth (eT is anns) k).op.live=(nth is k).op.live∧(nth (eT is anns) k).ux=(nth is k).ux
 |[],anns,k=>by simp [eT]
 |⟨d,g,op⟩::is,anns,k=>by
  cases op with
  |jj f args=>
   cases anns with
   |nil=>
    cases k with
    |zero=>exact⟨rfl,rfl,rfl,rfl,rfl,by first|rfl|(cases g<;>rfl)⟩
    |succ k=>exact rq is [] k
   |cons r aQ=>
    cases k with
    |zero=>exact⟨rfl,rfl,rfl,rfl,rfl,by first|rfl|(cases g<;>rfl)⟩
    |succ k=>exact rq is aQ k
  |j3 f args=>
   cases anns with
   |nil=>
    cases k with
    |zero=>exact⟨rfl,rfl,rfl,rfl,rfl,by first|rfl|(cases g<;>rfl)⟩
    |succ k=>exact rq is [] k
   |cons r aQ=>
    cases k with
    |zero=>exact⟨rfl,rfl,rfl,rfl,rfl,by first|rfl|(cases g<;>rfl)⟩
    |succ k=>exact rq is aQ k
  |rX T size f args=>
   cases anns with
   |nil=>
    cases k with
    |zero=>exact⟨rfl,rfl,rfl,rfl,rfl,by first|rfl|(cases g<;>rfl)⟩
    |succ k=>exact rq is [] k
   |cons r aQ=>
    cases k with
    |zero=>exact⟨rfl,rfl,rfl,rfl,rfl,by first|rfl|(cases g<;>rfl)⟩
    |succ k=>exact rq is aQ k
  | _=>
   cases k with
   |zero=>exact⟨rfl,rfl,rfl,rfl,rfl,by first|rfl|(cases g<;>rfl)⟩
   |succ k=>exact rq is anns k
theorem sn: ∀(is:List bK) (anns:List I) (k:Nat),(nth (eT is anns) k).op.quiet=(nth is k).op.quiet∧(nth (eT is anns) k).op.s3=(nth is k).op.s3∧(nth (eT is anns) k).op.tp=(nth is k).op.tp∧(nth (eT is anns) k).oq=(nth is k).oq
 |[],anns,k=>by simp [eT]
 |⟨d,g,op⟩::is,anns,k=>by
  cases op with
  |jj f args=>
   cases anns with
   |nil=>
    cases k with
    |zero=>exact⟨rfl,rfl,rfl,by first|rfl|(cases g<;>rfl)⟩
    |succ k=>exact sn is [] k
   |cons r aQ=>
    cases k with
    |zero=>exact⟨rfl,rfl,rfl,by first|rfl|(cases g<;>rfl)⟩
    |succ k=>exact sn is aQ k
  |j3 f args=>
   cases anns with
   |nil=>
    cases k with
    |zero=>exact⟨rfl,rfl,rfl,by first|rfl|(cases g<;>rfl)⟩
    |succ k=>exact sn is [] k
   |cons r aQ=>
    cases k with
    |zero=>exact⟨rfl,rfl,rfl,by first|rfl|(cases g<;>rfl)⟩
    |succ k=>exact sn is aQ k
  |rX T size f args=>
   cases anns with
   |nil=>
    cases k with
    |zero=>exact⟨rfl,rfl,rfl,by first|rfl|(cases g<;>rfl)⟩
    |succ k=>exact sn is [] k
   |cons r aQ=>
    cases k with
    |zero=>exact⟨rfl,rfl,rfl,by first|rfl|(cases g<;>rfl)⟩
    |succ k=>exact sn is aQ k
  | _=>
   cases k with
   |zero=>exact⟨rfl,rfl,rfl,by first|rfl|(cases g<;>rfl)⟩
   |succ k=>exact sn is anns k
theorem wE: ∀(is:List bK) (anns:List I),(eT is anns).length=is.length
 |[],_=>rfl
 |⟨d,g,op⟩::is,anns=>by
  cases op with
  |jj f args=>cases anns<;>simp [eT,wE is]
  |j3 f args=>cases anns<;>simp [eT,wE is]
  |rX T size f args=>cases anns<;>simp [eT,wE is]
  | _=>simp [eT,wE is]
theorem Ij {os:List Oper}{is:List bK}{anns:List I}(h:vS os is=true):vS os (eT is anns)=true:=by
 simp only[vS,bb6,bj8]at h ⊢
 refine⟨h.1,fun⟨y,j⟩ a8 ⟨x,i⟩ ab=> ?_⟩
 rw[bi5]at a8 ab
 have bm:j<is.length:=by rw[←wE is anns]; exact (List.getElem?_eq_some_iff.1 a8).1
 have af:i<is.length:=by rw[←wE is anns]; exact (List.getElem?_eq_some_iff.1 ab).1
 have ky:nth (eT is anns) j=y:=by simp only[nth,be7]; rw[a8]; rfl
 have ex:nth (eT is anns) i=x:=by simp only[nth,be7]; rw[ab]; rfl
 have:=h.2 (nth is j,j) (by rw[bi5]; simp [nth,bm]) (nth is i,i) (by rw[bi5]; simp [nth,af])
 have e:indep x y=indep (nth is i) (nth is j):=by
  obtain⟨er,a2,a3,a4,a5,yh⟩:=rq is anns i
  obtain⟨e5,il,jZ,om,yl,AP⟩:=rq is anns j
  rw[ky]at e5 il jZ om yl AP
  rw[ex]at er a2 a3 a4 a5 yh
  obtain⟨H9,Ia,a9,H8⟩:=sn is anns i
  obtain⟨AQ,Uq,AR,It⟩:=sn is anns j
  rw[ky]at AQ Uq AR It
  rw[ex]at H9 Ia a9 H8
  unfold indep zZ yr
  rw[H8,It,H9,AQ,Ia,AR,er,a2,a3,a5,yh,e5,il,jZ,om,AP]
 simp only[e]
 exact this
theorem GJ {n:Nat}{m0:hO}{env bb:Env}{H:aA}{a:Act}{w:World}(h: ∀j,c5 (env.get j) (bb.get j)) (ac:Rel n m0 env H a w):Rel n m0 bb H a w:=by
 obtain⟨m,U,aa,aD,bA,b6,dx⟩:=ac
 exact⟨m,U,aa,aD,bA,fun k=>h k _ _ (b6 k),dx⟩
def HW (m0:Mem) (R:Out→aA→Prop) (e:Ending) (w':World):Prop:=
 ∃o aC gw cG,bW ⟨w',aC,gw,cG⟩∧bV m0 ⟨w',aC,gw,cG⟩∧rk ⟨w',aC,gw,cG⟩ o e∧R o aC
structure yb (P:Program) (fn:Func) (n:Nat) (aQ:List bf) (Q:Ending→World→Prop) (R:Out→aA→Prop) (m0:hO):Prop where
 ret: ∀env H v a w,ba.results aQ env H=some v→R (.ret v) H→Rel n m0 env H a w→Leaves P fn a.tmps Q a.defers .returning w
 ey: ∀(x:I) (aX:Mem) (ku:Value) (a:Act),R (.ey x) aX.H→bW aX→bV m0.m aX→aP aX x ku→(a.defers=m0.D∧∀E∈m0.kt,dR aX E a.tmps)→a.tmps.size=n→Leaves P fn a.tmps Q a.defers (.panicking [{v:=ku,recovered:=false}]) aX.w
theorem ZZ {P:Program}{fn:Func}{n:Nat}{m0:Mem}{aQ:List bf}{R:Out→aA→Prop}(Fp:mi P fn.results.toList aQ=true):yb P fn n aQ (HW m0 R) R ⟨m0,[],[]⟩ where
 ret:=fun env H v a w ad ag ac=>by
  obtain⟨m,rfl,rfl,bd,bN,he,gA,_⟩:=ac
  obtain⟨ku,g1,g2⟩:=aH0 (fn:=fn) he bd Fp ad
  rw[gA.1]
  exact⟨ku,g1,.ret v,m.H,m.L,m.T,bd,bN,⟨ku,rfl,g2⟩,ag⟩
 ey:=fun x aX ku a ag bd aI ad gA _=>by
  rw[gA.1]
  exact⟨.ey x,aX.H,aX.L,aX.T,bd,aI,⟨ku,rfl,ad⟩,ag⟩
theorem Z0 {P:Program}{fn:Func}{n:Nat}{aQ:List bf}{Q:Ending→World→Prop}{R oi:Out→aA→Prop}{m0:hO}{m1:Mem}{f:FuncId}{gx:List I}{aq:List Value}{kt:Env}(hb:yb P fn n aQ Q R m0) (aT:c6 P f=true) (BJ:bV m0.m m1) (iT:aR m1 gx aq) (BL:Az P f gx)
  (BW: ∀v aC,oi (.ret v) aC→R (.ret v) aC) (BV: ∀x aC,oi (.ey x) aC→tf P f gx x aC fun dt=> ∃v,ba.results aQ kt dt=some v∧R (.ret v) dt):
  yb P fn n aQ Q oi ⟨m1,{target:= .fn (.func f) ⟨aq⟩,args:= #[]}::m0.D,kt::m0.kt⟩ where
 ret:=fun env H v a w ad ag ac=>by
  obtain⟨m,rfl,rfl,bd,bN,he,gA,dq⟩:=ac
  rw[gA.1]
  have hinv:(invoke (.fn (.func f) ⟨aq⟩) #[]).run P m.w= .ok (.enter f ⟨aq⟩) m.w:=by simp [invoke,zT aT]
  refine leaves_cons (by simp) hinv ((BL m aq bd (aR.aI bN _ _ iT)).mono ?_)
  rintro e qf w' ⟨⟨bD,rfl⟩,rfl,gw,cG,cm,cA⟩
  have:=hb.ret env m.H v {a with defers:=m0.D} w' ad (BW _ _ ag) ⟨⟨w',m.H,gw,cG⟩,rfl,rfl,cm,(BJ.trans bN).trans cA,fun k=>aP.aI cA _ _ (he k),⟨rfl,fun E dc k=>aP.aI cA _ _ (gA.2 E (by simp [dc]) k)⟩,dq⟩
  exact this
 ey:=fun x aX ku a ag bd aI ad gA dq=>by
  rw[gA.1]
  have hinv:(invoke (.fn (.func f) ⟨aq⟩) #[]).run P aX.w= .ok (.enter f ⟨aq⟩) aX.w:=by simp [invoke,zT aT]
  refine leaves_cons (by simp) hinv ((BV x aX.H ag aX aq ku rfl bd (aR.aI aI _ _ iT) ad).mono ?_)
  rintro e qf w' ⟨⟨bD,rfl⟩,rfl,aC,gw,cG,cm,cA,v,sJ,EP⟩
  have:=hb.ret kt aC v {a with defers:=m0.D} w' sJ EP ⟨⟨w',aC,gw,cG⟩,rfl,rfl,cm,(BJ.trans aI).trans cA,fun k=>aP.aI cA _ _ (gA.2 kt (by simp) k),⟨rfl,fun E dc k=>aP.aI cA _ _ (gA.2 E (by simp [dc]) k)⟩,dq⟩
  exact this
theorem gY.more {P:Program}{n:Nat}{m0 m1:hO}: ∀ {k:List Item}{l:List qh},gY P n m0 k l→(∀E∈m1.kt,E∈m0.kt∨∀p∈E,k.all (Item.kF p.1)=true)→k.all (fun i=>match i with| .round _ _=>false| _=>true)=true→gY P n m1 k l
 |[],l,h,_,_=>by simp only[gY]at*; exact h
 | .c e::k,l,h,av,ac=>by
  simp only[gY]at*
  obtain⟨c,bZ,rfl,⟨U,aa⟩,aD⟩:=h
  simp only[bd3,bb6]at av ac
  exact⟨c,bZ,rfl,⟨U,fun E dc p hp=>(av E dc).elim (fun h=>aa E h p hp) fun h=>(h p hp).1⟩,gY.more aD (fun E dc=>(av E dc).imp (fun h=>h) fun h p hp=>(h p hp).2) ac.2⟩
 | .aY id::k,l,h,av,ac=>by
  simp only[gY]at*
  obtain⟨bZ,rfl,aD⟩:=h
  simp only[bd3,bb6]at av ac
  exact⟨bZ,rfl,gY.more aD (fun E dc=>(av E dc).imp (fun h=>h) fun h p hp=>(h p hp).2) ac.2⟩
 | .round eG m::k,l,h,av,ac=>by simp at ac
theorem Ov {m0:hO}{ops:List bK}{draw:Bool}(anns:List I) (h: ∀E∈m0.kt,∀p∈E,(bp.region ops draw).kF p.1=true) (k:Nat):m0.free (nth (eT ops anns) k):=by
 intro E dc p hp e
 have U:=h E dc p hp
 simp only[bp.kF,bj8]at U
 rw[(rq ops anns k).1]at e
 by_cases av:k<ops.length
 ·have aa:=U (nth ops k) (by simp [nth,av])
  simp [e]at aa
 ·simp [nth,bo4,av,L4]at e
theorem Ua {P:Program}{fn:Func}{n:Nat}{aQ:List bf}{Q:Ending→World→Prop}{R:Out→aA→Prop}(hm:P.follows .mixedOrders=true){k:List Item}{env:Env}{H:aA}(h:cr P aQ R k env H):
  ∀(m0:hO) (hb:yb P fn n aQ Q R m0) (l:List qh) (a:Act) (w:World),gY P n m0 k l→Rel n m0 env H a w→post P (bodyPostD P fn Q) l .normal a w:=by
 have ey: ∀ {R:Out→aA→Prop}(m0:hO) (hb:yb P fn n aQ Q R m0) (l:List qh),yf n m0 (fun v aC=>R (.ey v) aC) (post P (bodyPostD P fn Q) l):=by
  intro R m0 hb l x aX ku a ag bd aI ad gA dq
  exact Cn l _ a aX.w (hb.ey x aX ku a ag bd aI ad gA dq)
 induction h with
 |done ad ag=>
  intro m0 hb l a w af ac
  simp only[gY]at af
  subst af
  exact hb.ret _ _ _ _ _ ad ag ac
 |ret ad ag=>
  intro m0 hb l a w af ac
  simp only[gY]at af
  obtain⟨c,bZ,rfl,⟨an,hw⟩,af⟩:=af
  cases c<;>simp [kU]at an
  exact wp_ret (Co bZ a w (hb.ret _ _ _ _ _ ad ag ac))
 |skip _ b7=>
  intro m0 hb l a w af ac
  simp only[gY]at af
  obtain⟨c,bZ,rfl,⟨an,hw⟩,af⟩:=af
  cases c<;>simp [kU]at an
  exact wp_skip (b7 m0 hb bZ a w af ac)
 |iy _ b7=>
  intro m0 hb l a w af ac
  simp only[gY]at af
  obtain⟨bZ,rfl,af⟩:=af
  exact b7 m0 hb bZ a w af ac
 |seq _ b7=>
  intro m0 hb l a w af ac
  simp only[gY]at af
  obtain⟨c,bZ,rfl,⟨an,hw⟩,af⟩:=af
  cases c<;>simp [kU]at an
  rename_i x y
  refine wp_seq ?_
  rw[ax9]
  exact b7 m0 hb (.c x:: .c y::bZ) a w (by simp only[gY]; exact⟨_,_,rfl,⟨an.1,fun E dc p hp=>by have:=hw E dc p hp; simp only[bp.kF,bb6]at this; exact this.1⟩,_,_,rfl,⟨an.2,fun E dc p hp=>by have:=hw E dc p hp; simp only[bp.kF,bb6]at this; exact this.2⟩,af⟩) ac
 |block _ b7=>
  intro m0 hb l a w af ac
  simp only[gY]at af
  obtain⟨c,bZ,rfl,⟨an,hw⟩,af⟩:=af
  cases c<;>simp [kU]at an
  rename_i id x
  obtain⟨rfl,an⟩:=an
  refine wp_block ?_
  rw[ax8]
  exact b7 m0 hb (.c x:: .aY id::bZ) a w (by simp only[gY]; exact⟨_,_,rfl,⟨an,fun E dc p hp=>by have:=hw E dc p hp; simpa only[bp.kF] using this⟩,_,rfl,af⟩) ac
 |exit av _ b7=>
  intro m0 hb l a w af ac
  simp only[gY]at af
  obtain⟨c,bZ,rfl,⟨an,hw⟩,af⟩:=af
  cases c<;>simp [kU]at an
  subst an
  obtain⟨fR,g1,g2⟩:=Cm (B:=bodyPostD P fn Q) _ bZ _ af av
  exact wp_exit (g2 a w (b7 m0 hb fR a w g1 ac))
 |cond Z8 _ _ ai1 ai2=>
  intro m0 hb l a w af ac
  simp only[gY]at af
  obtain⟨c,bZ,rfl,⟨an,hw⟩,af⟩:=af
  cases c<;>simp [kU]at an
  rename_i x p q
  have ab: ∀(c:aJ) (env:Env) (H:aA) (t:Bool),cT x c=true→Rel n m0 env H a w→aJ.aI env c=I.bool t→a.eval x= .bool t:=by
   intro c env H t U ac aL
   obtain⟨m,rfl,rfl,bd,bN,he,_⟩:=ac
   have:=db he U
   rw[aL]at this
   exact s0 this
  exact wp_cond_split (ab _ _ _ _ an.1.1 ac Z8) (fun aL=>ai1 aL m0 hb (.c p::bZ) a w (by simp only[gY]; exact⟨_,_,rfl,⟨an.1.2,fun E dc p hp=>by have:=hw E dc p hp; simp only[bp.kF,bb6]at this; exact this.1⟩,af⟩) ac) (fun aL=>ai2 aL m0 hb (.c q::bZ) a w (by simp only[gY]; exact⟨_,_,rfl,⟨an.2,fun E dc p hp=>by have:=hw E dc p hp; simp only[bp.kF,bb6]at this; exact this.2⟩,af⟩) ac)
 |region anns K h dL b7=>
  rename_i ops draw k env H
  intro m0 hb l a w af ac
  simp only[gY]at af
  obtain⟨c,bZ,rfl,⟨an,hw⟩,af⟩:=af
  cases c<;>simp only[kU,bd5]at an
  rename_i id nU Xu
  simp only[bb6,beq_iff_eq]at an
  obtain⟨⟨rfl,yW⟩,yX⟩:=an
  have xg:=sl anns yW
  obtain⟨hlen,xl⟩:=DJ xg
  have sF:nU.size=(eT ops anns).length:=by rw[←hlen,bg4]
  have y5: ∀k o,nU[k]? =some o→pP P n nU o (nth (eT ops anns) k)=true:=fun k o aj=>xl k o (by simpa using aj)
  have y0:=D2 _ h
  have za: ∀env H a w,K env H→Rel n m0 env H a w→post P (bodyPostD P fn Q) bZ .normal a w:=fun env H a w av ac=>b7 env H av m0 hb bZ a w af ac
  cases Xu with
  |false=>
   refine wp_region ?_
   have:=D3 (Q:=post P (bodyPostD P fn Q) bZ) y5 (Ov anns hw) (ey m0 hb bZ) za (bq8 nU.size) (fun k av=>by simpa using av) (by rw[sF,CC]; exact y0) ac
   exact this
  |true=>
   refine wp_region_any hm ?_
   have ir:=Ij (anns:=anns) (by simpa using yX)
   have kc:Rel n m0 env H a {w with drawn:=w.drawn+1}:=by
    obtain⟨m,rfl,rfl,bd,bN,he,gA,dq⟩:=ac
    exact⟨{m with w:=m.w.drew},rfl,rfl,bd.drew,bN.trans (bV.drew m),fun k=>aP.aI (bV.drew m) _ _ (he k),⟨gA.1,fun E dc k=>aP.aI (bV.drew m) _ _ (gA.2 E dc k)⟩,dq⟩
   have E0:=D1 (K':=fun env H=> ∃qz,kp qz env∧K qz H) (fun e H av=>⟨e,fun _=>rfl,av⟩) _ y0
   refine JT (K:=fun env H=> ∃qz,kp qz env∧K qz H) sF ir y5 (Ov anns hw) (ey m0 hb bZ) (fun e ct H he ⟨bN,U,aa⟩=>⟨bN,fun k=>(U k).trans (he k),aa⟩) (fun env H a w ⟨bN,U,aa⟩ ac=>za bN H a w aa (GJ (fun j m v ad=>by rw[U j]; exact ad) ac)) nU.size (bq8 nU.size) _ (by simp) bt6 (fun k=> ?_) (by simp) ?_ (by rw[sF,CC]; exact E0) kc
   ·simp only[bt7]
    constructor
    ·intro av
     exact⟨av,by simp [bd9,av]⟩
    ·exact fun h=>h.1
   ·intro i o aj aG
    have cz:=(Array.getElem?_eq_some_iff.1 aj).1
    simp [bd9,cz]at aG
 |loop eG m1 aW h b7=>
  rename_i body k env H
  intro m0 hb l a w af ac
  simp only[gY]at af
  obtain⟨c,bZ,rfl,⟨an,hw⟩,af⟩:=af
  cases c<;>simp [kU]at an
  rename_i x
  -- the least measure
  let inv:Act→World→Prop:=fun a w=> ∃aX env H,eG aX env H∧Rel n m0 env H a w
  let bC:Act→World→Nat:=fun a w=>Classical.epsilon fun q=>(∃env H,eG q env H∧Rel n m0 env H a w)∧∀lL,(∃env H,eG lL env H∧Rel n m0 env H a w)→q≤lL
  have Nq: ∀a w,inv a w→(∃env H,eG (bC a w) env H∧Rel n m0 env H a w)∧∀lL,(∃env H,eG lL env H∧Rel n m0 env H a w)→bC a w≤lL:=by
   intro a w hinv
   have hex: ∃q,(∃env H,eG q env H∧Rel n m0 env H a w)∧∀lL,(∃env H,eG lL env H∧Rel n m0 env H a w)→q≤lL:=by
    obtain⟨kh,env,H,U,aa⟩:=hinv
    have key: ∀b,(∃q,q≤b∧∃env H,eG q env H∧Rel n m0 env H a w)→∃q,(∃env H,eG q env H∧Rel n m0 env H a w)∧∀lL,(∃env H,eG lL env H∧Rel n m0 env H a w)→q≤lL:=by
     intro b
     induction b with
     |zero=>rintro⟨q,bu,a6⟩; exact⟨q,a6,fun lL _=>by omega⟩
     |succ b ai3=>
      rintro⟨q,bu,a6⟩
      by_cases Np: ∃q,q≤b∧∃env H,eG q env H∧Rel n m0 env H a w
      ·exact ai3 Np
      ·exact⟨q,a6,fun lL ae7=>by
        rcases Nat.lt_or_ge b lL with cz|b4
        ·omega
        ·exact absurd ⟨lL,b4,ae7⟩ Np⟩
    exact key kh ⟨kh,bc1 _,env,H,U,aa⟩
   exact Classical.epsilon_spec hex
  refine wp_loop inv bC ⟨m1,env,H,aW,ac⟩ fun a w hinv=> ?_
  obtain⟨⟨YF,H1,g1,g2⟩,a35⟩:=Nq a w hinv
  have:=b7 (bC a w) YF H1 g1 m0 hb (.c x:: .round (fun cI w'=>inv cI w'∧bC cI w'<bC a w)::bZ) a w (by
   simp only[gY]
   refine⟨_,_,rfl,⟨an,fun E dc p hp=>by have:=hw E dc p hp; simpa only[bp.kF] using this⟩,_,_,rfl,fun cI w' ⟨aX,bb,aC,br,bB,cu⟩=> ?_,af⟩
   have Ng:inv cI w':=⟨aX,bb,aC,br,cu⟩
   exact⟨Ng,Nat.lt_of_le_of_lt ((Nq cI w' Ng).2 aX ⟨bb,aC,br,cu⟩) bB⟩) g2
  refine wp_mono this fun e cI w' bu=> ?_
  cases e<;>exact bu
 |round m1 aW U=>
  intro m0 hb l a w af ac
  simp only[gY]at af
  obtain⟨ar,bZ,rfl,ZF,af⟩:=af
  exact ZF a w ⟨m1,_,_,aW,U,ac⟩
 |x4 he _ b7=>
  intro m0 hb l a w af ac
  exact b7 m0 hb l a w af (GJ he ac)
 |conv S ao _ b7=>
  intro m0 hb l a w af ac
  obtain⟨m,rfl,rfl,bd,bN,he,gA,dq⟩:=ac
  obtain⟨bb,aC,gw,cG,s1,s2,qb,CH⟩:=ao m rfl bd
  exact b7 bb aC s1 m0 hb l a _ af ⟨⟨m.w,aC,gw,cG⟩,rfl,rfl,s2,bN.trans qb,fun k=>CH k _ (he k),⟨gA.1,fun E dc k=>aP.aI qb _ _ (gA.2 E dc k)⟩,dq⟩
 |sv oi kt BN av bG an aT BL BW BV a58 b7=>
  rename_i R d f cap k env H
  intro m0 hb l a w af ac
  simp only[gY]at af
  obtain⟨c,bZ,rfl,⟨tP,hw⟩,af⟩:=af
  obtain⟨m,rfl,rfl,bd,bN,he,gA,dq⟩:=ac
  cases c<;>try (simp only[kU,bd5]at tP; done)
  rename_i id ops draw
  cases draw<;>simp only[kU,bd5]at tP
  simp only[bb6]at tP
  obtain⟨⟨aa8,_⟩,BS⟩:=tP
  have M5:d<n:=by simpa [bo3] using aa8
  split at BS
  ·rename_i e4 fT sH
   simp only[bb6,beq_iff_eq,bs5]at BS
   obtain⟨⟨⟨⟨⟨U,aa⟩,aD⟩,bA⟩,b6⟩,dx⟩:=BS
   split at b6
   ·rename_i g first gx ae2
    simp only[bb6,decide_eq_true_eq]at b6
    obtain⟨⟨rfl,Zx⟩,Zy⟩:=b6
    split at dx
    ·rename_i t args a19 zb
     simp only[bb6,beq_iff_eq]at dx
     obtain⟨rfl,Zz⟩:=dx
     have ae3:ops= #[e4,fT]:=by cases ops; simp at sH; subst sH; rfl
     subst ae3
     obtain⟨v,kz,ad⟩:=PW he ae2 Zx Zy (by simpa using DG aT) (P:=P) (m:=m) (o:=e4)
     obtain⟨aq,ag2,iT⟩:=wa ad
     have ag3:=ag2.trans (vf (DG aT) aq)
     subst ag3
     refine wp_region ?_
     have ag4: ∀y,Region.wanted e4 y=true:=fun y=>by simp [Region.wanted,aa]
     have ag5: ∀y,Region.wanted fT y=true:=fun y=>by simp [Region.wanted,bA]
     have rK:args= #[]:=by simpa using Zz
     subst rK
     show wpOps P #[e4,fT] _ [0,1] a m.w
     simp only[wpOps,List.getElem?_toArray,bi9,List.getElem?_cons_succ,ag4,ag5,if_true]
     refine .inl ?_
     simp only[Oper.wp,kz,Oper.upon]
     have BJ:(a.put e4.dst (.func (.func g) #[] ⟨aq⟩)).eval (.tmp t)= .func (.func g) #[] ⟨aq⟩:=by
      rw[U]
      simp [Act.put,Act.eval,bd9,dq,M5]
     have af4:(execOp (a.put e4.dst (.func (.func g) #[] ⟨aq⟩)).eval fT).run P m.w= .ok (.defer {target:= .fn (.func g) ⟨aq⟩,args:= #[]}) m.w:=by
      simp [execOp,zb,resolve,BJ,Deferred.ofValue]
     rw[af4]
     refine .inl ?_
     simp only[Oper.upon]
     refine b7 _ (Z0 hb aT bN iT BL BW BV) bZ _ _ (gY.more af (fun E dc=> ?_) an) ?_
     ·rcases List.mem_cons.1 dc with rfl|dc
      ·exact .inr av
      ·exact .inl dc
     ·have ci:dR m kt a.tmps:=fun k=>BN k _ _ (he k)
      refine⟨m,rfl,rfl,bd,bV.refl m,?_,⟨?_,fun E dc=> ?_⟩,?_⟩
      ·have:=Sz (dst:=some t) he (bV.refl m) ad dq (by simpa using M5)
       rw[U,aD]
       exact this
      ·rw[U,aD]
       simp [Act.put,gA.1]
      ·rw[U,aD]
       rcases List.mem_cons.1 dc with rfl|dc
       ·exact GV (dst:=some t) (v:= .func (.func g) #[] ⟨aq⟩) ci (bV.refl m) (fun p hp e=>bG p hp (by simpa using e))
       ·exact GV (dst:=some t) (v:= .func (.func g) #[] ⟨aq⟩) (gA.2 E dc) (bV.refl m) (fun p hp e=>by have:=hw E dc p hp; simp only[bp.kF]at this; simp at e; simp [e]at this)
      ·rw[U,aD]
       simp [Act.put,dq]
    ·cases dx
   ·cases b6
  ·cases BS
theorem T9 {P:Program}{fn:Func}{n:Nat}{m0:Mem}{aQ:List bf}{R:Out→aA→Prop}(hm:P.follows .mixedOrders=true) (Fp:mi P fn.results.toList aQ=true){k:List Item}{env:Env}{H:aA}(h:cr P aQ R k env H)
  (l:List qh) (a:Act) (w:World) (af:gY P n ⟨m0,[],[]⟩ k l) (ac:Rel n ⟨m0,[],[]⟩ env H a w):post P (bodyPostD P fn (HW m0 R)) l .normal a w:=
 Ua hm h _ (ZZ Fp) l a w af ac
theorem aG3 {P:Program}{n:Nat}{m0:hO}{id:Nat}{nU:Array Oper}{draw:Bool}{ops:List bK}{anns:List I}{env:Env}{H:aA}{K:Env→aA→Prop}{Rp:I→aA→Prop}{Q:Exit→Act→World→Prop}{a:Act}{w:World}(hm:P.follows .mixedOrders=true) (qG:m0.kt=[])
  (an:kU P n (.region id nU draw) (.region ops draw)=true) (hp:yf n m0 Rp Q) (za: ∀env H a w,K env H→Rel n m0 env H a w→Q .normal a w) (h:bn P (eT ops anns) env H K Rp) (ac:Rel n m0 env H a w):(Code.region id nU draw).wp P Q a w:=by
 simp only[kU,bb6,beq_iff_eq,BEq.rfl,true_and]at an
 obtain⟨yW,yX⟩:=an
 have xg:=sl anns yW
 obtain⟨hlen,xl⟩:=DJ xg
 have sF:nU.size=(eT ops anns).length:=by rw[←hlen,bg4]
 have y5: ∀k o,nU[k]? =some o→pP P n nU o (nth (eT ops anns) k)=true:=fun k o aj=>xl k o (by simpa using aj)
 have Na: ∀k,m0.free (nth (eT ops anns) k):=fun k E dc=>by rw[qG]at dc; cases dc
 have y0:=D2 _ h
 cases draw with
 |false=>
  refine wp_region ?_
  exact D3 y5 Na hp za (bq8 nU.size) (fun k av=>by simpa using av) (by rw[sF,CC]; exact y0) ac
 |true=>
  refine wp_region_any hm ?_
  have ir:=Ij (anns:=anns) (by simpa using yX)
  have kc:Rel n m0 env H a {w with drawn:=w.drawn+1}:=by
   obtain⟨m,rfl,rfl,bd,bN,he,gA,dq⟩:=ac
   exact⟨{m with w:=m.w.drew},rfl,rfl,bd.drew,bN.trans (bV.drew m),fun k=>aP.aI (bV.drew m) _ _ (he k),⟨gA.1,fun E dc k=>aP.aI (bV.drew m) _ _ (gA.2 E dc k)⟩,dq⟩
  have E0:=D1 (K':=fun env H=> ∃qz,kp qz env∧K qz H) (fun e H av=>⟨e,fun _=>rfl,av⟩) _ y0
  refine JT (K:=fun env H=> ∃qz,kp qz env∧K qz H) sF ir y5 Na hp (fun e ct H he ⟨bN,U,aa⟩=>⟨bN,fun k=>(U k).trans (he k),aa⟩) (fun env H a w ⟨bN,U,aa⟩ ac=>za bN H a w aa (GJ (fun j m v ad=>by rw[U j]; exact ad) ac)) nU.size (bq8 nU.size) _ (by simp) bt6 (fun k=> ?_) (by simp) ?_ (by rw[sF,CC]; exact E0) kc
  ·simp only[bt7]
   constructor
   ·intro av
    exact⟨av,by simp [bd9,av]⟩
   ·exact fun h=>h.1
  ·intro i o aj aG
   have cz:=(Array.getElem?_eq_some_iff.1 aj).1
   simp [bd9,cz]at aG
end Go.ba
namespace Go.ba
open Go
def initFrom:Nat→List I→Env
 | _,[]=>[]
 |k,a::az=>(k,a)::initFrom (k+1) az
abbrev lE (args:List I):Env:=initFrom 0 args
theorem B1: ∀(args:List I) (k j:Nat),(initFrom k args).get j=if k≤j then args.getD (j-k) .eD else .eD
 |[],k,j=>by simp [initFrom,Env.get]
 |a::az,k,j=>by
  simp only[initFrom,Env.get]
  by_cases h:k=j
  ·subst h
   simp
  ·have:(k==j)=false:=by simpa using h
   rw[this,cond_false,B1 az (k+1) j]
   by_cases U:k+1≤j
   ·have aa:k≤j:=by omega
    rw[if_pos U,if_pos aa,show j-k=(j-(k+1))+1 by omega]
    simp
   ·rw[if_neg U,if_neg (by omega)]
theorem ai5 {m:Mem}{args:List I}{aq:List Value}{n:Nat}(h:aR m args aq):dR m (lE args) (⟨aq⟩++bk9 n undef):=by
 intro k
 rw[B1]
 simp only[Nat.zero_le,if_true,Nat.sub_zero]
 by_cases av:k<args.length
 ·obtain⟨v,ap,ay⟩:=aR.get h k args[k] (bd1 av)
  have b1:(⟨aq⟩++bk9 n undef:Array Value).getD k undef=v:=by
   have aG:k<aq.length:=by rw[aR.length h]; exact av
   have sw:aq[k]=v:=by rw[bd1 aG]at ap; simpa using ap
   have:k<(⟨aq⟩:Array Value).size:=aG
   simp only[bd9,Array.getElem?_append,this,if_true]
   simp [aG,sw]
  rw[b1]
  simpa [bo4,av] using ay
 ·have:args.getD k .eD= .eD:=by simp [bo4,av]
  rw[this]
  simp only[aP]
theorem Ic {P:Program}{f:FuncId}{fn:Func}{args:List I}{e:bp}{aQ:List bf}{H:aA}{R:Out→aA→Prop}(hm:P.follows .mixedOrders=true) (aT:P.funcs[f]? =some fn) (an:bL P fn args.length e aQ=true) (h:cr P aQ R [.c e] (lE args) H):jE P f args H R:=by
 intro m aq fL bd ad
 simp only[bL,bb6]at an
 obtain⟨⟨a1,ac⟩,hb⟩:=an
 cases EW:fn.body with
 |none=>rw[EW]at hb; cases hb
 |some c=>
  rw[EW]at hb
  refine calls_of_wp_defers aT EW ?_
  have hlen:=aR.length ad
  have rO:args.length≤fn.ntmps:=bh6 a1
  have:=T9 (fn:=fn) (n:=fn.ntmps) (m0:=m) hm ac h [.c c] {tmps:=⟨aq⟩++bk9 (fn.ntmps-(⟨aq⟩:Array Value).size) undef,defers:=[]} m.w (by simp only[gY]; exact⟨c,[],rfl,⟨hb,by simp⟩,rfl⟩) ⟨m,rfl,fL,bd,bV.refl m,ai5 ad,⟨rfl,by simp⟩,by simp [hlen]; omega⟩
  simp only[post]at this
  refine this
def AE:Out→Out→Prop
 | .ret a,.ret b=>c5 a b
 | .ey a,.ey b=>c5 a b
 | _,_=>False
theorem c5.refl (a:I):c5 a a:=fun _ _ h=>h
theorem jE.mono {P:Program}{f:FuncId}{args:List I}{H:aA}{R oi:Out→aA→Prop}(h:jE P f args H R) (ac: ∀o aC,R o aC→∃fT dt,AE o fT∧HSub dt aC∧oi fT dt):jE P f args H oi:=by
 intro m aq fL bd ad cs
 obtain⟨e,w',az,⟨o,aC,gw,cG,g1,g2,g3,g4⟩,rest⟩:=h m aq fL bd ad cs
 obtain⟨fT,dt,br,bB,cu⟩:=ac o aC g4
 refine⟨e,w',az,⟨fT,dt,gw,cG,bW.forget bB g1,bV.forget bB g2,?_,cu⟩,rest⟩
 cases o<;>cases fT<;>simp only[AE]at br<;>try exact br.elim
 ·simp only[rk]at g3 ⊢
  obtain⟨v,ap,ay⟩:=g3
  exact⟨v,ap,aP.forget bB _ _ (br _ _ ay)⟩
 ·simp only[rk]at g3 ⊢
  obtain⟨v,ap,ay⟩:=g3
  exact⟨v,ap,aP.forget bB _ _ (br _ _ ay)⟩
theorem jE.pure {P:Program}{f:FuncId}{args:List I}{r:I}(h: ∀H,jE P f args H fun o aC=> ∃a,o= .ret a∧c5 a r∧HSub H aC):Pure P f args r:=fun H=>
 (h H).mono fun o aC ⟨a,e,U,aa⟩=>⟨.ret r,H,by subst e; exact U,aa,rfl,rfl⟩
theorem pure_intro {P:Program}{f:FuncId}{fn:Func}{args:List I}{e:bp}{aQ:List bf}{r:I}(hm:P.follows .mixedOrders=true) (aT:P.funcs[f]? =some fn) (an:bL P fn args.length e aQ=true) (h: ∀H,cr P aQ (fun o aC=> ∃a,o= .ret a∧c5 a r∧HSub H aC) [.c e] (lE args) H):Pure P f args r:=
 jE.pure fun H=>Ic hm aT an (h H)
end Go.ba
namespace Go.ba
open Go
variable {P:Program}{aQ:List bf}{R:Out→aA→Prop}
theorem c5.eD (a:I):c5 a .eD:=fun _ _ _=>by simp only[aP]
theorem bn.nG {f args env H l K Rp d}(az:List I) (r:I) (hp:Pure P f az r) (aS:dZ (args.map (aJ.aI env)) az) (h:bn P l (env.put d r) H K Rp):bn P (⟨d,none,.call f args⟩::l) env H K Rp:=
 bn.u2 (.cZ r) rfl (.jj aS hp) fun _ _=>h
theorem bn.EA {d j t op l env H K Rp}{b:Bool}(hb:env.get j= .bool b) (h:b=t→bn P (⟨d,none,op⟩::l) env H K Rp) (hU:b=(!t)→bn P l (env.put d .undef) H K Rp):bn P (⟨d,some (j,t),op⟩::l) env H K Rp:=by
 by_cases e:b=t
 ·have:=h e
  simp only[bn,wanted]at this ⊢
  rw[hb]
  subst e
  simpa using this
 ·refine bn.skip ?_ (hU (by cases b<;>cases t<;>simp_all))
  simp only[wanted,hb]
  cases b<;>cases t<;>simp_all
theorem pN:dZ [] []:=rfl
theorem fm {a b:I}{az ca:List I}(h:c5 a b) (t:dZ az ca):dZ (a::az) (b::ca):=⟨b,ca,rfl,h,t⟩
theorem dZ.refl: ∀(az:List I),dZ az az
 |[]=>rfl
 |a::az=>fm (c5.refl a) (dZ.refl az)
theorem c5.nil {size:Nat}:c5 .bi (.aq size []):=fun m v h=>by
 simp only[aP]at h ⊢
 subst h
 exact⟨none,0,0,rfl,rfl,⟨bc1 _,by unfold maxLen; omega⟩,.inl rfl⟩
theorem AO {az ca:List I}(h:dZ az ca):c5 (.agg az) (.agg ca):=by
 intro m v ad
 simp only[aP]at ad ⊢
 obtain⟨l,e,aG⟩:=ad
 refine⟨l,e,?_⟩
 clear e
 induction az generalizing ca l with
 |nil=>simp only[dZ]at h; subst h; exact aG
 |cons a az b7=>
  simp only[dZ]at h
  obtain⟨b,yp,rfl,U,aa⟩:=h
  simp only[aR]at aG ⊢
  obtain⟨x,xs,rfl,g1,g2⟩:=aG
  exact⟨x,xs,rfl,U _ _ g1,b7 aa _ g2⟩
theorem Un {az ca:List I}(h:dZ az ca):c5 (.c3 az) (.c3 ca):=by
 intro m v ad
 simp only[aP]at ad ⊢
 obtain⟨l,e,aG⟩:=ad
 have:=AO h m (.agg ⟨l⟩) (by simp only[aP]; exact⟨l,rfl,aG⟩)
 simp only[aP]at this
 obtain⟨bZ,ct,hU⟩:=this
 simp at ct
 subst ct
 exact⟨l,e,hU⟩
theorem cr.congr {k e ct H}(h:kp e ct) (aS:cr P aQ R k e H):cr P aQ R k ct H:=cr.x4 (fun j=>by rw[h j]; exact c5.refl _) aS
theorem L6 {env:Env}{j:Nat}{v:I}(h:env.get j=v):kp ((j,v)::env) env:=fun k=>by
 simp only[Env.get]
 by_cases e:j=k
 ·subst e; simp [h]
 ·have:(j==k)=false:=by simpa using e
  rw[this,cond_false]
theorem bn.Ez {d:Option Nat}{j:Nat}{t:Bool}{op:bc}{l:List bK}{env:Env}{H:aA}{k:List Item}{Rp:I→aA→Prop}{b:Bool}(hb:env.get j= .bool b) (h:b=t→bn P (⟨d,none,op⟩::l) ((j,.bool t)::env) H (fun e aC=>cr P aQ R k e aC) Rp) (hU:b=(!t)→bn P l (Env.put ((j,.bool (!t))::env) d .undef) H (fun e aC=>cr P aQ R k e aC) Rp):bn P (⟨d,some (j,t),op⟩::l) env H (fun e aC=>cr P aQ R k e aC) Rp:=by
 refine bn.EA hb (fun e=> ?_) (fun e=> ?_)
 ·subst e
  exact D0 (K:=fun e aC=>cr P aQ R k e aC) (fun _ _ _ he av=>cr.congr he av) _ (L6 hb) (h rfl)
 ·subst e
  exact D0 (K:=fun e aC=>cr P aQ R k e aC) (fun _ _ _ he av=>cr.congr he av) _ (Gc (L6 hb) _ _) (hU rfl)
theorem cr.XG {c:aJ}{a b:bp}{k:List Item}{env:Env}{H:aA}(an:c.aI env= .bool true) (h:cr P aQ R (.c a::k) env H):cr P aQ R (.c (.cond c a b)::k) env H:=cr.cond an (fun _=>h) (fun e=>by cases e)
theorem cr.XF {c:aJ}{a b:bp}{k:List Item}{env:Env}{H:aA}(an:c.aI env= .bool false) (h:cr P aQ R (.c b::k) env H):cr P aQ R (.c (.cond c a b)::k) env H:=cr.cond an (fun e=>by cases e) (fun _=>h)
section
variable {d:Nat}{wS:Option Nat}{j:Nat}{t dv:Bool}{op:bc}{l:List bK}{env:Env}{H:aA}{K:Env→aA→Prop}{Rp:I→aA→Prop}{v:I}
theorem bn.p (ad:bX op env H=some v) (h:bn P l ((d,v)::env) H K Rp):bn P (⟨some d,none,op⟩::l) env H K Rp:=bn.n9 rfl ad h
end
theorem bn.nv {d:Nat}{j:Nat}{op:bc}{l:List bK}{env:Env}{H:aA}{k:List Item}{Rp:I→aA→Prop}{b:Bool}(hb:env.get j= .bool b) (h:b=true→bn P (⟨some d,none,op⟩::l) ((j,.bool true)::env) H (fun e aC=>cr P aQ R k e aC) Rp) (hU:b=false→bn P l ((d,.undef)::(j,.bool false)::env) H (fun e aC=>cr P aQ R k e aC) Rp):bn P (⟨some d,some (j,true),op⟩::l) env H (fun e aC=>cr P aQ R k e aC) Rp:=bn.Ez hb h hU
theorem bn.nu {d:Nat}{j:Nat}{op:bc}{l:List bK}{env:Env}{H:aA}{k:List Item}{Rp:I→aA→Prop}{b:Bool}(hb:env.get j= .bool b) (h:b=false→bn P (⟨some d,none,op⟩::l) ((j,.bool false)::env) H (fun e aC=>cr P aQ R k e aC) Rp) (hU:b=true→bn P l ((d,.undef)::(j,.bool true)::env) H (fun e aC=>cr P aQ R k e aC) Rp):bn P (⟨some d,some (j,false),op⟩::l) env H (fun e aC=>cr P aQ R k e aC) Rp:=bn.Ez hb h hU
theorem Ir {a b:I}(h:a=b):c5 a b:=h▸c5.refl a
section
variable {d:Nat}{wS:Option Nat}{j:Nat}{op:bc}{l:List bK}{env:Env}{H:aA}{K:Env→aA→Prop}{Rp:I→aA→Prop}{v:I}{f:FuncId}{args:List aJ}{az iF:List I}{r:I}
theorem bn.vX (hp:Pure P f az r) (hm:args.map (aJ.aI env)=iF) (aS:dZ iF az) (h:bn P l ((d,r)::env) H K Rp):bn P (⟨some d,none,.call f args⟩::l) env H K Rp:=
 bn.nG az r hp (hm▸aS) h
end
theorem wrap64 {n:Int}(aW: -9223372036854775808≤n) (U:n≤9223372036854775807):IntKind.i64.wrap n=n:=by
 simp only[IntKind.wrap,IntKind.bits,IntKind.signed]
 simp
 omega
variable {P:Program}{aQ:List bf}{R:Out→aA→Prop}
theorem B5 {α:Type}: ∀ {l:List α}{o:Nat}{v:α},l[o]? =some v→l.set o v=l
 |[],_,_,h=>by simp at h
 |x::l,0,v,h=>by simp at h; simp [h]
 |x::l,o+1,v,h=>by simp at h; simp [B5 h]
def mF (H dt:aA) (a a2:I):Prop:=∀m:Mem,m.H=H→bW m→∀v,aP m a v→aP ⟨m.w,dt,m.L,m.T⟩ a2 v
def rc (H dt:aA) (a a2:List I):Prop:=∀m:Mem,m.H=H→bW m→∀v,aR m a v→aR ⟨m.w,dt,m.L,m.T⟩ a2 v
theorem mF.le {H dt:aA}{a b:I}(a6:HSub dt H) (aG:c5 a b):mF H dt a b:=by
 rintro m rfl bd v h
 exact aP.forget (w:=m.w) (L:=m.L) (T:=m.T) a6 b v (aG _ _ h)
theorem rc.nil {H dt:aA}:rc H dt [] []:=fun m _ _ v h=>by simp only[aR]at*; exact h
theorem rc.cons {H dt:aA}{a b:I}{az ca:List I}(h:mF H dt a b) (t:rc H dt az ca):rc H dt (a::az) (b::ca):=fun m e r v ad=>by
 simp only[aR]at*
 obtain⟨x,xs,rfl,U,aa⟩:=ad
 exact⟨x,xs,rfl,h m e r _ U,t m e r _ aa⟩
theorem mF.agg {H dt:aA}{az ca:List I}(h:rc H dt az ca):mF H dt (.agg az) (.agg ca):=fun m e r v ad=>by
 simp only[aP]at*
 obtain⟨l,rfl,U⟩:=ad
 exact⟨l,rfl,h m e r _ U⟩
theorem mF.c3 {H dt:aA}{az ca:List I}(h:rc H dt az ca):mF H dt (.c3 az) (.c3 ca):=fun m e r v ad=>by
 simp only[aP]at*
 obtain⟨l,rfl,U⟩:=ad
 exact⟨l,rfl,h m e r _ U⟩
theorem mF.cV {H dt:aA}{t aU T size:Nat}{rows:List (List I)}(a6:HSub dt H) (aL:H.tok t=some (.bC T size aU rows)) (ms:dt.tok t=none):mF H dt (.cV t aU) (.aq size rows):=by
 rintro m rfl bd v h
 obtain⟨ec,aW,ao,an⟩:=xz bd aL h
 simp only[aP]
 rcases an with ⟨rfl,rfl⟩|⟨g,p,cap,cur,rfl,bo,U,aa,aD,bA,b6⟩
 ·exact⟨none,0,0,rfl,rfl,⟨bc1 _,by unfold maxLen; omega⟩,.inl rfl⟩
 ·obtain⟨br,bB,cu,eO⟩:=bd.tok t _ aL
  obtain⟨ci,cM⟩:=eO g (by rw[ec]; rfl)
  have cz:g<m.w.heap.size:=(Array.getElem?_eq_some_iff.1 bo).1
  refine⟨some ⟨g,p,none⟩,rows.length,cap,rfl,rfl,⟨U,aa⟩,.inr ⟨g,p,rfl,dK.of ao (aR.forget (w:=m.w) (L:=m.L) (T:=m.T) a6 _ _ bA) fun j v bm=>⟨?_,b6 v (bc2 bm),⟨cz,a6.vO ci,fun dv dh gB hi=> ?_⟩⟩⟩⟩
  ·rw[cell_of_row m.w g (p+j) cur T (0,0) bo]
   have:=bm
   rw[be8]at this
   split at this
   ·rw[bj0]at this
    simpa using this
   ·cases this
  ·have:=cM dv dh (a6.tok dv dh gB) hi
   subst this
   rw[ms]at gB
   cases gB
def HT (H dt:aA):Out→Out→Prop
 | .ret a,.ret b=>mF H dt a b
 | .ey a,.ey b=>mF H dt a b
 | _,_=>False
theorem jE.bY {f:FuncId}{args:List I}{H:aA}{R oi:Out→aA→Prop}(h:jE P f args H R) (ac: ∀o aC,R o aC→∃fT dt,HT aC dt o fT∧HSub dt aC∧oi fT dt):jE P f args H oi:=by
 intro m aq fL bd ad cs
 obtain⟨e,w',az,⟨o,aC,gw,cG,g1,g2,g3,g4⟩,rest⟩:=h m aq fL bd ad cs
 obtain⟨fT,dt,br,bB,cu⟩:=ac o aC g4
 refine⟨e,w',az,⟨fT,dt,gw,cG,bW.forget bB g1,bV.forget bB g2,?_,cu⟩,rest⟩
 cases o<;>cases fT<;>simp only[HT]at br<;>try exact br.elim
 ·simp only[rk]at g3 ⊢
  obtain⟨v,ap,ay⟩:=g3
  exact⟨v,ap,br ⟨w',aC,gw,cG⟩ rfl g1 v ay⟩
 ·simp only[rk]at g3 ⊢
  obtain⟨v,ap,ay⟩:=g3
  exact⟨v,ap,br ⟨w',aC,gw,cG⟩ rfl g1 v ay⟩
variable {P:Program}{aQ:List bf}{R:Out→aA→Prop}
section
variable {H:aA}{b bT t dv:Nat}{T:TypeId}{c:List I}{o:bM}
theorem Za (h:(H.cp b T c).aY bT=none):bT≠b∧b≠bT∧H.aY bT=none:=by
 simp only[aA.cp]at h
 by_cases e:bT=b
 ·rw[if_pos e]at h; cases h
 ·rw[if_neg e]at h; exact⟨e,Ne.symm e,h⟩
theorem Y8 {G:Prop}(h:(H.cp b T c).aY bT=none) (k:bT≠b→b≠bT→H.aY bT=none→G):G:=by obtain⟨x,y,z⟩:=Za h; exact k x y z
theorem Y9 {G:Prop}(h:(H.ck t o).aY bT=none) (k:H.aY bT=none→G):G:=k h
theorem as2 {x:TypeId×List I}(h:H.aY b=none) (k:H.aY bT=some x):b≠bT∧bT≠b:=by
 have:b≠bT:=fun e=>by subst e; rw[h]at k; cases k
 exact⟨this,Ne.symm this⟩
theorem as3 {x:bM}(h:H.tok b=none) (k:H.tok bT=some x):b≠bT∧bT≠b:=by
 have:b≠bT:=fun e=>by subst e; rw[h]at k; cases k
 exact⟨this,Ne.symm this⟩
theorem GX:(H.cp b T c).aY b=some (T,c):=by simp [aA.cp]
theorem aK3 (h:bT≠b):(H.cp b T c).aY bT=H.aY bT:=by simp [aA.cp,h]
theorem aL1:(H.ck t o).tok t=some o:=by simp [aA.ck]
theorem aL0 (h:dv≠t):(H.ck t o).tok dv=H.tok dv:=by simp [aA.ck,h]
theorem Ey:(H.cp b T c).aY b=some (T,c):=GX
theorem Zf {x:Option (TypeId×List I)}(h:bT≠b) (k:H.aY bT=x):(H.cp b T c).aY bT=x:=(aK3 h).trans k
theorem Ze {x:Option (TypeId×List I)}(k:H.aY bT=x):(H.ck t o).aY bT=x:=k
theorem aP2:(H.ck t o).tok t=some o:=aL1
theorem aP1 {x:Option bM}(h:dv≠t) (k:H.tok dv=x):(H.ck t o).tok dv=x:=(aL0 h).trans k
theorem aP0 {x:Option bM}(k:H.tok dv=x):(H.cp b T c).tok dv=x:=k
theorem aK4 {cG:TypeId}{cJ:List I}:(H.cp b T c).cp b cG cJ=H.cp b cG cJ:=by
 simp only[aA.cp,aA.mk.injEq,and_true]
 funext x
 by_cases e:x=b<;>simp [e]
end
theorem cr.forget {k:List Item}{env:Env}{H:aA}(dt:aA) (ao:HSub dt H) (h:cr P aQ R k env dt):cr P aQ R k env H:=
 cr.conv (fun bb aC=>bb=env∧aC=dt) (fun m e bd=>by
  subst e
  have ap:bV m ⟨m.w,m.H,m.L,m.T⟩:=bV.refl m
  exact⟨env,dt,m.L,m.T,⟨rfl,rfl⟩,bW.forget ao bd,bV.forget ao ap,fun j v ad=>aP.forget (w:=m.w) (L:=m.L) (T:=m.T) ao _ _ ad⟩) (fun bb aC ⟨ap,ay⟩=>by subst ap; subst ay; exact h)
section
variable {d:Nat}{wS:Option Nat}{l:List bK}{env:Env}{H:aA}{K:Env→aA→Prop}{Rp:I→aA→Prop}{x a v:aJ}{cs new cC:List I}{b o n:Nat}{T:TypeId}{r eo:I}
theorem bn.UR (ab:x.aI env= .agg cs) (aj:cs.all I.one=true) (h: ∀b,H.aY b=none→bn P l ((d,.ptr b 0)::env) (H.cp b T cs) K Rp):bn P (⟨some d,none,.box T x⟩::l) env H K Rp:=
 bn.u2 (.jx T (x.aI env).cells) rfl (.box (by rw[ab]; exact aj)) fun b hb=>by
  have:=h b hb
  simp only[D.val,D.heap,ab,I.cells]
  exact this
theorem bn.AI (aj:cs.all I.one=true) (h: ∀b,H.aY b=none→bn P l ((d,.ptr b 0)::env) (H.cp b T cs) K Rp):bn P (⟨some d,none,.alloc T cs⟩::l) env H K Rp:=
 bn.u2 (.jx T cs) rfl (.alloc aj) fun b hb=>h b hb
theorem take_one {α:Type}{l:List α}{o:Nat}{r:α}(h:l[o]? =some r):(l.drop o).take 1=[r]:=by
 obtain⟨aG,e⟩:=List.getElem?_eq_some_iff.1 h
 rw[List.drop_eq_getElem_cons aG,e]
 rfl
theorem bn.ap2 (ab:x.aI env= .ptr b o) (hb:H.aY b=some (T,cs)) (bo:cs[o]? =some r) (h:bn P l ((d,r)::env) H K Rp):bn P (⟨some d,none,.load false 1 x⟩::l) env H K Rp:=by
 refine bn.p (v:=r) ?_ h
 have aG:=(List.getElem?_eq_some_iff.1 bo).1
 simp only[bX,ab,hb]
 rw[if_pos (by omega)]
 rw[take_one bo]
 rfl
theorem bn.ap3 (ab:x.aI env= .ptr b o) (hb:H.aY b=some (T,cs)) (aG:o+n≤cs.length) (bo:(cs.drop o).take n=new) (h:bn P l ((d,.agg new)::env) H K Rp):bn P (⟨some d,none,.load true n x⟩::l) env H K Rp:=by
 refine bn.p (v:= .agg new) ?_ h
 simp only[bX,ab,hb]
 rw[if_pos aG,bo]
 rfl
theorem bn.ap5 (ab:x.aI env= .ed cs o) (bo:cs[o]? =some r) (h:bn P l ((d,r)::env) H K Rp):bn P (⟨some d,none,.load false 1 x⟩::l) env H K Rp:=by
 refine bn.p (v:=r) ?_ h
 have aG:=(List.getElem?_eq_some_iff.1 bo).1
 simp only[bX,ab]
 rw[if_pos (by omega)]
 rw[take_one bo]
 rfl
theorem bn.ap6 (ab:x.aI env= .ed cs o) (aG:o+n≤cs.length) (bo:(cs.drop o).take n=new) (h:bn P l ((d,.agg new)::env) H K Rp):bn P (⟨some d,none,.load true n x⟩::l) env H K Rp:=by
 refine bn.p (v:= .agg new) ?_ h
 simp only[bX,ab]
 rw[if_pos aG,bo]
 rfl
inductive rf (H:aA):I→List I→Nat→Prop
 |p {b o:Nat}{T:TypeId}{cs:List I}(h:H.aY b=some (T,cs)):rf H (.ptr b o) cs o
 |r {cs:List I}{o:Nat}:rf H (.ed cs o) cs o
theorem bn.ap7 (ab:x.aI env=eo) (hb:rf H eo cs o) (bo:cs[o]? =some r) (h:bn P l ((d,r)::env) H K Rp):bn P (⟨some d,none,.load false 1 x⟩::l) env H K Rp:=by
 cases hb with
 |p hb=>exact bn.ap2 ab hb bo h
 |r=>exact bn.ap5 ab bo h
theorem bn.ap8 (ab:x.aI env=eo) (hb:rf H eo cs o) (aG:o+n≤cs.length) (bo:(cs.drop o).take n=new) (h:bn P l ((d,.agg new)::env) H K Rp):bn P (⟨some d,none,.load true n x⟩::l) env H K Rp:=by
 cases hb with
 |p hb=>exact bn.ap3 ab hb aG bo h
 |r=>exact bn.ap6 ab aG bo h
theorem bn.aN2 (aS:a.aI env= .ptr b o) (hb:H.aY b=some (T,cs)) (ad:(v.aI env).cells=new) (a1:new.length=n) (aG:o+n≤cs.length) (aj:new.all I.one=true) (ao:gg cs o new=cC){aC:aA}(fL:H.cp b T cC=aC) (h:bn P l env aC K Rp):bn P (⟨none,none,.store n a v⟩::l) env H K Rp:=by
 simp only[bn,wanted]
 subst fL
 exact hT.store aS hb (by rw[ad]; exact a1) aG (by rw[ad]; exact aj) (by rw[ad,ao]; exact h)
theorem bn.aj2 {size len:Nat}{i:aJ}{k:IntKind}{z:Int}(ab:x.aI env= .ptr b o) (af:i.aI env= .int k z) (aW:0≤z) (U:z<(len:Int)) (hp:o+z.toNat*size=n) (h:bn P l ((d,.ptr b n)::env) H K Rp):bn P (⟨some d,none,.mS len size x i⟩::l) env H K Rp:=
 bn.u2 (.cZ (.ptr b (o+z.toNat*size))) rfl (.nA ab af aW U) fun _ _=>hp▸h
theorem bn.UP {size:Nat}{zero:List I}{parts:List (Nat×aJ)}{rows:List (List I)}(ac:j7 env parts=rows) (ao:rows.all (fun r=>r.length==size)=true) (aj:rows.flatten.all I.one=true) (h:bn P l ((d,.aq size rows)::env) H K Rp):bn P (⟨some d,none,.et T size n zero parts⟩::l) env H K Rp:=
 bn.u2 (.cZ _) rfl (.oo ac ao aj) fun _ _=>h
section
variable {t aU size k:Nat}{rows:List (List I)}{row:List I}{qk:TypeId}
theorem bn.B6 (ab:x.aI env= .cV t aU) (aL:H.tok t=some (.bC qk size aU rows)) (h:bn P l ((d,.int .i64 rows.length)::env) H K Rp):bn P (⟨some d,none,.iU x⟩::l) env H K Rp:=
 bn.u2 (.cZ _) rfl (.iU ab aL) fun _ _=>h
theorem bn.YV {off:Nat}(ab:x.aI env= .mp t aU k) (aL:H.tok t=some (.bC qk size aU rows)) (h:bn P l ((d,.mp t aU (k+off))::env) H K Rp):bn P (⟨some d,none,.js off x⟩::l) env H K Rp:=
 bn.u2 (.cZ _) rfl (.js ab aL) fun _ _=>h
end
theorem aG7 {cI gT:Nat}(ab:env.get cI= .ptr b 0) (hb:H.aY b=some (T,cs)) (aG:gT=cs.length):ba.results [.cell true gT cI] env H=some (.agg cs):=by
 subst aG
 simp [ba.results,bf.aI,bX,aJ.aI,ab,hb,I.iA]
theorem aG8 {cI gT aX:Nat}(ab:env.get cI= .ptr b 0) (hb:H.aY b=some (T,cs)) (aG:gT=cs.length) (hm:env.get aX=r):ba.results [.cell true gT cI,.t aX] env H=some (.c3 [.agg cs,r]):=by
 subst aG
 subst hm
 simp [ba.results,bf.aI,bX,aJ.aI,ab,hb,I.iA]
theorem aH2 {cI aX:Nat}{q:I}(ab:env.get cI=q) (hm:env.get aX=r):ba.results [.t cI,.t aX] env H=some (.c3 [q,r]):=by
 subst hm
 subst ab
 simp [ba.results,bf.aI]
theorem aH3 {cI aX cJ:Nat}{q lL:I}(ab:env.get cI=q) (hm:env.get aX=r) (an:env.get cJ=lL):ba.results [.t cI,.t aX,.t cJ] env H=some (.c3 [q,r,lL]):=by
 subst hm
 subst ab
 subst an
 simp [ba.results,bf.aI]
theorem aH1 {cI:Nat}(ab:env.get cI=r):ba.results [.t cI] env H=some r:=by
 subst ab
 simp [ba.results,bf.aI]
theorem aG9:ba.results [] env H=some (.c3 []):=by simp [ba.results]
theorem cr.aH4 {aQ:List bf}{k:List Item}{H0:aA}{q eo:I}(ad:ba.results aQ env H=some q) (h:c5 q eo) (ao:HSub H0 H):cr P aQ (fun o aC=> ∃a,o= .ret a∧c5 a eo∧HSub H0 aC) (.c .ret::k) env H:=
 cr.ret ad ⟨_,rfl,h,ao⟩
theorem cr.Yn {aQ:List bf}{H0:aA}{q eo:I}(ad:ba.results aQ env H=some q) (h:c5 q eo) (ao:HSub H0 H):cr P aQ (fun o aC=> ∃a,o= .ret a∧c5 a eo∧HSub H0 aC) [] env H:=
 cr.done ad ⟨_,rfl,h,ao⟩
def AH (S:I→aA→Prop) (o:Out) (H:aA):Prop:=∃r,o= .ret r∧S r H
theorem cr.aH5 {aQ:List bf}{k:List Item}{S:I→aA→Prop}{q:I}(ad:ba.results aQ env H=some q) (h:S q H):cr P aQ (AH S) (.c .ret::k) env H:=
 cr.ret ad ⟨_,rfl,h⟩
theorem cr.Yo {aQ:List bf}{S:I→aA→Prop}{q:I}(ad:ba.results aQ env H=some q) (h:S q H):cr P aQ (AH S) [] env H:=
 cr.done ad ⟨_,rfl,h⟩
end
theorem Dj: ∀(l:List bK),eT l []=l
 |[]=>rfl
 |⟨d,g,op⟩::l=>by cases op<;>simp only[eT,Dj l]
inductive fh:Prop→Prop→Prop
 |aM8 {P:Program}{aQ:List bf}{R:Out→aA→Prop}{k:List Item}{env:Env}{H:aA}{a b:bp}:fh (cr P aQ R (.c a:: .c b::k) env H) (cr P aQ R (.c (.seq a b)::k) env H)
 |ks {P:Program}{aQ:List bf}{R:Out→aA→Prop}{k:List Item}{env:Env}{H:aA}{id:Nat}{body:bp}:fh (cr P aQ R (.c body:: .aY id::k) env H) (cr P aQ R (.c (.block id body)::k) env H)
 |fB {P:Program}{aQ:List bf}{R:Out→aA→Prop}{k:List Item}{env:Env}{H:aA}:fh (cr P aQ R k env H) (cr P aQ R (.c .skip::k) env H)
 |UA {P:Program}{aQ:List bf}{R:Out→aA→Prop}{k:List Item}{env:Env}{H:aA}{id:Nat}:fh (cr P aQ R k env H) (cr P aQ R (.aY id::k) env H)
 |ex {P:Program}{aQ:List bf}{R:Out→aA→Prop}{k:List Item}{ff:List Item}{env:Env}{H:aA}{id:Nat}(av:pt id k=some ff):fh (cr P aQ R ff env H) (cr P aQ R (.c (.exit id)::k) env H)
 |rg {P:Program}{aQ:List bf}{R:Out→aA→Prop}{k:List Item}{env:Env}{H:aA}{l:List bK}:fh (bn P l env H (fun bb aC=>cr P aQ R k bb aC) (fun v aC=>R (.ey v) aC)) (cr P aQ R (.c (.region l false)::k) env H)
 |xA {P:Program}{aQ:List bf}{R:Out→aA→Prop}{k:List Item}{env:Env}{H:aA}{Rp:I→aA→Prop}:fh (cr P aQ R k env H) (bn P [] env H (fun bb aC=>cr P aQ R k bb aC) Rp)
 |aK {P:Program}{env:Env}{H:aA}{K:Env→aA→Prop}{Rp:I→aA→Prop}{l:List bK}{d:Nat}{x:aJ}{cs:List I}{o:Nat}{r:I}{eo:I}(ab:x.aI env=eo) (hb:rf H eo cs o) (bo:cs[o]? =some r):fh (bn P l ((d,r)::env) H K Rp) (bn P (⟨some d,none,.load false 1 x⟩::l) env H K Rp)
 |ao4 {P:Program}{env:Env}{H:aA}{K:Env→aA→Prop}{Rp:I→aA→Prop}{l:List bK}{d:Nat}{x:aJ}{cs:List I}{new:List I}{o:Nat}{n:Nat}{eo:I}(ab:x.aI env=eo) (hb:rf H eo cs o) (aG:o+n≤cs.length) (bo:(cs.drop o).take n=new):fh (bn P l ((d,.agg new)::env) H K Rp) (bn P (⟨some d,none,.load true n x⟩::l) env H K Rp)
 |Us {P:Program}{env:Env}{H:aA}{K:Env→aA→Prop}{Rp:I→aA→Prop}{l:List bK}{d:Nat}{x:aJ}{cs:List I}{T:TypeId}(ab:x.aI env= .agg cs) (aj:cs.all I.one=true):fh (∀b,H.aY b=none→bn P l ((d,.ptr b 0)::env) (H.cp b T cs) K Rp) (bn P (⟨some d,none,.box T x⟩::l) env H K Rp)
 |AI {P:Program}{env:Env}{H:aA}{K:Env→aA→Prop}{Rp:I→aA→Prop}{l:List bK}{d:Nat}{cs:List I}{T:TypeId}(aj:cs.all I.one=true):fh (∀b,H.aY b=none→bn P l ((d,.ptr b 0)::env) (H.cp b T cs) K Rp) (bn P (⟨some d,none,.alloc T cs⟩::l) env H K Rp)
 |SG {P:Program}{env:Env}{H:aA}{aC:aA}{K:Env→aA→Prop}{Rp:I→aA→Prop}{l:List bK}{a:aJ}{v:aJ}{cs:List I}{new:List I}{cC:List I}{b:Nat}{o:Nat}{n:Nat}{T:TypeId}(aS:a.aI env= .ptr b o) (hb:H.aY b=some (T,cs)) (ad:(v.aI env).cells=new) (a1:new.length=n) (aG:o+n≤cs.length) (aj:new.all I.one=true) (ao:gg cs o new=cC) (fL:H.cp b T cC=aC):fh (bn P l env aC K Rp) (bn P (⟨none,none,.store n a v⟩::l) env H K Rp)
 |ah9 {P:Program}{env:Env}{H:aA}{K:Env→aA→Prop}{Rp:I→aA→Prop}{l:List bK}{d:Nat}{x:aJ}{i:aJ}{b:Nat}{o:Nat}{n:Nat}{size len:Nat}{lG:IntKind}{z:Int}(ab:x.aI env= .ptr b o) (af:i.aI env= .int lG z) (aW:0≤z) (U:z<(len:Int)) (hp:o+z.toNat*size=n):fh (bn P l ((d,.ptr b n)::env) H K Rp) (bn P (⟨some d,none,.mS len size x i⟩::l) env H K Rp)
 |ao5 {P:Program}{env:Env}{H:aA}{K:Env→aA→Prop}{Rp:I→aA→Prop}{l:List bK}{d:Nat}{x:aJ}{t aU size:Nat}{rows:List (List I)}{qk:TypeId}(ab:x.aI env= .cV t aU) (aL:H.tok t=some (.bC qk size aU rows)):fh (bn P l ((d,.int .i64 rows.length)::env) H K Rp) (bn P (⟨some d,none,.iU x⟩::l) env H K Rp)
 |YS {P:Program}{env:Env}{H:aA}{K:Env→aA→Prop}{Rp:I→aA→Prop}{l:List bK}{d:Nat}{x:aJ}{t aU size lG off:Nat}{rows:List (List I)}{qk:TypeId}(ab:x.aI env= .mp t aU lG) (aL:H.tok t=some (.bC qk size aU rows)):fh (bn P l ((d,.mp t aU (lG+off))::env) H K Rp) (bn P (⟨some d,none,.js off x⟩::l) env H K Rp)
 |ca {P:Program}{env:Env}{H:aA}{K:Env→aA→Prop}{Rp:I→aA→Prop}{l:List bK}{d:Nat}{n:Nat}{T:TypeId}{size:Nat}{zero:List I}{parts:List (Nat×aJ)}{rows:List (List I)}(ac:j7 env parts=rows) (ao:rows.all (fun r=>r.length==size)=true) (aj:rows.flatten.all I.one=true):fh (bn P l ((d,.aq size rows)::env) H K Rp) (bn P (⟨some d,none,.et T size n zero parts⟩::l) env H K Rp)
 |n9 {P:Program}{env:Env}{H:aA}{K:Env→aA→Prop}{Rp:I→aA→Prop}{l:List bK}{d:Nat}{r:I}{op:bc}(ad:bX op env H=some r):fh (bn P l ((d,r)::env) H K Rp) (bn P (⟨some d,none,op⟩::l) env H K Rp)
theorem fh.go {N G:Prop}(h:fh N G) (a1:N):G:=by
 cases h with
 |aM8=>exact cr.seq a1
 |ks=>exact cr.block a1
 |fB=>exact cr.skip a1
 |UA=>exact cr.iy a1
 |ex av=>exact cr.exit av a1
 |rg=>exact cr.gC [] (by rw[Dj]; exact a1)
 |xA=>exact bn.nil a1
 |aK ab hb bo=>exact bn.ap7 ab hb bo a1
 |ao4 ab hb aG bo=>exact bn.ap8 ab hb aG bo a1
 |Us ab aj=>exact bn.UR ab aj a1
 |AI aj=>exact bn.AI aj a1
 |SG aS hb ad rO aG aj ao fL=>exact bn.aN2 aS hb ad rO aG aj ao fL a1
 |ah9 ab af aW U hp=>exact bn.aj2 ab af aW U hp a1
 |ao5 ab aL=>exact bn.B6 ab aL a1
 |YS ab aL=>exact bn.YV ab aL a1
 |ca ac ao aj=>exact bn.UP ac ao aj a1
 |n9 ad=>exact bn.p ad a1
inductive mI:Prop→Prop→Prop
 |a {P:Program}{aQ:List bf}{k:List Item}{env:Env}{H:aA}{eo:I}{q:I}{H0:aA}(ad:ba.results aQ env H=some q) (ao:HSub H0 H):mI (c5 q eo) (cr P aQ (fun o aC=> ∃a,o= .ret a∧c5 a eo∧HSub H0 aC) (.c .ret::k) env H)
 |b {P:Program}{aQ:List bf}{env:Env}{H:aA}{eo:I}{q:I}{H0:aA}(ad:ba.results aQ env H=some q) (ao:HSub H0 H):mI (c5 q eo) (cr P aQ (fun o aC=> ∃a,o= .ret a∧c5 a eo∧HSub H0 aC) [] env H)
 |s {P:Program}{aQ:List bf}{k:List Item}{env:Env}{H:aA}{q:I}{S:I→aA→Prop}(ad:ba.results aQ env H=some q):mI (S q H) (cr P aQ (AH S) (.c .ret::k) env H)
 |t {P:Program}{aQ:List bf}{env:Env}{H:aA}{q:I}{S:I→aA→Prop}(ad:ba.results aQ env H=some q):mI (S q H) (cr P aQ (AH S) [] env H)
theorem mI.go {N G:Prop}(h:mI N G) (a1:N):G:=by
 cases h with
 |a ad ao=>exact cr.aH4 ad a1 ao
 |b ad ao=>exact cr.Yn ad a1 ao
 |s ad=>exact cr.aH5 ad a1
 |t ad=>exact cr.Yo ad a1
inductive kq:Prop→Prop
 |Ut {H:aA}{b:Nat}{T:TypeId}{c:List I}:kq ((H.cp b T c).aY b=some (T,c))
 |ar6 {H:aA}{b:Nat}{bT:Nat}{T:TypeId}{c:List I}{y:Option (TypeId×List I)}(h:bT≠b) (k:H.aY bT=y):kq ((H.cp b T c).aY bT=y)
 |aO8 {H:aA}{bT:Nat}{t:Nat}{o:bM}{y:Option (TypeId×List I)}(k:H.aY bT=y):kq ((H.ck t o).aY bT=y)
 |Iu {H:aA}{t:Nat}{o:bM}:kq ((H.ck t o).tok t=some o)
 |ar7 {H:aA}{t dv:Nat}{o:bM}{y:Option bM}(h:dv≠t) (k:H.tok dv=y):kq ((H.ck t o).tok dv=y)
 |aO9 {H:aA}{b:Nat}{T:TypeId}{t:Nat}{c:List I}{y:Option bM}(k:H.tok t=y):kq ((H.cp b T c).tok t=y)
 |rd {H:aA}{cs:List I}{o:Nat}:kq (rf H (.ed cs o) cs o)
 |ed {H:aA}{cs:List I}{b:Nat}{o:Nat}{T:TypeId}(h:H.aY b=some (T,cs)):kq (rf H (.ptr b o) cs o)
 |ac {H:aA}:kq (HSub H H)
 |dD {H:aA}{aC:aA}{b:Nat}{T:TypeId}{c:List I}(h:HSub H aC) (hb:H.aY b=none):kq (HSub H (aC.cp b T c))
 |c4 {H:aA}{aC:aA}{t:Nat}{o:bM}(h:HSub H aC) (hb:H.tok t=none):kq (HSub H (aC.ck t o))
 |kh {env:Env}{H:aA}:kq (ba.results [] env H=some (.c3 []))
 |ci {env:Env}{H:aA}{r:I}{cI:Nat}(ab:env.get cI=r):kq (ba.results [.t cI] env H=some r)
 |cM {env:Env}{H:aA}{cs:List I}{b:Nat}{T:TypeId}{cI gT:Nat}(ab:env.get cI= .ptr b 0) (hb:H.aY b=some (T,cs)) (aG:gT=cs.length):kq (ba.results [.cell true gT cI] env H=some (.agg cs))
 |dE {env:Env}{H:aA}{cs:List I}{b:Nat}{T:TypeId}{r:I}{cI gT aX:Nat}(ab:env.get cI= .ptr b 0) (hb:H.aY b=some (T,cs)) (aG:gT=cs.length) (hm:env.get aX=r):kq (ba.results [.cell true gT cI,.t aX] env H=some (.c3 [.agg cs,r]))
 |gU {env:Env}{H:aA}{r:I}{q:I}{cI aX:Nat}(ab:env.get cI=q) (hm:env.get aX=r):kq (ba.results [.t cI,.t aX] env H=some (.c3 [q,r]))
 |mz {env:Env}{H:aA}{r:I}{eo:I}{q:I}{cI aX cJ:Nat}(ab:env.get cI=q) (hm:env.get aX=r) (an:env.get cJ=eo):kq (ba.results [.t cI,.t aX,.t cJ] env H=some (.c3 [q,r,eo]))
theorem kq.go {G:Prop}(h:kq G):G:=by
 cases h with
 |Ut=>exact Ey
 |ar6 h k=>exact Zf h k
 |aO8 k=>exact Ze k
 |Iu=>exact aP2
 |ar7 h k=>exact aP1 h k
 |aO9 k=>exact aP0 k
 |rd=>exact rf.r
 |ed h=>exact rf.p h
 |ac=>exact HSub.refl _
 |dD h hb=>exact HSub.cp h hb
 |c4 h hb=>exact HSub.ck h hb
 |kh=>exact aG9
 |ci ab=>exact aH1 ab
 |cM ab hb aG=>exact aG7 ab hb aG
 |dE ab hb aG hm=>exact aG8 ab hb aG hm
 |gU ab hm=>exact aH2 ab hm
 |mz ab hm an=>exact aH3 ab hm an
theorem rt {P:Program}{aQ:List bf}{R:Out→aA→Prop}{k:List Item}{env:Env}{H:aA}{l:List bK}(h:bn P l env H (fun bb aC=>cr P aQ R k bb aC) (fun v aC=>R (.ey v) aC)):cr P aQ R (.c (.region l true)::k) env H:=cr.gC [] (by rw[Dj]; exact h)
theorem l3 {H:aA}{b:Nat}{T:TypeId}{cG:TypeId}{c cJ:List I}:(H.cp b T c).cp b cG cJ=H.cp b cG cJ:=aK4
theorem nt {H:aA}{b:Nat}{bT:Nat}{T:TypeId}{G:Prop}{c:List I}(h:(H.cp b T c).aY bT=none) (k:bT≠b→b≠bT→H.aY bT=none→G):G:=Y8 h k
theorem ns {H:aA}{bT:Nat}{G:Prop}{t:Nat}{o:bM}(h:(H.ck t o).aY bT=none) (k:H.aY bT=none→G):G:=Y9 h k
theorem bP {H:aA}{b:Nat}{bT:Nat}{y:TypeId×List I}(h:H.aY b=none) (k:H.aY bT=some y):bT≠b:=(as2 h k).2
theorem bh {H:aA}{t dv:Nat}{y:bM}(h:H.tok t=none) (k:H.tok dv=some y):dv≠t:=(as3 h k).2
theorem mN {P:Program}{env:Env}{H:aA}{K:Env→aA→Prop}{Rp:I→aA→Prop}{l:List bK}{wS:Option Nat}{g:Nat×Bool}{op:bc}(hw:wanted ⟨wS,some g,op⟩ env=some true) (h:bn P (⟨wS,none,op⟩::l) env H K Rp):bn P (⟨wS,some g,op⟩::l) env H K Rp:=by
 simp only[bn]at h ⊢
 rw[hw]
 exact h
theorem jf {P:Program}{env:Env}{H:aA}{K:Env→aA→Prop}{Rp:I→aA→Prop}{l:List bK}{d:Nat}{g:Nat×Bool}{op:bc}(hw:wanted ⟨some d,some g,op⟩ env=some false) (h:bn P l ((d,.undef)::env) H K Rp):bn P (⟨some d,some g,op⟩::l) env H K Rp:=bn.skip hw h
theorem mg {P:Program}{aQ:List bf}{R:Out→aA→Prop}{k:List Item}{env:Env}{H:aA}{c:aJ}{a b:bp}(an:c.aI env= .bool true) (h:cr P aQ R (.c a::k) env H):cr P aQ R (.c (.cond c a b)::k) env H:=cr.XG an h
theorem mf {P:Program}{aQ:List bf}{R:Out→aA→Prop}{k:List Item}{env:Env}{H:aA}{c:aJ}{a b:bp}(an:c.aI env= .bool false) (h:cr P aQ R (.c b::k) env H):cr P aQ R (.c (.cond c a b)::k) env H:=cr.XF an h
end Go.ba
namespace Go.ba
theorem fh.g {N G:Prop}(a1:N) (h:fh N G:=by constructor<;>first|exact l3|(change _= _; first|(simp only[go_sem,bl3,bl4,Nat.reduceLeDiff,reduceIte]<;>rfl)|rfl)|exact bh6 rfl|decide|((repeat' first|(apply kq.go; constructor)|assumption|exact bP ‹_› ‹_› |exact bh ‹_› ‹_›); done)):G:=fh.go h a1
theorem mI.g {N G:Prop}(a1:N) (h:mI N G:=by constructor<;>first|(apply kq.go; constructor<;>first|exact l3|(change _= _; first|(simp only[go_sem,bl3,bl4,Nat.reduceLeDiff,reduceIte]<;>rfl)|rfl)|exact bh6 rfl|decide|((repeat' first|(apply kq.go; constructor)|assumption|exact bP ‹_› ‹_› |exact bh ‹_› ‹_›); done))|assumption):G:=mI.go h a1
end Go.ba
namespace Go.ba
open Go
structure bx where
 b:List Nat
 t:List Nat
structure bx.eH (s bR:bx):Prop where
 b: ∀(i x:Nat),s.b[i]? =some x→bR.b[i]? =some x
 t: ∀(i x:Nat),s.t[i]? =some x→bR.t[i]? =some x
theorem bx.eH.refl (s:bx):bx.eH s s:=⟨fun _ _ h=>h,fun _ _ h=>h⟩
theorem bx.eH.trans {a b c:bx}(h:bx.eH a b) (k:bx.eH b c):bx.eH a c:=⟨fun i x e=>k.b i x (h.b i x e),fun i x e=>k.t i x (h.t i x e)⟩
mutual
def aM (s:bx):I→I→Prop
 | .eD,_=>True
 | .ptr b o,a=> ∃x,s.b[b]? =some x∧a= .ptr x o
 | .agg cs,a=> ∃l,a= .agg l∧bk s cs l
 | .c3 cs,a=> ∃l,a= .c3 l∧bk s cs l
 | .aq n rows,a=> ∃l,a= .aq n l∧cd s rows l
 | .own t n rows,a=> ∃x l,s.t[t]? =some x∧a= .own x n l∧cd s rows l
 | .cV t aU,a=> ∃x,s.t[t]? =some x∧a= .cV x aU
 | .mp t aU k,a=> ∃x,s.t[t]? =some x∧a= .mp x aU k
 | .ed row off,a=> ∃l,a= .ed l off∧bk s row l
 | .fn f cap,a=> ∃l,a= .fn f l∧bk s cap l
 | .hW t v,a=> ∃x,a= .hW t x∧aM s v x
 | .bool b,a=>a= .bool b
 | .int k n,a=>a= .int k n
 | .str x,a=>a= .str x
 | .dV v,a=>a= .dV v
def bk (s:bx):List I→List I→Prop
 |[],l=>l=[]
 |a::az,l=> ∃v aq,l=v::aq∧aM s a v∧bk s az aq
def cd (s:bx):List (List I)→List (List I)→Prop
 |[],l=>l=[]
 |r::aQ,l=> ∃v aq,l=v::aq∧bk s r v∧cd s aQ aq
end
mutual
theorem aM.mono {s bR:bx}(e:bx.eH s bR): ∀(a v:I),aM s a v→aM bR a v
 | .eD,_,_=>by simp only[aM]
 | .ptr b o,_,h=>by simp only[aM]at*; obtain⟨x,U,aa⟩:=h; exact⟨x,e.b _ _ U,aa⟩
 | .agg cs,_,h=>by simp only[aM]at*; obtain⟨l,U,aa⟩:=h; exact⟨l,U,bk.mono e cs l aa⟩
 | .c3 cs,_,h=>by simp only[aM]at*; obtain⟨l,U,aa⟩:=h; exact⟨l,U,bk.mono e cs l aa⟩
 | .aq n rows,_,h=>by simp only[aM]at*; obtain⟨l,U,aa⟩:=h; exact⟨l,U,cd.mono e rows l aa⟩
 | .own t n rows,_,h=>by simp only[aM]at*; obtain⟨x,l,U,aa,aD⟩:=h; exact⟨x,l,e.t _ _ U,aa,cd.mono e rows l aD⟩
 | .cV t aU,_,h=>by simp only[aM]at*; obtain⟨x,U,aa⟩:=h; exact⟨x,e.t _ _ U,aa⟩
 | .mp t aU k,_,h=>by simp only[aM]at*; obtain⟨x,U,aa⟩:=h; exact⟨x,e.t _ _ U,aa⟩
 | .ed row off,_,h=>by simp only[aM]at*; obtain⟨l,U,aa⟩:=h; exact⟨l,U,bk.mono e row l aa⟩
 | .fn f cap,_,h=>by simp only[aM]at*; obtain⟨l,U,aa⟩:=h; exact⟨l,U,bk.mono e cap l aa⟩
 | .hW t v,_,h=>by simp only[aM]at*; obtain⟨x,U,aa⟩:=h; exact⟨x,U,aM.mono e v x aa⟩
 | .bool _,_,h=>by simp only[aM]at*; exact h
 | .int _ _,_,h=>by simp only[aM]at*; exact h
 | .str _,_,h=>by simp only[aM]at*; exact h
 | .dV _,_,h=>by simp only[aM]at*; exact h
theorem bk.mono {s bR:bx}(e:bx.eH s bR): ∀(az l:List I),bk s az l→bk bR az l
 |[],_,h=>by simp only[bk]at*; exact h
 |a::az,_,h=>by simp only[bk]at*; obtain⟨v,aq,U,aa,aD⟩:=h; exact⟨v,aq,U,aM.mono e a v aa,bk.mono e az aq aD⟩
theorem cd.mono {s bR:bx}(e:bx.eH s bR): ∀(az l:List (List I)),cd s az l→cd bR az l
 |[],_,h=>by simp only[cd]at*; exact h
 |r::aQ,_,h=>by simp only[cd]at*; obtain⟨v,aq,U,aa,aD⟩:=h; exact⟨v,aq,U,bk.mono e r v aa,cd.mono e aQ aq aD⟩
end
section
variable {s:bx}
theorem bk.length: ∀ {az l:List I},bk s az l→l.length=az.length
 |[],_,h=>by simp only[bk]at h; subst h; rfl
 |a::az,_,h=>by simp only[bk]at h; obtain⟨v,aq,rfl,_,aa⟩:=h; simp [bk.length aa]
theorem bk.get: ∀ {az l:List I}(_:bk s az l) (i:Nat) (a:I),az[i]? =some a→∃v,l[i]? =some v∧aM s a v
 |[],_,_,_,_,h=>by simp at h
 |a::az,_,h,0,x,ab=>by simp only[bk]at h; obtain⟨v,aq,rfl,U,aa⟩:=h; simp at ab; subst ab; exact⟨v,rfl,U⟩
 |a::az,_,h,i+1,x,ab=>by simp only[bk]at h; obtain⟨v,aq,rfl,U,aa⟩:=h; simp at ab; obtain⟨bD,ap,ay⟩:=bk.get aa i x ab; exact⟨bD,by simpa using ap,ay⟩
theorem bk.append: ∀ {az l ca bZ:List I}(_:bk s az l) (_:bk s ca bZ),bk s (az++ca) (l++bZ)
 |[],_,_,_,h,k=>by simp only[bk]at h; subst h; simpa using k
 |a::az,_,_,_,h,k=>by simp only[bk]at h; obtain⟨v,aq,rfl,U,aa⟩:=h; simp only[bd2,bk]; exact⟨v,_,rfl,U,bk.append aa k⟩
theorem bk.drop: ∀(n:Nat){az l:List I}(_:bk s az l),bk s (az.drop n) (l.drop n)
 |0,_,_,h=>by simpa using h
 |n+1,[],_,h=>by simp only[bk]at h; subst h; simp [bk]
 |n+1,a::az,_,h=>by simp only[bk]at h; obtain⟨v,aq,rfl,U,aa⟩:=h; simpa using bk.drop n aa
theorem bk.take: ∀(n:Nat){az l:List I}(_:bk s az l),bk s (az.take n) (l.take n)
 |0,_,_,_=>by simp [bk]
 |n+1,[],_,h=>by simp only[bk]at h; subst h; simp [bk]
 |n+1,a::az,_,h=>by simp only[bk]at h; obtain⟨v,aq,rfl,U,aa⟩:=h; simp only[bg0,bk]; exact⟨v,_,rfl,U,bk.take n aa⟩
theorem bk.gg {az l new Cc:List I}(h:bk s az l) (k:bk s new Cc) (o:Nat):bk s (gg az o new) (gg l o Cc):=by
 unfold ba.gg
 rw[bk.length k]
 exact ((h.take o).append k).append (h.drop _)
theorem cd.length: ∀ {az l:List (List I)},cd s az l→l.length=az.length
 |[],_,h=>by simp only[cd]at h; subst h; rfl
 |a::az,_,h=>by simp only[cd]at h; obtain⟨v,aq,rfl,_,aa⟩:=h; simp [cd.length aa]
theorem cd.get: ∀ {az l:List (List I)}(_:cd s az l) (i:Nat) (a:List I),az[i]? =some a→∃v,l[i]? =some v∧bk s a v
 |[],_,_,_,_,h=>by simp at h
 |a::az,_,h,0,x,ab=>by simp only[cd]at h; obtain⟨v,aq,rfl,U,aa⟩:=h; simp at ab; subst ab; exact⟨v,rfl,U⟩
 |a::az,_,h,i+1,x,ab=>by simp only[cd]at h; obtain⟨v,aq,rfl,U,aa⟩:=h; simp at ab; obtain⟨bD,ap,ay⟩:=cd.get aa i x ab; exact⟨bD,by simpa using ap,ay⟩
theorem cd.append: ∀ {az l ca bZ:List (List I)}(_:cd s az l) (_:cd s ca bZ),cd s (az++ca) (l++bZ)
 |[],_,_,_,h,k=>by simp only[cd]at h; subst h; simpa using k
 |a::az,_,_,_,h,k=>by simp only[cd]at h; obtain⟨v,aq,rfl,U,aa⟩:=h; simp only[bd2,cd]; exact⟨v,_,rfl,U,cd.append aa k⟩
theorem cd.drop: ∀(n:Nat){az l:List (List I)}(_:cd s az l),cd s (az.drop n) (l.drop n)
 |0,_,_,h=>by simpa using h
 |n+1,[],_,h=>by simp only[cd]at h; subst h; simp [cd]
 |n+1,a::az,_,h=>by simp only[cd]at h; obtain⟨v,aq,rfl,U,aa⟩:=h; simpa using cd.drop n aa
theorem cd.take: ∀(n:Nat){az l:List (List I)}(_:cd s az l),cd s (az.take n) (l.take n)
 |0,_,_,_=>by simp [cd]
 |n+1,[],_,h=>by simp only[cd]at h; subst h; simp [cd]
 |n+1,a::az,_,h=>by simp only[cd]at h; obtain⟨v,aq,rfl,U,aa⟩:=h; simp only[bg0,cd]; exact⟨v,_,rfl,U,cd.take n aa⟩
theorem cd.flatten: ∀ {az l:List (List I)}(_:cd s az l),bk s az.flatten l.flatten
 |[],_,h=>by simp only[cd]at h; subst h; simp [bk]
 |a::az,_,h=>by simp only[cd]at h; obtain⟨v,aq,rfl,U,aa⟩:=h; simpa using U.append (cd.flatten aa)
theorem cd.G1 {n:Nat}: ∀ {az l:List (List I)}(_:cd s az l),az.all (fun r=>r.length==n)=true→l.all (fun r=>r.length==n)=true
 |[],_,h,_=>by simp only[cd]at h; subst h; rfl
 |a::az,_,h,k=>by
  simp only[cd]at h
  obtain⟨v,aq,rfl,U,aa⟩:=h
  simp only[bd3,bb6]at k ⊢
  rw[bk.length U]
  exact⟨k.1,cd.G1 aa k.2⟩
theorem aM.one {a v:I}(h:aM s a v) (aS:a.one=true):v.one=true:=by
 cases a<;>simp only[I.one,bd5]at aS<;>simp only[aM]at h
 all_goals first
  |(subst h; first|rfl|exact aS)
  |(obtain⟨x,U,rfl⟩:=h; rfl)
  |(obtain⟨x,rfl,U⟩:=h; rfl)
  |(obtain⟨x,l,U,rfl,aa⟩:=h; rfl)
theorem bk.xD: ∀ {az l:List I}(_:bk s az l),az.all I.one=true→l.all I.one=true
 |[],_,h,_=>by simp only[bk]at h; subst h; rfl
 |a::az,_,h,k=>by
  simp only[bk]at h
  obtain⟨v,aq,rfl,U,aa⟩:=h
  simp only[bd3,bb6]at k ⊢
  exact⟨U.one k.1,bk.xD aa k.2⟩
theorem aM.ea {a v:I}(h:aM s a v) (aS:a.ea=true):v.ea=true∧bk s a.cells v.cells:=by
 cases a with
 |agg cs=>
  simp only[aM]at h
  obtain⟨l,rfl,U⟩:=h
  exact⟨rfl,U⟩
 | _=>
  all_goals
   have U:=h.one (by simpa only[I.ea] using aS)
   have ad:v.cells=[v]∧v.ea=true:=by
    cases v<;>simp only[I.one,bd5]at U<;>first|exact⟨rfl,rfl⟩|exact⟨rfl,U⟩
   refine⟨ad.2,?_⟩
   rw[ad.1]
   simp only[I.cells,bk]
   exact⟨_,_,rfl,h,rfl⟩
theorem bk.iA {agg:Bool}{az l:List I}{v:I}(h:bk s az l) (ad:I.iA agg az=some v): ∃bD,I.iA agg l=some bD∧aM s v bD:=by
 cases agg with
 |true=>
  simp only[I.iA,cond_true,Option.some.injEq]at ad ⊢
  subst ad
  exact⟨_,rfl,by simp only[aM]; exact⟨l,rfl,h⟩⟩
 |false=>
  simp only[I.iA,cond_false]at ad ⊢
  match az,h,ad with
  |[a],h,ad=>
   simp only[bk]at h
   obtain⟨x,xs,rfl,U,rfl⟩:=h
   simp only[Option.some.injEq]at ad ⊢
   subst ad
   exact⟨_,rfl,U⟩
end
mutual
def I.flat:I→Bool
 | .bool _=>true
 | .int _ _=>true
 | .str _=>true
 | .dV _=>true
 | .agg cs=>b2 cs
 | .c3 cs=>b2 cs
 | .aq _ rows=>eY rows
 | .ed row _=>b2 row
 | .fn _ cap=>b2 cap
 | .hW _ v=>v.flat
 | _=>false
def b2:List I→Bool
 |[]=>true
 |a::az=>a.flat&&b2 az
def eY:List (List I)→Bool
 |[]=>true
 |a::az=>b2 a&&eY az
end
mutual
theorem I.lA {s:bx}: ∀(a:I),a.flat=true→∀v,aM s a v↔v=a
 | .bool _,_,_=>by simp only[aM]
 | .int _ _,_,_=>by simp only[aM]
 | .str _,_,_=>by simp only[aM]
 | .dV _,_,_=>by simp only[aM]
 | .agg cs,h,v=>by simp only[I.flat]at h; simp only[aM,mM cs h]; exact⟨fun⟨l,ap,ay⟩=>by rw[ap,ay],fun e=>⟨cs,e,rfl⟩⟩
 | .c3 cs,h,v=>by simp only[I.flat]at h; simp only[aM,mM cs h]; exact⟨fun⟨l,ap,ay⟩=>by rw[ap,ay],fun e=>⟨cs,e,rfl⟩⟩
 | .aq n rows,h,v=>by simp only[I.flat]at h; simp only[aM,qC rows h]; exact⟨fun⟨l,ap,ay⟩=>by rw[ap,ay],fun e=>⟨rows,e,rfl⟩⟩
 | .ed row o,h,v=>by simp only[I.flat]at h; simp only[aM,mM row h]; exact⟨fun⟨l,ap,ay⟩=>by rw[ap,ay],fun e=>⟨row,e,rfl⟩⟩
 | .fn f cap,h,v=>by simp only[I.flat]at h; simp only[aM,mM cap h]; exact⟨fun⟨l,ap,ay⟩=>by rw[ap,ay],fun e=>⟨cap,e,rfl⟩⟩
 | .hW t a,h,v=>by simp only[I.flat]at h; simp only[aM,I.lA a h]; exact⟨fun⟨l,ap,ay⟩=>by rw[ap,ay],fun e=>⟨a,e,rfl⟩⟩
theorem mM {s:bx}: ∀(az:List I),b2 az=true→∀l,bk s az l↔l=az
 |[],_,l=>by simp only[bk]
 |a::az,h,l=>by
  simp only[b2,bb6]at h
  simp only[bk,I.lA a h.1,mM az h.2]
  exact⟨fun⟨v,aq,ap,ay,b1⟩=>by rw[ap,ay,b1],fun e=>⟨a,az,e,rfl,rfl⟩⟩
theorem qC {s:bx}: ∀(az:List (List I)),eY az=true→∀l,cd s az l↔l=az
 |[],_,l=>by simp only[cd]
 |a::az,h,l=>by
  simp only[eY,bb6]at h
  simp only[cd,mM a h.1,qC az h.2]
  exact⟨fun⟨v,aq,ap,ay,b1⟩=>by rw[ap,ay,b1],fun e=>⟨a,az,e,rfl,rfl⟩⟩
end
def hP (s:bx) (env bb:Env):Prop:=∀j,aM s (env.get j) (bb.get j)
def bl (env:Env):aJ→I
 | .t n=>env.get n
 | .c a=>bif a.flat then a else .eD
def h8 (s:bx) (i dh:bM):Prop:=dh.ty=i.ty∧dh.size=i.size∧dh.n=i.n∧dh.aU=i.aU∧match i.lu with
 |none=>dh.lu=none
 |some rows=> ∃l,dh.lu=some l∧cd s rows l
structure HR (H0:aA) (s:bx) (C H:aA):Prop where
 base:HSub H0 H
 aY: ∀b T cs,C.aY b=some (T,cs)→∃x cC,s.b[b]? =some x∧H.aY x=some (T,cC)∧bk s cs cC
 tok: ∀t i,C.tok t=some i→∃x dh,s.t[t]? =some x∧H.tok x=some dh∧h8 s i dh
 lj: ∀(b x:Nat),s.b[b]? =some x→H0.aY x=none∧∃y,H.aY x=some y
 kE: ∀(t x:Nat),s.t[t]? =some x→H0.tok x=none∧∃y,H.tok x=some y
 lF: ∀(b bT x:Nat),s.b[b]? =some x→s.b[bT]? =some x→b=bT
 mv: ∀(b bT x:Nat),s.t[b]? =some x→s.t[bT]? =some x→b=bT
section
variable {P:Program}{s:bx}{env bb:Env}{H0 C H:aA}
theorem j8 (he:hP s env bb) (x:aJ):aM s (bl env x) (x.aI bb):=by
 cases x with
 |t n=>exact he n
 |c a=>
  show aM s (bif a.flat then a else .eD) a
  cases h:a.flat with
  |false=>simp only[cond_false,aM]
  |true=>rw[cond_true,I.lA a h]
theorem nR (he:hP s env bb): ∀(xs:List aJ),bk s (xs.map (bl env)) (xs.map (aJ.aI bb))
 |[]=>by simp [bk]
 |x::xs=>by simp only[bd4,bk]; exact⟨_,_,rfl,j8 he x,nR he xs⟩
theorem hP.put (he:hP s env bb){v bD:I}(ad:aM s v bD) (d:Option Nat):hP s (env.put d v) (bb.put d bD):=by
 cases d with
 |none=>exact he
 |some k=>
  intro j
  simp only[Env.put,Env.get]
  cases k==j with
  |true=>exact ad
  |false=>exact he j
theorem hP.mono {bR:bx}(e:bx.eH s bR) (he:hP s env bb):hP bR env bb:=fun j=>aM.mono e _ _ (he j)
def mL (env:Env) (DZ:Nat):Option aJ→Option Nat
 |none=>some DZ
 |some x=>match bl env x with
  | .int _ (.ofNat n)=>some n
  | _=>none
theorem wQ (he:hP s env bb){d n:Nat}{x:Option aJ}(h:mL env d x=some n):jK bb d x=some n:=by
 cases x with
 |none=>exact h
 |some x=>
  have ab:=j8 he x
  simp only[mL]at h
  split at h
  ·rename_i k m e
   rw[e]at ab
   simp only[aM]at ab
   simp only[jK,ab]
   exact h
  ·cases h
def sq (env:Env) (cells:List I):List (Nat×Nat×aJ)→Option (List I)
 |[]=>some cells
 |(off,size,x)::rest=>
  let a:=bl env x
  bif a.ea&&(a.cells.length==size&&be1 (off+size) cells.length) then sq env (gg cells off a.cells) rest else none
theorem I9 (he:hP s env bb): ∀(parts:List (Nat×Nat×aJ)) (cells ys cs:List I),bk s cells ys→sq env cells parts=some cs→∃cC,nO bb ys parts=some cC∧bk s cs cC
 |[],cells,ys,cs,h,hb=>by
  simp only[sq,Option.some.injEq]at hb
  subst hb
  exact⟨_,rfl,h⟩
 |(off,size,x)::rest,cells,ys,cs,h,hb=>by
  simp only[sq]at hb
  cases an:((bl env x).ea&&((bl env x).cells.length==size&&be1 (off+size) cells.length)) with
  |false=>rw[an]at hb; cases hb
  |true=>
   rw[an,cond_true]at hb
   simp only[bb6,beq_iff_eq,bj9]at an
   obtain⟨U,aa,aD⟩:=an
   obtain⟨br,bB⟩:=(j8 he x).ea U
   obtain⟨cC,ap,ay⟩:=I9 he rest _ (gg ys off (x.aI bb).cells) cs (h.gg bB off) hb
   refine⟨cC,?_,ay⟩
   simp only[nO]
   rw[if_pos ⟨by rw[bk.length bB,aa],by rw[bk.length h]; exact aD,br⟩]
   exact ap
theorem Oc (lU:Bool): ∀(l bZ:List I) (a cI v:I),aM s a cI→bk s l bZ→lh lU a l=some v→lh lU cI bZ=some v∧aM s v v
 |[],_,a,cI,v,aS,aG,ad=>by
  simp only[bk]at aG
  subst aG
  cases a<;>simp only[lh,Option.some.injEq,reduceCtorEq]at ad
  subst ad
  simp only[aM]at aS
  subst aS
  exact⟨rfl,by simp only[aM]⟩
 |b::rest,_,a,cI,v,aS,aG,ad=>by
  simp only[bk]at aG
  obtain⟨bT,fR,rfl,hb,aG⟩:=aG
  cases a<;>cases b<;>simp only[lh,reduceCtorEq]at ad
  simp only[aM]at aS hb
  subst aS hb
  simp only[lh]
  split at ad
  ·rename_i av
   rw[if_pos av]
   exact Oc lU rest fR _ _ v (by simp only[aM]) aG ad
  ·cases ad
theorem YK {k:l8}{a cI b bT:I}{r:Bool}(aS:aM s a cI) (hb:aM s b bT) (h:nY k a b=some r):nY k cI bT=some r:=by
 cases k<;>cases a<;>cases b<;>simp only[nY,reduceCtorEq]at h<;>simp only[aM]at aS hb<;>subst aS hb<;>exact h
theorem L8: ∀(bH:List l8) (az iF ca yp:List I) (r:Bool),bk s az iF→bk s ca yp→ha bH az ca=some r→ha bH iF yp=some r
 |[],[],_,[],_,r,aS,hb,h=>by
  simp only[bk]at aS hb
  subst aS hb
  exact h
 |k::bH,a::az,_,b::ca,_,r,aS,hb,h=>by
  simp only[bk]at aS hb
  obtain⟨cI,iF,rfl,aS,has⟩:=aS
  obtain⟨bT,yp,rfl,hb,Z6⟩:=hb
  simp only[ha]at h ⊢
  split at h
  ·rename_i x y U aa
   rw[YK aS hb U,L8 bH az iF ca yp y has Z6 aa]
   exact h
  ·cases h
 |[],_:: _,_,_,_,_,_,_,h=>by simp [ha]at h
 |[],[],_,_:: _,_,_,_,_,h=>by simp [ha]at h
 | _:: _,[],_,_,_,_,_,_,h=>by simp [ha]at h
 | _:: _,_:: _,_,[],_,_,_,_,h=>by simp [ha]at h
end
def rr (n:Int) (len:Nat):Option Nat:=
 match n with
 | .ofNat k=>bif bf8 k len then some k else none
 | _=>none
theorem wN {n:Int}{len k:Nat}(h:rr n len=some k):0≤n∧n<(len:Int)∧n.toNat=k:=by
 cases n with
 |ofNat j=>
  simp only[rr]at h
  cases hb:bf8 j len with
  |false=>rw[hb]at h; cases h
  |true=>
   rw[hb]at h
   simp only[cond_true,Option.some.injEq]at h
   subst h
   have:j<len:=by simpa [bo3] using hb
   exact⟨bp9 j,Int.ofNat_lt.2 this,rfl⟩
 |negSucc j=>cases h
def ou (cs:List I) (agg:Bool) (o n:Nat):Option I:=bif be1 (o+n) cs.length then I.iA agg ((cs.drop o).take n) else none
theorem su {s:bx}{cs cC:List I}{agg:Bool}{o n:Nat}{v:I}(h:bk s cs cC) (ad:ou cs agg o n=some v):o+n≤cC.length∧∃bD,I.iA agg ((cC.drop o).take n)=some bD∧aM s v bD:=by
 unfold ou at ad
 cases hb:be1 (o+n) cs.length with
 |false=>rw[hb]at ad; cases ad
 |true=>
  rw[hb,cond_true]at ad
  exact⟨by rw[bk.length h]; exact bh6 hb,bk.iA ((h.drop o).take n) ad⟩
def wK (op:BinOp):I→I→Option I
 | .int k a,.int j b=>if k=j then (match op with
  | .quo=>if b=0 then none else some (.int k (k.wrap (a.tdiv b)))
  | .rem=>if b=0 then none else some (.int k (a.tmod b))
  |op=>qs op k a b) else uv op k a b
 | .str a,.str b=>match op with
  | .add=>bif be1 (a.length+b.length) maxLen then some (.str (a++b)) else none
  |op=>so op a b
 | _,_=>none
def fe (op:bc) (env:Env) (C:aA):Option I:=
 match op with
 | .gI x=>some (bl env x)
 | .pick c a b=>match bl env c with
  | .bool true=>some (bl env a)
  | .bool false=>some (bl env b)
  | _=>none
 | .gn x=>match bl env x with
  | .ptr b o=>some (.ptr b o)
  | .ed r o=>some (.ed r o)
  | .fn f c=>some (.fn f c)
  | _=>none
 | .build zero parts=>bif b2 zero then (sq env zero parts).map .agg else none
 | .load agg n x=>match bl env x with
  | .ptr b o=>match C.aY b with
   |some (_,cs)=>ou cs agg o n
   |none=>none
  | .ed row o=>ou row agg o n
  | _=>none
 | .gb e3 agg n x=>match env.get e3,bl env x with
  | .ptr b 0,.ptr bT o=>bif bT==b then (match C.aY bT with
   |some (_,cs)=>ou cs agg o n
   |none=>none) else none
  | _,_=>none
 | .qP agg n x=>match bl env x with
  | .ed row o=>ou row agg o n
  | _=>none
 | .nZ off x=>match bl env x with
  | .ptr b o=>some (.ptr b (o+off))
  | .ed row o=>some (.ed row (o+off))
  | _=>none
 | .field agg off n x=>match bl env x with
  | .agg cs=>ou cs agg off n
  | _=>none
 | .hV size x i=>match bl env x,bl env i with
  | .aq kG rows,.int _ (.ofNat n)=>bif kG==size then rows[n]?.map fun r=> .ed r 0 else none
  | .own _ kG rows,.int _ (.ofNat n)=>bif kG==size then rows[n]?.map fun r=> .ed r 0 else none
  | _,_=>none
 | .mS len size x i=>match bl env x,bl env i with
  | .ptr b o,.int _ n=>(rr n len).map fun k=> .ptr b (o+k*size)
  | .ed row o,.int _ n=>(rr n len).map fun k=> .ed row (o+k*size)
  | _,_=>none
 | .jw agg len size x i=>match bl env x,bl env i with
  | .agg cs,.int _ n=>match rr n len with
   |some k=>ou cs agg (k*size) size
   |none=>none
  | _,_=>none
 | .fQ x i=>match bl env x,bl env i with
  | .str b,.int _ (.ofNat n)=>b[n]?.map fun c=> .int .u8 c.toNat
  | _,_=>none
 | .bin op x y=>wK op (bl env x) (bl env y)
 | .qq op x y=>match bl env x,bl env y with
  | .bool a,.bool b=>tn op a b
  | _,_=>none
 | .nX neg _ bH x y=>match bl env x,bl env y with
  | .agg a,.agg b=>(ha bH a b).map fun r=> .bool (bif neg then !r else r)
  | _,_=>none
 | .not x=>match bl env x with
  | .bool b=>some (.bool (!b))
  | _=>none
 | .qV neg x=>match bl env x with
  | .ptr _ _=>some (.bool neg)
  | .ed _ _=>some (.bool neg)
  | .dV (.pointer none)=>some (.bool (!neg))
  | _=>none
 | .neg x=>match bl env x with
  | .int k n=>some (.int k (k.wrap (0-n)))
  | _=>none
 | .conv k x=>match bl env x with
  | .int _ n=>some (.int k (k.wrap n))
  | _=>none
 | .iV x=>match bl env x with
  | .str b=>some (.int .i64 b.length)
  | _=>none
 | .len x=>match bl env x with
  | .aq _ rows=>some (.int .i64 rows.length)
  | .own _ _ rows=>some (.int .i64 rows.length)
  | .dV (.slice _ n _)=>some (.int .i64 n)
  | _=>none
 | .p1 n=>some (.int .i64 n)
 | .kf lU xs=>match xs.map (bl env) with
  |a::rest=>lh lU a rest
  |[]=>none
 | .iB x b3 af=>match bl env x with
  | .str b=>match mL env 0 b3,mL env b.length af with
   |some l,some h=>bif be1 l h&&be1 h b.length then some (.str ((b.take h).drop l)) else none
   | _,_=>none
  | _=>none
 | .gJ size x b3 af none=>match na size (bl env x) with
  |some rows=>match mL env 0 b3,mL env rows.length af with
   |some l,some h=>bif be1 l h&&be1 h rows.length then some (.aq size ((rows.take h).drop l)) else none
   | _,_=>none
  |none=>none
 | .extract i x=>match bl env x with
  | .c3 l=>l[i]?
  | _=>none
 | .jJ f cap=>some (.fn f (cap.map (bl env)))
 | .sO f cap=>some (.fn (f+jp) (cap.map (bl env)))
 | .nT int x=>match int,bl env x with
  |true,.int _ n=>some (.str (Utf8.encode n).data.toList)
  |false,.aq 1 rows=>(kS rows).map .str
  |false,.own _ 1 rows=>(kS rows).map .str
  |false,.dV (.slice none _ _)=>some (.str [])
  | _,_=>none
 | .jP T x=>match bl env x with
  | .str b=>some (.aq 1 (b.map fun c=>[.int .u8 c.toNat]))
  | _=>none
 | .pj T x=>some (.hW T (bl env x))
 | .pd neg x=>match bl env x with
  | .dV (.slice none 0 0)=>some (.bool (!neg))
  | .aq _ (_:: _)=>some (.bool neg)
  | _=>none
 | .iU x=>match bl env x with
  | .cV t aU=>match C.tok t with
   |some ⟨_,_,0,gX,some rows⟩=>bif gX==aU then some (.int .i64 rows.length) else none
   | _=>none
  | _=>none
 | .iv ok z x k=>match bl env x,bl env k with
  | .cV t aU,.str s=>match C.tok t with
   |some ⟨_,2,1,gX,some rows⟩=>bif gX==aU&&b2 [z] then (lV s rows).map (kD ok z) else none
   | _=>none
  | .dV (.map none),.str s=>bif b2 [z] then some (kD ok z none) else none
  | _,_=>none
 | .js off x=>match bl env x with
  | .mp t aU k=>match C.tok t with
   |some ⟨_,_,0,gX,some rows⟩=>bif gX==aU then some (.mp t aU (k+off)) else none
   | _=>none
  | _=>none
 | .iJ size x i=>match bl env x,bl env i with
  | .cV t aU,.int _ n=>match C.tok t with
   |some ⟨_,kG,0,gX,some rows⟩=>bif gX==aU&&kG==size then (rr n rows.length).map fun k=> .mp t aU (k*size) else none
   | _=>none
  | _,_=>none
 | .ji agg n x=>match bl env x with
  | .mp t aU k=>match C.tok t with
   |some ⟨_,_,0,gX,some rows⟩=>bif gX==aU then ou rows.flatten agg k n else none
   | _=>none
  | _=>none
 | .et T size n zero parts=>
  let az:=parts.map fun p=>bl env p.2
  bif az.all I.ea&&((az.map I.cells).all (fun r=>r.length==size)&&(az.map I.cells).flatten.all I.one) then some (.aq size (az.map I.cells)) else none
 | _=>none
section
variable {P:Program}{s:bx}{env bb:Env}{H0 C H:aA}
theorem HR.bC (ac:HR H0 s C H){t:Nat}{T:TypeId}{size aU:Nat}{rows:List (List I)}(h:C.tok t=some ⟨T,size,0,aU,some rows⟩): ∃x l,s.t[t]? =some x∧H.tok x=some (.bC T size aU l)∧cd s rows l:=by
 obtain⟨x,⟨cG,sd,gT,bD,cJ⟩,U,aa,ap,ay,b1,dC,gF⟩:=ac.tok t _ h
 simp only at ap ay b1 dC gF
 obtain⟨l,gF,nW⟩:=gF
 subst ap ay b1 dC gF
 exact⟨x,l,U,aa,nW⟩
theorem HR.be (ac:HR H0 s C H){t:Nat}{T:TypeId}{aU:Nat}{rows:List (List I)}(h:C.tok t=some ⟨T,2,1,aU,some rows⟩): ∃x l,s.t[t]? =some x∧H.tok x=some (.be T aU l)∧cd s rows l:=by
 obtain⟨x,⟨cG,sd,gT,bD,cJ⟩,U,aa,ap,ay,b1,dC,gF⟩:=ac.tok t _ h
 simp only at ap ay b1 dC gF
 obtain⟨l,gF,nW⟩:=gF
 subst ap ay b1 dC gF
 exact⟨x,l,U,aa,nW⟩
theorem On {k:List UInt8}{v:I}{r l:List (List I)}(h:cd s ([.str k,v]::r) l): ∃bD bZ,l=[.str k,bD]::bZ∧aM s v bD∧cd s r bZ:=by
 simp only[cd,bk,aM]at h
 obtain⟨x,bZ,rfl,⟨y,eh,rfl,rfl,z,bb3,rfl,aD,rfl⟩,aa⟩:=h
 exact⟨z,bZ,rfl,aD,aa⟩
theorem N7 (k:List UInt8): ∀(rows l:List (List I)) (r:Option I),cd s rows l→lV k rows=some r→(r=none∧lV k l=some none)∨∃v bD,r=some v∧lV k l=some (some bD)∧aM s v bD
 |[],l,r,h,ac=>by
  simp only[cd]at h
  subst h
  simp only[lV,Option.some.injEq]at ac
  exact .inl ⟨ac.symm,rfl⟩
 |row::rows,l,r,h,ac=>by
  unfold lV at ac
  split at ac
  ·cases ‹_:: _=[]›
  ·rename_i q v eo bN
   simp only[List.cons.injEq]at bN
   obtain⟨rfl,rfl⟩:=bN
   obtain⟨bD,bZ,rfl,U,aa⟩:=On h
   by_cases av:k=q
   ·rw[if_pos av]at ac
    simp only[Option.some.injEq]at ac
    exact .inr ⟨v,bD,ac.symm,by simp only[lV,if_pos av],U⟩
   ·rw[if_neg av]at ac
    rcases N7 k _ bZ r aa ac with ⟨g1,g2⟩|⟨x,cN,g1,g2,g3⟩
    ·exact .inl ⟨g1,by simp only[lV,if_neg av]; exact g2⟩
    ·exact .inr ⟨x,cN,g1,by simp only[lV,if_neg av]; exact g2,g3⟩
  ·cases ac
theorem Ol (k:List UInt8){a cI:I}(aS:aM s a cI): ∀(rows l dT:List (List I)),cd s rows l→kC k a rows=some dT→∃bZ,kC k cI l=some bZ∧cd s dT bZ
 |[],l,r,h,ac=>by
  simp only[cd]at h
  subst h
  simp only[kC,Option.some.injEq]at ac
  subst ac
  exact⟨_,rfl,by simp only[cd,bk,aM]; exact⟨_,_,rfl,⟨_,_,rfl,rfl,_,_,rfl,aS,rfl⟩,rfl⟩⟩
 |row::rows,l,r,h,ac=>by
  unfold kC at ac
  split at ac
  ·cases ‹_:: _=[]›
  ·rename_i q v eo bN
   simp only[List.cons.injEq]at bN
   obtain⟨rfl,rfl⟩:=bN
   obtain⟨bD,bZ,rfl,U,aa⟩:=On h
   by_cases av:k=q
   ·rw[if_pos av]at ac
    simp only[Option.some.injEq]at ac
    subst ac
    exact⟨[.str k,cI]::bZ,by simp only[kC,if_pos av],by simp only[cd,bk,aM]; exact⟨_,_,rfl,⟨_,_,rfl,rfl,_,_,rfl,aS,rfl⟩,aa⟩⟩
   ·rw[if_neg av]at ac
    cases bu:kC k a rows with
    |none=>rw[bu]at ac; cases ac
    |some lL=>
     rw[bu]at ac
     simp only[bf0,Option.some.injEq]at ac
     subst ac
     obtain⟨fR,g1,g2⟩:=Ol k aS _ bZ lL aa bu
     exact⟨[.str q,bD]::fR,by simp only[kC,if_neg av,g1,bf0],by simp only[cd,bk,aM]; exact⟨_,_,rfl,⟨_,_,rfl,rfl,_,_,rfl,U,rfl⟩,g2⟩⟩
  ·cases ac
theorem FI {ok:Bool}{z:I}{r eo:Option I}(aw:b2 [z]=true) (h:(r=none∧eo=none)∨∃v bD,r=some v∧eo=some bD∧aM s v bD):aM s (kD ok z r) (kD ok z eo):=by
 have aW:aM s z z:=by
  have:=(mM (s:=s) [z] aw [z]).2 rfl
  simp only[bk]at this
  obtain⟨v,aq,e,h,_⟩:=this
  cases e
  exact h
 rcases h with ⟨rfl,rfl⟩|⟨v,bD,rfl,rfl,h⟩
 ·cases ok
  ·simpa [kD] using aW
  ·simp only[kD,if_true,Option.getD_none,Option.isSome_none,aM,bk]
   exact⟨_,rfl,_,_,rfl,aW,_,_,rfl,rfl,rfl⟩
 ·cases ok
  ·simpa [kD] using h
  ·simp only[kD,if_true,bh1,Option.isSome_some,aM,bk]
   exact⟨_,rfl,_,_,rfl,h,_,_,rfl,rfl,rfl⟩
theorem Dt (he:hP s env bb): ∀(parts:List (Nat×aJ)),(parts.map fun p=>bl env p.2).all I.ea=true→cd s ((parts.map fun p=>bl env p.2).map I.cells) (j7 bb parts)
 |[],_=>by simp [j7,cd]
 |p::parts,h=>by
  simp only[bd4,bd3,bb6]at h
  simp only[bd4,j7,cd]
  exact⟨_,_,rfl,((j8 he p.2).ea h.1).2,Dt he parts h.2⟩
end
variable {P:Program}{s:bx}{env bb:Env}{H0 C H:aA}
theorem dY (he:hP s env bb){x:aJ}{a:I}(e:bl env x=a):aM s a (x.aI bb):=e▸j8 he x
theorem aL9 {size:Nat}{a cI:I}{rows:List (List I)}(h:aM s a cI) (e:na size a=some rows): ∃l,na size cI=some l∧cd s rows l:=by
 unfold na at e
 split at e
 ·split at e
  ·rename_i ao
   simp only[Option.some.injEq]at e
   subst e
   simp only[aM]at h
   obtain⟨l,rfl,U⟩:=h
   exact⟨l,by simp [na,ao],U⟩
  ·cases e
 ·split at e
  ·rename_i ao
   simp only[Option.some.injEq]at e
   subst e
   simp only[aM]at h
   obtain⟨x,l,_,rfl,U⟩:=h
   exact⟨l,by simp [na,ao],U⟩
  ·cases e
 ·cases e
theorem UE {op:BinOp}{k:IntKind}{a b:Int}{v:I}(h:qs op k a b=some v):aM s v v:=by
 cases op<;>simp only[qs,Option.some.injEq,reduceCtorEq]at h<;>first
  |(subst h; simp only[aM]; done)
  |(split at h<;>first
   |(cases h; done)
   |(simp only[Option.some.injEq]at h; subst h; simp only[aM]; done))
theorem aL2 {op:BinOp}{k:IntKind}{a b:Int}{v:I}(h:uv op k a b=some v):aM s v v:=by
 cases op<;>simp only[uv,reduceCtorEq]at h<;>first
  |(cases h; done)
  |(split at h<;>first
   |(cases h; done)
   |(simp only[Option.some.injEq]at h; subst h; simp only[aM]; done))
theorem Dw: ∀ {rows l:List (List I)}{b:List UInt8},kS rows=some b→cd s rows l→kS l=some b
 |[],l,b,h,k=>by simp only[cd]at k; subst k; exact h
 |r::aQ,l,b,h,k=>by
  simp only[cd]at k
  obtain⟨eo,bZ,rfl,br,bB⟩:=k
  unfold kS at h
  split at h
  ·rename_i e; cases e
  ·rename_i n GO e
   simp only[List.cons.injEq]at e
   obtain⟨rfl,rfl⟩:=e
   simp only[bk,aM]at br
   obtain⟨_,_,rfl,rfl,rfl⟩:=br
   split at h
   ·rename_i bR ct
    simp only[kS,Dw ct bB]
    exact h
   ·cases h
  ·cases h
theorem IP: ∀(b:List UInt8),cd s (b.map fun c=>[I.int .u8 c.toNat]) (b.map fun c=>[I.int .u8 c.toNat])
 |[]=>by simp [cd]
 |c::b=>by simp only[bd4,cd,bk,aM]; exact⟨_,_,rfl,⟨_,_,rfl,rfl,rfl⟩,IP b⟩
theorem Xh {op:BinOp}{x y:aJ}{a b v:I}(aS:aM s a (x.aI bb)) (hb:aM s b (y.aI bb)) (h:wK op a b=some v): ∃bD,eF P (.bin op x y) bb H (.cZ bD)∧aM s v bD:=by
 unfold wK at h
 split at h
 ·rename_i k a j b
  simp only[aM]at aS hb
  split at h
  ·rename_i av
   subst av
   split at h
   ·split at h
    ·cases h
    ·rename_i aw
     simp only[Option.some.injEq]at h
     subst h
     exact⟨_,.quo aS hb aw,by simp only[aM]⟩
   ·split at h
    ·cases h
    ·rename_i aw
     simp only[Option.some.injEq]at h
     subst h
     exact⟨_,.rem aS hb aw,by simp only[aM]⟩
   ·refine⟨v,.pure (by simp only[bX,aS,hb,if_pos]; exact h),?_⟩
    exact UE h
  ·rename_i av
   refine⟨v,.pure (by simp only[bX,aS,hb,if_neg av]; exact h),aL2 h⟩
 ·rename_i a b
  simp only[aM]at aS hb
  split at h
  ·cases hm:be1 (a.length+b.length) maxLen with
   |false=>rw[hm]at h; cases h
   |true=>
    rw[hm]at h
    simp only[cond_true,Option.some.injEq]at h
    subst h
    exact⟨_,.bU aS hb (bh6 hm),by simp only[aM]⟩
  ·refine⟨v,.pure (by simp only[bX,aS,hb]; exact h),?_⟩
   cases op<;>simp only[so,Option.some.injEq,reduceCtorEq]at h<;>subst h<;>simp only[aM]
 ·cases h
theorem B9 {aU gX:Nat}(h:(gX==aU)=true):gX=aU:=by simpa using h
theorem XI (he:hP s env bb) (ac:HR H0 s C H){op:bc}{v:I}(h:fe op env C=some v): ∃bD,eF P op bb H (.cZ bD)∧aM s v bD:=by
 cases op<;>simp only[fe,reduceCtorEq]at h
 case gI x=>
  simp only[Option.some.injEq]at h
  subst h
  exact⟨_,.pure rfl,j8 he x⟩
 case pick c a b=>
  split at h
  ·rename_i e
   have an:=dY he e
   simp only[aM]at an
   simp only[Option.some.injEq]at h
   subst h
   exact⟨_,.pure (by simp only[bX,an]),j8 he a⟩
  ·rename_i e
   have an:=dY he e
   simp only[aM]at an
   simp only[Option.some.injEq]at h
   subst h
   exact⟨_,.pure (by simp only[bX,an]),j8 he b⟩
  ·cases h
 case gn x=>
  split at h
  ·rename_i e
   have ab:=dY he e
   simp only[Option.some.injEq]at h
   subst h
   simp only[aM]at ab
   obtain⟨y,U,aa⟩:=ab
   exact⟨_,.pure (by simp only[bX,aa]; rfl),by simp only[aM]; exact⟨y,U,rfl⟩⟩
  ·rename_i e
   have ab:=dY he e
   simp only[Option.some.injEq]at h
   subst h
   simp only[aM]at ab
   obtain⟨y,aa,U⟩:=ab
   exact⟨_,.pure (by simp only[bX,aa]; rfl),by simp only[aM]; exact⟨y,rfl,U⟩⟩
  ·rename_i e
   have ab:=dY he e
   simp only[Option.some.injEq]at h
   subst h
   simp only[aM]at ab
   obtain⟨y,aa,U⟩:=ab
   exact⟨_,.pure (by simp only[bX,aa]; rfl),by simp only[aM]; exact⟨y,rfl,U⟩⟩
  ·cases h
 case build zero parts=>
  cases aw:b2 zero with
  |false=>rw[aw]at h; cases h
  |true=>
   rw[aw]at h
   simp only[cond_true,bf2]at h
   obtain⟨cs,e,rfl⟩:=h
   obtain⟨cC,ap,ay⟩:=I9 he parts zero zero cs ((mM zero aw _).2 rfl) e
   exact⟨_,.pure (by simp only[bX,ap,bf0]; rfl),by simp only[aM]; exact⟨_,rfl,ay⟩⟩
 case load agg n x=>
  split at h
  ·rename_i b o e
   have ab:=dY he e
   simp only[aM]at ab
   obtain⟨y,U,aa⟩:=ab
   split at h
   ·rename_i T cs ay
    obtain⟨cN,cC,g1,g2,g3⟩:=ac.aY _ _ _ ay
    rw[U]at g1
    cases g1
    obtain⟨br,bD,bB,cu⟩:=su g3 h
    exact⟨bD,.pure (by simp only[bX,aa,g2,if_pos br,bB]),cu⟩
   ·cases h
  ·rename_i row o e
   have ab:=dY he e
   simp only[aM]at ab
   obtain⟨l,aa,U⟩:=ab
   obtain⟨br,bD,bB,cu⟩:=su U h
   exact⟨bD,.pure (by simp only[bX,aa,if_pos br,bB]),cu⟩
  ·cases h
 case qP agg n x=>
  split at h
  ·rename_i row o e
   have ab:=dY he e
   simp only[aM]at ab
   obtain⟨l,aa,U⟩:=ab
   obtain⟨br,bD,bB,cu⟩:=su U h
   exact⟨bD,.pure (by simp only[bX,aa,if_pos br,bB]),cu⟩
  ·cases h
 case gb e3 agg n x=>
  split at h
  ·rename_i b bT o bN e
   have ab:=dY he e
   have hm:=he e3
   rw[bN]at hm
   simp only[aM]at ab hm
   obtain⟨y,U,aa⟩:=ab
   obtain⟨C0,aD,bA⟩:=hm
   cases hb:bT==b with
   |false=>rw[hb]at h; cases h
   |true=>
    rw[hb,cond_true]at h
    have hb:bT=b:=by simpa using hb
    subst hb
    rw[U]at aD
    cases aD
    split at h
    ·rename_i T cs ay
     obtain⟨cN,cC,g1,g2,g3⟩:=ac.aY _ _ _ ay
     rw[U]at g1
     cases g1
     obtain⟨br,bD,bB,cu⟩:=su g3 h
     exact⟨bD,.pure (by simp only[bX,aa,bA,g2,if_pos br,bB,if_true]),cu⟩
    ·cases h
  ·cases h
 case nZ off x=>
  split at h
  ·rename_i e
   have ab:=dY he e
   simp only[Option.some.injEq]at h
   subst h
   simp only[aM]at ab
   obtain⟨y,U,aa⟩:=ab
   exact⟨_,.pure (by simp only[bX,aa]; rfl),by simp only[aM]; exact⟨y,U,rfl⟩⟩
  ·rename_i e
   have ab:=dY he e
   simp only[Option.some.injEq]at h
   subst h
   simp only[aM]at ab
   obtain⟨y,aa,U⟩:=ab
   exact⟨_,.pure (by simp only[bX,aa]; rfl),by simp only[aM]; exact⟨y,rfl,U⟩⟩
  ·cases h
 case field agg off n x=>
  split at h
  ·rename_i e
   have ab:=dY he e
   simp only[aM]at ab
   obtain⟨l,aa,U⟩:=ab
   obtain⟨br,bD,bB,cu⟩:=su U h
   exact⟨bD,.pure (by simp only[bX,aa,if_pos br,bB]),cu⟩
  ·cases h
 case hV size x i=>
  split at h
  ·rename_i kG rows k n ap ay
   have ab:=dY he ap
   have af:=dY he ay
   simp only[aM]at ab af
   obtain⟨l,aa,U⟩:=ab
   cases ao:kG==size with
   |false=>rw[ao]at h; cases h
   |true=>
    rw[ao]at h
    have ao:kG=size:=by simpa using ao
    subst ao
    simp only[cond_true,bf2]at h
    obtain⟨r,g1,rfl⟩:=h
    obtain⟨eo,g2,g3⟩:=cd.get U _ _ g1
    exact⟨_,.n5 aa af (bp9 n) g2,by simp only[aM]; exact⟨_,rfl,g3⟩⟩
  ·rename_i dv kG rows k n ap ay
   have ab:=dY he ap
   have af:=dY he ay
   simp only[aM]at ab af
   obtain⟨y,l,aW,aa,U⟩:=ab
   cases ao:kG==size with
   |false=>rw[ao]at h; cases h
   |true=>
    rw[ao]at h
    have ao:kG=size:=by simpa using ao
    subst ao
    simp only[cond_true,bf2]at h
    obtain⟨r,g1,rfl⟩:=h
    obtain⟨eo,g2,g3⟩:=cd.get U _ _ g1
    exact⟨_,.n2 aa af (bp9 n) g2,by simp only[aM]; exact⟨_,rfl,g3⟩⟩
  ·cases h
 case mS len size x i=>
  split at h
  ·rename_i b o k n ap ay
   have ab:=dY he ap
   have af:=dY he ay
   simp only[aM]at ab af
   obtain⟨y,U,aa⟩:=ab
   simp only[bf2]at h
   obtain⟨j,g1,rfl⟩:=h
   obtain⟨g2,g3,rfl⟩:=wN g1
   exact⟨_,.nA aa af g2 g3,by simp only[aM]; exact⟨_,U,rfl⟩⟩
  ·rename_i row o k n ap ay
   have ab:=dY he ap
   have af:=dY he ay
   simp only[aM]at ab af
   obtain⟨l,aa,U⟩:=ab
   simp only[bf2]at h
   obtain⟨j,g1,rfl⟩:=h
   obtain⟨g2,g3,rfl⟩:=wN g1
   exact⟨_,.n3 aa af g2 g3,by simp only[aM]; exact⟨_,rfl,U⟩⟩
  ·cases h
 case jw agg len size x i=>
  split at h
  ·rename_i cs k n ap ay
   have ab:=dY he ap
   have af:=dY he ay
   simp only[aM]at ab af
   obtain⟨l,aa,U⟩:=ab
   split at h
   ·rename_i j g1
    obtain⟨g2,g3,rfl⟩:=wN g1
    obtain⟨br,bD,bB,cu⟩:=su U h
    exact⟨bD,.jw aa af g2 g3 br bB,cu⟩
   ·cases h
  ·cases h
 case fQ x i=>
  split at h
  ·rename_i b k n ap ay
   have ab:=dY he ap
   have af:=dY he ay
   simp only[aM]at ab af
   simp only[bf2]at h
   obtain⟨c,g1,rfl⟩:=h
   exact⟨_,.fQ ab af (bp9 n) g1,by simp only[aM]⟩
  ·cases h
 case bin op x y=>exact Xh (j8 he x) (j8 he y) h
 case qq op x y=>
  split at h
  ·rename_i a b ap ay
   have ab:=dY he ap
   have a8:=dY he ay
   simp only[aM]at ab a8
   refine⟨v,.pure (by simp only[bX,ab,a8]; exact h),?_⟩
   cases op<;>simp only[tn,Option.some.injEq,reduceCtorEq]at h<;>subst h<;>simp only[aM]
  ·cases h
 case nX neg T bH x y=>
  split at h
  ·rename_i a b ap ay
   have ab:=dY he ap
   have a8:=dY he ay
   simp only[aM]at ab a8
   obtain⟨aK,U,aa⟩:=ab
   obtain⟨fR,aD,bA⟩:=a8
   simp only[bf2]at h
   obtain⟨r,g1,rfl⟩:=h
   exact⟨_,.pure (by simp only[bX,U,aD,L8 bH _ _ _ _ r aa bA g1,bf0]; rfl),by simp only[aM]⟩
  ·cases h
 case not x=>
  split at h
  ·rename_i e
   have ab:=dY he e
   simp only[aM]at ab
   simp only[Option.some.injEq]at h
   subst h
   exact⟨_,.pure (by simp only[bX,ab]; rfl),by simp only[aM]⟩
  ·cases h
 case qV neg x=>
  split at h
  ·rename_i e
   have ab:=dY he e
   simp only[aM]at ab
   obtain⟨y,U,aa⟩:=ab
   simp only[Option.some.injEq]at h
   subst h
   exact⟨_,.pure (by simp only[bX,aa]; rfl),by simp only[aM]⟩
  ·rename_i e
   have ab:=dY he e
   simp only[aM]at ab
   obtain⟨y,aa,U⟩:=ab
   simp only[Option.some.injEq]at h
   subst h
   exact⟨_,.pure (by simp only[bX,aa]; rfl),by simp only[aM]⟩
  ·rename_i e
   have ab:=dY he e
   simp only[aM]at ab
   simp only[Option.some.injEq]at h
   subst h
   exact⟨_,.pure (by simp only[bX,ab]; rfl),by simp only[aM]⟩
  ·cases h
 case neg x=>
  split at h
  ·rename_i e
   have ab:=dY he e
   simp only[aM]at ab
   simp only[Option.some.injEq]at h
   subst h
   exact⟨_,.pure (by simp only[bX,ab]; rfl),by simp only[aM]⟩
  ·cases h
 case conv k x=>
  split at h
  ·rename_i e
   have ab:=dY he e
   simp only[aM]at ab
   simp only[Option.some.injEq]at h
   subst h
   exact⟨_,.pure (by simp only[bX,ab]; rfl),by simp only[aM]⟩
  ·cases h
 case iV x=>
  split at h
  ·rename_i e
   have ab:=dY he e
   simp only[aM]at ab
   simp only[Option.some.injEq]at h
   subst h
   exact⟨_,.pure (by simp only[bX,ab]; rfl),by simp only[aM]⟩
  ·cases h
 case len x=>
  split at h
  ·rename_i e
   have ab:=dY he e
   simp only[aM]at ab
   obtain⟨l,aa,U⟩:=ab
   simp only[Option.some.injEq]at h
   subst h
   exact⟨_,.pure (by simp only[bX,aa]; rfl),by simp only[aM]; rw[cd.length U]⟩
  ·rename_i e
   have ab:=dY he e
   simp only[aM]at ab
   obtain⟨y,l,aW,aa,U⟩:=ab
   simp only[Option.some.injEq]at h
   subst h
   exact⟨_,.pure (by simp only[bX,aa]; rfl),by simp only[aM]; rw[cd.length U]⟩
  ·rename_i e
   have ab:=dY he e
   simp only[aM]at ab
   simp only[Option.some.injEq]at h
   subst h
   exact⟨_,.pure (by simp only[bX,ab]; rfl),by simp only[aM]⟩
  ·cases h
 case p1 n=>
  simp only[Option.some.injEq]at h
  subst h
  exact⟨_,.pure rfl,by simp only[aM]⟩
 case kf lU xs=>
  have aG:=nR he xs
  split at h
  ·rename_i a rest e
   rw[e]at aG
   simp only[bk]at aG
   obtain⟨cI,a77,ct,U,aa⟩:=aG
   obtain⟨br,bB⟩:=Oc lU _ _ _ _ v U aa h
   exact⟨v,.pure (by simp only[bX,ct]; exact br),bB⟩
  ·cases h
 case iB x b3 af=>
  split at h
  ·rename_i b e
   have ab:=dY he e
   simp only[aM]at ab
   split at h
   ·rename_i l m ap ay
    cases hb:(be1 l m&&be1 m b.length) with
    |false=>rw[hb]at h; cases h
    |true=>
     rw[hb]at h
     simp only[cond_true,Option.some.injEq]at h
     subst h
     simp only[bb6,bj9]at hb
     exact⟨_,.iB ab (wQ he ap) (wQ he ay) hb.1 hb.2,by simp only[aM]⟩
   ·cases h
  ·cases h
 case gJ size x b3 af lX=>
  cases lX with
  |some _=>cases h
  |none=>
   simp only at h
   split at h
   ·rename_i rows e
    obtain⟨bZ,aa,U⟩:=aL9 (j8 he x) e
    split at h
    ·rename_i l m ap ay
     cases hb:(be1 l m&&be1 m rows.length) with
     |false=>rw[hb]at h; cases h
     |true=>
      rw[hb]at h
      simp only[cond_true,Option.some.injEq]at h
      subst h
      simp only[bb6,bj9]at hb
      obtain⟨mP,gH⟩:=hb
      exact⟨_,.gJ aa (wQ he ap) (by rw[cd.length U]; exact wQ he ay) mP (by rw[cd.length U]; exact gH),by simp only[aM]; exact⟨_,rfl,(U.take _).drop _⟩⟩
    ·cases h
   ·cases h
 case extract i x=>
  split at h
  ·rename_i e
   have ab:=dY he e
   simp only[aM]at ab
   obtain⟨l,aa,U⟩:=ab
   obtain⟨bD,g1,g2⟩:=bk.get U _ _ h
   exact⟨bD,.pure (by simp only[bX,aa]; exact g1),g2⟩
  ·cases h
 case jJ f cap=>
  simp only[Option.some.injEq]at h
  subst h
  exact⟨_,.pure rfl,by simp only[aM]; exact⟨_,rfl,nR he cap⟩⟩
 case sO f cap=>
  simp only[Option.some.injEq]at h
  subst h
  exact⟨_,.pure rfl,by simp only[aM]; exact⟨_,rfl,nR he cap⟩⟩
 case jP T x=>
  split at h
  ·rename_i b e
   have ab:=dY he e
   simp only[aM]at ab
   simp only[Option.some.injEq]at h
   subst h
   exact⟨_,.jP ab,by simp only[aM]; exact⟨_,rfl,IP b⟩⟩
  ·cases h
 case nT int x=>
  split at h
  ·rename_i k n e
   have ab:=dY he e
   simp only[aM]at ab
   simp only[Option.some.injEq]at h
   subst h
   exact⟨_,.pure (by simp only[bX,ab]; rfl),by simp only[aM]⟩
  ·rename_i rows e
   have ab:=dY he e
   simp only[aM]at ab
   obtain⟨l,aa,U⟩:=ab
   cases hb:kS rows with
   |none=>simp [hb]at h
   |some b=>
    simp only[hb,bf0,Option.some.injEq]at h
    subst h
    exact⟨_,.pure (by simp only[bX,aa,Dw hb U]; rfl),by simp only[aM]⟩
  ·rename_i t rows e
   have ab:=dY he e
   simp only[aM]at ab
   obtain⟨y,l,aW,aa,U⟩:=ab
   cases hb:kS rows with
   |none=>simp [hb]at h
   |some b=>
    simp only[hb,bf0,Option.some.injEq]at h
    subst h
    exact⟨_,.pure (by simp only[bX,aa,Dw hb U]; rfl),by simp only[aM]⟩
  ·rename_i n c e
   have ab:=dY he e
   simp only[aM]at ab
   simp only[Option.some.injEq]at h
   subst h
   exact⟨.str [],.pure (by simp only[bX,ab]),by simp only[aM]⟩
  ·cases h
 case pj T x=>
  simp only[Option.some.injEq]at h
  subst h
  exact⟨_,.pure rfl,by simp only[aM]; exact⟨_,rfl,j8 he x⟩⟩
 case pd neg x=>
  split at h
  ·rename_i e
   have ab:=dY he e
   simp only[aM]at ab
   simp only[Option.some.injEq]at h
   subst h
   exact⟨_,.ud ab,by simp only[aM]⟩
  ·rename_i e
   have ab:=dY he e
   simp only[aM]at ab
   obtain⟨l,aa,U⟩:=ab
   simp only[Option.some.injEq]at h
   subst h
   refine⟨_,.uc aa (fun a6=> ?_),by simp only[aM]⟩
   subst a6
   simpa using cd.length U
  ·cases h
 case iU x=>
  split at h
  ·rename_i t aU e
   have ab:=dY he e
   simp only[aM]at ab
   obtain⟨y,U,aa⟩:=ab
   split at h
   ·rename_i T size gX rows ay
    cases ad:gX==aU with
    |false=>rw[ad]at h; cases h
    |true=>
     rw[ad]at h
     simp only[cond_true,Option.some.injEq]at h
     subst h
     have ad:=B9 ad
     subst ad
     obtain⟨z,l,g1,g2,g3⟩:=ac.bC ay
     rw[U]at g1
     cases g1
     exact⟨_,.iU aa g2,by simp only[aM]; rw[cd.length g3]⟩
   ·cases h
  ·cases h
 case iv ok z x k=>
  split at h
  ·rename_i t aU q e ct
   have ab:=dY he e
   have av:=dY he ct
   simp only[aM]at ab av
   obtain⟨y,U,aa⟩:=ab
   split at h
   ·rename_i T gX rows ay
    cases ad:(gX==aU&&b2 [z]) with
    |false=>rw[ad]at h; cases h
    |true=>
     rw[ad]at h
     simp only[cond_true]at h
     simp only[bb6]at ad
     obtain⟨ad,aw⟩:=ad
     have ad:=B9 ad
     subst ad
     obtain⟨w,l,g1,g2,g3⟩:=ac.be ay
     rw[U]at g1
     cases g1
     cases hm:lV q rows with
     |none=>rw[hm]at h; cases h
     |some r=>
      rw[hm]at h
      simp only[bf0,Option.some.injEq]at h
      subst h
      rcases N7 q rows l r g3 hm with ⟨rfl,f2⟩|⟨HI,HJ,rfl,f2,f3⟩
      ·exact⟨_,.iv aa g2 av f2,FI aw (.inl ⟨rfl,rfl⟩)⟩
      ·exact⟨_,.iv aa g2 av f2,FI aw (.inr ⟨_,_,rfl,rfl,f3⟩)⟩
   ·cases h
  ·rename_i q e ct
   have ab:=dY he e
   have av:=dY he ct
   simp only[aM]at ab av
   cases aw:b2 [z] with
   |false=>rw[aw]at h; cases h
   |true=>
    rw[aw]at h
    simp only[cond_true,Option.some.injEq]at h
    subst h
    exact⟨_,.p2 ab av,FI aw (.inl ⟨rfl,rfl⟩)⟩
  ·cases h
 case js off x=>
  split at h
  ·rename_i t aU k e
   have ab:=dY he e
   simp only[aM]at ab
   obtain⟨y,U,aa⟩:=ab
   split at h
   ·rename_i T size gX rows ay
    cases ad:gX==aU with
    |false=>rw[ad]at h; cases h
    |true=>
     rw[ad]at h
     simp only[cond_true,Option.some.injEq]at h
     subst h
     have ad:=B9 ad
     subst ad
     obtain⟨z,l,g1,g2,g3⟩:=ac.bC ay
     rw[U]at g1
     cases g1
     exact⟨_,.js aa g2,by simp only[aM]; exact⟨_,U,rfl⟩⟩
   ·cases h
  ·cases h
 case iJ size x i=>
  split at h
  ·rename_i t aU k n e ap
   have ab:=dY he e
   have af:=dY he ap
   simp only[aM]at ab af
   obtain⟨y,U,aa⟩:=ab
   split at h
   ·rename_i T kG gX rows ay
    cases ad:(gX==aU&&kG==size) with
    |false=>rw[ad]at h; cases h
    |true=>
     rw[ad]at h
     simp only[cond_true,bf2]at h
     simp only[bb6,beq_iff_eq]at ad
     obtain⟨rfl,rfl⟩:=ad
     obtain⟨j,br,rfl⟩:=h
     obtain⟨z,l,g1,g2,g3⟩:=ac.bC ay
     rw[U]at g1
     cases g1
     obtain⟨bB,cu,rfl⟩:=wN br
     exact⟨_,.iJ aa g2 af bB (by rw[cd.length g3]; exact cu),by simp only[aM]; exact⟨_,U,rfl⟩⟩
   ·cases h
  ·cases h
 case ji agg n x=>
  split at h
  ·rename_i t aU k e
   have ab:=dY he e
   simp only[aM]at ab
   obtain⟨y,U,aa⟩:=ab
   split at h
   ·rename_i T size gX rows ay
    cases ad:gX==aU with
    |false=>rw[ad]at h; cases h
    |true=>
     rw[ad]at h
     simp only[cond_true]at h
     have ad:=B9 ad
     subst ad
     obtain⟨z,l,g1,g2,g3⟩:=ac.bC ay
     rw[U]at g1
     cases g1
     obtain⟨br,bD,bB,cu⟩:=su g3.flatten h
     exact⟨bD,.ji aa g2 br bB,cu⟩
   ·cases h
  ·cases h
 case et T size n zero parts=>
  cases an:((parts.map fun p=>bl env p.2).all I.ea&&(((parts.map fun p=>bl env p.2).map I.cells).all (fun r=>r.length==size)&&((parts.map fun p=>bl env p.2).map I.cells).flatten.all I.one)) with
  |false=>rw[an]at h; cases h
  |true=>
   rw[an,cond_true,Option.some.injEq]at h
   subst h
   rw[bb6,bb6]at an
   obtain⟨U,aa,aD⟩:=an
   have hb:=Dt he parts U
   exact⟨_,.oo rfl (hb.G1 aa) (hb.flatten.xD aD),by simp only[aM]; exact⟨_,rfl,hb⟩⟩
structure aN where
 H:aA
 bP:Nat
 bh:Nat
def aN.new:aN:=⟨.none,0,0⟩
def aN.pI (c:aN) (T:TypeId) (cs:List I):aN:=⟨c.H.cp c.bP T cs,c.bP+1,c.bh⟩
def aN.gO (c:aN) (o:bM):aN:=⟨c.H.ck c.bh o,c.bP,c.bh+1⟩
def aN.cp (c:aN) (b:Nat) (T:TypeId) (cs:List I):aN:=⟨c.H.cp b T cs,c.bP,c.bh⟩
def aN.ck (c:aN) (t:Nat) (o:bM):aN:=⟨c.H.ck t o,c.bP,c.bh⟩
structure eR (H0:aA) (s:bx) (c:aN) (H:aA):Prop extends HR H0 s c.H H where
 bP:c.bP=s.b.length
 bh:c.bh=s.t.length
section
variable {P:Program}{s:bx}{env bb:Env}{H0 H:aA}{c:aN}
theorem h8.mono {bR:bx}(e:bx.eH s bR){i dh:bM}(h:h8 s i dh):h8 bR i dh:=by
 obtain⟨U,aa,aD,bA,b6⟩:=h
 refine⟨U,aa,aD,bA,?_⟩
 cases an:i.lu with
 |none=>rw[an]at b6; exact b6
 |some rows=>rw[an]at b6; obtain⟨l,ap,ay⟩:=b6; exact⟨l,ap,cd.mono e _ _ ay⟩
theorem w3 {l:List Nat}{x i y:Nat}(h:(l++[x])[i]? =some y):l[i]? =some y∨(i=l.length∧y=x):=by
 by_cases af:i<l.length
 ·rw[bh0 af]at h
  exact .inl h
 ·rw[bj1 (by omega)]at h
  by_cases aW:i=l.length
  ·subst aW
   simp at h
   exact .inr ⟨rfl,h.symm⟩
  ·have:i-l.length=(i-l.length-1)+1:=by omega
   rw[this]at h
   simp at h
theorem AN {l:List Nat}{x i y:Nat}(h:l[i]? =some y):(l++[x])[i]? =some y:=by
 have af:i<l.length:=(List.getElem?_eq_some_iff.1 h).1
 rw[bh0 af,h]
theorem oj {l:List Nat}{x:Nat}:(l++[x])[l.length]? =some x:=by simp
theorem bx.zt (s:bx) (x:Nat):bx.eH s ⟨s.b++[x],s.t⟩:=⟨fun _ _ h=>AN h,fun _ _ h=>h⟩
theorem bx.lH (s:bx) (x:Nat):bx.eH s ⟨s.b,s.t++[x]⟩:=⟨fun _ _ h=>h,fun _ _ h=>AN h⟩
theorem eR.pI (h:eR H0 s c H){T:TypeId}{cs cC:List I}(an:bk s cs cC){x:Nat}(ab:H.aY x=none):eR H0 ⟨s.b++[x],s.t⟩ (c.pI T cs) (H.cp x T cC) where
 base:=h.base.cp (h.base.vO ab)
 aY:=fun b cG l hb=>by
  simp only[aN.pI,aA.cp]at hb
  split at hb
  ·rename_i e
   subst e
   cases hb
   exact⟨x,cC,by rw[h.bP]; exact oj,by simp [aA.cp],bk.mono (bx.zt s x) _ _ an⟩
  ·obtain⟨y,bZ,g1,g2,g3⟩:=h.aY b cG l hb
   refine⟨y,bZ,AN g1,?_,bk.mono (bx.zt s x) _ _ g3⟩
   simp only[aA.cp]
   rw[if_neg (by intro e; subst e; rw[ab]at g2; cases g2)]
   exact g2
 tok:=fun t i hb=>by
  obtain⟨y,dh,g1,g2,g3⟩:=h.tok t i hb
  exact⟨y,dh,g1,g2,g3.mono (bx.zt s x)⟩
 lj:=fun b y hb=>by
  rcases w3 hb with g|⟨_,rfl⟩
  ·obtain⟨g1,z,g2⟩:=h.lj b y g
   refine⟨g1,z,?_⟩
   simp only[aA.cp]
   rw[if_neg (by intro e; subst e; rw[ab]at g2; cases g2)]
   exact g2
  ·exact⟨h.base.vO ab,(T,cC),by simp [aA.cp]⟩
 kE:=fun t y hb=>h.kE t y hb
 lF:=fun b bT y U aa=>by
  rcases w3 U with g|⟨ap,rfl⟩<;>rcases w3 aa with g'|⟨ay,b1⟩
  ·exact h.lF b bT y g g'
  ·subst b1
   obtain⟨_,z,g2⟩:=h.lj b _ g
   rw[ab]at g2
   cases g2
  ·obtain⟨_,z,g2⟩:=h.lj bT _ g'
   rw[ab]at g2
   cases g2
  ·omega
 mv:=h.mv
 bP:=by simp [aN.pI,h.bP]
 bh:=h.bh
theorem eR.gO (h:eR H0 s c H){o o':bM}(an:h8 s o o'){x:Nat}(ab:H.tok x=none):eR H0 ⟨s.b,s.t++[x]⟩ (c.gO o) (H.ck x o') where
 base:=h.base.ck (h.base.Ow ab)
 tok:=fun b i hb=>by
  simp only[aN.gO,aA.ck]at hb
  split at hb
  ·rename_i e
   subst e
   cases hb
   exact⟨x,o',by rw[h.bh]; exact oj,by simp [aA.ck],an.mono (bx.lH s x)⟩
  ·obtain⟨y,bZ,g1,g2,g3⟩:=h.tok b i hb
   refine⟨y,bZ,AN g1,?_,g3.mono (bx.lH s x)⟩
   simp only[aA.ck]
   rw[if_neg (by intro e; subst e; rw[ab]at g2; cases g2)]
   exact g2
 aY:=fun t T i hb=>by
  obtain⟨y,dh,g1,g2,g3⟩:=h.aY t T i hb
  exact⟨y,dh,g1,g2,bk.mono (bx.lH s x) _ _ g3⟩
 kE:=fun b y hb=>by
  rcases w3 hb with g|⟨_,rfl⟩
  ·obtain⟨g1,z,g2⟩:=h.kE b y g
   refine⟨g1,z,?_⟩
   simp only[aA.ck]
   rw[if_neg (by intro e; subst e; rw[ab]at g2; cases g2)]
   exact g2
  ·exact⟨h.base.Ow ab,o',by simp [aA.ck]⟩
 lj:=fun t y hb=>h.lj t y hb
 mv:=fun b bT y U aa=>by
  rcases w3 U with g|⟨ap,rfl⟩<;>rcases w3 aa with g'|⟨ay,b1⟩
  ·exact h.mv b bT y g g'
  ·subst b1
   obtain⟨_,z,g2⟩:=h.kE b _ g
   rw[ab]at g2
   cases g2
  ·obtain⟨_,z,g2⟩:=h.kE bT _ g'
   rw[ab]at g2
   cases g2
  ·omega
 lF:=h.lF
 bP:=h.bP
 bh:=by simp [aN.gO,h.bh]
theorem eR.cp (h:eR H0 s c H){b x:Nat}(hb:s.b[b]? =some x){T:TypeId}{cs cC:List I}(an:bk s cs cC):eR H0 s (c.cp b T cs) (H.cp x T cC) where
 base:=h.base.cp (h.lj b x hb).1
 aY:=fun bT cG l hi=>by
  simp only[aN.cp,aA.cp]at hi
  split at hi
  ·rename_i e
   subst e
   cases hi
   exact⟨x,cC,hb,by simp [aA.cp],an⟩
  ·rename_i eg
   obtain⟨y,bZ,g1,g2,g3⟩:=h.aY bT cG l hi
   refine⟨y,bZ,g1,?_,g3⟩
   simp only[aA.cp]
   rw[if_neg (by intro e; subst e; exact eg (h.lF _ _ _ g1 hb))]
   exact g2
 tok:=h.tok
 lj:=fun bT y hi=>by
  obtain⟨g1,z,g2⟩:=h.lj bT y hi
  refine⟨g1,?_⟩
  simp only[aA.cp]
  split
  ·exact⟨_,rfl⟩
  ·exact⟨z,g2⟩
 kE:=h.kE
 lF:=h.lF
 mv:=h.mv
 bP:=h.bP
 bh:=h.bh
theorem eR.ck (h:eR H0 s c H){b x:Nat}(hb:s.t[b]? =some x){o o':bM}(an:h8 s o o'):eR H0 s (c.ck b o) (H.ck x o') where
 base:=h.base.ck (h.kE b x hb).1
 tok:=fun bT l hi=>by
  simp only[aN.ck,aA.ck]at hi
  split at hi
  ·rename_i e
   subst e
   cases hi
   exact⟨x,o',hb,by simp [aA.ck],an⟩
  ·rename_i eg
   obtain⟨y,bZ,g1,g2,g3⟩:=h.tok bT l hi
   refine⟨y,bZ,g1,?_,g3⟩
   simp only[aA.ck]
   rw[if_neg (by intro e; subst e; exact eg (h.mv _ _ _ g1 hb))]
   exact g2
 aY:=h.aY
 kE:=fun bT y hi=>by
  obtain⟨g1,z,g2⟩:=h.kE bT y hi
  refine⟨g1,?_⟩
  simp only[aA.ck]
  split
  ·exact⟨_,rfl⟩
  ·exact⟨z,g2⟩
 lj:=h.lj
 lF:=h.lF
 mv:=h.mv
 bP:=h.bP
 bh:=h.bh
theorem eR.start (H:aA):eR H ⟨[],[]⟩ .new H where
 base:=HSub.refl H
 aY:=fun _ _ _ h=>by cases h
 tok:=fun _ _ h=>by cases h
 lj:=fun _ _ h=>by simp at h
 kE:=fun _ _ h=>by simp at h
 lF:=fun _ _ _ h=>by simp at h
 mv:=fun _ _ _ h=>by simp at h
 bP:=rfl
 bh:=rfl
theorem qY: ∀(b:List UInt8),eY (b.map fun c=>[I.int .u8 c.toNat])=true
 |[]=>rfl
 | _::b=>by simp only[bd4,eY,b2,I.flat,qY b]; rfl
theorem Sp {size:Nat}{a cI:I}{rows:List (List I)}(h:aM s a cI) (ac:rowsOf size a=some rows): ∃dT,rowsOf size cI=some dT∧cd s rows dT:=by
 cases a<;>simp only[rowsOf,reduceCtorEq]at ac
 case str b=>
  simp only[aM]at h
  subst h
  refine⟨rows,ac,?_⟩
  split at ac
  ·simp only[Option.some.injEq]at ac
   subst ac
   exact (qC _ (qY b) _).2 rfl
  ·cases ac
 case dV v=>
  simp only[aM]at h
  subst h
  refine⟨rows,ac,?_⟩
  split at ac
  ·rename_i e
   cases e
  ·rename_i e
   cases e
  ·cases ac
   simp [cd]
  ·rename_i e
   cases e
  ·cases ac
 case aq n l=>
  simp only[aM]at h
  obtain⟨bZ,rfl,U⟩:=h
  split at ac
  ·rename_i e
   simp only[Option.some.injEq]at ac
   subst ac
   exact⟨bZ,by simp only[rowsOf,if_pos e],U⟩
  ·cases ac
 case own t n l=>
  simp only[aM]at h
  obtain⟨x,bZ,aW,rfl,U⟩:=h
  split at ac
  ·rename_i e
   simp only[Option.some.injEq]at ac
   subst ac
   exact⟨bZ,by simp only[rowsOf,if_pos e],U⟩
  ·cases ac
end
mutual
def I.aF:I→I
 | .own _ n rows=> .aq n rows
 | .agg cs=> .agg (kn cs)
 | .c3 cs=> .c3 (kn cs)
 | .eD=> .eD
 | .bool b=> .bool b
 | .int k n=> .int k n
 | .str b=> .str b
 | .dV v=> .dV v
 | .ptr b o=> .ptr b o
 | .aq n rows=> .aq n rows
 | .cV t v=> .cV t v
 | .mp t v k=> .mp t v k
 | .ed r o=> .ed r o
 | .fn f c=> .fn f c
 | .hW t v=> .hW t v
def kn:List I→List I
 |[]=>[]
 |a::az=>a.aF::kn az
end
mutual
theorem As {s:bx}{m:Mem}: ∀(a cI:I),aM s a cI→a.aF.flat=true→∀v,aP m cI v→aP m a.aF v
 | .own t n rows,cI,h,aT,v,ad=>by
  simp only[I.aF,I.flat]at aT ⊢
  simp only[aM]at h
  obtain⟨x,l,_,rfl,U⟩:=h
  have:=(qC rows aT l).1 U
  subst this
  simp only[aP]at ad ⊢
  exact ad.1
 | .agg cs,cI,h,aT,v,ad=>by
  simp only[I.aF,I.flat]at aT ⊢
  simp only[aM]at h
  obtain⟨l,rfl,U⟩:=h
  simp only[aP]at ad ⊢
  obtain⟨qQ,ap,ay⟩:=ad
  exact⟨qQ,ap,HG cs l U aT qQ ay⟩
 | .c3 cs,cI,h,aT,v,ad=>by
  simp only[I.aF,I.flat]at aT ⊢
  simp only[aM]at h
  obtain⟨l,rfl,U⟩:=h
  simp only[aP]at ad ⊢
  obtain⟨qQ,ap,ay⟩:=ad
  exact⟨qQ,ap,HG cs l U aT qQ ay⟩
 | .eD,cI,h,aT,v,ad=>by simp only[I.aF,aP]
 | .bool b,cI,h,aT,v,ad=>by simp only[I.aF]at aT ⊢; rw[I.lA _ aT]at h; subst h; exact ad
 | .int k n,cI,h,aT,v,ad=>by simp only[I.aF]at aT ⊢; rw[I.lA _ aT]at h; subst h; exact ad
 | .str b,cI,h,aT,v,ad=>by simp only[I.aF]at aT ⊢; rw[I.lA _ aT]at h; subst h; exact ad
 | .dV b,cI,h,aT,v,ad=>by simp only[I.aF]at aT ⊢; rw[I.lA _ aT]at h; subst h; exact ad
 | .ptr b o,cI,h,aT,v,ad=>by simp only[I.aF,I.flat]at aT; cases aT
 | .aq n rows,cI,h,aT,v,ad=>by simp only[I.aF]at aT ⊢; rw[I.lA _ aT]at h; subst h; exact ad
 | .cV t aU,cI,h,aT,v,ad=>by simp only[I.aF,I.flat]at aT; cases aT
 | .mp t aU k,cI,h,aT,v,ad=>by simp only[I.aF,I.flat]at aT; cases aT
 | .ed r o,cI,h,aT,v,ad=>by simp only[I.aF]at aT ⊢; rw[I.lA _ aT]at h; subst h; exact ad
 | .fn f c,cI,h,aT,v,ad=>by simp only[I.aF]at aT ⊢; rw[I.lA _ aT]at h; subst h; exact ad
 | .hW t x,cI,h,aT,v,ad=>by simp only[I.aF]at aT ⊢; rw[I.lA _ aT]at h; subst h; exact ad
theorem HG {s:bx}{m:Mem}: ∀(az l:List I),bk s az l→b2 (kn az)=true→∀qQ,aR m l qQ→aR m (kn az) qQ
 |[],l,h,_,qQ,ad=>by
  simp only[bk]at h
  subst h
  simpa only[kn] using ad
 |a::az,l,h,aT,qQ,ad=>by
  simp only[bk]at h
  obtain⟨cI,bZ,rfl,U,aa⟩:=h
  simp only[kn,b2,bb6]at aT ⊢
  simp only[aR]at ad ⊢
  obtain⟨v,aq,ap,ay,b1⟩:=ad
  exact⟨v,aq,ap,As a cI U aT.1 v ay,HG az bZ aa aT.2 aq b1⟩
end
theorem HH {s:bx}: ∀(az l:List I),bk s az l→b2 (kn az)=true→dZ l (kn az)
 |[],l,h,_=>by
  simp only[bk]at h
  subst h
  simp only[kn,dZ]
 |a::az,l,h,aT=>by
  simp only[bk]at h
  obtain⟨cI,bZ,rfl,U,aa⟩:=h
  simp only[kn,b2,bb6]at aT ⊢
  simp only[dZ]
  exact⟨_,_,rfl,fun m v ad=>As a cI U aT.1 v ad,HH az bZ aa aT.2⟩
def qv (env:Env) (parts:List (Nat×aJ)):List (List I):=(parts.map fun p=>bl env p.2).map I.cells
def rs (env:Env) (size:Nat) (parts:List (Nat×aJ)):Bool:=(parts.map fun p=>bl env p.2).all I.ea&&((qv env parts).all (fun r=>r.length==size)&&((qv env parts).flatten.all I.one&& !(size==0)))
abbrev wu:=FuncId→List I→aN→Option (I×aN)
def chunks (size:Nat):Nat→List I→List (List I)
 |0,_=>[]
 |n+1,l=>l.take size::chunks size n (l.drop size)
theorem Jj (size:Nat): ∀(n:Nat) (l:List I),l.length=n*size→(chunks size n l).flatten=l∧(∀r∈chunks size n l,r.length=size)∧(chunks size n l).length=n
 |0,l,h=>by
  have:l=[]:=List.length_eq_zero_iff.1 (by omega)
  subst this
  simp [chunks]
 |n+1,l,h=>by
  have ao:size≤l.length:=by rw[h,bf3]; omega
  obtain⟨ap,ay,b1⟩:=Jj size n (l.drop size) (by rw[bl7,h,bf3]; omega)
  refine⟨by simp only[chunks,List.flatten_cons,ap,List.take_append_drop],fun r ac=> ?_,by simp only[chunks,bb9,b1]⟩
  simp only[chunks,be4]at ac
  rcases ac with rfl|ac
  ·rw[be9]; omega
  ·exact ay r ac
theorem Jk {s:bx}(size:Nat): ∀(n:Nat) (l bZ:List I),bk s l bZ→cd s (chunks size n l) (chunks size n bZ)
 |0,_,_,_=>by simp [chunks,cd]
 |n+1,l,bZ,h=>by simp only[chunks,cd]; exact⟨_,_,rfl,h.take size,Jk size n _ _ (h.drop size)⟩
def tw (c:aN) (b o n:Nat) (x:I):Option (I×aN):=
 match c.H.aY b with
 |some (T,cs)=>bif (x.ea&&x.cells.length==n)&&(be1 (o+n) cs.length&&x.cells.all I.one) then some (.undef,c.cp b T (gg cs o x.cells)) else none
 |none=>none
def yx (c:aN) (t aU k n:Nat) (x:I):Option (I×aN):=
 match c.H.tok t with
 |some ⟨T,size,0,gX,some rows⟩=>
  bif (gX==aU&&(x.ea&&x.cells.length==n))&&((be1 (k+n) rows.flatten.length&&x.cells.all I.one)&&rows.flatten.length==rows.length*size) then some (.undef,c.ck t (.bC T size aU (chunks size rows.length (gg rows.flatten k x.cells)))) else none
 | _=>none
def DH (c:aN) (T size bytes:Nat) (x:I) (new:List (List I)):Option (I×aN):=
 match x with
 | .dV (.slice none 0 0)=>bif be1 (new.length*bytes) 140737488355328&&(be1 new.length maxLen&& !(size==0)) then some (.own c.bh size new,c.gO (.bY T size new.length)) else none
 | .own t kG rows=>match c.H.tok t with
  |some ⟨cG,z,n,aU,none⟩=>bif (cG==T&&(z==size&&(n==rows.length&&(aU==rows.length&&kG==size))))&&(be1 ((rows.length+new.length)*bytes) 140737488355328&&be1 (rows.length+new.length) maxLen) then some (.own t size (rows++new),c.ck t (.bY T size (rows.length+new.length))) else none
  | _=>none
 | _=>none
def DI (c:aN) (T size bytes:Nat) (x:I) (new:List (List I)):Option (I×aN):=
 match x with
 | .dV (.slice none 0 0)=>bif be1 (new.length*bytes) 140737488355328&&(be1 new.length maxLen&& !(size==0)) then some (.cV c.bh 0,c.gO (.bC T size 0 new)) else none
 | .cV t aU=>match c.H.tok t with
  |some ⟨cG,z,0,gX,some rows⟩=>bif (cG==T&&(z==size&&gX==aU))&&(be1 ((rows.length+new.length)*bytes) 140737488355328&&be1 (rows.length+new.length) maxLen) then some (.cV t (aU+1),c.ck t (.bC T size (aU+1) (rows++new))) else none
  | _=>none
 | _=>none
def DP (c:aN) (env:Env) (size t aU:Nat) (b3 af:Option aJ):Option (I×aN):=
 match c.H.tok t with
 |some ⟨T,kG,0,gX,some rows⟩=>match mL env 0 b3,mL env rows.length af with
  |some q,some h=>bif (gX==aU&&kG==size)&&(be1 h rows.length&&be1 q h) then some (.cV t (aU+1),c.ck t (.bC T size (aU+1) ((rows.take h).drop q))) else none
  | _,_=>none
 | _=>none
def DM (c:aN) (t aU:Nat) (s:List UInt8) (v:I):Option (I×aN):=
 match c.H.tok t with
 |some ⟨T,2,1,gX,some rows⟩=>bif gX==aU&&v.one then (kC s v rows).map fun r=>(.undef,c.ck t (.be T aU r)) else none
 | _=>none
def io (env:Env) (b j:Nat):Bool:=
 match env.get j with
 | .ptr il 0=> !(il==b)
 | _=>false
def lx (cvs:List FuncId) (cl:wu) (op:bc) (env:Env) (c:aN):Option (I×aN):=
 match op with
 | .box T x=>bif (bl env x).ea&&(bl env x).cells.all I.one then some (.ptr c.bP 0,c.pI T (bl env x).cells) else none
 | .alloc T zero=>bif b2 zero&&zero.all I.one then some (.ptr c.bP 0,c.pI T zero) else none
 | .lr T size n zero parts=>bif rs env size parts then some (.own c.bh size (qv env parts),c.gO (.bY T size (qv env parts).length)) else none
 | .ma T size n zero parts=>bif rs env size parts then some (.cV c.bh 0,c.gO (.bC T size 0 (qv env parts))) else none
 | .nC T size bytes zero x=>match bl env x with
  | .int _ (.ofNat n)=>bif be1 (bytes*n) 281474976710656&&(be1 n maxLen&&(b2 zero&&(zero.all I.one&&(zero.length==size&& !(size==0))))) then some (.cV c.bh 0,c.gO (.bC T size 0 (bc9 n zero))) else none
  | _=>none
 | .mkMap T=>some (.cV c.bh 0,c.gO (.be T 0 []))
 | .append T size bytes x y=>match rowsOf size (bl env y) with
  |some new=>DH c T size bytes (bl env x) new
  |none=>none
 | .mJ T size bytes x y=>match rowsOf size (bl env y) with
  |some new=>DI c T size bytes (bl env x) new
  |none=>none
 | .mZ size x b3 af=>match bl env x with
  | .cV t aU=>DP c env size t aU b3 af
  | _=>none
 | .store n a v=>match bl env a with
  | .ptr b o=>tw c b o n (bl env v)
  | .mp t aU k=>yx c t aU k n (bl env v)
  | _=>none
 | .gK e3 others n a v=>match env.get e3,bl env a with
  | .ptr b 0,.ptr bT o=>bif bT==b&&others.all (io env b) then tw c b o n (bl env v) else none
  | _,_=>none
 | .nB x k v=>match bl env x,bl env k with
  | .cV t aU,.str s=>DM c t aU s (bl env v)
  | _,_=>none
 | .call f args=>cl f (args.map (bl env)) c
 | .gj x args=>match bl env x with
  | .fn f cap=>bif cvs.contains f then cl f (args.map (bl env)++cap) c else bif be1 jp f&&cvs.contains (f-jp) then cl (f-jp) (cap++args.map (bl env)) c else none
  | _=>none
 |op=>(fe op env c.H).map fun v=>(v,c)
end Go.ba
