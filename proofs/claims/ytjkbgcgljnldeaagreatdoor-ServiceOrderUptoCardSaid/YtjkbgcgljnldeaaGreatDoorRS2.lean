/- Part of a proof; own work. -/
import Derived.Orders
import Derived.Test.YtjkbgcgljnldeaaGreatDoorRS1
set_option linter.unusedVariables false
set_option linter.unusedSimpArgs false
namespace Go.bc
open Go
section
variable {P:Program}{m:Mem}{env:Env}{a:Act}{o:Oper}
theorem aF3 {w:World}{b o:Nat}{l new:List Value}(h:o+new.length≤l.length):(((⟨l⟩:Array Value).toList.take (o+0)++new++(⟨l⟩:Array Value).toList.drop (o+0+new.length)).toArray)=(⟨gZ l o new⟩:Array Value):=by
 simp [gZ]
set_option maxHeartbeats 4000000 in
theorem Ms {cD:Nat}{a0 v0:aK}{K Rp:I→aA→Prop}{tG:Act→World→Prop}{Q:Exit→Act→World→Prop}(ap:ie P (.store cD a0 v0) env m.H K Rp) (ah:br P o.op (.store cD a0 v0)=true) (bo:b5 m) (he:dJ m env a.tmps)
  (h: ∀x aX v,K x aX.H→b5 aX→b0 m aX→aR aX x v→tG (a.put o.dst v) aX.w)
  (hp: ∀x aX v,Rp x aX.H→b5 aX→b0 m aX→aR aX x v→Q (.panic [{v,recovered:=false}]) a aX.w):o.wp P a m.w tG Q:=by
 cases ap with
 |ia d bw aC=>exact IA bw ah bo he fun x aX v J aa au bn bL=>h _ aX v (aa▸aC x J) au bn bL
 |store aP hb a6 aH j1 aC=>
  cases aq:o.op<;>try (simp [aq,br]at ah; done)
  rename_i b p T cs t x y
  rw[aq]at ah
  simp only[br,Bool.and_eq_true,decide_eq_true_eq]at ah
  obtain⟨⟨c1,c2⟩,gg⟩:=ah
  have ab:=dl he c2
  rw[aP]at ab
  obtain⟨g1,g2⟩:=Ay (dl he gg) j1
  have hlen:=aS.length g1
  obtain⟨l,bO,b4,cJ⟩:=bo.aU b T cs hb
  have j9:=aS.length b4
  have lc:=run_storeCells_at P b p T (a.eval y).cells.toList 0 ⟨l⟩ m.w bO (by simp only[List.size_toArray]; omega) g2
  rw[aF3 (w:=m.w) (b:=b) (by omega)]at lc
  have dm:(a.eval y).cells.size=cD:=by rw[←Array.length_toList,hlen]; exact a6
  have k9:(execOp a.eval o).run P m.w= .ok .skip (m.w.setRow b ⟨gZ l p (a.eval y).cells.toList⟩):=by
   simp only[execOp,aq,Instr.storeAt,uJ ab,Instr.sureAddr,Sem.run_bind,Sem.run_pure,Result.andThen_ok,storeVar,mF c1,Sem.run_ite,dm,ne_eq,not_true_eq_false,if_false,lc]
  have hw: ∀k,k≠b→(m.w.setRow b ⟨gZ l p (a.eval y).cells.toList⟩).heap[k]? =m.w.heap[k]? :=fun k aC=>setRow_other m.w b k _ aC
  have ZS:=F2 b4 g1 p
  have Br: ∀v∈gZ l p (a.eval y).cells.toList,v.oneCell'=true:=by
   intro v af
   simp only[gZ,List.mem_append]at af
   rcases af with (af|af)|af
   ·exact cJ v (List.mem_of_mem_take af)
   ·exact g2 v af
   ·exact cJ v (List.mem_of_mem_drop af)
  have FO:=b5.jS bo (w':=m.w.setRow b ⟨gZ l p (a.eval y).cells.toList⟩) (T:=T) (cs:=gx cs p (aK.aJ env v0).cells) (l:=gZ l p (a.eval y).cells.toList) hb rfl rfl rfl (by simp) hw (setRow_heap m.w b _ _ T (0,0) bO) ZS Br
  have DH:=b0.jS bo (w':=m.w.setRow b ⟨gZ l p (a.eval y).cells.toList⟩) (T:=T) (cs:=gx cs p (aK.aJ env v0).cells) hb rfl rfl rfl (by simp) hw
  simp only[Oper.wp,k9,Oper.upon]
  exact h _ _ Go.undef aC FO DH (by simp only[aR])
 |uO aP aO a6 aH j1 aW ag hlen aC=>
  cases aq:o.op<;>try (simp [aq,br]at ah; done)
  rename_i t bg k T size rows gC ty x y
  rw[aq]at ah
  simp only[br,Bool.and_eq_true,decide_eq_true_eq]at ah
  obtain⟨⟨c1,c2⟩,gg⟩:=ah
  have ab:=dl he c2
  rw[aP]at ab
  obtain⟨g1,g2⟩:=Ay (dl he gg) j1
  obtain⟨g,aX,bO,b4,cJ,fk,jQ⟩:=RY (P:=P) bo ab aO (by rw[a6]; exact aH) g1 g2 aW ag hlen
  have dm:(a.eval y).cells.size=cD:=by rw[←Array.length_toList,aS.length g1]; exact a6
  have k9:(execOp a.eval o).run P m.w= .ok .skip aX.w:=by
   simp only[execOp,aq,Instr.storeAt,bO,Instr.sureAddr,Sem.run_bind,Sem.run_pure,Result.andThen_ok,storeVar,mF c1,Sem.run_ite,dm,ne_eq,not_true_eq_false,if_false,b4]
  simp only[Oper.wp,k9,Oper.upon]
  exact h _ aX Go.undef (jQ▸aC) cJ fk (by simp only[aR])
set_option maxHeartbeats 4000000 in
theorem ab8 {e:bj}{K Rp:I→aA→Prop}{tG:Act→World→Prop}{Q:Exit→Act→World→Prop}(ap:ie P e env m.H K Rp) (ah:br P o.op e=true) (bo:b5 m) (he:dJ m env a.tmps)
  (h: ∀x aX v,K x aX.H→b5 aX→b0 m aX→aR aX x v→tG (a.put o.dst v) aX.w)
  (hp: ∀x aX v,Rp x aX.H→b5 aX→b0 m aX→aR aX x v→Q (.panic [{v,recovered:=false}]) a aX.w):o.wp P a m.w tG Q:=by
 cases ap with
 |ia d bw aC=>exact IA bw ah bo he fun x aX v J aa au bn bL=>h _ aX v (aa▸aC x J) au bn bL
 |store aP hb a6 aH j1 aC=>exact Ms (.store aP hb a6 aH j1 aC) ah bo he h hp
 |fh oZ mu aP hb a6 aH j1 aC=>
  refine Ms (.store aP hb a6 aH j1 aC) ?_ bo he h hp
  cases aq:o.op<;>try (simp [aq,br]at ah; done)
  rw[aq]at ah
  exact ah
 |append ab aO aZ hb hm aC=>
  cases aq:o.op<;>try (simp [aq,br]at ah; done)
  rename_i T size bytes x y dC rows new c
  obtain⟨callee,args,argTypes⟩:=c
  rw[aq]at ah
  cases callee with
  |value f=>simp [br]at ah
  |invoke _ _=>simp [br]at ah
  |builtin b=>
   cases b<;>simp only[br]at ah<;>first
    |(cases ah; done)
    |skip
   simp only[Bool.and_eq_true]at ah
   obtain⟨c1,c2⟩:=ah
   split at c2
   ·rename_i t u gj
    obtain⟨A⟩:=Ao c2
    obtain rfl:=tO gj
    have rP: ∃p q,args= #[p,q]∧cZ p x=true∧cZ q y=true:=by
     match aH:args.toList with
     |[p,q]=>rw[aH]at c1; simp only[gh,Bool.and_eq_true]at c1; exact⟨p,q,tO aH,c1.1,c1.2.1⟩
     |[]=>rw[aH]at c1; simp [gh]at c1
     |[_]=>rw[aH]at c1; simp [gh]at c1
     | _:: _:: _:: _=>rw[aH]at c1; simp [gh]at c1
    obtain⟨p,q,rfl,ar,ax⟩:=rP
    have hp:=dl he ar
    rw[ab]at hp
    obtain⟨news,S⟩:=Cs (P:=P) (dl he ax) aZ
    obtain⟨aX,v,bO,b4,cJ,fk,jQ⟩:=Tj (ty:=o.type) A bo hp aO S hb hm
    refine nY (v:=v) (w':=aX.w) ?_ (h _ aX v (fk▸aC) b4 cJ jQ)
    simp [execOp,aq,resolve,invoke,builtin,bO]
   ·cases c2
 |nz ab aO aZ hb hm aC=>
  cases aq:o.op<;>try (simp [aq,br]at ah; done)
  rename_i T size bytes x y dC bg rows new c
  obtain⟨callee,args,argTypes⟩:=c
  rw[aq]at ah
  cases callee with
  |value f=>simp [br]at ah
  |invoke _ _=>simp [br]at ah
  |builtin b=>
   cases b<;>simp only[br]at ah<;>first
    |(cases ah; done)
    |skip
   simp only[Bool.and_eq_true]at ah
   obtain⟨c1,c2⟩:=ah
   split at c2
   ·rename_i t u gj
    obtain⟨A⟩:=Ao c2
    obtain rfl:=tO gj
    have rP: ∃p q,args= #[p,q]∧cZ p x=true∧cZ q y=true:=by
     match aH:args.toList with
     |[p,q]=>rw[aH]at c1; simp only[gh,Bool.and_eq_true]at c1; exact⟨p,q,tO aH,c1.1,c1.2.1⟩
     |[]=>rw[aH]at c1; simp [gh]at c1
     |[_]=>rw[aH]at c1; simp [gh]at c1
     | _:: _:: _:: _=>rw[aH]at c1; simp [gh]at c1
    obtain⟨p,q,rfl,ar,ax⟩:=rP
    have hp:=dl he ar
    rw[ab]at hp
    obtain⟨news,S⟩:=Cs (P:=P) (dl he ax) aZ
    obtain⟨aX,v,bO,b4,cJ,fk,jQ⟩:=Tg (ty:=o.type) A bo hp aO S hb hm
    refine nY (v:=v) (w':=aX.w) ?_ (h _ aX v (fk▸aC) b4 cJ jQ)
    simp [execOp,aq,resolve,invoke,builtin,bO]
   ·cases c2
 |vA ab aC=>
  cases aq:o.op<;>try (simp [aq,br]at ah; done)
  rename_i neg x size rows op t u v w
  obtain⟨b,w',bO,b4⟩:=WL (P:=P) (m:=m) he aq ah ab
  exact nY bO (h _ m w' (aC b) bo (b0.refl m) b4)
 |nW ab aO aH bh J aC=>
  cases aq:o.op<;>try (simp [aq,br]at ah; done)
  rename_i lI
  have Ej:lI=none:=by
   cases lI with
   |none=>rfl
   |some q=>rw[aq]at ah; simp [br]at ah
  subst Ej
  obtain⟨aX,v,jP,bO,b4,cJ,fk⟩:=WR he bo aq ah ab aO aH bh J
  exact nY jP (h _ aX v (cJ▸aC) bO b4 fk)
 |uO aP aO a6 aH j1 aW ag hlen aC=>
  cases aq:o.op<;>try (simp [aq,br]at ah; done)
  rename_i n ir v t bg k T size rows gC ty x y
  rw[aq]at ah
  simp only[br,Bool.and_eq_true,decide_eq_true_eq]at ah
  obtain⟨⟨c1,c2⟩,gg⟩:=ah
  have ab:=dl he c2
  rw[aP]at ab
  obtain⟨g1,g2⟩:=Ay (dl he gg) j1
  obtain⟨g,aX,bO,b4,cJ,fk,jQ⟩:=RY (P:=P) bo ab aO (by rw[a6]; exact aH) g1 g2 aW ag hlen
  have dm:(a.eval y).cells.size=n:=by rw[←Array.length_toList,aS.length g1]; exact a6
  have k9:(execOp a.eval o).run P m.w= .ok .skip aX.w:=by
   simp only[execOp,aq,Instr.storeAt,bO,Instr.sureAddr,Sem.run_bind,Sem.run_pure,Result.andThen_ok,storeVar,mF c1,Sem.run_ite,dm,ne_eq,not_true_eq_false,if_false,b4]
  simp only[Oper.wp,k9,Oper.upon]
  exact h _ aX Go.undef (jQ▸aC) cJ fk (by simp only[aR])
 |call uX aP vr aC=>
  cases aq:o.op<;>try (simp [aq,br]at ah; done)
  rename_i f args az c
  obtain⟨callee,fx,argTypes⟩:=c
  rw[aq]at ah
  cases callee with
  |builtin b=>cases b<;>simp [br]at ah
  |invoke _ _=>simp [br]at ah
  |value g=>
   simp only[br,Bool.and_eq_true]at ah
   obtain⟨⟨c1,c2⟩,gg⟩:=ah
   split at c1
   ·rename_i ju
    have:ju=f:=by simpa using c1
    subst this
    refine tA (zA aq rfl rfl gg m.w) ?_
    have aH:=rn aP (oO he c2)
    have fa:(fx.map a.eval)=⟨fx.toList.map a.eval⟩:=Array.ext' (by simp)
    rw[show ({callee:=Callee.value (Operand.func ju),args:=fx,argTypes:=argTypes}:Call).args.map a.eval=⟨fx.toList.map a.eval⟩ from fa]
    exact sB bo aH vr (fun dn aX v ag bO b4 cJ=>h _ aX v (aC _ _ ag) bO b4 cJ) (fun dn aX v ag bO b4 cJ=>hp _ aX v (aC _ _ ag) bO b4 cJ)
   ·cases c1
 |hM uX mu hex aP vr aC=>
  cases aq:o.op<;>try (simp [aq,br]at ah; done)
  rename_i others f args az c
  obtain⟨callee,fx,argTypes⟩:=c
  rw[aq]at ah
  cases callee with
  |builtin b=>cases b<;>simp [br]at ah
  |invoke _ _=>simp [br]at ah
  |value g=>
   simp only[br,Bool.and_eq_true]at ah
   obtain⟨⟨c1,c2⟩,gg⟩:=ah
   split at c1
   ·rename_i ju
    have:ju=f:=by simpa using c1
    subst this
    refine tA (zA aq rfl rfl gg m.w) ?_
    have aH:=rn aP (oO he c2)
    have fa:(fx.map a.eval)=⟨fx.toList.map a.eval⟩:=Array.ext' (by simp)
    rw[show ({callee:=Callee.value (Operand.func ju),args:=fx,argTypes:=argTypes}:Call).args.map a.eval=⟨fx.toList.map a.eval⟩ from fa]
    exact sB bo aH vr (fun dn aX v ag bO b4 cJ=>h _ aX v (aC _ _ ag) bO b4 cJ) (fun dn aX v ag bO b4 cJ=>hp _ aX v (aC _ _ ag) bO b4 cJ)
   ·cases c1
 |fw uX ab aW aP vr aC=>
  cases aq:o.op<;>try (simp [aq,br]at ah; done)
  rename_i x args f cap az c
  obtain⟨callee,fx,argTypes⟩:=c
  rw[aq]at ah
  cases callee with
  |builtin b=>cases b<;>simp [br]at ah
  |invoke _ _=>simp [br]at ah
  |value g=>
   simp only[br,Bool.and_eq_true]at ah
   obtain⟨c1,c2⟩:=ah
   have aY:=dl he c1
   rw[ab]at aY
   obtain⟨l,g1,g2⟩:=xK aY
   refine tA (FX aq rfl g1 aW m.w) ?_
   have aH:=rn aP (aS.append (oO he c2) g2)
   have fa:(fx.map a.eval)++⟨l⟩=⟨fx.toList.map a.eval++l⟩:=by
    apply Array.ext'
    simp
   rw[show ({callee:=Callee.value g,args:=fx,argTypes:=argTypes}:Call).args.map a.eval++⟨l⟩=⟨fx.toList.map a.eval++l⟩ from fa]
   exact sB bo aH vr (fun dn aX v ag bO b4 cJ=>h _ aX v (aC _ _ ag) bO b4 cJ) (fun dn aX v ag bO b4 cJ=>hp _ aX v (aC _ _ ag) bO b4 cJ)
 |sJ uX ab aW aP vr aC=>
  cases aq:o.op<;>try (simp [aq,br]at ah; done)
  rename_i x args f cap az c
  obtain⟨callee,fx,argTypes⟩:=c
  rw[aq]at ah
  cases callee with
  |builtin b=>cases b<;>simp [br]at ah
  |invoke _ _=>simp [br]at ah
  |value g=>
   simp only[br,Bool.and_eq_true]at ah
   obtain⟨c1,c2⟩:=ah
   have aY:=dl he c1
   rw[ab]at aY
   obtain⟨l,g1,g2⟩:=xK aY
   refine tA (aE0 aq rfl g1 aW m.w) ?_
   have aH:=rn aP (aS.append g2 (oO he c2))
   have fa:⟨l⟩++(fx.map a.eval)=⟨l++fx.toList.map a.eval⟩:=by
    apply Array.ext'
    simp
   rw[show ⟨l⟩++({callee:=Callee.value g,args:=fx,argTypes:=argTypes}:Call).args.map a.eval=⟨l++fx.toList.map a.eval⟩ from fa]
   exact sB bo aH vr (fun dn aX v ag bO b4 cJ=>h _ aX v (aC _ _ ag) bO b4 cJ) (fun dn aX v ag bO b4 cJ=>hp _ aX v (aC _ _ ag) bO b4 cJ)
 |xQ ab hb aW ag aH aw hm aC=>
  cases aq:o.op<;>try (simp [aq,br]at ah; done)
  rename_i len size cY b T cs rows t x cz ai lI
  rw[aq]at ah
  cases cz<;>cases ai<;>cases lI<;>simp only[br,Bool.and_eq_true]at ah<;>first
   |(cases ah; done)
   |skip
  obtain⟨c1,c2⟩:=ah
  have ot:=dl he c1
  rw[ab]at ot
  split at c2
  ·rename_i n e hu
   simp only[Bool.and_eq_true,decide_eq_true_eq]at c2
   obtain⟨rfl,dm⟩:=c2
   have k9:(execOp a.eval o).run P m.w= .ok (.value (.slice (some ⟨b,0,none⟩) n n)) m.w:=by
    have a6: ¬n=0:=by omega
    simp [execOp,aq,Instr.sliceAt,Instr.sliceBounds,run_underlying hu,uJ ot,Instr.sureAddr,asAddr,mF dm,nx,a6]
   have ap:=HSub.oP m.H b
   have bO:b5 ⟨m.w,m.H.oP b,m.L,m.T⟩:=b5.forget ap bo
   have v1:b0 m ⟨m.w,m.H.oP b,m.L,m.T⟩:=b0.forget ap (b0.refl m)
   obtain⟨l,g1,g2,g3⟩:=bo.aU b T cs hb
   have cK:b<m.w.heap.size:=(Array.getElem?_eq_some_iff.1 g1).1
   refine nY k9 (h _ ⟨m.w,m.H.oP b,m.L,m.T⟩ _ aC bO v1 ?_)
   simp only[aR]
   refine⟨_,_,_,rfl,aH.symm,⟨Nat.le_refl _,hm⟩,.inr ⟨b,0,rfl,dE.of ag (l:=l) (by rw[aW]; exact aS.forget (w:=m.w) (L:=m.L) (T:=m.T) ap _ _ g2) fun j v bq=>⟨?_,g3 v (List.mem_of_getElem? bq),cK,by simp [aA.oP],fun dx i aO D6=> ?_⟩⟩⟩
   ·rw[Nat.zero_add,cell_of_row m.w b _ _ _ _ g1]
    simpa using bq
   ·have:=((bo.tok dx i aO).2.2.2 b D6).1
    rw[this]at hb
    cases hb
  ·cases c2
 |panic ab aC=>
  cases aq:o.op<;>try (simp [aq,br]at ah; done)
  rename_i x t ir y
  rw[aq]at ah
  simp only[br]at ah
  have af:=dl he ah
  rw[ab]at af
  have ZY:=af
  simp only[aR]at af
  obtain⟨u,hu,_⟩:=af
  have k9:(execOp a.eval o).run P m.w= .halt (.panic (a.eval y)) m.w:=by
   simp [execOp,aq,hu,Instr.panic]
  simp only[Oper.wp,k9,Oper.upon]
  exact hp _ m _ aC bo (b0.refl m) ZY
end
structure mh where
 m:Mem
 D:List Deferred
 kt:List Env
def mh.free (md:mh) (i:bP):Prop:=∀E∈md.kt,∀p∈E,i.dst≠some p.1
def Rel (n:Nat) (m0:mh) (env:Env) (H:aA) (a:Act) (w:World):Prop:=
 ∃m:Mem,m.w=w∧m.H=H∧b5 m∧b0 m0.m m∧dJ m env a.tmps∧(a.defers=m0.D∧∀E∈m0.kt,dJ m E a.tmps)∧a.tmps.size=n
theorem RO {m aX:Mem}{env:Env}{a:Act}{n:Nat}{dst:Option Nat}{x:I}{v:Value}(he:dJ m env a.tmps) (aJ:b0 m aX) (af:aR aX x v) (a6:a.tmps.size=n) (bw: ∀d,dst=some d→d<n):dJ aX (env.put dst x) (a.put dst v).tmps:=by
 intro k
 cases dst with
 |none=>exact aR.aJ aJ _ _ (he k)
 |some d=>
  have cK:=bw d rfl
  simp only[Env.put,Env.get,Act.put]
  by_cases e:d=k
  ·subst e
   simp only[beq_self_eq_true,cond_true]
   have:(a.tmps.setIfInBounds d v).getD d undef=v:=by
    simp [Array.getD_eq_getD_getElem?,a6,cK]
   rw[this]
   exact af
  ·have hb:(d==k)=false:=by simpa using e
   simp only[hb,cond_false]
   have:(a.tmps.setIfInBounds d v).getD k undef=a.tmps.getD k undef:=by
    simp [Array.getD_eq_getD_getElem?,Array.getElem?_setIfInBounds_ne e]
   rw[this]
   exact aR.aJ aJ _ _ (he k)
theorem put_defers (a:Act) (dst:Option Nat) (v:Value):(a.put dst v).defers=a.defers:=by cases dst<;>rfl
theorem ar8 (a:Act) (dst:Option Nat) (v:Value):(a.put dst v).tmps.size=a.tmps.size:=by cases dst<;>simp [Act.put]
theorem Xu {env:Env}{k:Nat}(h: ∀p∈env,p.1≠k):env.get k= .ew:=by
 induction env with
 |nil=>rfl
 |cons p env cv=>
  obtain⟨j,v⟩:=p
  have:(j==k)=false:=by simpa using h (j,v) (by simp)
  simp only[Env.get,this,cond_false]
  exact cv fun q bG=>h q (by simp [bG])
theorem F0 {m aX:Mem}{kt:Env}{a:Act}{dst:Option Nat}{v:Value}(he:dJ m kt a.tmps) (aJ:b0 m aX) (aW: ∀p∈kt,dst≠some p.1):dJ aX kt (a.put dst v).tmps:=by
 intro k
 cases dst with
 |none=>exact aR.aJ aJ _ _ (he k)
 |some d=>
  by_cases e:d=k
  ·subst e
   rw[Xu fun p hp e=>aW p hp (by rw[e])]
   simp only[aR]
  ·have:(a.put (some d) v).tmps.getD k undef=a.tmps.getD k undef:=by
    simp [Act.put,Array.getD_eq_getD_getElem?,Array.getElem?_setIfInBounds_ne e]
   rw[this]
   exact aR.aJ aJ _ _ (he k)
theorem Ry {n:Nat}{m0:mh}{m aX:Mem}{env:Env}{a:Act}{dst:Option Nat}{x:I}{v:Value}(he:dJ m env a.tmps) (bE:b0 m0.m m) (aJ:b0 m aX) (bo:b5 aX) (af:aR aX x v) (gi:a.defers=m0.D∧∀E∈m0.kt,dJ m E a.tmps) (a6:a.tmps.size=n) (bw: ∀d,dst=some d→d<n) (aW: ∀E∈m0.kt,∀p∈E,dst≠some p.1):Rel n m0 (env.put dst x) aX.H (a.put dst v) aX.w:=
 ⟨aX,rfl,rfl,bo,bE.trans aJ,RO he aJ af a6 bw,⟨by rw[put_defers,gi.1],fun E dc=>F0 (gi.2 E dc) aJ (aW E dc)⟩,by rw[ar8,a6]⟩
theorem Wj {P:Program}{n:Nat}{ops:Array Oper}{o:Oper}{i:bP}(h:pD P n ops o i=true):o.dst=i.dst∧(∀d,i.dst=some d→d<n)∧Az ops o.guard i.guard=true∧br P o.op i.op=true∧(∀t w,i.guard=some (t,w)→t<n):=by
 simp only[pD,Bool.and_eq_true,decide_eq_true_eq]at h
 obtain⟨⟨⟨⟨J,aa⟩,bL⟩,au⟩,bn⟩:=h
 refine⟨J,fun d bw=> ?_,au,bn,fun t w aY=> ?_⟩
 ·rw[bw]at aa
  simp [Nat.blt_eq]at aa
  exact aa
 ·rw[aY]at bL
  simp [Nat.blt_eq]at bL
  exact bL
theorem SD {m:Mem}{env:Env}{ops:Array Oper}{o:Oper}{i:bP}{tmps:Array Value}{b:Bool}(aY:Az ops o.guard i.guard=true) (he:dJ m env tmps) (hw:wanted i env=some b) (dm: ∀j w,i.guard=some (j,w)→j<tmps.size):Region.wanted o (yielded ops tmps)=b:=by
 unfold wanted at hw
 unfold Az at aY
 cases aq:o.guard with
 |none=>
  cases ai:i.guard with
  |none=>rw[ai]at hw; simp at hw; subst hw; simp [Region.wanted,aq]
  |some _=>rw[aq,ai]at aY; cases aY
 |some EF=>
  obtain⟨j,w⟩:=EF
  cases ai:i.guard with
  |none=>rw[aq,ai]at aY; cases aY
  |some dH=>
   obtain⟨t,w'⟩:=dH
   rw[aq,ai]at aY
   simp only[Bool.and_eq_true,decide_eq_true_eq]at aY
   obtain⟨rfl,bw⟩:=aY
   have cK:=dm t w ai
   have aZ:yielded ops tmps j=match tmps[t]? with|some (.bool b)=>some b| _=>none:=by
    unfold yielded
    rw[bw]
    rfl
   have xj:tmps[t]? =some (tmps.getD t undef):=by
    simp [Array.getD_eq_getD_getElem?,cK]
   rw[ai]at hw
   simp only at hw
   have ag:=he t
   split at hw
   ·rename_i c ah
    rw[ah]at ag
    simp at hw
    subst hw
    simp only[Region.wanted,aq,aZ,xj,tn ag]
    cases c<;>cases w<;>rfl
   ·rename_i ah
    rw[ah]at ag
    simp at hw
    subst hw
    simp only[Region.wanted,aq,aZ,xj,uK ag]
    rfl
   ·cases hw
def GStep (P:Program) (i:bP) (env:Env) (H:aA) (K Rp:I→aA→Prop):Prop:=
 match wanted i env with
 |some true=>ie P i.op env H K Rp
 |some false=>K .undef H
 |none=>False
theorem yb {P:Program}{i:bP}{l:List bP}{env:Env}{H:aA}{K:Env→aA→Prop}{Rp:I→aA→Prop}:bf P (i::l) env H K Rp↔GStep P i env H (fun v aF=>bf P l (env.put i.dst v) aF K Rp) Rp:=by
 simp only[bf,GStep]
 all_goals (cases wanted i env with
  |none=>exact Iff.rfl
  |some b=>cases b<;>exact Iff.rfl)
def kd (e cC:Env):Prop:=∀k,e.get k=cC.get k
def yh (op:bj) (env bb:Env):Prop:=∀x∈op.cP,x.aJ env=x.aJ bb
def kz (i:bP) (env bb:Env):Prop:=yh i.op env bb∧∀j w,i.guard=some (j,w)→env.get j=bb.get j
theorem Hf {i:bP}{env bb:Env}(h: ∀k∈i.reads,env.get k=bb.get k):kz i env bb:=by
 refine⟨fun x ab=> ?_,fun j w aY=>h j ?_⟩
 ·cases x with
  |c a=>rfl
  |t n=>exact h n (by simp only[bP.reads,List.mem_append]; exact .inl (List.mem_filterMap.2 ⟨.t n,ab,rfl⟩))
 ·simp [bP.reads,aY]
theorem sq {i:bP}{env bb:Env}(h:kz i env bb):wanted i env=wanted i bb:=by
 unfold wanted
 cases aY:i.guard with
 |none=>rfl
 |some EF=>obtain⟨j,w⟩:=EF; simp only[h.2 j w aY]
theorem r5 {xs:List aK}{env bb:Env}(h: ∀x∈xs,x.aJ env=x.aJ bb):xs.map (aK.aJ env)=xs.map (aK.aJ bb):=List.map_congr_left h
theorem Hv {env bb:Env}: ∀(ps:List (Nat×Nat×aK)) (cs:List I),(∀x∈ps.map (·.2.2),x.aJ env=x.aJ bb)→nA env cs ps=nA bb cs ps
 |[],_,_=>rfl
 |(o,s,x)::ps,cs,h=>by
  have J:=h x (by simp)
  simp only[nA,J]
  rw[Hv ps _ fun y aZ=>h y (by simp at aZ ⊢; exact .inr aZ)]
theorem xw {env bb:Env}{d:Nat}{x:Option aK}(h: ∀y∈x.toList,y.aJ env=y.aJ bb):jv env d x=jv bb d x:=by
 cases x with
 |none=>rfl
 |some y=>simp only[jv,h y (by simp)]
theorem OD {op:bj}{env bb:Env}(H:aA) (h:yh op env bb):bU op env H=bU op bb H:=by
 cases op<;>simp only[bU]<;>simp only[yh,bj.cP,List.mem_cons,List.not_mem_nil,or_false,forall_eq_or_imp,forall_eq]at h<;>first
  |rfl
  |(simp only[h]; done)
  |(rw[h]; done)
  |(obtain⟨J,aa⟩:=h; rw[J,aa]; done)
  |(obtain⟨J,aa,au⟩:=h; rw[J,aa,au]; done)
  |(rw[Hv _ _ h]; done)
  |(obtain⟨J,aa⟩:=h; simp only[aK.aJ]at J; rw[J,aa]; done)
  |(rw[r5 h]; done)
theorem C6 {env bb:Env}{ps:List (Nat×aK)}(h: ∀x∈ps.map (·.2),x.aJ env=x.aJ bb):j5 env ps=j5 bb ps:=by
 unfold j5
 refine List.map_congr_left fun p hp=> ?_
 rw[h p.2 (List.mem_map.2 ⟨p,hp,rfl⟩)]
theorem Iy {P:Program}{op:bj}{env bb:Env}{H:aA}{d:D}(h:yh op env bb) (bw:eO P op env H d):eO P op bb H d:=by
 cases bw with
 |pure hp=>exact .pure ((OD H h).symm.trans hp)
 |quo ab aZ hb=>exact .quo ((h _ (by simp [bj.cP])).symm.trans ab) ((h _ (by simp [bj.cP])).symm.trans aZ) hb
 |rem ab aZ hb=>exact .rem ((h _ (by simp [bj.cP])).symm.trans ab) ((h _ (by simp [bj.cP])).symm.trans aZ) hb
 |bR ab aZ hb=>exact .bR ((h _ (by simp [bj.cP])).symm.trans ab) ((h _ (by simp [bj.cP])).symm.trans aZ) hb
 |nO ab ai aw ag=>exact .nO ((h _ (by simp [bj.cP])).symm.trans ab) ((h _ (by simp [bj.cP])).symm.trans ai) aw ag
 |nM ab ai aw ag=>exact .nM ((h _ (by simp [bj.cP])).symm.trans ab) ((h _ (by simp [bj.cP])).symm.trans ai) aw ag
 |ou ab ai aw ag=>exact .ou ((h _ (by simp [bj.cP])).symm.trans ab) ((h _ (by simp [bj.cP])).symm.trans ai) aw ag
 |nb ab ai aw ag=>exact .nb ((h _ (by simp [bj.cP])).symm.trans ab) ((h _ (by simp [bj.cP])).symm.trans ai) aw ag
 |nN ab ai aw ag=>exact .nN ((h _ (by simp [bj.cP])).symm.trans ab) ((h _ (by simp [bj.cP])).symm.trans ai) aw ag
 |jn ab ai aw J aH af=>exact .jn ((h _ (by simp [bj.cP])).symm.trans ab) ((h _ (by simp [bj.cP])).symm.trans ai) aw J aH af
 |eJ ab ai aw ah=>exact .eJ ((h _ (by simp [bj.cP])).symm.trans ab) ((h _ (by simp [bj.cP])).symm.trans ai) aw ah
 |gE ab aH bh J aa=>exact .gE ((h _ (by simp [bj.cP])).symm.trans ab) ((xw fun y aZ=>h y (by simp only[bj.cP,List.mem_cons,List.mem_append]; exact .inr (.inl aZ))).symm.trans aH) ((xw fun y aZ=>h y (by simp only[bj.cP,List.mem_cons,List.mem_append]; exact .inr (.inr aZ))).symm.trans bh) J aa
 |h9 ab aH bh J aa=>exact .h9 ((congrArg (mG _) (h _ (by simp [bj.cP]))).symm.trans ab) ((xw fun y aZ=>h y (by simp only[bj.cP,List.mem_cons,List.mem_append]; exact .inr (.inl (.inl aZ)))).symm.trans aH) ((xw fun y aZ=>h y (by simp only[bj.cP,List.mem_cons,List.mem_append]; exact .inr (.inl (.inr aZ)))).symm.trans bh) J aa
 |jC ab=>exact .jC ((h _ (by simp [bj.cP])).symm.trans ab)
 |box ab=>rename_i T x; have e:=h x (by simp [bj.cP]); rw[e]at ab ⊢; exact .box ab
 |alloc aB=>exact .alloc aB
 |n6 ag ap aq=>exact .n6 ((C6 fun x ab=>h x (by simpa [bj.cP] using ab)).symm.trans ag) ap aq
 |ml ag ap aq aw=>exact .ml ((C6 fun x ab=>h x (by simpa [bj.cP] using ab)).symm.trans ag) ap aq aw
 |ql ab aZ hb hm aw=>
  rename_i T size bytes x y rows
  exact .ql ((h _ (by simp [bj.cP])).symm.trans ab) (by rw[←h y (by simp [bj.cP])]; exact aZ) hb hm aw
 |hz aP hp=>exact .hz (by rw[←r5 fun x ab=>h x (by simpa [bj.cP] using ab)]; exact aP) hp
 |jq ab aW aP hp=>exact .jq ((h _ (by simp [bj.cP])).symm.trans ab) aW (by rw[←r5 fun x ab=>h x (by simp only[bj.cP,List.mem_cons]; exact .inr ab)]; exact aP) hp
 |o7 aP hp=>exact .o7 (by rw[←r5 fun x ab=>h x (by simpa [bj.cP] using ab)]; exact aP) hp
 |o8 ab aW aP hp=>exact .o8 ((h _ (by simp [bj.cP])).symm.trans ab) aW (by rw[←r5 fun x ab=>h x (by simp only[bj.cP,List.mem_cons]; exact .inr ab)]; exact aP) hp
 |jo ab aO=>exact .jo ((h _ (by simp [bj.cP])).symm.trans ab) aO
 |l4 ab hb hm aq aB aw=>exact .l4 ((h _ (by simp [bj.cP])).symm.trans ab) hb hm aq aB aw
 |s3 ab=>exact .s3 ((h _ (by simp [bj.cP])).symm.trans ab)
 |uv ab ag=>exact .uv ((h _ (by simp [bj.cP])).symm.trans ab) ag
 |jk ab aO=>exact .jk ((h _ (by simp [bj.cP])).symm.trans ab) aO
 |j2 ab aO ai aw J=>exact .j2 ((h _ (by simp [bj.cP])).symm.trans ab) aO ((h _ (by simp [bj.cP])).symm.trans ai) aw J
 |j3 ab aO aH af=>exact .j3 ((h _ (by simp [bj.cP])).symm.trans ab) aO aH af
 |mj ag ap aq aw=>exact .mj ((C6 fun x ab=>h x (by simpa [bj.cP] using ab)).symm.trans ag) ap aq aw
 |u2 ab aZ hb hm aw=>
  rename_i T size bytes x y rows
  exact .u2 ((h _ (by simp [bj.cP])).symm.trans ab) (by rw[←h y (by simp [bj.cP])]; exact aZ) hb hm aw
 |uF aP hp=>exact .uF (by rw[←r5 fun x ab=>h x (by simpa [bj.cP] using ab)]; exact aP) hp
theorem xq {P:Program}{op:bj}{env bb:Env}{H:aA}{K K' Rp iW:I→aA→Prop}(h:yh op env bb) (aC: ∀v aF,K v aF→K' v aF) (ag: ∀v aF,Rp v aF→iW v aF) (ap:ie P op env H K Rp):ie P op bb H K' iW:=by
 cases ap with
 |ia d bw bh=>exact .ia d (Iy h bw) fun x ab=>aC _ _ (bh x ab)
 |store aP hb a6 aH aq bh=>
  rename_i n a v b o T cs
  have e:=h v (by simp [bj.cP])
  exact .store ((h _ (by simp [bj.cP])).symm.trans aP) hb (by rw[←e]; exact a6) aH (by rw[←e]; exact aq) (by rw[←e]; exact aC _ _ bh)
 |fh oZ mu aP hb a6 aH aq bh=>
  rename_i e6 others n a v b o T cs
  have e:=h v (by simp [bj.cP])
  refine .fh ((h (.t e6) (by simp [bj.cP])).symm.trans oZ) (fun s ap=> ?_) ((h _ (by simp [bj.cP])).symm.trans aP) hb (by rw[←e]; exact a6) aH (by rw[←e]; exact aq) (by rw[←e]; exact aC _ _ bh)
  obtain⟨bX,J,aa⟩:=mu s ap
  exact⟨bX,(h (.t s) (by simp [bj.cP]; exact .inr (.inr (.inr ap)))).symm.trans J,aa⟩
 |append ab aO aZ hb hm bh=>
  rename_i T size bytes x y t rows new
  exact .append ((h _ (by simp [bj.cP])).symm.trans ab) aO (by rw[←h y (by simp [bj.cP])]; exact aZ) hb hm (aC _ _ bh)
 |nz ab aO aZ hb hm bh=>
  rename_i T size bytes x y t bg rows new
  exact .nz ((h _ (by simp [bj.cP])).symm.trans ab) aO (by rw[←h y (by simp [bj.cP])]; exact aZ) hb hm (aC _ _ bh)
 |vA ab bh=>exact .vA ((h _ (by simp [bj.cP])).symm.trans ab) fun b=>aC _ _ (bh b)
 |nW ab aO aH Ze J bh=>exact .nW ((h _ (by simp [bj.cP])).symm.trans ab) aO ((xw fun y aZ=>h y (by simp only[bj.cP,List.mem_cons,List.mem_append]; exact .inr (.inl aZ))).symm.trans aH) ((xw fun y aZ=>h y (by simp only[bj.cP,List.mem_cons,List.mem_append]; exact .inr (.inr aZ))).symm.trans Ze) J (aC _ _ bh)
 |uO aP aO a6 aH aq aW kL hlen bh=>
  rename_i n a v t bg k T size rows gC
  have e:=h v (by simp [bj.cP])
  exact .uO ((h _ (by simp [bj.cP])).symm.trans aP) aO (by rw[←e]; exact a6) aH (by rw[←e]; exact aq) (by rw[←e]; exact aW) kL hlen (aC _ _ bh)
 |call Q aP ah bh=>exact .call Q (by rw[←r5 fun x ab=>h x (by simpa [bj.cP] using ab)]; exact aP) ah fun o aF bG=>by have:=bh o aF bG; cases o<;>first|exact aC _ _ this|exact ag _ _ this
 |fw Q ab aW aP ah bh=>exact .fw Q ((h _ (by simp [bj.cP])).symm.trans ab) aW (by rw[←r5 fun x ab=>h x (by simp only[bj.cP,List.mem_cons]; exact .inr ab)]; exact aP) ah fun o aF bG=>by have:=bh o aF bG; cases o<;>first|exact aC _ _ this|exact ag _ _ this
 |sJ Q ab aW aP ah bh=>exact .sJ Q ((h _ (by simp [bj.cP])).symm.trans ab) aW (by rw[←r5 fun x ab=>h x (by simp only[bj.cP,List.mem_cons]; exact .inr ab)]; exact aP) ah fun o aF bG=>by have:=bh o aF bG; cases o<;>first|exact aC _ _ this|exact ag _ _ this
 |xQ ab hb aW kL aH aw hm bh=>exact .xQ ((h _ (by simp [bj.cP])).symm.trans ab) hb aW kL aH aw hm (aC _ _ bh)
 |hM Q aq he aP ah bh=>
  refine .hM Q (fun s ap=> ?_) he (by rw[←r5 fun x ab=>h x (by simp only[bj.cP,List.mem_append]; exact .inl ab)]; exact aP) ah fun o aF bG=>by have:=bh o aF bG; cases o<;>first|exact aC _ _ this|exact ag _ _ this
  obtain⟨b,J,aa⟩:=aq s ap
  exact⟨b,(h (.t s) (by simp only[bj.cP,List.mem_append]; exact .inr (List.mem_map.2 ⟨s,ap,rfl⟩))).symm.trans J,aa⟩
 |panic ab bh=>exact .panic ((h _ (by simp [bj.cP])).symm.trans ab) (ag _ _ bh)
theorem vm {P:Program}{i:bP}{env bb:Env}{H:aA}{K K' Rp iW:I→aA→Prop}(h:kz i env bb) (aC: ∀v aF,K v aF→K' v aF) (ag: ∀v aF,Rp v aF→iW v aF) (ap:GStep P i env H K Rp):GStep P i bb H K' iW:=by
 unfold GStep at ap ⊢
 rw[←sq h]
 split at ap
 ·exact xq h.1 aC ag ap
 ·exact aC _ _ ap
 ·exact ap.elim
theorem Fj {e cC:Env}(h:kd e cC) (d:Option Nat) (v:I):kd (e.put d v) (cC.put d v):=fun k=>by
 cases d with
 |none=>exact h k
 |some d=>simp only[Env.put,Env.get,h k]
theorem ym {i:bP}{e cC:Env}(h:kd e cC):kz i e cC:=Hf fun k _=>h k
theorem Du {P:Program}{K:Env→aA→Prop}{Rp:I→aA→Prop}(dv: ∀e cC H,kd e cC→K e H→K cC H): ∀(l:List bP){e cC:Env}{H:aA},kd e cC→bf P l e H K Rp→bf P l cC H K Rp
 |[],e,cC,H,h,bw=>by simp only[bf]at bw ⊢; exact dv e cC H h bw
 |i::l,e,cC,H,h,bw=>by
  rw[yb]at bw ⊢
  exact vm (ym h) (fun v aF bh=>Du dv l (Fj h i.dst v) bh) (fun _ _ h=>h) bw
def ft (op:bj) (env:Env):D:=
 match op with
 | .bin o x y=>(match o,x.aJ env,y.aJ env with
  | .quo,.int k a,.int _ b=> .cT (.int k (k.wrap (a.tdiv b)))
  | .rem,.int k a,.int _ b=> .cT (.int k (a.tmod b))
  | .add,.str a,.str b=> .cT (.str (a++b))
  | _,_,_=> .cT .ew)
 | .fW size x i=>(match x.aJ env,i.aJ env with
  | .ay _ rows,.int _ n=> .cT (.dO (rows.getD n.toNat []) 0)
  | .own _ _ rows,.int _ n=> .cT (.dO (rows.getD n.toNat []) 0)
  | .dQ (.slice (some ⟨b,o,_⟩) _ _),.int _ n=> .cT (.ptr b (o+n.toNat*size))
  | _,_=> .cT .ew)
 | .o1 _ size x i=>(match x.aJ env,i.aJ env with
  | .ptr b o,.int _ n=> .cT (.ptr b (o+n.toNat*size))
  | .dO r o,.int _ n=> .cT (.dO r (o+n.toNat*size))
  | _,_=> .cT .ew)
 | .jn agg _ size x i=>(match x.aJ env,i.aJ env with
  | .agg cs,.int _ n=> .cT ((I.iB agg ((cs.drop (n.toNat*size)).take size)).getD .ew)
  | _,_=> .cT .ew)
 | .eJ x i=>(match x.aJ env,i.aJ env with
  | .str s,.int _ n=> .cT (.int .u8 (s.getD n.toNat 0).toNat)
  | _,_=> .cT .ew)
 | .gE x cz ai=>(match x.aJ env with
  | .str s=> .cT (.str ((s.take ((jv env s.length ai).getD 0)).drop ((jv env 0 cz).getD 0)))
  | _=> .cT .ew)
 | .h9 size x cz ai _=>(match mG size (x.aJ env) with
  |some rows=> .cT (.ay size ((rows.take ((jv env rows.length ai).getD 0)).drop ((jv env 0 cz).getD 0)))
  |none=> .cT .ew)
 | .jC T x=>(match x.aJ env with
  | .str s=> .cT (.ay 1 (s.map fun c=>[.int .u8 c.toNat]))
  | _=> .cT .ew)
 | .box T x=> .jp T (x.aJ env).cells
 | .alloc T zero=> .jp T zero
 | .dA _ size _ _ parts=> .cT (.ay size (j5 env parts))
 | .ml T size _ _ parts=> .BL T size (j5 env parts)
 | .mj T size _ _ parts=> .uy T size (j5 env parts)
 | .l4 T size _ zero x=> .uy T size (List.replicate (match x.aJ env with| .int _ n=>n.toNat| _=>0) zero)
 | .xB T size _ _ rows=> .uy T size rows
 | .append T size _ _ y=> .BL T size ((rowsOf size (y.aJ env)).getD [])
 | .vS _ _ r=> .cT r
 | .vT _ _ r=> .cT r
 | _=> .cT .ew
def Im (op:bj) (env:Env) (H:aA):D:=
 match bU op env H with
 |some v=> .cT v
 |none=>ft op env
theorem Iz {P:Program}{op:bj}{env:Env}{H:aA}{d:D}(ag:op.dh≤2) (h:eO P op env H d):d=Im op env H:=by
 unfold Im
 cases h with
 |pure hp=>simp only[hp]
 |quo ab aZ hb=>simp [bU,ab,aZ,qn,ft]
 |rem ab aZ hb=>simp [bU,ab,aZ,qn,ft]
 |bR ab aZ hb=>simp [bU,ab,aZ,sG,ft]
 |nO ab ai aw bG=>simp [bU,ab,ai,ft,bG,List.getD]
 |nM ab ai aw bG=>simp [bU,ab,ai,ft,bG,List.getD]
 |ou ab ai aw ag=>simp [bU,ab,ai,ft]
 |nb ab ai aw ag=>simp [bU,ab,ai,ft]
 |nN ab ai aw ag=>simp [bU,ab,ai,ft]
 |jn ab ai aw J aH af=>simp [bU,ab,ai,ft,af]
 |eJ ab ai aw ah=>simp [bU,ab,ai,ft,ah,List.getD]
 |gE ab aH bh J aa=>simp [bU,ab,ft,aH,bh]
 |h9 ab aH bh J aa=>simp [bU,ab,ft,aH,bh]
 |jC ab=>simp [bU,ft,ab]
 |box ab=>simp [bU,ft]
 |alloc aB=>simp [bU,ft]
 |n6 ag ap aq=>simp [bU,ft,ag]
 |ml ag ap aq aw=>simp [bU,ft,ag]
 |ql ab aZ hb hm aw=>simp [bU,ft,aZ]
 |hz aP hp=>simp [bj.dh]at ag
 |jq ab aW aP hp=>simp [bj.dh]at ag
 |jo ab aO=>simp [bj.dh]at ag
 |s3 ab=>simp [bj.dh]at ag
 |uv ab _=>simp [bj.dh]at ag
 |jk ab aO=>simp [bj.dh]at ag
 |j2 ab aO ai aw J=>simp [bj.dh]at ag
 |j3 ab aO aH af=>simp [bj.dh]at ag
 |mj bG ap aq aw=>simp [bU,ft,bG]
 |l4 ab hb hm aq aB aw=>simp [bU,ft,ab]
 |u2 ab aZ hb hm aw=>simp [bj.dh]at ag
 |uF aP hp=>simp [bU,ft]
 |o7 aP hp=>simp [bU,ft]
 |o8 ab aW aP hp=>simp [bU,ft]
theorem W3 {P:Program}{op:bj}{env:Env}{H:aA}{d jD:D}(ag:op.dh≤2) (h:eO P op env H d) (k:eO P op env H jD):d=jD:=by
 rw[Iz ag h,Iz ag k]
def Ae (H aF:aA):Prop:=∀b x,H.aU b=some x→aF.aU b=some x
theorem aq6 {op:bj}{env:Env}{H aF:aA}{v:I}(h:Ae H aF) (hp:bU op env H=some v):bU op env aF=some v:=by
 cases op<;>try exact hp
 ·rename_i agg n x
  simp only[bU]at hp ⊢
  split at hp
  ·rename_i b o e
   cases hb:H.aU b with
   |none=>simp [hb]at hp
   |some y=>simp only[h b y hb]; simpa [hb] using hp
  ·rename_i e; exact hp
  ·cases hp
 ·rename_i e6 agg n x
  simp only[bU]at hp ⊢
  split at hp
  ·rename_i b bX o ar ax
   cases hb:H.aU bX with
   |none=>simp [hb]at hp
   |some y=>simp only[h bX y hb]; simpa [hb] using hp
  ·cases hp
theorem W4 {P:Program}{op:bj}{env:Env}{H aF:aA}{d:D}(jm:op.dh≤2) (h:Ae H aF) (bw:eO P op env H d):eO P op env aF d:=by
 cases bw with
 |pure hp=>exact .pure (aq6 h hp)
 |quo a b c=>exact .quo a b c
 |rem a b c=>exact .rem a b c
 |bR a b c=>exact .bR a b c
 |nO a b c d=>exact .nO a b c d
 |nM a b c d=>exact .nM a b c d
 |ou a b c d=>exact .ou a b c d
 |nb a b c d=>exact .nb a b c d
 |nN a b c d=>exact .nN a b c d
 |jn a b c d e f=>exact .jn a b c d e f
 |eJ a b c d=>exact .eJ a b c d
 |gE a b c d e=>exact .gE a b c d e
 |h9 a b c d e=>exact .h9 a b c d e
 |jC a=>exact .jC a
 |box a=>exact .box a
 |alloc a=>exact .alloc a
 |n6 a b c=>exact .n6 a b c
 |ml a b c d=>exact .ml a b c d
 |ql a b c d e=>exact .ql a b c d e
 |hz a b=>exact .hz a b
 |jq a b c d=>exact .jq a b c d
 |jo ab aO=>simp [bj.dh]at jm
 |s3 ab=>simp [bj.dh]at jm
 |uv ab _=>simp [bj.dh]at jm
 |jk ab aO=>simp [bj.dh]at jm
 |j2 ab aO ai aw J=>simp [bj.dh]at jm
 |j3 ab aO aH af=>simp [bj.dh]at jm
 |mj a b c d=>exact .mj a b c d
 |l4 a b c d e f=>exact .l4 a b c d e f
 |u2 ab aZ hb hm aw=>simp [bj.dh]at jm
 |uF a b=>exact .uF a b
 |o7 a b=>exact .o7 a b
 |o8 a b c d=>exact .o8 a b c d
def tk (op:bj) (env:Env):Nat:=
 match op with
 | .load _ _ x=>match x.aJ env with| .ptr b _=>b| _=>0
 | .hr _ _ _ x=>match x.aJ env with| .ptr b _=>b| _=>0
 | .append _ _ _ x _=>match x.aJ env with| .own t _ _=>t| _=>0
 | _=>0
theorem W1 {P:Program}{op:bj}{env:Env}{H aF:aA}{d:D}(jm:op.dh≤2) (h:aF.aU (tk op env)=H.aU (tk op env)) (bw:eO P op env aF d):eO P op env H d:=by
 cases bw with
 |pure hp=>
  refine .pure ?_
  cases op<;>try exact hp
  ·rename_i agg n x
   simp only[bU,tk]at hp h ⊢
   split at hp
   ·rename_i b o e
    simp only[e]at h
    rw[←h]
    exact hp
   ·exact hp
   ·cases hp
  ·rename_i e6 agg n x
   simp only[bU,tk]at hp h ⊢
   split at hp
   ·rename_i b bX o ar ax
    simp only[ax]at h
    rw[←h]
    exact hp
   ·cases hp
 |quo a b c=>exact .quo a b c
 |rem a b c=>exact .rem a b c
 |bR a b c=>exact .bR a b c
 |nO a b c d=>exact .nO a b c d
 |nM a b c d=>exact .nM a b c d
 |ou a b c d=>exact .ou a b c d
 |nb a b c d=>exact .nb a b c d
 |nN a b c d=>exact .nN a b c d
 |jn a b c d e f=>exact .jn a b c d e f
 |eJ a b c d=>exact .eJ a b c d
 |gE a b c d e=>exact .gE a b c d e
 |h9 a b c d e=>exact .h9 a b c d e
 |jC a=>exact .jC a
 |box a=>exact .box a
 |alloc a=>exact .alloc a
 |n6 a b c=>exact .n6 a b c
 |ml a b c d=>exact .ml a b c d
 |ql a b c d e=>exact .ql a b c d e
 |hz a b=>exact .hz a b
 |jq a b c d=>exact .jq a b c d
 |jo ab aO=>simp [bj.dh]at jm
 |s3 ab=>simp [bj.dh]at jm
 |uv ab _=>simp [bj.dh]at jm
 |jk ab aO=>simp [bj.dh]at jm
 |j2 ab aO ai aw J=>simp [bj.dh]at jm
 |j3 ab aO aH af=>simp [bj.dh]at jm
 |mj a b c d=>exact .mj a b c d
 |l4 a b c d e f=>exact .l4 a b c d e f
 |u2 ab aZ hb hm aw=>simp [bj.dh]at jm
 |uF a b=>exact .uF a b
 |o7 a b=>exact .o7 a b
 |o8 a b c d=>exact .o8 a b c d
inductive X where
 |d (d:D)
 |dM (t T size:Nat) (rows new:List (List I))
def X.fresh:X→Nat→aA→Prop
 | .d e,n,H=>e.fresh n H
 | .dM ..,_,_=>True
def X.val:X→Nat→I
 | .d e,n=>e.val n
 | .dM t _ size rows new,_=> .own t size (rows++new)
def X.heap:X→aA→Nat→aA
 | .d e,H,n=>e.heap H n
 | .dM t T size rows new,H,_=>H.cA t (.bJ T size (rows.length+new.length))
def X.ok:X→aA→Prop
 | .d _,_=>True
 | .dM t T size rows _,H=>H.tok t=some (.bJ T size rows.length)
inductive kB (P:Program) (i:bP) (env:Env) (H:aA):X→Prop
 |skip (hw:wanted i env=some false):kB P i env H (.d (.cT .undef))
 |d {d}(hw:wanted i env=some true) (bw:eO P i.op env H d):kB P i env H (.d d)
 |dM {T size bytes x y t rows new}(hw:wanted i env=some true) (aq:i.op= .append T size bytes x y) (ab:x.aJ env= .own t size rows) (aZ:rowsOf size (y.aJ env)=some new) (hb:(rows.length+new.length)*bytes≤140737488355328) (hm:rows.length+new.length≤maxLen):kB P i env H (.dM t T size rows new)
theorem mn {P:Program}{i:bP}{env:Env}{H:aA}{K Rp:I→aA→Prop}(ag:i.op.dh≤2):GStep P i env H K Rp↔ ∃x,kB P i env H x∧x.ok H∧∀n,x.fresh n H→K (x.val n) (x.heap H n):=by
 constructor
 ·intro h
  unfold GStep at h
  split at h
  ·rename_i hw
   generalize aq:i.op=op at h ag
   cases h with
   |ia d bw bh=>exact⟨.d d,.d hw (aq▸bw),trivial,bh⟩
   |append ab aO aZ hb hm bh=>exact⟨.dM _ _ _ _ _,.dM hw aq ab aZ hb hm,aO,fun _ _=>bh⟩
   |store=>simp [bj.dh]at ag
   |call=>simp [bj.dh]at ag
   |fw=>simp [bj.dh]at ag
   |sJ=>simp [bj.dh]at ag
   |hM=>simp [bj.dh]at ag
   |xQ=>simp [bj.dh]at ag
   |panic=>simp [bj.dh]at ag
   |nz=>simp [bj.dh]at ag
   |nW=>simp [bj.dh]at ag
   |vA=>simp [bj.dh]at ag
   |uO=>simp [bj.dh]at ag
   |fh=>simp [bj.dh]at ag
  ·rename_i hw
   exact⟨.d (.cT .undef),.skip hw,trivial,fun _ _=>h⟩
  ·exact h.elim
 ·rintro⟨x,bw,iy,bh⟩
  unfold GStep
  cases bw with
  |skip hw=>rw[hw]; exact bh 0 trivial
  |d hw bw=>rw[hw]; exact .ia _ bw bh
  |dM hw aq ab aZ hb hm=>rw[hw,aq]; exact .append ab iy aZ hb hm (bh 0 trivial)
theorem ru {P:Program}{i:bP}{env bb:Env}{H:aA}{x:X}(h:kz i env bb) (bw:kB P i env H x):kB P i bb H x:=by
 have hw:=sq h
 cases bw with
 |skip J=>exact .skip (hw▸J)
 |d J aa=>exact .d (hw▸J) (Iy h.1 aa)
 |dM J aq ab aZ hb hm=>
  rename_i T size bytes x y t rows new
  have ar:=h.1 x (by simp [aq,bj.cP])
  have ax:=h.1 y (by simp [aq,bj.cP])
  exact .dM (hw▸J) aq (ar▸ab) (ax▸aZ) hb hm
theorem Ix {P:Program}{i:bP}{env:Env}{H aF:aA}{x:X}(jm:i.op.dh≤2) (h:Ae H aF) (bw:kB P i env H x):kB P i env aF x:=by
 cases bw with
 |skip J=>exact .skip J
 |d J aa=>exact .d J (W4 jm h aa)
 |dM J aq ab aZ hb hm=>exact .dM J aq ab aZ hb hm
theorem WZ {P:Program}{i:bP}{env:Env}{H aF:aA}{x:X}(jm:i.op.dh≤2) (h:aF.aU (tk i.op env)=H.aU (tk i.op env)) (bw:kB P i env aF x):kB P i env H x:=by
 cases bw with
 |skip J=>exact .skip J
 |d J aa=>exact .d J (W1 jm h aa)
 |dM J aq ab aZ hb hm=>exact .dM J aq ab aZ hb hm
theorem AI {P:Program}{i:bP}{env:Env}{H:aA}{x cY:X}(ag:i.op.dh≤2) (h:kB P i env H x) (k:kB P i env H cY):x=cY:=by
 cases h with
 |skip J=>
  cases k with
  |skip=>rfl
  |d bC=>rw[J]at bC; cases bC
  |dM bC=>rw[J]at bC; cases bC
 |d J aa=>
  cases k with
  |skip bC=>rw[J]at bC; cases bC
  |d bC bA=>rw[W3 ag aa bA]
  |dM bC aq ab aZ hb hm=>
   rw[aq]at aa
   cases aa with
   |pure hp=>simp [bU]at hp
   |ql hQ=>rw[ab]at hQ; cases hQ
 |dM J aq ab aZ hb hm=>
  cases k with
  |skip bC=>rw[J]at bC; cases bC
  |d bC bA=>
   rw[aq]at bA
   cases bA with
   |pure hp=>simp [bU]at hp
   |ql hQ=>rw[ab]at hQ; cases hQ
  |dM bC rV hQ EA gu Ei=>
   rw[aq]at rV
   simp at rV
   obtain⟨rfl,rfl,_,rfl,rfl⟩:=rV
   rw[ab]at hQ
   simp at hQ
   obtain⟨rfl,rfl⟩:=hQ
   rw[aZ]at EA
   simp at EA
   subst EA
   rfl
theorem KW {H:aA}(h:hF H) (M:Nat) (x:X): ∃n,M<n∧x.fresh n H:=by
 obtain⟨N,bW⟩:=h
 refine⟨max N (M+1),by omega,?_⟩
 have:=bW (max N (M+1)) (by omega)
 cases x with
 |d e=>cases e<;>simp [X.fresh,D.fresh,this]
 |dM=>trivial
theorem LS {H:aA}{x:X}{n:Nat}(h:x.fresh n H):Ae H (x.heap H n):=by
 intro b y hb
 cases x with
 |d e=>
  cases e with
  |cT=>exact hb
  |bF=>exact hb
  |jp T cs=>
   simp only[X.fresh,D.fresh]at h
   simp only[X.heap,D.heap,aA.ch]
   rw[if_neg (fun e=>by subst e; rw[h]at hb; cases hb)]
   exact hb
 |dM=>exact hb
theorem TJ {H:aA}{x:X}{n b:Nat}(h:b<n):(x.heap H n).aU b=H.aU b:=by
 cases x with
 |d e=>
  cases e with
  |cT=>rfl
  |bF=>rfl
  |jp T cs=>
   simp only[X.heap,D.heap,aA.ch]
   rw[if_neg (by omega)]
 |dM=>rfl
theorem XW {H:aA}{x y:X}{n k:Nat}(aC:y.fresh k H) (h:x.fresh n (y.heap H k)):x.fresh n H:=by
 cases x with
 |d e=>
  cases e with
  |cT=>trivial
  |jp T cs=>
   simp only[X.fresh,D.fresh]at h ⊢
   cases y with
   |d f=>
    cases f with
    |cT=>exact h
    |bF=>exact h
    |jp=>
     simp only[X.heap,D.heap,aA.ch]at h
     split at h
     ·cases h
     ·exact h
   |dM=>exact h
  |bF o v=>
   simp only[X.fresh,D.fresh]at h ⊢
   cases y with
   |d f=>
    cases f with
    |cT=>exact h
    |jp=>exact h
    |bF=>
     simp only[X.heap,D.heap,aA.cA]at h
     split at h
     ·cases h
     ·exact h
   |dM=>
    simp only[X.heap,aA.cA]at h
    split at h
    ·cases h
    ·exact h
 |dM=>trivial
theorem X0 {H:aA}{x y:X}{n k:Nat}(ab:x.ok H) (aC:y.fresh k H) (h:x.fresh n (y.heap H k)):y.fresh k (x.heap H n):=by
 cases y with
 |d f=>
  cases f with
  |cT=>trivial
  |jp T cs=>
   simp only[X.fresh,D.fresh]at aC ⊢
   cases x with
   |d e=>
    cases e with
    |cT=>exact aC
    |bF=>exact aC
    |jp=>
     simp only[X.fresh,D.fresh,X.heap,D.heap,aA.ch]at h ⊢
     by_cases e:k=n
     ·subst e; simp at h
     ·rw[if_neg e]; exact aC
   |dM=>exact aC
  |bF o v=>
   simp only[X.fresh,D.fresh]at aC ⊢
   cases x with
   |d e=>
    cases e with
    |cT=>exact aC
    |jp=>exact aC
    |bF=>
     simp only[X.fresh,D.fresh,X.heap,D.heap,aA.cA]at h ⊢
     by_cases e:k=n
     ·subst e; simp at h
     ·rw[if_neg e]; exact aC
   |dM t cQ bM rows new=>
    simp only[X.heap,aA.cA]
    simp only[X.ok]at ab
    rw[if_neg (fun e=>by subst e; rw[aC]at ab; cases ab)]
    exact aC
 |dM=>trivial
theorem zD {H:aA}{a b:Nat}{T pv:TypeId}{c d:List I}(h:a≠b):(H.ch a T c).ch b pv d=(H.ch b pv d).ch a T c:=by
 simp only[aA.ch,aA.mk.injEq,and_true]
 funext x
 by_cases e:x=b
 ·subst e; simp [Ne.symm h]
 ·simp [e]
theorem F3 {H:aA}{a b:Nat}{c d:b2}(h:a≠b):(H.cA a c).cA b d=(H.cA b d).cA a c:=by
 simp only[aA.cA,aA.mk.injEq,true_and]
 funext x
 by_cases e:x=b
 ·subst e; simp [Ne.symm h]
 ·simp [e]
theorem Y6 {H:aA}{x y:X}{n k:Nat}(ab:x.ok H) (aZ:y.ok H) (aC:y.fresh k H) (h:x.fresh n (y.heap H k)) (a6:x.fresh n H) (aa: ∀t T s r w dx cQ bM dn w',x= .dM t T s r w→y= .dM dx cQ bM dn w'→False):x.heap (y.heap H k) n=y.heap (x.heap H n) k:=by
 cases x with
 |d e=>
  cases e with
  |cT=>rfl
  |jp T cs=>
   cases y with
   |d f=>
    cases f with
    |cT=>rfl
    |bF=>rfl
    |jp=>
     simp only[X.fresh,D.fresh,X.heap,D.heap,aA.ch]at h
     have dw:k≠n:=fun e=>by subst e; simp at h
     exact zD dw
   |dM=>rfl
  |bF o v=>
   cases y with
   |d f=>
    cases f with
    |cT=>rfl
    |jp=>rfl
    |bF=>
     simp only[X.fresh,D.fresh,X.heap,D.heap,aA.cA]at h
     have dw:k≠n:=fun e=>by subst e; simp at h
     exact F3 dw
   |dM t cQ bM rows new=>
    simp only[X.ok]at aZ
    simp only[X.fresh,D.fresh]at a6
    have dw:t≠n:=fun e=>by subst e; rw[a6]at aZ; cases aZ
    exact F3 dw
 |dM t T s rows new=>
  cases y with
  |d f=>
   cases f with
   |cT=>rfl
   |jp=>rfl
   |bF=>
    simp only[X.ok]at ab
    simp only[X.fresh,D.fresh]at aC
    have dw:k≠t:=fun e=>by subst e; rw[aC]at ab; cases ab
    exact F3 dw
  |dM=>exact (aa _ _ _ _ _ _ _ _ _ _ rfl rfl).elim
theorem K3 {env:Env}{d:Option Nat}{v:I}{k:Nat}(h: ∀x,d=some x→x≠k):(env.put d v).get k=env.get k:=by
 cases d with
 |none=>rfl
 |some x=>
  have:=h x rfl
  simp only[Env.put,Env.get]
  have hb:(x==k)=false:=by simpa using this
  simp [hb]
theorem put_comm {env:Env}{d e:Option Nat}{v u:I}(h: ∀x,d=some x→e≠some x):kd ((env.put d v).put e u) ((env.put e u).put d v):=by
 intro k
 cases d with
 |none=>rfl
 |some x=>
  cases e with
  |none=>rfl
  |some y=>
   have dw:y≠x:=fun e=>h x rfl (by rw[e])
   simp only[Env.put,Env.get]
   by_cases ar:x=k
   ·subst ar
    have hb:(y==x)=false:=by simpa using dw
    simp [hb]
   ·have hb:(x==k)=false:=by simpa using ar
    simp [hb]
theorem ab2 {i j:bP}(h:indep i j=true):(∀x,i.dst=some x→x∉j.reads∧j.dst≠some x)∧(∀x,j.dst=some x→x∉i.reads)∧(yq i j=true∨(i.op.quiet=true∧j.op.quiet=true)∨(i.op.tt=true∧j.op.tQ=true)∨i.op.dh=0∨(i.op.live=true∧j.op.dh=0)∨zG i j=true∨(i.op.dh=3∧j.total=true)∨(i.op.dh≤2∧j.op.dh≤2∧¬(i.op.dh=2∧j.op.dh=2))):=by
 simp only[indep,Bool.and_eq_true,Bool.or_eq_true,Bool.not_eq_true',decide_eq_true_eq,beq_iff_eq,Bool.and_eq_false_iff,beq_eq_false_iff_ne]at h
 obtain⟨⟨J,aa⟩,au⟩:=h
 refine⟨fun x ab=> ?_,fun x ab=> ?_,?_⟩
 ·rw[ab]at J
  simp at J
  exact⟨J.1,J.2⟩
 ·rw[ab]at aa
  simpa using aa
 ·rcases au with ((((((au|au)|au)|au)|au)|au)|au)|au
  ·exact .inl au
  ·exact .inr (.inr (.inr (.inl au)))
  ·exact .inr (.inl au)
  ·exact .inr (.inr (.inl au))
  ·exact .inr (.inr (.inr (.inr (.inl au))))
  ·exact .inr (.inr (.inr (.inr (.inr (.inl au)))))
  ·exact .inr (.inr (.inr (.inr (.inr (.inr (.inl au))))))
  ·refine .inr (.inr (.inr (.inr (.inr (.inr (.inr ⟨au.1.1,au.1.2,fun e=> ?_⟩))))))
   rcases au.2 with cC|cC
   ·exact cC e.1
   ·exact cC e.2
theorem wz {i:bP}{env:Env}{d:Option Nat}{v:I}(h: ∀x,d=some x→x∉i.reads):kz i env (env.put d v):=
 Hf fun k aC=>(K3 fun x ab e=>h x ab (e▸aC)).symm
theorem kz.symm {i:bP}{e cC:Env}(h:kz i e cC):kz i cC e:=⟨fun x ab=>(h.1 x ab).symm,fun j w aY=>(h.2 j w aY).symm⟩
theorem Iw {P:Program}{i:bP}{env:Env}{H:aA}{t T s:Nat}{r w:List (List I)}(h:kB P i env H (.dM t T s r w)):i.op.dh=2:=by
 cases h with
 |dM J aq=>simp [aq,bj.dh]
theorem W0 {P:Program}{i:bP}{env:Env}{H:aA}{t T s:Nat}{r w:List (List I)}(h:kB P i env H (.dM t T s r w)):tk i.op env=t:=by
 cases h with
 |dM J aq ab=>simp [aq,tk,ab]
theorem Rw {P:Program}{i:bP}{env:Env}{H:aA}{x:X}(ag:i.op.dh=0) (h:kB P i env H x): ∃v,x= .d (.cT v)∧∀aF,kB P i env aF x:=by
 cases h with
 |skip hw=>exact⟨_,rfl,fun aF=> .skip hw⟩
 |dM hw aq=>simp [aq,bj.dh]at ag
 |d hw bw=>
  rename_i d
  have Y3: ∃v,d= .cT v:=by
   generalize i.op=op at bw ag
   cases bw<;>first
    |exact⟨_,rfl⟩
    |(simp [bj.dh]at ag; done)
  obtain⟨v,rfl⟩:=Y3
  refine⟨v,rfl,fun aF=> .d hw ?_⟩
  have hle: ∀H1 dk:aA,eO P i.op env H1 (.cT v)→eO P i.op env dk (.cT v):=by
   intro H1 dk bw
   generalize i.op=op at bw ag
   cases bw with
   |pure hp=>
    refine .pure ?_
    cases op<;>first
     |exact hp
     |(simp [bj.dh]at ag; done)
   |quo a b c=>exact .quo a b c
   |rem a b c=>exact .rem a b c
   |bR a b c=>exact .bR a b c
   |nO a b c d=>exact .nO a b c d
   |nM a b c d=>exact .nM a b c d
   |ou a b c d=>exact .ou a b c d
   |nb a b c d=>exact .nb a b c d
   |nN a b c d=>exact .nN a b c d
   |jn a b c d e f=>exact .jn a b c d e f
   |eJ a b c d=>exact .eJ a b c d
   |gE a b c d e=>exact .gE a b c d e
   |h9 a b c d e=>exact .h9 a b c d e
   |jC a=>exact .jC a
   |n6 a b c=>exact .n6 a b c
   |hz a b=>exact .hz a b
   |jq a b c d=>exact .jq a b c d
   |jo=>simp [bj.dh]at ag
   |s3=>simp [bj.dh]at ag
   |uv=>simp [bj.dh]at ag
   |jk=>simp [bj.dh]at ag
   |j2=>simp [bj.dh]at ag
   |j3=>simp [bj.dh]at ag
   |o7 a b=>exact .o7 a b
   |o8 a b c d=>exact .o8 a b c d
  exact hle H aF bw
theorem aJ4 {P:Program}{j:bP}(h:j.total=true) (env:Env) (H:aA): ∃v,kB P j env H (.d (.cT v))∧∀bb,kz j env bb→∀aF,kB P j bb aF (.d (.cT v)):=by
 simp only[bP.total,Bool.and_eq_true,Option.isNone_iff_eq_none]at h
 obtain⟨J,aa⟩:=h
 have hw: ∀env,wanted j env=some true:=fun env=>by simp [wanted,J]
 have af: ∃v,∀H,bU j.op env H=some v:=by
  split at aa<;>first
   |(rename_i e; rw[e]; exact⟨_,fun _=>rfl⟩)
   |cases aa
 obtain⟨v,af⟩:=af
 exact⟨v,.d (hw env) (.pure (af H)),fun bb aP aF=> .d (hw bb) (.pure ((OD aF aP.1).symm.trans (af aF)))⟩
theorem sQ {H:aA}{x:X}{n:Nat}(h:hF H):hF (x.heap H n):=by
 obtain⟨N,bW⟩:=h
 cases x with
 |d e=>
  cases e with
  |cT=>exact⟨N,bW⟩
  |jp T cs=>
   refine⟨max N (n+1),fun k aC=> ?_⟩
   have:=bW k (by omega)
   simp only[X.heap,D.heap,aA.ch]
   rw[if_neg (by omega)]
   exact this
  |bF o v=>
   refine⟨max N (n+1),fun k aC=> ?_⟩
   have:=bW k (by omega)
   simp only[X.heap,D.heap,aA.cA]
   rw[if_neg (by omega)]
   exact this
 |dM t T s r w=>
  refine⟨max N (t+1),fun k aC=> ?_⟩
  have:=bW k (by omega)
  simp only[X.heap,aA.cA]
  rw[if_neg (by omega)]
  exact this
theorem ah3 {P:Program}{i:bP}{env:Env}{H:aA}{K Rp:I→aA→Prop}(aH:i.op.live=true) (eC:hF H) (h:GStep P i env H K Rp): ∃O:I→aA→Prop,(∃v aF,O v aF∧hF aF)∧(∀v aF,O v aF→K v aF)∧∀bb,kz i env bb→∀K':I→aA→Prop,(∀v aF,O v aF→K' v aF)→GStep P i bb H K' Rp:=by
 unfold GStep at h
 split at h
 ·rename_i hw
  have key: ∀ {op:bj},op.live=true→ie P op env H K Rp→∃O:I→aA→Prop,(∃v aF,O v aF∧hF aF)∧(∀v aF,O v aF→K v aF)∧∀K':I→aA→Prop,(∀v aF,O v aF→K' v aF)→ie P op env H K' Rp:=by
   intro op aH h
   cases h with
   |ia d bw bh=>
    obtain⟨n,_,a6⟩:=KW eC 0 (.d d)
    exact⟨fun v aF=> ∃x,d.fresh x H∧v=d.val x∧aF=d.heap H x,⟨_,_,⟨n,a6,rfl,rfl⟩,sQ (x:= .d d) eC⟩,fun v aF ⟨x,J,aa,au⟩=>by subst aa; subst au; exact bh x J,fun K' aC=> .ia d bw fun x ab=>aC _ _ ⟨x,ab,rfl,rfl⟩⟩
   |store aP hb a6 ms aq bh=>
    rename_i n a v b o T cs
    exact⟨fun bT aF=>bT= .undef∧aF=H.ch b T (gx cs o (v.aJ env).cells),⟨_,_,⟨rfl,rfl⟩,sQ (x:= .d (.jp T _)) (n:=b) eC⟩,fun bT aF ⟨J,aa⟩=>by subst J; subst aa; exact bh,fun K' aC=> .store aP hb a6 ms aq (aC _ _ ⟨rfl,rfl⟩)⟩
   |nz ab aO aZ hb hm bh=>
    rename_i T size bytes x y t bg rows new
    exact⟨fun bT aF=>bT= .ez t (bg+1)∧aF=H.cA t (.bS T size (bg+1) (rows++new)),⟨_,_,⟨rfl,rfl⟩,sQ (x:= .d (.bF _ fun _=> .ew)) (n:=t) eC⟩,fun bT aF ⟨J,aa⟩=>by subst J; subst aa; exact bh,fun K' aC=> .nz ab aO aZ hb hm (aC _ _ ⟨rfl,rfl⟩)⟩
   |nW ab aO ms Zd J bh=>
    rename_i size x cz ai t bg T rows h
    exact⟨fun bT aF=>bT= .ez t (bg+1)∧aF=H.cA t (.bS T size (bg+1) (rows.take h)),⟨_,_,⟨rfl,rfl⟩,sQ (x:= .d (.bF _ fun _=> .ew)) (n:=t) eC⟩,fun bT aF ⟨J,aa⟩=>by subst J; subst aa; exact bh,fun K' aC=> .nW ab aO ms Zd J (aC _ _ ⟨rfl,rfl⟩)⟩
   |fh oZ mu aP hb a6 ms aq bh=>
    rename_i e6 others n a v b o T cs
    exact⟨fun bT aF=>bT= .undef∧aF=H.ch b T (gx cs o (v.aJ env).cells),⟨_,_,⟨rfl,rfl⟩,sQ (x:= .d (.jp T _)) (n:=b) eC⟩,fun bT aF ⟨J,aa⟩=>by subst J; subst aa; exact bh,fun K' aC=> .fh oZ mu aP hb a6 ms aq (aC _ _ ⟨rfl,rfl⟩)⟩
   |uO aP aO a6 ms aq aW ag hlen bh=>
    rename_i n a v t bg k T size rows gC
    exact⟨fun bT aF=>bT= .undef∧aF=H.cA t (.bS T size bg gC),⟨_,_,⟨rfl,rfl⟩,sQ (x:= .d (.bF _ fun _=> .ew)) (n:=t) eC⟩,fun bT aF ⟨J,aa⟩=>by subst J; subst aa; exact bh,fun K' aC=> .uO aP aO a6 ms aq aW ag hlen (aC _ _ ⟨rfl,rfl⟩)⟩
   |vA=>simp [bj.live]at aH
   |append=>simp [bj.live]at aH
   |call=>simp [bj.live]at aH
   |fw=>simp [bj.live]at aH
   |sJ=>simp [bj.live]at aH
   |hM=>simp [bj.live]at aH
   |xQ=>simp [bj.live]at aH
   |panic=>simp [bj.live]at aH
  obtain⟨O,J,aa,au⟩:=key aH h
  refine⟨O,J,aa,fun bb aP K' aC=> ?_⟩
  unfold GStep
  rw[←sq aP,hw]
  exact xq aP.1 (fun _ _ h=>h) (fun _ _ h=>h) (au K' aC)
 ·rename_i hw
  refine⟨fun v aF=>v= .undef∧aF=H,⟨_,_,⟨rfl,rfl⟩,eC⟩,fun v aF ⟨J,aa⟩=>by subst J; subst aa; exact h,fun bb aP K' aC=> ?_⟩
  unfold GStep
  rw[←sq aP,hw]
  exact aC _ _ ⟨rfl,rfl⟩
 ·exact h.elim
theorem Gb {i:bP}{e6:Nat}{o:List Nat}(h:i.uN=some (true,e6,o)):i.guard=none∧∃n a v,i.op= .fh e6 o n a v:=by
 unfold bP.uN at h
 split at h
 ·rename_i aY aq
  simp at h
  obtain⟨rfl,rfl⟩:=h
  exact⟨aY,_,_,_,aq⟩
 ·simp at h
 ·cases h
theorem ag2 {i:bP}{e6:Nat}{o:List Nat}(h:i.uN=some (false,e6,o)):i.guard=none∧∃g n a,i.op= .hr e6 g n a:=by
 unfold bP.uN at h
 split at h
 ·simp at h
 ·rename_i aY aq
  simp at h
  obtain⟨rfl,rfl⟩:=h
  exact⟨aY,_,_,_,aq⟩
 ·cases h
theorem aH2 {P:Program}{i j:bP}{env:Env}{H:aA}{C:Env→aA→Prop}{Rp:I→aA→Prop}(hC: ∀e cC H,kd e cC→C e H→C cC H) (eC:hF H) (fR: ∀x,i.dst=some x→x∉j.reads∧j.dst≠some x) (il: ∀x,j.dst=some x→x∉i.reads) (ap:zG i j=true)
  (h:GStep P i env H (fun v H1=>hF H1→GStep P j (env.put i.dst v) H1 (fun u dk=>hF dk→C ((env.put i.dst v).put j.dst u) dk) Rp) Rp):
  GStep P j env H (fun u H1=>hF H1→GStep P i (env.put j.dst u) H1 (fun v dk=>hF dk→C ((env.put j.dst u).put i.dst v) dk) Rp) Rp:=by
 have mR: ∀v,kz j env (env.put i.dst v):=fun v=>wz fun x ab=>(fR x ab).1
 have px: ∀v,kz i env (env.put j.dst v):=fun v=>wz il
 have np: ∀v u,kd ((env.put i.dst v).put j.dst u) ((env.put j.dst u).put i.dst v):=fun v u=>put_comm fun x ab=>(fR x ab).2
 unfold zG at ap
 split at ap
 ·rename_i m1 gQ m2 gv ar ax
  obtain⟨g1,li,fN,v1,cI⟩:=Gb ar
  obtain⟨g2,mA,a2,v2,c8⟩:=Gb ax
  have zX: ∀env,wanted i env=some true:=fun env=>by simp [wanted,g1]
  have zY: ∀env,wanted j env=some true:=fun env=>by simp [wanted,g2]
  simp only[GStep,zX,cI]at h
  cases h with
  |ia d bw _=>cases bw with
   |pure hp=>simp [bU]at hp
  |fh oZ mu aP hb a6 aH aq bh=>
   rename_i b o T cs
   obtain⟨bX,qF,hP⟩:=mu m2 (by simpa using ap)
   have Yo:hF (H.ch b T (gx cs o (v1.aJ env).cells)):=sQ (x:= .d (.jp T _)) (n:=b) eC
   have aa:=bh Yo
   simp only[GStep,zY,c8]at aa
   have pO: ∀x∈(bj.fh m2 gv mA a2 v2).cP,x.aJ env=x.aJ (env.put i.dst .undef):=fun x ab=>(mR .undef).1 x (by rw[c8]; exact ab)
   cases aa with
   |ia d bw _=>cases bw with
    |pure hp=>simp [bU]at hp
   |fh Zy ZF Yy Lv LY oX y3 rS=>
    rename_i c aj6 G8 Ia
    have wQ:=(pO (.t m2) (by simp [bj.cP])).trans Zy
    simp only[aK.aJ]at wQ
    rw[qF]at wQ
    have YW:bX=c:=by simpa using wQ
    subst YW
    have qK:=pO v2 (by simp [bj.cP])
    have YP:H.aU bX=some (G8,Ia):=by
     simp only[aA.ch]at Lv
     rwa [if_neg hP]at Lv
    simp only[GStep,zY,c8]
    refine .fh qF (fun s hY=> ?_) ((pO a2 (by simp [bj.cP])).trans Yy) YP (by rw[qK]; exact LY) oX (by rw[qK]; exact y3) fun aW=> ?_
    ·obtain⟨y,qa,po⟩:=ZF s hY
     exact⟨y,(pO (.t s) (by simp [bj.cP]; exact .inr (.inr (.inr hY)))).trans qa,po⟩
    ·have vq: ∀x∈(bj.fh m1 gQ li fN v1).cP,x.aJ env=x.aJ (env.put j.dst .undef):=fun x ab=>(px .undef).1 x (by rw[cI]; exact ab)
     have BA:=vq v1 (by simp [bj.cP])
     simp only[GStep,zX,cI]
     refine .fh ((vq (.t m1) (by simp [bj.cP])).symm.trans oZ) (fun s hY=> ?_) ((vq fN (by simp [bj.cP])).symm.trans aP) (T:=T) (cs:=cs) ?_ (by rw[←BA]; exact a6) aH (by rw[←BA]; exact aq) fun oW=> ?_
     ·obtain⟨y,qa,po⟩:=mu s hY
      exact⟨y,(vq (.t s) (by simp [bj.cP]; exact .inr (.inr (.inr hY)))).symm.trans qa,po⟩
     ·simp only[aA.ch]
      rw[if_neg (Ne.symm hP)]
      exact hb
     ·refine hC _ _ _ (np .undef .undef) ?_
      rw[←BA,qK,zD hP]
      rw[qK,←BA,zD hP]at oW
      exact rS (by rw[←qK]; rw[←qK]at oW; rw[zD (Ne.symm hP)]at oW; rw[zD (Ne.symm hP)]; exact oW)
 ·rename_i m1 gQ m2 gv ar ax
  obtain⟨g1,He,li,fN,cI⟩:=ag2 ar
  obtain⟨g2,mA,a2,v2,c8⟩:=Gb ax
  have zX: ∀env,wanted i env=some true:=fun env=>by simp [wanted,g1]
  have zY: ∀env,wanted j env=some true:=fun env=>by simp [wanted,g2]
  simp only[GStep,zX,cI]at h
  cases h with
  |ia d bw bh=>cases bw with
   |pure hp=>
    rename_i r
    have aa:=bh 0 trivial eC
    simp only[D.val,D.heap,GStep,zY,c8]at aa
    obtain⟨pR,b,o,hm,ab⟩:=Fc hp
    have pO: ∀x∈(bj.fh m2 gv mA a2 v2).cP,x.aJ env=x.aJ (env.put i.dst r):=fun x ab=>(mR r).1 x (by rw[c8]; exact ab)
    cases aa with
    |ia d bw _=>cases bw with
     |pure hp=>simp [bU]at hp
    |fh oZ mu aP hb a6 aH aq rS=>
     rename_i c aj6 G8 Ia
     have qK:=pO v2 (by simp [bj.cP])
     simp only[GStep,zY,c8]
     have YM:c≠b:=by
      obtain⟨y,qa,po⟩:=mu m1 (by simpa using ap)
      have e:=(pO (.t m1) (by simp [bj.cP]; exact .inr (.inr (.inr (by simpa using ap))))).trans qa
      simp only[aK.aJ]at e
      rw[hm]at e
      have:b=y:=by simpa using e
      subst this
      exact Ne.symm po
     refine .fh ((pO (.t m2) (by simp [bj.cP])).trans oZ) (fun s hY=> ?_) ((pO a2 (by simp [bj.cP])).trans aP) hb (by rw[qK]; exact a6) aH (by rw[qK]; exact aq) fun aW=> ?_
     ·obtain⟨y,qa,po⟩:=mu s hY
      exact⟨y,(pO (.t s) (by simp [bj.cP]; exact .inr (.inr (.inr hY)))).trans qa,po⟩
     ·have vq: ∀x∈(bj.hr m1 He li fN).cP,x.aJ env=x.aJ (env.put j.dst .undef):=fun x ab=>(px .undef).1 x (by rw[cI]; exact ab)
      simp only[GStep,zX,cI]
      refine .ia (.cT r) (.pure ?_) fun n _ oW=> ?_
      ·have ar:=vq (.t m1) (by simp [bj.cP])
       have ax:=vq fN (by simp [bj.cP])
       refine aq3 ?_ (ar.symm.trans hm) (ax.symm.trans ab)
       simp only[bU,ab]at pR
       simp only[bU,ax.symm.trans ab,aA.ch]
       rw[if_neg (Ne.symm YM)]
       exact pR
      ·refine hC _ _ _ (np r .undef) ?_
       rw[qK]
       exact rS (by rw[←qK]; exact aW)
 ·cases ap
theorem Pg {P:Program}{op:bj}{env:Env}{H:aA}{K Rp:I→aA→Prop}(bG:op.quiet=true) (h:ie P op env H K Rp): ∃v,eO P op env H (.cT v)∧K v H:=by
 cases h with
 |ia d bw bh=>
  cases bw with
  |pure h=>exact⟨_,.pure h,bh 0 trivial⟩
  |jo a b=>exact⟨_,.jo a b,bh 0 trivial⟩
  |jk a b=>exact⟨_,.jk a b,bh 0 trivial⟩
  |j2 a b c d e=>exact⟨_,.j2 a b c d e,bh 0 trivial⟩
  |j3 a b c d=>exact⟨_,.j3 a b c d,bh 0 trivial⟩
  |quo a b c=>exact⟨_,.quo a b c,bh 0 trivial⟩
  |rem a b c=>exact⟨_,.rem a b c,bh 0 trivial⟩
  |bR a b c=>exact⟨_,.bR a b c,bh 0 trivial⟩
  |nO a b c d=>exact⟨_,.nO a b c d,bh 0 trivial⟩
  |nM a b c d=>exact⟨_,.nM a b c d,bh 0 trivial⟩
  |ou a b c d=>exact⟨_,.ou a b c d,bh 0 trivial⟩
  |nb a b c d=>exact⟨_,.nb a b c d,bh 0 trivial⟩
  |nN a b c d=>exact⟨_,.nN a b c d,bh 0 trivial⟩
  |jn a b c d e f=>exact⟨_,.jn a b c d e f,bh 0 trivial⟩
  |eJ a b c d=>exact⟨_,.eJ a b c d,bh 0 trivial⟩
  |gE a b c d e=>exact⟨_,.gE a b c d e,bh 0 trivial⟩
  |h9 a b c d e=>exact⟨_,.h9 a b c d e,bh 0 trivial⟩
  | _=>simp [bj.quiet,bj.dh]at bG
 | _=>simp [bj.quiet,bj.dh]at bG
theorem K6 {P:Program}{i:bP}{env:Env}{H:aA}{K Rp:I→aA→Prop}(bG:i.op.quiet=true) (h:GStep P i env H K Rp): ∃v,K v H∧∀bb,kz i env bb→∀K':I→aA→Prop,K' v H→GStep P i bb H K' Rp:=by
 unfold GStep at h
 split at h
 ·rename_i hw
  obtain⟨v,J,aa⟩:=Pg bG h
  refine⟨v,aa,fun bb aP K' aC=> ?_⟩
  unfold GStep
  rw[←sq aP,hw]
  exact xq aP.1 (fun _ _ h=>h) (fun _ _ h=>h) (.ia (.cT v) J fun _ _=>aC)
 ·rename_i hw
  refine⟨_,h,fun bb aP K' aC=> ?_⟩
  unfold GStep
  rw[←sq aP,hw]
  exact aC
 ·exact h.elim
theorem W2 {P:Program}{op:bj}{env:Env}{H aF:aA}{d:D}(bG:op.tt=true) (h:eO P op env H d) (aO:aF.tok=H.tok):eO P op env aF d:=by
 cases h with
 |jo a b=>exact .jo a (by rw[aO]; exact b)
 |jk a b=>exact .jk a (by rw[aO]; exact b)
 |j2 a b c d e=>exact .j2 a (by rw[aO]; exact b) c d e
 |j3 a b c d=>exact .j3 a (by rw[aO]; exact b) c d
 |pure h=>
  cases op with
  |jo=>simp [bU]at h
  |j2=>simp [bU]at h
  |j3=>simp [bU]at h
  |jk=>simp [bU]at h
  | _=>simp [bj.tt]at bG
 | _=>simp [bj.tt]at bG
theorem Yj {P:Program}{i:bP}{env:Env}{H:aA}{K Rp:I→aA→Prop}(bG:i.op.tt=true) (h:GStep P i env H K Rp): ∃v,K v H∧∀bb aF,kz i env bb→aF.tok=H.tok→∀K':I→aA→Prop,K' v aF→GStep P i bb aF K' Rp:=by
 have ZL:i.op.quiet=true:=by
  cases aq:i.op<;>rw[aq]at bG<;>simp [bj.tt]at bG<;>simp [bj.quiet]
 unfold GStep at h
 split at h
 ·rename_i hw
  obtain⟨v,J,aa⟩:=Pg ZL h
  refine⟨v,aa,fun bb aF aP aO K' aC=> ?_⟩
  unfold GStep
  rw[←sq aP,hw]
  exact xq aP.1 (fun _ _ h=>h) (fun _ _ h=>h) (.ia (.cT v) (W2 bG J aO) fun _ _=>aC)
 ·rename_i hw
  refine⟨_,h,fun bb aF aP aO K' aC=> ?_⟩
  unfold GStep
  rw[←sq aP,hw]
  exact aC
 ·exact h.elim
theorem TK {P:Program}{i:bP}{env:Env}{H:aA}{K Rp:I→aA→Prop}(aH:i.op.tQ=true) (h:GStep P i env H K Rp): ∃O:I→aA→Prop,(∀v aF,O v aF→K v aF∧aF.tok=H.tok)∧∀bb,kz i env bb→∀K':I→aA→Prop,(∀v aF,O v aF→K' v aF)→GStep P i bb H K' Rp:=by
 unfold GStep at h
 split at h
 ·rename_i hw
  have key: ∀ {op:bj},op.tQ=true→ie P op env H K Rp→∃O:I→aA→Prop,(∀v aF,O v aF→K v aF∧aF.tok=H.tok)∧∀K':I→aA→Prop,(∀v aF,O v aF→K' v aF)→ie P op env H K' Rp:=by
   intro op aH h
   cases h with
   |ia d bw bh=>
    refine⟨fun v aF=> ∃x,d.fresh x H∧v=d.val x∧aF=d.heap H x,fun v aF ⟨x,J,aa,au⟩=> ?_,fun K' aC=> .ia d bw fun x ab=>aC _ _ ⟨x,ab,rfl,rfl⟩⟩
    subst aa
    subst au
    refine⟨bh x J,?_⟩
    cases bw with
    |alloc=>rfl
    |pure h=>rfl
    | _=>simp [bj.tQ]at aH
   |fh oZ mu aP hb a6 ms aq bh=>
    rename_i e6 others n a v b o T cs
    exact⟨fun bT aF=>bT= .undef∧aF=H.ch b T (gx cs o (v.aJ env).cells),fun bT aF ⟨J,aa⟩=>by subst J; subst aa; exact⟨bh,rfl⟩,fun K' aC=> .fh oZ mu aP hb a6 ms aq (aC _ _ ⟨rfl,rfl⟩)⟩
   | _=>simp [bj.tQ]at aH
  obtain⟨O,J,aa⟩:=key aH h
  refine⟨O,J,fun bb aP K' aC=> ?_⟩
  unfold GStep
  rw[←sq aP,hw]
  exact xq aP.1 (fun _ _ h=>h) (fun _ _ h=>h) (aa K' aC)
 ·rename_i hw
  refine⟨fun v aF=>v= .undef∧aF=H,fun v aF ⟨J,aa⟩=>by subst J; subst aa; exact⟨h,rfl⟩,fun bb aP K' aC=> ?_⟩
  unfold GStep
  rw[←sq aP,hw]
  exact aC _ _ ⟨rfl,rfl⟩
 ·exact h.elim
theorem FM {P:Program}{i:bP}{env:Env}{H:aA}{x:X}{y:Option (List Nat)×Option Nat}{o:List Nat}(ai:i.n7=some y) (ag:tj o (some y)=true) (h:kB P i env H x):
  ∃v,x= .d (.cT v)∧∀aF,(∀s∈o,∀b,env.get s= .ptr b 0→aF.aU b=H.aU b)→kB P i env aF x:=by
 have key: ∀(op:bj),op.still=true→∀d,eO P op env H d→∃v,d= .cT v∧∀aF,eO P op env aF d:=by
  intro op ap d bw
  cases bw with
  |pure hp=>
   refine⟨_,rfl,fun aF=> .pure ?_⟩
   cases op<;>first
    |exact hp
    |(simp [bj.still,bj.dh]at ap; done)
  |quo a b c=>exact⟨_,rfl,fun _=> .quo a b c⟩
  |rem a b c=>exact⟨_,rfl,fun _=> .rem a b c⟩
  |bR a b c=>exact⟨_,rfl,fun _=> .bR a b c⟩
  |nO a b c d=>exact⟨_,rfl,fun _=> .nO a b c d⟩
  |nM a b c d=>exact⟨_,rfl,fun _=> .nM a b c d⟩
  |ou a b c d=>exact⟨_,rfl,fun _=> .ou a b c d⟩
  |nb a b c d=>exact⟨_,rfl,fun _=> .nb a b c d⟩
  |nN a b c d=>exact⟨_,rfl,fun _=> .nN a b c d⟩
  |jn a b c d e f=>exact⟨_,rfl,fun _=> .jn a b c d e f⟩
  |eJ a b c d=>exact⟨_,rfl,fun _=> .eJ a b c d⟩
  |gE a b c d e=>exact⟨_,rfl,fun _=> .gE a b c d e⟩
  |h9 a b c d e=>exact⟨_,rfl,fun _=> .h9 a b c d e⟩
  |jC a=>exact⟨_,rfl,fun _=> .jC a⟩
  |n6 a b c=>exact⟨_,rfl,fun _=> .n6 a b c⟩
  |o7 a b=>exact⟨_,rfl,fun _=> .o7 a b⟩
  |o8 a b c d=>exact⟨_,rfl,fun _=> .o8 a b c d⟩
  | _=>simp [bj.still,bj.dh]at ap
 unfold bP.n7 at ai
 split at ai
 ·simp at ai; subst ai; simp [tj]at ag
 ·rename_i e6 agg n x aY aq
  simp at ai
  subst ai
  have oZ:e6∈o:=by simpa [tj] using ag
  cases h with
  |skip hw=>simp [wanted,aY]at hw
  |dM hw rV=>rw[aq]at rV; cases rV
  |d hw bw=>
   rw[aq]at bw
   cases bw with
   |pure hp=>
    obtain⟨pR,b,p,hm,ab⟩:=Fc hp
    refine⟨_,rfl,fun aF hb=> .d hw ?_⟩
    rw[aq]
    refine .pure ?_
    have:=hb e6 oZ b hm
    simp only[bU,hm,ab,if_true]at hp ⊢
    rw[this]
    exact hp
 ·split at ai
  ·rename_i ap
   cases h with
   |skip hw=>exact⟨_,rfl,fun aF _=> .skip hw⟩
   |dM hw rV=>rw[rV]at ap; simp [bj.still,bj.dh]at ap
   |d hw bw=>
    obtain⟨v,rfl,aa⟩:=key _ ap _ bw
    exact⟨v,rfl,fun aF _=> .d hw (aa aF)⟩
  ·cases ai
 ·cases ai
theorem Rx {i:bP}{y:Option (List Nat)×Option Nat}{o:List Nat}(ai:i.n7=some y) (ag:tj o (some y)=true):i.op.dh≤2:=by
 unfold bP.n7 at ai
 split at ai
 ·simp at ai; subst ai; simp [tj]at ag
 ·rename_i aq; rw[aq]; simp [bj.dh]
 ·split at ai
  ·rename_i ap
   cases jG:i.op<;>rw[jG]at ap<;>simp [bj.still,bj.dh]at ap ⊢
  ·cases ai
 ·cases ai
theorem HL {i:bP}{o:List Nat}{z:Option Nat}(h:i.n7=some (some o,z)):i.guard=none∧∃f args,i.op= .hM o f args:=by
 unfold bP.n7 at h
 split at h
 ·rename_i aY aq
  simp at h
  obtain⟨rfl,_⟩:=h
  exact⟨aY,_,_,aq⟩
 ·simp at h
 ·split at h<;>simp at h
 ·cases h
theorem HM {P:Program}{i:bP}{o:List Nat}{z:Option Nat}{env:Env}{H:aA}{K Rp:I→aA→Prop}(ai:i.n7=some (some o,z)) (eC:hF H) (h:GStep P i env H K Rp):
  ∃O:I→aA→Prop,(∃v aF,O v aF∧hF aF)∧(∀v aF,O v aF→K v aF∧∀s∈o,∀b,env.get s= .ptr b 0→aF.aU b=H.aU b)∧∀bb,kz i env bb→∀K':I→aA→Prop,(∀v aF,O v aF→K' v aF)→GStep P i bb H K' Rp:=by
 obtain⟨aY,f,args,aq⟩:=HL ai
 have hw: ∀env,wanted i env=some true:=fun env=>by simp [wanted,aY]
 unfold GStep at h
 rw[hw]at h
 simp only at h
 rw[aq]at h
 cases h with
 |ia d bw bh=>cases bw with
  |pure hp=>simp [bU]at hp
 |hM Q mu hex aP ah aC=>
  obtain⟨jP,H0,cI,c8⟩:=hex eC
  refine⟨fun v aF=>Q (.ret v) aF,⟨jP,H0,cI,c8⟩,fun v aF bG=>⟨aC _ _ bG,fun s ap b hb=> ?_⟩,fun bb pO K' rT=> ?_⟩
  ·obtain⟨bX,ar,ax⟩:=mu s ap
   rw[hb]at ar
   cases ar
   exact ax _ _ bG
  ·unfold GStep
   rw[hw]
   simp only
   have aw:ie P (.hM o f args) env H K' Rp:= .hM Q mu hex aP ah fun EV aF bG=>by
    cases EV with
    |ret v=>exact rT v aF bG
    |eR v=>exact aC _ _ bG
   rw[aq]
   exact xq (by have:=pO.1; rw[aq]at this; exact this) (fun _ _ h=>h) (fun _ _ h=>h) aw
theorem We {P:Program}{i j:bP}{env:Env}{H:aA}{C:Env→aA→Prop}{Rp:I→aA→Prop}(hC: ∀e cC H,kd e cC→C e H→C cC H) (eC:hF H) (fR: ∀x,i.dst=some x→x∉j.reads∧j.dst≠some x) (il: ∀x,j.dst=some x→x∉i.reads) (ap:yq i j=true)
  (h:GStep P i env H (fun v H1=>hF H1→GStep P j (env.put i.dst v) H1 (fun u dk=>hF dk→C ((env.put i.dst v).put j.dst u) dk) Rp) Rp):
  GStep P j env H (fun u H1=>hF H1→GStep P i (env.put j.dst u) H1 (fun v dk=>hF dk→C ((env.put j.dst u).put i.dst v) dk) Rp) Rp:=by
 have mR: ∀v,kz j env (env.put i.dst v):=fun v=>wz fun x ab=>(fR x ab).1
 have px: ∀v,kz i env (env.put j.dst v):=fun v=>wz il
 have np: ∀v u,kd ((env.put i.dst v).put j.dst u) ((env.put j.dst u).put i.dst v):=fun v u=>put_comm fun x ab=>(fR x ab).2
 have X5: ∀ {k:bP}{o:List Nat}{z:Option Nat}{d:Option Nat}{v:I},k.n7=some (some o,z)→(∀x,d=some x→x∉k.reads)→∀s∈o,(env.put d v).get s=env.get s:=by
  intro k o z d v aC bw s ap
  obtain⟨_,f,args,aq⟩:=HL aC
  refine K3 fun x ab e=>bw x ab ?_
  subst e
  simp only[bP.reads,aq,bj.cP,List.mem_append,List.mem_filterMap]
  exact .inl ⟨.t x,.inr (List.mem_map.2 ⟨x,ap,rfl⟩),rfl⟩
 unfold yq at ap
 split at ap
 ·rename_i o z x tZ
  cases rB:j.n7 with
  |none=>rw[rB]at ap; simp [tj]at ap
  |some y=>
   rw[rB]at ap
   have jm:=Rx rB ap
   obtain⟨O,⟨v0,H0,gQ,gv⟩,pX,vM⟩:=HM tZ eC h
   obtain⟨mN,d1,d2,d3⟩:=(mn jm).1 ((pX _ _ gQ).1 gv)
   have Dp:=ru (mR v0).symm d1
   obtain⟨u,rfl,tW⟩:=FM rB ap Dp
   have Il:=tW H fun s hY b hb=>((pX _ _ gQ).2 s hY b hb).symm
   refine (mn jm).2 ⟨_,Il,trivial,fun n _ aW=> ?_⟩
   refine vM _ (px _) _ fun v aF aq oW=> ?_
   obtain⟨wo,ar,ax,cw⟩:=(mn jm).1 ((pX _ _ aq).1 oW)
   obtain⟨x4,lB,WV⟩:=FM rB ap Il
   have Dq:=WV aF (pX _ _ aq).2
   have:=AI jm (ru (mR v).symm ar) Dq
   subst this
   exact hC _ _ _ (np v u) (cw 0 trivial oW)
 ·rename_i x o z rB aQ4
  cases tZ:i.n7 with
  |none=>rw[tZ]at ap; simp [tj]at ap
  |some y=>
   rw[tZ]at ap
   have jm:=Rx tZ ap
   obtain⟨mN,d1,d2,d3⟩:=(mn jm).1 h
   obtain⟨v,rfl,tW⟩:=FM tZ ap d1
   have J:=d3 0 trivial eC
   obtain⟨O,_,pX,vM⟩:=HM rB eC J
   refine vM _ (mR v).symm _ fun u aF aq aW=> ?_
   have Dq:=tW aF fun s hY b hb=>(pX _ _ aq).2 s hY b ((X5 rB (fun x ab=>(fR x ab).1) s hY).trans hb)
   refine (mn jm).2 ⟨_,ru (px u) Dq,trivial,fun n _ Y9=> ?_⟩
   exact hC _ _ _ (np v u) ((pX _ _ aq).1 aW)
 ·cases ap
theorem Yh {P:Program}{i j:bP}{env:Env}{H:aA}{C:Env→aA→Prop}{Rp:I→aA→Prop}(hC: ∀e cC H,kd e cC→C e H→C cC H) (eC:hF H) (ai:indep i j=true)
  (h:GStep P i env H (fun v H1=>hF H1→GStep P j (env.put i.dst v) H1 (fun u dk=>hF dk→C ((env.put i.dst v).put j.dst u) dk) Rp) Rp):
  GStep P j env H (fun u H1=>hF H1→GStep P i (env.put j.dst u) H1 (fun v dk=>hF dk→C ((env.put j.dst u).put i.dst v) dk) Rp) Rp:=by
 obtain⟨fR,il,gl⟩:=ab2 ai
 have mR: ∀v,kz j env (env.put i.dst v):=fun v=>wz fun x ab=>(fR x ab).1
 have px: ∀v,kz i env (env.put j.dst v):=fun v=>wz il
 have np: ∀v u,kd ((env.put i.dst v).put j.dst u) ((env.put j.dst u).put i.dst v):=fun v u=>put_comm fun x ab=>(fR x ab).2
 rcases gl with gl|gl
 ·exact We hC eC fR il gl h
 rcases gl with ⟨cI,c8⟩|gl
 ·obtain⟨v,bC,bA⟩:=K6 cI h
  obtain⟨u,cO,fC⟩:=K6 c8 (bC eC)
  exact fC _ (mR v).symm _ fun _=>bA _ (px u) _ fun _=>hC _ _ _ (np v u) (cO eC)
 rcases gl with ⟨cI,c8⟩|gl
 ·obtain⟨v,bC,bA⟩:=Yj cI h
  obtain⟨O,cO,fC⟩:=TK c8 (bC eC)
  exact fC _ (mR v).symm _ fun u aF aq _=>bA _ aF (px u) (cO u aF aq).2 _ fun aW=>hC _ _ _ (np v u) ((cO u aF aq).1 aW)
 rcases gl with gl|⟨gl,mB⟩|gl|gl|⟨gl,mB,EX⟩
 rotate_left
 rotate_left
 ·exact aH2 hC eC fR il gl h
 rotate_right
 ·obtain⟨O,⟨v0,H0,gQ,gv⟩,pX,vM⟩:=ah3 gl eC h
  obtain⟨x,d1,d2,d3⟩:=(mn (by omega)).1 (pX _ _ gQ gv)
  obtain⟨u,rfl,tW⟩:=Rw mB d1
  refine (mn (by omega)).2 ⟨_,ru (mR v0).symm (tW H),trivial,fun n _ aW=> ?_⟩
  refine vM _ (px _) _ fun v aF aq oW=> ?_
  obtain⟨y,ar,ax,cw⟩:=(mn (by omega)).1 (pX _ _ aq oW)
  have:=AI (by omega) (ru (mR v).symm ar) (ru (mR v0).symm (tW aF))
  subst this
  exact hC _ _ _ (np v u) (cw 0 trivial oW)
 rotate_right
 ·obtain⟨x,d1,d2,d3⟩:=(mn (by omega)).1 h
  obtain⟨v,rfl,tW⟩:=Rw gl d1
  have J:=d3 0 trivial eC
  refine vm (mR v).symm (fun u aF bh aW=> ?_) (fun _ _ h=>h) J
  refine (mn (by omega)).2 ⟨_,ru (px u) (tW aF),trivial,fun n _ Y9=> ?_⟩
  exact hC _ _ _ (np v u) (bh aW)
 ·obtain⟨u,t1,t2⟩:=aJ4 gl.2 env H
  have ag:j.op.dh≤2:=by
   have:=gl.2
   simp only[bP.total,Bool.and_eq_true]at this
   have aa:=this.2
   split at aa<;>first
    |(rename_i e; rw[e]; simp [bj.dh])
    |cases aa
  refine (mn ag).2 ⟨_,t1,trivial,fun n _ LC=> ?_⟩
  refine vm (px u) (fun v aF bh aW=> ?_) (fun _ _ h=>h) h
  obtain⟨y,ar,ax,cw⟩:=(mn ag).1 (bh aW)
  have:=AI ag ar (t2 _ (mR v) aF)
  subst this
  exact hC _ _ _ (np v u) (cw 0 trivial aW)
 ·obtain⟨x,d1,d2,d3⟩:=(mn gl).1 h
  obtain⟨cD,vx,LC⟩:=KW eC (tk j.op env) x
  have g0:=d3 cD LC (sQ eC)
  obtain⟨y,ar,ax,cw⟩:=(mn mB).1 g0
  have sO:=ru (mR (x.val cD)).symm ar
  have fq:kB P j env H y:=WZ mB (TJ vx) sO
  have notboth: ∀t T s r w dx cQ bM dn w',x= .dM t T s r w→y= .dM dx cQ bM dn w'→False:=by
   rintro t T s r w dx cQ bM dn w' rfl rfl
   exact EX ⟨Iw d1,Iw fq⟩
  have aZ:y.ok H:=by
   cases y with
   |d e=>trivial
   |dM t T s r w=>
    have ag:=W0 fq
    simp only[X.ok]at ax ⊢
    cases x with
    |d f=>
     cases f with
     |cT=>exact ax
     |jp=>exact ax
     |bF=>
      simp only[X.heap,D.heap,aA.cA]at ax
      rw[if_neg (by omega)]at ax
      exact ax
    |dM=>exact (notboth _ _ _ _ _ _ _ _ _ _ rfl rfl).elim
  refine (mn mB).2 ⟨y,fq,aZ,fun k aC aP9=> ?_⟩
  have Dp:=Ix gl (LS aC) (ru (px (y.val k)) d1)
  have hQ:x.ok (y.heap H k):=by
   cases x with
   |d e=>trivial
   |dM t T s r w=>
    simp only[X.ok]at d2 ⊢
    cases y with
    |d f=>
     cases f with
     |cT=>exact d2
     |jp=>exact d2
     |bF=>
      simp only[X.fresh,D.fresh]at aC
      simp only[X.heap,D.heap,aA.cA]
      rw[if_neg (fun e=>by subst e; rw[aC]at d2; cases d2)]
      exact d2
    |dM=>exact (notboth _ _ _ _ _ _ _ _ _ _ rfl rfl).elim
  refine (mn gl).2 ⟨x,Dp,hQ,fun n a6 xi=> ?_⟩
  have rU:=XW aC a6
  have g1:=d3 n rU (sQ eC)
  obtain⟨gz,f1,f2,f3⟩:=(mn mB).1 g1
  have XH:=ru (mR (x.val n)).symm f1
  have:=AI mB XH (Ix mB (LS rU) fq)
  subst this
  rw[Y6 d2 aZ aC a6 rU notboth]at xi ⊢
  exact hC _ _ _ (np _ _) (f3 k (X0 d2 aC a6) xi)
def kA (P:Program):List bP→Env→aA→(Env→aA→Prop)→(I→aA→Prop)→Prop
 |[],env,H,K,_=>K env H
 |i::l,env,H,K,Rp=>GStep P i env H (fun v aF=>hF aF→kA P l (env.put i.dst v) aF K Rp) Rp
theorem Dw {P:Program}{K:Env→aA→Prop}{Rp:I→aA→Prop}: ∀(l:List bP){env:Env}{H:aA},bf P l env H K Rp→kA P l env H K Rp
 |[],_,_,h=>by simpa only[kA,bf] using h
 |i::l,env,H,h=>by
  rw[yb]at h
  exact vm (ym fun _=>rfl) (fun v aF bh _=>Dw l bh) (fun _ _ h=>h) h
theorem ID {P:Program}{K:Env→aA→Prop}{Rp:I→aA→Prop}(dv: ∀e cC H,kd e cC→K e H→K cC H): ∀(l:List bP){e cC:Env}{H:aA},kd e cC→kA P l e H K Rp→kA P l cC H K Rp
 |[],e,cC,H,h,bw=>by simp only[kA]at bw ⊢; exact dv e cC H h bw
 |i::l,e,cC,H,h,bw=>by
  simp only[kA]at bw ⊢
  exact vm (ym h) (fun v aF bh aW=>ID dv l (Fj h i.dst v) (bh aW)) (fun _ _ h=>h) bw
theorem Dv {P:Program}{K K':Env→aA→Prop}{Rp:I→aA→Prop}(dv: ∀e H,K e H→K' e H): ∀(l:List bP){e:Env}{H:aA},kA P l e H K Rp→kA P l e H K' Rp
 |[],e,H,bw=>by simp only[kA]at bw ⊢; exact dv e H bw
 |i::l,e,H,bw=>by
  simp only[kA]at bw ⊢
  exact vm (ym fun _=>rfl) (fun v aF bh aW=>Dv dv l (bh aW)) (fun _ _ h=>h) bw
theorem IE {P:Program}{K:Env→aA→Prop}{Rp:I→aA→Prop}(dv: ∀e cC H,kd e cC→K e H→K cC H){i:bP}{u0:List bP}: ∀(mi:List bP){env:Env}{H:aA},hF H→(∀y∈mi,indep y i=true)→kA P (mi++i::u0) env H K Rp→kA P (i::(mi++u0)) env H K Rp
 |[],_,_,_,_,h=>h
 |y::mi,env,H,eC,ai,h=>by
  simp only[List.cons_append,kA]at h
  have aa:GStep P y env H (fun v H1=>hF H1→GStep P i (env.put y.dst v) H1 (fun u dk=>hF dk→kA P (mi++u0) ((env.put y.dst v).put i.dst u) dk K Rp) Rp) Rp:=
   vm (ym fun _=>rfl) (fun v H1 bh aW=>IE dv mi aW (fun z aB=>ai z (by simp [aB])) (bh aW)) (fun _ _ h=>h) h
  exact Yh (C:=fun e H=>kA P (mi++u0) e H K Rp) (fun e cC H he bw=>ID dv _ he bw) eC (ai y (by simp)) aa
section
variable {P:Program}{n:Nat}{m0:mh}{ops:Array Oper}{Q:Exit→Act→World→Prop}
theorem FP {m:Mem}(bo:b5 m):hF m.H:=by
 refine⟨max m.w.heap.size m.T,fun k aC=>⟨?_,?_⟩⟩
 ·cases h:m.H.aU k with
  |none=>rfl
  |some x=>have:=rp bo (T:=x.1) (cs:=x.2) h; omega
 ·cases h:m.H.tok k with
  |none=>rfl
  |some i=>have:=(bo.tok k i h).1; omega
def yj (n:Nat) (m0:mh) (Rp:I→aA→Prop) (Q:Exit→Act→World→Prop):Prop:=
 ∀(x:I) (aX:Mem) (kg:Value) (a:Act),Rp x aX.H→b5 aX→b0 m0.m aX→aR aX x kg→(a.defers=m0.D∧∀E∈m0.kt,dJ aX E a.tmps)→a.tmps.size=n→Q (.panic [{v:=kg,recovered:=false}]) a aX.w
theorem Lb {o:Oper}{i:bP}{idx:Nat}{env:Env}{H:aA}{a:Act}{w:World}{K Rp:I→aA→Prop}{tG:Act→World→Prop}(aq:ops[idx]? =some o) (ah:pD P n ops o i=true) (vu:m0.free i) (ag:Rel n m0 env H a w) (hp:yj n m0 Rp Q) (ap:GStep P i env H K Rp)
  (h: ∀v aF cp w',K v aF→hF aF→Rel n m0 (env.put i.dst v) aF cp w'→tG cp w'):wpOp P ops Q idx tG a w:=by
 obtain⟨m,rfl,rfl,bo,bE,he,gi,dm⟩:=ag
 obtain⟨c1,c2,gg,iJ,nB⟩:=Wj ah
 unfold wpOp
 simp only[aq]
 unfold GStep at ap
 split at ap
 ·rename_i hw
  have Ez:=SD gg he hw (fun j w aY=>by rw[dm]; exact nB j w aY)
  rw[Ez]
  simp only[if_true]
  refine .inl (ab8 ap iJ bo he (fun x aX v aC bO b4 cJ=> ?_) (fun x aX v aC bO b4 cJ=>hp x aX v a aC bO (bE.trans b4) cJ ⟨gi.1,fun E dc k=>aR.aJ b4 _ _ (gi.2 E dc k)⟩ dm))
  rw[c1]
  exact h x aX.H _ _ aC (FP bO) (Ry he bE b4 bO cJ gi dm c2 vu)
 ·rename_i hw
  have Ez:=SD gg he hw (fun j w aY=>by rw[dm]; exact nB j w aY)
  rw[Ez]
  simp only[Bool.false_eq_true,if_false]
  rw[c1]
  exact h _ _ _ _ ap (FP bo) (Ry he bE (b0.refl m) bo (by simp only[aR]) gi dm c2 vu)
 ·exact ap.elim
def KE:bP:=⟨none,none,.pU 0⟩
def nth (is:List bP) (k:Nat):bP:=is.getD k KE
theorem Dj: ∀ {os:List Oper}{is:List bP},lU P n ops os is=true→os.length=is.length∧∀k o,os[k]? =some o→pD P n ops o (nth is k)=true
 |[],[],_=>⟨rfl,fun k o h=>by simp at h⟩
 |[],_:: _,h=>by simp [lU]at h
 | _:: _,[],h=>by simp [lU]at h
 |o::os,i::is,h=>by
  simp only[lU,Bool.and_eq_true]at h
  obtain⟨ar,ax⟩:=Dj h.2
  refine⟨by simp [ar],fun k gP aC=> ?_⟩
  cases k with
  |zero=>simp at aC; subst aC; exact h.1
  |succ k=>simp at aC; have:=ax k gP aC; simpa [nth] using this
theorem Dx {is:List bP}{K:Env→aA→Prop}{Rp:I→aA→Prop}(ah: ∀k o,ops[k]? =some o→pD P n ops o (nth is k)=true) (vu: ∀k,m0.free (nth is k)) (hp:yj n m0 Rp Q) (aC: ∀env H a w,K env H→Rel n m0 env H a w→Q .normal a w):
  ∀(L:List Nat){env:Env}{H:aA}{a:Act}{w:World},(∀k∈L,k<ops.size)→kA P (L.map (nth is)) env H K Rp→Rel n m0 env H a w→wpOps P ops Q L a w
 |[],env,H,a,w,_,h,ag=>by
  simp only[List.map_nil,kA]at h
  exact aC _ _ _ _ h ag
 |k::L,env,H,a,w,aH,h,ag=>by
  rw[wpOps_cons]
  have cK:=aH k (by simp)
  have aq:ops[k]? =some ops[k]:=Array.getElem?_eq_getElem cK
  simp only[List.map_cons,kA]at h
  exact Lb aq (ah k _ aq) (vu k) ag hp h fun v aF cp w' bh aW kL=>Dx ah vu hp aC L (fun x ab=>aH x (by simp [ab])) (bh aW) kL
theorem Ci {is:List bP}:(List.range is.length).map (nth is)=is:=by
 apply List.ext_getElem?
 intro k
 by_cases aC:k<is.length
 ·simp [nth,aC]
 ·simp [List.getElem?_eq_none (Nat.le_of_not_lt aC),aC]
end
section
variable {P:Program}{n:Nat}{m0:mh}{ops:Array Oper}{Q:Exit→Act→World→Prop}
def GR (ops:Array Oper) (listed:Array Bool):Prop:=∀i o,ops[i]? =some o→listed.getD i false=true→∀e∈o.after,Region.binds .any e=true→listed.getD e.on false=true
theorem Te (acc:List Nat) (l:List Edge) (s k:Nat):(l.foldl (fun s e=>if Region.binds .any e then s|||2^e.on|||acc.getD e.on 0 else s) s).testBit k=true→s.testBit k=true∨∃e∈l,Region.binds .any e=true∧(k=e.on∨(acc.getD e.on 0).testBit k=true):=by
 induction l generalizing s with
 |nil=>intro h; exact .inl h
 |cons e l cv=>
  intro h
  simp only[List.foldl_cons]at h
  rcases cv _ h with h|⟨cC,Bh,hb,aC⟩
  ·split at h
   ·rename_i hb
    simp only[Nat.testBit_or,Bool.or_eq_true]at h
    rcases h with (h|h)|h
    ·exact .inl h
    ·refine .inr ⟨e,by simp,hb,.inl ?_⟩
     rw[Nat.testBit_two_pow]at h
     exact (by simpa using h:e.on=k).symm
    ·exact .inr ⟨e,by simp,hb,.inr h⟩
   ·exact .inl h
  ·exact .inr ⟨cC,by simp [Bh],hb,aC⟩
theorem Hh {listed:Array Bool}(ah:GR ops listed) (hb: ∀i o,ops[i]? =some o→∀e∈o.after,Region.binds .any e=true→e.on<i):
  ∀(os:List Oper) (acc:List Nat),(∀j o,os[j]? =some o→ops[acc.length+j]? =some o)→
   (∀i,i<acc.length→(∀o,ops[i]? =some o→∀e∈o.after,Region.binds .any e=true→listed.getD e.on false=true)→∀k,(acc.getD i 0).testBit k=true→listed.getD k false=true)→
   ∀i,i<acc.length+os.length→(∀o,ops[i]? =some o→∀e∈o.after,Region.binds .any e=true→listed.getD e.on false=true)→
    ∀k,((os.foldl (fun acc o=>acc++[o.after.foldl (fun s e=>if Region.binds .any e then s|||2^e.on|||acc.getD e.on 0 else s) 0]) acc).getD i 0).testBit k=true→listed.getD k false=true
 |[],acc,_,h,i,ai,ag,k,aC=>h i (by simpa using ai) ag k aC
 |o::os,acc,Bt,h,i,ai,ag,k,aC=>by
  simp only[List.foldl_cons]at aC
  refine Hh ah hb os _ (fun j gP bq=> ?_) (fun da gB kL dY rT=> ?_) i (by simp at ai ⊢; omega) ag k aC
  ·have:=Bt (j+1) gP (by simpa using bq)
   simpa [Nat.add_assoc,Nat.add_comm 1 j] using this
  ·simp only[List.length_append,List.length_singleton]at gB
   by_cases cK:da<acc.length
   ·refine h da cK kL dY ?_
    rw[List.getD_eq_getElem?_getD,List.getElem?_append_left cK,←List.getD_eq_getElem?_getD]at rT
    exact rT
   ·have Zi:da=acc.length:=by omega
    subst Zi
    have aq:ops[acc.length]? =some o:=by have:=Bt 0 o rfl; simpa using this
    rw[List.getD_eq_getElem?_getD,List.getElem?_append_right (Nat.le_refl _)]at rT
    simp only[Nat.sub_self,List.getElem?_cons_zero,Option.getD_some]at rT
    rw[←Array.foldl_toList]at rT
    rcases Te acc o.after.toList 0 dY rT with aw|⟨e,he,oq,Eg⟩
    ·simp at aw
    ·have Bh:e∈o.after:=by simpa using he
     have aH:=kL o aq e Bh oq
     rcases Eg with rfl|Eg
     ·exact aH
     ·have cK:=hb _ o aq e Bh oq
      refine h e.on cK (fun gv y3 ax Eb hP=>ah e.on gv y3 aH ax Eb hP) dY Eg
theorem ak3 {os:List Oper}{is:List bP}(h:vO os is=true):(∀(i:Nat) (o:Oper),os[i]? =some o→∀e∈o.after,Region.binds .any e=true→e.on<i)∧(∀i j,i<j→j<is.length→((Hg os).getD j 0).testBit i=true∨indep (nth is i) (nth is j)=true):=by
 simp only[vO,Bool.and_eq_true,List.all_eq_true]at h
 obtain⟨J,aa⟩:=h
 refine⟨fun i o aq e he hb=> ?_,fun i j Zj bq=> ?_⟩
 ·have:=J (o,i) (by rw[List.mem_zipIdx_iff_getElem?]; exact aq)
  simp only[Array.all_eq_true_iff_forall_mem]at this
  have:=this e he
  simp only[hb,Bool.not_true,Bool.false_or,Nat.blt_eq]at this
  exact this
 ·have ai:i<is.length:=by omega
  have:=aa (nth is j,j) (by rw[List.mem_zipIdx_iff_getElem?]; simp [nth,bq]) (nth is i,i) (by rw[List.mem_zipIdx_iff_getElem?]; simp [nth,ai])
  simp only[Bool.or_eq_true,Bool.not_eq_true']at this
  rcases this with (this|this)|this
  ·have cK:Nat.blt i j=true:=by rw[Nat.blt_eq]; exact Zj
   rw[cK]at this
   cases this
  ·exact .inl this
  ·exact .inr this
theorem IF {is:List bP}{K:Env→aA→Prop}{Rp:I→aA→Prop}(hlen:ops.size=is.length) (iy:vO ops.toList is=true) (ah: ∀k o,ops[k]? =some o→pD P n ops o (nth is k)=true) (vu: ∀k,m0.free (nth is k)) (hp:yj n m0 Rp Q) (dv: ∀e cC H,kd e cC→K e H→K cC H) (aC: ∀env H a w,K env H→Rel n m0 env H a w→Q .normal a w):
  ∀(jY:Nat) (T:List Nat) (listed:Array Bool){env:Env}{H:aA}{a:Act}{w:World},listed.size=ops.size→T.Pairwise (·< ·)→(∀k,k∈T↔k<ops.size∧listed.getD k true=false)→T.length=jY→GR ops listed→
   kA P (T.map (nth is)) env H K Rp→Rel n m0 env H a w→wpAny P .any ops Q jY listed a w:=by
 obtain⟨hb,LK⟩:=ak3 iy
 have gu: ∀(i:Nat) (o:Oper),ops[i]? =some o→∀e∈o.after,Region.binds .any e=true→e.on<i:=fun i o aq=>hb i o (by simpa using aq)
 have ready: ∀(listed:Array Bool) i,i∈Region.ready .any ops listed↔i<ops.size∧listed.getD i true=false∧∀o,ops[i]? =some o→∀e∈o.after,Region.binds .any e=true→listed.getD e.on false=true:=by
  intro listed i
  simp only[Region.ready,List.mem_filter,List.mem_range,Bool.and_eq_true,Bool.not_eq_true']
  constructor
  ·rintro⟨J,aa,au⟩
   refine⟨J,aa,fun o aq e he oq=> ?_⟩
   rw[aq]at au
   simp only[Option.map_some,Option.getD_some,Array.all_eq_true_iff_forall_mem]at au
   have:=au e he
   simpa [oq] using this
  ·rintro⟨J,aa,au⟩
   refine⟨J,aa,?_⟩
   have aq:ops[i]? =some ops[i]:=Array.getElem?_eq_getElem J
   rw[aq]
   simp only[Option.map_some,Option.getD_some,Array.all_eq_true_iff_forall_mem]
   intro e he
   by_cases oq:Region.binds .any e=true
   ·simp [oq,au _ aq e he oq]
   ·simp [oq]
 intro jY
 induction jY with
 |zero=>
  intro T listed env H a w dm ap c4 aH rQ h ag
  have:T=[]:=List.eq_nil_of_length_eq_zero aH
  subst this
  refine⟨?_,aC _ _ _ _ h ag⟩
  rw[List.eq_nil_iff_forall_not_mem]
  intro i ai
  obtain⟨J,aa,_⟩:=(ready listed i).1 ai
  have:=(c4 i).2 ⟨J,aa⟩
  cases this
 |succ jY cv=>
  intro T listed env H a w dm ap c4 aH rQ h ag
  refine⟨fun El=> ?_,fun i ai=> ?_⟩
  ·-- the first that is left is ready
   match T,aH with
   |t::T,_=>
    have aO:=(c4 t).1 (by simp)
    have:t∈Region.ready .any ops listed:=by
     refine (ready listed t).2 ⟨aO.1,aO.2,fun o aq e he oq=> ?_⟩
     have cK:=gu t o aq e he oq
     cases bG:listed.getD e.on true with
     |true=>
      have:e.on<listed.size:=by omega
      simp [Array.getD_eq_getD_getElem?,this]at bG ⊢
      exact bG
     |false=>
      have hm:=(c4 e.on).2 ⟨by omega,bG⟩
      rcases List.mem_cons.1 hm with ar|ar
      ·omega
      ·have:=List.rel_of_pairwise_cons ap ar
       omega
    rw[El]at this
    cases this
  ·obtain⟨J,aa,au⟩:=(ready listed i).1 ai
   have Zh:=(c4 i).2 ⟨J,aa⟩
   obtain⟨mi,u0,rfl⟩:=List.append_of_mem Zh
   have aq:ops[i]? =some ops[i]:=Array.getElem?_eq_getElem J
   have YG:=Hh rQ gu ops.toList [] (fun j o bq=>by simpa using bq) (fun i ai=>by simp at ai) i (by simpa using J) au
   have Ef: ∀y∈mi.map (nth is),indep y (nth is i)=true:=by
    intro y aZ
    obtain⟨k,LQ,rfl⟩:=List.mem_map.1 aZ
    have Zm:k<i:=by
     rw[List.pairwise_append]at ap
     exact ap.2.2 k LQ i (by simp)
    rcases LK k i Zm (by omega) with YO|Ef
    ·have y0:=YG k YO
     have vw:=(c4 k).1 (by simp [LQ])
     have:k<listed.size:=by omega
     simp [Array.getD_eq_getD_getElem?,this]at y0 vw
     rw[y0]at vw
     simp at vw
    ·exact Ef
   have eC:hF H:=by
    obtain⟨m,rfl,rfl,bo,_⟩:=ag
    exact FP bo
   have LG:=IE dv (i:=nth is i) (mi.map (nth is)) eC Ef (by simpa using h)
   simp only[kA]at LG
   refine Lb aq (ah i _ aq) (vu i) ag hp LG fun v aF cp w' bh aW kL=> ?_
   refine cv (mi++u0) _ (by simpa using dm) ?_ (fun k=> ?_) (by simp at aH ⊢; omega) ?_ (by simpa using bh aW) kL
   ·rw[List.pairwise_append,List.pairwise_cons]at ap
    rw[List.pairwise_append]
    exact⟨ap.1,ap.2.1.2,fun a aP b hb=>ap.2.2 a aP b (by simp [hb])⟩
   ·have LA:i∉mi∧i∉u0:=by
     rw[List.pairwise_append,List.pairwise_cons]at ap
     exact⟨fun hm=>by have:=ap.2.2 i hm i (by simp); omega,fun hm=>by have:=ap.2.1.1 i hm; omega⟩
    have:=c4 k
    by_cases e:k=i
    ·subst e
     simp only[List.mem_append,LA.1,LA.2,or_self,false_iff,not_and]
     intro _
     have:k<listed.size:=by omega
     simp [Array.getD_eq_getD_getElem?,this]
    ·have dw:(listed.setIfInBounds i true).getD k true=listed.getD k true:=by
      simp [Array.getD_eq_getD_getElem?,Array.getElem?_setIfInBounds_ne (Ne.symm e)]
     rw[dw,←this]
     simp [e]
   ·intro j o bq LU e he oq
    by_cases LM:j=i
    ·subst LM
     have:=au o bq e he oq
     by_cases Bj:e.on=j
     ·have:=gu j o bq e he oq
      omega
     ·simp only[Array.getD_eq_getD_getElem?,Array.getElem?_setIfInBounds_ne (Ne.symm Bj)]at this ⊢
      exact this
    ·have Zt:listed.getD j false=true:=by
      simp only[Array.getD_eq_getD_getElem?,Array.getElem?_setIfInBounds_ne (Ne.symm LM)]at LU ⊢
      exact LU
     have:=rQ j o bq Zt e he oq
     by_cases Bj:e.on=i
     ·rw[Bj]
      have:i<listed.size:=by omega
      simp [Array.getD_eq_getD_getElem?,this]
     ·simp only[Array.getD_eq_getD_getElem?,Array.getElem?_setIfInBounds_ne (Ne.symm Bj)]at this ⊢
      exact this
end
theorem ah5 {P:Program}{m:Mem}{env:Env}{t:TypeId}{agg:Bool}{n:Nat}{y:aK}{r:I}{mE:Value}(bo:b5 m) (J:o3 P t agg n=true) (ah:aR m (y.aJ env) mE) (hp:bU (.load agg n y) env m.H=some r):
  ∃c7 v,mE= .pointer (some c7)∧(loadVar t c7).run P m.w= .ok v m.w∧aR m r v:=by
 simp only[bU]at hp
 have fin: ∀b p (l:List Value) (cs:List I),mE= .pointer (some ⟨b,p,none⟩)→I.iB agg cs=some r→aS m cs l→l.length=n→(∀(j:Nat) (v:Value),l[j]? =some v→m.w.cell? ⟨b,p+j,none⟩=some v)→∃c7 v,mE= .pointer (some c7)∧(loadVar t c7).run P m.w= .ok v m.w∧aR m r v:=by
  intro b p l cs ar ax cw fq lB
  refine⟨_,_,ar,FW J b p l fq lB,?_⟩
  rcases zm ax cw with ⟨rfl,h⟩|⟨rfl,v,rfl,h⟩
  ·exact h
  ·exact h
 split at hp
 ·rename_i b p e
  rw[e]at ah
  split at hp
  ·rename_i T cs hb
   split at hp
   ·rename_i hle
    obtain⟨l,g1,g2,g3⟩:=bo.aU b _ cs hb
    refine fin b p ((l.drop p).take n) _ (uJ ah) hp (aS.take n (aS.drop p g2)) ?_ fun j v bq=> ?_
    ·have:=aS.length g2
     simp; omega
    ·rw[cell_of_row m.w b _ _ _ _ g1]
     rw[List.getElem?_take]at bq
     split at bq
     ·rw[List.getElem?_drop]at bq
      simpa using bq
     ·cases bq
   ·cases hp
  ·cases hp
 ·rename_i row p e
  rw[e]at ah
  obtain⟨b,q,ar,ax⟩:=xL ah
  split at hp
  ·rename_i hle
   obtain⟨l,g1,g2⟩:=ff.wh ax
   refine fin b (q+p) ((l.drop p).take n) _ ar hp (aS.take n (aS.drop p g1)) ?_ fun j v bq=> ?_
   ·have:=aS.length g1
    simp; omega
   ·rw[List.getElem?_take]at bq
    split at bq
    ·rw[List.getElem?_drop]at bq
     rw[Nat.add_assoc]
     exact (g2 _ v bq).1
    ·cases bq
  ·cases hp
 ·cases hp
def Cj (tmps:Array Value) (x:ResultVar):Sem Value:=
 match x with
 | .tmp t=>pure (tmps.getD t undef)
 | .cell a t=>do loadVar t (←asAddr (tmps.getD a undef))
theorem XE {P:Program}{m:Mem}{env:Env}{tmps:Array Value}{x:ResultVar}{e:bk}{r:I}(he:dJ m env tmps) (bo:b5 m) (ah:lV P [x] [e]=true) (ag:e.aJ env m.H=some r):
  ∃v,(Cj tmps x).run P m.w= .ok v m.w∧aR m r v:=by
 cases x with
 |tmp t=>
  cases e with
  |t k=>
   simp [lV]at ah
   subst ah
   simp only[bk.aJ,Option.some.injEq]at ag
   subst ag
   exact⟨_,rfl,he t⟩
  |cell=>simp [lV]at ah
 |cell a ty=>
  cases e with
  |t k=>simp [lV]at ah
  |cell agg k cp=>
   simp [lV]at ah
   obtain⟨rfl,aa⟩:=ah
   simp only[bk.aJ]at ag
   obtain⟨c7,v,ar,ax,cw⟩:=ah5 (y:= .t a) bo aa (he a) ag
   refine⟨v,?_,cw⟩
   simp only[Cj,Sem.run_bind,ar,asAddr,Sem.run_pure,Result.andThen_ok,ax]
theorem Wk {P:Program}{x:ResultVar}{xs:List ResultVar}{e:bk}{es:List bk}(h:lV P (x::xs) (e::es)=true):lV P [x] [e]=true∧lV P xs es=true:=by
 cases x<;>cases e<;>simp [lV]at h ⊢
 ·exact h
 ·exact h
theorem Rz {P:Program}{m:Mem}{env:Env}{tmps:Array Value}(he:dJ m env tmps) (bo:b5 m): ∀ {xs:List ResultVar}{es:List bk}{aL:List I},lV P xs es=true→es.mapM (bk.aJ env m.H)=some aL→
  ∃ay,(xs.mapM (Cj tmps)).run P m.w= .ok ay m.w∧aS m aL ay
 |[],[],aL,_,h=>by
  simp at h
  subst h
  exact⟨[],by simp,by simp only[aS]⟩
 |[],_:: _,_,h,_=>by simp [lV]at h
 | _:: _,[],_,h,_=>by simp [lV]at h
 |x::xs,e::es,aL,ah,h=>by
  obtain⟨J,aa⟩:=Wk ah
  simp only[List.mapM_cons,Option.bind_eq_bind,Option.pure_def]at h
  cases ag:e.aJ env m.H with
  |none=>simp [ag]at h
  |some r=>
   cases Et:es.mapM (bk.aJ env m.H) with
   |none=>simp [ag,Et]at h
   |some FR=>
    simp [ag,Et]at h
    subst h
    obtain⟨v,g1,g2⟩:=XE he bo J ag
    obtain⟨ay,g3,g4⟩:=Rz he bo aa Et
    refine⟨v::ay,?_,by simp only[aS]; exact⟨v,ay,rfl,g2,g4⟩⟩
    rw[List.mapM_cons]
    simp only[Sem.run_bind,g1,Result.andThen_ok,g3,Sem.run_pure]
theorem aC3 {P:Program}{m:Mem}{env:Env}{tmps:Array Value}{fn:Func}{aL:List bk}{r:I}(he:dJ m env tmps) (bo:b5 m) (ah:lV P fn.results.toList aL=true) (ag:bc.results aL env m.H=some r):
  ∃v,(Go.results fn tmps).run P m.w= .ok v m.w∧aR m r v:=by
 have key: ∀es:List I,aL.mapM (bk.aJ env m.H)=some es→∃ay,(Go.results fn tmps).run P m.w= .ok (if h:ay.toArray.size=1 then ay.toArray[0] else .tuple ay.toArray) m.w∧aS m es ay:=by
  intro es xh
  obtain⟨ay,g1,g2⟩:=Rz he bo ah xh
  refine⟨ay,?_,g2⟩
  show ((fn.results.mapM (Cj tmps))>>=fun ay=>pure (if h:ay.size=1 then ay[0] else .tuple ay)).run P m.w= _
  rw[Array.mapM_eq_mapM_toList]
  simp only[Sem.run_bind,Sem.run_map,g1,Result.andThen_ok,Sem.run_pure]
 unfold bc.results at ag
 split at ag
 ·rename_i e
  obtain⟨ay,g1,g2⟩:=key [r] (by simp [ag])
  simp only[aS]at g2
  obtain⟨v,_,rfl,g2,rfl⟩:=g2
  exact⟨v,by simpa using g1,g2⟩
 ·rename_i dw
  cases xh:aL.mapM (bk.aJ env m.H) with
  |none=>simp [xh]at ag
  |some es=>
   simp [xh]at ag
   subst ag
   obtain⟨ay,g1,g2⟩:=key es xh
   have aH:aL.length=es.length:=by
    have: ∀(l:List bk) (es:List I),l.mapM (bk.aJ env m.H)=some es→l.length=es.length:=by
     intro l
     induction l with
     |nil=>intro es h; simp at h; subst h; rfl
     |cons x l cv=>
      intro es h
      simp only[List.mapM_cons,Option.bind_eq_bind,Option.pure_def]at h
      cases ab:x.aJ env m.H with
      |none=>simp [ab]at h
      |some y=>
       cases aH:l.mapM (bk.aJ env m.H) with
       |none=>simp [ab,aH]at h
       |some eH=>simp [ab,aH]at h; subst h; simp [cv eH aH]
    exact this aL es xh
   have ZA:ay.length≠1:=by
    rw[aS.length g2,←aH]
    intro e
    obtain⟨x,ab⟩:=List.length_eq_one_iff.1 e
    exact dw x ab
   rw[dif_neg (by simpa using ZA)]at g1
   exact⟨_,g1,by simp only[aR]; exact⟨ay,rfl,g2⟩⟩
end Go.bc
namespace Go.bc
open Go
inductive qd where
 |c (c:Code)
 |aU (id:Nat)
 |round (aj:Act→World→Prop)
def post (P:Program) (B:Exit→Act→World→Prop):List qd→Exit→Act→World→Prop
 |[],e,a,w=>B e a w
 | .c code::k,e,a,w=>match e with
  | .normal=>code.wp P (post P B k) a w
  |e=>post P B k e a w
 | .aU id::k,e,a,w=>match e with
  | .exit Mj=>if Mj=id then post P B k .normal a w else post P B k (.exit Mj) a w
  |e=>post P B k e a w
 | .round aj::k,e,a,w=>match e with
  | .normal=>aj a w
  |e=>post P B k e a w
def gI (P:Program) (n:Nat) (m0:mh):List Item→List qd→Prop
 |[],l=>l=[]
 | .c e::k,l=> ∃c b8,l= .c c::b8∧(kF P n c e=true∧∀E∈m0.kt,∀p∈E,e.kl p.1=true)∧gI P n m0 k b8
 | .aU id::k,l=> ∃b8,l= .aU id::b8∧gI P n m0 k b8
 | .round er m::k,l=> ∃aj b8,l= .round aj::b8∧(∀a w,(∃aX env H,er aX env H∧aX<m∧Rel n m0 env H a w)→aj a w)∧gI P n m0 k b8
section
variable {P:Program}{B:Exit→Act→World→Prop}
theorem B0: ∀(l:List qd) (a:Act) (w:World),B .ret a w→post P B l .ret a w
 |[],_,_,h=>h
 | .c _::l,a,w,h=>B0 l a w h
 | .aU _::l,a,w,h=>B0 l a w h
 | .round _::l,a,w,h=>B0 l a w h
theorem BZ: ∀(l:List qd) (tS:List PanicEntry) (a:Act) (w:World),B (.panic tS) a w→post P B l (.panic tS) a w
 |[],_,_,_,h=>h
 | .c _::l,tS,a,w,h=>BZ l tS a w h
 | .aU _::l,tS,a,w,h=>BZ l tS a w h
 | .round _::l,tS,a,w,h=>BZ l tS a w h
theorem BY {n:Nat}{m0:mh}{id:Nat}: ∀(k:List Item) (l:List qd) (dY:List Item),gI P n m0 k l→pa id k=some dY→∃b8,gI P n m0 dY b8∧∀a w,post P B b8 .normal a w→post P B l (.exit id) a w
 |[],_,_,_,h=>by simp [pa]at h
 | .c e::k,l,dY,ai,h=>by
  simp only[gI]at ai
  obtain⟨c,b8,rfl,_,ai⟩:=ai
  simp only[pa]at h
  obtain⟨dZ,g1,g2⟩:=BY k b8 dY ai h
  exact⟨dZ,g1,fun a w bh=>g2 a w bh⟩
 | .aU j::k,l,dY,ai,h=>by
  simp only[gI]at ai
  obtain⟨b8,rfl,ai⟩:=ai
  simp only[pa]at h
  split at h
  ·rename_i e
   subst e
   simp at h
   subst h
   exact⟨b8,ai,fun a w bh=>by simp only[post,if_pos]; exact bh⟩
  ·rename_i e
   obtain⟨dZ,g1,g2⟩:=BY k b8 dY ai h
   exact⟨dZ,g1,fun a w bh=>by simp only[post]; rw[if_neg (Ne.symm e)]; exact g2 a w bh⟩
 | .round er m::k,l,dY,ai,h=>by
  simp only[gI]at ai
  obtain⟨aj,b8,rfl,_,ai⟩:=ai
  simp only[pa]at h
  obtain⟨dZ,g1,g2⟩:=BY k b8 dY ai h
  exact⟨dZ,g1,fun a w bh=>g2 a w bh⟩
theorem ar0 {c:Code}{l:List qd}:Exit.then (c.wp P (post P B l)) (post P B l)=post P B (.c c::l):=by
 funext e a w
 cases e<;>rfl
theorem aq9 {id:Nat}{l:List qd}:Exit.inBlock id (post P B l)=post P B (.aU id::l):=by
 funext e a w
 cases e<;>rfl
end
theorem sE {P:Program}{n:Nat}{ops:Array Oper}: ∀ {os:List Oper}{is:List bP}(anns:List I),lU P n ops os is=true→lU P n ops os (eP is anns)=true
 |[],[],_,h=>by simpa [eP] using h
 |[],_:: _,_,h=>by simp [lU]at h
 | _:: _,[],_,h=>by simp [lU]at h
 |o::os,⟨d,g,op⟩::is,anns,h=>by
  simp only[lU,Bool.and_eq_true]at h
  cases op with
  |hz f args=>
   cases anns with
   |nil=>simp only[eP,lU,Bool.and_eq_true]; exact⟨h.1,sE [] h.2⟩
   |cons r aL=>
    simp only[eP,lU,Bool.and_eq_true]
    refine⟨?_,sE aL h.2⟩
    have J:=h.1
    simp only[pD,Bool.and_eq_true]at J ⊢
    refine⟨J.1,?_⟩
    have:=J.2
    cases aq:o.op<;>rw[aq]at this<;>first
     |(simp [br]at this; done)
     |skip
    rename_i c
    obtain⟨callee,fx,at'⟩:=c
    cases callee<;>first
     |exact this
     |(rename_i b; cases b<;>exact this)
  |jq x args=>
   cases anns with
   |nil=>simp only[eP,lU,Bool.and_eq_true]; exact⟨h.1,sE [] h.2⟩
   |cons r aL=>
    simp only[eP,lU,Bool.and_eq_true]
    refine⟨?_,sE aL h.2⟩
    have J:=h.1
    simp only[pD,Bool.and_eq_true]at J ⊢
    refine⟨J.1,?_⟩
    have:=J.2
    cases aq:o.op<;>rw[aq]at this<;>first
     |(simp [br]at this; done)
     |skip
    rename_i c
    obtain⟨callee,fx,at'⟩:=c
    cases callee<;>first
     |exact this
     |(rename_i b; cases b<;>exact this)
  |qY T size f args=>
   cases anns with
   |nil=>simp only[eP,lU,Bool.and_eq_true]; exact⟨h.1,sE [] h.2⟩
   |cons r aL=>
    simp only[eP,lU,Bool.and_eq_true]
    refine⟨?_,sE aL h.2⟩
    have J:=h.1
    simp only[pD,Bool.and_eq_true]at J ⊢
    refine⟨J.1,?_⟩
    have:=J.2
    cases aq:o.op<;>rw[aq]at this<;>first
     |(simp [br]at this; done)
     |skip
    rename_i c
    obtain⟨callee,fx,at'⟩:=c
    cases callee<;>first
     |exact this
     |(rename_i b; cases b<;>exact this)
  | _=>simp only[eP,lU,Bool.and_eq_true]; exact⟨h.1,sE anns h.2⟩
theorem rm: ∀(is:List bP) (anns:List I) (k:Nat),(nth (eP is anns) k).dst=(nth is k).dst∧(nth (eP is anns) k).reads=(nth is k).reads∧(nth (eP is anns) k).op.dh=(nth is k).op.dh∧(nth (eP is anns) k).total=(nth is k).total∧(nth (eP is anns) k).op.live=(nth is k).op.live∧(nth (eP is anns) k).uN=(nth is k).uN
 |[],anns,k=>by simp [eP]
 |⟨d,g,op⟩::is,anns,k=>by
  cases op with
  |hz f args=>
   cases anns with
   |nil=>
    cases k with
    |zero=>exact⟨rfl,rfl,rfl,rfl,rfl,by first|rfl|(cases g<;>rfl)⟩
    |succ k=>exact rm is [] k
   |cons r aL=>
    cases k with
    |zero=>exact⟨rfl,rfl,rfl,rfl,rfl,by first|rfl|(cases g<;>rfl)⟩
    |succ k=>exact rm is aL k
  |jq f args=>
   cases anns with
   |nil=>
    cases k with
    |zero=>exact⟨rfl,rfl,rfl,rfl,rfl,by first|rfl|(cases g<;>rfl)⟩
    |succ k=>exact rm is [] k
   |cons r aL=>
    cases k with
    |zero=>exact⟨rfl,rfl,rfl,rfl,rfl,by first|rfl|(cases g<;>rfl)⟩
    |succ k=>exact rm is aL k
  |qY T size f args=>
   cases anns with
   |nil=>
    cases k with
    |zero=>exact⟨rfl,rfl,rfl,rfl,rfl,by first|rfl|(cases g<;>rfl)⟩
    |succ k=>exact rm is [] k
   |cons r aL=>
    cases k with
    |zero=>exact⟨rfl,rfl,rfl,rfl,rfl,by first|rfl|(cases g<;>rfl)⟩
    |succ k=>exact rm is aL k
  | _=>
   cases k with
   |zero=>exact⟨rfl,rfl,rfl,rfl,rfl,by first|rfl|(cases g<;>rfl)⟩
   |succ k=>exact rm is anns k
theorem sF: ∀(is:List bP) (anns:List I) (k:Nat),(nth (eP is anns) k).op.quiet=(nth is k).op.quiet∧(nth (eP is anns) k).op.tt=(nth is k).op.tt∧(nth (eP is anns) k).op.tQ=(nth is k).op.tQ∧(nth (eP is anns) k).n7=(nth is k).n7
 |[],anns,k=>by simp [eP]
 |⟨d,g,op⟩::is,anns,k=>by
  cases op with
  |hz f args=>
   cases anns with
   |nil=>
    cases k with
    |zero=>exact⟨rfl,rfl,rfl,by first|rfl|(cases g<;>rfl)⟩
    |succ k=>exact sF is [] k
   |cons r aL=>
    cases k with
    |zero=>exact⟨rfl,rfl,rfl,by first|rfl|(cases g<;>rfl)⟩
    |succ k=>exact sF is aL k
  |jq f args=>
   cases anns with
   |nil=>
    cases k with
    |zero=>exact⟨rfl,rfl,rfl,by first|rfl|(cases g<;>rfl)⟩
    |succ k=>exact sF is [] k
   |cons r aL=>
    cases k with
    |zero=>exact⟨rfl,rfl,rfl,by first|rfl|(cases g<;>rfl)⟩
    |succ k=>exact sF is aL k
  |qY T size f args=>
   cases anns with
   |nil=>
    cases k with
    |zero=>exact⟨rfl,rfl,rfl,by first|rfl|(cases g<;>rfl)⟩
    |succ k=>exact sF is [] k
   |cons r aL=>
    cases k with
    |zero=>exact⟨rfl,rfl,rfl,by first|rfl|(cases g<;>rfl)⟩
    |succ k=>exact sF is aL k
  | _=>
   cases k with
   |zero=>exact⟨rfl,rfl,rfl,by first|rfl|(cases g<;>rfl)⟩
   |succ k=>exact sF is anns k
theorem wA: ∀(is:List bP) (anns:List I),(eP is anns).length=is.length
 |[],_=>rfl
 |⟨d,g,op⟩::is,anns=>by
  cases op with
  |hz f args=>cases anns<;>simp [eP,wA is]
  |jq f args=>cases anns<;>simp [eP,wA is]
  |qY T size f args=>cases anns<;>simp [eP,wA is]
  | _=>simp [eP,wA is]
theorem Hi {os:List Oper}{is:List bP}{anns:List I}(h:vO os is=true):vO os (eP is anns)=true:=by
 simp only[vO,Bool.and_eq_true,List.all_eq_true]at h ⊢
 refine⟨h.1,fun⟨y,j⟩ aZ ⟨x,i⟩ ab=> ?_⟩
 rw[List.mem_zipIdx_iff_getElem?]at aZ ab
 have bq:j<is.length:=by rw[←wA is anns]; exact (List.getElem?_eq_some_iff.1 aZ).1
 have ai:i<is.length:=by rw[←wA is anns]; exact (List.getElem?_eq_some_iff.1 ab).1
 have rD:nth (eP is anns) j=y:=by simp only[nth,List.getD_eq_getElem?_getD]; rw[aZ]; rfl
 have ex:nth (eP is anns) i=x:=by simp only[nth,List.getD_eq_getElem?_getD]; rw[ab]; rfl
 have:=h.2 (nth is j,j) (by rw[List.mem_zipIdx_iff_getElem?]; simp [nth,bq]) (nth is i,i) (by rw[List.mem_zipIdx_iff_getElem?]; simp [nth,ai])
 have e:indep x y=indep (nth is i) (nth is j):=by
  obtain⟨fN,a2,a3,a4,a5,Ha⟩:=rm is anns i
  obtain⟨eB,dU,jj,kD,qm,CZ⟩:=rm is anns j
  rw[rD]at eB dU jj kD qm CZ
  rw[ex]at fN a2 a3 a4 a5 Ha
  obtain⟨Hb,Hc,a9,G9⟩:=sF is anns i
  obtain⟨C0,To,Ar,Ho⟩:=sF is anns j
  rw[rD]at C0 To Ar Ho
  rw[ex]at Hb Hc a9 G9
  unfold indep zG yq
  rw[G9,Ho,Hb,C0,Hc,Ar,fN,a2,a3,a5,Ha,eB,dU,jj,kD,CZ]
 simp only[e]
 exact this
theorem FN {n:Nat}{m0:mh}{env bb:Env}{H:aA}{a:Act}{w:World}(h: ∀j,eI (env.get j) (bb.get j)) (ag:Rel n m0 env H a w):Rel n m0 bb H a w:=by
 obtain⟨m,J,aa,au,bn,bL,cq⟩:=ag
 exact⟨m,J,aa,au,bn,fun k=>h k _ _ (bL k),cq⟩
def GZ (m0:Mem) (R:Out→aA→Prop) (e:Ending) (w':World):Prop:=
 ∃o aF gb cQ,b5 ⟨w',aF,gb,cQ⟩∧b0 m0 ⟨w',aF,gb,cQ⟩∧rl ⟨w',aF,gb,cQ⟩ o e∧R o aF
structure yf (P:Program) (fn:Func) (n:Nat) (aL:List bk) (Q:Ending→World→Prop) (R:Out→aA→Prop) (m0:mh):Prop where
 ret: ∀env H v a w,bc.results aL env H=some v→R (.ret v) H→Rel n m0 env H a w→Leaves P fn a.tmps Q a.defers .returning w
 eR: ∀(x:I) (aX:Mem) (kg:Value) (a:Act),R (.eR x) aX.H→b5 aX→b0 m0.m aX→aR aX x kg→(a.defers=m0.D∧∀E∈m0.kt,dJ aX E a.tmps)→a.tmps.size=n→Leaves P fn a.tmps Q a.defers (.panicking [{v:=kg,recovered:=false}]) aX.w
theorem YJ {P:Program}{fn:Func}{n:Nat}{m0:Mem}{aL:List bk}{R:Out→aA→Prop}(Er:lV P fn.results.toList aL=true):yf P fn n aL (GZ m0 R) R ⟨m0,[],[]⟩ where
 ret:=fun env H v a w af an ag=>by
  obtain⟨m,rfl,rfl,bo,bE,he,gi,_⟩:=ag
  obtain⟨kg,g1,g2⟩:=aC3 (fn:=fn) he bo Er af
  rw[gi.1]
  exact⟨kg,g1,.ret v,m.H,m.L,m.T,bo,bE,⟨kg,rfl,g2⟩,an⟩
 eR:=fun x aX kg a an bo aJ af gi _=>by
  rw[gi.1]
  exact⟨.eR x,aX.H,aX.L,aX.T,bo,aJ,⟨kg,rfl,af⟩,an⟩
theorem YK {P:Program}{fn:Func}{n:Nat}{aL:List bk}{Q:Ending→World→Prop}{R jt:Out→aA→Prop}{m0:mh}{m1:Mem}{f:FuncId}{gr:List I}{ay:List Value}{kt:Env}(hb:yf P fn n aL Q R m0) (aW:c9 P f=true) (um:b0 m0.m m1) (ix:aS m1 gr ay) (Bk:Ab P f gr)
  (Bv: ∀v aF,jt (.ret v) aF→R (.ret v) aF) (Bu: ∀x aF,jt (.eR x) aF→tE P f gr x aF fun dk=> ∃v,bc.results aL kt dk=some v∧R (.ret v) dk):
  yf P fn n aL Q jt ⟨m1,{target:= .fn (.func f) ⟨ay⟩,args:= #[]}::m0.D,kt::m0.kt⟩ where
 ret:=fun env H v a w af an ag=>by
  obtain⟨m,rfl,rfl,bo,bE,he,gi,dm⟩:=ag
  rw[gi.1]
  have hinv:(invoke (.fn (.func f) ⟨ay⟩) #[]).run P m.w= .ok (.enter f ⟨ay⟩) m.w:=by simp [invoke,zz aW]
  refine leaves_cons (by simp) hinv ((Bk m ay bo (aS.aJ bE _ _ ix)).mono ?_)
  rintro e q9 w' ⟨⟨bT,rfl⟩,rfl,gb,cQ,bO,b4⟩
  have:=hb.ret env m.H v {a with defers:=m0.D} w' af (Bv _ _ an) ⟨⟨w',m.H,gb,cQ⟩,rfl,rfl,bO,(um.trans bE).trans b4,fun k=>aR.aJ b4 _ _ (he k),⟨rfl,fun E dc k=>aR.aJ b4 _ _ (gi.2 E (by simp [dc]) k)⟩,dm⟩
  exact this
 eR:=fun x aX kg a an bo aJ af gi dm=>by
  rw[gi.1]
  have hinv:(invoke (.fn (.func f) ⟨ay⟩) #[]).run P aX.w= .ok (.enter f ⟨ay⟩) aX.w:=by simp [invoke,zz aW]
  refine leaves_cons (by simp) hinv ((Bu x aX.H an aX ay kg rfl bo (aS.aJ aJ _ _ ix) af).mono ?_)
  rintro e q9 w' ⟨⟨bT,rfl⟩,rfl,aF,gb,cQ,bO,b4,v,y6,Yt⟩
  have:=hb.ret kt aF v {a with defers:=m0.D} w' y6 Yt ⟨⟨w',aF,gb,cQ⟩,rfl,rfl,bO,(um.trans aJ).trans b4,fun k=>aR.aJ b4 _ _ (gi.2 kt (by simp) k),⟨rfl,fun E dc k=>aR.aJ b4 _ _ (gi.2 E (by simp [dc]) k)⟩,dm⟩
  exact this
theorem gI.more {P:Program}{n:Nat}{m0 m1:mh}: ∀ {k:List Item}{l:List qd},gI P n m0 k l→(∀E∈m1.kt,E∈m0.kt∨∀p∈E,k.all (Item.kl p.1)=true)→k.all (fun i=>match i with| .round _ _=>false| _=>true)=true→gI P n m1 k l
 |[],l,h,_,_=>by simp only[gI]at*; exact h
 | .c e::k,l,h,aC,ag=>by
  simp only[gI]at*
  obtain⟨c,b8,rfl,⟨J,aa⟩,au⟩:=h
  simp only[List.all_cons,Bool.and_eq_true]at aC ag
  exact⟨c,b8,rfl,⟨J,fun E dc p hp=>(aC E dc).elim (fun h=>aa E h p hp) fun h=>(h p hp).1⟩,gI.more au (fun E dc=>(aC E dc).imp (fun h=>h) fun h p hp=>(h p hp).2) ag.2⟩
 | .aU id::k,l,h,aC,ag=>by
  simp only[gI]at*
  obtain⟨b8,rfl,au⟩:=h
  simp only[List.all_cons,Bool.and_eq_true]at aC ag
  exact⟨b8,rfl,gI.more au (fun E dc=>(aC E dc).imp (fun h=>h) fun h p hp=>(h p hp).2) ag.2⟩
 | .round er m::k,l,h,aC,ag=>by simp at ag
theorem M0 {m0:mh}{ops:List bP}{draw:Bool}(anns:List I) (h: ∀E∈m0.kt,∀p∈E,(bu.region ops draw).kl p.1=true) (k:Nat):m0.free (nth (eP ops anns) k):=by
 intro E dc p hp e
 have J:=h E dc p hp
 simp only[bu.kl,List.all_eq_true]at J
 rw[(rm ops anns k).1]at e
 by_cases aC:k<ops.length
 ·have aa:=J (nth ops k) (by simp [nth,aC])
  simp [e]at aa
 ·simp [nth,List.getD,aC,KE]at e
theorem Tc {P:Program}{fn:Func}{n:Nat}{aL:List bk}{Q:Ending→World→Prop}{R:Out→aA→Prop}(hm:P.follows .mixedOrders=true){k:List Item}{env:Env}{H:aA}(h:cx P aL R k env H):
  ∀(m0:mh) (hb:yf P fn n aL Q R m0) (l:List qd) (a:Act) (w:World),gI P n m0 k l→Rel n m0 env H a w→post P (bodyPostD P fn Q) l .normal a w:=by
 have eR: ∀ {R:Out→aA→Prop}(m0:mh) (hb:yf P fn n aL Q R m0) (l:List qd),yj n m0 (fun v aF=>R (.eR v) aF) (post P (bodyPostD P fn Q) l):=by
  intro R m0 hb l x aX kg a an bo aJ af gi dm
  exact BZ l _ a aX.w (hb.eR x aX kg a an bo aJ af gi dm)
 induction h with
 |done af an=>
  intro m0 hb l a w ai ag
  simp only[gI]at ai
  subst ai
  exact hb.ret _ _ _ _ _ af an ag
 |ret af an=>
  intro m0 hb l a w ai ag
  simp only[gI]at ai
  obtain⟨c,b8,rfl,⟨ah,hw⟩,ai⟩:=ai
  cases c<;>simp [kF]at ah
  exact wp_ret (B0 b8 a w (hb.ret _ _ _ _ _ af an ag))
 |skip _ cv=>
  intro m0 hb l a w ai ag
  simp only[gI]at ai
  obtain⟨c,b8,rfl,⟨ah,hw⟩,ai⟩:=ai
  cases c<;>simp [kF]at ah
  exact wp_skip (cv m0 hb b8 a w ai ag)
 |gV _ cv=>
  intro m0 hb l a w ai ag
  simp only[gI]at ai
  obtain⟨b8,rfl,ai⟩:=ai
  exact cv m0 hb b8 a w ai ag
 |seq _ cv=>
  intro m0 hb l a w ai ag
  simp only[gI]at ai
  obtain⟨c,b8,rfl,⟨ah,hw⟩,ai⟩:=ai
  cases c<;>simp [kF]at ah
  rename_i x y
  refine wp_seq ?_
  rw[ar0]
  exact cv m0 hb (.c x:: .c y::b8) a w (by simp only[gI]; exact⟨_,_,rfl,⟨ah.1,fun E dc p hp=>by have:=hw E dc p hp; simp only[bu.kl,Bool.and_eq_true]at this; exact this.1⟩,_,_,rfl,⟨ah.2,fun E dc p hp=>by have:=hw E dc p hp; simp only[bu.kl,Bool.and_eq_true]at this; exact this.2⟩,ai⟩) ag
 |block _ cv=>
  intro m0 hb l a w ai ag
  simp only[gI]at ai
  obtain⟨c,b8,rfl,⟨ah,hw⟩,ai⟩:=ai
  cases c<;>simp [kF]at ah
  rename_i id x
  obtain⟨rfl,ah⟩:=ah
  refine wp_block ?_
  rw[aq9]
  exact cv m0 hb (.c x:: .aU id::b8) a w (by simp only[gI]; exact⟨_,_,rfl,⟨ah,fun E dc p hp=>by have:=hw E dc p hp; simpa only[bu.kl] using this⟩,_,rfl,ai⟩) ag
 |exit aC _ cv=>
  intro m0 hb l a w ai ag
  simp only[gI]at ai
  obtain⟨c,b8,rfl,⟨ah,hw⟩,ai⟩:=ai
  cases c<;>simp [kF]at ah
  subst ah
  obtain⟨dZ,g1,g2⟩:=BY (B:=bodyPostD P fn Q) _ b8 _ ai aC
  exact wp_exit (g2 a w (cv m0 hb dZ a w g1 ag))
 |cond YT _ _ aa8 aa9=>
  intro m0 hb l a w ai ag
  simp only[gI]at ai
  obtain⟨c,b8,rfl,⟨ah,hw⟩,ai⟩:=ai
  cases c<;>simp [kF]at ah
  rename_i x p q
  have ab: ∀(c:aK) (env:Env) (H:aA) (t:Bool),cZ x c=true→Rel n m0 env H a w→aK.aJ env c=I.bool t→a.eval x= .bool t:=by
   intro c env H t J ag aO
   obtain⟨m,rfl,rfl,bo,bE,he,_⟩:=ag
   have:=dl he J
   rw[aO]at this
   exact tn this
  exact wp_cond_split (ab _ _ _ _ ah.1.1 ag YT) (fun aO=>aa8 aO m0 hb (.c p::b8) a w (by simp only[gI]; exact⟨_,_,rfl,⟨ah.1.2,fun E dc p hp=>by have:=hw E dc p hp; simp only[bu.kl,Bool.and_eq_true]at this; exact this.1⟩,ai⟩) ag) (fun aO=>aa9 aO m0 hb (.c q::b8) a w (by simp only[gI]; exact⟨_,_,rfl,⟨ah.2,fun E dc p hp=>by have:=hw E dc p hp; simp only[bu.kl,Bool.and_eq_true]at this; exact this.2⟩,ai⟩) ag)
 |region anns K h dv cv=>
  rename_i ops draw k env H
  intro m0 hb l a w ai ag
  simp only[gI]at ai
  obtain⟨c,b8,rfl,⟨ah,hw⟩,ai⟩:=ai
  cases c<;>simp only[kF,Bool.false_eq_true]at ah
  rename_i id nC Wf
  simp only[Bool.and_eq_true,beq_iff_eq]at ah
  obtain⟨⟨rfl,yN⟩,yO⟩:=ah
  have xc:=sE anns yN
  obtain⟨hlen,xj⟩:=Dj xc
  have sX:nC.size=(eP ops anns).length:=by rw[←hlen,Array.length_toList]
  have yX: ∀k o,nC[k]? =some o→pD P n nC o (nth (eP ops anns) k)=true:=fun k o aq=>xj k o (by simpa using aq)
  have yS:=Dw _ h
  have y2: ∀env H a w,K env H→Rel n m0 env H a w→post P (bodyPostD P fn Q) b8 .normal a w:=fun env H a w aC ag=>cv env H aC m0 hb b8 a w ai ag
  cases Wf with
  |false=>
   refine wp_region ?_
   have:=Dx (Q:=post P (bodyPostD P fn Q) b8) yX (M0 anns hw) (eR m0 hb b8) y2 (List.range nC.size) (fun k aC=>by simpa using aC) (by rw[sX,Ci]; exact yS) ag
   exact this
  |true=>
   refine wp_region_any hm ?_
   have iy:=Hi (anns:=anns) (by simpa using yO)
   have kL:Rel n m0 env H a {w with drawn:=w.drawn+1}:=by
    obtain⟨m,rfl,rfl,bo,bE,he,gi,dm⟩:=ag
    exact⟨{m with w:=m.w.drew},rfl,rfl,bo.drew,bE.trans (b0.drew m),fun k=>aR.aJ (b0.drew m) _ _ (he k),⟨gi.1,fun E dc k=>aR.aJ (b0.drew m) _ _ (gi.2 E dc k)⟩,dm⟩
   have D9:=Dv (K':=fun env H=> ∃qv,kd qv env∧K qv H) (fun e H aC=>⟨e,fun _=>rfl,aC⟩) _ yS
   refine IF (K:=fun env H=> ∃qv,kd qv env∧K qv H) sX iy yX (M0 anns hw) (eR m0 hb b8) (fun e cC H he ⟨bE,J,aa⟩=>⟨bE,fun k=>(J k).trans (he k),aa⟩) (fun env H a w ⟨bE,J,aa⟩ ag=>y2 bE H a w aa (FN (fun j m v af=>by rw[J j]; exact af) ag)) nC.size (List.range nC.size) _ (by simp) List.pairwise_lt_range (fun k=> ?_) (by simp) ?_ (by rw[sX,Ci]; exact D9) kL
   ·simp only[List.mem_range]
    constructor
    ·intro aC
     exact⟨aC,by simp [Array.getD_eq_getD_getElem?,aC]⟩
    ·exact fun h=>h.1
   ·intro i o aq aH
    have cK:=(Array.getElem?_eq_some_iff.1 aq).1
    simp [Array.getD_eq_getD_getElem?,cK]at aH
 |loop er m1 aw h cv=>
  rename_i body k env H
  intro m0 hb l a w ai ag
  simp only[gI]at ai
  obtain⟨c,b8,rfl,⟨ah,hw⟩,ai⟩:=ai
  cases c<;>simp [kF]at ah
  rename_i x
  -- the least measure
  let inv:Act→World→Prop:=fun a w=> ∃aX env H,er aX env H∧Rel n m0 env H a w
  let bS:Act→World→Nat:=fun a w=>Classical.epsilon fun q=>(∃env H,er q env H∧Rel n m0 env H a w)∧∀l7,(∃env H,er l7 env H∧Rel n m0 env H a w)→q≤l7
  have LX: ∀a w,inv a w→(∃env H,er (bS a w) env H∧Rel n m0 env H a w)∧∀l7,(∃env H,er l7 env H∧Rel n m0 env H a w)→bS a w≤l7:=by
   intro a w hinv
   have hex: ∃q,(∃env H,er q env H∧Rel n m0 env H a w)∧∀l7,(∃env H,er l7 env H∧Rel n m0 env H a w)→q≤l7:=by
    obtain⟨kS,env,H,J,aa⟩:=hinv
    have key: ∀b,(∃q,q≤b∧∃env H,er q env H∧Rel n m0 env H a w)→∃q,(∃env H,er q env H∧Rel n m0 env H a w)∧∀l7,(∃env H,er l7 env H∧Rel n m0 env H a w)→q≤l7:=by
     intro b
     induction b with
     |zero=>rintro⟨q,bG,bh⟩; exact⟨q,bh,fun l7 _=>by omega⟩
     |succ b ab0=>
      rintro⟨q,bG,bh⟩
      by_cases LV: ∃q,q≤b∧∃env H,er q env H∧Rel n m0 env H a w
      ·exact ab0 LV
      ·exact⟨q,bh,fun l7 ZJ=>by
        rcases Nat.lt_or_ge b l7 with cK|cM
        ·omega
        ·exact absurd ⟨l7,cM,ZJ⟩ LV⟩
    exact key kS ⟨kS,Nat.le_refl _,env,H,J,aa⟩
   exact Classical.epsilon_spec hex
  refine wp_loop inv bS ⟨m1,env,H,aw,ag⟩ fun a w hinv=> ?_
  obtain⟨⟨Xt,H1,g1,g2⟩,aP0⟩:=LX a w hinv
  have:=cv (bS a w) Xt H1 g1 m0 hb (.c x:: .round (fun cp w'=>inv cp w'∧bS cp w'<bS a w)::b8) a w (by
   simp only[gI]
   refine⟨_,_,rfl,⟨ah,fun E dc p hp=>by have:=hw E dc p hp; simpa only[bu.kl] using this⟩,_,_,rfl,fun cp w' ⟨aX,bb,aF,bC,bA,cO⟩=> ?_,ai⟩
   have LL:inv cp w':=⟨aX,bb,aF,bC,cO⟩
   exact⟨LL,Nat.lt_of_le_of_lt ((LX cp w' LL).2 aX ⟨bb,aF,bC,cO⟩) bA⟩) g2
  refine wp_mono this fun e cp w' bG=> ?_
  cases e<;>exact bG
 |round m1 aw J=>
  intro m0 hb l a w ai ag
  simp only[gI]at ai
  obtain⟨aj,b8,rfl,Ys,ai⟩:=ai
  exact Ys a w ⟨m1,_,_,aw,J,ag⟩
 |x6 he _ cv=>
  intro m0 hb l a w ai ag
  exact cv m0 hb l a w ai (FN he ag)
 |conv S ap _ cv=>
  intro m0 hb l a w ai ag
  obtain⟨m,rfl,rfl,bo,bE,he,gi,dm⟩:=ag
  obtain⟨bb,aF,gb,cQ,s1,s2,oA,Cl⟩:=ap m rfl bo
  exact cv bb aF s1 m0 hb l a _ ai ⟨⟨m.w,aF,gb,cQ⟩,rfl,rfl,s2,bE.trans oA,fun k=>Cl k _ (he k),⟨gi.1,fun E dc k=>aR.aJ oA _ _ (gi.2 E dc k)⟩,dm⟩
 |rv jt kt Bl aC bw ah aW Bk Bv Bu L0 cv=>
  rename_i R d f cap k env H
  intro m0 hb l a w ai ag
  simp only[gI]at ai
  obtain⟨c,b8,rfl,⟨ul,hw⟩,ai⟩:=ai
  obtain⟨m,rfl,rfl,bo,bE,he,gi,dm⟩:=ag
  cases c<;>try (simp only[kF,Bool.false_eq_true]at ul; done)
  rename_i id ops draw
  cases draw<;>simp only[kF,Bool.false_eq_true]at ul
  simp only[Bool.and_eq_true]at ul
  obtain⟨⟨Y4,_⟩,Bs⟩:=ul
  have LB:d<n:=by simpa [Nat.blt_eq] using Y4
  split at Bs
  ·rename_i gQ gv sY
   simp only[Bool.and_eq_true,beq_iff_eq,Option.isNone_iff_eq_none]at Bs
   obtain⟨⟨⟨⟨⟨J,aa⟩,au⟩,bn⟩,bL⟩,cq⟩:=Bs
   split at bL
   ·rename_i g first gr ZD
    simp only[Bool.and_eq_true,decide_eq_true_eq]at bL
    obtain⟨⟨rfl,Yk⟩,Yl⟩:=bL
    split at cq
    ·rename_i t args aO3 y3
     simp only[Bool.and_eq_true,beq_iff_eq]at cq
     obtain⟨rfl,Ym⟩:=cq
     have ZE:ops= #[gQ,gv]:=by cases ops; simp at sY; subst sY; rfl
     subst ZE
     obtain⟨v,k9,af⟩:=Pb he ZD Yk Yl (by simpa using Dh aW) (P:=P) (m:=m) (o:=gQ)
     obtain⟨ay,ZZ,ix⟩:=xK af
     have Z0:=ZZ.trans (wU (Dh aW) ay)
     subst Z0
     refine wp_region ?_
     have Z1: ∀y,Region.wanted gQ y=true:=fun y=>by simp [Region.wanted,aa]
     have Z2: ∀y,Region.wanted gv y=true:=fun y=>by simp [Region.wanted,bn]
     have rP:args= #[]:=by simpa using Ym
     subst rP
     show wpOps P #[gQ,gv] _ [0,1] a m.w
     simp only[wpOps,List.getElem?_toArray,List.getElem?_cons_zero,List.getElem?_cons_succ,Z1,Z2,if_true]
     refine .inl ?_
     simp only[Oper.wp,k9,Oper.upon]
     have um:(a.put gQ.dst (.func (.func g) #[] ⟨ay⟩)).eval (.tmp t)= .func (.func g) #[] ⟨ay⟩:=by
      rw[J]
      simp [Act.put,Act.eval,Array.getD_eq_getD_getElem?,dm,LB]
     have ZQ:(execOp (a.put gQ.dst (.func (.func g) #[] ⟨ay⟩)).eval gv).run P m.w= .ok (.defer {target:= .fn (.func g) ⟨ay⟩,args:= #[]}) m.w:=by
      simp [execOp,y3,resolve,um,Deferred.ofValue]
     rw[ZQ]
     refine .inl ?_
     simp only[Oper.upon]
     refine cv _ (YK hb aW bE ix Bk Bv Bu) b8 _ _ (gI.more ai (fun E dc=> ?_) ah) ?_
     ·rcases List.mem_cons.1 dc with rfl|dc
      ·exact .inr aC
      ·exact .inl dc
     ·have cI:dJ m kt a.tmps:=fun k=>Bl k _ _ (he k)
      refine⟨m,rfl,rfl,bo,b0.refl m,?_,⟨?_,fun E dc=> ?_⟩,?_⟩
      ·have:=RO (dst:=some t) he (b0.refl m) af dm (by simpa using LB)
       rw[J,au]
       exact this
      ·rw[J,au]
       simp [Act.put,gi.1]
      ·rw[J,au]
       rcases List.mem_cons.1 dc with rfl|dc
       ·exact F0 (dst:=some t) (v:= .func (.func g) #[] ⟨ay⟩) cI (b0.refl m) (fun p hp e=>bw p hp (by simpa using e))
       ·exact F0 (dst:=some t) (v:= .func (.func g) #[] ⟨ay⟩) (gi.2 E dc) (b0.refl m) (fun p hp e=>by have:=hw E dc p hp; simp only[bu.kl]at this; simp at e; simp [e]at this)
      ·rw[J,au]
       simp [Act.put,dm]
    ·cases cq
   ·cases bL
  ·cases Bs
theorem Tb {P:Program}{fn:Func}{n:Nat}{m0:Mem}{aL:List bk}{R:Out→aA→Prop}(hm:P.follows .mixedOrders=true) (Er:lV P fn.results.toList aL=true){k:List Item}{env:Env}{H:aA}(h:cx P aL R k env H)
  (l:List qd) (a:Act) (w:World) (ai:gI P n ⟨m0,[],[]⟩ k l) (ag:Rel n ⟨m0,[],[]⟩ env H a w):post P (bodyPostD P fn (GZ m0 R)) l .normal a w:=
 Tc hm h _ (YJ Er) l a w ai ag
theorem aB8 {P:Program}{n:Nat}{m0:mh}{id:Nat}{nC:Array Oper}{draw:Bool}{ops:List bP}{anns:List I}{env:Env}{H:aA}{K:Env→aA→Prop}{Rp:I→aA→Prop}{Q:Exit→Act→World→Prop}{a:Act}{w:World}(hm:P.follows .mixedOrders=true) (vw:m0.kt=[])
  (ah:kF P n (.region id nC draw) (.region ops draw)=true) (hp:yj n m0 Rp Q) (y2: ∀env H a w,K env H→Rel n m0 env H a w→Q .normal a w) (h:bf P (eP ops anns) env H K Rp) (ag:Rel n m0 env H a w):(Code.region id nC draw).wp P Q a w:=by
 simp only[kF,Bool.and_eq_true,beq_iff_eq,BEq.rfl,true_and]at ah
 obtain⟨yN,yO⟩:=ah
 have xc:=sE anns yN
 obtain⟨hlen,xj⟩:=Dj xc
 have sX:nC.size=(eP ops anns).length:=by rw[←hlen,Array.length_toList]
 have yX: ∀k o,nC[k]? =some o→pD P n nC o (nth (eP ops anns) k)=true:=fun k o aq=>xj k o (by simpa using aq)
 have LF: ∀k,m0.free (nth (eP ops anns) k):=fun k E dc=>by rw[vw]at dc; cases dc
 have yS:=Dw _ h
 cases draw with
 |false=>
  refine wp_region ?_
  exact Dx yX LF hp y2 (List.range nC.size) (fun k aC=>by simpa using aC) (by rw[sX,Ci]; exact yS) ag
 |true=>
  refine wp_region_any hm ?_
  have iy:=Hi (anns:=anns) (by simpa using yO)
  have kL:Rel n m0 env H a {w with drawn:=w.drawn+1}:=by
   obtain⟨m,rfl,rfl,bo,bE,he,gi,dm⟩:=ag
   exact⟨{m with w:=m.w.drew},rfl,rfl,bo.drew,bE.trans (b0.drew m),fun k=>aR.aJ (b0.drew m) _ _ (he k),⟨gi.1,fun E dc k=>aR.aJ (b0.drew m) _ _ (gi.2 E dc k)⟩,dm⟩
  have D9:=Dv (K':=fun env H=> ∃qv,kd qv env∧K qv H) (fun e H aC=>⟨e,fun _=>rfl,aC⟩) _ yS
  refine IF (K:=fun env H=> ∃qv,kd qv env∧K qv H) sX iy yX LF hp (fun e cC H he ⟨bE,J,aa⟩=>⟨bE,fun k=>(J k).trans (he k),aa⟩) (fun env H a w ⟨bE,J,aa⟩ ag=>y2 bE H a w aa (FN (fun j m v af=>by rw[J j]; exact af) ag)) nC.size (List.range nC.size) _ (by simp) List.pairwise_lt_range (fun k=> ?_) (by simp) ?_ (by rw[sX,Ci]; exact D9) kL
  ·simp only[List.mem_range]
   constructor
   ·intro aC
    exact⟨aC,by simp [Array.getD_eq_getD_getElem?,aC]⟩
   ·exact fun h=>h.1
  ·intro i o aq aH
   have cK:=(Array.getElem?_eq_some_iff.1 aq).1
   simp [Array.getD_eq_getD_getElem?,cK]at aH
end Go.bc
namespace Go.bc
open Go
def initFrom:Nat→List I→Env
 | _,[]=>[]
 |k,a::az=>(k,a)::initFrom (k+1) az
abbrev mw (args:List I):Env:=initFrom 0 args
theorem BC: ∀(args:List I) (k j:Nat),(initFrom k args).get j=if k≤j then args.getD (j-k) .ew else .ew
 |[],k,j=>by simp [initFrom,Env.get]
 |a::az,k,j=>by
  simp only[initFrom,Env.get]
  by_cases h:k=j
  ·subst h
   simp
  ·have:(k==j)=false:=by simpa using h
   rw[this,cond_false,BC az (k+1) j]
   by_cases J:k+1≤j
   ·have aa:k≤j:=by omega
    rw[if_pos J,if_pos aa,show j-k=(j-(k+1))+1 by omega]
    simp
   ·rw[if_neg J,if_neg (by omega)]
theorem ab3 {m:Mem}{args:List I}{ay:List Value}{n:Nat}(h:aS m args ay):dJ m (mw args) (⟨ay⟩++Array.replicate n undef):=by
 intro k
 rw[BC]
 simp only[Nat.zero_le,if_true,Nat.sub_zero]
 by_cases aC:k<args.length
 ·obtain⟨v,ar,ax⟩:=aS.get h k args[k] (List.getElem?_eq_getElem aC)
  have cw:(⟨ay⟩++Array.replicate n undef:Array Value).getD k undef=v:=by
   have aH:k<ay.length:=by rw[aS.length h]; exact aC
   have sO:ay[k]=v:=by rw[List.getElem?_eq_getElem aH]at ar; simpa using ar
   have:k<(⟨ay⟩:Array Value).size:=aH
   simp only[Array.getD_eq_getD_getElem?,Array.getElem?_append,this,if_true]
   simp [aH,sO]
  rw[cw]
  simpa [List.getD,aC] using ax
 ·have:args.getD k .ew= .ew:=by simp [List.getD,aC]
  rw[this]
  simp only[aR]
theorem Hd {P:Program}{f:FuncId}{fn:Func}{args:List I}{e:bu}{aL:List bk}{H:aA}{R:Out→aA→Prop}(hm:P.follows .mixedOrders=true) (aW:P.funcs[f]? =some fn) (ah:bY P fn args.length e aL=true) (h:cx P aL R [.c e] (mw args) H):jr P f args H R:=by
 intro m ay eD bo af
 simp only[bY,Bool.and_eq_true]at ah
 obtain⟨⟨a6,ag⟩,hb⟩:=ah
 cases D7:fn.body with
 |none=>rw[D7]at hb; cases hb
 |some c=>
  rw[D7]at hb
  refine calls_of_wp_defers aW D7 ?_
  have hlen:=aS.length af
  have rU:args.length≤fn.ntmps:=Nat.le_of_ble_eq_true a6
  have:=Tb (fn:=fn) (n:=fn.ntmps) (m0:=m) hm ag h [.c c] {tmps:=⟨ay⟩++Array.replicate (fn.ntmps-(⟨ay⟩:Array Value).size) undef,defers:=[]} m.w (by simp only[gI]; exact⟨c,[],rfl,⟨hb,by simp⟩,rfl⟩) ⟨m,rfl,eD,bo,b0.refl m,ab3 af,⟨rfl,by simp⟩,by simp [hlen]; omega⟩
  simp only[post]at this
  refine this
def Aj:Out→Out→Prop
 | .ret a,.ret b=>eI a b
 | .eR a,.eR b=>eI a b
 | _,_=>False
theorem eI.refl (a:I):eI a a:=fun _ _ h=>h
theorem jr.mono {P:Program}{f:FuncId}{args:List I}{H:aA}{R jt:Out→aA→Prop}(h:jr P f args H R) (ag: ∀o aF,R o aF→∃gv dk,Aj o gv∧HSub dk aF∧jt gv dk):jr P f args H jt:=by
 intro m ay eD bo af cs
 obtain⟨e,w',az,⟨o,aF,gb,cQ,g1,g2,g3,g4⟩,rest⟩:=h m ay eD bo af cs
 obtain⟨gv,dk,bC,bA,cO⟩:=ag o aF g4
 refine⟨e,w',az,⟨gv,dk,gb,cQ,b5.forget bA g1,b0.forget bA g2,?_,cO⟩,rest⟩
 cases o<;>cases gv<;>simp only[Aj]at bC<;>try exact bC.elim
 ·simp only[rl]at g3 ⊢
  obtain⟨v,ar,ax⟩:=g3
  exact⟨v,ar,aR.forget bA _ _ (bC _ _ ax)⟩
 ·simp only[rl]at g3 ⊢
  obtain⟨v,ar,ax⟩:=g3
  exact⟨v,ar,aR.forget bA _ _ (bC _ _ ax)⟩
theorem jr.pure {P:Program}{f:FuncId}{args:List I}{r:I}(h: ∀H,jr P f args H fun o aF=> ∃a,o= .ret a∧eI a r∧HSub H aF):Pure P f args r:=fun H=>
 (h H).mono fun o aF ⟨a,e,J,aa⟩=>⟨.ret r,H,by subst e; exact J,aa,rfl,rfl⟩
theorem pure_intro {P:Program}{f:FuncId}{fn:Func}{args:List I}{e:bu}{aL:List bk}{r:I}(hm:P.follows .mixedOrders=true) (aW:P.funcs[f]? =some fn) (ah:bY P fn args.length e aL=true) (h: ∀H,cx P aL (fun o aF=> ∃a,o= .ret a∧eI a r∧HSub H aF) [.c e] (mw args) H):Pure P f args r:=
 jr.pure fun H=>Hd hm aW ah (h H)
end Go.bc
namespace Go.bc
open Go
variable {P:Program}{aL:List bk}{R:Out→aA→Prop}
theorem eI.ew (a:I):eI a .ew:=fun _ _ _=>by simp only[aR]
theorem bf.np {f args env H l K Rp d}(az:List I) (r:I) (hp:Pure P f az r) (aP:e7 (args.map (aK.aJ env)) az) (h:bf P l (env.put d r) H K Rp):bf P (⟨d,none,.call f args⟩::l) env H K Rp:=
 bf.rs (.cT r) rfl (.hz aP hp) fun _ _=>h
theorem bf.wV {d j t op l env H K Rp}{b:Bool}(hb:env.get j= .bool b) (h:b=t→bf P (⟨d,none,op⟩::l) env H K Rp) (ij:b=(!t)→bf P l (env.put d .undef) H K Rp):bf P (⟨d,some (j,t),op⟩::l) env H K Rp:=by
 by_cases e:b=t
 ·have:=h e
  simp only[bf,wanted]at this ⊢
  rw[hb]
  subst e
  simpa using this
 ·refine bf.skip ?_ (ij (by cases b<;>cases t<;>simp_all))
  simp only[wanted,hb]
  cases b<;>cases t<;>simp_all
theorem Tm:e7 [] []:=rfl
theorem Hn {a b:I}{az cH:List I}(h:eI a b) (t:e7 az cH):e7 (a::az) (b::cH):=⟨b,cH,rfl,h,t⟩
theorem e7.refl: ∀(az:List I),e7 az az
 |[]=>rfl
 |a::az=>Hn (eI.refl a) (e7.refl az)
theorem eI.nil {size:Nat}:eI .aV (.ay size []):=fun m v h=>by
 simp only[aR]at h ⊢
 subst h
 exact⟨none,0,0,rfl,rfl,⟨Nat.le_refl _,by unfold maxLen; omega⟩,.inl rfl⟩
theorem Hm {az cH:List I}(h:e7 az cH):eI (.agg az) (.agg cH):=by
 intro m v af
 simp only[aR]at af ⊢
 obtain⟨l,e,aH⟩:=af
 refine⟨l,e,?_⟩
 clear e
 induction az generalizing cH l with
 |nil=>simp only[e7]at h; subst h; exact aH
 |cons a az cv=>
  simp only[e7]at h
  obtain⟨b,yo,rfl,J,aa⟩:=h
  simp only[aS]at aH ⊢
  obtain⟨x,xs,rfl,g1,g2⟩:=aH
  exact⟨x,xs,rfl,J _ _ g1,cv aa _ g2⟩
theorem Tl {az cH:List I}(h:e7 az cH):eI (.di az) (.di cH):=by
 intro m v af
 simp only[aR]at af ⊢
 obtain⟨l,e,aH⟩:=af
 have:=Hm h m (.agg ⟨l⟩) (by simp only[aR]; exact⟨l,rfl,aH⟩)
 simp only[aR]at this
 obtain⟨b8,cC,ij⟩:=this
 simp at cC
 subst cC
 exact⟨l,e,ij⟩
theorem cx.congr {k e cC H}(h:kd e cC) (aP:cx P aL R k e H):cx P aL R k cC H:=cx.x6 (fun j=>by rw[h j]; exact eI.refl _) aP
theorem KF {env:Env}{j:Nat}{v:I}(h:env.get j=v):kd ((j,v)::env) env:=fun k=>by
 simp only[Env.get]
 by_cases e:j=k
 ·subst e; simp [h]
 ·have:(j==k)=false:=by simpa using e
  rw[this,cond_false]
theorem bf.DR {d:Option Nat}{j:Nat}{t:Bool}{op:bj}{l:List bP}{env:Env}{H:aA}{k:List Item}{Rp:I→aA→Prop}{b:Bool}(hb:env.get j= .bool b) (h:b=t→bf P (⟨d,none,op⟩::l) ((j,.bool t)::env) H (fun e aF=>cx P aL R k e aF) Rp) (ij:b=(!t)→bf P l (Env.put ((j,.bool (!t))::env) d .undef) H (fun e aF=>cx P aL R k e aF) Rp):bf P (⟨d,some (j,t),op⟩::l) env H (fun e aF=>cx P aL R k e aF) Rp:=by
 refine bf.wV hb (fun e=> ?_) (fun e=> ?_)
 ·subst e
  exact Du (K:=fun e aF=>cx P aL R k e aF) (fun _ _ _ he aC=>cx.congr he aC) _ (KF hb) (h rfl)
 ·subst e
  exact Du (K:=fun e aF=>cx P aL R k e aF) (fun _ _ _ he aC=>cx.congr he aC) _ (Fj (KF hb) _ _) (ij rfl)
theorem cx.Wt {c:aK}{a b:bu}{k:List Item}{env:Env}{H:aA}(ah:c.aJ env= .bool true) (h:cx P aL R (.c a::k) env H):cx P aL R (.c (.cond c a b)::k) env H:=cx.cond ah (fun _=>h) (fun e=>by cases e)
theorem cx.Ws {c:aK}{a b:bu}{k:List Item}{env:Env}{H:aA}(ah:c.aJ env= .bool false) (h:cx P aL R (.c b::k) env H):cx P aL R (.c (.cond c a b)::k) env H:=cx.cond ah (fun e=>by cases e) (fun _=>h)
section
variable {d:Nat}{qs:Option Nat}{j:Nat}{t dx:Bool}{op:bj}{l:List bP}{env:Env}{H:aA}{K:Env→aA→Prop}{Rp:I→aA→Prop}{v:I}
theorem bf.p (af:bU op env H=some v) (h:bf P l ((d,v)::env) H K Rp):bf P (⟨some d,none,op⟩::l) env H K Rp:=bf.mE rfl af h
end
theorem bf.qB {d:Nat}{j:Nat}{op:bj}{l:List bP}{env:Env}{H:aA}{k:List Item}{Rp:I→aA→Prop}{b:Bool}(hb:env.get j= .bool b) (h:b=true→bf P (⟨some d,none,op⟩::l) ((j,.bool true)::env) H (fun e aF=>cx P aL R k e aF) Rp) (ij:b=false→bf P l ((d,.undef)::(j,.bool false)::env) H (fun e aF=>cx P aL R k e aF) Rp):bf P (⟨some d,some (j,true),op⟩::l) env H (fun e aF=>cx P aL R k e aF) Rp:=bf.DR hb h ij
theorem bf.qA {d:Nat}{j:Nat}{op:bj}{l:List bP}{env:Env}{H:aA}{k:List Item}{Rp:I→aA→Prop}{b:Bool}(hb:env.get j= .bool b) (h:b=false→bf P (⟨some d,none,op⟩::l) ((j,.bool false)::env) H (fun e aF=>cx P aL R k e aF) Rp) (ij:b=true→bf P l ((d,.undef)::(j,.bool true)::env) H (fun e aF=>cx P aL R k e aF) Rp):bf P (⟨some d,some (j,false),op⟩::l) env H (fun e aF=>cx P aL R k e aF) Rp:=bf.DR hb h ij
theorem Tk {a b:I}(h:a=b):eI a b:=h▸eI.refl a
section
variable {d:Nat}{qs:Option Nat}{j:Nat}{op:bj}{l:List bP}{env:Env}{H:aA}{K:Env→aA→Prop}{Rp:I→aA→Prop}{v:I}{f:FuncId}{args:List aK}{az iu:List I}{r:I}
theorem bf.zv (hp:Pure P f az r) (hm:args.map (aK.aJ env)=iu) (aP:e7 iu az) (h:bf P l ((d,r)::env) H K Rp):bf P (⟨some d,none,.call f args⟩::l) env H K Rp:=
 bf.np az r hp (hm▸aP) h
end
theorem wrap64 {n:Int}(aw: -9223372036854775808≤n) (J:n≤9223372036854775807):IntKind.i64.wrap n=n:=by
 simp only[IntKind.wrap,IntKind.bits,IntKind.signed]
 simp
 omega
variable {P:Program}{aL:List bk}{R:Out→aA→Prop}
theorem ML {α:Type}: ∀ {l:List α}{o:Nat}{v:α},l[o]? =some v→l.set o v=l
 |[],_,_,h=>by simp at h
 |x::l,0,v,h=>by simp at h; simp [h]
 |x::l,o+1,v,h=>by simp at h; simp [ML h]
variable {P:Program}{aL:List bk}{R:Out→aA→Prop}
section
variable {H:aA}{b bX t dx:Nat}{T:TypeId}{c:List I}{o:b2}
theorem XZ (h:(H.ch b T c).aU bX=none):bX≠b∧b≠bX∧H.aU bX=none:=by
 simp only[aA.ch]at h
 by_cases e:bX=b
 ·rw[if_pos e]at h; cases h
 ·rw[if_neg e]at h; exact⟨e,Ne.symm e,h⟩
theorem XX {G:Prop}(h:(H.ch b T c).aU bX=none) (k:bX≠b→b≠bX→H.aU bX=none→G):G:=by obtain⟨x,y,z⟩:=XZ h; exact k x y z
theorem XY {G:Prop}(h:(H.cA t o).aU bX=none) (k:H.aU bX=none→G):G:=k h
theorem ai7 {x:TypeId×List I}(h:H.aU b=none) (k:H.aU bX=some x):b≠bX∧bX≠b:=by
 have:b≠bX:=fun e=>by subst e; rw[h]at k; cases k
 exact⟨this,Ne.symm this⟩
theorem ai8 {x:b2}(h:H.tok b=none) (k:H.tok bX=some x):b≠bX∧bX≠b:=by
 have:b≠bX:=fun e=>by subst e; rw[h]at k; cases k
 exact⟨this,Ne.symm this⟩
theorem F1:(H.ch b T c).aU b=some (T,c):=by simp [aA.ch]
theorem aE8 (h:bX≠b):(H.ch b T c).aU bX=H.aU bX:=by simp [aA.ch,h]
theorem aF5:(H.cA t o).tok t=some o:=by simp [aA.cA]
theorem aF4 (h:dx≠t):(H.cA t o).tok dx=H.tok dx:=by simp [aA.cA,h]
theorem DQ:(H.ch b T c).aU b=some (T,c):=F1
theorem X4 {x:Option (TypeId×List I)}(h:bX≠b) (k:H.aU bX=x):(H.ch b T c).aU bX=x:=(aE8 h).trans k
theorem X3 {x:Option (TypeId×List I)}(k:H.aU bX=x):(H.cA t o).aU bX=x:=k
theorem aI8:(H.cA t o).tok t=some o:=aF5
theorem aI7 {x:Option b2}(h:dx≠t) (k:H.tok dx=x):(H.cA t o).tok dx=x:=(aF4 h).trans k
theorem aI6 {x:Option b2}(k:H.tok dx=x):(H.ch b T c).tok dx=x:=k
theorem aE9 {cQ:TypeId}{cB:List I}:(H.ch b T c).ch b cQ cB=H.ch b cQ cB:=by
 simp only[aA.ch,aA.mk.injEq,and_true]
 funext x
 by_cases e:x=b<;>simp [e]
end
theorem cx.forget {k:List Item}{env:Env}{H:aA}(dk:aA) (ap:HSub dk H) (h:cx P aL R k env dk):cx P aL R k env H:=
 cx.conv (fun bb aF=>bb=env∧aF=dk) (fun m e bo=>by
  subst e
  have ar:b0 m ⟨m.w,m.H,m.L,m.T⟩:=b0.refl m
  exact⟨env,dk,m.L,m.T,⟨rfl,rfl⟩,b5.forget ap bo,b0.forget ap ar,fun j v af=>aR.forget (w:=m.w) (L:=m.L) (T:=m.T) ap _ _ af⟩) (fun bb aF ⟨ar,ax⟩=>by subst ar; subst ax; exact h)
section
variable {d:Nat}{qs:Option Nat}{l:List bP}{env:Env}{H:aA}{K:Env→aA→Prop}{Rp:I→aA→Prop}{x a v:aK}{cs new c3:List I}{b o n:Nat}{T:TypeId}{r dn:I}
theorem bf.TQ (ab:x.aJ env= .agg cs) (aq:cs.all I.one=true) (h: ∀b,H.aU b=none→bf P l ((d,.ptr b 0)::env) (H.ch b T cs) K Rp):bf P (⟨some d,none,.box T x⟩::l) env H K Rp:=
 bf.rs (.jp T (x.aJ env).cells) rfl (.box (by rw[ab]; exact aq)) fun b hb=>by
  have:=h b hb
  simp only[D.val,D.heap,ab,I.cells]
  exact this
theorem bf.Al (aq:cs.all I.one=true) (h: ∀b,H.aU b=none→bf P l ((d,.ptr b 0)::env) (H.ch b T cs) K Rp):bf P (⟨some d,none,.alloc T cs⟩::l) env H K Rp:=
 bf.rs (.jp T cs) rfl (.alloc aq) fun b hb=>h b hb
theorem take_one {α:Type}{l:List α}{o:Nat}{r:α}(h:l[o]? =some r):(l.drop o).take 1=[r]:=by
 obtain⟨aH,e⟩:=List.getElem?_eq_some_iff.1 h
 rw[List.drop_eq_getElem_cons aH,e]
 rfl
theorem bf.ag0 (ab:x.aJ env= .ptr b o) (hb:H.aU b=some (T,cs)) (aY:cs[o]? =some r) (h:bf P l ((d,r)::env) H K Rp):bf P (⟨some d,none,.load false 1 x⟩::l) env H K Rp:=by
 refine bf.p (v:=r) ?_ h
 have aH:=(List.getElem?_eq_some_iff.1 aY).1
 simp only[bU,ab,hb]
 rw[if_pos (by omega)]
 rw[take_one aY]
 rfl
theorem bf.ag1 (ab:x.aJ env= .ptr b o) (hb:H.aU b=some (T,cs)) (aH:o+n≤cs.length) (aY:(cs.drop o).take n=new) (h:bf P l ((d,.agg new)::env) H K Rp):bf P (⟨some d,none,.load true n x⟩::l) env H K Rp:=by
 refine bf.p (v:= .agg new) ?_ h
 simp only[bU,ab,hb]
 rw[if_pos aH,aY]
 rfl
theorem bf.ag3 (ab:x.aJ env= .dO cs o) (aY:cs[o]? =some r) (h:bf P l ((d,r)::env) H K Rp):bf P (⟨some d,none,.load false 1 x⟩::l) env H K Rp:=by
 refine bf.p (v:=r) ?_ h
 have aH:=(List.getElem?_eq_some_iff.1 aY).1
 simp only[bU,ab]
 rw[if_pos (by omega)]
 rw[take_one aY]
 rfl
theorem bf.ag4 (ab:x.aJ env= .dO cs o) (aH:o+n≤cs.length) (aY:(cs.drop o).take n=new) (h:bf P l ((d,.agg new)::env) H K Rp):bf P (⟨some d,none,.load true n x⟩::l) env H K Rp:=by
 refine bf.p (v:= .agg new) ?_ h
 simp only[bU,ab]
 rw[if_pos aH,aY]
 rfl
inductive rk (H:aA):I→List I→Nat→Prop
 |p {b o:Nat}{T:TypeId}{cs:List I}(h:H.aU b=some (T,cs)):rk H (.ptr b o) cs o
 |r {cs:List I}{o:Nat}:rk H (.dO cs o) cs o
theorem bf.ag5 (ab:x.aJ env=dn) (hb:rk H dn cs o) (aY:cs[o]? =some r) (h:bf P l ((d,r)::env) H K Rp):bf P (⟨some d,none,.load false 1 x⟩::l) env H K Rp:=by
 cases hb with
 |p hb=>exact bf.ag0 ab hb aY h
 |r=>exact bf.ag3 ab aY h
theorem bf.ag6 (ab:x.aJ env=dn) (hb:rk H dn cs o) (aH:o+n≤cs.length) (aY:(cs.drop o).take n=new) (h:bf P l ((d,.agg new)::env) H K Rp):bf P (⟨some d,none,.load true n x⟩::l) env H K Rp:=by
 cases hb with
 |p hb=>exact bf.ag1 ab hb aH aY h
 |r=>exact bf.ag4 ab aH aY h
theorem bf.aH3 (aP:a.aJ env= .ptr b o) (hb:H.aU b=some (T,cs)) (af:(v.aJ env).cells=new) (a6:new.length=n) (aH:o+n≤cs.length) (aq:new.all I.one=true) (ap:gx cs o new=c3){aF:aA}(eD:H.ch b T c3=aF) (h:bf P l env aF K Rp):bf P (⟨none,none,.store n a v⟩::l) env H K Rp:=by
 simp only[bf,wanted]
 subst eD
 exact ie.store aP hb (by rw[af]; exact a6) aH (by rw[af]; exact aq) (by rw[af,ap]; exact h)
theorem bf.ac2 {size len:Nat}{i:aK}{k:IntKind}{z:Int}(ab:x.aJ env= .ptr b o) (ai:i.aJ env= .int k z) (aw:0≤z) (J:z<(len:Int)) (hp:o+z.toNat*size=n) (h:bf P l ((d,.ptr b n)::env) H K Rp):bf P (⟨some d,none,.o1 len size x i⟩::l) env H K Rp:=
 bf.rs (.cT (.ptr b (o+z.toNat*size))) rfl (.nb ab ai aw J) fun _ _=>hp▸h
theorem bf.TO {size:Nat}{zero:List I}{parts:List (Nat×aK)}{rows:List (List I)}(ag:j5 env parts=rows) (ap:rows.all (fun r=>r.length==size)=true) (aq:rows.flatten.all I.one=true) (h:bf P l ((d,.ay size rows)::env) H K Rp):bf P (⟨some d,none,.dA T size n zero parts⟩::l) env H K Rp:=
 bf.rs (.cT _) rfl (.n6 ag ap aq) fun _ _=>h
section
variable {t bg size k:Nat}{rows:List (List I)}{row:List I}{qh:TypeId}
theorem bf.ah4 (ab:x.aJ env= .ez t bg) (aO:H.tok t=some (.bS qh size bg rows)) (h:bf P l ((d,.int .i64 rows.length)::env) H K Rp):bf P (⟨some d,none,.jo x⟩::l) env H K Rp:=
 bf.rs (.cT _) rfl (.jo ab aO) fun _ _=>h
theorem bf.XM {off:Nat}(ab:x.aJ env= .mp t bg k) (aO:H.tok t=some (.bS qh size bg rows)) (h:bf P l ((d,.mp t bg (k+off))::env) H K Rp):bf P (⟨some d,none,.jk off x⟩::l) env H K Rp:=
 bf.rs (.cT _) rfl (.jk ab aO) fun _ _=>h
end
theorem aC0 {cp gX:Nat}(ab:env.get cp= .ptr b 0) (hb:H.aU b=some (T,cs)) (aH:gX=cs.length):bc.results [.cell true gX cp] env H=some (.agg cs):=by
 subst aH
 simp [bc.results,bk.aJ,bU,aK.aJ,ab,hb,I.iB]
theorem aC1 {cp gX aX:Nat}(ab:env.get cp= .ptr b 0) (hb:H.aU b=some (T,cs)) (aH:gX=cs.length) (hm:env.get aX=r):bc.results [.cell true gX cp,.t aX] env H=some (.di [.agg cs,r]):=by
 subst aH
 subst hm
 simp [bc.results,bk.aJ,bU,aK.aJ,ab,hb,I.iB]
theorem aC5 {cp aX:Nat}{q:I}(ab:env.get cp=q) (hm:env.get aX=r):bc.results [.t cp,.t aX] env H=some (.di [q,r]):=by
 subst hm
 subst ab
 simp [bc.results,bk.aJ]
theorem aC6 {cp aX cB:Nat}{q l7:I}(ab:env.get cp=q) (hm:env.get aX=r) (ah:env.get cB=l7):bc.results [.t cp,.t aX,.t cB] env H=some (.di [q,r,l7]):=by
 subst hm
 subst ab
 subst ah
 simp [bc.results,bk.aJ]
theorem aC4 {cp:Nat}(ab:env.get cp=r):bc.results [.t cp] env H=some r:=by
 subst ab
 simp [bc.results,bk.aJ]
theorem aC2:bc.results [] env H=some (.di []):=by simp [bc.results]
theorem cx.aC7 {aL:List bk}{k:List Item}{H0:aA}{q dn:I}(af:bc.results aL env H=some q) (h:eI q dn) (ap:HSub H0 H):cx P aL (fun o aF=> ∃a,o= .ret a∧eI a dn∧HSub H0 aF) (.c .ret::k) env H:=
 cx.ret af ⟨_,rfl,h,ap⟩
theorem cx.W8 {aL:List bk}{H0:aA}{q dn:I}(af:bc.results aL env H=some q) (h:eI q dn) (ap:HSub H0 H):cx P aL (fun o aF=> ∃a,o= .ret a∧eI a dn∧HSub H0 aF) [] env H:=
 cx.done af ⟨_,rfl,h,ap⟩
def Ak (S:I→aA→Prop) (o:Out) (H:aA):Prop:=∃r,o= .ret r∧S r H
theorem cx.aC8 {aL:List bk}{k:List Item}{S:I→aA→Prop}{q:I}(af:bc.results aL env H=some q) (h:S q H):cx P aL (Ak S) (.c .ret::k) env H:=
 cx.ret af ⟨_,rfl,h⟩
theorem cx.W9 {aL:List bk}{S:I→aA→Prop}{q:I}(af:bc.results aL env H=some q) (h:S q H):cx P aL (Ak S) [] env H:=
 cx.done af ⟨_,rfl,h⟩
end
theorem CY: ∀(l:List bP),eP l []=l
 |[]=>rfl
 |⟨d,g,op⟩::l=>by cases op<;>simp only[eP,CY l]
inductive fK:Prop→Prop→Prop
 |aG9 {P:Program}{aL:List bk}{R:Out→aA→Prop}{k:List Item}{env:Env}{H:aA}{a b:bu}:fK (cx P aL R (.c a:: .c b::k) env H) (cx P aL R (.c (.seq a b)::k) env H)
 |oJ {P:Program}{aL:List bk}{R:Out→aA→Prop}{k:List Item}{env:Env}{H:aA}{id:Nat}{body:bu}:fK (cx P aL R (.c body:: .aU id::k) env H) (cx P aL R (.c (.block id body)::k) env H)
 |hV {P:Program}{aL:List bk}{R:Out→aA→Prop}{k:List Item}{env:Env}{H:aA}:fK (cx P aL R k env H) (cx P aL R (.c .skip::k) env H)
 |Hr {P:Program}{aL:List bk}{R:Out→aA→Prop}{k:List Item}{env:Env}{H:aA}{id:Nat}:fK (cx P aL R k env H) (cx P aL R (.aU id::k) env H)
 |ex {P:Program}{aL:List bk}{R:Out→aA→Prop}{k:List Item}{dY:List Item}{env:Env}{H:aA}{id:Nat}(aC:pa id k=some dY):fK (cx P aL R dY env H) (cx P aL R (.c (.exit id)::k) env H)
 |rg {P:Program}{aL:List bk}{R:Out→aA→Prop}{k:List Item}{env:Env}{H:aA}{l:List bP}:fK (bf P l env H (fun bb aF=>cx P aL R k bb aF) (fun v aF=>R (.eR v) aF)) (cx P aL R (.c (.region l false)::k) env H)
 |kQ {P:Program}{aL:List bk}{R:Out→aA→Prop}{k:List Item}{env:Env}{H:aA}{Rp:I→aA→Prop}:fK (cx P aL R k env H) (bf P [] env H (fun bb aF=>cx P aL R k bb aF) Rp)
 |aM {P:Program}{env:Env}{H:aA}{K:Env→aA→Prop}{Rp:I→aA→Prop}{l:List bP}{d:Nat}{x:aK}{cs:List I}{o:Nat}{r:I}{dn:I}(ab:x.aJ env=dn) (hb:rk H dn cs o) (aY:cs[o]? =some r):fK (bf P l ((d,r)::env) H K Rp) (bf P (⟨some d,none,.load false 1 x⟩::l) env H K Rp)
 |ae8 {P:Program}{env:Env}{H:aA}{K:Env→aA→Prop}{Rp:I→aA→Prop}{l:List bP}{d:Nat}{x:aK}{cs:List I}{new:List I}{o:Nat}{n:Nat}{dn:I}(ab:x.aJ env=dn) (hb:rk H dn cs o) (aH:o+n≤cs.length) (aY:(cs.drop o).take n=new):fK (bf P l ((d,.agg new)::env) H K Rp) (bf P (⟨some d,none,.load true n x⟩::l) env H K Rp)
 |Tr {P:Program}{env:Env}{H:aA}{K:Env→aA→Prop}{Rp:I→aA→Prop}{l:List bP}{d:Nat}{x:aK}{cs:List I}{T:TypeId}(ab:x.aJ env= .agg cs) (aq:cs.all I.one=true):fK (∀b,H.aU b=none→bf P l ((d,.ptr b 0)::env) (H.ch b T cs) K Rp) (bf P (⟨some d,none,.box T x⟩::l) env H K Rp)
 |Al {P:Program}{env:Env}{H:aA}{K:Env→aA→Prop}{Rp:I→aA→Prop}{l:List bP}{d:Nat}{cs:List I}{T:TypeId}(aq:cs.all I.one=true):fK (∀b,H.aU b=none→bf P l ((d,.ptr b 0)::env) (H.ch b T cs) K Rp) (bf P (⟨some d,none,.alloc T cs⟩::l) env H K Rp)
 |RQ {P:Program}{env:Env}{H:aA}{aF:aA}{K:Env→aA→Prop}{Rp:I→aA→Prop}{l:List bP}{a:aK}{v:aK}{cs:List I}{new:List I}{c3:List I}{b:Nat}{o:Nat}{n:Nat}{T:TypeId}(aP:a.aJ env= .ptr b o) (hb:H.aU b=some (T,cs)) (af:(v.aJ env).cells=new) (a6:new.length=n) (aH:o+n≤cs.length) (aq:new.all I.one=true) (ap:gx cs o new=c3) (eD:H.ch b T c3=aF):fK (bf P l env aF K Rp) (bf P (⟨none,none,.store n a v⟩::l) env H K Rp)
 |aa3 {P:Program}{env:Env}{H:aA}{K:Env→aA→Prop}{Rp:I→aA→Prop}{l:List bP}{d:Nat}{x:aK}{i:aK}{b:Nat}{o:Nat}{n:Nat}{size len:Nat}{lg:IntKind}{z:Int}(ab:x.aJ env= .ptr b o) (ai:i.aJ env= .int lg z) (aw:0≤z) (J:z<(len:Int)) (hp:o+z.toNat*size=n):fK (bf P l ((d,.ptr b n)::env) H K Rp) (bf P (⟨some d,none,.o1 len size x i⟩::l) env H K Rp)
 |ae9 {P:Program}{env:Env}{H:aA}{K:Env→aA→Prop}{Rp:I→aA→Prop}{l:List bP}{d:Nat}{x:aK}{t bg size:Nat}{rows:List (List I)}{qh:TypeId}(ab:x.aJ env= .ez t bg) (aO:H.tok t=some (.bS qh size bg rows)):fK (bf P l ((d,.int .i64 rows.length)::env) H K Rp) (bf P (⟨some d,none,.jo x⟩::l) env H K Rp)
 |XI {P:Program}{env:Env}{H:aA}{K:Env→aA→Prop}{Rp:I→aA→Prop}{l:List bP}{d:Nat}{x:aK}{t bg size lg off:Nat}{rows:List (List I)}{qh:TypeId}(ab:x.aJ env= .mp t bg lg) (aO:H.tok t=some (.bS qh size bg rows)):fK (bf P l ((d,.mp t bg (lg+off))::env) H K Rp) (bf P (⟨some d,none,.jk off x⟩::l) env H K Rp)
 |cH {P:Program}{env:Env}{H:aA}{K:Env→aA→Prop}{Rp:I→aA→Prop}{l:List bP}{d:Nat}{n:Nat}{T:TypeId}{size:Nat}{zero:List I}{parts:List (Nat×aK)}{rows:List (List I)}(ag:j5 env parts=rows) (ap:rows.all (fun r=>r.length==size)=true) (aq:rows.flatten.all I.one=true):fK (bf P l ((d,.ay size rows)::env) H K Rp) (bf P (⟨some d,none,.dA T size n zero parts⟩::l) env H K Rp)
 |mE {P:Program}{env:Env}{H:aA}{K:Env→aA→Prop}{Rp:I→aA→Prop}{l:List bP}{d:Nat}{r:I}{op:bj}(af:bU op env H=some r):fK (bf P l ((d,r)::env) H K Rp) (bf P (⟨some d,none,op⟩::l) env H K Rp)
theorem fK.go {N G:Prop}(h:fK N G) (a6:N):G:=by
 cases h with
 |aG9=>exact cx.seq a6
 |oJ=>exact cx.block a6
 |hV=>exact cx.skip a6
 |Hr=>exact cx.gV a6
 |ex aC=>exact cx.exit aC a6
 |rg=>exact cx.fs [] (by rw[CY]; exact a6)
 |kQ=>exact bf.nil a6
 |aM ab hb aY=>exact bf.ag5 ab hb aY a6
 |ae8 ab hb aH aY=>exact bf.ag6 ab hb aH aY a6
 |Tr ab aq=>exact bf.TQ ab aq a6
 |Al aq=>exact bf.Al aq a6
 |RQ aP hb af rU aH aq ap eD=>exact bf.aH3 aP hb af rU aH aq ap eD a6
 |aa3 ab ai aw J hp=>exact bf.ac2 ab ai aw J hp a6
 |ae9 ab aO=>exact bf.ah4 ab aO a6
 |XI ab aO=>exact bf.XM ab aO a6
 |cH ag ap aq=>exact bf.TO ag ap aq a6
 |mE af=>exact bf.p af a6
inductive n2:Prop→Prop→Prop
 |a {P:Program}{aL:List bk}{k:List Item}{env:Env}{H:aA}{dn:I}{q:I}{H0:aA}(af:bc.results aL env H=some q) (ap:HSub H0 H):n2 (eI q dn) (cx P aL (fun o aF=> ∃a,o= .ret a∧eI a dn∧HSub H0 aF) (.c .ret::k) env H)
 |b {P:Program}{aL:List bk}{env:Env}{H:aA}{dn:I}{q:I}{H0:aA}(af:bc.results aL env H=some q) (ap:HSub H0 H):n2 (eI q dn) (cx P aL (fun o aF=> ∃a,o= .ret a∧eI a dn∧HSub H0 aF) [] env H)
 |s {P:Program}{aL:List bk}{k:List Item}{env:Env}{H:aA}{q:I}{S:I→aA→Prop}(af:bc.results aL env H=some q):n2 (S q H) (cx P aL (Ak S) (.c .ret::k) env H)
 |t {P:Program}{aL:List bk}{env:Env}{H:aA}{q:I}{S:I→aA→Prop}(af:bc.results aL env H=some q):n2 (S q H) (cx P aL (Ak S) [] env H)
theorem n2.go {N G:Prop}(h:n2 N G) (a6:N):G:=by
 cases h with
 |a af ap=>exact cx.aC7 af a6 ap
 |b af ap=>exact cx.W8 af a6 ap
 |s af=>exact cx.aC8 af a6
 |t af=>exact cx.W9 af a6
inductive ke:Prop→Prop
 |Ts {H:aA}{b:Nat}{T:TypeId}{c:List I}:ke ((H.ch b T c).aU b=some (T,c))
 |ai4 {H:aA}{b:Nat}{bX:Nat}{T:TypeId}{c:List I}{y:Option (TypeId×List I)}(h:bX≠b) (k:H.aU bX=y):ke ((H.ch b T c).aU bX=y)
 |aI4 {H:aA}{bX:Nat}{t:Nat}{o:b2}{y:Option (TypeId×List I)}(k:H.aU bX=y):ke ((H.cA t o).aU bX=y)
 |Hp {H:aA}{t:Nat}{o:b2}:ke ((H.cA t o).tok t=some o)
 |ai5 {H:aA}{t dx:Nat}{o:b2}{y:Option b2}(h:dx≠t) (k:H.tok dx=y):ke ((H.cA t o).tok dx=y)
 |aI5 {H:aA}{b:Nat}{T:TypeId}{t:Nat}{c:List I}{y:Option b2}(k:H.tok t=y):ke ((H.ch b T c).tok t=y)
 |rd {H:aA}{cs:List I}{o:Nat}:ke (rk H (.dO cs o) cs o)
 |dO {H:aA}{cs:List I}{b:Nat}{o:Nat}{T:TypeId}(h:H.aU b=some (T,cs)):ke (rk H (.ptr b o) cs o)
 |ag {H:aA}:ke (HSub H H)
 |dX {H:aA}{aF:aA}{b:Nat}{T:TypeId}{c:List I}(h:HSub H aF) (hb:H.aU b=none):ke (HSub H (aF.ch b T c))
 |c4 {H:aA}{aF:aA}{t:Nat}{o:b2}(h:HSub H aF) (hb:H.tok t=none):ke (HSub H (aF.cA t o))
 |kS {env:Env}{H:aA}:ke (bc.results [] env H=some (.di []))
 |cI {env:Env}{H:aA}{r:I}{cp:Nat}(ab:env.get cp=r):ke (bc.results [.t cp] env H=some r)
 |c8 {env:Env}{H:aA}{cs:List I}{b:Nat}{T:TypeId}{cp gX:Nat}(ab:env.get cp= .ptr b 0) (hb:H.aU b=some (T,cs)) (aH:gX=cs.length):ke (bc.results [.cell true gX cp] env H=some (.agg cs))
 |ep {env:Env}{H:aA}{cs:List I}{b:Nat}{T:TypeId}{r:I}{cp gX aX:Nat}(ab:env.get cp= .ptr b 0) (hb:H.aU b=some (T,cs)) (aH:gX=cs.length) (hm:env.get aX=r):ke (bc.results [.cell true gX cp,.t aX] env H=some (.di [.agg cs,r]))
 |gw {env:Env}{H:aA}{r:I}{q:I}{cp aX:Nat}(ab:env.get cp=q) (hm:env.get aX=r):ke (bc.results [.t cp,.t aX] env H=some (.di [q,r]))
 |pb {env:Env}{H:aA}{r:I}{dn:I}{q:I}{cp aX cB:Nat}(ab:env.get cp=q) (hm:env.get aX=r) (ah:env.get cB=dn):ke (bc.results [.t cp,.t aX,.t cB] env H=some (.di [q,r,dn]))
theorem ke.go {G:Prop}(h:ke G):G:=by
 cases h with
 |Ts=>exact DQ
 |ai4 h k=>exact X4 h k
 |aI4 k=>exact X3 k
 |Hp=>exact aI8
 |ai5 h k=>exact aI7 h k
 |aI5 k=>exact aI6 k
 |rd=>exact rk.r
 |dO h=>exact rk.p h
 |ag=>exact HSub.refl _
 |dX h hb=>exact HSub.ch h hb
 |c4 h hb=>exact HSub.cA h hb
 |kS=>exact aC2
 |cI ab=>exact aC4 ab
 |c8 ab hb aH=>exact aC0 ab hb aH
 |ep ab hb aH hm=>exact aC1 ab hb aH hm
 |gw ab hm=>exact aC5 ab hm
 |pb ab hm ah=>exact aC6 ab hm ah
theorem rt {P:Program}{aL:List bk}{R:Out→aA→Prop}{k:List Item}{env:Env}{H:aA}{l:List bP}(h:bf P l env H (fun bb aF=>cx P aL R k bb aF) (fun v aF=>R (.eR v) aF)):cx P aL R (.c (.region l true)::k) env H:=cx.fs [] (by rw[CY]; exact h)
theorem lL {H:aA}{b:Nat}{T:TypeId}{cQ:TypeId}{c cB:List I}:(H.ch b T c).ch b cQ cB=H.ch b cQ cB:=aE9
theorem ii {H:aA}{b:Nat}{bX:Nat}{T:TypeId}{G:Prop}{c:List I}(h:(H.ch b T c).aU bX=none) (k:bX≠b→b≠bX→H.aU bX=none→G):G:=XX h k
theorem qw {H:aA}{bX:Nat}{G:Prop}{t:Nat}{o:b2}(h:(H.cA t o).aU bX=none) (k:H.aU bX=none→G):G:=XY h k
theorem b7 {H:aA}{b:Nat}{bX:Nat}{y:TypeId×List I}(h:H.aU b=none) (k:H.aU bX=some y):bX≠b:=(ai7 h k).2
theorem bF {H:aA}{t dx:Nat}{y:b2}(h:H.tok t=none) (k:H.tok dx=some y):dx≠t:=(ai8 h k).2
theorem qy {P:Program}{env:Env}{H:aA}{K:Env→aA→Prop}{Rp:I→aA→Prop}{l:List bP}{qs:Option Nat}{g:Nat×Bool}{op:bj}(hw:wanted ⟨qs,some g,op⟩ env=some true) (h:bf P (⟨qs,none,op⟩::l) env H K Rp):bf P (⟨qs,some g,op⟩::l) env H K Rp:=by
 simp only[bf]at h ⊢
 rw[hw]
 exact h
theorem qz {P:Program}{env:Env}{H:aA}{K:Env→aA→Prop}{Rp:I→aA→Prop}{l:List bP}{d:Nat}{g:Nat×Bool}{op:bj}(hw:wanted ⟨some d,some g,op⟩ env=some false) (h:bf P l ((d,.undef)::env) H K Rp):bf P (⟨some d,some g,op⟩::l) env H K Rp:=bf.skip hw h
theorem oN {P:Program}{aL:List bk}{R:Out→aA→Prop}{k:List Item}{env:Env}{H:aA}{c:aK}{a b:bu}(ah:c.aJ env= .bool true) (h:cx P aL R (.c a::k) env H):cx P aL R (.c (.cond c a b)::k) env H:=cx.Wt ah h
theorem oM {P:Program}{aL:List bk}{R:Out→aA→Prop}{k:List Item}{env:Env}{H:aA}{c:aK}{a b:bu}(ah:c.aJ env= .bool false) (h:cx P aL R (.c b::k) env H):cx P aL R (.c (.cond c a b)::k) env H:=cx.Ws ah h
end Go.bc
namespace Go.bc
theorem fK.g {N G:Prop}(a6:N) (h:fK N G:=by constructor<;>first|exact lL|(change _= _; first|(simp only[go_sem,Nat.reduceBEq,Nat.reduceAdd,Nat.reduceLeDiff,reduceIte]<;>rfl)|rfl)|exact Nat.le_of_ble_eq_true rfl|decide|((repeat' first|(apply ke.go; constructor)|assumption|exact b7 ‹_› ‹_› |exact bF ‹_› ‹_›); done)):G:=fK.go h a6
theorem n2.g {N G:Prop}(a6:N) (h:n2 N G:=by constructor<;>first|(apply ke.go; constructor<;>first|exact lL|(change _= _; first|(simp only[go_sem,Nat.reduceBEq,Nat.reduceAdd,Nat.reduceLeDiff,reduceIte]<;>rfl)|rfl)|exact Nat.le_of_ble_eq_true rfl|decide|((repeat' first|(apply ke.go; constructor)|assumption|exact b7 ‹_› ‹_› |exact bF ‹_› ‹_›); done))|assumption):G:=n2.go h a6
end Go.bc
namespace Go.bc
open Go
structure bt where
 b:List Nat
 t:List Nat
structure bt.et (s bM:bt):Prop where
 b: ∀(i x:Nat),s.b[i]? =some x→bM.b[i]? =some x
 t: ∀(i x:Nat),s.t[i]? =some x→bM.t[i]? =some x
theorem bt.et.refl (s:bt):bt.et s s:=⟨fun _ _ h=>h,fun _ _ h=>h⟩
theorem bt.et.trans {a b c:bt}(h:bt.et a b) (k:bt.et b c):bt.et a c:=⟨fun i x e=>k.b i x (h.b i x e),fun i x e=>k.t i x (h.t i x e)⟩
mutual
def aN (s:bt):I→I→Prop
 | .ew,_=>True
 | .ptr b o,a=> ∃x,s.b[b]? =some x∧a= .ptr x o
 | .agg cs,a=> ∃l,a= .agg l∧bs s cs l
 | .di cs,a=> ∃l,a= .di l∧bs s cs l
 | .ay n rows,a=> ∃l,a= .ay n l∧cn s rows l
 | .own t n rows,a=> ∃x l,s.t[t]? =some x∧a= .own x n l∧cn s rows l
 | .ez t bg,a=> ∃x,s.t[t]? =some x∧a= .ez x bg
 | .mp t bg k,a=> ∃x,s.t[t]? =some x∧a= .mp x bg k
 | .dO row off,a=> ∃l,a= .dO l off∧bs s row l
 | .fn f cap,a=> ∃l,a= .fn f l∧bs s cap l
 | .gW t v,a=> ∃x,a= .gW t x∧aN s v x
 | .bool b,a=>a= .bool b
 | .int k n,a=>a= .int k n
 | .str x,a=>a= .str x
 | .dQ v,a=>a= .dQ v
def bs (s:bt):List I→List I→Prop
 |[],l=>l=[]
 |a::az,l=> ∃v ay,l=v::ay∧aN s a v∧bs s az ay
def cn (s:bt):List (List I)→List (List I)→Prop
 |[],l=>l=[]
 |r::aL,l=> ∃v ay,l=v::ay∧bs s r v∧cn s aL ay
end
mutual
theorem aN.mono {s bM:bt}(e:bt.et s bM): ∀(a v:I),aN s a v→aN bM a v
 | .ew,_,_=>by simp only[aN]
 | .ptr b o,_,h=>by simp only[aN]at*; obtain⟨x,J,aa⟩:=h; exact⟨x,e.b _ _ J,aa⟩
 | .agg cs,_,h=>by simp only[aN]at*; obtain⟨l,J,aa⟩:=h; exact⟨l,J,bs.mono e cs l aa⟩
 | .di cs,_,h=>by simp only[aN]at*; obtain⟨l,J,aa⟩:=h; exact⟨l,J,bs.mono e cs l aa⟩
 | .ay n rows,_,h=>by simp only[aN]at*; obtain⟨l,J,aa⟩:=h; exact⟨l,J,cn.mono e rows l aa⟩
 | .own t n rows,_,h=>by simp only[aN]at*; obtain⟨x,l,J,aa,au⟩:=h; exact⟨x,l,e.t _ _ J,aa,cn.mono e rows l au⟩
 | .ez t bg,_,h=>by simp only[aN]at*; obtain⟨x,J,aa⟩:=h; exact⟨x,e.t _ _ J,aa⟩
 | .mp t bg k,_,h=>by simp only[aN]at*; obtain⟨x,J,aa⟩:=h; exact⟨x,e.t _ _ J,aa⟩
 | .dO row off,_,h=>by simp only[aN]at*; obtain⟨l,J,aa⟩:=h; exact⟨l,J,bs.mono e row l aa⟩
 | .fn f cap,_,h=>by simp only[aN]at*; obtain⟨l,J,aa⟩:=h; exact⟨l,J,bs.mono e cap l aa⟩
 | .gW t v,_,h=>by simp only[aN]at*; obtain⟨x,J,aa⟩:=h; exact⟨x,J,aN.mono e v x aa⟩
 | .bool _,_,h=>by simp only[aN]at*; exact h
 | .int _ _,_,h=>by simp only[aN]at*; exact h
 | .str _,_,h=>by simp only[aN]at*; exact h
 | .dQ _,_,h=>by simp only[aN]at*; exact h
theorem bs.mono {s bM:bt}(e:bt.et s bM): ∀(az l:List I),bs s az l→bs bM az l
 |[],_,h=>by simp only[bs]at*; exact h
 |a::az,_,h=>by simp only[bs]at*; obtain⟨v,ay,J,aa,au⟩:=h; exact⟨v,ay,J,aN.mono e a v aa,bs.mono e az ay au⟩
theorem cn.mono {s bM:bt}(e:bt.et s bM): ∀(az l:List (List I)),cn s az l→cn bM az l
 |[],_,h=>by simp only[cn]at*; exact h
 |r::aL,_,h=>by simp only[cn]at*; obtain⟨v,ay,J,aa,au⟩:=h; exact⟨v,ay,J,bs.mono e r v aa,cn.mono e aL ay au⟩
end
section
variable {s:bt}
theorem bs.length: ∀ {az l:List I},bs s az l→l.length=az.length
 |[],_,h=>by simp only[bs]at h; subst h; rfl
 |a::az,_,h=>by simp only[bs]at h; obtain⟨v,ay,rfl,_,aa⟩:=h; simp [bs.length aa]
theorem bs.get: ∀ {az l:List I}(_:bs s az l) (i:Nat) (a:I),az[i]? =some a→∃v,l[i]? =some v∧aN s a v
 |[],_,_,_,_,h=>by simp at h
 |a::az,_,h,0,x,ab=>by simp only[bs]at h; obtain⟨v,ay,rfl,J,aa⟩:=h; simp at ab; subst ab; exact⟨v,rfl,J⟩
 |a::az,_,h,i+1,x,ab=>by simp only[bs]at h; obtain⟨v,ay,rfl,J,aa⟩:=h; simp at ab; obtain⟨bT,ar,ax⟩:=bs.get aa i x ab; exact⟨bT,by simpa using ar,ax⟩
theorem bs.append: ∀ {az l cH b8:List I}(_:bs s az l) (_:bs s cH b8),bs s (az++cH) (l++b8)
 |[],_,_,_,h,k=>by simp only[bs]at h; subst h; simpa using k
 |a::az,_,_,_,h,k=>by simp only[bs]at h; obtain⟨v,ay,rfl,J,aa⟩:=h; simp only[List.cons_append,bs]; exact⟨v,_,rfl,J,bs.append aa k⟩
theorem bs.drop: ∀(n:Nat){az l:List I}(_:bs s az l),bs s (az.drop n) (l.drop n)
 |0,_,_,h=>by simpa using h
 |n+1,[],_,h=>by simp only[bs]at h; subst h; simp [bs]
 |n+1,a::az,_,h=>by simp only[bs]at h; obtain⟨v,ay,rfl,J,aa⟩:=h; simpa using bs.drop n aa
theorem bs.take: ∀(n:Nat){az l:List I}(_:bs s az l),bs s (az.take n) (l.take n)
 |0,_,_,_=>by simp [bs]
 |n+1,[],_,h=>by simp only[bs]at h; subst h; simp [bs]
 |n+1,a::az,_,h=>by simp only[bs]at h; obtain⟨v,ay,rfl,J,aa⟩:=h; simp only[List.take_succ_cons,bs]; exact⟨v,_,rfl,J,bs.take n aa⟩
theorem bs.gx {az l new BK:List I}(h:bs s az l) (k:bs s new BK) (o:Nat):bs s (gx az o new) (gx l o BK):=by
 unfold bc.gx
 rw[bs.length k]
 exact ((h.take o).append k).append (h.drop _)
theorem cn.length: ∀ {az l:List (List I)},cn s az l→l.length=az.length
 |[],_,h=>by simp only[cn]at h; subst h; rfl
 |a::az,_,h=>by simp only[cn]at h; obtain⟨v,ay,rfl,_,aa⟩:=h; simp [cn.length aa]
theorem cn.get: ∀ {az l:List (List I)}(_:cn s az l) (i:Nat) (a:List I),az[i]? =some a→∃v,l[i]? =some v∧bs s a v
 |[],_,_,_,_,h=>by simp at h
 |a::az,_,h,0,x,ab=>by simp only[cn]at h; obtain⟨v,ay,rfl,J,aa⟩:=h; simp at ab; subst ab; exact⟨v,rfl,J⟩
 |a::az,_,h,i+1,x,ab=>by simp only[cn]at h; obtain⟨v,ay,rfl,J,aa⟩:=h; simp at ab; obtain⟨bT,ar,ax⟩:=cn.get aa i x ab; exact⟨bT,by simpa using ar,ax⟩
theorem cn.append: ∀ {az l cH b8:List (List I)}(_:cn s az l) (_:cn s cH b8),cn s (az++cH) (l++b8)
 |[],_,_,_,h,k=>by simp only[cn]at h; subst h; simpa using k
 |a::az,_,_,_,h,k=>by simp only[cn]at h; obtain⟨v,ay,rfl,J,aa⟩:=h; simp only[List.cons_append,cn]; exact⟨v,_,rfl,J,cn.append aa k⟩
theorem cn.drop: ∀(n:Nat){az l:List (List I)}(_:cn s az l),cn s (az.drop n) (l.drop n)
 |0,_,_,h=>by simpa using h
 |n+1,[],_,h=>by simp only[cn]at h; subst h; simp [cn]
 |n+1,a::az,_,h=>by simp only[cn]at h; obtain⟨v,ay,rfl,J,aa⟩:=h; simpa using cn.drop n aa
theorem cn.take: ∀(n:Nat){az l:List (List I)}(_:cn s az l),cn s (az.take n) (l.take n)
 |0,_,_,_=>by simp [cn]
 |n+1,[],_,h=>by simp only[cn]at h; subst h; simp [cn]
 |n+1,a::az,_,h=>by simp only[cn]at h; obtain⟨v,ay,rfl,J,aa⟩:=h; simp only[List.take_succ_cons,cn]; exact⟨v,_,rfl,J,cn.take n aa⟩
theorem cn.flatten: ∀ {az l:List (List I)}(_:cn s az l),bs s az.flatten l.flatten
 |[],_,h=>by simp only[cn]at h; subst h; simp [bs]
 |a::az,_,h=>by simp only[cn]at h; obtain⟨v,ay,rfl,J,aa⟩:=h; simpa using J.append (cn.flatten aa)
theorem cn.F6 {n:Nat}: ∀ {az l:List (List I)}(_:cn s az l),az.all (fun r=>r.length==n)=true→l.all (fun r=>r.length==n)=true
 |[],_,h,_=>by simp only[cn]at h; subst h; rfl
 |a::az,_,h,k=>by
  simp only[cn]at h
  obtain⟨v,ay,rfl,J,aa⟩:=h
  simp only[List.all_cons,Bool.and_eq_true]at k ⊢
  rw[bs.length J]
  exact⟨k.1,cn.F6 aa k.2⟩
theorem aN.one {a v:I}(h:aN s a v) (aP:a.one=true):v.one=true:=by
 cases a<;>simp only[I.one,Bool.false_eq_true]at aP<;>simp only[aN]at h
 all_goals first
  |(subst h; first|rfl|exact aP)
  |(obtain⟨x,J,rfl⟩:=h; rfl)
  |(obtain⟨x,rfl,J⟩:=h; rfl)
  |(obtain⟨x,l,J,rfl,aa⟩:=h; rfl)
theorem bs.xv: ∀ {az l:List I}(_:bs s az l),az.all I.one=true→l.all I.one=true
 |[],_,h,_=>by simp only[bs]at h; subst h; rfl
 |a::az,_,h,k=>by
  simp only[bs]at h
  obtain⟨v,ay,rfl,J,aa⟩:=h
  simp only[List.all_cons,Bool.and_eq_true]at k ⊢
  exact⟨J.one k.1,bs.xv aa k.2⟩
theorem aN.eo {a v:I}(h:aN s a v) (aP:a.eo=true):v.eo=true∧bs s a.cells v.cells:=by
 cases a with
 |agg cs=>
  simp only[aN]at h
  obtain⟨l,rfl,J⟩:=h
  exact⟨rfl,J⟩
 | _=>
  all_goals
   have J:=h.one (by simpa only[I.eo] using aP)
   have af:v.cells=[v]∧v.eo=true:=by
    cases v<;>simp only[I.one,Bool.false_eq_true]at J<;>first|exact⟨rfl,rfl⟩|exact⟨rfl,J⟩
   refine⟨af.2,?_⟩
   rw[af.1]
   simp only[I.cells,bs]
   exact⟨_,_,rfl,h,rfl⟩
theorem bs.iB {agg:Bool}{az l:List I}{v:I}(h:bs s az l) (af:I.iB agg az=some v): ∃bT,I.iB agg l=some bT∧aN s v bT:=by
 cases agg with
 |true=>
  simp only[I.iB,cond_true,Option.some.injEq]at af ⊢
  subst af
  exact⟨_,rfl,by simp only[aN]; exact⟨l,rfl,h⟩⟩
 |false=>
  simp only[I.iB,cond_false]at af ⊢
  match az,h,af with
  |[a],h,af=>
   simp only[bs]at h
   obtain⟨x,xs,rfl,J,rfl⟩:=h
   simp only[Option.some.injEq]at af ⊢
   subst af
   exact⟨_,rfl,J⟩
end
mutual
def I.flat:I→Bool
 | .bool _=>true
 | .int _ _=>true
 | .str _=>true
 | .dQ _=>true
 | .agg cs=>b3 cs
 | .di cs=>b3 cs
 | .ay _ rows=>fP rows
 | .dO row _=>b3 row
 | .fn _ cap=>b3 cap
 | .gW _ v=>v.flat
 | _=>false
def b3:List I→Bool
 |[]=>true
 |a::az=>a.flat&&b3 az
def fP:List (List I)→Bool
 |[]=>true
 |a::az=>b3 a&&fP az
end
mutual
theorem I.lC {s:bt}: ∀(a:I),a.flat=true→∀v,aN s a v↔v=a
 | .bool _,_,_=>by simp only[aN]
 | .int _ _,_,_=>by simp only[aN]
 | .str _,_,_=>by simp only[aN]
 | .dQ _,_,_=>by simp only[aN]
 | .agg cs,h,v=>by simp only[I.flat]at h; simp only[aN,nI cs h]; exact⟨fun⟨l,ar,ax⟩=>by rw[ar,ax],fun e=>⟨cs,e,rfl⟩⟩
 | .di cs,h,v=>by simp only[I.flat]at h; simp only[aN,nI cs h]; exact⟨fun⟨l,ar,ax⟩=>by rw[ar,ax],fun e=>⟨cs,e,rfl⟩⟩
 | .ay n rows,h,v=>by simp only[I.flat]at h; simp only[aN,rG rows h]; exact⟨fun⟨l,ar,ax⟩=>by rw[ar,ax],fun e=>⟨rows,e,rfl⟩⟩
 | .dO row o,h,v=>by simp only[I.flat]at h; simp only[aN,nI row h]; exact⟨fun⟨l,ar,ax⟩=>by rw[ar,ax],fun e=>⟨row,e,rfl⟩⟩
 | .fn f cap,h,v=>by simp only[I.flat]at h; simp only[aN,nI cap h]; exact⟨fun⟨l,ar,ax⟩=>by rw[ar,ax],fun e=>⟨cap,e,rfl⟩⟩
 | .gW t a,h,v=>by simp only[I.flat]at h; simp only[aN,I.lC a h]; exact⟨fun⟨l,ar,ax⟩=>by rw[ar,ax],fun e=>⟨a,e,rfl⟩⟩
theorem nI {s:bt}: ∀(az:List I),b3 az=true→∀l,bs s az l↔l=az
 |[],_,l=>by simp only[bs]
 |a::az,h,l=>by
  simp only[b3,Bool.and_eq_true]at h
  simp only[bs,I.lC a h.1,nI az h.2]
  exact⟨fun⟨v,ay,ar,ax,cw⟩=>by rw[ar,ax,cw],fun e=>⟨a,az,e,rfl,rfl⟩⟩
theorem rG {s:bt}: ∀(az:List (List I)),fP az=true→∀l,cn s az l↔l=az
 |[],_,l=>by simp only[cn]
 |a::az,h,l=>by
  simp only[fP,Bool.and_eq_true]at h
  simp only[cn,nI a h.1,rG az h.2]
  exact⟨fun⟨v,ay,ar,ax,cw⟩=>by rw[ar,ax,cw],fun e=>⟨a,az,e,rfl,rfl⟩⟩
end
def gK (s:bt) (env bb:Env):Prop:=∀j,aN s (env.get j) (bb.get j)
def bp (env:Env):aK→I
 | .t n=>env.get n
 | .c a=>bif a.flat then a else .ew
def iV (s:bt) (i da:b2):Prop:=da.ty=i.ty∧da.size=i.size∧da.n=i.n∧da.bg=i.bg∧match i.n8 with
 |none=>da.n8=none
 |some rows=> ∃l,da.n8=some l∧cn s rows l
structure HR (H0:aA) (s:bt) (C H:aA):Prop where
 base:HSub H0 H
 aU: ∀b T cs,C.aU b=some (T,cs)→∃x c3,s.b[b]? =some x∧H.aU x=some (T,c3)∧bs s cs c3
 tok: ∀t i,C.tok t=some i→∃x da,s.t[t]? =some x∧H.tok x=some da∧iV s i da
 lj: ∀(b x:Nat),s.b[b]? =some x→H0.aU x=none∧∃y,H.aU x=some y
 lJ: ∀(t x:Nat),s.t[t]? =some x→H0.tok x=none∧∃y,H.tok x=some y
 ld: ∀(b bX x:Nat),s.b[b]? =some x→s.b[bX]? =some x→b=bX
 nc: ∀(b bX x:Nat),s.t[b]? =some x→s.t[bX]? =some x→b=bX
section
variable {P:Program}{s:bt}{env bb:Env}{H0 C H:aA}
theorem kE (he:gK s env bb) (x:aK):aN s (bp env x) (x.aJ bb):=by
 cases x with
 |t n=>exact he n
 |c a=>
  show aN s (bif a.flat then a else .ew) a
  cases h:a.flat with
  |false=>simp only[cond_false,aN]
  |true=>rw[cond_true,I.lC a h]
theorem mU (he:gK s env bb): ∀(xs:List aK),bs s (xs.map (bp env)) (xs.map (aK.aJ bb))
 |[]=>by simp [bs]
 |x::xs=>by simp only[List.map_cons,bs]; exact⟨_,_,rfl,kE he x,mU he xs⟩
theorem gK.put (he:gK s env bb){v bT:I}(af:aN s v bT) (d:Option Nat):gK s (env.put d v) (bb.put d bT):=by
 cases d with
 |none=>exact he
 |some k=>
  intro j
  simp only[Env.put,Env.get]
  cases k==j with
  |true=>exact af
  |false=>exact he j
theorem gK.mono {bM:bt}(e:bt.et s bM) (he:gK s env bb):gK bM env bb:=fun j=>aN.mono e _ _ (he j)
def nD (env:Env) (Dt:Nat):Option aK→Option Nat
 |none=>some Dt
 |some x=>match bp env x with
  | .int _ (.ofNat n)=>some n
  | _=>none
theorem wH (he:gK s env bb){d n:Nat}{x:Option aK}(h:nD env d x=some n):jv bb d x=some n:=by
 cases x with
 |none=>exact h
 |some x=>
  have ab:=kE he x
  simp only[nD]at h
  split at h
  ·rename_i k m e
   rw[e]at ab
   simp only[aN]at ab
   simp only[jv,ab]
   exact h
  ·cases h
def sK (env:Env) (cells:List I):List (Nat×Nat×aK)→Option (List I)
 |[]=>some cells
 |(off,size,x)::rest=>
  let a:=bp env x
  bif a.eo&&(a.cells.length==size&&Nat.ble (off+size) cells.length) then sK env (gx cells off a.cells) rest else none
theorem HQ (he:gK s env bb): ∀(parts:List (Nat×Nat×aK)) (cells yr cs:List I),bs s cells yr→sK env cells parts=some cs→∃c3,nA bb yr parts=some c3∧bs s cs c3
 |[],cells,yr,cs,h,hb=>by
  simp only[sK,Option.some.injEq]at hb
  subst hb
  exact⟨_,rfl,h⟩
 |(off,size,x)::rest,cells,yr,cs,h,hb=>by
  simp only[sK]at hb
  cases ah:((bp env x).eo&&((bp env x).cells.length==size&&Nat.ble (off+size) cells.length)) with
  |false=>rw[ah]at hb; cases hb
  |true=>
   rw[ah,cond_true]at hb
   simp only[Bool.and_eq_true,beq_iff_eq,Nat.ble_eq]at ah
   obtain⟨J,aa,au⟩:=ah
   obtain⟨bC,bA⟩:=(kE he x).eo J
   obtain⟨c3,ar,ax⟩:=HQ he rest _ (gx yr off (x.aJ bb).cells) cs (h.gx bA off) hb
   refine⟨c3,?_,ax⟩
   simp only[nA]
   rw[if_pos ⟨by rw[bs.length bA,aa],by rw[bs.length h]; exact au,bC⟩]
   exact ar
theorem MT (lF:Bool): ∀(l b8:List I) (a cp v:I),aN s a cp→bs s l b8→kP lF a l=some v→kP lF cp b8=some v∧aN s v v
 |[],_,a,cp,v,aP,aH,af=>by
  simp only[bs]at aH
  subst aH
  cases a<;>simp only[kP,Option.some.injEq,reduceCtorEq]at af
  subst af
  simp only[aN]at aP
  subst aP
  exact⟨rfl,by simp only[aN]⟩
 |b::rest,_,a,cp,v,aP,aH,af=>by
  simp only[bs]at aH
  obtain⟨bX,dZ,rfl,hb,aH⟩:=aH
  cases a<;>cases b<;>simp only[kP,reduceCtorEq]at af
  simp only[aN]at aP hb
  subst aP hb
  simp only[kP]
  split at af
  ·rename_i aC
   rw[if_pos aC]
   exact MT lF rest dZ _ _ v (by simp only[aN]) aH af
  ·cases af
theorem Xy {k:lQ}{a cp b bX:I}{r:Bool}(aP:aN s a cp) (hb:aN s b bX) (h:oe k a b=some r):oe k cp bX=some r:=by
 cases k<;>cases a<;>cases b<;>simp only[oe,reduceCtorEq]at h<;>simp only[aN]at aP hb<;>subst aP hb<;>exact h
theorem KH: ∀(cu:List lQ) (az iu cH yo:List I) (r:Bool),bs s az iu→bs s cH yo→gM cu az cH=some r→gM cu iu yo=some r
 |[],[],_,[],_,r,aP,hb,h=>by
  simp only[bs]at aP hb
  subst aP hb
  exact h
 |k::cu,a::az,_,b::cH,_,r,aP,hb,h=>by
  simp only[bs]at aP hb
  obtain⟨cp,iu,rfl,aP,has⟩:=aP
  obtain⟨bX,yo,rfl,hb,YQ⟩:=hb
  simp only[gM]at h ⊢
  split at h
  ·rename_i x y J aa
   rw[Xy aP hb J,KH cu az iu cH yo y has YQ aa]
   exact h
  ·cases h
 |[],_:: _,_,_,_,_,_,_,h=>by simp [gM]at h
 |[],[],_,_:: _,_,_,_,_,h=>by simp [gM]at h
 | _:: _,[],_,_,_,_,_,_,h=>by simp [gM]at h
 | _:: _,_:: _,_,[],_,_,_,_,h=>by simp [gM]at h
end
def rq (n:Int) (len:Nat):Option Nat:=
 match n with
 | .ofNat k=>bif Nat.blt k len then some k else none
 | _=>none
theorem wG {n:Int}{len k:Nat}(h:rq n len=some k):0≤n∧n<(len:Int)∧n.toNat=k:=by
 cases n with
 |ofNat j=>
  simp only[rq]at h
  cases hb:Nat.blt j len with
  |false=>rw[hb]at h; cases h
  |true=>
   rw[hb]at h
   simp only[cond_true,Option.some.injEq]at h
   subst h
   have:j<len:=by simpa [Nat.blt_eq] using hb
   exact⟨Int.natCast_nonneg j,Int.ofNat_lt.2 this,rfl⟩
 |negSucc j=>cases h
def n9 (cs:List I) (agg:Bool) (o n:Nat):Option I:=bif Nat.ble (o+n) cs.length then I.iB agg ((cs.drop o).take n) else none
theorem sN {s:bt}{cs c3:List I}{agg:Bool}{o n:Nat}{v:I}(h:bs s cs c3) (af:n9 cs agg o n=some v):o+n≤c3.length∧∃bT,I.iB agg ((c3.drop o).take n)=some bT∧aN s v bT:=by
 unfold n9 at af
 cases hb:Nat.ble (o+n) cs.length with
 |false=>rw[hb]at af; cases af
 |true=>
  rw[hb,cond_true]at af
  exact⟨by rw[bs.length h]; exact Nat.le_of_ble_eq_true hb,bs.iB ((h.drop o).take n) af⟩
def tR (op:BinOp):I→I→Option I
 | .int k a,.int j b=>if k=j then (match op with
  | .quo=>if b=0 then none else some (.int k (k.wrap (a.tdiv b)))
  | .rem=>if b=0 then none else some (.int k (a.tmod b))
  |op=>qn op k a b) else uL op k a b
 | .str a,.str b=>match op with
  | .add=>bif Nat.ble (a.length+b.length) maxLen then some (.str (a++b)) else none
  |op=>sG op a b
 | _,_=>none
def fj (op:bj) (env:Env) (C:aA):Option I:=
 match op with
 | .hs x=>some (bp env x)
 | .pick c a b=>match bp env c with
  | .bool true=>some (bp env a)
  | .bool false=>some (bp env b)
  | _=>none
 | .cE x=>match bp env x with
  | .ptr b o=>some (.ptr b o)
  | .dO r o=>some (.dO r o)
  | .fn f c=>some (.fn f c)
  | _=>none
 | .build zero parts=>bif b3 zero then (sK env zero parts).map .agg else none
 | .load agg n x=>match bp env x with
  | .ptr b o=>match C.aU b with
   |some (_,cs)=>n9 cs agg o n
   |none=>none
  | .dO row o=>n9 row agg o n
  | _=>none
 | .hr e6 agg n x=>match env.get e6,bp env x with
  | .ptr b 0,.ptr bX o=>bif bX==b then (match C.aU bX with
   |some (_,cs)=>n9 cs agg o n
   |none=>none) else none
  | _,_=>none
 | .nd agg n x=>match bp env x with
  | .dO row o=>n9 row agg o n
  | _=>none
 | .nH off x=>match bp env x with
  | .ptr b o=>some (.ptr b (o+off))
  | .dO row o=>some (.dO row (o+off))
  | _=>none
 | .field agg off n x=>match bp env x with
  | .agg cs=>n9 cs agg off n
  | _=>none
 | .fW size x i=>match bp env x,bp env i with
  | .ay kn rows,.int _ (.ofNat n)=>bif kn==size then rows[n]?.map fun r=> .dO r 0 else none
  | .own _ kn rows,.int _ (.ofNat n)=>bif kn==size then rows[n]?.map fun r=> .dO r 0 else none
  | _,_=>none
 | .o1 len size x i=>match bp env x,bp env i with
  | .ptr b o,.int _ n=>(rq n len).map fun k=> .ptr b (o+k*size)
  | .dO row o,.int _ n=>(rq n len).map fun k=> .dO row (o+k*size)
  | _,_=>none
 | .jn agg len size x i=>match bp env x,bp env i with
  | .agg cs,.int _ n=>match rq n len with
   |some k=>n9 cs agg (k*size) size
   |none=>none
  | _,_=>none
 | .eJ x i=>match bp env x,bp env i with
  | .str b,.int _ (.ofNat n)=>b[n]?.map fun c=> .int .u8 c.toNat
  | _,_=>none
 | .bin op x y=>tR op (bp env x) (bp env y)
 | .pA op x y=>match bp env x,bp env y with
  | .bool a,.bool b=>tP op a b
  | _,_=>none
 | .oS neg _ cu x y=>match bp env x,bp env y with
  | .agg a,.agg b=>(gM cu a b).map fun r=> .bool (bif neg then !r else r)
  | _,_=>none
 | .not x=>match bp env x with
  | .bool b=>some (.bool (!b))
  | _=>none
 | .qZ neg x=>match bp env x with
  | .ptr _ _=>some (.bool neg)
  | .dO _ _=>some (.bool neg)
  | .dQ (.pointer none)=>some (.bool (!neg))
  | _=>none
 | .neg x=>match bp env x with
  | .int k n=>some (.int k (k.wrap (0-n)))
  | _=>none
 | .conv k x=>match bp env x with
  | .int _ n=>some (.int k (k.wrap n))
  | _=>none
 | .fQ x=>match bp env x with
  | .str b=>some (.int .i64 b.length)
  | _=>none
 | .len x=>match bp env x with
  | .ay _ rows=>some (.int .i64 rows.length)
  | .own _ _ rows=>some (.int .i64 rows.length)
  | .dQ (.slice _ n _)=>some (.int .i64 n)
  | _=>none
 | .pU n=>some (.int .i64 n)
 | .nR lF xs=>match xs.map (bp env) with
  |a::rest=>kP lF a rest
  |[]=>none
 | .gE x cz ai=>match bp env x with
  | .str b=>match nD env 0 cz,nD env b.length ai with
   |some l,some h=>bif Nat.ble l h&&Nat.ble h b.length then some (.str ((b.take h).drop l)) else none
   | _,_=>none
  | _=>none
 | .h9 size x cz ai none=>match mG size (bp env x) with
  |some rows=>match nD env 0 cz,nD env rows.length ai with
   |some l,some h=>bif Nat.ble l h&&Nat.ble h rows.length then some (.ay size ((rows.take h).drop l)) else none
   | _,_=>none
  |none=>none
 | .extract i x=>match bp env x with
  | .di l=>l[i]?
  | _=>none
 | .ng f cap=>some (.fn f (cap.map (bp env)))
 | .o4 f cap=>some (.fn (f+hW) (cap.map (bp env)))
 | .k8 int x=>match int,bp env x with
  |true,.int _ n=>some (.str (Utf8.encode n).data.toList)
  |false,.ay 1 rows=>(jB rows).map .str
  |false,.own _ 1 rows=>(jB rows).map .str
  |false,.dQ (.slice none _ _)=>some (.str [])
  | _,_=>none
 | .jC T x=>match bp env x with
  | .str b=>some (.ay 1 (b.map fun c=>[.int .u8 c.toNat]))
  | _=>none
 | .o5 T x=>some (.gW T (bp env x))
 | .nQ neg x=>match bp env x with
  | .dQ (.slice none 0 0)=>some (.bool (!neg))
  | .ay _ (_:: _)=>some (.bool neg)
  | _=>none
 | .jo x=>match bp env x with
  | .ez t bg=>match C.tok t with
   |some ⟨_,_,0,iE,some rows⟩=>bif iE==bg then some (.int .i64 rows.length) else none
   | _=>none
  | _=>none
 | .jk off x=>match bp env x with
  | .mp t bg k=>match C.tok t with
   |some ⟨_,_,0,iE,some rows⟩=>bif iE==bg then some (.mp t bg (k+off)) else none
   | _=>none
  | _=>none
 | .j2 size x i=>match bp env x,bp env i with
  | .ez t bg,.int _ n=>match C.tok t with
   |some ⟨_,kn,0,iE,some rows⟩=>bif iE==bg&&kn==size then (rq n rows.length).map fun k=> .mp t bg (k*size) else none
   | _=>none
  | _,_=>none
 | .j3 agg n x=>match bp env x with
  | .mp t bg k=>match C.tok t with
   |some ⟨_,_,0,iE,some rows⟩=>bif iE==bg then n9 rows.flatten agg k n else none
   | _=>none
  | _=>none
 | .dA T size n zero parts=>
  let az:=parts.map fun p=>bp env p.2
  bif az.all I.eo&&((az.map I.cells).all (fun r=>r.length==size)&&(az.map I.cells).flatten.all I.one) then some (.ay size (az.map I.cells)) else none
 | _=>none
section
variable {P:Program}{s:bt}{env bb:Env}{H0 C H:aA}
theorem HR.bS (ag:HR H0 s C H){t:Nat}{T:TypeId}{size bg:Nat}{rows:List (List I)}(h:C.tok t=some ⟨T,size,0,bg,some rows⟩): ∃x l,s.t[t]? =some x∧H.tok x=some (.bS T size bg l)∧cn s rows l:=by
 obtain⟨x,⟨cQ,pq,gX,bT,cB⟩,J,aa,ar,ax,cw,fq,lB⟩:=ag.tok t _ h
 simp only at ar ax cw fq lB
 obtain⟨l,lB,AP⟩:=lB
 subst ar ax cw fq lB
 exact⟨x,l,J,aa,AP⟩
theorem C7 (he:gK s env bb): ∀(parts:List (Nat×aK)),(parts.map fun p=>bp env p.2).all I.eo=true→cn s ((parts.map fun p=>bp env p.2).map I.cells) (j5 bb parts)
 |[],_=>by simp [j5,cn]
 |p::parts,h=>by
  simp only[List.map_cons,List.all_cons,Bool.and_eq_true]at h
  simp only[List.map_cons,j5,cn]
  exact⟨_,_,rfl,((kE he p.2).eo h.1).2,C7 he parts h.2⟩
end
variable {P:Program}{s:bt}{env bb:Env}{H0 C H:aA}
theorem dW (he:gK s env bb){x:aK}{a:I}(e:bp env x=a):aN s a (x.aJ bb):=e▸kE he x
theorem aG0 {size:Nat}{a cp:I}{rows:List (List I)}(h:aN s a cp) (e:mG size a=some rows): ∃l,mG size cp=some l∧cn s rows l:=by
 unfold mG at e
 split at e
 ·split at e
  ·rename_i ap
   simp only[Option.some.injEq]at e
   subst e
   simp only[aN]at h
   obtain⟨l,rfl,J⟩:=h
   exact⟨l,by simp [mG,ap],J⟩
  ·cases e
 ·split at e
  ·rename_i ap
   simp only[Option.some.injEq]at e
   subst e
   simp only[aN]at h
   obtain⟨x,l,_,rfl,J⟩:=h
   exact⟨l,by simp [mG,ap],J⟩
  ·cases e
 ·cases e
theorem TD {op:BinOp}{k:IntKind}{a b:Int}{v:I}(h:qn op k a b=some v):aN s v v:=by
 cases op<;>simp only[qn,Option.some.injEq,reduceCtorEq]at h<;>first
  |(subst h; simp only[aN]; done)
  |(split at h<;>first
   |(cases h; done)
   |(simp only[Option.some.injEq]at h; subst h; simp only[aN]; done))
theorem aF6 {op:BinOp}{k:IntKind}{a b:Int}{v:I}(h:uL op k a b=some v):aN s v v:=by
 cases op<;>simp only[uL,reduceCtorEq]at h<;>first
  |(cases h; done)
  |(split at h<;>first
   |(cases h; done)
   |(simp only[Option.some.injEq]at h; subst h; simp only[aN]; done))
theorem Da: ∀ {rows l:List (List I)}{b:List UInt8},jB rows=some b→cn s rows l→jB l=some b
 |[],l,b,h,k=>by simp only[cn]at k; subst k; exact h
 |r::aL,l,b,h,k=>by
  simp only[cn]at k
  obtain⟨dn,b8,rfl,bC,bA⟩:=k
  unfold jB at h
  split at h
  ·rename_i e; cases e
  ·rename_i n FR e
   simp only[List.cons.injEq]at e
   obtain⟨rfl,rfl⟩:=e
   simp only[bs,aN]at bC
   obtain⟨_,_,rfl,rfl,rfl⟩:=bC
   split at h
   ·rename_i bM cC
    simp only[jB,Da cC bA]
    exact h
   ·cases h
  ·cases h
theorem HE: ∀(b:List UInt8),cn s (b.map fun c=>[I.int .u8 c.toNat]) (b.map fun c=>[I.int .u8 c.toNat])
 |[]=>by simp [cn]
 |c::b=>by simp only[List.map_cons,cn,bs,aN]; exact⟨_,_,rfl,⟨_,_,rfl,rfl,rfl⟩,HE b⟩
theorem V7 {op:BinOp}{x y:aK}{a b v:I}(aP:aN s a (x.aJ bb)) (hb:aN s b (y.aJ bb)) (h:tR op a b=some v): ∃bT,eO P (.bin op x y) bb H (.cT bT)∧aN s v bT:=by
 unfold tR at h
 split at h
 ·rename_i k a j b
  simp only[aN]at aP hb
  split at h
  ·rename_i aC
   subst aC
   split at h
   ·split at h
    ·cases h
    ·rename_i aB
     simp only[Option.some.injEq]at h
     subst h
     exact⟨_,.quo aP hb aB,by simp only[aN]⟩
   ·split at h
    ·cases h
    ·rename_i aB
     simp only[Option.some.injEq]at h
     subst h
     exact⟨_,.rem aP hb aB,by simp only[aN]⟩
   ·refine⟨v,.pure (by simp only[bU,aP,hb,if_pos]; exact h),?_⟩
    exact TD h
  ·rename_i aC
   refine⟨v,.pure (by simp only[bU,aP,hb,if_neg aC]; exact h),aF6 h⟩
 ·rename_i a b
  simp only[aN]at aP hb
  split at h
  ·cases hm:Nat.ble (a.length+b.length) maxLen with
   |false=>rw[hm]at h; cases h
   |true=>
    rw[hm]at h
    simp only[cond_true,Option.some.injEq]at h
    subst h
    exact⟨_,.bR aP hb (Nat.le_of_ble_eq_true hm),by simp only[aN]⟩
  ·refine⟨v,.pure (by simp only[bU,aP,hb]; exact h),?_⟩
   cases op<;>simp only[sG,Option.some.injEq,reduceCtorEq]at h<;>subst h<;>simp only[aN]
 ·cases h
theorem EK {bg iE:Nat}(h:(iE==bg)=true):iE=bg:=by simpa using h
theorem Wv (he:gK s env bb) (ag:HR H0 s C H){op:bj}{v:I}(h:fj op env C=some v): ∃bT,eO P op bb H (.cT bT)∧aN s v bT:=by
 cases op<;>simp only[fj,reduceCtorEq]at h
 case hs x=>
  simp only[Option.some.injEq]at h
  subst h
  exact⟨_,.pure rfl,kE he x⟩
 case pick c a b=>
  split at h
  ·rename_i e
   have ah:=dW he e
   simp only[aN]at ah
   simp only[Option.some.injEq]at h
   subst h
   exact⟨_,.pure (by simp only[bU,ah]),kE he a⟩
  ·rename_i e
   have ah:=dW he e
   simp only[aN]at ah
   simp only[Option.some.injEq]at h
   subst h
   exact⟨_,.pure (by simp only[bU,ah]),kE he b⟩
  ·cases h
 case cE x=>
  split at h
  ·rename_i e
   have ab:=dW he e
   simp only[Option.some.injEq]at h
   subst h
   simp only[aN]at ab
   obtain⟨y,J,aa⟩:=ab
   exact⟨_,.pure (by simp only[bU,aa]; rfl),by simp only[aN]; exact⟨y,J,rfl⟩⟩
  ·rename_i e
   have ab:=dW he e
   simp only[Option.some.injEq]at h
   subst h
   simp only[aN]at ab
   obtain⟨y,aa,J⟩:=ab
   exact⟨_,.pure (by simp only[bU,aa]; rfl),by simp only[aN]; exact⟨y,rfl,J⟩⟩
  ·rename_i e
   have ab:=dW he e
   simp only[Option.some.injEq]at h
   subst h
   simp only[aN]at ab
   obtain⟨y,aa,J⟩:=ab
   exact⟨_,.pure (by simp only[bU,aa]; rfl),by simp only[aN]; exact⟨y,rfl,J⟩⟩
  ·cases h
 case build zero parts=>
  cases aB:b3 zero with
  |false=>rw[aB]at h; cases h
  |true=>
   rw[aB]at h
   simp only[cond_true,Option.map_eq_some_iff]at h
   obtain⟨cs,e,rfl⟩:=h
   obtain⟨c3,ar,ax⟩:=HQ he parts zero zero cs ((nI zero aB _).2 rfl) e
   exact⟨_,.pure (by simp only[bU,ar,Option.map_some]; rfl),by simp only[aN]; exact⟨_,rfl,ax⟩⟩
 case load agg n x=>
  split at h
  ·rename_i b o e
   have ab:=dW he e
   simp only[aN]at ab
   obtain⟨y,J,aa⟩:=ab
   split at h
   ·rename_i T cs ax
    obtain⟨cY,c3,g1,g2,g3⟩:=ag.aU _ _ _ ax
    rw[J]at g1
    cases g1
    obtain⟨bC,bT,bA,cO⟩:=sN g3 h
    exact⟨bT,.pure (by simp only[bU,aa,g2,if_pos bC,bA]),cO⟩
   ·cases h
  ·rename_i row o e
   have ab:=dW he e
   simp only[aN]at ab
   obtain⟨l,aa,J⟩:=ab
   obtain⟨bC,bT,bA,cO⟩:=sN J h
   exact⟨bT,.pure (by simp only[bU,aa,if_pos bC,bA]),cO⟩
  ·cases h
 case nd agg n x=>
  split at h
  ·rename_i row o e
   have ab:=dW he e
   simp only[aN]at ab
   obtain⟨l,aa,J⟩:=ab
   obtain⟨bC,bT,bA,cO⟩:=sN J h
   exact⟨bT,.pure (by simp only[bU,aa,if_pos bC,bA]),cO⟩
  ·cases h
 case hr e6 agg n x=>
  split at h
  ·rename_i b bX o bE e
   have ab:=dW he e
   have hm:=he e6
   rw[bE]at hm
   simp only[aN]at ab hm
   obtain⟨y,J,aa⟩:=ab
   obtain⟨wo,au,bn⟩:=hm
   cases hb:bX==b with
   |false=>rw[hb]at h; cases h
   |true=>
    rw[hb,cond_true]at h
    have hb:bX=b:=by simpa using hb
    subst hb
    rw[J]at au
    cases au
    split at h
    ·rename_i T cs ax
     obtain⟨cY,c3,g1,g2,g3⟩:=ag.aU _ _ _ ax
     rw[J]at g1
     cases g1
     obtain⟨bC,bT,bA,cO⟩:=sN g3 h
     exact⟨bT,.pure (by simp only[bU,aa,bn,g2,if_pos bC,bA,if_true]),cO⟩
    ·cases h
  ·cases h
 case nH off x=>
  split at h
  ·rename_i e
   have ab:=dW he e
   simp only[Option.some.injEq]at h
   subst h
   simp only[aN]at ab
   obtain⟨y,J,aa⟩:=ab
   exact⟨_,.pure (by simp only[bU,aa]; rfl),by simp only[aN]; exact⟨y,J,rfl⟩⟩
  ·rename_i e
   have ab:=dW he e
   simp only[Option.some.injEq]at h
   subst h
   simp only[aN]at ab
   obtain⟨y,aa,J⟩:=ab
   exact⟨_,.pure (by simp only[bU,aa]; rfl),by simp only[aN]; exact⟨y,rfl,J⟩⟩
  ·cases h
 case field agg off n x=>
  split at h
  ·rename_i e
   have ab:=dW he e
   simp only[aN]at ab
   obtain⟨l,aa,J⟩:=ab
   obtain⟨bC,bT,bA,cO⟩:=sN J h
   exact⟨bT,.pure (by simp only[bU,aa,if_pos bC,bA]),cO⟩
  ·cases h
 case fW size x i=>
  split at h
  ·rename_i kn rows k n ar ax
   have ab:=dW he ar
   have ai:=dW he ax
   simp only[aN]at ab ai
   obtain⟨l,aa,J⟩:=ab
   cases ap:kn==size with
   |false=>rw[ap]at h; cases h
   |true=>
    rw[ap]at h
    have ap:kn=size:=by simpa using ap
    subst ap
    simp only[cond_true,Option.map_eq_some_iff]at h
    obtain⟨r,g1,rfl⟩:=h
    obtain⟨dn,g2,g3⟩:=cn.get J _ _ g1
    exact⟨_,.nO aa ai (Int.natCast_nonneg n) g2,by simp only[aN]; exact⟨_,rfl,g3⟩⟩
  ·rename_i dx kn rows k n ar ax
   have ab:=dW he ar
   have ai:=dW he ax
   simp only[aN]at ab ai
   obtain⟨y,l,aw,aa,J⟩:=ab
   cases ap:kn==size with
   |false=>rw[ap]at h; cases h
   |true=>
    rw[ap]at h
    have ap:kn=size:=by simpa using ap
    subst ap
    simp only[cond_true,Option.map_eq_some_iff]at h
    obtain⟨r,g1,rfl⟩:=h
    obtain⟨dn,g2,g3⟩:=cn.get J _ _ g1
    exact⟨_,.nM aa ai (Int.natCast_nonneg n) g2,by simp only[aN]; exact⟨_,rfl,g3⟩⟩
  ·cases h
 case o1 len size x i=>
  split at h
  ·rename_i b o k n ar ax
   have ab:=dW he ar
   have ai:=dW he ax
   simp only[aN]at ab ai
   obtain⟨y,J,aa⟩:=ab
   simp only[Option.map_eq_some_iff]at h
   obtain⟨j,g1,rfl⟩:=h
   obtain⟨g2,g3,rfl⟩:=wG g1
   exact⟨_,.nb aa ai g2 g3,by simp only[aN]; exact⟨_,J,rfl⟩⟩
  ·rename_i row o k n ar ax
   have ab:=dW he ar
   have ai:=dW he ax
   simp only[aN]at ab ai
   obtain⟨l,aa,J⟩:=ab
   simp only[Option.map_eq_some_iff]at h
   obtain⟨j,g1,rfl⟩:=h
   obtain⟨g2,g3,rfl⟩:=wG g1
   exact⟨_,.nN aa ai g2 g3,by simp only[aN]; exact⟨_,rfl,J⟩⟩
  ·cases h
 case jn agg len size x i=>
  split at h
  ·rename_i cs k n ar ax
   have ab:=dW he ar
   have ai:=dW he ax
   simp only[aN]at ab ai
   obtain⟨l,aa,J⟩:=ab
   split at h
   ·rename_i j g1
    obtain⟨g2,g3,rfl⟩:=wG g1
    obtain⟨bC,bT,bA,cO⟩:=sN J h
    exact⟨bT,.jn aa ai g2 g3 bC bA,cO⟩
   ·cases h
  ·cases h
 case eJ x i=>
  split at h
  ·rename_i b k n ar ax
   have ab:=dW he ar
   have ai:=dW he ax
   simp only[aN]at ab ai
   simp only[Option.map_eq_some_iff]at h
   obtain⟨c,g1,rfl⟩:=h
   exact⟨_,.eJ ab ai (Int.natCast_nonneg n) g1,by simp only[aN]⟩
  ·cases h
 case bin op x y=>exact V7 (kE he x) (kE he y) h
 case pA op x y=>
  split at h
  ·rename_i a b ar ax
   have ab:=dW he ar
   have aZ:=dW he ax
   simp only[aN]at ab aZ
   refine⟨v,.pure (by simp only[bU,ab,aZ]; exact h),?_⟩
   cases op<;>simp only[tP,Option.some.injEq,reduceCtorEq]at h<;>subst h<;>simp only[aN]
  ·cases h
 case oS neg T cu x y=>
  split at h
  ·rename_i a b ar ax
   have ab:=dW he ar
   have aZ:=dW he ax
   simp only[aN]at ab aZ
   obtain⟨aM,J,aa⟩:=ab
   obtain⟨dZ,au,bn⟩:=aZ
   simp only[Option.map_eq_some_iff]at h
   obtain⟨r,g1,rfl⟩:=h
   exact⟨_,.pure (by simp only[bU,J,au,KH cu _ _ _ _ r aa bn g1,Option.map_some]; rfl),by simp only[aN]⟩
  ·cases h
 case not x=>
  split at h
  ·rename_i e
   have ab:=dW he e
   simp only[aN]at ab
   simp only[Option.some.injEq]at h
   subst h
   exact⟨_,.pure (by simp only[bU,ab]; rfl),by simp only[aN]⟩
  ·cases h
 case qZ neg x=>
  split at h
  ·rename_i e
   have ab:=dW he e
   simp only[aN]at ab
   obtain⟨y,J,aa⟩:=ab
   simp only[Option.some.injEq]at h
   subst h
   exact⟨_,.pure (by simp only[bU,aa]; rfl),by simp only[aN]⟩
  ·rename_i e
   have ab:=dW he e
   simp only[aN]at ab
   obtain⟨y,aa,J⟩:=ab
   simp only[Option.some.injEq]at h
   subst h
   exact⟨_,.pure (by simp only[bU,aa]; rfl),by simp only[aN]⟩
  ·rename_i e
   have ab:=dW he e
   simp only[aN]at ab
   simp only[Option.some.injEq]at h
   subst h
   exact⟨_,.pure (by simp only[bU,ab]; rfl),by simp only[aN]⟩
  ·cases h
 case neg x=>
  split at h
  ·rename_i e
   have ab:=dW he e
   simp only[aN]at ab
   simp only[Option.some.injEq]at h
   subst h
   exact⟨_,.pure (by simp only[bU,ab]; rfl),by simp only[aN]⟩
  ·cases h
 case conv k x=>
  split at h
  ·rename_i e
   have ab:=dW he e
   simp only[aN]at ab
   simp only[Option.some.injEq]at h
   subst h
   exact⟨_,.pure (by simp only[bU,ab]; rfl),by simp only[aN]⟩
  ·cases h
 case fQ x=>
  split at h
  ·rename_i e
   have ab:=dW he e
   simp only[aN]at ab
   simp only[Option.some.injEq]at h
   subst h
   exact⟨_,.pure (by simp only[bU,ab]; rfl),by simp only[aN]⟩
  ·cases h
 case len x=>
  split at h
  ·rename_i e
   have ab:=dW he e
   simp only[aN]at ab
   obtain⟨l,aa,J⟩:=ab
   simp only[Option.some.injEq]at h
   subst h
   exact⟨_,.pure (by simp only[bU,aa]; rfl),by simp only[aN]; rw[cn.length J]⟩
  ·rename_i e
   have ab:=dW he e
   simp only[aN]at ab
   obtain⟨y,l,aw,aa,J⟩:=ab
   simp only[Option.some.injEq]at h
   subst h
   exact⟨_,.pure (by simp only[bU,aa]; rfl),by simp only[aN]; rw[cn.length J]⟩
  ·rename_i e
   have ab:=dW he e
   simp only[aN]at ab
   simp only[Option.some.injEq]at h
   subst h
   exact⟨_,.pure (by simp only[bU,ab]; rfl),by simp only[aN]⟩
  ·cases h
 case pU n=>
  simp only[Option.some.injEq]at h
  subst h
  exact⟨_,.pure rfl,by simp only[aN]⟩
 case nR lF xs=>
  have aH:=mU he xs
  split at h
  ·rename_i a rest e
   rw[e]at aH
   simp only[bs]at aH
   obtain⟨cp,aR9,cC,J,aa⟩:=aH
   obtain⟨bC,bA⟩:=MT lF _ _ _ _ v J aa h
   exact⟨v,.pure (by simp only[bU,cC]; exact bC),bA⟩
  ·cases h
 case gE x cz ai=>
  split at h
  ·rename_i b e
   have ab:=dW he e
   simp only[aN]at ab
   split at h
   ·rename_i l m ar ax
    cases hb:(Nat.ble l m&&Nat.ble m b.length) with
    |false=>rw[hb]at h; cases h
    |true=>
     rw[hb]at h
     simp only[cond_true,Option.some.injEq]at h
     subst h
     simp only[Bool.and_eq_true,Nat.ble_eq]at hb
     exact⟨_,.gE ab (wH he ar) (wH he ax) hb.1 hb.2,by simp only[aN]⟩
   ·cases h
  ·cases h
 case h9 size x cz ai lI=>
  cases lI with
  |some _=>cases h
  |none=>
   simp only at h
   split at h
   ·rename_i rows e
    obtain⟨b8,aa,J⟩:=aG0 (kE he x) e
    split at h
    ·rename_i l m ar ax
     cases hb:(Nat.ble l m&&Nat.ble m rows.length) with
     |false=>rw[hb]at h; cases h
     |true=>
      rw[hb]at h
      simp only[cond_true,Option.some.injEq]at h
      subst h
      simp only[Bool.and_eq_true,Nat.ble_eq]at hb
      obtain⟨qF,hP⟩:=hb
      exact⟨_,.h9 aa (wH he ar) (by rw[cn.length J]; exact wH he ax) qF (by rw[cn.length J]; exact hP),by simp only[aN]; exact⟨_,rfl,(J.take _).drop _⟩⟩
    ·cases h
   ·cases h
 case extract i x=>
  split at h
  ·rename_i e
   have ab:=dW he e
   simp only[aN]at ab
   obtain⟨l,aa,J⟩:=ab
   obtain⟨bT,g1,g2⟩:=bs.get J _ _ h
   exact⟨bT,.pure (by simp only[bU,aa]; exact g1),g2⟩
  ·cases h
 case ng f cap=>
  simp only[Option.some.injEq]at h
  subst h
  exact⟨_,.pure rfl,by simp only[aN]; exact⟨_,rfl,mU he cap⟩⟩
 case o4 f cap=>
  simp only[Option.some.injEq]at h
  subst h
  exact⟨_,.pure rfl,by simp only[aN]; exact⟨_,rfl,mU he cap⟩⟩
 case jC T x=>
  split at h
  ·rename_i b e
   have ab:=dW he e
   simp only[aN]at ab
   simp only[Option.some.injEq]at h
   subst h
   exact⟨_,.jC ab,by simp only[aN]; exact⟨_,rfl,HE b⟩⟩
  ·cases h
 case k8 int x=>
  split at h
  ·rename_i k n e
   have ab:=dW he e
   simp only[aN]at ab
   simp only[Option.some.injEq]at h
   subst h
   exact⟨_,.pure (by simp only[bU,ab]; rfl),by simp only[aN]⟩
  ·rename_i rows e
   have ab:=dW he e
   simp only[aN]at ab
   obtain⟨l,aa,J⟩:=ab
   cases hb:jB rows with
   |none=>simp [hb]at h
   |some b=>
    simp only[hb,Option.map_some,Option.some.injEq]at h
    subst h
    exact⟨_,.pure (by simp only[bU,aa,Da hb J]; rfl),by simp only[aN]⟩
  ·rename_i t rows e
   have ab:=dW he e
   simp only[aN]at ab
   obtain⟨y,l,aw,aa,J⟩:=ab
   cases hb:jB rows with
   |none=>simp [hb]at h
   |some b=>
    simp only[hb,Option.map_some,Option.some.injEq]at h
    subst h
    exact⟨_,.pure (by simp only[bU,aa,Da hb J]; rfl),by simp only[aN]⟩
  ·rename_i n c e
   have ab:=dW he e
   simp only[aN]at ab
   simp only[Option.some.injEq]at h
   subst h
   exact⟨.str [],.pure (by simp only[bU,ab]),by simp only[aN]⟩
  ·cases h
 case o5 T x=>
  simp only[Option.some.injEq]at h
  subst h
  exact⟨_,.pure rfl,by simp only[aN]; exact⟨_,rfl,kE he x⟩⟩
 case nQ neg x=>
  split at h
  ·rename_i e
   have ab:=dW he e
   simp only[aN]at ab
   simp only[Option.some.injEq]at h
   subst h
   exact⟨_,.s3 ab,by simp only[aN]⟩
  ·rename_i e
   have ab:=dW he e
   simp only[aN]at ab
   obtain⟨l,aa,J⟩:=ab
   simp only[Option.some.injEq]at h
   subst h
   refine⟨_,.uv aa (fun bh=> ?_),by simp only[aN]⟩
   subst bh
   simpa using cn.length J
  ·cases h
 case jo x=>
  split at h
  ·rename_i t bg e
   have ab:=dW he e
   simp only[aN]at ab
   obtain⟨y,J,aa⟩:=ab
   split at h
   ·rename_i T size iE rows ax
    cases af:iE==bg with
    |false=>rw[af]at h; cases h
    |true=>
     rw[af]at h
     simp only[cond_true,Option.some.injEq]at h
     subst h
     have af:=EK af
     subst af
     obtain⟨z,l,g1,g2,g3⟩:=ag.bS ax
     rw[J]at g1
     cases g1
     exact⟨_,.jo aa g2,by simp only[aN]; rw[cn.length g3]⟩
   ·cases h
  ·cases h
 case jk off x=>
  split at h
  ·rename_i t bg k e
   have ab:=dW he e
   simp only[aN]at ab
   obtain⟨y,J,aa⟩:=ab
   split at h
   ·rename_i T size iE rows ax
    cases af:iE==bg with
    |false=>rw[af]at h; cases h
    |true=>
     rw[af]at h
     simp only[cond_true,Option.some.injEq]at h
     subst h
     have af:=EK af
     subst af
     obtain⟨z,l,g1,g2,g3⟩:=ag.bS ax
     rw[J]at g1
     cases g1
     exact⟨_,.jk aa g2,by simp only[aN]; exact⟨_,J,rfl⟩⟩
   ·cases h
  ·cases h
 case j2 size x i=>
  split at h
  ·rename_i t bg k n e ar
   have ab:=dW he e
   have ai:=dW he ar
   simp only[aN]at ab ai
   obtain⟨y,J,aa⟩:=ab
   split at h
   ·rename_i T kn iE rows ax
    cases af:(iE==bg&&kn==size) with
    |false=>rw[af]at h; cases h
    |true=>
     rw[af]at h
     simp only[cond_true,Option.map_eq_some_iff]at h
     simp only[Bool.and_eq_true,beq_iff_eq]at af
     obtain⟨rfl,rfl⟩:=af
     obtain⟨j,bC,rfl⟩:=h
     obtain⟨z,l,g1,g2,g3⟩:=ag.bS ax
     rw[J]at g1
     cases g1
     obtain⟨bA,cO,rfl⟩:=wG bC
     exact⟨_,.j2 aa g2 ai bA (by rw[cn.length g3]; exact cO),by simp only[aN]; exact⟨_,J,rfl⟩⟩
   ·cases h
  ·cases h
 case j3 agg n x=>
  split at h
  ·rename_i t bg k e
   have ab:=dW he e
   simp only[aN]at ab
   obtain⟨y,J,aa⟩:=ab
   split at h
   ·rename_i T size iE rows ax
    cases af:iE==bg with
    |false=>rw[af]at h; cases h
    |true=>
     rw[af]at h
     simp only[cond_true]at h
     have af:=EK af
     subst af
     obtain⟨z,l,g1,g2,g3⟩:=ag.bS ax
     rw[J]at g1
     cases g1
     obtain⟨bC,bT,bA,cO⟩:=sN g3.flatten h
     exact⟨bT,.j3 aa g2 bC bA,cO⟩
   ·cases h
  ·cases h
 case dA T size n zero parts=>
  cases ah:((parts.map fun p=>bp env p.2).all I.eo&&(((parts.map fun p=>bp env p.2).map I.cells).all (fun r=>r.length==size)&&((parts.map fun p=>bp env p.2).map I.cells).flatten.all I.one)) with
  |false=>rw[ah]at h; cases h
  |true=>
   rw[ah,cond_true,Option.some.injEq]at h
   subst h
   rw[Bool.and_eq_true,Bool.and_eq_true]at ah
   obtain⟨J,aa,au⟩:=ah
   have hb:=C7 he parts J
   exact⟨_,.n6 rfl (hb.F6 aa) (hb.flatten.xv au),by simp only[aN]; exact⟨_,rfl,hb⟩⟩
structure a1 where
 H:aA
 b7:Nat
 bF:Nat
def a1.new:a1:=⟨.none,0,0⟩
def a1.pw (c:a1) (T:TypeId) (cs:List I):a1:=⟨c.H.ch c.b7 T cs,c.b7+1,c.bF⟩
def a1.ig (c:a1) (o:b2):a1:=⟨c.H.cA c.bF o,c.b7,c.bF+1⟩
def a1.ch (c:a1) (b:Nat) (T:TypeId) (cs:List I):a1:=⟨c.H.ch b T cs,c.b7,c.bF⟩
def a1.cA (c:a1) (t:Nat) (o:b2):a1:=⟨c.H.cA t o,c.b7,c.bF⟩
structure eW (H0:aA) (s:bt) (c:a1) (H:aA):Prop extends HR H0 s c.H H where
 b7:c.b7=s.b.length
 bF:c.bF=s.t.length
section
variable {P:Program}{s:bt}{env bb:Env}{H0 H:aA}{c:a1}
theorem iV.mono {bM:bt}(e:bt.et s bM){i da:b2}(h:iV s i da):iV bM i da:=by
 obtain⟨J,aa,au,bn,bL⟩:=h
 refine⟨J,aa,au,bn,?_⟩
 cases ah:i.n8 with
 |none=>rw[ah]at bL; exact bL
 |some rows=>rw[ah]at bL; obtain⟨l,ar,ax⟩:=bL; exact⟨l,ar,cn.mono e _ _ ax⟩
theorem wW {l:List Nat}{x i y:Nat}(h:(l++[x])[i]? =some y):l[i]? =some y∨(i=l.length∧y=x):=by
 by_cases ai:i<l.length
 ·rw[List.getElem?_append_left ai]at h
  exact .inl h
 ·rw[List.getElem?_append_right (by omega)]at h
  by_cases aw:i=l.length
  ·subst aw
   simp at h
   exact .inr ⟨rfl,h.symm⟩
  ·have:i-l.length=(i-l.length-1)+1:=by omega
   rw[this]at h
   simp at h
theorem Aq {l:List Nat}{x i y:Nat}(h:l[i]? =some y):(l++[x])[i]? =some y:=by
 have ai:i<l.length:=(List.getElem?_eq_some_iff.1 h).1
 rw[List.getElem?_append_left ai,h]
theorem pz {l:List Nat}{x:Nat}:(l++[x])[l.length]? =some x:=by simp
theorem bt.zc (s:bt) (x:Nat):bt.et s ⟨s.b++[x],s.t⟩:=⟨fun _ _ h=>Aq h,fun _ _ h=>h⟩
theorem bt.l0 (s:bt) (x:Nat):bt.et s ⟨s.b,s.t++[x]⟩:=⟨fun _ _ h=>h,fun _ _ h=>Aq h⟩
theorem eW.pw (h:eW H0 s c H){T:TypeId}{cs c3:List I}(ah:bs s cs c3){x:Nat}(ab:H.aU x=none):eW H0 ⟨s.b++[x],s.t⟩ (c.pw T cs) (H.ch x T c3) where
 base:=h.base.ch (h.base.vK ab)
 aU:=fun b cQ l hb=>by
  simp only[a1.pw,aA.ch]at hb
  split at hb
  ·rename_i e
   subst e
   cases hb
   exact⟨x,c3,by rw[h.b7]; exact pz,by simp [aA.ch],bs.mono (bt.zc s x) _ _ ah⟩
  ·obtain⟨y,b8,g1,g2,g3⟩:=h.aU b cQ l hb
   refine⟨y,b8,Aq g1,?_,bs.mono (bt.zc s x) _ _ g3⟩
   simp only[aA.ch]
   rw[if_neg (by intro e; subst e; rw[ab]at g2; cases g2)]
   exact g2
 tok:=fun t i hb=>by
  obtain⟨y,da,g1,g2,g3⟩:=h.tok t i hb
  exact⟨y,da,g1,g2,g3.mono (bt.zc s x)⟩
 lj:=fun b y hb=>by
  rcases wW hb with g|⟨_,rfl⟩
  ·obtain⟨g1,z,g2⟩:=h.lj b y g
   refine⟨g1,z,?_⟩
   simp only[aA.ch]
   rw[if_neg (by intro e; subst e; rw[ab]at g2; cases g2)]
   exact g2
  ·exact⟨h.base.vK ab,(T,c3),by simp [aA.ch]⟩
 lJ:=fun t y hb=>h.lJ t y hb
 ld:=fun b bX y J aa=>by
  rcases wW J with g|⟨ar,rfl⟩<;>rcases wW aa with g'|⟨ax,cw⟩
  ·exact h.ld b bX y g g'
  ·subst cw
   obtain⟨_,z,g2⟩:=h.lj b _ g
   rw[ab]at g2
   cases g2
  ·obtain⟨_,z,g2⟩:=h.lj bX _ g'
   rw[ab]at g2
   cases g2
  ·omega
 nc:=h.nc
 b7:=by simp [a1.pw,h.b7]
 bF:=h.bF
theorem eW.ig (h:eW H0 s c H){o gP:b2}(ah:iV s o gP){x:Nat}(ab:H.tok x=none):eW H0 ⟨s.b,s.t++[x]⟩ (c.ig o) (H.cA x gP) where
 base:=h.base.cA (h.base.M1 ab)
 tok:=fun b i hb=>by
  simp only[a1.ig,aA.cA]at hb
  split at hb
  ·rename_i e
   subst e
   cases hb
   exact⟨x,gP,by rw[h.bF]; exact pz,by simp [aA.cA],ah.mono (bt.l0 s x)⟩
  ·obtain⟨y,b8,g1,g2,g3⟩:=h.tok b i hb
   refine⟨y,b8,Aq g1,?_,g3.mono (bt.l0 s x)⟩
   simp only[aA.cA]
   rw[if_neg (by intro e; subst e; rw[ab]at g2; cases g2)]
   exact g2
 aU:=fun t T i hb=>by
  obtain⟨y,da,g1,g2,g3⟩:=h.aU t T i hb
  exact⟨y,da,g1,g2,bs.mono (bt.l0 s x) _ _ g3⟩
 lJ:=fun b y hb=>by
  rcases wW hb with g|⟨_,rfl⟩
  ·obtain⟨g1,z,g2⟩:=h.lJ b y g
   refine⟨g1,z,?_⟩
   simp only[aA.cA]
   rw[if_neg (by intro e; subst e; rw[ab]at g2; cases g2)]
   exact g2
  ·exact⟨h.base.M1 ab,gP,by simp [aA.cA]⟩
 lj:=fun t y hb=>h.lj t y hb
 nc:=fun b bX y J aa=>by
  rcases wW J with g|⟨ar,rfl⟩<;>rcases wW aa with g'|⟨ax,cw⟩
  ·exact h.nc b bX y g g'
  ·subst cw
   obtain⟨_,z,g2⟩:=h.lJ b _ g
   rw[ab]at g2
   cases g2
  ·obtain⟨_,z,g2⟩:=h.lJ bX _ g'
   rw[ab]at g2
   cases g2
  ·omega
 ld:=h.ld
 b7:=h.b7
 bF:=by simp [a1.ig,h.bF]
theorem eW.ch (h:eW H0 s c H){b x:Nat}(hb:s.b[b]? =some x){T:TypeId}{cs c3:List I}(ah:bs s cs c3):eW H0 s (c.ch b T cs) (H.ch x T c3) where
 base:=h.base.ch (h.lj b x hb).1
 aU:=fun bX cQ l gu=>by
  simp only[a1.ch,aA.ch]at gu
  split at gu
  ·rename_i e
   subst e
   cases gu
   exact⟨x,c3,hb,by simp [aA.ch],ah⟩
  ·rename_i dw
   obtain⟨y,b8,g1,g2,g3⟩:=h.aU bX cQ l gu
   refine⟨y,b8,g1,?_,g3⟩
   simp only[aA.ch]
   rw[if_neg (by intro e; subst e; exact dw (h.ld _ _ _ g1 hb))]
   exact g2
 tok:=h.tok
 lj:=fun bX y gu=>by
  obtain⟨g1,z,g2⟩:=h.lj bX y gu
  refine⟨g1,?_⟩
  simp only[aA.ch]
  split
  ·exact⟨_,rfl⟩
  ·exact⟨z,g2⟩
 lJ:=h.lJ
 ld:=h.ld
 nc:=h.nc
 b7:=h.b7
 bF:=h.bF
theorem eW.cA (h:eW H0 s c H){b x:Nat}(hb:s.t[b]? =some x){o gP:b2}(ah:iV s o gP):eW H0 s (c.cA b o) (H.cA x gP) where
 base:=h.base.cA (h.lJ b x hb).1
 tok:=fun bX l gu=>by
  simp only[a1.cA,aA.cA]at gu
  split at gu
  ·rename_i e
   subst e
   cases gu
   exact⟨x,gP,hb,by simp [aA.cA],ah⟩
  ·rename_i dw
   obtain⟨y,b8,g1,g2,g3⟩:=h.tok bX l gu
   refine⟨y,b8,g1,?_,g3⟩
   simp only[aA.cA]
   rw[if_neg (by intro e; subst e; exact dw (h.nc _ _ _ g1 hb))]
   exact g2
 aU:=h.aU
 lJ:=fun bX y gu=>by
  obtain⟨g1,z,g2⟩:=h.lJ bX y gu
  refine⟨g1,?_⟩
  simp only[aA.cA]
  split
  ·exact⟨_,rfl⟩
  ·exact⟨z,g2⟩
 lj:=h.lj
 ld:=h.ld
 nc:=h.nc
 b7:=h.b7
 bF:=h.bF
theorem eW.start (H:aA):eW H ⟨[],[]⟩ .new H where
 base:=HSub.refl H
 aU:=fun _ _ _ h=>by cases h
 tok:=fun _ _ h=>by cases h
 lj:=fun _ _ h=>by simp at h
 lJ:=fun _ _ h=>by simp at h
 ld:=fun _ _ _ h=>by simp at h
 nc:=fun _ _ _ h=>by simp at h
 b7:=rfl
 bF:=rfl
theorem q1: ∀(b:List UInt8),fP (b.map fun c=>[I.int .u8 c.toNat])=true
 |[]=>rfl
 | _::b=>by simp only[List.map_cons,fP,b3,I.flat,q1 b]; rfl
theorem RE {size:Nat}{a cp:I}{rows:List (List I)}(h:aN s a cp) (ag:rowsOf size a=some rows): ∃gC,rowsOf size cp=some gC∧cn s rows gC:=by
 cases a<;>simp only[rowsOf,reduceCtorEq]at ag
 case str b=>
  simp only[aN]at h
  subst h
  refine⟨rows,ag,?_⟩
  split at ag
  ·simp only[Option.some.injEq]at ag
   subst ag
   exact (rG _ (q1 b) _).2 rfl
  ·cases ag
 case dQ v=>
  simp only[aN]at h
  subst h
  refine⟨rows,ag,?_⟩
  split at ag
  ·rename_i e
   cases e
  ·rename_i e
   cases e
  ·cases ag
   simp [cn]
  ·rename_i e
   cases e
  ·cases ag
 case ay n l=>
  simp only[aN]at h
  obtain⟨b8,rfl,J⟩:=h
  split at ag
  ·rename_i e
   simp only[Option.some.injEq]at ag
   subst ag
   exact⟨b8,by simp only[rowsOf,if_pos e],J⟩
  ·cases ag
 case own t n l=>
  simp only[aN]at h
  obtain⟨x,b8,aw,rfl,J⟩:=h
  split at ag
  ·rename_i e
   simp only[Option.some.injEq]at ag
   subst ag
   exact⟨b8,by simp only[rowsOf,if_pos e],J⟩
  ·cases ag
end
mutual
def I.av:I→I
 | .own _ n rows=> .ay n rows
 | .agg cs=> .agg (jU cs)
 | .di cs=> .di (jU cs)
 | .ew=> .ew
 | .bool b=> .bool b
 | .int k n=> .int k n
 | .str b=> .str b
 | .dQ v=> .dQ v
 | .ptr b o=> .ptr b o
 | .ay n rows=> .ay n rows
 | .ez t v=> .ez t v
 | .mp t v k=> .mp t v k
 | .dO r o=> .dO r o
 | .fn f c=> .fn f c
 | .gW t v=> .gW t v
def jU:List I→List I
 |[]=>[]
 |a::az=>a.av::jU az
end
mutual
theorem z1 {s:bt}{m:Mem}: ∀(a cp:I),aN s a cp→a.av.flat=true→∀v,aR m cp v→aR m a.av v
 | .own t n rows,cp,h,aW,v,af=>by
  simp only[I.av,I.flat]at aW ⊢
  simp only[aN]at h
  obtain⟨x,l,_,rfl,J⟩:=h
  have:=(rG rows aW l).1 J
  subst this
  simp only[aR]at af ⊢
  exact af.1
 | .agg cs,cp,h,aW,v,af=>by
  simp only[I.av,I.flat]at aW ⊢
  simp only[aN]at h
  obtain⟨l,rfl,J⟩:=h
  simp only[aR]at af ⊢
  obtain⟨r4,ar,ax⟩:=af
  exact⟨r4,ar,GK cs l J aW r4 ax⟩
 | .di cs,cp,h,aW,v,af=>by
  simp only[I.av,I.flat]at aW ⊢
  simp only[aN]at h
  obtain⟨l,rfl,J⟩:=h
  simp only[aR]at af ⊢
  obtain⟨r4,ar,ax⟩:=af
  exact⟨r4,ar,GK cs l J aW r4 ax⟩
 | .ew,cp,h,aW,v,af=>by simp only[I.av,aR]
 | .bool b,cp,h,aW,v,af=>by simp only[I.av]at aW ⊢; rw[I.lC _ aW]at h; subst h; exact af
 | .int k n,cp,h,aW,v,af=>by simp only[I.av]at aW ⊢; rw[I.lC _ aW]at h; subst h; exact af
 | .str b,cp,h,aW,v,af=>by simp only[I.av]at aW ⊢; rw[I.lC _ aW]at h; subst h; exact af
 | .dQ b,cp,h,aW,v,af=>by simp only[I.av]at aW ⊢; rw[I.lC _ aW]at h; subst h; exact af
 | .ptr b o,cp,h,aW,v,af=>by simp only[I.av,I.flat]at aW; cases aW
 | .ay n rows,cp,h,aW,v,af=>by simp only[I.av]at aW ⊢; rw[I.lC _ aW]at h; subst h; exact af
 | .ez t bg,cp,h,aW,v,af=>by simp only[I.av,I.flat]at aW; cases aW
 | .mp t bg k,cp,h,aW,v,af=>by simp only[I.av,I.flat]at aW; cases aW
 | .dO r o,cp,h,aW,v,af=>by simp only[I.av]at aW ⊢; rw[I.lC _ aW]at h; subst h; exact af
 | .fn f c,cp,h,aW,v,af=>by simp only[I.av]at aW ⊢; rw[I.lC _ aW]at h; subst h; exact af
 | .gW t x,cp,h,aW,v,af=>by simp only[I.av]at aW ⊢; rw[I.lC _ aW]at h; subst h; exact af
theorem GK {s:bt}{m:Mem}: ∀(az l:List I),bs s az l→b3 (jU az)=true→∀r4,aS m l r4→aS m (jU az) r4
 |[],l,h,_,r4,af=>by
  simp only[bs]at h
  subst h
  simpa only[jU] using af
 |a::az,l,h,aW,r4,af=>by
  simp only[bs]at h
  obtain⟨cp,b8,rfl,J,aa⟩:=h
  simp only[jU,b3,Bool.and_eq_true]at aW ⊢
  simp only[aS]at af ⊢
  obtain⟨v,ay,ar,ax,cw⟩:=af
  exact⟨v,ay,ar,z1 a cp J aW.1 v ax,GK az b8 aa aW.2 ay cw⟩
end
theorem CI {s:bt}: ∀(az l:List I),bs s az l→b3 (jU az)=true→e7 l (jU az)
 |[],l,h,_=>by
  simp only[bs]at h
  subst h
  simp only[jU,e7]
 |a::az,l,h,aW=>by
  simp only[bs]at h
  obtain⟨cp,b8,rfl,J,aa⟩:=h
  simp only[jU,b3,Bool.and_eq_true]at aW ⊢
  simp only[e7]
  exact⟨_,_,rfl,fun m v af=>z1 a cp J aW.1 v af,CI az b8 aa aW.2⟩
def qq (env:Env) (parts:List (Nat×aK)):List (List I):=(parts.map fun p=>bp env p.2).map I.cells
def rr (env:Env) (size:Nat) (parts:List (Nat×aK)):Bool:=(parts.map fun p=>bp env p.2).all I.eo&&((qq env parts).all (fun r=>r.length==size)&&((qq env parts).flatten.all I.one&& !(size==0)))
abbrev pr:=FuncId→List I→a1→Option (I×a1)
def chunks (size:Nat):Nat→List I→List (List I)
 |0,_=>[]
 |n+1,l=>l.take size::chunks size n (l.drop size)
theorem HY (size:Nat): ∀(n:Nat) (l:List I),l.length=n*size→(chunks size n l).flatten=l∧(∀r∈chunks size n l,r.length=size)∧(chunks size n l).length=n
 |0,l,h=>by
  have:l=[]:=List.length_eq_zero_iff.1 (by omega)
  subst this
  simp [chunks]
 |n+1,l,h=>by
  have ap:size≤l.length:=by rw[h,Nat.add_mul]; omega
  obtain⟨ar,ax,cw⟩:=HY size n (l.drop size) (by rw[List.length_drop,h,Nat.add_mul]; omega)
  refine⟨by simp only[chunks,List.flatten_cons,ar,List.take_append_drop],fun r ag=> ?_,by simp only[chunks,List.length_cons,cw]⟩
  simp only[chunks,List.mem_cons]at ag
  rcases ag with rfl|ag
  ·rw[List.length_take]; omega
  ·exact ax r ag
theorem HZ {s:bt}(size:Nat): ∀(n:Nat) (l b8:List I),bs s l b8→cn s (chunks size n l) (chunks size n b8)
 |0,_,_,_=>by simp [chunks,cn]
 |n+1,l,b8,h=>by simp only[chunks,cn]; exact⟨_,_,rfl,h.take size,HZ size n _ _ (h.drop size)⟩
def tV (c:a1) (b o n:Nat) (x:I):Option (I×a1):=
 match c.H.aU b with
 |some (T,cs)=>bif (x.eo&&x.cells.length==n)&&(Nat.ble (o+n) cs.length&&x.cells.all I.one) then some (.undef,c.ch b T (gx cs o x.cells)) else none
 |none=>none
def AD (c:a1) (t bg k n:Nat) (x:I):Option (I×a1):=
 match c.H.tok t with
 |some ⟨T,size,0,iE,some rows⟩=>
  bif (iE==bg&&(x.eo&&x.cells.length==n))&&((Nat.ble (k+n) rows.flatten.length&&x.cells.all I.one)&&rows.flatten.length==rows.length*size) then some (.undef,c.cA t (.bS T size bg (chunks size rows.length (gx rows.flatten k x.cells)))) else none
 | _=>none
def Di (c:a1) (T size bytes:Nat) (x:I) (new:List (List I)):Option (I×a1):=
 match x with
 | .dQ (.slice none 0 0)=>bif Nat.ble (new.length*bytes) 140737488355328&&(Nat.ble new.length maxLen&& !(size==0)) then some (.own c.bF size new,c.ig (.bJ T size new.length)) else none
 | .own t kn rows=>match c.H.tok t with
  |some ⟨cQ,z,n,bg,none⟩=>bif (cQ==T&&(z==size&&(n==rows.length&&(bg==rows.length&&kn==size))))&&(Nat.ble ((rows.length+new.length)*bytes) 140737488355328&&Nat.ble (rows.length+new.length) maxLen) then some (.own t size (rows++new),c.cA t (.bJ T size (rows.length+new.length))) else none
  | _=>none
 | _=>none
def HN (c:a1) (T size bytes:Nat) (x:I) (new:List (List I)):Option (I×a1):=
 match x with
 | .dQ (.slice none 0 0)=>bif Nat.ble (new.length*bytes) 140737488355328&&(Nat.ble new.length maxLen&& !(size==0)) then some (.ez c.bF 0,c.ig (.bS T size 0 new)) else none
 | .ez t bg=>match c.H.tok t with
  |some ⟨cQ,z,0,iE,some rows⟩=>bif (cQ==T&&(z==size&&iE==bg))&&(Nat.ble ((rows.length+new.length)*bytes) 140737488355328&&Nat.ble (rows.length+new.length) maxLen) then some (.ez t (bg+1),c.cA t (.bS T size (bg+1) (rows++new))) else none
  | _=>none
 | _=>none
def Ib (c:a1) (env:Env) (size t bg:Nat) (cz ai:Option aK):Option (I×a1):=
 match c.H.tok t with
 |some ⟨T,kn,0,iE,some rows⟩=>match nD env 0 cz,nD env rows.length ai with
  |some 0,some h=>bif (iE==bg&&kn==size)&&Nat.ble h rows.length then some (.ez t (bg+1),c.cA t (.bS T size (bg+1) (rows.take h))) else none
  | _,_=>none
 | _=>none
def mV (env:Env) (b j:Nat):Bool:=
 match env.get j with
 | .ptr dU 0=> !(dU==b)
 | _=>false
def mW (cvs:List FuncId) (cl:pr) (op:bj) (env:Env) (c:a1):Option (I×a1):=
 match op with
 | .box T x=>bif (bp env x).eo&&(bp env x).cells.all I.one then some (.ptr c.b7 0,c.pw T (bp env x).cells) else none
 | .alloc T zero=>bif b3 zero&&zero.all I.one then some (.ptr c.b7 0,c.pw T zero) else none
 | .ml T size n zero parts=>bif rr env size parts then some (.own c.bF size (qq env parts),c.ig (.bJ T size (qq env parts).length)) else none
 | .mj T size n zero parts=>bif rr env size parts then some (.ez c.bF 0,c.ig (.bS T size 0 (qq env parts))) else none
 | .l4 T size bytes zero x=>match bp env x with
  | .int _ (.ofNat n)=>bif Nat.ble (bytes*n) 281474976710656&&(Nat.ble n maxLen&&(b3 zero&&(zero.all I.one&&(zero.length==size&& !(size==0))))) then some (.ez c.bF 0,c.ig (.bS T size 0 (List.replicate n zero))) else none
  | _=>none
 | .append T size bytes x y=>match rowsOf size (bp env y) with
  |some new=>Di c T size bytes (bp env x) new
  |none=>none
 | .nz T size bytes x y=>match rowsOf size (bp env y) with
  |some new=>HN c T size bytes (bp env x) new
  |none=>none
 | .nW size x cz ai=>match bp env x with
  | .ez t bg=>Ib c env size t bg cz ai
  | _=>none
 | .store n a v=>match bp env a with
  | .ptr b o=>tV c b o n (bp env v)
  | .mp t bg k=>AD c t bg k n (bp env v)
  | _=>none
 | .fh e6 others n a v=>match env.get e6,bp env a with
  | .ptr b 0,.ptr bX o=>bif bX==b&&others.all (mV env b) then tV c b o n (bp env v) else none
  | _,_=>none
 | .call f args=>cl f (args.map (bp env)) c
 | .fw x args=>match bp env x with
  | .fn f cap=>bif cvs.contains f then cl f (args.map (bp env)++cap) c else bif Nat.ble hW f&&cvs.contains (f-hW) then cl (f-hW) (cap++args.map (bp env)) c else none
  | _=>none
 |op=>(fj op env c.H).map fun v=>(v,c)
def S2 (P:Program) (cl:pr):Prop:=∀f az c v cB,cl f az c=some (v,cB)→∀H0 s iu H,bs s az iu→eW H0 s c H→jr P f iu H fun o aF=> ∃bM bT,bt.et s bM∧o= .ret bT∧aN bM v bT∧eW H0 bM cB aF
variable {P:Program}{s:bt}{env bb:Env}{H0 H:aA}{c cB:a1}{K Rp:I→aA→Prop}{v:I}
theorem iV.bJ {T size n:Nat}:iV s (.bJ T size n) (.bJ T size n):=⟨rfl,rfl,rfl,rfl,rfl⟩
theorem iV.bS {T size bg:Nat}{rows gC:List (List I)}(h:cn s rows gC):iV s (.bS T size bg rows) (.bS T size bg gC):=⟨rfl,rfl,rfl,rfl,gC,rfl,h⟩
theorem e7.tl: ∀(l:List I),e7 l l
 |[]=>by simp only[e7]
 |a::l=>by simp only[e7]; exact⟨_,_,rfl,eI.refl a,e7.tl l⟩
theorem H9 (he:gK s env bb){size:Nat}{parts:List (Nat×aK)}(h:rr env size parts=true):cn s (qq env parts) (j5 bb parts)∧(j5 bb parts).all (fun r=>r.length==size)=true∧(j5 bb parts).flatten.all I.one=true∧size≠0:=by
 simp only[rr,Bool.and_eq_true,Bool.not_eq_true',beq_eq_false_iff_ne]at h
 obtain⟨J,aa,au,bn⟩:=h
 have hb:=C7 he parts J
 exact⟨hb,cn.F6 hb aa,bs.xv (cn.flatten hb) au,bn⟩
theorem cn.aB9 {size n:Nat}{zero:List I}(h:b3 zero=true):cn s (List.replicate n zero) (List.replicate n zero):=by
 induction n with
 |zero=>simp [cn]
 |succ n cv=>simp only[List.replicate_succ,cn]; exact⟨_,_,rfl,(nI zero h _).2 rfl,cv⟩
theorem Ie {b o n x:Nat}{a cp:I}(aP:aN s a cp) (hb:s.b[b]? =some x) (ag:eW H0 s c H) (h:tV c b o n a=some (v,cB)): ∃T cs,H.aU x=some (T,cs)∧cp.cells.length=n∧o+n≤cs.length∧cp.cells.all I.one=true∧v= .undef∧eW H0 s cB (H.ch x T (gx cs o cp.cells)):=by
 unfold tV at h
 split at h
 ·rename_i T cs e
  obtain⟨y,c3,g1,g2,g3⟩:=ag.aU _ _ _ e
  rw[hb]at g1
  cases g1
  cases ah:((a.eo&&a.cells.length==n)&&(Nat.ble (o+n) cs.length&&a.cells.all I.one)) with
  |false=>rw[ah]at h; cases h
  |true=>
   rw[ah]at h
   simp only[cond_true,Option.some.injEq,Prod.mk.injEq]at h
   obtain⟨rfl,rfl⟩:=h
   simp only[Bool.and_eq_true,beq_iff_eq,Nat.ble_eq]at ah
   obtain⟨⟨J,aa⟩,au,bn⟩:=ah
   obtain⟨bC,bA⟩:=aP.eo J
   exact⟨T,c3,g2,by rw[bs.length bA,aa],by rw[bs.length g3]; exact au,bs.xv bA bn,rfl,ag.ch hb (g3.gx bA o)⟩
 ·cases h
theorem Wx {t bg k n x:Nat}{a cp:I}(aP:aN s a cp) (aO:s.t[t]? =some x) (ag:eW H0 s c H) (h:AD c t bg k n a=some (v,cB)): ∃T size rows gC,H.tok x=some (.bS T size bg rows)∧cp.cells.length=n∧k+n≤rows.flatten.length∧cp.cells.all I.one=true∧gC.flatten=gx rows.flatten k cp.cells∧(∀r∈gC,r.length=size)∧gC.length=rows.length∧v= .undef∧eW H0 s cB (H.cA x (.bS T size bg gC)):=by
 unfold AD at h
 split at h
 ·rename_i T size iE rows e
  obtain⟨y,l,g1,g2,g3⟩:=ag.bS e
  rw[aO]at g1
  cases g1
  cases ah:((iE==bg&&(a.eo&&a.cells.length==n))&&((Nat.ble (k+n) rows.flatten.length&&a.cells.all I.one)&&rows.flatten.length==rows.length*size)) with
  |false=>rw[ah]at h; cases h
  |true=>
   rw[ah]at h
   simp only[cond_true,Option.some.injEq,Prod.mk.injEq]at h
   obtain⟨rfl,rfl⟩:=h
   simp only[Bool.and_eq_true,beq_iff_eq,Nat.ble_eq]at ah
   obtain⟨⟨rfl,J,aa⟩,⟨au,bn⟩,bL⟩:=ah
   obtain⟨bC,bA⟩:=aP.eo J
   have aH:l.flatten.length=l.length*size:=by rw[bs.length g3.flatten,cn.length g3]; exact bL
   have aC:k+n≤l.flatten.length:=by rw[bs.length g3.flatten]; exact au
   have a6:cp.cells.length=n:=by rw[bs.length bA,aa]
   have ap:(gx l.flatten k cp.cells).length=l.length*size:=by
    unfold gx
    simp only[List.length_append,List.length_take,List.length_drop]
    omega
   obtain⟨ar,ax,cw⟩:=HY size l.length _ ap
   refine⟨T,size,l,chunks size l.length (gx l.flatten k cp.cells),g2,a6,aC,bs.xv bA bn,ar,ax,cw,rfl,ag.cA aO (iV.bS ?_)⟩
   rw[cn.length g3]
   exact HZ size _ _ _ (g3.flatten.gx bA k)
 ·cases h
theorem Wy {cvs:List FuncId}{cl:pr}(rQ:S2 P cl) (yP: ∀f∈cvs,c9 P f=true) (he:gK s env bb) (ag:eW H0 s c H){op:bj}(h:mW cvs cl op env c=some (v,cB))
  (dv: ∀bM bT aF,bt.et s bM→aN bM v bT→eW H0 bM cB aF→K bT aF):ie P op bb H K Rp:=by
 unfold mW at h
 split at h
 ·rename_i T x
  cases ah:((bp env x).eo&&(bp env x).cells.all I.one) with
  |false=>rw[ah]at h; cases h
  |true=>
   rw[ah]at h
   simp only[cond_true,Option.some.injEq,Prod.mk.injEq]at h
   obtain⟨rfl,rfl⟩:=h
   rw[Bool.and_eq_true]at ah
   obtain⟨bC,bA⟩:=(kE he x).eo ah.1
   refine .ia _ (.box (bs.xv bA ah.2)) fun y aZ=>dv _ _ _ (bt.zc s y) ?_ (ag.pw bA aZ)
   simp only[aN,D.val]
   exact⟨y,by rw[ag.b7]; exact pz,rfl⟩
 ·rename_i T zero
  cases ah:(b3 zero&&zero.all I.one) with
  |false=>rw[ah]at h; cases h
  |true=>
   rw[ah]at h
   simp only[cond_true,Option.some.injEq,Prod.mk.injEq]at h
   obtain⟨rfl,rfl⟩:=h
   rw[Bool.and_eq_true]at ah
   refine .ia _ (.alloc ah.2) fun y aZ=>dv _ _ _ (bt.zc s y) ?_ (ag.pw ((nI zero ah.1 _).2 rfl) aZ)
   simp only[aN,D.val]
   exact⟨y,by rw[ag.b7]; exact pz,rfl⟩
 ·rename_i T size n zero parts
  cases ah:rr env size parts with
  |false=>rw[ah]at h; cases h
  |true=>
   rw[ah]at h
   simp only[cond_true,Option.some.injEq,Prod.mk.injEq]at h
   obtain⟨rfl,rfl⟩:=h
   obtain⟨bC,bA,cO,fC⟩:=H9 he ah
   refine .ia _ (.ml rfl bA cO fC) fun y aZ=>dv _ _ _ (bt.l0 s y) ?_ (ag.ig (by rw[cn.length bC]; exact iV.bJ) aZ)
   simp only[aN,D.val]
   exact⟨y,_,by rw[ag.bF]; exact pz,rfl,cn.mono (bt.l0 s y) _ _ bC⟩
 ·rename_i T size n zero parts
  cases ah:rr env size parts with
  |false=>rw[ah]at h; cases h
  |true=>
   rw[ah]at h
   simp only[cond_true,Option.some.injEq,Prod.mk.injEq]at h
   obtain⟨rfl,rfl⟩:=h
   obtain⟨bC,bA,cO,fC⟩:=H9 he ah
   refine .ia _ (.mj rfl bA cO fC) fun y aZ=>dv _ _ _ (bt.l0 s y) ?_ (ag.ig (iV.bS bC) aZ)
   simp only[aN,D.val]
   exact⟨y,by rw[ag.bF]; exact pz,rfl⟩
 ·rename_i T size bytes zero x
  split at h
  ·rename_i k n e
   have ab:=dW he e
   simp only[aN]at ab
   cases ah:(Nat.ble (bytes*n) 281474976710656&&(Nat.ble n maxLen&&(b3 zero&&(zero.all I.one&&(zero.length==size&& !(size==0)))))) with
   |false=>rw[ah]at h; cases h
   |true=>
    rw[ah]at h
    simp only[cond_true,Option.some.injEq,Prod.mk.injEq]at h
    obtain⟨rfl,rfl⟩:=h
    simp only[Bool.and_eq_true,Nat.ble_eq,beq_iff_eq,Bool.not_eq_true',beq_eq_false_iff_ne]at ah
    obtain⟨J,aa,au,bn,bL,cq⟩:=ah
    refine .ia _ (.l4 ab J aa bn bL cq) fun y aZ=>dv _ _ _ (bt.l0 s y) ?_ (ag.ig (iV.bS (cn.aB9 (size:=size) au)) aZ)
    simp only[aN,D.val]
    exact⟨y,by rw[ag.bF]; exact pz,rfl⟩
  ·cases h
 ·rename_i T size bytes x y
  split at h
  ·rename_i new e
   obtain⟨BK,bC,bA⟩:=RE (kE he y) e
   have ab:=kE he x
   unfold Di at h
   split at h
   ·rename_i ar
    rw[ar]at ab
    simp only[aN]at ab
    cases ah:(Nat.ble (new.length*bytes) 140737488355328&&(Nat.ble new.length maxLen&& !(size==0))) with
    |false=>rw[ah]at h; cases h
    |true=>
     rw[ah]at h
     simp only[cond_true,Option.some.injEq,Prod.mk.injEq]at h
     obtain⟨rfl,rfl⟩:=h
     simp only[Bool.and_eq_true,Nat.ble_eq,Bool.not_eq_true',beq_eq_false_iff_ne]at ah
     refine .ia _ (.ql ab bC (by rw[cn.length bA]; exact ah.1) (by rw[cn.length bA]; exact ah.2.1) ah.2.2) fun z aB=>dv _ _ _ (bt.l0 s z) ?_ (ag.ig (by rw[cn.length bA]; exact iV.bJ) aB)
     simp only[aN,D.val]
     exact⟨z,_,by rw[ag.bF]; exact pz,rfl,cn.mono (bt.l0 s z) _ _ bA⟩
   ·rename_i t kn rows ar
    rw[ar]at ab
    simp only[aN]at ab
    obtain⟨z,l,g1,g2,g3⟩:=ab
    split at h
    ·rename_i cQ GQ n bg ax
     obtain⟨pq,da,f1,f2,f3⟩:=ag.tok _ _ ax
     rw[g1]at f1
     cases f1
     cases ah:((cQ==T&&(GQ==size&&(n==rows.length&&(bg==rows.length&&kn==size))))&&(Nat.ble ((rows.length+new.length)*bytes) 140737488355328&&Nat.ble (rows.length+new.length) maxLen)) with
     |false=>rw[ah]at h; cases h
     |true=>
      rw[ah]at h
      simp only[cond_true,Option.some.injEq,Prod.mk.injEq]at h
      obtain⟨rfl,rfl⟩:=h
      simp only[Bool.and_eq_true,Nat.ble_eq,beq_iff_eq]at ah
      obtain⟨⟨rfl,rfl,rfl,rfl,rfl⟩,c1,c2⟩:=ah
      have ai:da= .bJ cQ kn l.length:=by
       obtain⟨fN,a2,a3,a4,a5⟩:=f3
       cases da
       simp only at fN a2 a3 a4 a5
       subst fN a2 a3 a4 a5
       rw[cn.length g3]
       rfl
      subst ai
      refine .append g2 f2 bC (by rw[cn.length bA,cn.length g3]; exact c1) (by rw[cn.length bA,cn.length g3]; exact c2) (dv _ _ _ (bt.et.refl s) ?_ (ag.cA g1 (by rw[cn.length bA,cn.length g3]; exact iV.bJ)))
      simp only[aN]
      exact⟨z,_,g1,rfl,g3.append bA⟩
    ·cases h
   ·cases h
  ·cases h
 ·rename_i T size bytes x y
  split at h
  ·rename_i new e
   obtain⟨BK,bC,bA⟩:=RE (kE he y) e
   have ab:=kE he x
   unfold HN at h
   split at h
   ·rename_i ar
    rw[ar]at ab
    simp only[aN]at ab
    cases ah:(Nat.ble (new.length*bytes) 140737488355328&&(Nat.ble new.length maxLen&& !(size==0))) with
    |false=>rw[ah]at h; cases h
    |true=>
     rw[ah]at h
     simp only[cond_true,Option.some.injEq,Prod.mk.injEq]at h
     obtain⟨rfl,rfl⟩:=h
     simp only[Bool.and_eq_true,Nat.ble_eq,Bool.not_eq_true',beq_eq_false_iff_ne]at ah
     refine .ia _ (.u2 ab bC (by rw[cn.length bA]; exact ah.1) (by rw[cn.length bA]; exact ah.2.1) ah.2.2) fun z aB=>dv _ _ _ (bt.l0 s z) ?_ (ag.ig (iV.bS bA) aB)
     simp only[aN,D.val]
     exact⟨z,by rw[ag.bF]; exact pz,rfl⟩
   ·rename_i t bg ar
    rw[ar]at ab
    simp only[aN]at ab
    obtain⟨z,g1,g2⟩:=ab
    split at h
    ·rename_i cQ GQ iE rows ax
     obtain⟨pq,l,f1,f2,f3⟩:=ag.bS ax
     rw[g1]at f1
     cases f1
     cases ah:((cQ==T&&(GQ==size&&iE==bg))&&(Nat.ble ((rows.length+new.length)*bytes) 140737488355328&&Nat.ble (rows.length+new.length) maxLen)) with
     |false=>rw[ah]at h; cases h
     |true=>
      rw[ah]at h
      simp only[cond_true,Option.some.injEq,Prod.mk.injEq]at h
      obtain⟨rfl,rfl⟩:=h
      simp only[Bool.and_eq_true,Nat.ble_eq,beq_iff_eq]at ah
      obtain⟨⟨rfl,rfl,rfl⟩,c1,c2⟩:=ah
      refine .nz g2 f2 bC (by rw[cn.length bA,cn.length f3]; exact c1) (by rw[cn.length bA,cn.length f3]; exact c2) (dv _ _ _ (bt.et.refl s) ?_ (ag.cA g1 (iV.bS (f3.append bA))))
      simp only[aN]
      exact⟨z,g1,rfl⟩
    ·cases h
   ·cases h
  ·cases h
 ·rename_i size x cz ai
  split at h
  ·rename_i t bg e
   have ab:=dW he e
   simp only[aN]at ab
   obtain⟨z,g1,g2⟩:=ab
   unfold Ib at h
   split at h
   ·rename_i T kn iE rows ax
    obtain⟨pq,l,f1,f2,f3⟩:=ag.bS ax
    rw[g1]at f1
    cases f1
    split at h
    ·rename_i m cw fq
     cases ah:((iE==bg&&kn==size)&&Nat.ble m rows.length) with
     |false=>rw[ah]at h; cases h
     |true=>
      rw[ah]at h
      simp only[cond_true,Option.some.injEq,Prod.mk.injEq]at h
      obtain⟨rfl,rfl⟩:=h
      simp only[Bool.and_eq_true,Nat.ble_eq,beq_iff_eq]at ah
      obtain⟨⟨rfl,rfl⟩,c1⟩:=ah
      refine .nW g2 f2 (wH he cw) (by rw[cn.length f3]; exact wH he fq) (by rw[cn.length f3]; exact c1) (dv _ _ _ (bt.et.refl s) ?_ (ag.cA g1 (iV.bS (f3.take m))))
      simp only[aN]
      exact⟨z,g1,rfl⟩
    ·cases h
   ·cases h
  ·cases h
 ·rename_i n a x
  split at h
  ·rename_i b o e
   have aP:=dW he e
   simp only[aN]at aP
   obtain⟨z,g1,g2⟩:=aP
   obtain⟨T,cs,f1,f2,f3,f4,rfl,f6⟩:=Ie (kE he x) g1 ag h
   exact .store g2 f1 f2 f3 f4 (dv _ _ _ (bt.et.refl s) (by simp only[aN]) f6)
  ·rename_i t bg k e
   have aP:=dW he e
   simp only[aN]at aP
   obtain⟨z,g1,g2⟩:=aP
   obtain⟨T,size,rows,gC,f1,f2,f3,f4,f5,f6,f7,rfl,f9⟩:=Wx (kE he x) g1 ag h
   exact .uO g2 f1 f2 f3 f4 f5 f6 f7 (dv _ _ _ (bt.et.refl s) (by simp only[aN]) f9)
  ·cases h
 ·rename_i e6 others n a x
  split at h
  ·rename_i b bX o bE e
   have aP:=dW he e
   have hm:=he e6
   rw[bE]at hm
   simp only[aN]at aP hm
   obtain⟨z,g1,g2⟩:=aP
   obtain⟨z0,g3,g4⟩:=hm
   cases ah:(bX==b&&others.all (mV env b)) with
   |false=>rw[ah]at h; cases h
   |true=>
    rw[ah,cond_true]at h
    simp only[Bool.and_eq_true,beq_iff_eq,List.all_eq_true]at ah
    obtain⟨rfl,ah⟩:=ah
    rw[g1]at g3
    cases g3
    obtain⟨T,cs,f1,f2,f3,f4,rfl,f6⟩:=Ie (kE he x) g1 ag h
    refine .fh g4 (fun j bq=> ?_) g2 f1 f2 f3 f4 (dv _ _ _ (bt.et.refl s) (by simp only[aN]) f6)
    have aa:=ah j bq
    unfold mV at aa
    have au:=he j
    split at aa
    ·rename_i dU ax
     rw[ax]at au
     simp only[aN]at au
     obtain⟨z2,cI,c8⟩:=au
     refine⟨z2,c8,fun bh=> ?_⟩
     subst bh
     have:=ag.ld _ _ _ cI g1
     subst this
     simp at aa
    ·cases aa
  ·cases h
 ·rename_i f args
  refine .call _ (e7.tl _) (rQ f _ c v cB h H0 s _ H (mU he args) ag) fun o aF bG=> ?_
  obtain⟨bM,bT,cI,rfl,ep,gw⟩:=bG
  exact dv bM bT aF cI ep gw
 ·rename_i x args
  split at h
  ·rename_i f cap e
   have ab:=dW he e
   simp only[aN]at ab
   obtain⟨l,g1,g2⟩:=ab
   cases ah:cvs.contains f with
   |false=>
    rw[ah,cond_false]at h
    cases bw:(Nat.ble hW f&&cvs.contains (f-hW)) with
    |false=>rw[bw]at h; cases h
    |true=>
     rw[bw,cond_true]at h
     simp only[Bool.and_eq_true]at bw
     have hle:=Nat.le_of_ble_eq_true bw.1
     have DO:x.aJ bb= .fn (f-hW+hW) l:=by rw[Nat.sub_add_cancel hle]; exact g1
     refine .sJ _ DO (yP (f-hW) (by simpa using bw.2)) (e7.tl _) (rQ (f-hW) _ c v cB h H0 s _ H (g2.append (mU he args)) ag) fun o aF bG=> ?_
     obtain⟨bM,bT,cI,rfl,ep,gw⟩:=bG
     exact dv bM bT aF cI ep gw
   |true=>
    rw[ah,cond_true]at h
    refine .fw _ g1 (yP f (by simpa using ah)) (e7.tl _) (rQ f _ c v cB h H0 s _ H ((mU he args).append g2) ag) fun o aF bG=> ?_
    obtain⟨bM,bT,cI,rfl,ep,gw⟩:=bG
    exact dv bM bT aF cI ep gw
  ·cases h
 ·simp only[Option.map_eq_some_iff,Prod.mk.injEq]at h
  obtain⟨v0,g1,rfl,rfl⟩:=h
  obtain⟨bT,g2,g3⟩:=Wv (P:=P) he ag.toHR g1
  exact .ia _ g2 fun x _=>dv s bT H (bt.et.refl s) g3 ag
def AA (cl:pr) (f:FuncId) (az:List I):Option I:=
 bif b3 (jU az) then match cl f (jU az) .new with
  |some (v,_)=>bif v.av.flat then some v.av else none
  |none=>none
 else none
def lG:bj→Bool
 | .hz _ _=>true
 | .jq _ _=>true
 | .qY _ _ _ _=>true
 | _=>false
def yx (cvs:List FuncId) (cl:pr):List bP→Env→a1→Option (List I×Env×a1)
 |[],env,c=>some ([],env,c)
 |⟨d,g,op⟩::l,env,c=>match wanted ⟨d,g,op⟩ env with
  |none=>none
  |some false=>match yx cvs cl l (env.put d .undef) c with
   |some (anns,e,c2)=>some (bif lG op then .undef::anns else anns,e,c2)
   |none=>none
  |some true=>match op with
   | .hz f args=>match AA cl f (args.map (bp env)) with
    |some r=>match yx cvs cl l (env.put d r) c with
     |some (anns,e,c2)=>some (r::anns,e,c2)
     |none=>none
    |none=>none
   | .jq x args=>match bp env x with
    | .fn f cap=>bif cvs.contains f then match AA cl f (args.map (bp env)++cap) with
     |some r=>match yx cvs cl l (env.put d r) c with
      |some (anns,e,c2)=>some (r::anns,e,c2)
      |none=>none
     |none=>none
     else none
    | _=>none
   | .qY _ _ _ _=>none
   |op=>match mW cvs cl op env c with
    |some (v,c1)=>yx cvs cl l (env.put d v) c1
    |none=>none
section
variable {P:Program}{s:bt}{env bb:Env}{H0 H:aA}{c cB:a1}{Rp:I→aA→Prop}
theorem zW (he:gK s env bb){i:bP}{b:Bool}(h:wanted i env=some b):wanted i bb=some b:=by
 obtain⟨d,g,op⟩:=i
 cases g with
 |none=>exact h
 |some p=>
  obtain⟨j,want⟩:=p
  have bq:=he j
  simp only[wanted]at h ⊢
  split at h
  ·rename_i x e
   rw[e]at bq
   simp only[aN]at bq
   rw[bq]
   exact h
  ·rename_i e
   rw[e]at bq
   simp only[aN]at bq
   rw[bq]
   exact h
  ·cases h
end
end Go.bc
namespace Go.bc
open Go
inductive qc where
 |c (e:bu)
 |aU (id:Nat)
 |h8 (body:bu)
def cpop (id:Nat):List qc→Option (List qc)
 | .aU j::k=>bif j==id then some k else cpop id k
 | _::k=>cpop id k
 |[]=>none
def tU (env:Env) (C:aA):bk→Option I
 | .t n=>some (env.get n)
 | .cell agg n a=>match env.get a with
  | .ptr b o=>match C.aU b with
   |some (_,cs)=>n9 cs agg o n
   |none=>none
  | .dO row o=>n9 row agg o n
  | _=>none
def tT (env:Env) (C:aA):List bk→Option (List I)
 |[]=>some []
 |r::aL=>match tU env C r,tT env C aL with
  |some v,some l=>some (v::l)
  | _,_=>none
def oa (aL:List bk) (env:Env) (C:aA):Option I:=
 match aL with
 |[r]=>tU env C r
 |aL=>(tT env C aL).map .di
abbrev tM:=FuncId→Option (bu×List bk×Nat)
abbrev Lib:=FuncId→List I→Option I
def run (fH:tM) (fD:Lib) (cvs:List FuncId):Nat→List bk→List qc→Env→a1→Option (I×a1)
 |0,_,_,_,_=>none
 |n+1,aL,k,env,c=>
  match k with
  |[]=>(oa aL env c.H).map fun v=>(v,c)
  | .aU _::k=>run fH fD cvs n aL k env c
  | .h8 body::k=>run fH fD cvs n aL (.c body:: .h8 body::k) env c
  | .c e::k=>match e with
   | .ret=>(oa aL env c.H).map fun v=>(v,c)
   | .skip=>run fH fD cvs n aL k env c
   | .seq a b=>run fH fD cvs n aL (.c a:: .c b::k) env c
   | .block id b=>run fH fD cvs n aL (.c b:: .aU id::k) env c
   | .exit id=>match cpop id k with
    |some dY=>run fH fD cvs n aL dY env c
    |none=>none
   | .cond x a b=>match bp env x with
    | .bool true=>run fH fD cvs n aL (.c a::k) env c
    | .bool false=>run fH fD cvs n aL (.c b::k) env c
    | _=>none
   | .region ops _=>
    match yx cvs (fun f az c=>match fD f (jU az) with
     |some r=>bif b3 (jU az)&&r.flat then some (r,c) else none
     |none=>match fH f with
      |some (e,aL,m)=>bif az.length==m then run fH fD cvs n aL [.c e] (mw az) c else none
      |none=>none) ops env c with
    |some (_,bb,cB)=>run fH fD cvs n aL k bb cB
    |none=>none
   | .loop body=>run fH fD cvs n aL (.c body:: .h8 body::k) env c
   | .rv _ _ _=>none
section
variable {P:Program}{fH:tM}{fD:Lib}{cvs:List FuncId}{aL:List bk}{v:I}{c1:a1}{H0:aA}{du:bt}
variable {s:bt}{env bb:Env}{H:aA}{c:a1}
theorem H8 (he:gK s env bb) (ag:eW H0 s c H){r:bk}{x:I}(h:tU env c.H r=some x): ∃cY,r.aJ bb H=some cY∧aN s x cY:=by
 cases r with
 |t n=>
  simp only[tU,Option.some.injEq]at h
  subst h
  exact⟨_,rfl,he n⟩
 |cell agg n a=>
  simp only[tU]at h
  have aP:=he a
  split at h
  ·rename_i b o e
   rw[e]at aP
   simp only[aN]at aP
   obtain⟨y,J,aa⟩:=aP
   split at h
   ·rename_i T cs ax
    obtain⟨cY,c3,g1,g2,g3⟩:=ag.aU _ _ _ ax
    rw[J]at g1
    cases g1
    obtain⟨bC,bT,bA,cO⟩:=sN g3 h
    exact⟨bT,by simp only[bk.aJ,bU,aK.aJ,aa,g2,if_pos bC,bA],cO⟩
   ·cases h
  ·rename_i row o e
   rw[e]at aP
   simp only[aN]at aP
   obtain⟨l,aa,J⟩:=aP
   obtain⟨bC,bT,bA,cO⟩:=sN J h
   exact⟨bT,by simp only[bk.aJ,bU,aK.aJ,aa,if_pos bC,bA],cO⟩
  ·cases h
theorem H7 (he:gK s env bb) (ag:eW H0 s c H): ∀(l:List bk) (x:List I),tT env c.H l=some x→∃cY,l.mapM (bk.aJ bb H)=some cY∧bs s x cY
 |[],x,h=>by
  simp only[tT,Option.some.injEq]at h
  subst h
  exact⟨[],rfl,by simp only[bs]⟩
 |r::l,x,h=>by
  simp only[tT]at h
  split at h
  ·rename_i y eH ar ax
   simp only[Option.some.injEq]at h
   subst h
   obtain⟨gz,g1,g2⟩:=H8 he ag ar
   obtain⟨aN8,g3,g4⟩:=H7 he ag l eH ax
   exact⟨gz::aN8,by simp [List.mapM_cons,g1,g3],by simp only[bs]; exact⟨_,_,rfl,g2,g4⟩⟩
  ·cases h
theorem Dm (he:gK s env bb) (ag:eW H0 s c H){l:List bk}{x:I}(h:oa l env c.H=some x): ∃cY,results l bb H=some cY∧aN s x cY:=by
 unfold oa at h
 split at h
 ·exact H8 he ag h
 ·rename_i a6
  simp only[Option.map_eq_some_iff]at h
  obtain⟨y,e,rfl⟩:=h
  obtain⟨gz,g1,g2⟩:=H7 he ag l y e
  refine⟨.di gz,?_,by simp only[aN]; exact⟨_,rfl,g2⟩⟩
  unfold results
  split
  ·rename_i r
   exact absurd rfl (a6 r)
  ·rw[g1]; rfl
theorem ab4: ∀ {az iu:List I},bs s az iu→gK s (mw az) (mw iu):=by
 intro az iu h j
 rw[BC,BC]
 simp only[Nat.zero_le,if_true,Nat.sub_zero]
 cases e:az[j]? with
 |none=>
  simp only[List.getD,e,Option.getD_none,aN]
 |some a=>
  obtain⟨cp,g1,g2⟩:=h.get j a e
  simp only[List.getD,e,g1,Option.getD_some]
  exact g2
theorem e7.RL {m:Mem}: ∀ {az cH:List I}{l:List Value},e7 az cH→aS m az l→aS m cH l
 |[],_,_,h,k=>by simp only[e7]at h; subst h; exact k
 |a::az,_,_,h,k=>by
  simp only[e7]at h
  obtain⟨b,cH,rfl,J,aa⟩:=h
  simp only[aS]at k ⊢
  obtain⟨v,ay,ar,ax,cw⟩:=k
  exact⟨v,ay,ar,J m v ax,e7.RL aa cw⟩
end
end Go.bc
namespace Go.bc
open Go
def mQ (s:bt):Out→Out→Prop
  | .ret a,.ret b=>aN s a b
  | .eR a,.eR b=>aN s a b
  | _,_=>False
def bz (P:Program) (f:FuncId) (az:List I) (c:a1) (Q:Out→a1→Prop):Prop:=
  ∀H0 s iu H,bs s az iu→eW H0 s c H→jr P f iu H fun gP aF=> ∃bM o c1,bt.et s bM∧Q o c1∧mQ bM o gP∧eW H0 bM c1 aF
def nw (v:I) (c1:a1):Out→a1→Prop:=fun o c=>o= .ret v∧c=c1
inductive ga where
  |c (e:bu)
  |aU (id:Nat)
  |h8 (er:Nat→Env→a1→Prop) (m0:Nat)
def ga.ma (H0:aA) (du:bt):ga→Item
  | .c e=> .c e
  | .aU id=> .aU id
  | .h8 er m0=> .round (fun m bb aF=> ∃s env c,bt.et du s∧er m env c∧gK s env bb∧eW H0 s c aF) m0
def r1 (id:Nat):List ga→Option (List ga)
  | .aU j::k=>bif j==id then some k else r1 id k
  | _::k=>r1 id k
  |[]=>none
theorem BD {H0:aA}{du:bt}{id:Nat}: ∀ {k dY:List ga},r1 id k=some dY→pa id (k.map (ga.ma H0 du))=some (dY.map (ga.ma H0 du))
  |[],_,h=>by cases h
  | .c _::k,_,h=>by simp only[r1]at h; simp only[List.map_cons,ga.ma,pa]; exact BD h
  | .h8 _ _::k,_,h=>by simp only[r1]at h; simp only[List.map_cons,ga.ma,pa]; exact BD h
  | .aU j::k,_,h=>by
    simp only[r1]at h
    simp only[List.map_cons,ga.ma,pa]
    cases ai:j==id with
    |true=>rw[ai]at h; cases h; rw[if_pos (by simpa using ai)]
    |false=>rw[ai]at h; rw[if_neg (by simpa using ai)]; exact BD h
def aj (P:Program) (aL:List bk) (cD t0:Nat) (k:List ga) (Q:Out→a1→Prop) (env:Env) (c:a1):Prop:=
  ∀H0 du s bb H (R:Out→aA→Prop),du.b.length=cD→du.t.length=t0→bt.et du s→gK s env bb→eW H0 s c H→(∀bM o gP c1 aF,bt.et du bM→Q o c1→mQ bM o gP→eW H0 bM c1 aF→R gP aF)→cx P aL R (k.map (ga.ma H0 du)) bb H
def ae (P:Program) (anns:List I) (l:List bP) (env:Env) (c:a1) (K:Env→a1→Prop) (Rp:I→a1→Prop):Prop:=
  ∀H0 s bb H (K':Env→aA→Prop) (iW:I→aA→Prop),gK s env bb→eW H0 s c H→(∀bM e cC c1 aF,bt.et s bM→K e c1→gK bM e cC→eW H0 bM c1 aF→K' cC aF)→(∀bM v bT c1 aF,bt.et s bM→Rp v c1→aN bM v bT→eW H0 bM c1 aF→iW bT aF)→bf P (eP l anns) bb H K' iW
variable {P:Program}{aL:List bk}{cD t0:Nat}{k:List ga}{Q:Out→a1→Prop}{env:Env}{c c1:a1}{v:I}
theorem aj.ret (af:oa aL env c.H=some v) (h:Q (.ret v) c):aj P aL cD t0 (.c .ret::k) Q env c:=fun H0 du s bb H R a6 aO ap he ag an=>by
  obtain⟨bT,g1,g2⟩:=Dm he ag af
  exact .ret g1 (an s (.ret v) (.ret bT) c H ap h g2 ag)
theorem aj.done (af:oa aL env c.H=some v) (h:Q (.ret v) c):aj P aL cD t0 [] Q env c:=fun H0 du s bb H R a6 aO ap he ag an=>by
  obtain⟨bT,g1,g2⟩:=Dm he ag af
  exact .done g1 (an s (.ret v) (.ret bT) c H ap h g2 ag)
theorem aj.skip (h:aj P aL cD t0 k Q env c):aj P aL cD t0 (.c .skip::k) Q env c:=fun H0 du s bb H R a6 aO ap he ag an=> .skip (h H0 du s bb H R a6 aO ap he ag an)
theorem aj.gV {id:Nat}(h:aj P aL cD t0 k Q env c):aj P aL cD t0 (.aU id::k) Q env c:=fun H0 du s bb H R a6 aO ap he ag an=> .gV (h H0 du s bb H R a6 aO ap he ag an)
theorem aj.seq {a b:bu}(h:aj P aL cD t0 (.c a:: .c b::k) Q env c):aj P aL cD t0 (.c (.seq a b)::k) Q env c:=fun H0 du s bb H R a6 aO ap he ag an=> .seq (h H0 du s bb H R a6 aO ap he ag an)
theorem aj.block {id:Nat}{b:bu}(h:aj P aL cD t0 (.c b:: .aU id::k) Q env c):aj P aL cD t0 (.c (.block id b)::k) Q env c:=fun H0 du s bb H R a6 aO ap he ag an=> .block (h H0 du s bb H R a6 aO ap he ag an)
theorem aj.exit {id:Nat}{dY:List ga}(aC:r1 id k=some dY) (h:aj P aL cD t0 dY Q env c):aj P aL cD t0 (.c (.exit id)::k) Q env c:=fun H0 du s bb H R a6 aO ap he ag an=> .exit (BD aC) (h H0 du s bb H R a6 aO ap he ag an)
theorem aj.cond {x:aK}{a b:bu}{t:Bool}(ah:bp env x= .bool t) (J:t=true→aj P aL cD t0 (.c a::k) Q env c) (aa:t=false→aj P aL cD t0 (.c b::k) Q env c):aj P aL cD t0 (.c (.cond x a b)::k) Q env c:=fun H0 du s bb H R a6 aO ap he ag an=>by
  have ab:=kE he x
  rw[ah]at ab
  simp only[aN]at ab
  exact .cond ab (fun e=>J e H0 du s bb H R a6 aO ap he ag an) (fun e=>aa e H0 du s bb H R a6 aO ap he ag an)
theorem aj.oN {x:aK}{a b:bu}(ah:bp env x= .bool true) (h:aj P aL cD t0 (.c a::k) Q env c):aj P aL cD t0 (.c (.cond x a b)::k) Q env c:=aj.cond ah (fun _=>h) (fun e=>by cases e)
theorem aj.oM {x:aK}{a b:bu}(ah:bp env x= .bool false) (h:aj P aL cD t0 (.c b::k) Q env c):aj P aL cD t0 (.c (.cond x a b)::k) Q env c:=aj.cond ah (fun e=>by cases e) (fun _=>h)
theorem aj.fs {ops:List bP}{draw:Bool}{anns:List I}(h:ae P anns ops env c (fun e c1=>aj P aL cD t0 k Q e c1) (fun v c1=>Q (.eR v) c1)):aj P aL cD t0 (.c (.region ops draw)::k) Q env c:=fun H0 du s bb H R a6 aO ap he ag an=>
  .region anns _ (h H0 s bb H _ _ he ag (fun bM e cC c1 aF cI c8 ep gw=>c8 H0 du bM cC aF R a6 aO (ap.trans cI) ep gw an) (fun bM v bT c1 aF cI c8 ep gw=>an bM (.eR v) (.eR bT) c1 aF (ap.trans cI) c8 ep gw)) fun _ _ h=>h
theorem aj.loop {body:bu}(er:Nat→Env→a1→Prop) (m:Nat) (aw:er m env c) (h: ∀aX e cB,er aX e cB→aj P aL cD t0 (.c body:: .h8 er aX::k) Q e cB):aj P aL cD t0 (.c (.loop body)::k) Q env c:=fun H0 du s bb H R a6 aO ap he ag an=>
  .loop (fun m bb aF=> ∃s env c,bt.et du s∧er m env c∧gK s env bb∧eW H0 s c aF) m ⟨s,env,c,ap,aw,he,ag⟩ fun aX cC aF ⟨s2,ax,c2,cI,c8,ep,gw⟩=>h aX ax c2 c8 H0 du s2 cC aF R a6 aO cI ep gw an
theorem aj.round {er:Nat→Env→a1→Prop}{m0:Nat}(m:Nat) (aw:er m env c) (J:m<m0):aj P aL cD t0 (.h8 er m0::k) Q env c:=fun H0 du s bb H R a6 aO ap he ag an=>
  .round m ⟨s,env,c,ap,aw,he,ag⟩ J
def qe (env:Env):Env→Prop
  |[]=>True
  |p::l=>env.get p.1=p.2∧qe env l
theorem qe.get: ∀ {E:Env},qe env E→∀j,E.get j=env.get j∨E.get j= .ew
  |[],_,j=> .inr rfl
  |(k,v)::E,h,j=>by
   simp only[qe]at h
   simp only[Env.get]
   cases aC:k==j with
   |true=>have:k=j:=by simpa using aC
          subst this; exact .inl h.1.symm
   |false=>exact qe.get h.2 j
theorem gK.x6 {s:bt}{E bb:Env}(h: ∀j,E.get j=env.get j∨E.get j= .ew) (he:gK s env bb):gK s E bb:=fun j=>by
  rcases h j with e|e
  ·rw[e]; exact he j
  ·rw[e]; simp only[aN]
abbrev fe:=List (Nat×TypeId×List I)
abbrev fp:=List (Nat×b2)
def iA:fe→Nat→Option (TypeId×List I)
  |[],_=>none
  |(k,x)::l,j=>bif k==j then some x else iA l j
def jI:fp→Nat→Option b2
  |[],_=>none
  |(k,x)::l,j=>bif k==j then some x else jI l j
def a1.of (b7 bF:Nat) (cW:fe) (ds:fp):a1:=⟨⟨iA cW,jI ds⟩,b7,bF⟩
def mf (H:aA):fe→Prop
  |[]=>True
  |p::l=>H.aU p.1=some p.2∧mf H l
def mg (H:aA):fp→Prop
  |[]=>True
  |p::l=>H.tok p.1=some p.2∧mg H l
theorem mf.get {H:aA}: ∀ {l:fe},mf H l→∀j y,iA l j=some y→H.aU j=some y
  |[],_,_,_,e=>by cases e
  |(k,x)::l,h,j,y,e=>by
   simp only[mf]at h
   simp only[iA]at e
   cases aC:k==j with
   |true=>rw[aC]at e; cases e
          have:k=j:=by simpa using aC
          subst this; exact h.1
   |false=>rw[aC]at e; exact mf.get h.2 j y e
theorem mg.get {H:aA}: ∀ {l:fp},mg H l→∀j y,jI l j=some y→H.tok j=some y
  |[],_,_,_,e=>by cases e
  |(k,x)::l,h,j,y,e=>by
   simp only[mg]at h
   simp only[jI]at e
   cases aC:k==j with
   |true=>rw[aC]at e; cases e
          have:k=j:=by simpa using aC
          subst this; exact h.1
   |false=>rw[aC]at e; exact mg.get h.2 j y e
mutual
def I.cR (n t:Nat):I→Bool
  | .ptr b _=>Nat.blt b n
  | .agg cs=>dr n t cs
  | .di cs=>dr n t cs
  | .ay _ rows=>fP rows
  | .own x _ rows=>Nat.blt x t&&fP rows
  | .ez x _=>Nat.blt x t
  | .mp x _ _=>Nat.blt x t
  | .dO row _=>b3 row
  | .fn _ cap=>dr n t cap
  | .gW _ v=>v.cR n t
  | _=>true
def dr (n t:Nat):List I→Bool
  |[]=>true
  |a::az=>a.cR n t&&dr n t az
end
theorem DM {s bM:bt}{az l:List I}(h:b3 az=true) (ag:bs s az l):bs bM az l:=(nI az h l).2 ((nI az h l).1 ag)
theorem ud {s bM:bt}{az l:List (List I)}(h:fP az=true) (ag:cn s az l):cn bM az l:=(rG az h l).2 ((rG az h l).1 ag)
theorem mS {i n:Nat}(h:Nat.blt i n=true):i<n:=by simpa [Nat.blt_eq] using h
theorem xS {l:List Nat}{n i x:Nat}(h:l[i]? =some x) (ai:Nat.blt i n=true):(l.take n)[i]? =some x:=by
  rw[List.getElem?_take,if_pos (mS ai),h]
mutual
theorem aN.cut {s:bt}{n t:Nat}: ∀(a v:I),aN s a v→a.cR n t=true→aN ⟨s.b.take n,s.t.take t⟩ a v
  | .ew,_,_,_=>by simp only[aN]
  | .ptr b o,_,h,hb=>by simp only[I.cR]at hb; simp only[aN]at*; obtain⟨x,J,aa⟩:=h; exact⟨x,xS J hb,aa⟩
  | .agg cs,_,h,hb=>by simp only[I.cR]at hb; simp only[aN]at*; obtain⟨l,J,aa⟩:=h; exact⟨l,J,bs.cut cs l aa hb⟩
  | .di cs,_,h,hb=>by simp only[I.cR]at hb; simp only[aN]at*; obtain⟨l,J,aa⟩:=h; exact⟨l,J,bs.cut cs l aa hb⟩
  | .ay _ rows,_,h,hb=>by
    simp only[I.cR]at hb
    simp only[aN]at*
    obtain⟨l,J,aa⟩:=h
    exact⟨l,J,ud hb aa⟩
  | .own x _ rows,_,h,hb=>by
    simp only[I.cR,Bool.and_eq_true]at hb
    simp only[aN]at*
    obtain⟨y,l,aw,J,aa⟩:=h
    exact⟨y,l,xS aw hb.1,J,ud hb.2 aa⟩
  | .ez x _,_,h,hb=>by simp only[I.cR]at hb; simp only[aN]at*; obtain⟨x,J,aa⟩:=h; exact⟨x,xS J hb,aa⟩
  | .mp x _ _,_,h,hb=>by simp only[I.cR]at hb; simp only[aN]at*; obtain⟨x,J,aa⟩:=h; exact⟨x,xS J hb,aa⟩
  | .dO row _,_,h,hb=>by
    simp only[I.cR]at hb
    simp only[aN]at*
    obtain⟨l,J,aa⟩:=h
    exact⟨l,J,DM hb aa⟩
  | .fn _ cap,_,h,hb=>by simp only[I.cR]at hb; simp only[aN]at*; obtain⟨l,J,aa⟩:=h; exact⟨l,J,bs.cut cap l aa hb⟩
  | .gW _ v,_,h,hb=>by simp only[I.cR]at hb; simp only[aN]at*; obtain⟨x,J,aa⟩:=h; exact⟨x,J,aN.cut v x aa hb⟩
  | .bool _,_,h,_=>by simp only[aN]at*; exact h
  | .int _ _,_,h,_=>by simp only[aN]at*; exact h
  | .str _,_,h,_=>by simp only[aN]at*; exact h
  | .dQ _,_,h,_=>by simp only[aN]at*; exact h
theorem bs.cut {s:bt}{n t:Nat}: ∀(az l:List I),bs s az l→dr n t az=true→bs ⟨s.b.take n,s.t.take t⟩ az l
  |[],_,h,_=>by simp only[bs]at*; exact h
  |a::az,_,h,hb=>by simp only[dr,Bool.and_eq_true]at hb; simp only[bs]at*; obtain⟨v,ay,J,aa,au⟩:=h; exact⟨v,ay,J,aN.cut a v aa hb.1,bs.cut az ay au hb.2⟩
end
def fY (n t:Nat):Env→Bool
  |[]=>true
  |p::l=>p.2.cR n t&&fY n t l
def dP (n t:Nat):fe→Bool
  |[]=>true
  |p::l=>Nat.blt p.1 n&&(dr n t p.2.2&&dP n t l)
def fO:Option (List (List I))→Bool
  |none=>true
  |some rows=>fP rows
def dV (n t:Nat):fp→Bool
  |[]=>true
  |p::l=>Nat.blt p.1 t&&(fO p.2.n8&&dV n t l)
theorem Hq {n t:Nat}: ∀ {E:Env},fY n t E=true→∀j,(E.get j).cR n t=true
  |[],_,j=>rfl
  |(k,v)::E,h,j=>by
   simp only[fY,Bool.and_eq_true]at h
   simp only[Env.get]
   cases k==j with
   |true=>exact h.1
   |false=>exact Hq h.2 j
theorem C2 {n t:Nat}: ∀ {l:fe},dP n t l=true→∀j T cs,iA l j=some (T,cs)→Nat.blt j n=true∧dr n t cs=true
  |[],_,_,_,_,e=>by cases e
  |(k,x)::l,h,j,T,cs,e=>by
   simp only[dP,Bool.and_eq_true]at h
   simp only[iA]at e
   cases aC:k==j with
   |true=>rw[aC]at e; cases e
          have:k=j:=by simpa using aC
          subst this; exact⟨h.1,h.2.1⟩
   |false=>rw[aC]at e; exact C2 h.2.2 j T cs e
theorem C3 {n t:Nat}: ∀ {l:fp},dV n t l=true→∀j o,jI l j=some o→Nat.blt j t=true∧fO o.n8=true
  |[],_,_,_,e=>by cases e
  |(k,x)::l,h,j,o,e=>by
   simp only[dV,Bool.and_eq_true]at h
   simp only[jI]at e
   cases aC:k==j with
   |true=>rw[aC]at e; cases e
          have:k=j:=by simpa using aC
          subst this; exact⟨h.1,h.2.1⟩
   |false=>rw[aC]at e; exact C3 h.2.2 j o e
theorem eW.cut {H0 H:aA}{s:bt}{n t:Nat}{cW:fe}{ds:fp}(ag:eW H0 s c H) (hb:mf c.H cW) (aO:mg c.H ds) (a6:n≤c.b7) (hm:t≤c.bF) (EH:dP n t cW=true) (kt:dV n t ds=true):eW H0 ⟨s.b.take n,s.t.take t⟩ (a1.of n t cW ds) H where
  base:=ag.base
  aU:=fun b T cs e=>by
    obtain⟨g1,g2⟩:=C2 EH b T cs e
    obtain⟨x,c3,J,aa,au⟩:=ag.aU b T cs (hb.get b _ e)
    exact⟨x,c3,xS J g1,aa,bs.cut _ _ au g2⟩
  tok:=fun b o e=>by
    obtain⟨g1,g2⟩:=C3 kt b o e
    obtain⟨x,gP,J,aa,au,bn,bL,cq,j0⟩:=ag.tok b o (aO.get b _ e)
    refine⟨x,gP,xS J g1,aa,au,bn,bL,cq,?_⟩
    cases ah:o.n8 with
    |none=>rw[ah]at j0; exact j0
    |some rows=>
     rw[ah]at j0 g2
     simp only[fO]at g2
     obtain⟨l,cI,c8⟩:=j0
     exact⟨l,cI,ud g2 c8⟩
  lj:=fun b x e=>by
    rw[List.getElem?_take]at e
    split at e
    ·exact ag.lj b x e
    ·cases e
  lJ:=fun b x e=>by
    rw[List.getElem?_take]at e
    split at e
    ·exact ag.lJ b x e
    ·cases e
  ld:=fun b bX x e cC=>by
    rw[List.getElem?_take]at e cC
    split at e
    ·split at cC
     ·exact ag.ld b bX x e cC
     ·cases cC
    ·cases e
  nc:=fun b bX x e cC=>by
    rw[List.getElem?_take]at e cC
    split at e
    ·split at cC
     ·exact ag.nc b bX x e cC
     ·cases cC
    ·cases e
  b7:=by simp only[a1.of,List.length_take]; rw[←ag.b7]; omega
  bF:=by simp only[a1.of,List.length_take]; rw[←ag.bF]; omega
theorem bt.et.cut {du s:bt}{n t:Nat}(h:bt.et du s) (a6:du.b.length≤n) (aO:du.t.length≤t):bt.et du ⟨s.b.take n,s.t.take t⟩ where
  b:=fun i x e=>by
   have:i<du.b.length:=(List.getElem?_eq_some_iff.1 e).1
   rw[List.getElem?_take,if_pos (by omega)]
   exact h.b i x e
  t:=fun i x e=>by
   have:i<du.t.length:=(List.getElem?_eq_some_iff.1 e).1
   rw[List.getElem?_take,if_pos (by omega)]
   exact h.t i x e
theorem aj.cut (n t:Nat) (E:Env) (cW:fe) (ds:fp) (he:qe env E) (hb:mf c.H cW) (aO:mg c.H ds) (a6:(Nat.ble cD n&&(Nat.ble n c.b7&&(Nat.ble t0 t&&Nat.ble t c.bF)))=true) (bw:(fY n t E&&(dP n t cW&&dV n t ds))=true) (h:aj P aL cD t0 k Q E (a1.of n t cW ds)):aj P aL cD t0 k Q env c:=fun H0 du s bb H R J aa ap dc ag an=>by
  simp only[Bool.and_eq_true,Nat.ble_eq]at a6 bw
  obtain⟨fN,a2,a3,a4⟩:=a6
  obtain⟨eB,dU,jj⟩:=bw
  refine h H0 du ⟨s.b.take n,s.t.take t⟩ bb H R J aa (ap.cut (by omega) (by omega)) (fun j=> ?_) (ag.cut hb aO a2 a4 dU jj) an
  exact aN.cut _ _ (gK.x6 he.get dc j) (Hq eB j)
theorem aj.BE (E:Env) (cW:fe) (ds:fp) (he:qe env E) (hb:mf c.H cW) (aO:mg c.H ds) (h:aj P aL cD t0 k Q E (a1.of c.b7 c.bF cW ds)):aj P aL cD t0 k Q env c:=fun H0 du s bb H R J aa ap dc ag an=>by
  refine h H0 du s bb H R J aa ap (gK.x6 he.get dc) ⟨⟨ag.base,fun b T cs e=>ag.aU b T cs (hb.get b _ e),fun b o e=>ag.tok b o (aO.get b _ e),ag.lj,ag.lJ,ag.ld,ag.nc⟩,ag.b7,ag.bF⟩ an
end Go.bc
