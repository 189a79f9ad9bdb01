/- Part of a proof; own work. -/
import Derived.Orders
import Derived.Test.YtlemhelnmidpfaaGreatDoorQS1
set_option linter.unusedVariables false
set_option linter.unusedSimpArgs false
namespace Go.aO
open Go
section
variable {P:Program}{m:Mem}{env:Env}{a:Act}{o:Oper}
theorem aP8 {r:I}{K:Act→World→Prop}{Q:Exit→Act→World→Prop}(q:gu P m a o r) (h: ∀v,aP m r v→K (a.put o.dst v) m.w):o.wp P a m.w K Q:=by
 obtain⟨v,U,aa⟩:=q
 exact pb U (h v aa)
theorem rZ {m:Mem}: ∀ {az bQ:List I}{l:List Value},eo az bQ→aR m az l→aR m bQ l
 |[],bQ,l,h,k=>by simp only[eo]at h; subst h; exact k
 |a::az,bQ,l,h,k=>by
  simp only[eo]at h
  obtain⟨b,bQ,rfl,U,aa⟩:=h
  simp only[aR]at k ⊢
  obtain⟨v,af,rfl,bf,bi⟩:=k
  exact⟨v,af,rfl,U _ _ bf,rZ aa bi⟩
theorem FZ {P:Program}{f:FuncId}(h:di P f=true):f<ke:=by
 unfold di at h
 split at h
 ·simp only[Bool.and_eq_true]at h
  simpa using h.2
 ·cases h
theorem CA {P:Program}{w:World}{f:FuncId}{args:Array Value}(h:di P f=true):(callFunc f args).run P w= .ok (.enter f args) w:=by
 unfold di at h
 split at h
 ·rename_i fn hf
  simp only[Bool.and_eq_true,Bool.not_eq_true']at h
  obtain⟨⟨U,aa⟩,_⟩:=h
  obtain⟨c,aq⟩:=Option.isSome_iff_exists.1 U
  have O2: ¬fn.name= "runtime.NumGoroutine" :=by simpa using aa
  simp [callFunc,hf,O2,aq]
 ·cases h
theorem CB {c:Call}{f:FuncId}{g:Operand}(ao:o.op= .call c) (aq:c.callee= .value g) (a7:a.eval g= .func (.func f) #[] ⟨[]⟩) (hf:di P f=true) (w:World):(execOp a.eval o).run P w= .ok (.enter f (c.args.map a.eval)) w:=by
 have Bw:a.eval g= .func (.func f) #[] #[]:=a7
 simp [execOp,ao,resolve,aq,Bw,Deferred.ofValue,invoke,CA hf]
theorem E5 {c:Call}{f:FuncId}{g:Operand}{l:List Value}(ao:o.op= .call c) (aq:c.callee= .value g) (Bw:a.eval g=sl f l) (hf:di P f=true) (w:World):(execOp a.eval o).run P w= .ok (.enter f (c.args.map a.eval++⟨l⟩)) w:=by
 have a7:a.eval g= .func (.func f) #[] ⟨l⟩:=Bw.trans (xL (FZ hf) l)
 simp [execOp,ao,resolve,aq,a7,Deferred.ofValue,invoke,CA hf]
theorem aT5 {c:Call}{f:FuncId}{g:Operand}{l:List Value}(ao:o.op= .call c) (aq:c.callee= .value g) (Bw:a.eval g=sl (f+ke) l) (hf:di P f=true) (w:World):(execOp a.eval o).run P w= .ok (.enter f (⟨l⟩++c.args.map a.eval)) w:=by
 have a7:a.eval g= .func (.func f) ⟨l⟩ #[]:=Bw.trans (OM f l)
 simp [execOp,ao,resolve,aq,a7,Deferred.ofValue,invoke,CA hf]
def RR (P:Program) (o:Oper) (a:Act) (K:Act→World→Prop) (Q:Exit→Act→World→Prop):Ending→World→Prop
 | .returned v,w=>K (a.put o.dst v) w
 | .panicked chain,w=>Q (.panic chain) a w
 | .outgrown,_=>LetsOut Q
theorem ui {K:Act→World→Prop}{Q:Exit→Act→World→Prop}{w w':World}{f:FuncId}{args:Array Value}(h:(execOp a.eval o).run P w= .ok (.enter f args) w') (aw:Calls P f args w' (RR P o a K Q)):o.wp P a w K Q:=by
 simp only[Oper.wp,h,Oper.upon_enter]
 refine aw.mono fun e bn5 he=> ?_
 cases e<;>exact he
theorem tq {f:FuncId}{az:List I}{af:List Value}{R:Out→aA→Prop}{K:Act→World→Prop}{Q:Exit→Act→World→Prop}(be:b9 m) (ae:aR m az af) (aq:ko P f az m.H R)
  (U: ∀r aX v,R (.ret r) aX.H→b9 aX→b8 m aX→aP aX r v→K (a.put o.dst v) aX.w)
  (aa: ∀r aX v,R (.e5 r) aX.H→b9 aX→b8 m aX→aP aX r v→Q (.panic [{v,recovered:=false}]) a aX.w):Calls P f ⟨af⟩ m.w (RR P o a K Q):=by
 refine (aq m af rfl be ae).mono fun e w' he=> ?_
 obtain⟨Cm,aB,hr,cO,cu,cL,dv,hE⟩:=he
 cases Cm with
 |ret r=>
  simp only[ti]at dv
  obtain⟨v,rfl,dv⟩:=dv
  exact U r ⟨w',aB,hr,cO⟩ v hE cu cL dv
 |e5 r=>
  simp only[ti]at dv
  obtain⟨v,rfl,dv⟩:=dv
  exact aa r ⟨w',aB,hr,cO⟩ v hE cu cL dv
theorem Dd {t u T:TypeId}{size bytes:Nat}(h:(decide (kU P t=some T)&&(decide (kU P u=some T)||(match P.underlying u,P.underlying T with|some .string,some (.int .u8)=>true| _,_=>false))&&(match P.info? T with|some i=>decide (i.size=size)&&decide (i.bytes=bytes)&&(match i.zero with|some z=>decide (z.cells.size=size)|none=>false)|none=>false))=true):Nonempty (vP P t u T size bytes):=by
 simp only[Bool.and_eq_true,Bool.or_eq_true,decide_eq_true_eq]at h
 obtain⟨⟨U,aa⟩,ay⟩:=h
 have hJ: ∀ {t T},kU P t=some T→P.underlying t=some (.slice T):=by
  intro t T h
  unfold kU at h
  split at h
  ·rename_i e hu; simp at h; subst h; exact hu
  ·cases h
 split at ay
 ·rename_i i ad
  simp only[Bool.and_eq_true,decide_eq_true_eq]at ay
  obtain⟨⟨ar,ax⟩,bU⟩:=ay
  split at bU
  ·rename_i z aG
   refine⟨⟨hJ U,?_,i,ad,ar,ax,z,aG,by simpa using bU⟩⟩
   rcases aa with aa|aa
   ·exact .inl (hJ aa)
   ·split at aa
    ·rename_i hu _; exact .inr hu
    ·cases aa
  ·cases bU
 ·cases ay
theorem Fa {size:Nat}{y:I}{v:Value}{rows:List (List I)}(h:aP m y v) (aV:rowsOf size y=some rows): ∃news,Src P m size v rows news:=by
 unfold rowsOf at aV
 split at aV
 ·split at aV
  ·rename_i e; subst e; simp at aV; subst aV; exact U8 h
  ·cases aV
 ·split at aV
  ·rename_i e; subst e; simp at aV; subst aV; exact U8 (Aa h)
  ·cases aV
 ·simp at aV
  subst aV
  rw[w3 h]
  exact⟨[],aX0⟩
 ·split at aV
  ·rename_i e; subst e; simp at aV; subst aV
   rw[(sS h).1]
   exact⟨_,aX1⟩
  ·cases aV
 ·cases aV
theorem vW {α:Type}{l:Array α}{x y:α}(h:l.toList=[x,y]):l= #[x,y]:=by cases l; simp at h; rw[h]
set_option maxHeartbeats 4000000 in
theorem Mq {e:bg}{d:D}{K:Act→World→Prop}{Q:Exit→Act→World→Prop}(br:e9 P e env m.H d) (aq:bo P o.op e=true) (be:b9 m) (he:eA m env a.tmps)
  (h: ∀x aX v,d.fresh x m.H→aX.H=d.heap m.H x→b9 aX→b8 m aX→aP aX (d.val x) v→K (a.put o.dst v) aX.w):o.wp P a m.w K Q:=by
 have bw: ∀r,d= .dj r→gu P m a o r→o.wp P a m.w K Q:=by
  intro r e q
  subst e
  exact aP8 q fun v ae=>h 0 m v trivial rfl be (b8.refl m) ae
 cases br with
 |pure hp=>exact bw _ rfl (aI1 he be aq hp)
 |quo ab aV hb=>
  cases ao:o.op<;>try (simp [ao,bo]at aq; done)
  rw[ao]at aq
  simp only[bo,Bool.and_eq_true,decide_eq_true_eq]at aq
  obtain⟨⟨rfl,c1⟩,ci⟩:=aq
  exact bw _ rfl (Z8 he ao c1 ci ab aV hb)
 |rem ab aV hb=>
  cases ao:o.op<;>try (simp [ao,bo]at aq; done)
  rw[ao]at aq
  simp only[bo,Bool.and_eq_true,decide_eq_true_eq]at aq
  obtain⟨⟨rfl,c1⟩,ci⟩:=aq
  exact bw _ rfl (Z9 he ao c1 ci ab aV hb)
 |j0 ab aV hb=>
  cases ao:o.op<;>try (simp [ao,bo]at aq; done)
  rw[ao]at aq
  simp only[bo,Bool.and_eq_true,decide_eq_true_eq]at aq
  obtain⟨⟨rfl,c1⟩,ci⟩:=aq
  exact bw _ rfl (ZW he ao c1 ci ab aV hb)
 |py ab ad aU ac=>
  cases ao:o.op<;>try (simp [ao,bo]at aq; done)
  have ns:=aq
  rw[ao]at ns
  simp only[bo,Bool.and_eq_true]at ns
  have qj:=dy he ns.1.1
  rw[ab]at qj
  exact bw _ rfl (Mg he ao aq qj ad aU ac)
 |pw ab ad aU ac=>
  cases ao:o.op<;>try (simp [ao,bo]at aq; done)
  have ns:=aq
  rw[ao]at ns
  simp only[bo,Bool.and_eq_true]at ns
  have qj:=dy he ns.1.1
  rw[ab]at qj
  exact bw _ rfl (Mg he ao aq (Aa qj) ad aU ac)
 |qk ab ad aU U=>
  cases ao:o.op<;>try (simp [ao,bo]at aq; done)
  exact bw _ rfl (Z1 he ao aq ab ad aU U)
 |oY ab ad aU U=>
  cases ao:o.op<;>try (simp [ao,bo]at aq; done)
  have ns:=aq
  rw[ao]at ns
  simp only[bo,Bool.and_eq_true]at ns
  have qj:=dy he ns.1.1
  rw[ab]at qj
  exact bw _ rfl ⟨_,Mf he ao aq (w0 qj) ad aU U,by simp only[aP]⟩
 |px ab ad aU U=>
  cases ao:o.op<;>try (simp [ao,bo]at aq; done)
  have ns:=aq
  rw[ao]at ns
  simp only[bo,Bool.and_eq_true]at ns
  have qj:=dy he ns.1.1
  rw[ab]at qj
  obtain⟨b,p,ar,ax⟩:=Ab qj
  exact bw _ rfl ⟨_,Mf he ao aq ar ad aU U,by simp only[aP]; exact⟨b,p,by rw[Nat.add_assoc],ax⟩⟩
 |kj ab ad aU U aC ae=>
  cases ao:o.op<;>try (simp [ao,bo]at aq; done)
  exact bw _ rfl (Z0 he ao aq ab ad aU U aC ae)
 |ic ab ad aU ss=>
  cases ao:o.op<;>try (simp [ao,bo]at aq; done)
  exact bw _ rfl (Z2 he ao aq ab ad aU ss)
 |kE ab aC a8 U aa=>
  cases ao:o.op<;>try (simp [ao,bo]at aq; done)
  exact bw _ rfl (aa1 he ao aq ab aC a8 U aa)
 |ii ab aC a8 U aa=>
  cases ao:o.op<;>try (simp [ao,bo]at aq; done)
  exact bw _ rfl (aa2 he ao aq ab aC a8 U aa)
 |kN ab=>
  cases ao:o.op<;>try (simp [ao,bo]at aq; done)
  obtain⟨w',v,cu,cL,dv,hE⟩:=ZX he be ao aq ab
  exact pb cu (h 0 {m with w:=w'} v trivial rfl cL dv hE)
 |box ab=>
  cases ao:o.op<;>try (simp [ao,bo]at aq; done)
  rw[ao]at aq
  simp only[bo,Bool.and_eq_true,decide_eq_true_eq]at aq
  obtain⟨rfl,c1⟩:=aq
  obtain⟨l,cu,cL⟩:=ZV he be ao c1 ab
  exact pb cu (h m.w.heap.size _ _ (y3 be) rfl cL (b8.b4 _ _ _ _) (by simp only[D.val,aP]))
 |alloc aG=>
  cases ao:o.op<;>try (simp [ao,bo]at aq; done)
  rw[ao]at aq
  simp only[bo,Bool.and_eq_true,decide_eq_true_eq]at aq
  obtain⟨rfl,c1⟩:=aq
  obtain⟨l,cu,cL⟩:=ZU (a:=a) be ao c1
  exact pb cu (h m.w.heap.size _ _ (y3 be) rfl cL (b8.b4 _ _ _ _) (by simp only[D.val,aP]))
 |pT ac hs U=>
  cases ao:o.op<;>try (simp [ao,bo]at aq; done)
  obtain⟨l,cu,cL,dv,hE,mI,sO⟩:=Gh he be ao aq ac hs U
  rename_i T size n zero parts rows t hV RX
  have aI:=b8.alloc m (.cells ⟨l⟩ T)
  refine pb cu (h 0 {m with w:=m.w.alloc (.cells ⟨l⟩ T)} _ trivial rfl (b9.alloc be _) aI ?_)
  simp only[D.val,aP]
  refine⟨_,_,_,rfl,rfl,⟨Nat.le_refl _,by rw[Ez]; omega⟩,.inr ⟨m.w.heap.size,0,rfl,ef.of (fun r ac=>by have:=List.all_eq_true.1 hs r ac; simpa using this) (aR.aI aI _ _ cL) fun j v bx=>⟨?_,dv v (List.mem_of_getElem? bx),⟨by simp,y3 be,fun t i ht hb=> ?_⟩⟩⟩⟩
  ·rw[Nat.zero_add,cell_of_row _ m.w.heap.size j ⟨l⟩ T (0,0) (u2 m.w _)]
   simpa using bx
  ·have:=w9 be ht hb
   omega
 |nV ac hs U aU=>
  cases ao:o.op<;>try (simp [ao,bo]at aq; done)
  rename_i T size n zero parts rows t hV RX
  have ns:bo P o.op (.da T size n zero parts)=true:=by rw[ao]at aq ⊢; exact aq
  obtain⟨l,cu,cL,dv,hE,mI,sO⟩:=Gh he be ao ns ac hs U
  obtain⟨b0,cN,du⟩:=QN be (w':=m.w.alloc (.cells ⟨l⟩ T)) (T:=T) (size:=size) (cap:=rows.length) (rows:=rows) (l:=l) (cur:=⟨l⟩) rfl rfl rfl (by simp) (fun b hb=>qD m.w _ b hb) (u2 m.w _) cL dv hE (fun r ac=>by have:=List.all_eq_true.1 hs r ac; simpa using this) (fun j v bx=>by simpa using bx) (by simpa using hE) (Nat.le_refl _) (by rw[Ez]; omega) sO
  exact pb cu (h m.T _ _ (s3 be) rfl b0 cN du)
 |rY ab aV hb hm aU=>
  cases ao:o.op<;>try (simp [ao,bo]at aq; done)
  rename_i T size bytes x y rows c
  obtain⟨callee,args,argTypes⟩:=c
  rw[ao]at aq
  cases callee with
  |value f=>simp [bo]at aq
  |invoke _ _=>simp [bo]at aq
  |builtin b=>
   cases b<;>simp only[bo]at aq<;>first
    |(cases aq; done)
    |skip
   simp only[Bool.and_eq_true]at aq
   obtain⟨c1,ci⟩:=aq
   split at ci
   ·rename_i t u ht
    obtain⟨A⟩:=Dd ci
    obtain rfl:=vW ht
    have qa: ∃p q,args= #[p,q]∧de p x=true∧de q y=true:=by
     match aC:args.toList with
     |[p,q]=>rw[aC]at c1; simp only[hi,Bool.and_eq_true]at c1; exact⟨p,q,vW aC,c1.1,c1.2.1⟩
     |[]=>rw[aC]at c1; simp [hi]at c1
     |[_]=>rw[aC]at c1; simp [hi]at c1
     | _:: _:: _:: _=>rw[aC]at c1; simp [hi]at c1
    obtain⟨p,q,rfl,ar,ax⟩:=qa
    have hp:=dy he ar
    rw[ab]at hp
    have BC:=w3 hp
    obtain⟨news,S⟩:=Fa (P:=P) (dy he ax) aV
    obtain⟨aX,v,cu,cL,dv,hE,mI⟩:=Wp (ty:=o.type) A be S hb hm aU
    refine pb (v:=v) (w':=aX.w) ?_ (h m.T aX v (s3 be) hE cL dv mI)
    simp [execOp,ao,resolve,invoke,builtin,BC,cu]
   ·cases ci
 |jF aL hp=>
  cases ao:o.op<;>try (simp [ao,bo]at aq; done)
  rename_i f args az r c
  obtain⟨callee,fC,argTypes⟩:=c
  rw[ao]at aq
  cases callee with
  |builtin b=>cases b<;>simp [bo]at aq
  |invoke _ _=>simp [bo]at aq
  |value g=>
   simp only[bo,Bool.and_eq_true]at aq
   obtain⟨⟨c1,ci⟩,fc⟩:=aq
   split at c1
   ·rename_i kw
    have:kw=f:=by simpa using c1
    subst this
    refine ui (CB ao rfl rfl fc m.w) ?_
    have aC:=rZ aL (pW he ci)
    have eh:(fC.map a.eval)=⟨fC.toList.map a.eval⟩:=Array.ext' (by simp)
    rw[show ({callee:=Callee.value (Operand.func kw),args:=fC,argTypes:=argTypes}:Call).args.map a.eval=⟨fC.toList.map a.eval⟩ from eh]
    exact tq be aC (hp m.H) (fun eV aX v ac cu cL dv=>by obtain⟨ar,ax⟩:=ac; simp at ar; subst ar; exact h 0 aX v trivial ax cu cL dv) (fun eV aX v ac=>by simp at ac)
   ·cases c1
 |ld ab hf aL hp=>
  cases ao:o.op<;>try (simp [ao,bo]at aq; done)
  rename_i x args f cap az r c
  obtain⟨callee,fC,argTypes⟩:=c
  rw[ao]at aq
  cases callee with
  |builtin b=>cases b<;>simp [bo]at aq
  |invoke _ _=>simp [bo]at aq
  |value g=>
   simp only[bo,Bool.and_eq_true]at aq
   obtain⟨c1,ci⟩:=aq
   have a7:=dy he c1
   rw[ab]at a7
   obtain⟨l,g1,g2⟩:=yy a7
   refine ui (E5 ao rfl g1 hf m.w) ?_
   have aC:=rZ aL (aR.append (pW he ci) g2)
   have eh:(fC.map a.eval)++⟨l⟩=⟨fC.toList.map a.eval++l⟩:=by
    apply Array.ext'
    simp
   rw[show ({callee:=Callee.value g,args:=fC,argTypes:=argTypes}:Call).args.map a.eval++⟨l⟩=⟨fC.toList.map a.eval++l⟩ from eh]
   exact tq be aC (hp m.H) (fun eV aX v ac cu cL dv=>by obtain⟨ar,ax⟩:=ac; simp at ar; subst ar; exact h 0 aX v trivial ax cu cL dv) (fun eV aX v ac=>by simp at ac)
 |qT aL hp=>
  cases ao:o.op<;>try (simp [ao,bo]at aq; done)
  rename_i f args az r c
  obtain⟨callee,fC,argTypes⟩:=c
  rw[ao]at aq
  cases callee with
  |builtin b=>cases b<;>simp [bo]at aq
  |invoke _ _=>simp [bo]at aq
  |value g=>
   simp only[bo,Bool.and_eq_true]at aq
   obtain⟨⟨c1,ci⟩,fc⟩:=aq
   split at c1
   ·rename_i kw
    have:kw=f:=by simpa using c1
    subst this
    refine ui (CB ao rfl rfl fc m.w) ?_
    have aC:=rZ aL (pW he ci)
    have eh:(fC.map a.eval)=⟨fC.toList.map a.eval⟩:=Array.ext' (by simp)
    rw[show ({callee:=Callee.value (Operand.func kw),args:=fC,argTypes:=argTypes}:Call).args.map a.eval=⟨fC.toList.map a.eval⟩ from eh]
    exact tq be aC (hp m.H) (fun eV aX v ac cu cL dv=>by obtain⟨ar,ax⟩:=ac; simp at ar; subst ar; exact h 0 aX v trivial ax cu cL dv) (fun eV aX v ac=>by simp at ac)
   ·cases c1
 |rK ab hf aL hp=>
  cases ao:o.op<;>try (simp [ao,bo]at aq; done)
  rename_i x args f cap az r c
  obtain⟨callee,fC,argTypes⟩:=c
  rw[ao]at aq
  cases callee with
  |builtin b=>cases b<;>simp [bo]at aq
  |invoke _ _=>simp [bo]at aq
  |value g=>
   simp only[bo,Bool.and_eq_true]at aq
   obtain⟨c1,ci⟩:=aq
   have a7:=dy he c1
   rw[ab]at a7
   obtain⟨l,g1,g2⟩:=yy a7
   refine ui (E5 ao rfl g1 hf m.w) ?_
   have aC:=rZ aL (aR.append (pW he ci) g2)
   have eh:(fC.map a.eval)++⟨l⟩=⟨fC.toList.map a.eval++l⟩:=by
    apply Array.ext'
    simp
   rw[show ({callee:=Callee.value g,args:=fC,argTypes:=argTypes}:Call).args.map a.eval++⟨l⟩=⟨fC.toList.map a.eval++l⟩ from eh]
   exact tq be aC (hp m.H) (fun eV aX v ac cu cL dv=>by obtain⟨ar,ax⟩:=ac; simp at ar; subst ar; exact h 0 aX v trivial ax cu cL dv) (fun eV aX v ac=>by simp at ac)
 |xu ab aV hb hm aU=>
  cases ao:o.op<;>try (simp [ao,bo]at aq; done)
  rename_i T size bytes x y rows c
  obtain⟨callee,args,argTypes⟩:=c
  rw[ao]at aq
  cases callee with
  |value f=>simp [bo]at aq
  |invoke _ _=>simp [bo]at aq
  |builtin b=>
   cases b<;>simp only[bo]at aq<;>first
    |(cases aq; done)
    |skip
   simp only[Bool.and_eq_true]at aq
   obtain⟨c1,ci⟩:=aq
   split at ci
   ·rename_i t u ht
    obtain⟨A⟩:=Dd ci
    obtain rfl:=vW ht
    have qa: ∃p q,args= #[p,q]∧de p x=true∧de q y=true:=by
     match aC:args.toList with
     |[p,q]=>rw[aC]at c1; simp only[hi,Bool.and_eq_true]at c1; exact⟨p,q,vW aC,c1.1,c1.2.1⟩
     |[]=>rw[aC]at c1; simp [hi]at c1
     |[_]=>rw[aC]at c1; simp [hi]at c1
     | _:: _:: _:: _=>rw[aC]at c1; simp [hi]at c1
    obtain⟨p,q,rfl,ar,ax⟩:=qa
    have hp:=dy he ar
    rw[ab]at hp
    have BC:=w3 hp
    obtain⟨news,S⟩:=Fa (P:=P) (dy he ax) aV
    obtain⟨aX,v,cu,cL,dv,hE,mI⟩:=Wo (ty:=o.type) A be S hb hm aU
    refine pb (v:=v) (w':=aX.w) ?_ (h m.T aX v (s3 be) hE cL dv mI)
    simp [execOp,ao,resolve,invoke,builtin,BC,cu]
   ·cases ci
 |wX aL hp=>
  cases ao:o.op<;>try (simp [ao,bo]at aq; done)
  rename_i f args az T size rows c
  obtain⟨callee,fC,argTypes⟩:=c
  rw[ao]at aq
  cases callee with
  |builtin b=>cases b<;>simp [bo]at aq
  |invoke _ _=>simp [bo]at aq
  |value g=>
   simp only[bo,Bool.and_eq_true]at aq
   obtain⟨⟨c1,ci⟩,fc⟩:=aq
   split at c1
   ·rename_i kw
    have:kw=f:=by simpa using c1
    subst this
    refine ui (CB ao rfl rfl fc m.w) ?_
    have aC:=rZ aL (pW he ci)
    have eh:(fC.map a.eval)=⟨fC.toList.map a.eval⟩:=Array.ext' (by simp)
    rw[show ({callee:=Callee.value (Operand.func kw),args:=fC,argTypes:=argTypes}:Call).args.map a.eval=⟨fC.toList.map a.eval⟩ from eh]
    exact tq be aC (hp m.H) (fun eV aX v ac cu cL dv=>by obtain⟨t,cA,ar,ax⟩:=ac; simp at ar; subst ar; exact h t aX v cA ax cu cL dv) (fun eV aX v ac=>by obtain⟨t,cA,ar,ax⟩:=ac; simp at ar)
   ·cases c1
 |iq ab ht=>
  cases ao:o.op<;>try (simp [ao,bo]at aq; done)
  exact bw _ rfl (Z4 he be ao aq ab ht)
 |wO ab=>
  cases ao:o.op<;>try (simp [ao,bo]at aq; done)
  exact bw _ rfl (Mh he ao aq fun v ae=> .inl ⟨by rw[ab]at ae; simpa only[aP] using ae,rfl⟩)
 |wN ab ac=>
  cases ao:o.op<;>try (simp [ao,bo]at aq; done)
  exact bw _ rfl (Mh he ao aq fun v ae=> .inr ⟨by rw[ab]at ae; exact bb0 ae ac,rfl⟩)
 |jJ ab ht=>
  cases ao:o.op<;>try (simp [ao,bo]at aq; done)
  exact bw _ rfl (ZY he be ao aq ab ht)
 |jr ab ht ad aU U=>
  cases ao:o.op<;>try (simp [ao,bo]at aq; done)
  exact bw _ rfl (ZZ he be ao aq ab ht ad aU U)
 |j5 ab ht aC ae=>
  cases ao:o.op<;>try (simp [ao,bo]at aq; done)
  exact bw _ rfl (Z5 he be ao aq ab ht aC ae)
 |nU ac hs U aU=>
  cases ao:o.op<;>try (simp [ao,bo]at aq; done)
  rename_i T size n zero parts rows t hV RX
  have ns:bo P o.op (.da T size n zero parts)=true:=by rw[ao]at aq ⊢; exact aq
  obtain⟨l,cu,cL,dv,hE,mI,sO⟩:=Gh he be ao ns ac hs U
  have n9:(⟨l⟩:Array Value).toList.take (rows.length*size)=l:=by rw[←hE]; simp
  obtain⟨b0,cN,du⟩:=EE be (w':=m.w.alloc (.cells ⟨l⟩ T)) (T:=T) (size:=size) (cap:=rows.length) (rows:=rows) (cur:=⟨l⟩) rfl rfl rfl (by simp) (fun b hb=>qD m.w _ b hb) (u2 m.w _) (by rw[n9]; exact cL) (by rw[n9]; exact dv) (fun r ac=>by have:=List.all_eq_true.1 hs r ac; simpa using this) hE (Nat.le_refl _) (by rw[Ez]; omega) aU
  exact pb cu (h m.T _ _ (s3 be) rfl b0 cN du)
 |ji ab ht aw ac=>
  cases ao:o.op<;>try (simp [ao,bo]at aq; done)
  exact bw _ rfl (Z6 he be ao aq ab ht aw ac)
 |rF ab aw=>
  cases ao:o.op<;>try (simp [ao,bo]at aq; done)
  exact bw _ rfl (Z7 he ao aq ab aw)
 |mkMap=>
  cases ao:o.op<;>try (simp [ao,bo]at aq; done)
  rename_i T ty yx
  cases yx with
  |some q=>rw[ao]at aq; simp [bo]at aq
  |none=>
  obtain⟨b0,cN,du⟩:=aD8 be T
  have cu:(execOp a.eval o).run P m.w= .ok (.value (.map (some m.w.heap.size))) (m.w.alloc (.map #[] 0)):=by
   simp [execOp,ao,Instr.makeMap,Result.andThen]
  exact pb cu (h m.T _ _ (s3 be) rfl b0 cN du)
 |o0 ab hb hm Es aG aU=>
  cases ao:o.op<;>try (simp [ao,bo]at aq; done)
  rename_i T size bytes zero x k n dT cc cV
  rw[ao]at aq
  simp only[bo,Bool.and_eq_true,decide_eq_true_eq]at aq
  obtain⟨⟨⟨⟨⟨c1,ci⟩,fc⟩,ha⟩,k6⟩,ls⟩:=aq
  obtain⟨i,z,ad,au5,Bs⟩:=Fs k6
  obtain⟨g1,g2⟩:=Dx (m:=m) Bs
  have ar:=dy he c1
  have ax:=dy he ci
  rw[ab]at ar ax
  have ar:=kD ar
  have ax:=kD ax
  rw[ad]at ls
  simp only[decide_eq_true_eq]at ls
  have dq:i.size=size:=by
   obtain⟨i2,b0,cN⟩:=E8 ha
   rw[ad]at b0
   cases b0
   exact cN
  have rA:z.cells.size=size:=by
   have:=aR.length g1
   rw[←aG,←this]
   simp
  have ia:(i.bytes:Int)*(n:Int)≤281474976710656:=by
   rw[ls]
   have h:((bytes*n:Nat):Int)≤281474976710656:=by omega
   rwa [Int.natCast_mul]at h
  have ap8:(n:Int)≤9223372036854775807:=by have:=hm; unfold maxLen at this; omega
  have lZ:=run_make (P:=P) m.w dT T i z (E9 fc) ad au5 k k (n:Int) (n:Int) (by omega) (by omega) ia ap8
  simp only[Int.toNat_natCast]at lZ
  rw[dq]at lZ
  have cu:(execOp a.eval o).run P m.w= .ok (.value (.slice (some ⟨m.w.heap.size,0,none⟩) n n)) (m.w.alloc (.cells (madeCells z.cells (n*size)) T)):=by
   simp [execOp,ao,ar,ax,lZ]
  have ap5:(madeCells z.cells (n*size)).toList=(List.replicate n z.cells.toList).flatten:=by rw[←rA]; exact aB4 _ _
  have hlen:(List.replicate n zero).length=n:=by simp
  have j3:=size_madeCells z.cells (n*size)
  generalize madeCells z.cells (n*size)=cur at*
  have n9:cur.toList.take ((List.replicate n zero).length*size)=(List.replicate n z.cells.toList).flatten:=by
   rw[hlen,List.take_of_length_le (by rw[Array.length_toList,j3]; exact Nat.le_refl _),ap5]
  obtain⟨b0,cN,du⟩:=EE be (w':=m.w.alloc (.cells cur T)) (T:=T) (size:=size) (cap:=n) (rows:=List.replicate n zero) (cur:=cur) rfl rfl rfl (by simp) (fun b hb=>qD m.w _ b hb) (u2 m.w _) (by rw[n9]; exact UY g1 n) (by rw[n9]; intro v ae; obtain⟨l,U,aa⟩:=List.mem_flatten.1 ae; obtain⟨_,rfl⟩:=List.mem_replicate.1 U; exact g2 v aa) (fun r ac=>by obtain⟨_,rfl⟩:=List.mem_replicate.1 ac; exact aG) j3 (by rw[hlen]; exact Nat.le_refl _) hm aU
  rw[hlen]at b0 cN du
  exact pb cu (h m.T _ _ (s3 be) rfl b0 cN du)
end
section
variable {P:Program}{m:Mem}{env:Env}{a:Act}{o:Oper}
theorem aV0 {w:World}{b o:Nat}{l new:List Value}(h:o+new.length≤l.length):(((⟨l⟩:Array Value).toList.take (o+0)++new++(⟨l⟩:Array Value).toList.drop (o+0+new.length)).toArray)=(⟨hF l o new⟩:Array Value):=by
 simp [hF]
set_option maxHeartbeats 4000000 in
theorem P7 {c8:Nat}{a0 v0:aJ}{K Rp:I→aA→Prop}{vT:Act→World→Prop}{Q:Exit→Act→World→Prop}(hs:iK P (.store c8 a0 v0) env m.H K Rp) (aq:bo P o.op (.store c8 a0 v0)=true) (be:b9 m) (he:eA m env a.tmps)
  (h: ∀x aX v,K x aX.H→b9 aX→b8 m aX→aP aX x v→vT (a.put o.dst v) aX.w)
  (hp: ∀x aX v,Rp x aX.H→b9 aX→b8 m aX→aP aX x v→Q (.panic [{v,recovered:=false}]) a aX.w):o.wp P a m.w vT Q:=by
 cases hs with
 |ij d br aw=>exact Mq br aq be he fun x aX v U aa ay bl bW=>h _ aX v (aa▸aw x U) ay bl bW
 |store aL hb aW aC jq aw=>
  cases ao:o.op<;>try (simp [ao,bo]at aq; done)
  rename_i b p T cs t x y
  rw[ao]at aq
  simp only[bo,Bool.and_eq_true,decide_eq_true_eq]at aq
  obtain⟨⟨c1,ci⟩,fc⟩:=aq
  have ab:=dy he ci
  rw[aL]at ab
  obtain⟨g1,g2⟩:=Ds (dy he fc) jq
  have hlen:=aR.length g1
  obtain⟨l,cu,cL,dv⟩:=be.aZ b T cs hb
  have n5:=aR.length cL
  have lC:=run_storeCells_at P b p T (a.eval y).cells.toList 0 ⟨l⟩ m.w cu (by simp only[List.size_toArray]; omega) g2
  rw[aV0 (w:=m.w) (b:=b) (by omega)]at lC
  have dq:(a.eval y).cells.size=c8:=by rw[←Array.length_toList,hlen]; exact aW
  have lZ:(execOp a.eval o).run P m.w= .ok .skip (m.w.setRow b ⟨hF l p (a.eval y).cells.toList⟩):=by
   simp only[execOp,ao,Instr.storeAt,w0 ab,Instr.sureAddr,Sem.run_bind,Sem.run_pure,Result.andThen_ok,storeVar,oH c1,Sem.run_ite,dq,ne_eq,not_true_eq_false,if_false,lC]
  have hw: ∀k,k≠b→(m.w.setRow b ⟨hF l p (a.eval y).cells.toList⟩).heap[k]? =m.w.heap[k]? :=fun k aw=>setRow_other m.w b k _ aw
  have x7:=Js cL g1 p
  have El: ∀v∈hF l p (a.eval y).cells.toList,v.oneCell'=true:=by
   intro v ae
   simp only[hF,List.mem_append]at ae
   rcases ae with (ae|ae)|ae
   ·exact dv v (List.mem_of_mem_take ae)
   ·exact g2 v ae
   ·exact dv v (List.mem_of_mem_drop ae)
  have Jg:=b9.ju be (w':=m.w.setRow b ⟨hF l p (a.eval y).cells.toList⟩) (T:=T) (cs:=gj cs p (aJ.aI env v0).cells) (l:=hF l p (a.eval y).cells.toList) hb rfl rfl rfl (by simp) hw (setRow_heap m.w b _ _ T (0,0) cu) x7 El
  have GU:=b8.ju be (w':=m.w.setRow b ⟨hF l p (a.eval y).cells.toList⟩) (T:=T) (cs:=gj cs p (aJ.aI env v0).cells) hb rfl rfl rfl (by simp) hw
  simp only[Oper.wp,lZ,Oper.upon]
  exact h _ _ Go.undef aw Jg GU (by simp only[aP])
 |w7 aL ht aW aC jq hf ac hlen aw=>
  cases ao:o.op<;>try (simp [ao,bo]at aq; done)
  rename_i t ver k T size rows rows' ty x y
  rw[ao]at aq
  simp only[bo,Bool.and_eq_true,decide_eq_true_eq]at aq
  obtain⟨⟨c1,ci⟩,fc⟩:=aq
  have ab:=dy he ci
  rw[aL]at ab
  obtain⟨g1,g2⟩:=Ds (dy he fc) jq
  obtain⟨g,aX,cu,cL,dv,hE,mI⟩:=U9 (P:=P) be ab ht (by rw[aW]; exact aC) g1 g2 hf ac hlen
  have dq:(a.eval y).cells.size=c8:=by rw[←Array.length_toList,aR.length g1]; exact aW
  have lZ:(execOp a.eval o).run P m.w= .ok .skip aX.w:=by
   simp only[execOp,ao,Instr.storeAt,cu,Instr.sureAddr,Sem.run_bind,Sem.run_pure,Result.andThen_ok,storeVar,oH c1,Sem.run_ite,dq,ne_eq,not_true_eq_false,if_false,cL]
  simp only[Oper.wp,lZ,Oper.upon]
  exact h _ aX Go.undef (mI▸aw) dv hE (by simp only[aP])
set_option maxHeartbeats 4000000 in
theorem av6 {e:bg}{K Rp:I→aA→Prop}{vT:Act→World→Prop}{Q:Exit→Act→World→Prop}(hs:iK P e env m.H K Rp) (aq:bo P o.op e=true) (be:b9 m) (he:eA m env a.tmps)
  (h: ∀x aX v,K x aX.H→b9 aX→b8 m aX→aP aX x v→vT (a.put o.dst v) aX.w)
  (hp: ∀x aX v,Rp x aX.H→b9 aX→b8 m aX→aP aX x v→Q (.panic [{v,recovered:=false}]) a aX.w):o.wp P a m.w vT Q:=by
 cases hs with
 |ij d br aw=>exact Mq br aq be he fun x aX v U aa ay bl bW=>h _ aX v (aa▸aw x U) ay bl bW
 |store aL hb aW aC jq aw=>exact P7 (.store aL hb aW aC jq aw) aq be he h hp
 |hP qC mD aL hb aW aC jq aw=>
  refine P7 (.store aL hb aW aC jq aw) ?_ be he h hp
  cases ao:o.op<;>try (simp [ao,bo]at aq; done)
  rw[ao]at aq
  exact aq
 |append ab ht aV hb hm aw=>
  cases ao:o.op<;>try (simp [ao,bo]at aq; done)
  rename_i T size bytes x y ez rows new c
  obtain⟨callee,args,argTypes⟩:=c
  rw[ao]at aq
  cases callee with
  |value f=>simp [bo]at aq
  |invoke _ _=>simp [bo]at aq
  |builtin b=>
   cases b<;>simp only[bo]at aq<;>first
    |(cases aq; done)
    |skip
   simp only[Bool.and_eq_true]at aq
   obtain⟨c1,ci⟩:=aq
   split at ci
   ·rename_i t u hD
    obtain⟨A⟩:=Dd ci
    obtain rfl:=vW hD
    have qa: ∃p q,args= #[p,q]∧de p x=true∧de q y=true:=by
     match aC:args.toList with
     |[p,q]=>rw[aC]at c1; simp only[hi,Bool.and_eq_true]at c1; exact⟨p,q,vW aC,c1.1,c1.2.1⟩
     |[]=>rw[aC]at c1; simp [hi]at c1
     |[_]=>rw[aC]at c1; simp [hi]at c1
     | _:: _:: _:: _=>rw[aC]at c1; simp [hi]at c1
    obtain⟨p,q,rfl,ar,ax⟩:=qa
    have hp:=dy he ar
    rw[ab]at hp
    obtain⟨news,S⟩:=Fa (P:=P) (dy he ax) aV
    obtain⟨aX,v,cu,cL,dv,hE,mI⟩:=Wq (ty:=o.type) A be hp ht S hb hm
    refine pb (v:=v) (w':=aX.w) ?_ (h _ aX v (hE▸aw) cL dv mI)
    simp [execOp,ao,resolve,invoke,builtin,cu]
   ·cases ci
 |nj ab ht aV hb hm aw=>
  cases ao:o.op<;>try (simp [ao,bo]at aq; done)
  rename_i T size bytes x y ez ver rows new c
  obtain⟨callee,args,argTypes⟩:=c
  rw[ao]at aq
  cases callee with
  |value f=>simp [bo]at aq
  |invoke _ _=>simp [bo]at aq
  |builtin b=>
   cases b<;>simp only[bo]at aq<;>first
    |(cases aq; done)
    |skip
   simp only[Bool.and_eq_true]at aq
   obtain⟨c1,ci⟩:=aq
   split at ci
   ·rename_i t u hD
    obtain⟨A⟩:=Dd ci
    obtain rfl:=vW hD
    have qa: ∃p q,args= #[p,q]∧de p x=true∧de q y=true:=by
     match aC:args.toList with
     |[p,q]=>rw[aC]at c1; simp only[hi,Bool.and_eq_true]at c1; exact⟨p,q,vW aC,c1.1,c1.2.1⟩
     |[]=>rw[aC]at c1; simp [hi]at c1
     |[_]=>rw[aC]at c1; simp [hi]at c1
     | _:: _:: _:: _=>rw[aC]at c1; simp [hi]at c1
    obtain⟨p,q,rfl,ar,ax⟩:=qa
    have hp:=dy he ar
    rw[ab]at hp
    obtain⟨news,S⟩:=Fa (P:=P) (dy he ax) aV
    obtain⟨aX,v,cu,cL,dv,hE,mI⟩:=Wn (ty:=o.type) A be hp ht S hb hm
    refine pb (v:=v) (w':=aX.w) ?_ (h _ aX v (hE▸aw) cL dv mI)
    simp [execOp,ao,resolve,invoke,builtin,cu]
   ·cases ci
 |BP ab aw=>
  cases ao:o.op<;>try (simp [ao,bo]at aq; done)
  rename_i neg x size rows op t u v w
  obtain⟨b,w',cu,cL⟩:=Z3 (P:=P) (m:=m) he ao aq ab
  exact pb cu (h _ m w' (aw b) be (b8.refl m) cL)
 |oI ab ht aC a8 U bw aw=>
  cases ao:o.op<;>try (simp [ao,bo]at aq; done)
  rename_i nB
  have HM:nB=none:=by
   cases nB with
   |none=>rfl
   |some q=>rw[ao]at aq; simp [bo]at aq
  subst HM
  obtain⟨aX,v,iH,cu,cL,dv,hE⟩:=aa0 he be ao aq ab ht aC a8 U bw
  exact pb iH (h _ aX v (dv▸aw) cu cL hE)
 |w7 aL ht aW aC jq hf ac hlen aw=>
  cases ao:o.op<;>try (simp [ao,bo]at aq; done)
  rename_i n cQ v t ver k T size rows rows' ty x y
  rw[ao]at aq
  simp only[bo,Bool.and_eq_true,decide_eq_true_eq]at aq
  obtain⟨⟨c1,ci⟩,fc⟩:=aq
  have ab:=dy he ci
  rw[aL]at ab
  obtain⟨g1,g2⟩:=Ds (dy he fc) jq
  obtain⟨g,aX,cu,cL,dv,hE,mI⟩:=U9 (P:=P) be ab ht (by rw[aW]; exact aC) g1 g2 hf ac hlen
  have dq:(a.eval y).cells.size=n:=by rw[←Array.length_toList,aR.length g1]; exact aW
  have lZ:(execOp a.eval o).run P m.w= .ok .skip aX.w:=by
   simp only[execOp,ao,Instr.storeAt,cu,Instr.sureAddr,Sem.run_bind,Sem.run_pure,Result.andThen_ok,storeVar,oH c1,Sem.run_ite,dq,ne_eq,not_true_eq_false,if_false,cL]
  simp only[Oper.wp,lZ,Oper.upon]
  exact h _ aX Go.undef (mI▸aw) dv hE (by simp only[aP])
 |oZ ab ht st jq ac aw=>
  cases ao:o.op<;>try (simp [ao,bo]at aq; done)
  rename_i x k v t ver T rows rows' s ty c9 fO bI
  rw[ao]at aq
  simp only[bo,Bool.and_eq_true,decide_eq_true_eq,Option.isSome_iff_exists]at aq
  obtain⟨⟨⟨c1,ci⟩,fc⟩,ft,ha⟩:=aq
  have g1:=dy he c1
  have g2:=dy he ci
  have g3:=dy he fc
  rw[ab]at g1
  rw[st]at g2
  simp only[aP]at g2
  obtain⟨kt,bf,bi⟩:=Qj ha
  obtain⟨aX,cu,cL,dv,hE⟩:=aJ4 (P:=P) be ht g1 bf bi g2.2 g3 (Ci g3 jq) ac
  have lZ:(execOp a.eval o).run P m.w= .ok .skip aX.w:=by
   simp [execOp,ao,g2.1,cu,Result.andThen]
  simp only[Oper.wp,lZ,Oper.upon]
  exact h _ aX Go.undef (hE▸aw) cL dv (by simp only[aP])
 |call xo aL uT aw=>
  cases ao:o.op<;>try (simp [ao,bo]at aq; done)
  rename_i f args az c
  obtain⟨callee,fC,argTypes⟩:=c
  rw[ao]at aq
  cases callee with
  |builtin b=>cases b<;>simp [bo]at aq
  |invoke _ _=>simp [bo]at aq
  |value g=>
   simp only[bo,Bool.and_eq_true]at aq
   obtain⟨⟨c1,ci⟩,fc⟩:=aq
   split at c1
   ·rename_i kw
    have:kw=f:=by simpa using c1
    subst this
    refine ui (CB ao rfl rfl fc m.w) ?_
    have aC:=rZ aL (pW he ci)
    have eh:(fC.map a.eval)=⟨fC.toList.map a.eval⟩:=Array.ext' (by simp)
    rw[show ({callee:=Callee.value (Operand.func kw),args:=fC,argTypes:=argTypes}:Call).args.map a.eval=⟨fC.toList.map a.eval⟩ from eh]
    exact tq be aC uT (fun eV aX v ac cu cL dv=>h _ aX v (aw _ _ ac) cu cL dv) (fun eV aX v ac cu cL dv=>hp _ aX v (aw _ _ ac) cu cL dv)
   ·cases c1
 |gN xo mD hex aL uT aw=>
  cases ao:o.op<;>try (simp [ao,bo]at aq; done)
  rename_i others f args az c
  obtain⟨callee,fC,argTypes⟩:=c
  rw[ao]at aq
  cases callee with
  |builtin b=>cases b<;>simp [bo]at aq
  |invoke _ _=>simp [bo]at aq
  |value g=>
   simp only[bo,Bool.and_eq_true]at aq
   obtain⟨⟨c1,ci⟩,fc⟩:=aq
   split at c1
   ·rename_i kw
    have:kw=f:=by simpa using c1
    subst this
    refine ui (CB ao rfl rfl fc m.w) ?_
    have aC:=rZ aL (pW he ci)
    have eh:(fC.map a.eval)=⟨fC.toList.map a.eval⟩:=Array.ext' (by simp)
    rw[show ({callee:=Callee.value (Operand.func kw),args:=fC,argTypes:=argTypes}:Call).args.map a.eval=⟨fC.toList.map a.eval⟩ from eh]
    exact tq be aC uT (fun eV aX v ac cu cL dv=>h _ aX v (aw _ _ ac) cu cL dv) (fun eV aX v ac cu cL dv=>hp _ aX v (aw _ _ ac) cu cL dv)
   ·cases c1
 |mo xo ab hf mD hex aL uT aw=>
  cases ao:o.op<;>try (simp [ao,bo]at aq; done)
  rename_i others x args f cap az c
  obtain⟨callee,fC,argTypes⟩:=c
  rw[ao]at aq
  cases callee with
  |builtin b=>cases b<;>simp [bo]at aq
  |invoke _ _=>simp [bo]at aq
  |value g=>
   simp only[bo,Bool.and_eq_true]at aq
   obtain⟨c1,ci⟩:=aq
   have a7:=dy he c1
   rw[ab]at a7
   obtain⟨l,g1,g2⟩:=yy a7
   refine ui (E5 ao rfl g1 hf m.w) ?_
   have aC:=rZ aL (aR.append (pW he ci) g2)
   have eh:(fC.map a.eval)++⟨l⟩=⟨fC.toList.map a.eval++l⟩:=by
    apply Array.ext'
    simp
   rw[show ({callee:=Callee.value g,args:=fC,argTypes:=argTypes}:Call).args.map a.eval++⟨l⟩=⟨fC.toList.map a.eval++l⟩ from eh]
   exact tq be aC uT (fun eV aX v ac cu cL dv=>h _ aX v (aw _ _ ac) cu cL dv) (fun eV aX v ac cu cL dv=>hp _ aX v (aw _ _ ac) cu cL dv)
 |gT xo ab hf aL uT aw=>
  cases ao:o.op<;>try (simp [ao,bo]at aq; done)
  rename_i x args f cap az c
  obtain⟨callee,fC,argTypes⟩:=c
  rw[ao]at aq
  cases callee with
  |builtin b=>cases b<;>simp [bo]at aq
  |invoke _ _=>simp [bo]at aq
  |value g=>
   simp only[bo,Bool.and_eq_true]at aq
   obtain⟨c1,ci⟩:=aq
   have a7:=dy he c1
   rw[ab]at a7
   obtain⟨l,g1,g2⟩:=yy a7
   refine ui (E5 ao rfl g1 hf m.w) ?_
   have aC:=rZ aL (aR.append (pW he ci) g2)
   have eh:(fC.map a.eval)++⟨l⟩=⟨fC.toList.map a.eval++l⟩:=by
    apply Array.ext'
    simp
   rw[show ({callee:=Callee.value g,args:=fC,argTypes:=argTypes}:Call).args.map a.eval++⟨l⟩=⟨fC.toList.map a.eval++l⟩ from eh]
   exact tq be aC uT (fun eV aX v ac cu cL dv=>h _ aX v (aw _ _ ac) cu cL dv) (fun eV aX v ac cu cL dv=>hp _ aX v (aw _ _ ac) cu cL dv)
 |y8 xo ab hf aL uT aw=>
  cases ao:o.op<;>try (simp [ao,bo]at aq; done)
  rename_i x args f cap az c
  obtain⟨callee,fC,argTypes⟩:=c
  rw[ao]at aq
  cases callee with
  |builtin b=>cases b<;>simp [bo]at aq
  |invoke _ _=>simp [bo]at aq
  |value g=>
   simp only[bo,Bool.and_eq_true]at aq
   obtain⟨c1,ci⟩:=aq
   have a7:=dy he c1
   rw[ab]at a7
   obtain⟨l,g1,g2⟩:=yy a7
   refine ui (aT5 ao rfl g1 hf m.w) ?_
   have aC:=rZ aL (aR.append g2 (pW he ci))
   have eh:⟨l⟩++(fC.map a.eval)=⟨l++fC.toList.map a.eval⟩:=by
    apply Array.ext'
    simp
   rw[show ⟨l⟩++({callee:=Callee.value g,args:=fC,argTypes:=argTypes}:Call).args.map a.eval=⟨l++fC.toList.map a.eval⟩ from eh]
   exact tq be aC uT (fun eV aX v ac cu cL dv=>h _ aX v (aw _ _ ac) cu cL dv) (fun eV aX v ac cu cL dv=>hp _ aX v (aw _ _ ac) cu cL dv)
 |Ag ab hb hf ac aC aU hm aw=>
  cases ao:o.op<;>try (simp [ao,bo]at aq; done)
  rename_i len size c9 b T cs rows t x cJ ad nB
  rw[ao]at aq
  cases cJ<;>cases ad<;>cases nB<;>simp only[bo,Bool.and_eq_true]at aq<;>first
   |(cases aq; done)
   |skip
  obtain⟨c1,ci⟩:=aq
  have qj:=dy he c1
  rw[ab]at qj
  split at ci
  ·rename_i n e hu
   simp only[Bool.and_eq_true,decide_eq_true_eq]at ci
   obtain⟨rfl,dq⟩:=ci
   have lZ:(execOp a.eval o).run P m.w= .ok (.value (.slice (some ⟨b,0,none⟩) n n)) m.w:=by
    have aW: ¬n=0:=by omega
    simp [execOp,ao,Instr.sliceAt,Instr.sliceBounds,run_underlying hu,w0 qj,Instr.sureAddr,asAddr,oH dq,oN,aW]
   have hs:=HSub.qz m.H b
   have cu:b9 ⟨m.w,m.H.qz b,m.L,m.T⟩:=b9.forget hs be
   have v1:b8 m ⟨m.w,m.H.qz b,m.L,m.T⟩:=b8.forget hs (b8.refl m)
   obtain⟨l,g1,g2,g3⟩:=be.aZ b T cs hb
   have cB:b<m.w.heap.size:=(Array.getElem?_eq_some_iff.1 g1).1
   refine pb lZ (h _ ⟨m.w,m.H.qz b,m.L,m.T⟩ _ aw cu v1 ?_)
   simp only[aP]
   refine⟨_,_,_,rfl,aC.symm,⟨Nat.le_refl _,hm⟩,.inr ⟨b,0,rfl,ef.of ac (l:=l) (by rw[hf]; exact aR.forget (w:=m.w) (L:=m.L) (T:=m.T) hs _ _ g2) fun j v bx=>⟨?_,g3 v (List.mem_of_getElem? bx),cB,by simp [aA.qz],fun dT i ht uS=> ?_⟩⟩⟩
   ·rw[Nat.zero_add,cell_of_row m.w b _ _ _ _ g1]
    simpa using bx
   ·have:=((be.tok dT i ht).2.2.2 b uS).1
    rw[this]at hb
    cases hb
  ·cases ci
 |panic ab aw=>
  cases ao:o.op<;>try (simp [ao,bo]at aq; done)
  rename_i x t cQ y
  rw[ao]at aq
  simp only[bo]at aq
  have ae:=dy he aq
  rw[ab]at ae
  have as8:=ae
  simp only[aP]at ae
  obtain⟨u,hu,_⟩:=ae
  have lZ:(execOp a.eval o).run P m.w= .halt (.panic (a.eval y)) m.w:=by
   simp [execOp,ao,hu,Instr.panic]
  simp only[Oper.wp,lZ,Oper.upon]
  exact hp _ m _ aw be (b8.refl m) as8
end
structure iy where
 m:Mem
 D:List Deferred
 kt:List Env
def iy.free (md:iy) (i:bY):Prop:=∀E∈md.kt,∀p∈E,i.dst≠some p.1
def Rel (n:Nat) (m0:iy) (env:Env) (H:aA) (a:Act) (w:World):Prop:=
 ∃m:Mem,m.w=w∧m.H=H∧b9 m∧b8 m0.m m∧eA m env a.tmps∧(a.defers=m0.D∧∀E∈m0.kt,eA m E a.tmps)∧a.tmps.size=n
theorem UW {m aX:Mem}{env:Env}{a:Act}{n:Nat}{dst:Option Nat}{x:I}{v:Value}(he:eA m env a.tmps) (aI:b8 m aX) (ae:aP aX x v) (aW:a.tmps.size=n) (br: ∀d,dst=some d→d<n):eA aX (env.put dst x) (a.put dst v).tmps:=by
 intro k
 cases dst with
 |none=>exact aP.aI aI _ _ (he k)
 |some d=>
  have cB:=br d rfl
  simp only[Env.put,Env.get,Act.put]
  by_cases e:d=k
  ·subst e
   simp only[beq_self_eq_true,cond_true]
   have:(a.tmps.setIfInBounds d v).getD d undef=v:=by
    simp [Array.getD_eq_getD_getElem?,aW,cB]
   rw[this]
   exact ae
  ·have hb:(d==k)=false:=by simpa using e
   simp only[hb,cond_false]
   have:(a.tmps.setIfInBounds d v).getD k undef=a.tmps.getD k undef:=by
    simp [Array.getD_eq_getD_getElem?,Array.getElem?_setIfInBounds_ne e]
   rw[this]
   exact aP.aI aI _ _ (he k)
theorem put_defers (a:Act) (dst:Option Nat) (v:Value):(a.put dst v).defers=a.defers:=by cases dst<;>rfl
theorem aJ5 (a:Act) (dst:Option Nat) (v:Value):(a.put dst v).tmps.size=a.tmps.size:=by cases dst<;>simp [Act.put]
theorem ad8 {env:Env}{k:Nat}(h: ∀p∈env,p.1≠k):env.get k= .eX:=by
 induction env with
 |nil=>rfl
 |cons p env bB=>
  obtain⟨j,v⟩:=p
  have:(j==k)=false:=by simpa using h (j,v) (by simp)
  simp only[Env.get,this,cond_false]
  exact bB fun q bw=>h q (by simp [bw])
theorem Jp {m aX:Mem}{kt:Env}{a:Act}{dst:Option Nat}{v:Value}(he:eA m kt a.tmps) (aI:b8 m aX) (hf: ∀p∈kt,dst≠some p.1):eA aX kt (a.put dst v).tmps:=by
 intro k
 cases dst with
 |none=>exact aP.aI aI _ _ (he k)
 |some d=>
  by_cases e:d=k
  ·subst e
   rw[ad8 fun p hp e=>hf p hp (by rw[e])]
   simp only[aP]
  ·have:(a.put (some d) v).tmps.getD k undef=a.tmps.getD k undef:=by
    simp [Act.put,Array.getD_eq_getD_getElem?,Array.getElem?_setIfInBounds_ne e]
   rw[this]
   exact aP.aI aI _ _ (he k)
theorem UF {n:Nat}{m0:iy}{m aX:Mem}{env:Env}{a:Act}{dst:Option Nat}{x:I}{v:Value}(he:eA m env a.tmps) (cA:b8 m0.m m) (aI:b8 m aX) (be:b9 aX) (ae:aP aX x v) (iR:a.defers=m0.D∧∀E∈m0.kt,eA m E a.tmps) (aW:a.tmps.size=n) (br: ∀d,dst=some d→d<n) (hf: ∀E∈m0.kt,∀p∈E,dst≠some p.1):Rel n m0 (env.put dst x) aX.H (a.put dst v) aX.w:=
 ⟨aX,rfl,rfl,be,cA.trans aI,UW he aI ae aW br,⟨by rw[put_defers,iR.1],fun E dC=>Jp (iR.2 E dC) aI (hf E dC)⟩,by rw[aJ5,aW]⟩
theorem Zw {P:Program}{n:Nat}{ops:Array Oper}{o:Oper}{i:bY}(h:rl P n ops o i=true):o.dst=i.dst∧(∀d,i.dst=some d→d<n)∧Dt ops o.guard i.guard=true∧bo P o.op i.op=true∧(∀t w,i.guard=some (t,w)→t<n):=by
 simp only[rl,Bool.and_eq_true,decide_eq_true_eq]at h
 obtain⟨⟨⟨⟨U,aa⟩,bW⟩,ay⟩,bl⟩:=h
 refine⟨U,fun d br=> ?_,ay,bl,fun t w a7=> ?_⟩
 ·rw[br]at aa
  simp [Nat.blt_eq]at aa
  exact aa
 ·rw[a7]at bW
  simp [Nat.blt_eq]at bW
  exact bW
theorem VN {m:Mem}{env:Env}{ops:Array Oper}{o:Oper}{i:bY}{tmps:Array Value}{b:Bool}(a7:Dt ops o.guard i.guard=true) (he:eA m env tmps) (hw:wanted i env=some b) (dq: ∀j w,i.guard=some (j,w)→j<tmps.size):Region.wanted o (yielded ops tmps)=b:=by
 unfold wanted at hw
 unfold Dt at a7
 cases ao:o.guard with
 |none=>
  cases ad:i.guard with
  |none=>rw[ad]at hw; simp at hw; subst hw; simp [Region.wanted,ao]
  |some _=>rw[ao,ad]at a7; cases a7
 |some H6=>
  obtain⟨j,w⟩:=H6
  cases ad:i.guard with
  |none=>rw[ao,ad]at a7; cases a7
  |some JJ=>
   obtain⟨t,w'⟩:=JJ
   rw[ao,ad]at a7
   simp only[Bool.and_eq_true,decide_eq_true_eq]at a7
   obtain⟨rfl,br⟩:=a7
   have cB:=dq t w ad
   have aV:yielded ops tmps j=match tmps[t]? with|some (.bool b)=>some b| _=>none:=by
    unfold yielded
    rw[br]
    rfl
   have tP:tmps[t]? =some (tmps.getD t undef):=by
    simp [Array.getD_eq_getD_getElem?,cB]
   rw[ad]at hw
   simp only at hw
   have ac:=he t
   split at hw
   ·rename_i c aq
    rw[aq]at ac
    simp at hw
    subst hw
    simp only[Region.wanted,ao,aV,tP,vy ac]
    cases c<;>cases w<;>rfl
   ·rename_i aq
    rw[aq]at ac
    simp at hw
    subst hw
    simp only[Region.wanted,ao,aV,tP,w3 ac]
    rfl
   ·cases hw
def GStep (P:Program) (i:bY) (env:Env) (H:aA) (K Rp:I→aA→Prop):Prop:=
 match wanted i env with
 |some true=>iK P i.op env H K Rp
 |some false=>K .undef H
 |none=>False
theorem C0 {P:Program}{i:bY}{l:List bY}{env:Env}{H:aA}{K:Env→aA→Prop}{Rp:I→aA→Prop}:bt P (i::l) env H K Rp↔GStep P i env H (fun v aB=>bt P l (env.put i.dst v) aB K Rp) Rp:=by
 simp only[bt,GStep]
 all_goals (cases wanted i env with
  |none=>exact Iff.rfl
  |some b=>cases b<;>exact Iff.rfl)
def lQ (e cI:Env):Prop:=∀k,e.get k=cI.get k
def AB (op:bg) (env bd:Env):Prop:=∀x∈op.cU,x.aI env=x.aI bd
def me (i:bY) (env bd:Env):Prop:=AB i.op env bd∧∀j w,i.guard=some (j,w)→env.get j=bd.get j
theorem KQ {i:bY}{env bd:Env}(h: ∀k∈i.reads,env.get k=bd.get k):me i env bd:=by
 refine⟨fun x ab=> ?_,fun j w a7=>h j ?_⟩
 ·cases x with
  |c a=>rfl
  |t n=>exact h n (by simp only[bY.reads,List.mem_append]; exact .inl (List.mem_filterMap.2 ⟨.t n,ab,rfl⟩))
 ·simp [bY.reads,a7]
theorem uh {i:bY}{env bd:Env}(h:me i env bd):wanted i env=wanted i bd:=by
 unfold wanted
 cases a7:i.guard with
 |none=>rfl
 |some H6=>obtain⟨j,w⟩:=H6; simp only[h.2 j w a7]
theorem sF {xs:List aJ}{env bd:Env}(h: ∀x∈xs,x.aI env=x.aI bd):xs.map (aJ.aI env)=xs.map (aJ.aI bd):=List.map_congr_left h
theorem Lf {env bd:Env}: ∀(ps:List (Nat×Nat×aJ)) (cs:List I),(∀x∈ps.map (·.2.2),x.aI env=x.aI bd)→pg env cs ps=pg bd cs ps
 |[],_,_=>rfl
 |(o,s,x)::ps,cs,h=>by
  have U:=h x (by simp)
  simp only[pg,U]
  rw[Lf ps _ fun y aV=>h y (by simp at aV ⊢; exact .inr aV)]
theorem zT {env bd:Env}{d:Nat}{x:Option aJ}(h: ∀y∈x.toList,y.aI env=y.aI bd):kA env d x=kA bd d x:=by
 cases x with
 |none=>rfl
 |some y=>simp only[kA,h y (by simp)]
theorem R0 {op:bg}{env bd:Env}(H:aA) (h:AB op env bd):ca op env H=ca op bd H:=by
 cases op<;>simp only[ca]<;>simp only[AB,bg.cU,List.mem_cons,List.not_mem_nil,or_false,forall_eq_or_imp,forall_eq]at h<;>first
  |rfl
  |(simp only[h]; done)
  |(rw[h]; done)
  |(obtain⟨U,aa⟩:=h; rw[U,aa]; done)
  |(obtain⟨U,aa,ay⟩:=h; rw[U,aa,ay]; done)
  |(rw[Lf _ _ h]; done)
  |(obtain⟨U,aa⟩:=h; simp only[aJ.aI]at U; rw[U,aa]; done)
  |(rw[sF h]; done)
theorem FJ {env bd:Env}{ps:List (Nat×aJ)}(h: ∀x∈ps.map (·.2),x.aI env=x.aI bd):lr env ps=lr bd ps:=by
 unfold lr
 refine List.map_congr_left fun p hp=> ?_
 rw[h p.2 (List.mem_map.2 ⟨p,hp,rfl⟩)]
theorem Mo {P:Program}{op:bg}{env bd:Env}{H:aA}{d:D}(h:AB op env bd) (br:e9 P op env H d):e9 P op bd H d:=by
 cases br with
 |pure hp=>exact .pure ((R0 H h).symm.trans hp)
 |quo ab aV hb=>exact .quo ((h _ (by simp [bg.cU])).symm.trans ab) ((h _ (by simp [bg.cU])).symm.trans aV) hb
 |rem ab aV hb=>exact .rem ((h _ (by simp [bg.cU])).symm.trans ab) ((h _ (by simp [bg.cU])).symm.trans aV) hb
 |j0 ab aV hb=>exact .j0 ((h _ (by simp [bg.cU])).symm.trans ab) ((h _ (by simp [bg.cU])).symm.trans aV) hb
 |py ab ad aU ac=>exact .py ((h _ (by simp [bg.cU])).symm.trans ab) ((h _ (by simp [bg.cU])).symm.trans ad) aU ac
 |pw ab ad aU ac=>exact .pw ((h _ (by simp [bg.cU])).symm.trans ab) ((h _ (by simp [bg.cU])).symm.trans ad) aU ac
 |qk ab ad aU ac=>exact .qk ((h _ (by simp [bg.cU])).symm.trans ab) ((h _ (by simp [bg.cU])).symm.trans ad) aU ac
 |oY ab ad aU ac=>exact .oY ((h _ (by simp [bg.cU])).symm.trans ab) ((h _ (by simp [bg.cU])).symm.trans ad) aU ac
 |px ab ad aU ac=>exact .px ((h _ (by simp [bg.cU])).symm.trans ab) ((h _ (by simp [bg.cU])).symm.trans ad) aU ac
 |kj ab ad aU U aC ae=>exact .kj ((h _ (by simp [bg.cU])).symm.trans ab) ((h _ (by simp [bg.cU])).symm.trans ad) aU U aC ae
 |ic ab ad aU aq=>exact .ic ((h _ (by simp [bg.cU])).symm.trans ab) ((h _ (by simp [bg.cU])).symm.trans ad) aU aq
 |kE ab aC a8 U aa=>exact .kE ((h _ (by simp [bg.cU])).symm.trans ab) ((zT fun y aV=>h y (by simp only[bg.cU,List.mem_cons,List.mem_append]; exact .inr (.inl aV))).symm.trans aC) ((zT fun y aV=>h y (by simp only[bg.cU,List.mem_cons,List.mem_append]; exact .inr (.inr aV))).symm.trans a8) U aa
 |ii ab aC a8 U aa=>exact .ii ((congrArg (oJ _) (h _ (by simp [bg.cU]))).symm.trans ab) ((zT fun y aV=>h y (by simp only[bg.cU,List.mem_cons,List.mem_append]; exact .inr (.inl (.inl aV)))).symm.trans aC) ((zT fun y aV=>h y (by simp only[bg.cU,List.mem_cons,List.mem_append]; exact .inr (.inl (.inr aV)))).symm.trans a8) U aa
 |kN ab=>exact .kN ((h _ (by simp [bg.cU])).symm.trans ab)
 |box ab=>rename_i T x; have e:=h x (by simp [bg.cU]); rw[e]at ab ⊢; exact .box ab
 |alloc aG=>exact .alloc aG
 |pT ac hs ao=>exact .pT ((FJ fun x ab=>h x (by simpa [bg.cU] using ab)).symm.trans ac) hs ao
 |nV ac hs ao aU=>exact .nV ((FJ fun x ab=>h x (by simpa [bg.cU] using ab)).symm.trans ac) hs ao aU
 |rY ab aV hb hm aU=>
  rename_i T size bytes x y rows
  exact .rY ((h _ (by simp [bg.cU])).symm.trans ab) (by rw[←h y (by simp [bg.cU])]; exact aV) hb hm aU
 |jF aL hp=>exact .jF (by rw[←sF fun x ab=>h x (by simpa [bg.cU] using ab)]; exact aL) hp
 |ld ab hf aL hp=>exact .ld ((h _ (by simp [bg.cU])).symm.trans ab) hf (by rw[←sF fun x ab=>h x (by simp only[bg.cU,List.mem_cons]; exact .inr ab)]; exact aL) hp
 |qT aL hp=>exact .qT (by rw[←sF fun x ab=>h x (by simpa [bg.cU] using ab)]; exact aL) hp
 |rK ab hf aL hp=>exact .rK ((h _ (by simp [bg.cU])).symm.trans ab) hf (by rw[←sF fun x ab=>h x (by simp only[bg.cU,List.mem_cons]; exact .inr ab)]; exact aL) hp
 |iq ab ht=>exact .iq ((h _ (by simp [bg.cU])).symm.trans ab) ht
 |o0 ab hb hm ao aG aU=>exact .o0 ((h _ (by simp [bg.cU])).symm.trans ab) hb hm ao aG aU
 |mkMap=>exact .mkMap
 |ji ab ht aw ac=>exact .ji ((h _ (by simp [bg.cU])).symm.trans ab) ht ((h _ (by simp [bg.cU])).symm.trans aw) ac
 |rF ab aw=>exact .rF ((h _ (by simp [bg.cU])).symm.trans ab) ((h _ (by simp [bg.cU])).symm.trans aw)
 |wO ab=>exact .wO ((h _ (by simp [bg.cU])).symm.trans ab)
 |wN ab ac=>exact .wN ((h _ (by simp [bg.cU])).symm.trans ab) ac
 |jJ ab ht=>exact .jJ ((h _ (by simp [bg.cU])).symm.trans ab) ht
 |jr ab ht ad aU U=>exact .jr ((h _ (by simp [bg.cU])).symm.trans ab) ht ((h _ (by simp [bg.cU])).symm.trans ad) aU U
 |j5 ab ht aC ae=>exact .j5 ((h _ (by simp [bg.cU])).symm.trans ab) ht aC ae
 |nU ac hs ao aU=>exact .nU ((FJ fun x ab=>h x (by simpa [bg.cU] using ab)).symm.trans ac) hs ao aU
 |xu ab aV hb hm aU=>
  rename_i T size bytes x y rows
  exact .xu ((h _ (by simp [bg.cU])).symm.trans ab) (by rw[←h y (by simp [bg.cU])]; exact aV) hb hm aU
 |wX aL hp=>exact .wX (by rw[←sF fun x ab=>h x (by simpa [bg.cU] using ab)]; exact aL) hp
theorem x9 {P:Program}{op:bg}{env bd:Env}{H:aA}{K K' Rp jX:I→aA→Prop}(h:AB op env bd) (aw: ∀v aB,K v aB→K' v aB) (ac: ∀v aB,Rp v aB→jX v aB) (hs:iK P op env H K Rp):iK P op bd H K' jX:=by
 cases hs with
 |ij d br a8=>exact .ij d (Mo h br) fun x ab=>aw _ _ (a8 x ab)
 |store aL hb aW aC ao a8=>
  rename_i n a v b o T cs
  have e:=h v (by simp [bg.cU])
  exact .store ((h _ (by simp [bg.cU])).symm.trans aL) hb (by rw[←e]; exact aW) aC (by rw[←e]; exact ao) (by rw[←e]; exact aw _ _ a8)
 |hP qC mD aL hb aW aC ao a8=>
  rename_i fv others n a v b o T cs
  have e:=h v (by simp [bg.cU])
  refine .hP ((h (.t fv) (by simp [bg.cU])).symm.trans qC) (fun s hs=> ?_) ((h _ (by simp [bg.cU])).symm.trans aL) hb (by rw[←e]; exact aW) aC (by rw[←e]; exact ao) (by rw[←e]; exact aw _ _ a8)
  obtain⟨b1,U,aa⟩:=mD s hs
  exact⟨b1,(h (.t s) (by simp [bg.cU]; exact .inr (.inr (.inr hs)))).symm.trans U,aa⟩
 |append ab ht aV hb hm a8=>
  rename_i T size bytes x y t rows new
  exact .append ((h _ (by simp [bg.cU])).symm.trans ab) ht (by rw[←h y (by simp [bg.cU])]; exact aV) hb hm (aw _ _ a8)
 |nj ab ht aV hb hm a8=>
  rename_i T size bytes x y t ver rows new
  exact .nj ((h _ (by simp [bg.cU])).symm.trans ab) ht (by rw[←h y (by simp [bg.cU])]; exact aV) hb hm (aw _ _ a8)
 |BP ab a8=>exact .BP ((h _ (by simp [bg.cU])).symm.trans ab) fun b=>aw _ _ (a8 b)
 |oI ab ht aC an5 U bw a8=>exact .oI ((h _ (by simp [bg.cU])).symm.trans ab) ht ((zT fun y aV=>h y (by simp only[bg.cU,List.mem_cons,List.mem_append]; exact .inr (.inl aV))).symm.trans aC) ((zT fun y aV=>h y (by simp only[bg.cU,List.mem_cons,List.mem_append]; exact .inr (.inr aV))).symm.trans an5) U bw (aw _ _ a8)
 |w7 aL ht aW aC ao hf lA hlen a8=>
  rename_i n a v t ver k T size rows rows'
  have e:=h v (by simp [bg.cU])
  exact .w7 ((h _ (by simp [bg.cU])).symm.trans aL) ht (by rw[←e]; exact aW) aC (by rw[←e]; exact ao) (by rw[←e]; exact hf) lA hlen (aw _ _ a8)
 |oZ ab ht qe ao lA a8=>
  rename_i x k v t ver T rows rows' s
  have e:=h v (by simp [bg.cU])
  exact .oZ ((h _ (by simp [bg.cU])).symm.trans ab) ht ((h _ (by simp [bg.cU])).symm.trans qe) (by rw[←e]; exact ao) (by rw[←e]; exact lA) (aw _ _ a8)
 |call Q aL aq a8=>exact .call Q (by rw[←sF fun x ab=>h x (by simpa [bg.cU] using ab)]; exact aL) aq fun o aB bw=>by have:=a8 o aB bw; cases o<;>first|exact aw _ _ this|exact ac _ _ this
 |gT Q ab hf aL aq a8=>exact .gT Q ((h _ (by simp [bg.cU])).symm.trans ab) hf (by rw[←sF fun x ab=>h x (by simp only[bg.cU,List.mem_cons]; exact .inr ab)]; exact aL) aq fun o aB bw=>by have:=a8 o aB bw; cases o<;>first|exact aw _ _ this|exact ac _ _ this
 |y8 Q ab hf aL aq a8=>exact .y8 Q ((h _ (by simp [bg.cU])).symm.trans ab) hf (by rw[←sF fun x ab=>h x (by simp only[bg.cU,List.mem_cons]; exact .inr ab)]; exact aL) aq fun o aB bw=>by have:=a8 o aB bw; cases o<;>first|exact aw _ _ this|exact ac _ _ this
 |Ag ab hb hf lA aC aU hm a8=>exact .Ag ((h _ (by simp [bg.cU])).symm.trans ab) hb hf lA aC aU hm (aw _ _ a8)
 |mo Q ab hf ao he aL aq a8=>
  refine .mo Q ((h _ (by simp [bg.cU])).symm.trans ab) hf (fun s hs=> ?_) he (by rw[←sF fun x ab=>h x (by simp only[bg.cU,List.mem_cons,List.mem_append]; exact .inr (.inl ab))]; exact aL) aq fun o aB bw=>by have:=a8 o aB bw; cases o<;>first|exact aw _ _ this|exact ac _ _ this
  obtain⟨b,U,aa⟩:=ao s hs
  exact⟨b,(h (.t s) (by simp only[bg.cU,List.mem_cons,List.mem_append]; exact .inr (.inr (List.mem_map.2 ⟨s,hs,rfl⟩)))).symm.trans U,aa⟩
 |gN Q ao he aL aq a8=>
  refine .gN Q (fun s hs=> ?_) he (by rw[←sF fun x ab=>h x (by simp only[bg.cU,List.mem_append]; exact .inl ab)]; exact aL) aq fun o aB bw=>by have:=a8 o aB bw; cases o<;>first|exact aw _ _ this|exact ac _ _ this
  obtain⟨b,U,aa⟩:=ao s hs
  exact⟨b,(h (.t s) (by simp only[bg.cU,List.mem_append]; exact .inr (List.mem_map.2 ⟨s,hs,rfl⟩))).symm.trans U,aa⟩
 |panic ab a8=>exact .panic ((h _ (by simp [bg.cU])).symm.trans ab) (ac _ _ a8)
theorem xQ {P:Program}{i:bY}{env bd:Env}{H:aA}{K K' Rp jX:I→aA→Prop}(h:me i env bd) (aw: ∀v aB,K v aB→K' v aB) (ac: ∀v aB,Rp v aB→jX v aB) (hs:GStep P i env H K Rp):GStep P i bd H K' jX:=by
 unfold GStep at hs ⊢
 rw[←uh h]
 split at hs
 ·exact x9 h.1 aw ac hs
 ·exact aw _ _ hs
 ·exact hs.elim
theorem IP {e cI:Env}(h:lQ e cI) (d:Option Nat) (v:I):lQ (e.put d v) (cI.put d v):=fun k=>by
 cases d with
 |none=>exact h k
 |some d=>simp only[Env.put,Env.get,h k]
theorem AF {i:bY}{e cI:Env}(h:lQ e cI):me i e cI:=KQ fun k _=>h k
theorem Gn {P:Program}{K:Env→aA→Prop}{Rp:I→aA→Prop}(dZ: ∀e cI H,lQ e cI→K e H→K cI H): ∀(l:List bY){e cI:Env}{H:aA},lQ e cI→bt P l e H K Rp→bt P l cI H K Rp
 |[],e,cI,H,h,br=>by simp only[bt]at br ⊢; exact dZ e cI H h br
 |i::l,e,cI,H,h,br=>by
  rw[C0]at br ⊢
  exact xQ (AF h) (fun v aB a8=>Gn dZ l (IP h i.dst v) a8) (fun _ _ h=>h) br
def kV (op:bg) (env:Env):D:=
 match op with
 | .bin o x y=>(match o,x.aI env,y.aI env with
  | .quo,.int k a,.int _ b=> .dj (.int k (k.wrap (a.tdiv b)))
  | .rem,.int k a,.int _ b=> .dj (.int k (a.tmod b))
  | .add,.str a,.str b=> .dj (.str (a++b))
  | _,_,_=> .dj .eX)
 | .gy size x i=>(match x.aI env,i.aI env with
  | .af _ rows,.int _ n=> .dj (.eK (rows.getD n.toNat []) 0)
  | .own _ _ rows,.int _ n=> .dj (.eK (rows.getD n.toNat []) 0)
  | .ev (.slice (some ⟨b,o,_⟩) _ _),.int _ n=> .dj (.ptr b (o+n.toNat*size))
  | _,_=> .dj .eX)
 | .oA _ size x i=>(match x.aI env,i.aI env with
  | .ptr b o,.int _ n=> .dj (.ptr b (o+n.toNat*size))
  | .eK r o,.int _ n=> .dj (.eK r (o+n.toNat*size))
  | _,_=> .dj .eX)
 | .kj agg _ size x i=>(match x.aI env,i.aI env with
  | .agg cs,.int _ n=> .dj ((I.js agg ((cs.drop (n.toNat*size)).take size)).getD .eX)
  | _,_=> .dj .eX)
 | .ic x i=>(match x.aI env,i.aI env with
  | .str s,.int _ n=> .dj (.int .u8 (s.getD n.toNat 0).toNat)
  | _,_=> .dj .eX)
 | .kE x cJ ad=>(match x.aI env with
  | .str s=> .dj (.str ((s.take ((kA env s.length ad).getD 0)).drop ((kA env 0 cJ).getD 0)))
  | _=> .dj .eX)
 | .ii size x cJ ad _=>(match oJ size (x.aI env) with
  |some rows=> .dj (.af size ((rows.take ((kA env rows.length ad).getD 0)).drop ((kA env 0 cJ).getD 0)))
  |none=> .dj .eX)
 | .kN T x=>(match x.aI env with
  | .str s=> .dj (.af 1 (s.map fun c=>[.int .u8 c.toNat]))
  | _=> .dj .eX)
 | .box T x=> .km T (x.aI env).cells
 | .alloc T zero=> .km T zero
 | .da _ size _ _ parts=> .dj (.af size (lr env parts))
 | .nV T size _ _ parts=> .EF T size (lr env parts)
 | .nU T size _ _ parts=> .yj T size (lr env parts)
 | .o0 T size _ zero x=> .yj T size (List.replicate (match x.aI env with| .int _ n=>n.toNat| _=>0) zero)
 | .zW T size _ _ rows=> .yj T size rows
 | .mkMap T=> .bj (.bb T 0 []) fun x=> .c6 x 0
 | .append T size _ _ y=> .EF T size ((rowsOf size (y.aI env)).getD [])
 | .ys _ _ r=> .dj r
 | .yt _ _ r=> .dj r
 | _=> .dj .eX
def Me (op:bg) (env:Env) (H:aA):D:=
 match ca op env H with
 |some v=> .dj v
 |none=>kV op env
theorem Mp {P:Program}{op:bg}{env:Env}{H:aA}{d:D}(ac:op.dm≤2) (h:e9 P op env H d):d=Me op env H:=by
 unfold Me
 cases h with
 |pure hp=>simp only[hp]
 |quo ab aV hb=>simp [ca,ab,aV,r1,kV]
 |rem ab aV hb=>simp [ca,ab,aV,r1,kV]
 |j0 ab aV hb=>simp [ca,ab,aV,ur,kV]
 |py ab ad aU bw=>simp [ca,ab,ad,kV,bw,List.getD]
 |pw ab ad aU bw=>simp [ca,ab,ad,kV,bw,List.getD]
 |qk ab ad aU ac=>simp [ca,ab,ad,kV]
 |oY ab ad aU ac=>simp [ca,ab,ad,kV]
 |px ab ad aU ac=>simp [ca,ab,ad,kV]
 |kj ab ad aU U aC ae=>simp [ca,ab,ad,kV,ae]
 |ic ab ad aU aq=>simp [ca,ab,ad,kV,aq,List.getD]
 |kE ab aC a8 U aa=>simp [ca,ab,kV,aC,a8]
 |ii ab aC a8 U aa=>simp [ca,ab,kV,aC,a8]
 |kN ab=>simp [ca,kV,ab]
 |box ab=>simp [ca,kV]
 |alloc aG=>simp [ca,kV]
 |pT ac hs ao=>simp [ca,kV,ac]
 |nV ac hs ao aU=>simp [ca,kV,ac]
 |rY ab aV hb hm aU=>simp [ca,kV,aV]
 |jF aL hp=>simp [bg.dm]at ac
 |ld ab hf aL hp=>simp [bg.dm]at ac
 |iq ab ht=>simp [bg.dm]at ac
 |wO ab=>simp [bg.dm]at ac
 |wN ab _=>simp [bg.dm]at ac
 |jJ ab ht=>simp [bg.dm]at ac
 |jr ab ht ad aU U=>simp [bg.dm]at ac
 |j5 ab ht aC ae=>simp [bg.dm]at ac
 |nU bw hs ao aU=>simp [ca,kV,bw]
 |o0 ab hb hm ao aG aU=>simp [ca,kV,ab]
 |mkMap=>simp [ca,kV]
 |ji=>simp [bg.dm]at ac
 |rF=>simp [bg.dm]at ac
 |xu ab aV hb hm aU=>simp [bg.dm]at ac
 |wX aL hp=>simp [ca,kV]
 |qT aL hp=>simp [ca,kV]
 |rK ab hf aL hp=>simp [ca,kV]
theorem ab6 {P:Program}{op:bg}{env:Env}{H:aA}{d Mc:D}(ac:op.dm≤2) (h:e9 P op env H d) (k:e9 P op env H Mc):d=Mc:=by
 rw[Mp ac h,Mp ac k]
def C4 (H aB:aA):Prop:=∀b x,H.aZ b=some x→aB.aZ b=some x
theorem aI2 {op:bg}{env:Env}{H aB:aA}{v:I}(h:C4 H aB) (hp:ca op env H=some v):ca op env aB=some v:=by
 cases op<;>try exact hp
 ·rename_i agg n x
  simp only[ca]at hp ⊢
  split at hp
  ·rename_i b o e
   cases hb:H.aZ b with
   |none=>simp [hb]at hp
   |some y=>simp only[h b y hb]; simpa [hb] using hp
  ·rename_i e; exact hp
  ·cases hp
 ·rename_i fv agg n x
  simp only[ca]at hp ⊢
  split at hp
  ·rename_i b b1 o ar ax
   cases hb:H.aZ b1 with
   |none=>simp [hb]at hp
   |some y=>simp only[h b1 y hb]; simpa [hb] using hp
  ·cases hp
theorem ab7 {P:Program}{op:bg}{env:Env}{H aB:aA}{d:D}(ib:op.dm≤2) (h:C4 H aB) (br:e9 P op env H d):e9 P op env aB d:=by
 cases br with
 |pure hp=>exact .pure (aI2 h hp)
 |quo a b c=>exact .quo a b c
 |rem a b c=>exact .rem a b c
 |j0 a b c=>exact .j0 a b c
 |py a b c d=>exact .py a b c d
 |pw a b c d=>exact .pw a b c d
 |qk a b c d=>exact .qk a b c d
 |oY a b c d=>exact .oY a b c d
 |px a b c d=>exact .px a b c d
 |kj a b c d e f=>exact .kj a b c d e f
 |ic a b c d=>exact .ic a b c d
 |kE a b c d e=>exact .kE a b c d e
 |ii a b c d e=>exact .ii a b c d e
 |kN a=>exact .kN a
 |box a=>exact .box a
 |alloc a=>exact .alloc a
 |pT a b c=>exact .pT a b c
 |nV a b c d=>exact .nV a b c d
 |rY a b c d e=>exact .rY a b c d e
 |jF a b=>exact .jF a b
 |ld a b c d=>exact .ld a b c d
 |iq ab ht=>simp [bg.dm]at ib
 |wO ab=>simp [bg.dm]at ib
 |wN ab _=>simp [bg.dm]at ib
 |jJ ab ht=>simp [bg.dm]at ib
 |jr ab ht ad aU U=>simp [bg.dm]at ib
 |j5 ab ht aC ae=>simp [bg.dm]at ib
 |nU a b c d=>exact .nU a b c d
 |o0 a b c d e f=>exact .o0 a b c d e f
 |mkMap=>exact .mkMap
 |ji=>simp [bg.dm]at ib
 |rF=>simp [bg.dm]at ib
 |xu ab aV hb hm aU=>simp [bg.dm]at ib
 |wX a b=>exact .wX a b
 |qT a b=>exact .qT a b
 |rK a b c d=>exact .rK a b c d
def vw (op:bg) (env:Env):Nat:=
 match op with
 | .load _ _ x=>match x.aI env with| .ptr b _=>b| _=>0
 | .fP _ _ _ x=>match x.aI env with| .ptr b _=>b| _=>0
 | .append _ _ _ x _=>match x.aI env with| .own t _ _=>t| _=>0
 | _=>0
theorem ab4 {P:Program}{op:bg}{env:Env}{H aB:aA}{d:D}(ib:op.dm≤2) (h:aB.aZ (vw op env)=H.aZ (vw op env)) (br:e9 P op env aB d):e9 P op env H d:=by
 cases br with
 |pure hp=>
  refine .pure ?_
  cases op<;>try exact hp
  ·rename_i agg n x
   simp only[ca,vw]at hp h ⊢
   split at hp
   ·rename_i b o e
    simp only[e]at h
    rw[←h]
    exact hp
   ·exact hp
   ·cases hp
  ·rename_i fv agg n x
   simp only[ca,vw]at hp h ⊢
   split at hp
   ·rename_i b b1 o ar ax
    simp only[ax]at h
    rw[←h]
    exact hp
   ·cases hp
 |quo a b c=>exact .quo a b c
 |rem a b c=>exact .rem a b c
 |j0 a b c=>exact .j0 a b c
 |py a b c d=>exact .py a b c d
 |pw a b c d=>exact .pw a b c d
 |qk a b c d=>exact .qk a b c d
 |oY a b c d=>exact .oY a b c d
 |px a b c d=>exact .px a b c d
 |kj a b c d e f=>exact .kj a b c d e f
 |ic a b c d=>exact .ic a b c d
 |kE a b c d e=>exact .kE a b c d e
 |ii a b c d e=>exact .ii a b c d e
 |kN a=>exact .kN a
 |box a=>exact .box a
 |alloc a=>exact .alloc a
 |pT a b c=>exact .pT a b c
 |nV a b c d=>exact .nV a b c d
 |rY a b c d e=>exact .rY a b c d e
 |jF a b=>exact .jF a b
 |ld a b c d=>exact .ld a b c d
 |iq ab ht=>simp [bg.dm]at ib
 |wO ab=>simp [bg.dm]at ib
 |wN ab _=>simp [bg.dm]at ib
 |jJ ab ht=>simp [bg.dm]at ib
 |jr ab ht ad aU U=>simp [bg.dm]at ib
 |j5 ab ht aC ae=>simp [bg.dm]at ib
 |nU a b c d=>exact .nU a b c d
 |o0 a b c d e f=>exact .o0 a b c d e f
 |mkMap=>exact .mkMap
 |ji=>simp [bg.dm]at ib
 |rF=>simp [bg.dm]at ib
 |xu ab aV hb hm aU=>simp [bg.dm]at ib
 |wX a b=>exact .wX a b
 |qT a b=>exact .qT a b
 |rK a b c d=>exact .rK a b c d
inductive X where
 |d (d:D)
 |dV (t T size:Nat) (rows new:List (List I))
def X.fresh:X→Nat→aA→Prop
 | .d e,n,H=>e.fresh n H
 | .dV ..,_,_=>True
def X.val:X→Nat→I
 | .d e,n=>e.val n
 | .dV t _ size rows new,_=> .own t size (rows++new)
def X.heap:X→aA→Nat→aA
 | .d e,H,n=>e.heap H n
 | .dV t T size rows new,H,_=>H.cj t (.bX T size (rows.length+new.length))
def X.ok:X→aA→Prop
 | .d _,_=>True
 | .dV t T size rows _,H=>H.tok t=some (.bX T size rows.length)
inductive mh (P:Program) (i:bY) (env:Env) (H:aA):X→Prop
 |skip (hw:wanted i env=some false):mh P i env H (.d (.dj .undef))
 |d {d}(hw:wanted i env=some true) (br:e9 P i.op env H d):mh P i env H (.d d)
 |dV {T size bytes x y t rows new}(hw:wanted i env=some true) (ao:i.op= .append T size bytes x y) (ab:x.aI env= .own t size rows) (aV:rowsOf size (y.aI env)=some new) (hb:(rows.length+new.length)*bytes≤140737488355328) (hm:rows.length+new.length≤maxLen):mh P i env H (.dV t T size rows new)
theorem ov {P:Program}{i:bY}{env:Env}{H:aA}{K Rp:I→aA→Prop}(ac:i.op.dm≤2):GStep P i env H K Rp↔ ∃x,mh P i env H x∧x.ok H∧∀n,x.fresh n H→K (x.val n) (x.heap H n):=by
 constructor
 ·intro h
  unfold GStep at h
  split at h
  ·rename_i hw
   generalize ao:i.op=op at h ac
   cases h with
   |ij d br a8=>exact⟨.d d,.d hw (ao▸br),trivial,a8⟩
   |append ab ht aV hb hm a8=>exact⟨.dV _ _ _ _ _,.dV hw ao ab aV hb hm,ht,fun _ _=>a8⟩
   |store=>simp [bg.dm]at ac
   |call=>simp [bg.dm]at ac
   |gT=>simp [bg.dm]at ac
   |y8=>simp [bg.dm]at ac
   |gN=>simp [bg.dm]at ac
   |mo=>simp [bg.dm]at ac
   |Ag=>simp [bg.dm]at ac
   |panic=>simp [bg.dm]at ac
   |nj=>simp [bg.dm]at ac
   |oI=>simp [bg.dm]at ac
   |BP=>simp [bg.dm]at ac
   |w7=>simp [bg.dm]at ac
   |oZ=>simp [bg.dm]at ac
   |hP=>simp [bg.dm]at ac
  ·rename_i hw
   exact⟨.d (.dj .undef),.skip hw,trivial,fun _ _=>h⟩
  ·exact h.elim
 ·rintro⟨x,br,iT,a8⟩
  unfold GStep
  cases br with
  |skip hw=>rw[hw]; exact a8 0 trivial
  |d hw br=>rw[hw]; exact .ij _ br a8
  |dV hw ao ab aV hb hm=>rw[hw,ao]; exact .append ab iT aV hb hm (a8 0 trivial)
theorem tB {P:Program}{i:bY}{env bd:Env}{H:aA}{x:X}(h:me i env bd) (br:mh P i env H x):mh P i bd H x:=by
 have hw:=uh h
 cases br with
 |skip U=>exact .skip (hw▸U)
 |d U aa=>exact .d (hw▸U) (Mo h.1 aa)
 |dV U ao ab aV hb hm=>
  rename_i T size bytes x y t rows new
  have ar:=h.1 x (by simp [ao,bg.cU])
  have ax:=h.1 y (by simp [ao,bg.cU])
  exact .dV (hw▸U) ao (ar▸ab) (ax▸aV) hb hm
theorem Mn {P:Program}{i:bY}{env:Env}{H aB:aA}{x:X}(ib:i.op.dm≤2) (h:C4 H aB) (br:mh P i env H x):mh P i env aB x:=by
 cases br with
 |skip U=>exact .skip U
 |d U aa=>exact .d U (ab7 ib h aa)
 |dV U ao ab aV hb hm=>exact .dV U ao ab aV hb hm
theorem ab2 {P:Program}{i:bY}{env:Env}{H aB:aA}{x:X}(ib:i.op.dm≤2) (h:aB.aZ (vw i.op env)=H.aZ (vw i.op env)) (br:mh P i env aB x):mh P i env H x:=by
 cases br with
 |skip U=>exact .skip U
 |d U aa=>exact .d U (ab4 ib h aa)
 |dV U ao ab aV hb hm=>exact .dV U ao ab aV hb hm
theorem DA {P:Program}{i:bY}{env:Env}{H:aA}{x c9:X}(ac:i.op.dm≤2) (h:mh P i env H x) (k:mh P i env H c9):x=c9:=by
 cases h with
 |skip U=>
  cases k with
  |skip=>rfl
  |d bf=>rw[U]at bf; cases bf
  |dV bf=>rw[U]at bf; cases bf
 |d U aa=>
  cases k with
  |skip bf=>rw[U]at bf; cases bf
  |d bf bi=>rw[ab6 ac aa bi]
  |dV bf ao ab aV hb hm=>
   rw[ao]at aa
   cases aa with
   |pure hp=>simp [ca]at hp
   |rY lD=>rw[ab]at lD; cases lD
 |dV U ao ab aV hb hm=>
  cases k with
  |skip bf=>rw[U]at bf; cases bf
  |d bf bi=>
   rw[ao]at bi
   cases bi with
   |pure hp=>simp [ca]at hp
   |rY lD=>rw[ab]at lD; cases lD
  |dV bf mC lD HY ia bj6=>
   rw[ao]at mC
   simp at mC
   obtain⟨rfl,rfl,_,rfl,rfl⟩:=mC
   rw[ab]at lD
   simp at lD
   obtain⟨rfl,rfl⟩:=lD
   rw[aV]at HY
   simp at HY
   subst HY
   rfl
theorem OF {H:aA}(h:ix H) (M:Nat) (x:X): ∃n,M<n∧x.fresh n H:=by
 obtain⟨N,cW⟩:=h
 refine⟨max N (M+1),by omega,?_⟩
 have:=cW (max N (M+1)) (by omega)
 cases x with
 |d e=>cases e<;>simp [X.fresh,D.fresh,this]
 |dV=>trivial
theorem PI {H:aA}{x:X}{n:Nat}(h:x.fresh n H):C4 H (x.heap H n):=by
 intro b y hb
 cases x with
 |d e=>
  cases e with
  |dj=>exact hb
  |bj=>exact hb
  |km T cs=>
   simp only[X.fresh,D.fresh]at h
   simp only[X.heap,D.heap,aA.cp]
   rw[if_neg (fun e=>by subst e; rw[h]at hb; cases hb)]
   exact hb
 |dV=>exact hb
theorem WQ {H:aA}{x:X}{n b:Nat}(h:b<n):(x.heap H n).aZ b=H.aZ b:=by
 cases x with
 |d e=>
  cases e with
  |dj=>rfl
  |bj=>rfl
  |km T cs=>
   simp only[X.heap,D.heap,aA.cp]
   rw[if_neg (by omega)]
 |dV=>rfl
theorem af8 {H:aA}{x y:X}{n k:Nat}(aw:y.fresh k H) (h:x.fresh n (y.heap H k)):x.fresh n H:=by
 cases x with
 |d e=>
  cases e with
  |dj=>trivial
  |km T cs=>
   simp only[X.fresh,D.fresh]at h ⊢
   cases y with
   |d f=>
    cases f with
    |dj=>exact h
    |bj=>exact h
    |km=>
     simp only[X.heap,D.heap,aA.cp]at h
     split at h
     ·cases h
     ·exact h
   |dV=>exact h
  |bj o v=>
   simp only[X.fresh,D.fresh]at h ⊢
   cases y with
   |d f=>
    cases f with
    |dj=>exact h
    |km=>exact h
    |bj=>
     simp only[X.heap,D.heap,aA.cj]at h
     split at h
     ·cases h
     ·exact h
   |dV=>
    simp only[X.heap,aA.cj]at h
    split at h
    ·cases h
    ·exact h
 |dV=>trivial
theorem ag2 {H:aA}{x y:X}{n k:Nat}(ab:x.ok H) (aw:y.fresh k H) (h:x.fresh n (y.heap H k)):y.fresh k (x.heap H n):=by
 cases y with
 |d f=>
  cases f with
  |dj=>trivial
  |km T cs=>
   simp only[X.fresh,D.fresh]at aw ⊢
   cases x with
   |d e=>
    cases e with
    |dj=>exact aw
    |bj=>exact aw
    |km=>
     simp only[X.fresh,D.fresh,X.heap,D.heap,aA.cp]at h ⊢
     by_cases e:k=n
     ·subst e; simp at h
     ·rw[if_neg e]; exact aw
   |dV=>exact aw
  |bj o v=>
   simp only[X.fresh,D.fresh]at aw ⊢
   cases x with
   |d e=>
    cases e with
    |dj=>exact aw
    |km=>exact aw
    |bj=>
     simp only[X.fresh,D.fresh,X.heap,D.heap,aA.cj]at h ⊢
     by_cases e:k=n
     ·subst e; simp at h
     ·rw[if_neg e]; exact aw
   |dV t cO b5 rows new=>
    simp only[X.heap,aA.cj]
    simp only[X.ok]at ab
    rw[if_neg (fun e=>by subst e; rw[aw]at ab; cases ab)]
    exact aw
 |dV=>trivial
theorem CD {H:aA}{a b:Nat}{T q8:TypeId}{c d:List I}(h:a≠b):(H.cp a T c).cp b q8 d=(H.cp b q8 d).cp a T c:=by
 simp only[aA.cp,aA.mk.injEq,and_true]
 funext x
 by_cases e:x=b
 ·subst e; simp [Ne.symm h]
 ·simp [e]
theorem Jt {H:aA}{a b:Nat}{c d:cb}(h:a≠b):(H.cj a c).cj b d=(H.cj b d).cj a c:=by
 simp only[aA.cj,aA.mk.injEq,true_and]
 funext x
 by_cases e:x=b
 ·subst e; simp [Ne.symm h]
 ·simp [e]
theorem am9 {H:aA}{x y:X}{n k:Nat}(ab:x.ok H) (aV:y.ok H) (aw:y.fresh k H) (h:x.fresh n (y.heap H k)) (aW:x.fresh n H) (aa: ∀t T s r w dT cO b5 eV w',x= .dV t T s r w→y= .dV dT cO b5 eV w'→False):x.heap (y.heap H k) n=y.heap (x.heap H n) k:=by
 cases x with
 |d e=>
  cases e with
  |dj=>rfl
  |km T cs=>
   cases y with
   |d f=>
    cases f with
    |dj=>rfl
    |bj=>rfl
    |km=>
     simp only[X.fresh,D.fresh,X.heap,D.heap,aA.cp]at h
     have e3:k≠n:=fun e=>by subst e; simp at h
     exact CD e3
   |dV=>rfl
  |bj o v=>
   cases y with
   |d f=>
    cases f with
    |dj=>rfl
    |km=>rfl
    |bj=>
     simp only[X.fresh,D.fresh,X.heap,D.heap,aA.cj]at h
     have e3:k≠n:=fun e=>by subst e; simp at h
     exact Jt e3
   |dV t cO b5 rows new=>
    simp only[X.ok]at aV
    simp only[X.fresh,D.fresh]at aW
    have e3:t≠n:=fun e=>by subst e; rw[aW]at aV; cases aV
    exact Jt e3
 |dV t T s rows new=>
  cases y with
  |d f=>
   cases f with
   |dj=>rfl
   |km=>rfl
   |bj=>
    simp only[X.ok]at ab
    simp only[X.fresh,D.fresh]at aw
    have e3:k≠t:=fun e=>by subst e; rw[aw]at ab; cases ab
    exact Jt e3
  |dV=>exact (aa _ _ _ _ _ _ _ _ _ _ rfl rfl).elim
theorem OP {env:Env}{d:Option Nat}{v:I}{k:Nat}(h: ∀x,d=some x→x≠k):(env.put d v).get k=env.get k:=by
 cases d with
 |none=>rfl
 |some x=>
  have:=h x rfl
  simp only[Env.put,Env.get]
  have hb:(x==k)=false:=by simpa using this
  simp [hb]
theorem put_comm {env:Env}{d e:Option Nat}{v u:I}(h: ∀x,d=some x→e≠some x):lQ ((env.put d v).put e u) ((env.put e u).put d v):=by
 intro k
 cases d with
 |none=>rfl
 |some x=>
  cases e with
  |none=>rfl
  |some y=>
   have e3:y≠x:=fun e=>h x rfl (by rw[e])
   simp only[Env.put,Env.get]
   by_cases ar:x=k
   ·subst ar
    have hb:(y==x)=false:=by simpa using e3
    simp [hb]
   ·have hb:(x==k)=false:=by simpa using ar
    simp [hb]
theorem av1 {i j:bY}(h:indep i j=true):(∀x,i.dst=some x→x∉j.reads∧j.dst≠some x)∧(∀x,j.dst=some x→x∉i.reads)∧(AQ i j=true∨(i.op.quiet=true∧j.op.quiet=true)∨(i.op.vD=true∧j.op.vY=true)∨i.op.dm=0∨(i.op.live=true∧j.op.dm=0)∨CF i j=true∨(i.op.dm=3∧j.total=true)∨(i.op.dm≤2∧j.op.dm≤2∧¬(i.op.dm=2∧j.op.dm=2))):=by
 simp only[indep,Bool.and_eq_true,Bool.or_eq_true,Bool.not_eq_true',decide_eq_true_eq,beq_iff_eq,Bool.and_eq_false_iff,beq_eq_false_iff_ne]at h
 obtain⟨⟨U,aa⟩,ay⟩:=h
 refine⟨fun x ab=> ?_,fun x ab=> ?_,?_⟩
 ·rw[ab]at U
  simp at U
  exact⟨U.1,U.2⟩
 ·rw[ab]at aa
  simpa using aa
 ·rcases ay with ((((((ay|ay)|ay)|ay)|ay)|ay)|ay)|ay
  ·exact .inl ay
  ·exact .inr (.inr (.inr (.inl ay)))
  ·exact .inr (.inl ay)
  ·exact .inr (.inr (.inl ay))
  ·exact .inr (.inr (.inr (.inr (.inl ay))))
  ·exact .inr (.inr (.inr (.inr (.inr (.inl ay)))))
  ·exact .inr (.inr (.inr (.inr (.inr (.inr (.inl ay))))))
  ·refine .inr (.inr (.inr (.inr (.inr (.inr (.inr ⟨ay.1.1,ay.1.2,fun e=> ?_⟩))))))
   rcases ay.2 with cI|cI
   ·exact cI e.1
   ·exact cI e.2
theorem yZ {i:bY}{env:Env}{d:Option Nat}{v:I}(h: ∀x,d=some x→x∉i.reads):me i env (env.put d v):=
 KQ fun k aw=>(OP fun x ab e=>h x ab (e▸aw)).symm
theorem me.symm {i:bY}{e cI:Env}(h:me i e cI):me i cI e:=⟨fun x ab=>(h.1 x ab).symm,fun j w a7=>(h.2 j w a7).symm⟩
theorem Mm {P:Program}{i:bY}{env:Env}{H:aA}{t T s:Nat}{r w:List (List I)}(h:mh P i env H (.dV t T s r w)):i.op.dm=2:=by
 cases h with
 |dV U ao=>simp [ao,bg.dm]
theorem ab3 {P:Program}{i:bY}{env:Env}{H:aA}{t T s:Nat}{r w:List (List I)}(h:mh P i env H (.dV t T s r w)):vw i.op env=t:=by
 cases h with
 |dV U ao ab=>simp [ao,vw,ab]
theorem UC {P:Program}{i:bY}{env:Env}{H:aA}{x:X}(ac:i.op.dm=0) (h:mh P i env H x): ∃v,x= .d (.dj v)∧∀aB,mh P i env aB x:=by
 cases h with
 |skip hw=>exact⟨_,rfl,fun aB=> .skip hw⟩
 |dV hw ao=>simp [ao,bg.dm]at ac
 |d hw br=>
  rename_i d
  have am6: ∃v,d= .dj v:=by
   generalize i.op=op at br ac
   cases br<;>first
    |exact⟨_,rfl⟩
    |(simp [bg.dm]at ac; done)
  obtain⟨v,rfl⟩:=am6
  refine⟨v,rfl,fun aB=> .d hw ?_⟩
  have hle: ∀H1 dQ:aA,e9 P i.op env H1 (.dj v)→e9 P i.op env dQ (.dj v):=by
   intro H1 dQ br
   generalize i.op=op at br ac
   cases br with
   |pure hp=>
    refine .pure ?_
    cases op<;>first
     |exact hp
     |(simp [bg.dm]at ac; done)
   |quo a b c=>exact .quo a b c
   |rem a b c=>exact .rem a b c
   |j0 a b c=>exact .j0 a b c
   |py a b c d=>exact .py a b c d
   |pw a b c d=>exact .pw a b c d
   |qk a b c d=>exact .qk a b c d
   |oY a b c d=>exact .oY a b c d
   |px a b c d=>exact .px a b c d
   |kj a b c d e f=>exact .kj a b c d e f
   |ic a b c d=>exact .ic a b c d
   |kE a b c d e=>exact .kE a b c d e
   |ii a b c d e=>exact .ii a b c d e
   |kN a=>exact .kN a
   |pT a b c=>exact .pT a b c
   |jF a b=>exact .jF a b
   |ld a b c d=>exact .ld a b c d
   |iq=>simp [bg.dm]at ac
   |wO=>simp [bg.dm]at ac
   |wN=>simp [bg.dm]at ac
   |jJ=>simp [bg.dm]at ac
   |jr=>simp [bg.dm]at ac
   |j5=>simp [bg.dm]at ac
   |ji=>simp [bg.dm]at ac
   |rF=>simp [bg.dm]at ac
   |qT a b=>exact .qT a b
   |rK a b c d=>exact .rK a b c d
  exact hle H aB br
theorem aZ8 {P:Program}{j:bY}(h:j.total=true) (env:Env) (H:aA): ∃v,mh P j env H (.d (.dj v))∧∀bd,me j env bd→∀aB,mh P j bd aB (.d (.dj v)):=by
 simp only[bY.total,Bool.and_eq_true,Option.isNone_iff_eq_none]at h
 obtain⟨U,aa⟩:=h
 have hw: ∀env,wanted j env=some true:=fun env=>by simp [wanted,U]
 have ae: ∃v,∀H,ca j.op env H=some v:=by
  split at aa<;>first
   |(rename_i e; rw[e]; exact⟨_,fun _=>rfl⟩)
   |cases aa
 obtain⟨v,ae⟩:=ae
 exact⟨v,.d (hw env) (.pure (ae H)),fun bd aL aB=> .d (hw bd) (.pure ((R0 aB aL.1).symm.trans (ae aB)))⟩
theorem tH {H:aA}{x:X}{n:Nat}(h:ix H):ix (x.heap H n):=by
 obtain⟨N,cW⟩:=h
 cases x with
 |d e=>
  cases e with
  |dj=>exact⟨N,cW⟩
  |km T cs=>
   refine⟨max N (n+1),fun k aw=> ?_⟩
   have:=cW k (by omega)
   simp only[X.heap,D.heap,aA.cp]
   rw[if_neg (by omega)]
   exact this
  |bj o v=>
   refine⟨max N (n+1),fun k aw=> ?_⟩
   have:=cW k (by omega)
   simp only[X.heap,D.heap,aA.cj]
   rw[if_neg (by omega)]
   exact this
 |dV t T s r w=>
  refine⟨max N (t+1),fun k aw=> ?_⟩
  have:=cW k (by omega)
  simp only[X.heap,aA.cj]
  rw[if_neg (by omega)]
  exact this
theorem aA9 {P:Program}{i:bY}{env:Env}{H:aA}{K Rp:I→aA→Prop}(aC:i.op.live=true) (bH:ix H) (h:GStep P i env H K Rp): ∃O:I→aA→Prop,(∃v aB,O v aB∧ix aB)∧(∀v aB,O v aB→K v aB)∧∀bd,me i env bd→∀K':I→aA→Prop,(∀v aB,O v aB→K' v aB)→GStep P i bd H K' Rp:=by
 unfold GStep at h
 split at h
 ·rename_i hw
  have key: ∀ {op:bg},op.live=true→iK P op env H K Rp→∃O:I→aA→Prop,(∃v aB,O v aB∧ix aB)∧(∀v aB,O v aB→K v aB)∧∀K':I→aA→Prop,(∀v aB,O v aB→K' v aB)→iK P op env H K' Rp:=by
   intro op aC h
   cases h with
   |ij d br a8=>
    obtain⟨n,_,aW⟩:=OF bH 0 (.d d)
    exact⟨fun v aB=> ∃x,d.fresh x H∧v=d.val x∧aB=d.heap H x,⟨_,_,⟨n,aW,rfl,rfl⟩,tH (x:= .d d) bH⟩,fun v aB ⟨x,U,aa,ay⟩=>by subst aa; subst ay; exact a8 x U,fun K' aw=> .ij d br fun x ab=>aw _ _ ⟨x,ab,rfl,rfl⟩⟩
   |store aL hb aW tQ ao a8=>
    rename_i n a v b o T cs
    exact⟨fun bI aB=>bI= .undef∧aB=H.cp b T (gj cs o (v.aI env).cells),⟨_,_,⟨rfl,rfl⟩,tH (x:= .d (.km T _)) (n:=b) bH⟩,fun bI aB ⟨U,aa⟩=>by subst U; subst aa; exact a8,fun K' aw=> .store aL hb aW tQ ao (aw _ _ ⟨rfl,rfl⟩)⟩
   |nj ab ht aV hb hm a8=>
    rename_i T size bytes x y t ver rows new
    exact⟨fun bI aB=>bI= .c6 t (ver+1)∧aB=H.cj t (.bA T size (ver+1) (rows++new)),⟨_,_,⟨rfl,rfl⟩,tH (x:= .d (.bj _ fun _=> .eX)) (n:=t) bH⟩,fun bI aB ⟨U,aa⟩=>by subst U; subst aa; exact a8,fun K' aw=> .nj ab ht aV hb hm (aw _ _ ⟨rfl,rfl⟩)⟩
   |oI ab ht tQ an4 U bw a8=>
    rename_i size x cJ ad t ver T rows h q
    exact⟨fun bI aB=>bI= .c6 t (ver+1)∧aB=H.cj t (.bA T size (ver+1) ((rows.take h).drop q)),⟨_,_,⟨rfl,rfl⟩,tH (x:= .d (.bj _ fun _=> .eX)) (n:=t) bH⟩,fun bI aB ⟨U,aa⟩=>by subst U; subst aa; exact a8,fun K' aw=> .oI ab ht tQ an4 U bw (aw _ _ ⟨rfl,rfl⟩)⟩
   |hP qC mD aL hb aW tQ ao a8=>
    rename_i fv others n a v b o T cs
    exact⟨fun bI aB=>bI= .undef∧aB=H.cp b T (gj cs o (v.aI env).cells),⟨_,_,⟨rfl,rfl⟩,tH (x:= .d (.km T _)) (n:=b) bH⟩,fun bI aB ⟨U,aa⟩=>by subst U; subst aa; exact a8,fun K' aw=> .hP qC mD aL hb aW tQ ao (aw _ _ ⟨rfl,rfl⟩)⟩
   |w7 aL ht aW tQ ao hf ac hlen a8=>
    rename_i n a v t ver k T size rows rows'
    exact⟨fun bI aB=>bI= .undef∧aB=H.cj t (.bA T size ver rows'),⟨_,_,⟨rfl,rfl⟩,tH (x:= .d (.bj _ fun _=> .eX)) (n:=t) bH⟩,fun bI aB ⟨U,aa⟩=>by subst U; subst aa; exact a8,fun K' aw=> .w7 aL ht aW tQ ao hf ac hlen (aw _ _ ⟨rfl,rfl⟩)⟩
   |oZ ab ht aw ao ac a8=>
    rename_i x k v t ver T rows rows' s
    exact⟨fun bI aB=>bI= .undef∧aB=H.cj t (.bb T ver rows'),⟨_,_,⟨rfl,rfl⟩,tH (x:= .d (.bj _ fun _=> .eX)) (n:=t) bH⟩,fun bI aB ⟨U,aa⟩=>by subst U; subst aa; exact a8,fun K' dZ=> .oZ ab ht aw ao ac (dZ _ _ ⟨rfl,rfl⟩)⟩
   |BP=>simp [bg.live]at aC
   |append=>simp [bg.live]at aC
   |call=>simp [bg.live]at aC
   |gT=>simp [bg.live]at aC
   |y8=>simp [bg.live]at aC
   |gN=>simp [bg.live]at aC
   |mo=>simp [bg.live]at aC
   |Ag=>simp [bg.live]at aC
   |panic=>simp [bg.live]at aC
  obtain⟨O,U,aa,ay⟩:=key aC h
  refine⟨O,U,aa,fun bd aL K' aw=> ?_⟩
  unfold GStep
  rw[←uh aL,hw]
  exact x9 aL.1 (fun _ _ h=>h) (fun _ _ h=>h) (ay K' aw)
 ·rename_i hw
  refine⟨fun v aB=>v= .undef∧aB=H,⟨_,_,⟨rfl,rfl⟩,bH⟩,fun v aB ⟨U,aa⟩=>by subst U; subst aa; exact h,fun bd aL K' aw=> ?_⟩
  unfold GStep
  rw[←uh aL,hw]
  exact aw _ _ ⟨rfl,rfl⟩
 ·exact h.elim
theorem Jy {i:bY}{fv:Nat}{o:List Nat}(h:i.w6=some (true,fv,o)):i.guard=none∧∃n a v,i.op= .hP fv o n a v:=by
 unfold bY.w6 at h
 split at h
 ·rename_i a7 ao
  simp at h
  obtain⟨rfl,rfl⟩:=h
  exact⟨a7,_,_,_,ao⟩
 ·simp at h
 ·cases h
theorem aA4 {i:bY}{fv:Nat}{o:List Nat}(h:i.w6=some (false,fv,o)):i.guard=none∧∃g n a,i.op= .fP fv g n a:=by
 unfold bY.w6 at h
 split at h
 ·simp at h
 ·rename_i a7 ao
  simp at h
  obtain⟨rfl,rfl⟩:=h
  exact⟨a7,_,_,_,ao⟩
 ·cases h
theorem aX2 {P:Program}{i j:bY}{env:Env}{H:aA}{C:Env→aA→Prop}{Rp:I→aA→Prop}(hC: ∀e cI H,lQ e cI→C e H→C cI H) (bH:ix H) (jt: ∀x,i.dst=some x→x∉j.reads∧j.dst≠some x) (rI: ∀x,j.dst=some x→x∉i.reads) (hs:CF i j=true)
  (h:GStep P i env H (fun v H1=>ix H1→GStep P j (env.put i.dst v) H1 (fun u dQ=>ix dQ→C ((env.put i.dst v).put j.dst u) dQ) Rp) Rp):
  GStep P j env H (fun u H1=>ix H1→GStep P i (env.put j.dst u) H1 (fun v dQ=>ix dQ→C ((env.put j.dst u).put i.dst v) dQ) Rp) Rp:=by
 have oP: ∀v,me j env (env.put i.dst v):=fun v=>yZ fun x ab=>(jt x ab).1
 have rc: ∀v,me i env (env.put j.dst v):=fun v=>yZ rI
 have o4: ∀v u,lQ ((env.put i.dst v).put j.dst u) ((env.put j.dst u).put i.dst v):=fun v u=>put_comm fun x ab=>(jt x ab).2
 unfold CF at hs
 split at hs
 ·rename_i m1 eF m2 eR ar ax
  obtain⟨g1,rG,ec,v1,b0⟩:=Jy ar
  obtain⟨g2,rH,a2,v2,cN⟩:=Jy ax
  have CT: ∀env,wanted i env=some true:=fun env=>by simp [wanted,g1]
  have CU: ∀env,wanted j env=some true:=fun env=>by simp [wanted,g2]
  simp only[GStep,CT,b0]at h
  cases h with
  |ij d br _=>cases br with
   |pure hp=>simp [ca]at hp
  |hP qC mD aL hb aW aC ao a8=>
   rename_i b o T cs
   obtain⟨b1,nr,gP⟩:=mD m2 (by simpa using hs)
   have ai7:ix (H.cp b T (gj cs o (v1.aI env).cells)):=tH (x:= .d (.km T _)) (n:=b) bH
   have aa:=a8 ai7
   simp only[GStep,CU,cN]at aa
   have p9: ∀x∈(bg.hP m2 eR rH a2 v2).cU,x.aI env=x.aI (env.put i.dst .undef):=fun x ab=>(oP .undef).1 x (by rw[cN]; exact ab)
   cases aa with
   |ij d br _=>cases br with
    |pure hp=>simp [ca]at hp
   |hP ap4 aq9 aj8 Pk wJ jC BB rz=>
    rename_i c oc KK L6
    have mN:=(p9 (.t m2) (by simp [bg.cU])).trans ap4
    simp only[aJ.aI]at mN
    rw[nr]at mN
    have am0:b1=c:=by simpa using mN
    subst am0
    have sx:=p9 v2 (by simp [bg.cU])
    have al5:H.aZ b1=some (KK,L6):=by
     simp only[aA.cp]at Pk
     rwa [if_neg gP]at Pk
    simp only[GStep,CU,cN]
    refine .hP nr (fun s lB=> ?_) ((p9 a2 (by simp [bg.cU])).trans aj8) al5 (by rw[sx]; exact wJ) jC (by rw[sx]; exact BB) fun hf=> ?_
    ·obtain⟨y,nb,xm⟩:=aq9 s lB
     exact⟨y,(p9 (.t s) (by simp [bg.cU]; exact .inr (.inr (.inr lB)))).trans nb,xm⟩
    ·have xY: ∀x∈(bg.hP m1 eF rG ec v1).cU,x.aI env=x.aI (env.put j.dst .undef):=fun x ab=>(rc .undef).1 x (by rw[b0]; exact ab)
     have Er:=xY v1 (by simp [bg.cU])
     simp only[GStep,CT,b0]
     refine .hP ((xY (.t m1) (by simp [bg.cU])).symm.trans qC) (fun s lB=> ?_) ((xY ec (by simp [bg.cU])).symm.trans aL) (T:=T) (cs:=cs) ?_ (by rw[←Er]; exact aW) aC (by rw[←Er]; exact ao) fun qB=> ?_
     ·obtain⟨y,nb,xm⟩:=mD s lB
      exact⟨y,(xY (.t s) (by simp [bg.cU]; exact .inr (.inr (.inr lB)))).symm.trans nb,xm⟩
     ·simp only[aA.cp]
      rw[if_neg (Ne.symm gP)]
      exact hb
     ·refine hC _ _ _ (o4 .undef .undef) ?_
      rw[←Er,sx,CD gP]
      rw[sx,←Er,CD gP]at qB
      exact rz (by rw[←sx]; rw[←sx]at qB; rw[CD (Ne.symm gP)]at qB; rw[CD (Ne.symm gP)]; exact qB)
 ·rename_i m1 eF m2 eR ar ax
  obtain⟨g1,KP,rG,ec,b0⟩:=aA4 ar
  obtain⟨g2,rH,a2,v2,cN⟩:=Jy ax
  have CT: ∀env,wanted i env=some true:=fun env=>by simp [wanted,g1]
  have CU: ∀env,wanted j env=some true:=fun env=>by simp [wanted,g2]
  simp only[GStep,CT,b0]at h
  cases h with
  |ij d br a8=>cases br with
   |pure hp=>
    rename_i r
    have aa:=a8 0 trivial bH
    simp only[D.val,D.heap,GStep,CU,cN]at aa
    obtain⟨HN,b,o,hm,ab⟩:=II hp
    have p9: ∀x∈(bg.hP m2 eR rH a2 v2).cU,x.aI env=x.aI (env.put i.dst r):=fun x ab=>(oP r).1 x (by rw[cN]; exact ab)
    cases aa with
    |ij d br _=>cases br with
     |pure hp=>simp [ca]at hp
    |hP qC mD aL hb aW aC ao rz=>
     rename_i c oc KK L6
     have sx:=p9 v2 (by simp [bg.cU])
     simp only[GStep,CU,cN]
     have al2:c≠b:=by
      obtain⟨y,nb,xm⟩:=mD m1 (by simpa using hs)
      have e:=(p9 (.t m1) (by simp [bg.cU]; exact .inr (.inr (.inr (by simpa using hs))))).trans nb
      simp only[aJ.aI]at e
      rw[hm]at e
      have:b=y:=by simpa using e
      subst this
      exact Ne.symm xm
     refine .hP ((p9 (.t m2) (by simp [bg.cU])).trans qC) (fun s lB=> ?_) ((p9 a2 (by simp [bg.cU])).trans aL) hb (by rw[sx]; exact aW) aC (by rw[sx]; exact ao) fun hf=> ?_
     ·obtain⟨y,nb,xm⟩:=mD s lB
      exact⟨y,(p9 (.t s) (by simp [bg.cU]; exact .inr (.inr (.inr lB)))).trans nb,xm⟩
     ·have xY: ∀x∈(bg.fP m1 KP rG ec).cU,x.aI env=x.aI (env.put j.dst .undef):=fun x ab=>(rc .undef).1 x (by rw[b0]; exact ab)
      simp only[GStep,CT,b0]
      refine .ij (.dj r) (.pure ?_) fun n _ qB=> ?_
      ·have ar:=xY (.t m1) (by simp [bg.cU])
       have ax:=xY ec (by simp [bg.cU])
       refine aH9 ?_ (ar.symm.trans hm) (ax.symm.trans ab)
       simp only[ca,ab]at HN
       simp only[ca,ax.symm.trans ab,aA.cp]
       rw[if_neg (Ne.symm al2)]
       exact HN
      ·refine hC _ _ _ (o4 r .undef) ?_
       rw[sx]
       exact rz (by rw[←sx]; exact hf)
 ·cases hs
theorem So {P:Program}{op:bg}{env:Env}{H:aA}{K Rp:I→aA→Prop}(bw:op.quiet=true) (h:iK P op env H K Rp): ∃v,e9 P op env H (.dj v)∧K v H:=by
 cases h with
 |ij d br a8=>
  cases br with
  |pure h=>exact⟨_,.pure h,a8 0 trivial⟩
  |iq a b=>exact⟨_,.iq a b,a8 0 trivial⟩
  |jJ a b=>exact⟨_,.jJ a b,a8 0 trivial⟩
  |jr a b c d e=>exact⟨_,.jr a b c d e,a8 0 trivial⟩
  |j5 a b c d=>exact⟨_,.j5 a b c d,a8 0 trivial⟩
  |ji a b c d=>exact⟨_,.ji a b c d,a8 0 trivial⟩
  |rF a b=>exact⟨_,.rF a b,a8 0 trivial⟩
  |quo a b c=>exact⟨_,.quo a b c,a8 0 trivial⟩
  |rem a b c=>exact⟨_,.rem a b c,a8 0 trivial⟩
  |j0 a b c=>exact⟨_,.j0 a b c,a8 0 trivial⟩
  |py a b c d=>exact⟨_,.py a b c d,a8 0 trivial⟩
  |pw a b c d=>exact⟨_,.pw a b c d,a8 0 trivial⟩
  |qk a b c d=>exact⟨_,.qk a b c d,a8 0 trivial⟩
  |oY a b c d=>exact⟨_,.oY a b c d,a8 0 trivial⟩
  |px a b c d=>exact⟨_,.px a b c d,a8 0 trivial⟩
  |kj a b c d e f=>exact⟨_,.kj a b c d e f,a8 0 trivial⟩
  |ic a b c d=>exact⟨_,.ic a b c d,a8 0 trivial⟩
  |kE a b c d e=>exact⟨_,.kE a b c d e,a8 0 trivial⟩
  |ii a b c d e=>exact⟨_,.ii a b c d e,a8 0 trivial⟩
  | _=>simp [bg.quiet,bg.dm]at bw
 | _=>simp [bg.quiet,bg.dm]at bw
theorem OU {P:Program}{i:bY}{env:Env}{H:aA}{K Rp:I→aA→Prop}(bw:i.op.quiet=true) (h:GStep P i env H K Rp): ∃v,K v H∧∀bd,me i env bd→∀K':I→aA→Prop,K' v H→GStep P i bd H K' Rp:=by
 unfold GStep at h
 split at h
 ·rename_i hw
  obtain⟨v,U,aa⟩:=So bw h
  refine⟨v,aa,fun bd aL K' aw=> ?_⟩
  unfold GStep
  rw[←uh aL,hw]
  exact x9 aL.1 (fun _ _ h=>h) (fun _ _ h=>h) (.ij (.dj v) U fun _ _=>aw)
 ·rename_i hw
  refine⟨_,h,fun bd aL K' aw=> ?_⟩
  unfold GStep
  rw[←uh aL,hw]
  exact aw
 ·exact h.elim
theorem ab5 {P:Program}{op:bg}{env:Env}{H aB:aA}{d:D}(bw:op.vD=true) (h:e9 P op env H d) (ht:aB.tok=H.tok):e9 P op env aB d:=by
 cases h with
 |iq a b=>exact .iq a (by rw[ht]; exact b)
 |jJ a b=>exact .jJ a (by rw[ht]; exact b)
 |jr a b c d e=>exact .jr a (by rw[ht]; exact b) c d e
 |j5 a b c d=>exact .j5 a (by rw[ht]; exact b) c d
 |ji a b c d=>exact .ji a (by rw[ht]; exact b) c d
 |rF a b=>exact .rF a b
 |pure h=>
  cases op with
  |iq=>simp [ca]at h
  |jr=>simp [ca]at h
  |j5=>simp [ca]at h
  |jJ=>simp [ca]at h
  |ji=>simp [ca]at h
  | _=>simp [bg.vD]at bw
 | _=>simp [bg.vD]at bw
theorem ai1 {P:Program}{i:bY}{env:Env}{H:aA}{K Rp:I→aA→Prop}(bw:i.op.vD=true) (h:GStep P i env H K Rp): ∃v,K v H∧∀bd aB,me i env bd→aB.tok=H.tok→∀K':I→aA→Prop,K' v aB→GStep P i bd aB K' Rp:=by
 have ar4:i.op.quiet=true:=by
  cases ao:i.op<;>rw[ao]at bw<;>simp [bg.vD]at bw<;>simp [bg.quiet]
 unfold GStep at h
 split at h
 ·rename_i hw
  obtain⟨v,U,aa⟩:=So ar4 h
  refine⟨v,aa,fun bd aB aL ht K' aw=> ?_⟩
  unfold GStep
  rw[←uh aL,hw]
  exact x9 aL.1 (fun _ _ h=>h) (fun _ _ h=>h) (.ij (.dj v) (ab5 bw U ht) fun _ _=>aw)
 ·rename_i hw
  refine⟨_,h,fun bd aB aL ht K' aw=> ?_⟩
  unfold GStep
  rw[←uh aL,hw]
  exact aw
 ·exact h.elim
theorem WR {P:Program}{i:bY}{env:Env}{H:aA}{K Rp:I→aA→Prop}(aC:i.op.vY=true) (h:GStep P i env H K Rp): ∃O:I→aA→Prop,(∀v aB,O v aB→K v aB∧aB.tok=H.tok)∧∀bd,me i env bd→∀K':I→aA→Prop,(∀v aB,O v aB→K' v aB)→GStep P i bd H K' Rp:=by
 unfold GStep at h
 split at h
 ·rename_i hw
  have key: ∀ {op:bg},op.vY=true→iK P op env H K Rp→∃O:I→aA→Prop,(∀v aB,O v aB→K v aB∧aB.tok=H.tok)∧∀K':I→aA→Prop,(∀v aB,O v aB→K' v aB)→iK P op env H K' Rp:=by
   intro op aC h
   cases h with
   |ij d br a8=>
    refine⟨fun v aB=> ∃x,d.fresh x H∧v=d.val x∧aB=d.heap H x,fun v aB ⟨x,U,aa,ay⟩=> ?_,fun K' aw=> .ij d br fun x ab=>aw _ _ ⟨x,ab,rfl,rfl⟩⟩
    subst aa
    subst ay
    refine⟨a8 x U,?_⟩
    cases br with
    |alloc=>rfl
    |pure h=>rfl
    | _=>simp [bg.vY]at aC
   |hP qC mD aL hb aW tQ ao a8=>
    rename_i fv others n a v b o T cs
    exact⟨fun bI aB=>bI= .undef∧aB=H.cp b T (gj cs o (v.aI env).cells),fun bI aB ⟨U,aa⟩=>by subst U; subst aa; exact⟨a8,rfl⟩,fun K' aw=> .hP qC mD aL hb aW tQ ao (aw _ _ ⟨rfl,rfl⟩)⟩
   | _=>simp [bg.vY]at aC
  obtain⟨O,U,aa⟩:=key aC h
  refine⟨O,U,fun bd aL K' aw=> ?_⟩
  unfold GStep
  rw[←uh aL,hw]
  exact x9 aL.1 (fun _ _ h=>h) (fun _ _ h=>h) (aa K' aw)
 ·rename_i hw
  refine⟨fun v aB=>v= .undef∧aB=H,fun v aB ⟨U,aa⟩=>by subst U; subst aa; exact⟨h,rfl⟩,fun bd aL K' aw=> ?_⟩
  unfold GStep
  rw[←uh aL,hw]
  exact aw _ _ ⟨rfl,rfl⟩
 ·exact h.elim
theorem Je {P:Program}{i:bY}{env:Env}{H:aA}{x:X}{y:Option (List Nat)×Option Nat}{o:List Nat}(ad:i.pV=some y) (ac:sP o (some y)=true) (h:mh P i env H x):
  ∃v,x= .d (.dj v)∧∀aB,(∀s∈o,∀b,env.get s= .ptr b 0→aB.aZ b=H.aZ b)→mh P i env aB x:=by
 have key: ∀(op:bg),op.still=true→∀d,e9 P op env H d→∃v,d= .dj v∧∀aB,e9 P op env aB d:=by
  intro op hs d br
  cases br with
  |pure hp=>
   refine⟨_,rfl,fun aB=> .pure ?_⟩
   cases op<;>first
    |exact hp
    |(simp [bg.still,bg.dm]at hs; done)
  |quo a b c=>exact⟨_,rfl,fun _=> .quo a b c⟩
  |rem a b c=>exact⟨_,rfl,fun _=> .rem a b c⟩
  |j0 a b c=>exact⟨_,rfl,fun _=> .j0 a b c⟩
  |py a b c d=>exact⟨_,rfl,fun _=> .py a b c d⟩
  |pw a b c d=>exact⟨_,rfl,fun _=> .pw a b c d⟩
  |qk a b c d=>exact⟨_,rfl,fun _=> .qk a b c d⟩
  |oY a b c d=>exact⟨_,rfl,fun _=> .oY a b c d⟩
  |px a b c d=>exact⟨_,rfl,fun _=> .px a b c d⟩
  |kj a b c d e f=>exact⟨_,rfl,fun _=> .kj a b c d e f⟩
  |ic a b c d=>exact⟨_,rfl,fun _=> .ic a b c d⟩
  |kE a b c d e=>exact⟨_,rfl,fun _=> .kE a b c d e⟩
  |ii a b c d e=>exact⟨_,rfl,fun _=> .ii a b c d e⟩
  |kN a=>exact⟨_,rfl,fun _=> .kN a⟩
  |pT a b c=>exact⟨_,rfl,fun _=> .pT a b c⟩
  |qT a b=>exact⟨_,rfl,fun _=> .qT a b⟩
  |rK a b c d=>exact⟨_,rfl,fun _=> .rK a b c d⟩
  | _=>simp [bg.still,bg.dm]at hs
 unfold bY.pV at ad
 split at ad
 ·simp at ad; subst ad; simp [sP]at ac
 ·simp at ad; subst ad; simp [sP]at ac
 ·rename_i fv agg n x a7 ao
  simp at ad
  subst ad
  have qC:fv∈o:=by simpa [sP] using ac
  cases h with
  |skip hw=>simp [wanted,a7]at hw
  |dV hw mC=>rw[ao]at mC; cases mC
  |d hw br=>
   rw[ao]at br
   cases br with
   |pure hp=>
    obtain⟨HN,b,p,hm,ab⟩:=II hp
    refine⟨_,rfl,fun aB hb=> .d hw ?_⟩
    rw[ao]
    refine .pure ?_
    have:=hb fv qC b hm
    simp only[ca,hm,ab,if_true]at hp ⊢
    rw[this]
    exact hp
 ·split at ad
  ·rename_i hs
   cases h with
   |skip hw=>exact⟨_,rfl,fun aB _=> .skip hw⟩
   |dV hw mC=>rw[mC]at hs; simp [bg.still,bg.dm]at hs
   |d hw br=>
    obtain⟨v,rfl,aa⟩:=key _ hs _ br
    exact⟨v,rfl,fun aB _=> .d hw (aa aB)⟩
  ·cases ad
 ·cases ad
theorem UD {i:bY}{y:Option (List Nat)×Option Nat}{o:List Nat}(ad:i.pV=some y) (ac:sP o (some y)=true):i.op.dm≤2:=by
 unfold bY.pV at ad
 split at ad
 ·simp at ad; subst ad; simp [sP]at ac
 ·simp at ad; subst ad; simp [sP]at ac
 ·rename_i ao; rw[ao]; simp [bg.dm]
 ·split at ad
  ·rename_i hs
   cases pv:i.op<;>rw[pv]at hs<;>simp [bg.still,bg.dm]at hs ⊢
  ·cases ad
 ·cases ad
theorem LC {i:bY}{o:List Nat}{z:Option Nat}(h:i.pV=some (some o,z)):i.guard=none∧((∃f args,i.op= .gN o f args)∨∃x args,i.op= .mo o x args):=by
 unfold bY.pV at h
 split at h
 ·rename_i a7 ao
  simp at h
  obtain⟨rfl,_⟩:=h
  exact⟨a7,.inl ⟨_,_,ao⟩⟩
 ·rename_i a7 ao
  simp at h
  obtain⟨rfl,_⟩:=h
  exact⟨a7,.inr ⟨_,_,ao⟩⟩
 ·simp at h
 ·split at h<;>simp at h
 ·cases h
theorem LD {P:Program}{i:bY}{o:List Nat}{z:Option Nat}{env:Env}{H:aA}{K Rp:I→aA→Prop}(ad:i.pV=some (some o,z)) (bH:ix H) (h:GStep P i env H K Rp):
  ∃O:I→aA→Prop,(∃v aB,O v aB∧ix aB)∧(∀v aB,O v aB→K v aB∧∀s∈o,∀b,env.get s= .ptr b 0→aB.aZ b=H.aZ b)∧∀bd,me i env bd→∀K':I→aA→Prop,(∀v aB,O v aB→K' v aB)→GStep P i bd H K' Rp:=by
 obtain⟨a7,ao⟩:=LC ad
 have hw: ∀env,wanted i env=some true:=fun env=>by simp [wanted,a7]
 unfold GStep at h
 rw[hw]at h
 simp only at h
 rcases ao with ao|ao
 ·obtain⟨f,args,ao⟩:=ao
  rw[ao]at h
  cases h with
  |ij d br a8=>cases br with
   |pure hp=>simp [ca]at hp
  |gN Q mD hex aL aq aw=>
   obtain⟨iH,H0,b0,cN⟩:=hex bH
   refine⟨fun v aB=>Q (.ret v) aB,⟨iH,H0,b0,cN⟩,fun v aB bw=>⟨aw _ _ bw,fun s hs b hb=> ?_⟩,fun bd p9 K' qe=> ?_⟩
   ·obtain⟨b1,ar,ax⟩:=mD s hs
    rw[hb]at ar
    cases ar
    exact ax _ _ bw
   ·unfold GStep
    rw[hw]
    simp only
    have aU:iK P (.gN o f args) env H K' Rp:= .gN Q mD hex aL aq fun Cm aB bw=>by
     cases Cm with
     |ret v=>exact qe v aB bw
     |e5 v=>exact aw _ _ bw
    rw[ao]
    exact x9 (by have:=p9.1; rw[ao]at this; exact this) (fun _ _ h=>h) (fun _ _ h=>h) aU
 ·obtain⟨x,args,ao⟩:=ao
  rw[ao]at h
  cases h with
  |ij d br a8=>cases br with
   |pure hp=>simp [ca]at hp
  |mo Q ab hf mD hex aL aq aw=>
   obtain⟨iH,H0,b0,cN⟩:=hex bH
   refine⟨fun v aB=>Q (.ret v) aB,⟨iH,H0,b0,cN⟩,fun v aB bw=>⟨aw _ _ bw,fun s hs b hb=> ?_⟩,fun bd p9 K' qe=> ?_⟩
   ·obtain⟨b1,ar,ax⟩:=mD s hs
    rw[hb]at ar
    cases ar
    exact ax _ _ bw
   ·unfold GStep
    rw[hw]
    simp only
    have aU:iK P (.mo o x args) env H K' Rp:= .mo Q ab hf mD hex aL aq fun Cm aB bw=>by
     cases Cm with
     |ret v=>exact qe v aB bw
     |e5 v=>exact aw _ _ bw
    rw[ao]
    exact x9 (by have:=p9.1; rw[ao]at this; exact this) (fun _ _ h=>h) (fun _ _ h=>h) aU
theorem Zo {P:Program}{i j:bY}{env:Env}{H:aA}{C:Env→aA→Prop}{Rp:I→aA→Prop}(hC: ∀e cI H,lQ e cI→C e H→C cI H) (bH:ix H) (jt: ∀x,i.dst=some x→x∉j.reads∧j.dst≠some x) (rI: ∀x,j.dst=some x→x∉i.reads) (hs:AQ i j=true)
  (h:GStep P i env H (fun v H1=>ix H1→GStep P j (env.put i.dst v) H1 (fun u dQ=>ix dQ→C ((env.put i.dst v).put j.dst u) dQ) Rp) Rp):
  GStep P j env H (fun u H1=>ix H1→GStep P i (env.put j.dst u) H1 (fun v dQ=>ix dQ→C ((env.put j.dst u).put i.dst v) dQ) Rp) Rp:=by
 have oP: ∀v,me j env (env.put i.dst v):=fun v=>yZ fun x ab=>(jt x ab).1
 have rc: ∀v,me i env (env.put j.dst v):=fun v=>yZ rI
 have o4: ∀v u,lQ ((env.put i.dst v).put j.dst u) ((env.put j.dst u).put i.dst v):=fun v u=>put_comm fun x ab=>(jt x ab).2
 have ag8: ∀ {k:bY}{o:List Nat}{z:Option Nat}{d:Option Nat}{v:I},k.pV=some (some o,z)→(∀x,d=some x→x∉k.reads)→∀s∈o,(env.put d v).get s=env.get s:=by
  intro k o z d v aw br s hs
  obtain⟨_,ao⟩:=LC aw
  refine OP fun x ab e=>br x ab ?_
  subst e
  rcases ao with ⟨f,args,ao⟩|⟨c9,args,ao⟩
  ·simp only[bY.reads,ao,bg.cU,List.mem_append,List.mem_filterMap]
   exact .inl ⟨.t x,.inr (List.mem_map.2 ⟨x,hs,rfl⟩),rfl⟩
  ·simp only[bY.reads,ao,bg.cU,List.mem_append,List.mem_cons,List.mem_filterMap]
   exact .inl ⟨.t x,.inr (.inr (List.mem_map.2 ⟨x,hs,rfl⟩)),rfl⟩
 unfold AQ at hs
 split at hs
 ·rename_i o z x wo
  cases tE:j.pV with
  |none=>rw[tE]at hs; simp [sP]at hs
  |some y=>
   rw[tE]at hs
   have ib:=UD tE hs
   obtain⟨O,⟨v0,H0,eF,eR⟩,mW,yl⟩:=LD wo bH h
   obtain⟨oK,d1,d2,d3⟩:=(ov ib).1 ((mW _ _ eF).1 eR)
   have Ge:=tB (oP v0).symm d1
   obtain⟨u,rfl,we⟩:=Je tE hs Ge
   have Md:=we H fun s lB b hb=>((mW _ _ eF).2 s lB b hb).symm
   refine (ov ib).2 ⟨_,Md,trivial,fun n _ hf=> ?_⟩
   refine yl _ (rc _) _ fun v aB ao qB=> ?_
   obtain⟨kb,ar,ax,bU⟩:=(ov ib).1 ((mW _ _ ao).1 qB)
   obtain⟨yF,gn,aa5⟩:=Je tE hs Md
   have Gg:=aa5 aB (mW _ _ ao).2
   have:=DA ib (tB (oP v).symm ar) Gg
   subst this
   exact hC _ _ _ (o4 v u) (bU 0 trivial qB)
 ·rename_i x o z tE bk0
  cases wo:i.pV with
  |none=>rw[wo]at hs; simp [sP]at hs
  |some y=>
   rw[wo]at hs
   have ib:=UD wo hs
   obtain⟨oK,d1,d2,d3⟩:=(ov ib).1 h
   obtain⟨v,rfl,we⟩:=Je wo hs d1
   have U:=d3 0 trivial bH
   obtain⟨O,_,mW,yl⟩:=LD tE bH U
   refine yl _ (oP v).symm _ fun u aB ao hf=> ?_
   have Gg:=we aB fun s lB b hb=>(mW _ _ ao).2 s lB b ((ag8 tE (fun x ab=>(jt x ab).1) s lB).trans hb)
   refine (ov ib).2 ⟨_,tB (rc u) Gg,trivial,fun n _ an2=> ?_⟩
   exact hC _ _ _ (o4 v u) ((mW _ _ ao).1 hf)
 ·cases hs
theorem ah9 {P:Program}{i j:bY}{env:Env}{H:aA}{C:Env→aA→Prop}{Rp:I→aA→Prop}(hC: ∀e cI H,lQ e cI→C e H→C cI H) (bH:ix H) (ad:indep i j=true)
  (h:GStep P i env H (fun v H1=>ix H1→GStep P j (env.put i.dst v) H1 (fun u dQ=>ix dQ→C ((env.put i.dst v).put j.dst u) dQ) Rp) Rp):
  GStep P j env H (fun u H1=>ix H1→GStep P i (env.put j.dst u) H1 (fun v dQ=>ix dQ→C ((env.put j.dst u).put i.dst v) dQ) Rp) Rp:=by
 obtain⟨jt,rI,kT⟩:=av1 ad
 have oP: ∀v,me j env (env.put i.dst v):=fun v=>yZ fun x ab=>(jt x ab).1
 have rc: ∀v,me i env (env.put j.dst v):=fun v=>yZ rI
 have o4: ∀v u,lQ ((env.put i.dst v).put j.dst u) ((env.put j.dst u).put i.dst v):=fun v u=>put_comm fun x ab=>(jt x ab).2
 rcases kT with kT|kT
 ·exact Zo hC bH jt rI kT h
 rcases kT with ⟨b0,cN⟩|kT
 ·obtain⟨v,bf,bi⟩:=OU b0 h
  obtain⟨u,cz,eu⟩:=OU cN (bf bH)
  exact eu _ (oP v).symm _ fun _=>bi _ (rc u) _ fun _=>hC _ _ _ (o4 v u) (cz bH)
 rcases kT with ⟨b0,cN⟩|kT
 ·obtain⟨v,bf,bi⟩:=ai1 b0 h
  obtain⟨O,cz,eu⟩:=WR cN (bf bH)
  exact eu _ (oP v).symm _ fun u aB ao _=>bi _ aB (rc u) (cz u aB ao).2 _ fun hf=>hC _ _ _ (o4 v u) ((cz u aB ao).1 hf)
 rcases kT with kT|⟨kT,wW⟩|kT|kT|⟨kT,wW,aH4⟩
 rotate_left
 rotate_left
 ·exact aX2 hC bH jt rI kT h
 rotate_right
 ·obtain⟨O,⟨v0,H0,eF,eR⟩,mW,yl⟩:=aA9 kT bH h
  obtain⟨x,d1,d2,d3⟩:=(ov (by omega)).1 (mW _ _ eF eR)
  obtain⟨u,rfl,we⟩:=UC wW d1
  refine (ov (by omega)).2 ⟨_,tB (oP v0).symm (we H),trivial,fun n _ hf=> ?_⟩
  refine yl _ (rc _) _ fun v aB ao qB=> ?_
  obtain⟨y,ar,ax,bU⟩:=(ov (by omega)).1 (mW _ _ ao qB)
  have:=DA (by omega) (tB (oP v).symm ar) (tB (oP v0).symm (we aB))
  subst this
  exact hC _ _ _ (o4 v u) (bU 0 trivial qB)
 rotate_right
 ·obtain⟨x,d1,d2,d3⟩:=(ov (by omega)).1 h
  obtain⟨v,rfl,we⟩:=UC kT d1
  have U:=d3 0 trivial bH
  refine xQ (oP v).symm (fun u aB a8 hf=> ?_) (fun _ _ h=>h) U
  refine (ov (by omega)).2 ⟨_,tB (rc u) (we aB),trivial,fun n _ an2=> ?_⟩
  exact hC _ _ _ (o4 v u) (a8 hf)
 ·obtain⟨u,t1,t2⟩:=aZ8 kT.2 env H
  have ac:j.op.dm≤2:=by
   have:=kT.2
   simp only[bY.total,Bool.and_eq_true]at this
   have aa:=this.2
   split at aa<;>first
    |(rename_i e; rw[e]; simp [bg.dm])
    |cases aa
  refine (ov ac).2 ⟨_,t1,trivial,fun n _ Px=> ?_⟩
  refine xQ (rc u) (fun v aB a8 hf=> ?_) (fun _ _ h=>h) h
  obtain⟨y,ar,ax,bU⟩:=(ov ac).1 (a8 hf)
  have:=DA ac ar (t2 _ (oP v) aB)
  subst this
  exact hC _ _ _ (o4 v u) (bU 0 trivial hf)
 ·obtain⟨x,d1,d2,d3⟩:=(ov kT).1 h
  obtain⟨c8,uZ,Px⟩:=OF bH (vw j.op env) x
  have g0:=d3 c8 Px (tH bH)
  obtain⟨y,ar,ax,bU⟩:=(ov wW).1 g0
  have uH:=tB (oP (x.val c8)).symm ar
  have dl:mh P j env H y:=ab2 wW (WQ uZ) uH
  have notboth: ∀t T s r w dT cO b5 eV w',x= .dV t T s r w→y= .dV dT cO b5 eV w'→False:=by
   rintro t T s r w dT cO b5 eV w' rfl rfl
   exact aH4 ⟨Mm d1,Mm dl⟩
  have aV:y.ok H:=by
   cases y with
   |d e=>trivial
   |dV t T s r w=>
    have ac:=ab3 dl
    simp only[X.ok]at ax ⊢
    cases x with
    |d f=>
     cases f with
     |dj=>exact ax
     |km=>exact ax
     |bj=>
      simp only[X.heap,D.heap,aA.cj]at ax
      rw[if_neg (by omega)]at ax
      exact ax
    |dV=>exact (notboth _ _ _ _ _ _ _ _ _ _ rfl rfl).elim
  refine (ov wW).2 ⟨y,dl,aV,fun k aw bj3=> ?_⟩
  have Ge:=Mn kT (PI aw) (tB (rc (y.val k)) d1)
  have lD:x.ok (y.heap H k):=by
   cases x with
   |d e=>trivial
   |dV t T s r w=>
    simp only[X.ok]at d2 ⊢
    cases y with
    |d f=>
     cases f with
     |dj=>exact d2
     |km=>exact d2
     |bj=>
      simp only[X.fresh,D.fresh]at aw
      simp only[X.heap,D.heap,aA.cj]
      rw[if_neg (fun e=>by subst e; rw[aw]at d2; cases d2)]
      exact d2
    |dV=>exact (notboth _ _ _ _ _ _ _ _ _ _ rfl rfl).elim
  refine (ov kT).2 ⟨x,Ge,lD,fun n aW oW=> ?_⟩
  have tR:=af8 aw aW
  have g1:=d3 n tR (tH bH)
  obtain⟨iX,f1,f2,f3⟩:=(ov wW).1 g1
  have ae9:=tB (oP (x.val n)).symm f1
  have:=DA wW ae9 (Mn wW (PI tR) dl)
  subst this
  rw[am9 d2 aV aw aW tR notboth]at oW ⊢
  exact hC _ _ _ (o4 _ _) (f3 k (ag2 d2 aw aW) oW)
def mg (P:Program):List bY→Env→aA→(Env→aA→Prop)→(I→aA→Prop)→Prop
 |[],env,H,K,_=>K env H
 |i::l,env,H,K,Rp=>GStep P i env H (fun v aB=>ix aB→mg P l (env.put i.dst v) aB K Rp) Rp
theorem Gq {P:Program}{K:Env→aA→Prop}{Rp:I→aA→Prop}: ∀(l:List bY){env:Env}{H:aA},bt P l env H K Rp→mg P l env H K Rp
 |[],_,_,h=>by simpa only[mg,bt] using h
 |i::l,env,H,h=>by
  rw[C0]at h
  exact xQ (AF fun _=>rfl) (fun v aB a8 _=>Gq l a8) (fun _ _ h=>h) h
theorem Mr {P:Program}{K:Env→aA→Prop}{Rp:I→aA→Prop}(dZ: ∀e cI H,lQ e cI→K e H→K cI H): ∀(l:List bY){e cI:Env}{H:aA},lQ e cI→mg P l e H K Rp→mg P l cI H K Rp
 |[],e,cI,H,h,br=>by simp only[mg]at br ⊢; exact dZ e cI H h br
 |i::l,e,cI,H,h,br=>by
  simp only[mg]at br ⊢
  exact xQ (AF h) (fun v aB a8 hf=>Mr dZ l (IP h i.dst v) (a8 hf)) (fun _ _ h=>h) br
theorem Gp {P:Program}{K K':Env→aA→Prop}{Rp:I→aA→Prop}(dZ: ∀e H,K e H→K' e H): ∀(l:List bY){e:Env}{H:aA},mg P l e H K Rp→mg P l e H K' Rp
 |[],e,H,br=>by simp only[mg]at br ⊢; exact dZ e H br
 |i::l,e,H,br=>by
  simp only[mg]at br ⊢
  exact xQ (AF fun _=>rfl) (fun v aB a8 hf=>Gp dZ l (a8 hf)) (fun _ _ h=>h) br
theorem Ms {P:Program}{K:Env→aA→Prop}{Rp:I→aA→Prop}(dZ: ∀e cI H,lQ e cI→K e H→K cI H){i:bY}{xr:List bY}: ∀(q7:List bY){env:Env}{H:aA},ix H→(∀y∈q7,indep y i=true)→mg P (q7++i::xr) env H K Rp→mg P (i::(q7++xr)) env H K Rp
 |[],_,_,_,_,h=>h
 |y::q7,env,H,bH,ad,h=>by
  simp only[List.cons_append,mg]at h
  have aa:GStep P y env H (fun v H1=>ix H1→GStep P i (env.put y.dst v) H1 (fun u dQ=>ix dQ→mg P (q7++xr) ((env.put y.dst v).put i.dst u) dQ K Rp) Rp) Rp:=
   xQ (AF fun _=>rfl) (fun v H1 a8 hf=>Ms dZ q7 hf (fun z aG=>ad z (by simp [aG])) (a8 hf)) (fun _ _ h=>h) h
  exact ah9 (C:=fun e H=>mg P (q7++xr) e H K Rp) (fun e cI H he br=>Mr dZ _ he br) bH (ad y (by simp)) aa
section
variable {P:Program}{n:Nat}{m0:iy}{ops:Array Oper}{Q:Exit→Act→World→Prop}
theorem Jh {m:Mem}(be:b9 m):ix m.H:=by
 refine⟨max m.w.heap.size m.T,fun k aw=>⟨?_,?_⟩⟩
 ·cases h:m.H.aZ k with
  |none=>rfl
  |some x=>have:=uu be (T:=x.1) (cs:=x.2) h; omega
 ·cases h:m.H.tok k with
  |none=>rfl
  |some i=>have:=(be.tok k i h).1; omega
def AC (n:Nat) (m0:iy) (Rp:I→aA→Prop) (Q:Exit→Act→World→Prop):Prop:=
 ∀(x:I) (aX:Mem) (lV:Value) (a:Act),Rp x aX.H→b9 aX→b8 m0.m aX→aP aX x lV→(a.defers=m0.D∧∀E∈m0.kt,eA aX E a.tmps)→a.tmps.size=n→Q (.panic [{v:=lV,recovered:=false}]) a aX.w
theorem OZ {o:Oper}{i:bY}{idx:Nat}{env:Env}{H:aA}{a:Act}{w:World}{K Rp:I→aA→Prop}{vT:Act→World→Prop}(ao:ops[idx]? =some o) (aq:rl P n ops o i=true) (x1:m0.free i) (ac:Rel n m0 env H a w) (hp:AC n m0 Rp Q) (hs:GStep P i env H K Rp)
  (h: ∀v aB cZ w',K v aB→ix aB→Rel n m0 (env.put i.dst v) aB cZ w'→vT cZ w'):wpOp P ops Q idx vT a w:=by
 obtain⟨m,rfl,rfl,be,cA,he,iR,dq⟩:=ac
 obtain⟨c1,ci,fc,ha,k6⟩:=Zw aq
 unfold wpOp
 simp only[ao]
 unfold GStep at hs
 split at hs
 ·rename_i hw
  have HX:=VN fc he hw (fun j w a7=>by rw[dq]; exact k6 j w a7)
  rw[HX]
  simp only[if_true]
  refine .inl (av6 hs ha be he (fun x aX v aw cu cL dv=> ?_) (fun x aX v aw cu cL dv=>hp x aX v a aw cu (cA.trans cL) dv ⟨iR.1,fun E dC k=>aP.aI cL _ _ (iR.2 E dC k)⟩ dq))
  rw[c1]
  exact h x aX.H _ _ aw (Jh cu) (UF he cA cL cu dv iR dq ci x1)
 ·rename_i hw
  have HX:=VN fc he hw (fun j w a7=>by rw[dq]; exact k6 j w a7)
  rw[HX]
  simp only[Bool.false_eq_true,if_false]
  rw[c1]
  exact h _ _ _ _ hs (Jh be) (UF he cA (b8.refl m) be (by simp only[aP]) iR dq ci x1)
 ·exact hs.elim
def Oo:bY:=⟨none,none,.rE 0⟩
def nth (is:List bY) (k:Nat):bY:=is.getD k Oo
theorem F3: ∀ {os:List Oper}{is:List bY},nY P n ops os is=true→os.length=is.length∧∀k o,os[k]? =some o→rl P n ops o (nth is k)=true
 |[],[],_=>⟨rfl,fun k o h=>by simp at h⟩
 |[],_:: _,h=>by simp [nY]at h
 | _:: _,[],h=>by simp [nY]at h
 |o::os,i::is,h=>by
  simp only[nY,Bool.and_eq_true]at h
  obtain⟨ar,ax⟩:=F3 h.2
  refine⟨by simp [ar],fun k o' aw=> ?_⟩
  cases k with
  |zero=>simp at aw; subst aw; exact h.1
  |succ k=>simp at aw; have:=ax k o' aw; simpa [nth] using this
theorem Gr {is:List bY}{K:Env→aA→Prop}{Rp:I→aA→Prop}(aq: ∀k o,ops[k]? =some o→rl P n ops o (nth is k)=true) (x1: ∀k,m0.free (nth is k)) (hp:AC n m0 Rp Q) (aw: ∀env H a w,K env H→Rel n m0 env H a w→Q .normal a w):
  ∀(L:List Nat){env:Env}{H:aA}{a:Act}{w:World},(∀k∈L,k<ops.size)→mg P (L.map (nth is)) env H K Rp→Rel n m0 env H a w→wpOps P ops Q L a w
 |[],env,H,a,w,_,h,ac=>by
  simp only[List.map_nil,mg]at h
  exact aw _ _ _ _ h ac
 |k::L,env,H,a,w,aC,h,ac=>by
  rw[wpOps_cons]
  have cB:=aC k (by simp)
  have ao:ops[k]? =some ops[k]:=Array.getElem?_eq_getElem cB
  simp only[List.map_cons,mg]at h
  exact OZ ao (aq k _ ao) (x1 k) ac hp h fun v aB cZ w' a8 hf lA=>Gr aq x1 hp aw L (fun x ab=>aC x (by simp [ab])) (a8 hf) lA
theorem E2 {is:List bY}:(List.range is.length).map (nth is)=is:=by
 apply List.ext_getElem?
 intro k
 by_cases aw:k<is.length
 ·simp [nth,aw]
 ·simp [List.getElem?_eq_none (Nat.le_of_not_lt aw),aw]
end
section
variable {P:Program}{n:Nat}{m0:iy}{ops:Array Oper}{Q:Exit→Act→World→Prop}
def Kr (ops:Array Oper) (listed:Array Bool):Prop:=∀i o,ops[i]? =some o→listed.getD i false=true→∀e∈o.after,Region.binds .any e=true→listed.getD e.on false=true
theorem Wl (acc:List Nat) (l:List Edge) (s k:Nat):(l.foldl (fun s e=>if Region.binds .any e then s|||2^e.on|||acc.getD e.on 0 else s) s).testBit k=true→s.testBit k=true∨∃e∈l,Region.binds .any e=true∧(k=e.on∨(acc.getD e.on 0).testBit k=true):=by
 induction l generalizing s with
 |nil=>intro h; exact .inl h
 |cons e l bB=>
  intro h
  simp only[List.foldl_cons]at h
  rcases bB _ h with h|⟨cI,D8,hb,aw⟩
  ·split at h
   ·rename_i hb
    simp only[Nat.testBit_or,Bool.or_eq_true]at h
    rcases h with (h|h)|h
    ·exact .inl h
    ·refine .inr ⟨e,by simp,hb,.inl ?_⟩
     rw[Nat.testBit_two_pow]at h
     exact (by simpa using h:e.on=k).symm
    ·exact .inr ⟨e,by simp,hb,.inr h⟩
   ·exact .inl h
  ·exact .inr ⟨cI,by simp [D8],hb,aw⟩
theorem KT {listed:Array Bool}(aq:Kr ops listed) (hb: ∀i o,ops[i]? =some o→∀e∈o.after,Region.binds .any e=true→e.on<i):
  ∀(os:List Oper) (acc:List Nat),(∀j o,os[j]? =some o→ops[acc.length+j]? =some o)→
   (∀i,i<acc.length→(∀o,ops[i]? =some o→∀e∈o.after,Region.binds .any e=true→listed.getD e.on false=true)→∀k,(acc.getD i 0).testBit k=true→listed.getD k false=true)→
   ∀i,i<acc.length+os.length→(∀o,ops[i]? =some o→∀e∈o.after,Region.binds .any e=true→listed.getD e.on false=true)→
    ∀k,((os.foldl (fun acc o=>acc++[o.after.foldl (fun s e=>if Region.binds .any e then s|||2^e.on|||acc.getD e.on 0 else s) 0]) acc).getD i 0).testBit k=true→listed.getD k false=true
 |[],acc,_,h,i,ad,ac,k,aw=>h i (by simpa using ad) ac k aw
 |o::os,acc,u1,h,i,ad,ac,k,aw=>by
  simp only[List.foldl_cons]at aw
  refine KT aq hb os _ (fun j o' bx=> ?_) (fun dB iD lA fO qe=> ?_) i (by simp at ad ⊢; omega) ac k aw
  ·have:=u1 (j+1) o' (by simpa using bx)
   simpa [Nat.add_assoc,Nat.add_comm 1 j] using this
  ·simp only[List.length_append,List.length_singleton]at iD
   by_cases cB:dB<acc.length
   ·refine h dB cB lA fO ?_
    rw[List.getD_eq_getElem?_getD,List.getElem?_append_left cB,←List.getD_eq_getElem?_getD]at qe
    exact qe
   ·have an9:dB=acc.length:=by omega
    subst an9
    have ao:ops[acc.length]? =some o:=by have:=u1 0 o rfl; simpa using this
    rw[List.getD_eq_getElem?_getD,List.getElem?_append_right (Nat.le_refl _)]at qe
    simp only[Nat.sub_self,List.getElem?_cons_zero,Option.getD_some]at qe
    rw[←Array.foldl_toList]at qe
    rcases Wl acc o.after.toList 0 fO qe with aU|⟨e,he,qb,HJ⟩
    ·simp at aU
    ·have D8:e∈o.after:=by simpa using he
     have aC:=lA o ao e D8 qb
     rcases HJ with rfl|HJ
     ·exact aC
     ·have cB:=hb _ o ao e D8 qb
      refine h e.on cB (fun eR BB ax Hy gP=>aq e.on eR BB aC ax Hy gP) fO HJ
theorem aE9 {os:List Oper}{is:List bY}(h:yp os is=true):(∀(i:Nat) (o:Oper),os[i]? =some o→∀e∈o.after,Region.binds .any e=true→e.on<i)∧(∀i j,i<j→j<is.length→((KS os).getD j 0).testBit i=true∨indep (nth is i) (nth is j)=true):=by
 simp only[yp,Bool.and_eq_true,List.all_eq_true]at h
 obtain⟨U,aa⟩:=h
 refine⟨fun i o ao e he hb=> ?_,fun i j Ee bx=> ?_⟩
 ·have:=U (o,i) (by rw[List.mem_zipIdx_iff_getElem?]; exact ao)
  simp only[Array.all_eq_true_iff_forall_mem]at this
  have:=this e he
  simp only[hb,Bool.not_true,Bool.false_or,Nat.blt_eq]at this
  exact this
 ·have ad:i<is.length:=by omega
  have:=aa (nth is j,j) (by rw[List.mem_zipIdx_iff_getElem?]; simp [nth,bx]) (nth is i,i) (by rw[List.mem_zipIdx_iff_getElem?]; simp [nth,ad])
  simp only[Bool.or_eq_true,Bool.not_eq_true']at this
  rcases this with (this|this)|this
  ·have cB:Nat.blt i j=true:=by rw[Nat.blt_eq]; exact Ee
   rw[cB]at this
   cases this
  ·exact .inl this
  ·exact .inr this
theorem Mt {is:List bY}{K:Env→aA→Prop}{Rp:I→aA→Prop}(hlen:ops.size=is.length) (iT:yp ops.toList is=true) (aq: ∀k o,ops[k]? =some o→rl P n ops o (nth is k)=true) (x1: ∀k,m0.free (nth is k)) (hp:AC n m0 Rp Q) (dZ: ∀e cI H,lQ e cI→K e H→K cI H) (aw: ∀env H a w,K env H→Rel n m0 env H a w→Q .normal a w):
  ∀(kR:Nat) (T:List Nat) (listed:Array Bool){env:Env}{H:aA}{a:Act}{w:World},listed.size=ops.size→T.Pairwise (·< ·)→(∀k,k∈T↔k<ops.size∧listed.getD k true=false)→T.length=kR→Kr ops listed→
   mg P (T.map (nth is)) env H K Rp→Rel n m0 env H a w→wpAny P .any ops Q kR listed a w:=by
 obtain⟨hb,nt⟩:=aE9 iT
 have ia: ∀(i:Nat) (o:Oper),ops[i]? =some o→∀e∈o.after,Region.binds .any e=true→e.on<i:=fun i o ao=>hb i o (by simpa using ao)
 have ready: ∀(listed:Array Bool) i,i∈Region.ready .any ops listed↔i<ops.size∧listed.getD i true=false∧∀o,ops[i]? =some o→∀e∈o.after,Region.binds .any e=true→listed.getD e.on false=true:=by
  intro listed i
  simp only[Region.ready,List.mem_filter,List.mem_range,Bool.and_eq_true,Bool.not_eq_true']
  constructor
  ·rintro⟨U,aa,ay⟩
   refine⟨U,aa,fun o ao e he qb=> ?_⟩
   rw[ao]at ay
   simp only[Option.map_some,Option.getD_some,Array.all_eq_true_iff_forall_mem]at ay
   have:=ay e he
   simpa [qb] using this
  ·rintro⟨U,aa,ay⟩
   refine⟨U,aa,?_⟩
   have ao:ops[i]? =some ops[i]:=Array.getElem?_eq_getElem U
   rw[ao]
   simp only[Option.map_some,Option.getD_some,Array.all_eq_true_iff_forall_mem]
   intro e he
   by_cases qb:Region.binds .any e=true
   ·simp [qb,ay _ ao e he qb]
   ·simp [qb]
 intro kR
 induction kR with
 |zero=>
  intro T listed env H a w dq hs dF aC tN h ac
  have:T=[]:=List.eq_nil_of_length_eq_zero aC
  subst this
  refine⟨?_,aw _ _ _ _ h ac⟩
  rw[List.eq_nil_iff_forall_not_mem]
  intro i ad
  obtain⟨U,aa,_⟩:=(ready listed i).1 ad
  have:=(dF i).2 ⟨U,aa⟩
  cases this
 |succ kR bB=>
  intro T listed env H a w dq hs dF aC tN h ac
  refine⟨fun aq3=> ?_,fun i ad=> ?_⟩
  ·-- the first that is left is ready
   match T,aC with
   |t::T,_=>
    have ht:=(dF t).1 (by simp)
    have:t∈Region.ready .any ops listed:=by
     refine (ready listed t).2 ⟨ht.1,ht.2,fun o ao e he qb=> ?_⟩
     have cB:=ia t o ao e he qb
     cases bw:listed.getD e.on true with
     |true=>
      have:e.on<listed.size:=by omega
      simp [Array.getD_eq_getD_getElem?,this]at bw ⊢
      exact bw
     |false=>
      have hm:=(dF e.on).2 ⟨by omega,bw⟩
      rcases List.mem_cons.1 hm with ar|ar
      ·omega
      ·have:=List.rel_of_pairwise_cons hs ar
       omega
    rw[aq3]at this
    cases this
  ·obtain⟨U,aa,ay⟩:=(ready listed i).1 ad
   have an8:=(dF i).2 ⟨U,aa⟩
   obtain⟨q7,xr,rfl⟩:=List.append_of_mem an8
   have ao:ops[i]? =some ops[i]:=Array.getElem?_eq_getElem U
   have ak3:=KT tN ia ops.toList [] (fun j o bx=>by simpa using bx) (fun i ad=>by simp at ad) i (by simpa using U) ay
   have HG: ∀y∈q7.map (nth is),indep y (nth is i)=true:=by
    intro y aV
    obtain⟨k,HK,rfl⟩:=List.mem_map.1 aV
    have ao5:k<i:=by
     rw[List.pairwise_append]at hs
     exact hs.2.2 k HK i (by simp)
    rcases nt k i ao5 (by omega) with al4|HG
    ·have zD:=ak3 k al4
     have st:=(dF k).1 (by simp [HK])
     have:k<listed.size:=by omega
     simp [Array.getD_eq_getD_getElem?,this]at zD st
     rw[zD]at st
     simp at st
    ·exact HG
   have bH:ix H:=by
    obtain⟨m,rfl,rfl,be,_⟩:=ac
    exact Jh be
   have PB:=Ms dZ (i:=nth is i) (q7.map (nth is)) bH HG (by simpa using h)
   simp only[mg]at PB
   refine OZ ao (aq i _ ao) (x1 i) ac hp PB fun v aB cZ w' a8 hf lA=> ?_
   refine bB (q7++xr) _ (by simpa using dq) ?_ (fun k=> ?_) (by simp at aC ⊢; omega) ?_ (by simpa using a8 hf) lA
   ·rw[List.pairwise_append,List.pairwise_cons]at hs
    rw[List.pairwise_append]
    exact⟨hs.1,hs.2.1.2,fun a aL b hb=>hs.2.2 a aL b (by simp [hb])⟩
   ·have Pq:i∉q7∧i∉xr:=by
     rw[List.pairwise_append,List.pairwise_cons]at hs
     exact⟨fun hm=>by have:=hs.2.2 i hm i (by simp); omega,fun hm=>by have:=hs.2.1.1 i hm; omega⟩
    have:=dF k
    by_cases e:k=i
    ·subst e
     simp only[List.mem_append,Pq.1,Pq.2,or_self,false_iff,not_and]
     intro _
     have:k<listed.size:=by omega
     simp [Array.getD_eq_getD_getElem?,this]
    ·have e3:(listed.setIfInBounds i true).getD k true=listed.getD k true:=by
      simp [Array.getD_eq_getD_getElem?,Array.getElem?_setIfInBounds_ne (Ne.symm e)]
     rw[e3,←this]
     simp [e]
   ·intro j o bx PJ e he qb
    by_cases PG:j=i
    ·subst PG
     have:=ay o bx e he qb
     by_cases D9:e.on=j
     ·have:=ia j o bx e he qb
      omega
     ·simp only[Array.getD_eq_getD_getElem?,Array.getElem?_setIfInBounds_ne (Ne.symm D9)]at this ⊢
      exact this
    ·have ap2:listed.getD j false=true:=by
      simp only[Array.getD_eq_getD_getElem?,Array.getElem?_setIfInBounds_ne (Ne.symm PG)]at PJ ⊢
      exact PJ
     have:=tN j o bx ap2 e he qb
     by_cases D9:e.on=i
     ·rw[D9]
      have:i<listed.size:=by omega
      simp [Array.getD_eq_getD_getElem?,this]
     ·simp only[Array.getD_eq_getD_getElem?,Array.getElem?_setIfInBounds_ne (Ne.symm D9)]at this ⊢
      exact this
end
theorem aB2 {P:Program}{m:Mem}{env:Env}{t:TypeId}{agg:Bool}{n:Nat}{y:aJ}{r:I}{pF:Value}(be:b9 m) (U:qJ P t agg n=true) (aq:aP m (y.aI env) pF) (hp:ca (.load agg n y) env m.H=some r):
  ∃dH v,pF= .pointer (some dH)∧(loadVar t dH).run P m.w= .ok v m.w∧aP m r v:=by
 simp only[ca]at hp
 have fin: ∀b p (l:List Value) (cs:List I),pF= .pointer (some ⟨b,p,none⟩)→I.js agg cs=some r→aR m cs l→l.length=n→(∀(j:Nat) (v:Value),l[j]? =some v→m.w.cell? ⟨b,p+j,none⟩=some v)→∃dH v,pF= .pointer (some dH)∧(loadVar t dH).run P m.w= .ok v m.w∧aP m r v:=by
  intro b p l cs ar ax bU dl gn
  refine⟨_,_,ar,Jm U b p l dl gn,?_⟩
  rcases Cf ax bU with ⟨rfl,h⟩|⟨rfl,v,rfl,h⟩
  ·exact h
  ·exact h
 split at hp
 ·rename_i b p e
  rw[e]at aq
  split at hp
  ·rename_i T cs hb
   split at hp
   ·rename_i hle
    obtain⟨l,g1,g2,g3⟩:=be.aZ b _ cs hb
    refine fin b p ((l.drop p).take n) _ (w0 aq) hp (aR.take n (aR.drop p g2)) ?_ fun j v bx=> ?_
    ·have:=aR.length g2
     simp; omega
    ·rw[cell_of_row m.w b _ _ _ _ g1]
     rw[List.getElem?_take]at bx
     split at bx
     ·rw[List.getElem?_drop]at bx
      simpa using bx
     ·cases bx
   ·cases hp
  ·cases hp
 ·rename_i row p e
  rw[e]at aq
  obtain⟨b,q,ar,ax⟩:=Ab aq
  split at hp
  ·rename_i hle
   obtain⟨l,g1,g2⟩:=fr.yH ax
   refine fin b (q+p) ((l.drop p).take n) _ ar hp (aR.take n (aR.drop p g1)) ?_ fun j v bx=> ?_
   ·have:=aR.length g1
    simp; omega
   ·rw[List.getElem?_take]at bx
    split at bx
    ·rw[List.getElem?_drop]at bx
     rw[Nat.add_assoc]
     exact (g2 _ v bx).1
    ·cases bx
  ·cases hp
 ·cases hp
def E3 (tmps:Array Value) (x:ResultVar):Sem Value:=
 match x with
 | .tmp t=>pure (tmps.getD t undef)
 | .cell a t=>do loadVar t (←asAddr (tmps.getD a undef))
theorem ae6 {P:Program}{m:Mem}{env:Env}{tmps:Array Value}{x:ResultVar}{e:bc}{r:I}(he:eA m env tmps) (be:b9 m) (aq:nZ P [x] [e]=true) (ac:e.aI env m.H=some r):
  ∃v,(E3 tmps x).run P m.w= .ok v m.w∧aP m r v:=by
 cases x with
 |tmp t=>
  cases e with
  |t k=>
   simp [nZ]at aq
   subst aq
   simp only[bc.aI,Option.some.injEq]at ac
   subst ac
   exact⟨_,rfl,he t⟩
  |cell=>simp [nZ]at aq
 |cell a ty=>
  cases e with
  |t k=>simp [nZ]at aq
  |cell agg k cZ=>
   simp [nZ]at aq
   obtain⟨rfl,aa⟩:=aq
   simp only[bc.aI]at ac
   obtain⟨dH,v,ar,ax,bU⟩:=aB2 (y:= .t a) be aa (he a) ac
   refine⟨v,?_,bU⟩
   simp only[E3,Sem.run_bind,ar,asAddr,Sem.run_pure,Result.andThen_ok,ax]
theorem Zx {P:Program}{x:ResultVar}{xs:List ResultVar}{e:bc}{es:List bc}(h:nZ P (x::xs) (e::es)=true):nZ P [x] [e]=true∧nZ P xs es=true:=by
 cases x<;>cases e<;>simp [nZ]at h ⊢
 ·exact h
 ·exact h
theorem UG {P:Program}{m:Mem}{env:Env}{tmps:Array Value}(he:eA m env tmps) (be:b9 m): ∀ {xs:List ResultVar}{es:List bc}{aS:List I},nZ P xs es=true→es.mapM (bc.aI env m.H)=some aS→
  ∃af,(xs.mapM (E3 tmps)).run P m.w= .ok af m.w∧aR m aS af
 |[],[],aS,_,h=>by
  simp at h
  subst h
  exact⟨[],by simp,by simp only[aR]⟩
 |[],_:: _,_,h,_=>by simp [nZ]at h
 | _:: _,[],_,h,_=>by simp [nZ]at h
 |x::xs,e::es,aS,aq,h=>by
  obtain⟨U,aa⟩:=Zx aq
  simp only[List.mapM_cons,Option.bind_eq_bind,Option.pure_def]at h
  cases ac:e.aI env m.H with
  |none=>simp [ac]at h
  |some r=>
   cases HT:es.mapM (bc.aI env m.H) with
   |none=>simp [ac,HT]at h
   |some Jk=>
    simp [ac,HT]at h
    subst h
    obtain⟨v,g1,g2⟩:=ae6 he be U ac
    obtain⟨af,g3,g4⟩:=UG he be aa HT
    refine⟨v::af,?_,by simp only[aR]; exact⟨v,af,rfl,g2,g4⟩⟩
    rw[List.mapM_cons]
    simp only[Sem.run_bind,g1,Result.andThen_ok,g3,Sem.run_pure]
theorem aQ8 {P:Program}{m:Mem}{env:Env}{tmps:Array Value}{fn:Func}{aS:List bc}{r:I}(he:eA m env tmps) (be:b9 m) (aq:nZ P fn.results.toList aS=true) (ac:aO.results aS env m.H=some r):
  ∃v,(Go.results fn tmps).run P m.w= .ok v m.w∧aP m r v:=by
 have key: ∀es:List I,aS.mapM (bc.aI env m.H)=some es→∃af,(Go.results fn tmps).run P m.w= .ok (if h:af.toArray.size=1 then af.toArray[0] else .tuple af.toArray) m.w∧aR m es af:=by
  intro es zC
  obtain⟨af,g1,g2⟩:=UG he be aq zC
  refine⟨af,?_,g2⟩
  show ((fn.results.mapM (E3 tmps))>>=fun af=>pure (if h:af.size=1 then af[0] else .tuple af)).run P m.w= _
  rw[Array.mapM_eq_mapM_toList]
  simp only[Sem.run_bind,Sem.run_map,g1,Result.andThen_ok,Sem.run_pure]
 unfold aO.results at ac
 split at ac
 ·rename_i e
  obtain⟨af,g1,g2⟩:=key [r] (by simp [ac])
  simp only[aR]at g2
  obtain⟨v,_,rfl,g2,rfl⟩:=g2
  exact⟨v,by simpa using g1,g2⟩
 ·rename_i e3
  cases zC:aS.mapM (bc.aI env m.H) with
  |none=>simp [zC]at ac
  |some es=>
   simp [zC]at ac
   subst ac
   obtain⟨af,g1,g2⟩:=key es zC
   have aC:aS.length=es.length:=by
    have: ∀(l:List bc) (es:List I),l.mapM (bc.aI env m.H)=some es→l.length=es.length:=by
     intro l
     induction l with
     |nil=>intro es h; simp at h; subst h; rfl
     |cons x l bB=>
      intro es h
      simp only[List.mapM_cons,Option.bind_eq_bind,Option.pure_def]at h
      cases ab:x.aI env m.H with
      |none=>simp [ab]at h
      |some y=>
       cases aC:l.mapM (bc.aI env m.H) with
       |none=>simp [ab,aC]at h
       |some eT=>simp [ab,aC]at h; subst h; simp [bB eT aC]
    exact this aS es zC
   have ap9:af.length≠1:=by
    rw[aR.length g2,←aC]
    intro e
    obtain⟨x,ab⟩:=List.length_eq_one_iff.1 e
    exact e3 x ab
   rw[dif_neg (by simpa using ap9)]at g1
   exact⟨_,g1,by simp only[aP]; exact⟨af,rfl,g2⟩⟩
end Go.aO
namespace Go.aO
open Go
inductive rS where
 |c (c:Code)
 |aZ (id:Nat)
 |round (av:Act→World→Prop)
def post (P:Program) (B:Exit→Act→World→Prop):List rS→Exit→Act→World→Prop
 |[],e,a,w=>B e a w
 | .c code::k,e,a,w=>match e with
  | .normal=>code.wp P (post P B k) a w
  |e=>post P B k e a w
 | .aZ id::k,e,a,w=>match e with
  | .exit P1=>if P1=id then post P B k .normal a w else post P B k (.exit P1) a w
  |e=>post P B k e a w
 | .round av::k,e,a,w=>match e with
  | .normal=>av a w
  |e=>post P B k e a w
def hZ (P:Program) (n:Nat) (m0:iy):List Item→List rS→Prop
 |[],l=>l=[]
 | .c e::k,l=> ∃c cc,l= .c c::cc∧(mq P n c e=true∧∀E∈m0.kt,∀p∈E,e.l6 p.1=true)∧hZ P n m0 k cc
 | .aZ id::k,l=> ∃cc,l= .aZ id::cc∧hZ P n m0 k cc
 | .round fK m::k,l=> ∃av cc,l= .round av::cc∧(∀a w,(∃aX env H,fK aX env H∧aX<m∧Rel n m0 env H a w)→av a w)∧hZ P n m0 k cc
section
variable {P:Program}{B:Exit→Act→World→Prop}
theorem EP: ∀(l:List rS) (a:Act) (w:World),B .ret a w→post P B l .ret a w
 |[],_,_,h=>h
 | .c _::l,a,w,h=>EP l a w h
 | .aZ _::l,a,w,h=>EP l a w h
 | .round _::l,a,w,h=>EP l a w h
theorem EO: ∀(l:List rS) (vZ:List PanicEntry) (a:Act) (w:World),B (.panic vZ) a w→post P B l (.panic vZ) a w
 |[],_,_,_,h=>h
 | .c _::l,vZ,a,w,h=>EO l vZ a w h
 | .aZ _::l,vZ,a,w,h=>EO l vZ a w h
 | .round _::l,vZ,a,w,h=>EO l vZ a w h
theorem EN {n:Nat}{m0:iy}{id:Nat}: ∀(k:List Item) (l:List rS) (fO:List Item),hZ P n m0 k l→qV id k=some fO→∃cc,hZ P n m0 fO cc∧∀a w,post P B cc .normal a w→post P B l (.exit id) a w
 |[],_,_,_,h=>by simp [qV]at h
 | .c e::k,l,fO,ad,h=>by
  simp only[hZ]at ad
  obtain⟨c,cc,rfl,_,ad⟩:=ad
  simp only[qV]at h
  obtain⟨fG,g1,g2⟩:=EN k cc fO ad h
  exact⟨fG,g1,fun a w a8=>g2 a w a8⟩
 | .aZ j::k,l,fO,ad,h=>by
  simp only[hZ]at ad
  obtain⟨cc,rfl,ad⟩:=ad
  simp only[qV]at h
  split at h
  ·rename_i e
   subst e
   simp at h
   subst h
   exact⟨cc,ad,fun a w a8=>by simp only[post,if_pos]; exact a8⟩
  ·rename_i e
   obtain⟨fG,g1,g2⟩:=EN k cc fO ad h
   exact⟨fG,g1,fun a w a8=>by simp only[post]; rw[if_neg (Ne.symm e)]; exact g2 a w a8⟩
 | .round fK m::k,l,fO,ad,h=>by
  simp only[hZ]at ad
  obtain⟨av,cc,rfl,_,ad⟩:=ad
  simp only[qV]at h
  obtain⟨fG,g1,g2⟩:=EN k cc fO ad h
  exact⟨fG,g1,fun a w a8=>g2 a w a8⟩
theorem aI7 {c:Code}{l:List rS}:Exit.then (c.wp P (post P B l)) (post P B l)=post P B (.c c::l):=by
 funext e a w
 cases e<;>rfl
theorem aI6 {id:Nat}{l:List rS}:Exit.inBlock id (post P B l)=post P B (.aZ id::l):=by
 funext e a w
 cases e<;>rfl
end
theorem uo {P:Program}{n:Nat}{ops:Array Oper}: ∀ {os:List Oper}{is:List bY}(anns:List I),nY P n ops os is=true→nY P n ops os (fs is anns)=true
 |[],[],_,h=>by simpa [fs] using h
 |[],_:: _,_,h=>by simp [nY]at h
 | _:: _,[],_,h=>by simp [nY]at h
 |o::os,⟨d,g,op⟩::is,anns,h=>by
  simp only[nY,Bool.and_eq_true]at h
  cases op with
  |jF f args=>
   cases anns with
   |nil=>simp only[fs,nY,Bool.and_eq_true]; exact⟨h.1,uo [] h.2⟩
   |cons r aS=>
    simp only[fs,nY,Bool.and_eq_true]
    refine⟨?_,uo aS h.2⟩
    have U:=h.1
    simp only[rl,Bool.and_eq_true]at U ⊢
    refine⟨U.1,?_⟩
    have:=U.2
    cases ao:o.op<;>rw[ao]at this<;>first
     |(simp [bo]at this; done)
     |skip
    rename_i c
    obtain⟨callee,fC,at'⟩:=c
    cases callee<;>first
     |exact this
     |(rename_i b; cases b<;>exact this)
  |ld x args=>
   cases anns with
   |nil=>simp only[fs,nY,Bool.and_eq_true]; exact⟨h.1,uo [] h.2⟩
   |cons r aS=>
    simp only[fs,nY,Bool.and_eq_true]
    refine⟨?_,uo aS h.2⟩
    have U:=h.1
    simp only[rl,Bool.and_eq_true]at U ⊢
    refine⟨U.1,?_⟩
    have:=U.2
    cases ao:o.op<;>rw[ao]at this<;>first
     |(simp [bo]at this; done)
     |skip
    rename_i c
    obtain⟨callee,fC,at'⟩:=c
    cases callee<;>first
     |exact this
     |(rename_i b; cases b<;>exact this)
  |tZ T size f args=>
   cases anns with
   |nil=>simp only[fs,nY,Bool.and_eq_true]; exact⟨h.1,uo [] h.2⟩
   |cons r aS=>
    simp only[fs,nY,Bool.and_eq_true]
    refine⟨?_,uo aS h.2⟩
    have U:=h.1
    simp only[rl,Bool.and_eq_true]at U ⊢
    refine⟨U.1,?_⟩
    have:=U.2
    cases ao:o.op<;>rw[ao]at this<;>first
     |(simp [bo]at this; done)
     |skip
    rename_i c
    obtain⟨callee,fC,at'⟩:=c
    cases callee<;>first
     |exact this
     |(rename_i b; cases b<;>exact this)
  | _=>simp only[fs,nY,Bool.and_eq_true]; exact⟨h.1,uo anns h.2⟩
theorem tr: ∀(is:List bY) (anns:List I) (k:Nat),(nth (fs is anns) k).dst=(nth is k).dst∧(nth (fs is anns) k).reads=(nth is k).reads∧(nth (fs is anns) k).op.dm=(nth is k).op.dm∧(nth (fs is anns) k).total=(nth is k).total∧(nth (fs is anns) k).op.live=(nth is k).op.live∧(nth (fs is anns) k).w6=(nth is k).w6
 |[],anns,k=>by simp [fs]
 |⟨d,g,op⟩::is,anns,k=>by
  cases op with
  |jF f args=>
   cases anns with
   |nil=>
    cases k with
    |zero=>exact⟨rfl,rfl,rfl,rfl,rfl,by first|rfl|(cases g<;>rfl)⟩
    |succ k=>exact tr is [] k
   |cons r aS=>
    cases k with
    |zero=>exact⟨rfl,rfl,rfl,rfl,rfl,by first|rfl|(cases g<;>rfl)⟩
    |succ k=>exact tr is aS k
  |ld f args=>
   cases anns with
   |nil=>
    cases k with
    |zero=>exact⟨rfl,rfl,rfl,rfl,rfl,by first|rfl|(cases g<;>rfl)⟩
    |succ k=>exact tr is [] k
   |cons r aS=>
    cases k with
    |zero=>exact⟨rfl,rfl,rfl,rfl,rfl,by first|rfl|(cases g<;>rfl)⟩
    |succ k=>exact tr is aS k
  |tZ T size f args=>
   cases anns with
   |nil=>
    cases k with
    |zero=>exact⟨rfl,rfl,rfl,rfl,rfl,by first|rfl|(cases g<;>rfl)⟩
    |succ k=>exact tr is [] k
   |cons r aS=>
    cases k with
    |zero=>exact⟨rfl,rfl,rfl,rfl,rfl,by first|rfl|(cases g<;>rfl)⟩
    |succ k=>exact tr is aS k
  | _=>
   cases k with
   |zero=>exact⟨rfl,rfl,rfl,rfl,rfl,by first|rfl|(cases g<;>rfl)⟩
   |succ k=>exact tr is anns k
theorem uq: ∀(is:List bY) (anns:List I) (k:Nat),(nth (fs is anns) k).op.quiet=(nth is k).op.quiet∧(nth (fs is anns) k).op.vD=(nth is k).op.vD∧(nth (fs is anns) k).op.vY=(nth is k).op.vY∧(nth (fs is anns) k).pV=(nth is k).pV
 |[],anns,k=>by simp [fs]
 |⟨d,g,op⟩::is,anns,k=>by
  cases op with
  |jF f args=>
   cases anns with
   |nil=>
    cases k with
    |zero=>exact⟨rfl,rfl,rfl,by first|rfl|(cases g<;>rfl)⟩
    |succ k=>exact uq is [] k
   |cons r aS=>
    cases k with
    |zero=>exact⟨rfl,rfl,rfl,by first|rfl|(cases g<;>rfl)⟩
    |succ k=>exact uq is aS k
  |ld f args=>
   cases anns with
   |nil=>
    cases k with
    |zero=>exact⟨rfl,rfl,rfl,by first|rfl|(cases g<;>rfl)⟩
    |succ k=>exact uq is [] k
   |cons r aS=>
    cases k with
    |zero=>exact⟨rfl,rfl,rfl,by first|rfl|(cases g<;>rfl)⟩
    |succ k=>exact uq is aS k
  |tZ T size f args=>
   cases anns with
   |nil=>
    cases k with
    |zero=>exact⟨rfl,rfl,rfl,by first|rfl|(cases g<;>rfl)⟩
    |succ k=>exact uq is [] k
   |cons r aS=>
    cases k with
    |zero=>exact⟨rfl,rfl,rfl,by first|rfl|(cases g<;>rfl)⟩
    |succ k=>exact uq is aS k
  | _=>
   cases k with
   |zero=>exact⟨rfl,rfl,rfl,by first|rfl|(cases g<;>rfl)⟩
   |succ k=>exact uq is anns k
theorem y0: ∀(is:List bY) (anns:List I),(fs is anns).length=is.length
 |[],_=>rfl
 |⟨d,g,op⟩::is,anns=>by
  cases op with
  |jF f args=>cases anns<;>simp [fs,y0 is]
  |ld f args=>cases anns<;>simp [fs,y0 is]
  |tZ T size f args=>cases anns<;>simp [fs,y0 is]
  | _=>simp [fs,y0 is]
theorem KU {os:List Oper}{is:List bY}{anns:List I}(h:yp os is=true):yp os (fs is anns)=true:=by
 simp only[yp,Bool.and_eq_true,List.all_eq_true]at h ⊢
 refine⟨h.1,fun⟨y,j⟩ aV ⟨x,i⟩ ab=> ?_⟩
 rw[List.mem_zipIdx_iff_getElem?]at aV ab
 have bx:j<is.length:=by rw[←y0 is anns]; exact (List.getElem?_eq_some_iff.1 aV).1
 have ad:i<is.length:=by rw[←y0 is anns]; exact (List.getElem?_eq_some_iff.1 ab).1
 have p0:nth (fs is anns) j=y:=by simp only[nth,List.getD_eq_getElem?_getD]; rw[aV]; rfl
 have ex:nth (fs is anns) i=x:=by simp only[nth,List.getD_eq_getElem?_getD]; rw[ab]; rfl
 have:=h.2 (nth is j,j) (by rw[List.mem_zipIdx_iff_getElem?]; simp [nth,bx]) (nth is i,i) (by rw[List.mem_zipIdx_iff_getElem?]; simp [nth,ad])
 have e:indep x y=indep (nth is i) (nth is j):=by
  obtain⟨ec,a2,a3,a4,a5,yY⟩:=tr is anns i
  obtain⟨fz,iM,kL,qu,r0,Dg⟩:=tr is anns j
  rw[p0]at fz iM kL qu r0 Dg
  rw[ex]at ec a2 a3 a4 a5 yY
  obtain⟨KM,KN,a9,KL⟩:=uq is anns i
  obtain⟨Dh,Wx,Di,K2⟩:=uq is anns j
  rw[p0]at Dh Wx Di K2
  rw[ex]at KM KN a9 KL
  unfold indep CF AQ
  rw[KL,K2,KM,Dh,KN,Di,ec,a2,a3,a5,yY,fz,iM,kL,qu,Dg]
 simp only[e]
 exact this
theorem Jf {n:Nat}{m0:iy}{env bd:Env}{H:aA}{a:Act}{w:World}(h: ∀j,bh (env.get j) (bd.get j)) (ac:Rel n m0 env H a w):Rel n m0 bd H a w:=by
 obtain⟨m,U,aa,ay,bl,bW,eL⟩:=ac
 exact⟨m,U,aa,ay,bl,fun k=>h k _ _ (bW k),eL⟩
def Kz (m0:Mem) (R:Out→aA→Prop) (e:Ending) (w':World):Prop:=
 ∃o aB hr cO,b9 ⟨w',aB,hr,cO⟩∧b8 m0 ⟨w',aB,hr,cO⟩∧ti ⟨w',aB,hr,cO⟩ o e∧R o aB
structure Az (P:Program) (fn:Func) (n:Nat) (aS:List bc) (Q:Ending→World→Prop) (R:Out→aA→Prop) (m0:iy):Prop where
 ret: ∀env H v a w,aO.results aS env H=some v→R (.ret v) H→Rel n m0 env H a w→Leaves P fn a.tmps Q a.defers .returning w
 e5: ∀(x:I) (aX:Mem) (lV:Value) (a:Act),R (.e5 x) aX.H→b9 aX→b8 m0.m aX→aP aX x lV→(a.defers=m0.D∧∀E∈m0.kt,eA aX E a.tmps)→a.tmps.size=n→Leaves P fn a.tmps Q a.defers (.panicking [{v:=lV,recovered:=false}]) aX.w
theorem ak9 {P:Program}{fn:Func}{n:Nat}{m0:Mem}{aS:List bc}{R:Out→aA→Prop}(HS:nZ P fn.results.toList aS=true):Az P fn n aS (Kz m0 R) R ⟨m0,[],[]⟩ where
 ret:=fun env H v a w ae ak ac=>by
  obtain⟨m,rfl,rfl,be,cA,he,iR,_⟩:=ac
  obtain⟨lV,g1,g2⟩:=aQ8 (fn:=fn) he be HS ae
  rw[iR.1]
  exact⟨lV,g1,.ret v,m.H,m.L,m.T,be,cA,⟨lV,rfl,g2⟩,ak⟩
 e5:=fun x aX lV a ak be aI ae iR _=>by
  rw[iR.1]
  exact⟨.e5 x,aX.H,aX.L,aX.T,be,aI,⟨lV,rfl,ae⟩,ak⟩
theorem al0 {P:Program}{fn:Func}{n:Nat}{aS:List bc}{Q:Ending→World→Prop}{R pQ:Out→aA→Prop}{m0:iy}{m1:Mem}{f:FuncId}{hA:List I}{af:List Value}{kt:Env}(hb:Az P fn n aS Q R m0) (hf:di P f=true) (Ea:b8 m0.m m1) (jK:aR m1 hA af) (Ed:CZ P f hA)
  (Eo: ∀v aB,pQ (.ret v) aB→R (.ret v) aB) (En: ∀x aB,pQ (.e5 x) aB→vR P f hA x aB fun dQ=> ∃v,aO.results aS kt dQ=some v∧R (.ret v) dQ):
  Az P fn n aS Q pQ ⟨m1,{target:= .fn (.func f) ⟨af⟩,args:= #[]}::m0.D,kt::m0.kt⟩ where
 ret:=fun env H v a w ae ak ac=>by
  obtain⟨m,rfl,rfl,be,cA,he,iR,dq⟩:=ac
  rw[iR.1]
  have hinv:(invoke (.fn (.func f) ⟨af⟩) #[]).run P m.w= .ok (.enter f ⟨af⟩) m.w:=by simp [invoke,CA hf]
  refine leaves_cons (by simp) hinv ((Ed m af be (aR.aI cA _ _ jK)).mono ?_)
  rintro e rQ w' ⟨⟨bI,rfl⟩,rfl,hr,cO,cu,cL⟩
  have:=hb.ret env m.H v {a with defers:=m0.D} w' ae (Eo _ _ ak) ⟨⟨w',m.H,hr,cO⟩,rfl,rfl,cu,(Ea.trans cA).trans cL,fun k=>aP.aI cL _ _ (he k),⟨rfl,fun E dC k=>aP.aI cL _ _ (iR.2 E (by simp [dC]) k)⟩,dq⟩
  exact this
 e5:=fun x aX lV a ak be aI ae iR dq=>by
  rw[iR.1]
  have hinv:(invoke (.fn (.func f) ⟨af⟩) #[]).run P aX.w= .ok (.enter f ⟨af⟩) aX.w:=by simp [invoke,CA hf]
  refine leaves_cons (by simp) hinv ((En x aX.H ak aX af lV rfl be (aR.aI aI _ _ jK) ae).mono ?_)
  rintro e rQ w' ⟨⟨bI,rfl⟩,rfl,aB,hr,cO,cu,cL,v,oX,Hi⟩
  have:=hb.ret kt aB v {a with defers:=m0.D} w' oX Hi ⟨⟨w',aB,hr,cO⟩,rfl,rfl,cu,(Ea.trans aI).trans cL,fun k=>aP.aI cL _ _ (iR.2 kt (by simp) k),⟨rfl,fun E dC k=>aP.aI cL _ _ (iR.2 E (by simp [dC]) k)⟩,dq⟩
  exact this
theorem hZ.more {P:Program}{n:Nat}{m0 m1:iy}: ∀ {k:List Item}{l:List rS},hZ P n m0 k l→(∀E∈m1.kt,E∈m0.kt∨∀p∈E,k.all (Item.l6 p.1)=true)→k.all (fun i=>match i with| .round _ _=>false| _=>true)=true→hZ P n m1 k l
 |[],l,h,_,_=>by simp only[hZ]at*; exact h
 | .c e::k,l,h,aw,ac=>by
  simp only[hZ]at*
  obtain⟨c,cc,rfl,⟨U,aa⟩,ay⟩:=h
  simp only[List.all_cons,Bool.and_eq_true]at aw ac
  exact⟨c,cc,rfl,⟨U,fun E dC p hp=>(aw E dC).elim (fun h=>aa E h p hp) fun h=>(h p hp).1⟩,hZ.more ay (fun E dC=>(aw E dC).imp (fun h=>h) fun h p hp=>(h p hp).2) ac.2⟩
 | .aZ id::k,l,h,aw,ac=>by
  simp only[hZ]at*
  obtain⟨cc,rfl,ay⟩:=h
  simp only[List.all_cons,Bool.and_eq_true]at aw ac
  exact⟨cc,rfl,hZ.more ay (fun E dC=>(aw E dC).imp (fun h=>h) fun h p hp=>(h p hp).2) ac.2⟩
 | .round fK m::k,l,h,aw,ac=>by simp at ac
theorem QQ {m0:iy}{ops:List bY}{draw:Bool}(anns:List I) (h: ∀E∈m0.kt,∀p∈E,(bm.region ops draw).l6 p.1=true) (k:Nat):m0.free (nth (fs ops anns) k):=by
 intro E dC p hp e
 have U:=h E dC p hp
 simp only[bm.l6,List.all_eq_true]at U
 rw[(tr ops anns k).1]at e
 by_cases aw:k<ops.length
 ·have aa:=U (nth ops k) (by simp [nth,aw])
  simp [e]at aa
 ·simp [nth,List.getD,aw,Oo]at e
theorem Wj {P:Program}{fn:Func}{n:Nat}{aS:List bc}{Q:Ending→World→Prop}{R:Out→aA→Prop}(hm:P.follows .mixedOrders=true){k:List Item}{env:Env}{H:aA}(h:cF P aS R k env H):
  ∀(m0:iy) (hb:Az P fn n aS Q R m0) (l:List rS) (a:Act) (w:World),hZ P n m0 k l→Rel n m0 env H a w→post P (bodyPostD P fn Q) l .normal a w:=by
 have e5: ∀ {R:Out→aA→Prop}(m0:iy) (hb:Az P fn n aS Q R m0) (l:List rS),AC n m0 (fun v aB=>R (.e5 v) aB) (post P (bodyPostD P fn Q) l):=by
  intro R m0 hb l x aX lV a ak be aI ae iR dq
  exact EO l _ a aX.w (hb.e5 x aX lV a ak be aI ae iR dq)
 induction h with
 |done ae ak=>
  intro m0 hb l a w ad ac
  simp only[hZ]at ad
  subst ad
  exact hb.ret _ _ _ _ _ ae ak ac
 |ret ae ak=>
  intro m0 hb l a w ad ac
  simp only[hZ]at ad
  obtain⟨c,cc,rfl,⟨aq,hw⟩,ad⟩:=ad
  cases c<;>simp [mq]at aq
  exact wp_ret (EP cc a w (hb.ret _ _ _ _ _ ae ak ac))
 |skip _ bB=>
  intro m0 hb l a w ad ac
  simp only[hZ]at ad
  obtain⟨c,cc,rfl,⟨aq,hw⟩,ad⟩:=ad
  cases c<;>simp [mq]at aq
  exact wp_skip (bB m0 hb cc a w ad ac)
 |AL _ bB=>
  intro m0 hb l a w ad ac
  simp only[hZ]at ad
  obtain⟨cc,rfl,ad⟩:=ad
  exact bB m0 hb cc a w ad ac
 |seq _ bB=>
  intro m0 hb l a w ad ac
  simp only[hZ]at ad
  obtain⟨c,cc,rfl,⟨aq,hw⟩,ad⟩:=ad
  cases c<;>simp [mq]at aq
  rename_i x y
  refine wp_seq ?_
  rw[aI7]
  exact bB m0 hb (.c x:: .c y::cc) a w (by simp only[hZ]; exact⟨_,_,rfl,⟨aq.1,fun E dC p hp=>by have:=hw E dC p hp; simp only[bm.l6,Bool.and_eq_true]at this; exact this.1⟩,_,_,rfl,⟨aq.2,fun E dC p hp=>by have:=hw E dC p hp; simp only[bm.l6,Bool.and_eq_true]at this; exact this.2⟩,ad⟩) ac
 |block _ bB=>
  intro m0 hb l a w ad ac
  simp only[hZ]at ad
  obtain⟨c,cc,rfl,⟨aq,hw⟩,ad⟩:=ad
  cases c<;>simp [mq]at aq
  rename_i id x
  obtain⟨rfl,aq⟩:=aq
  refine wp_block ?_
  rw[aI6]
  exact bB m0 hb (.c x:: .aZ id::cc) a w (by simp only[hZ]; exact⟨_,_,rfl,⟨aq,fun E dC p hp=>by have:=hw E dC p hp; simpa only[bm.l6] using this⟩,_,rfl,ad⟩) ac
 |exit aw _ bB=>
  intro m0 hb l a w ad ac
  simp only[hZ]at ad
  obtain⟨c,cc,rfl,⟨aq,hw⟩,ad⟩:=ad
  cases c<;>simp [mq]at aq
  subst aq
  obtain⟨fG,g1,g2⟩:=EN (B:=bodyPostD P fn Q) _ cc _ ad aw
  exact wp_exit (g2 a w (bB m0 hb fG a w g1 ac))
 |cond al8 _ _ BN sA=>
  intro m0 hb l a w ad ac
  simp only[hZ]at ad
  obtain⟨c,cc,rfl,⟨aq,hw⟩,ad⟩:=ad
  cases c<;>simp [mq]at aq
  rename_i x p q
  have ab: ∀(c:aJ) (env:Env) (H:aA) (t:Bool),de x c=true→Rel n m0 env H a w→aJ.aI env c=I.bool t→a.eval x= .bool t:=by
   intro c env H t U ac ht
   obtain⟨m,rfl,rfl,be,cA,he,_⟩:=ac
   have:=dy he U
   rw[ht]at this
   exact vy this
  exact wp_cond_split (ab _ _ _ _ aq.1.1 ac al8) (fun ht=>BN ht m0 hb (.c p::cc) a w (by simp only[hZ]; exact⟨_,_,rfl,⟨aq.1.2,fun E dC p hp=>by have:=hw E dC p hp; simp only[bm.l6,Bool.and_eq_true]at this; exact this.1⟩,ad⟩) ac) (fun ht=>sA ht m0 hb (.c q::cc) a w (by simp only[hZ]; exact⟨_,_,rfl,⟨aq.2,fun E dC p hp=>by have:=hw E dC p hp; simp only[bm.l6,Bool.and_eq_true]at this; exact this.2⟩,ad⟩) ac)
 |region anns K h dZ bB=>
  rename_i ops draw k env H
  intro m0 hb l a w ad ac
  simp only[hZ]at ad
  obtain⟨c,cc,rfl,⟨aq,hw⟩,ad⟩:=ad
  cases c<;>simp only[mq,Bool.false_eq_true]at aq
  rename_i id pj Zp
  simp only[Bool.and_eq_true,beq_iff_eq]at aq
  obtain⟨⟨rfl,sr⟩,wE⟩:=aq
  have wF:=uo anns sr
  obtain⟨hlen,tP⟩:=F3 wF
  have uX:pj.size=(fs ops anns).length:=by rw[←hlen,Array.length_toList]
  have Bx: ∀k o,pj[k]? =some o→rl P n pj o (nth (fs ops anns) k)=true:=fun k o ao=>tP k o (by simpa using ao)
  have Bt:=Gq _ h
  have BA: ∀env H a w,K env H→Rel n m0 env H a w→post P (bodyPostD P fn Q) cc .normal a w:=fun env H a w aw ac=>bB env H aw m0 hb cc a w ad ac
  cases Zp with
  |false=>
   refine wp_region ?_
   have:=Gr (Q:=post P (bodyPostD P fn Q) cc) Bx (QQ anns hw) (e5 m0 hb cc) BA (List.range pj.size) (fun k aw=>by simpa using aw) (by rw[uX,E2]; exact Bt) ac
   exact this
  |true=>
   refine wp_region_any hm ?_
   have iT:=KU (anns:=anns) (by simpa using wE)
   have lA:Rel n m0 env H a {w with drawn:=w.drawn+1}:=by
    obtain⟨m,rfl,rfl,be,cA,he,iR,dq⟩:=ac
    exact⟨{m with w:=m.w.drew},rfl,rfl,be.drew,cA.trans (b8.drew m),fun k=>aP.aI (b8.drew m) _ _ (he k),⟨iR.1,fun E dC k=>aP.aI (b8.drew m) _ _ (iR.2 E dC k)⟩,dq⟩
   have Hx:=Gp (K':=fun env H=> ∃sh,lQ sh env∧K sh H) (fun e H aw=>⟨e,fun _=>rfl,aw⟩) _ Bt
   refine Mt (K:=fun env H=> ∃sh,lQ sh env∧K sh H) uX iT Bx (QQ anns hw) (e5 m0 hb cc) (fun e cI H he ⟨cA,U,aa⟩=>⟨cA,fun k=>(U k).trans (he k),aa⟩) (fun env H a w ⟨cA,U,aa⟩ ac=>BA cA H a w aa (Jf (fun j m v ae=>by rw[U j]; exact ae) ac)) pj.size (List.range pj.size) _ (by simp) List.pairwise_lt_range (fun k=> ?_) (by simp) ?_ (by rw[uX,E2]; exact Hx) lA
   ·simp only[List.mem_range]
    constructor
    ·intro aw
     exact⟨aw,by simp [Array.getD_eq_getD_getElem?,aw]⟩
    ·exact fun h=>h.1
   ·intro i o ao aC
    have cB:=(Array.getElem?_eq_some_iff.1 ao).1
    simp [Array.getD_eq_getD_getElem?,cB]at aC
 |loop fK m1 aU h bB=>
  rename_i body k env H
  intro m0 hb l a w ad ac
  simp only[hZ]at ad
  obtain⟨c,cc,rfl,⟨aq,hw⟩,ad⟩:=ad
  cases c<;>simp [mq]at aq
  rename_i x
  -- the least measure
  let inv:Act→World→Prop:=fun a w=> ∃aX env H,fK aX env H∧Rel n m0 env H a w
  let bA:Act→World→Nat:=fun a w=>Classical.epsilon fun q=>(∃env H,fK q env H∧Rel n m0 env H a w)∧∀kB,(∃env H,fK kB env H∧Rel n m0 env H a w)→q≤kB
  have PL: ∀a w,inv a w→(∃env H,fK (bA a w) env H∧Rel n m0 env H a w)∧∀kB,(∃env H,fK kB env H∧Rel n m0 env H a w)→bA a w≤kB:=by
   intro a w hinv
   have hex: ∃q,(∃env H,fK q env H∧Rel n m0 env H a w)∧∀kB,(∃env H,fK kB env H∧Rel n m0 env H a w)→q≤kB:=by
    obtain⟨fb,env,H,U,aa⟩:=hinv
    have key: ∀b,(∃q,q≤b∧∃env H,fK q env H∧Rel n m0 env H a w)→∃q,(∃env H,fK q env H∧Rel n m0 env H a w)∧∀kB,(∃env H,fK kB env H∧Rel n m0 env H a w)→q≤kB:=by
     intro b
     induction b with
     |zero=>rintro⟨q,bw,a8⟩; exact⟨q,a8,fun kB _=>by omega⟩
     |succ b av0=>
      rintro⟨q,bw,a8⟩
      by_cases PK: ∃q,q≤b∧∃env H,fK q env H∧Rel n m0 env H a w
      ·exact av0 PK
      ·exact⟨q,a8,fun kB ar2=>by
        rcases Nat.lt_or_ge b kB with cB|cg
        ·omega
        ·exact absurd ⟨kB,cg,ar2⟩ PK⟩
    exact key fb ⟨fb,Nat.le_refl _,env,H,U,aa⟩
   exact Classical.epsilon_spec hex
  refine wp_loop inv bA ⟨m1,env,H,aU,ac⟩ fun a w hinv=> ?_
  obtain⟨⟨ad7,H1,g1,g2⟩,bi4⟩:=PL a w hinv
  have:=bB (bA a w) ad7 H1 g1 m0 hb (.c x:: .round (fun cZ w'=>inv cZ w'∧bA cZ w'<bA a w)::cc) a w (by
   simp only[hZ]
   refine⟨_,_,rfl,⟨aq,fun E dC p hp=>by have:=hw E dC p hp; simpa only[bm.l6] using this⟩,_,_,rfl,fun cZ w' ⟨aX,bd,aB,bf,bi,cz⟩=> ?_,ad⟩
   have PF:inv cZ w':=⟨aX,bd,aB,bf,cz⟩
   exact⟨PF,Nat.lt_of_le_of_lt ((PL cZ w' PF).2 aX ⟨bd,aB,bf,cz⟩) bi⟩) g2
  refine wp_mono this fun e cZ w' bw=> ?_
  cases e<;>exact bw
 |round m1 aU U=>
  intro m0 hb l a w ad ac
  simp only[hZ]at ad
  obtain⟨av,cc,rfl,aj0,ad⟩:=ad
  exact aj0 a w ⟨m1,_,_,aU,U,ac⟩
 |As he _ bB=>
  intro m0 hb l a w ad ac
  exact bB m0 hb l a w ad (Jf he ac)
 |conv S hs _ bB=>
  intro m0 hb l a w ad ac
  obtain⟨m,rfl,rfl,be,cA,he,iR,dq⟩:=ac
  obtain⟨bd,aB,hr,cO,s1,s2,vz,aT9⟩:=hs m rfl be
  exact bB bd aB s1 m0 hb l a _ ad ⟨⟨m.w,aB,hr,cO⟩,rfl,rfl,s2,cA.trans vz,fun k=>aT9 k _ (he k),⟨iR.1,fun E dC k=>aP.aI vz _ _ (iR.2 E dC k)⟩,dq⟩
 |uG pQ kt Eh aw br aq hf Ed Eo En PN bB=>
  rename_i R d f cap k env H
  intro m0 hb l a w ad ac
  simp only[hZ]at ad
  obtain⟨c,cc,rfl,⟨ss,hw⟩,ad⟩:=ad
  obtain⟨m,rfl,rfl,be,cA,he,iR,dq⟩:=ac
  cases c<;>try (simp only[mq,Bool.false_eq_true]at ss; done)
  rename_i id ops draw
  cases draw<;>simp only[mq,Bool.false_eq_true]at ss
  simp only[Bool.and_eq_true]at ss
  obtain⟨⟨am7,_⟩,Em⟩:=ss
  have Pr:d<n:=by simpa [Nat.blt_eq] using am7
  split at Em
  ·rename_i eF eR Ek
   simp only[Bool.and_eq_true,beq_iff_eq,Option.isNone_iff_eq_none]at Em
   obtain⟨⟨⟨⟨⟨U,aa⟩,ay⟩,bl⟩,bW⟩,eL⟩:=Em
   split at bW
   ·rename_i g first hA aq7
    simp only[Bool.and_eq_true,decide_eq_true_eq]at bW
    obtain⟨⟨rfl,ai2⟩,ai3⟩:=bW
    split at eL
    ·rename_i t args bh3 BB
     simp only[Bool.and_eq_true,beq_iff_eq]at eL
     obtain⟨rfl,ai4⟩:=eL
     have aq8:ops= #[eF,eR]:=by cases ops; simp at Ek; subst Ek; rfl
     subst aq8
     obtain⟨v,lZ,ae⟩:=Sj he aq7 ai2 ai3 (by simpa using FZ hf) (P:=P) (m:=m) (o:=eF)
     obtain⟨af,as9,jK⟩:=yy ae
     have at0:=as9.trans (xL (FZ hf) af)
     subst at0
     refine wp_region ?_
     have at1: ∀y,Region.wanted eF y=true:=fun y=>by simp [Region.wanted,aa]
     have BI: ∀y,Region.wanted eR y=true:=fun y=>by simp [Region.wanted,bl]
     have qa:args= #[]:=by simpa using ai4
     subst qa
     show wpOps P #[eF,eR] _ [0,1] a m.w
     simp only[wpOps,List.getElem?_toArray,List.getElem?_cons_zero,List.getElem?_cons_succ,at1,BI,if_true]
     refine .inl ?_
     simp only[Oper.wp,lZ,Oper.upon]
     have Ea:(a.put eF.dst (.func (.func g) #[] ⟨af⟩)).eval (.tmp t)= .func (.func g) #[] ⟨af⟩:=by
      rw[U]
      simp [Act.put,Act.eval,Array.getD_eq_getD_getElem?,dq,Pr]
     have ar9:(execOp (a.put eF.dst (.func (.func g) #[] ⟨af⟩)).eval eR).run P m.w= .ok (.defer {target:= .fn (.func g) ⟨af⟩,args:= #[]}) m.w:=by
      simp [execOp,BB,resolve,Ea,Deferred.ofValue]
     rw[ar9]
     refine .inl ?_
     simp only[Oper.upon]
     refine bB _ (al0 hb hf cA jK Ed Eo En) cc _ _ (hZ.more ad (fun E dC=> ?_) aq) ?_
     ·rcases List.mem_cons.1 dC with rfl|dC
      ·exact .inr aw
      ·exact .inl dC
     ·have b0:eA m kt a.tmps:=fun k=>Eh k _ _ (he k)
      refine⟨m,rfl,rfl,be,b8.refl m,?_,⟨?_,fun E dC=> ?_⟩,?_⟩
      ·have:=UW (dst:=some t) he (b8.refl m) ae dq (by simpa using Pr)
       rw[U,ay]
       exact this
      ·rw[U,ay]
       simp [Act.put,iR.1]
      ·rw[U,ay]
       rcases List.mem_cons.1 dC with rfl|dC
       ·exact Jp (dst:=some t) (v:= .func (.func g) #[] ⟨af⟩) b0 (b8.refl m) (fun p hp e=>br p hp (by simpa using e))
       ·exact Jp (dst:=some t) (v:= .func (.func g) #[] ⟨af⟩) (iR.2 E dC) (b8.refl m) (fun p hp e=>by have:=hw E dC p hp; simp only[bm.l6]at this; simp at e; simp [e]at this)
      ·rw[U,ay]
       simp [Act.put,dq]
    ·cases eL
   ·cases bW
  ·cases Em
theorem Wi {P:Program}{fn:Func}{n:Nat}{m0:Mem}{aS:List bc}{R:Out→aA→Prop}(hm:P.follows .mixedOrders=true) (HS:nZ P fn.results.toList aS=true){k:List Item}{env:Env}{H:aA}(h:cF P aS R k env H)
  (l:List rS) (a:Act) (w:World) (ad:hZ P n ⟨m0,[],[]⟩ k l) (ac:Rel n ⟨m0,[],[]⟩ env H a w):post P (bodyPostD P fn (Kz m0 R)) l .normal a w:=
 Wj hm h _ (ak9 HS) l a w ad ac
theorem aQ0 {P:Program}{n:Nat}{m0:iy}{id:Nat}{pj:Array Oper}{draw:Bool}{ops:List bY}{anns:List I}{env:Env}{H:aA}{K:Env→aA→Prop}{Rp:I→aA→Prop}{Q:Exit→Act→World→Prop}{a:Act}{w:World}(hm:P.follows .mixedOrders=true) (st:m0.kt=[])
  (aq:mq P n (.region id pj draw) (.region ops draw)=true) (hp:AC n m0 Rp Q) (BA: ∀env H a w,K env H→Rel n m0 env H a w→Q .normal a w) (h:bt P (fs ops anns) env H K Rp) (ac:Rel n m0 env H a w):(Code.region id pj draw).wp P Q a w:=by
 simp only[mq,Bool.and_eq_true,beq_iff_eq,BEq.rfl,true_and]at aq
 obtain⟨sr,wE⟩:=aq
 have wF:=uo anns sr
 obtain⟨hlen,tP⟩:=F3 wF
 have uX:pj.size=(fs ops anns).length:=by rw[←hlen,Array.length_toList]
 have Bx: ∀k o,pj[k]? =some o→rl P n pj o (nth (fs ops anns) k)=true:=fun k o ao=>tP k o (by simpa using ao)
 have PA: ∀k,m0.free (nth (fs ops anns) k):=fun k E dC=>by rw[st]at dC; cases dC
 have Bt:=Gq _ h
 cases draw with
 |false=>
  refine wp_region ?_
  exact Gr Bx PA hp BA (List.range pj.size) (fun k aw=>by simpa using aw) (by rw[uX,E2]; exact Bt) ac
 |true=>
  refine wp_region_any hm ?_
  have iT:=KU (anns:=anns) (by simpa using wE)
  have lA:Rel n m0 env H a {w with drawn:=w.drawn+1}:=by
   obtain⟨m,rfl,rfl,be,cA,he,iR,dq⟩:=ac
   exact⟨{m with w:=m.w.drew},rfl,rfl,be.drew,cA.trans (b8.drew m),fun k=>aP.aI (b8.drew m) _ _ (he k),⟨iR.1,fun E dC k=>aP.aI (b8.drew m) _ _ (iR.2 E dC k)⟩,dq⟩
  have Hx:=Gp (K':=fun env H=> ∃sh,lQ sh env∧K sh H) (fun e H aw=>⟨e,fun _=>rfl,aw⟩) _ Bt
  refine Mt (K:=fun env H=> ∃sh,lQ sh env∧K sh H) uX iT Bx PA hp (fun e cI H he ⟨cA,U,aa⟩=>⟨cA,fun k=>(U k).trans (he k),aa⟩) (fun env H a w ⟨cA,U,aa⟩ ac=>BA cA H a w aa (Jf (fun j m v ae=>by rw[U j]; exact ae) ac)) pj.size (List.range pj.size) _ (by simp) List.pairwise_lt_range (fun k=> ?_) (by simp) ?_ (by rw[uX,E2]; exact Hx) lA
  ·simp only[List.mem_range]
   constructor
   ·intro aw
    exact⟨aw,by simp [Array.getD_eq_getD_getElem?,aw]⟩
   ·exact fun h=>h.1
  ·intro i o ao aC
   have cB:=(Array.getElem?_eq_some_iff.1 ao).1
   simp [Array.getD_eq_getD_getElem?,cB]at aC
end Go.aO
namespace Go.aO
open Go
def initFrom:Nat→List I→Env
 | _,[]=>[]
 |k,a::az=>(k,a)::initFrom (k+1) az
abbrev mQ (args:List I):Env:=initFrom 0 args
theorem Et: ∀(args:List I) (k j:Nat),(initFrom k args).get j=if k≤j then args.getD (j-k) .eX else .eX
 |[],k,j=>by simp [initFrom,Env.get]
 |a::az,k,j=>by
  simp only[initFrom,Env.get]
  by_cases h:k=j
  ·subst h
   simp
  ·have:(k==j)=false:=by simpa using h
   rw[this,cond_false,Et az (k+1) j]
   by_cases U:k+1≤j
   ·have aa:k≤j:=by omega
    rw[if_pos U,if_pos aa,show j-k=(j-(k+1))+1 by omega]
    simp
   ·rw[if_neg U,if_neg (by omega)]
theorem av2 {m:Mem}{args:List I}{af:List Value}{n:Nat}(h:aR m args af):eA m (mQ args) (⟨af⟩++Array.replicate n undef):=by
 intro k
 rw[Et]
 simp only[Nat.zero_le,if_true,Nat.sub_zero]
 by_cases aw:k<args.length
 ·obtain⟨v,ar,ax⟩:=aR.get h k args[k] (List.getElem?_eq_getElem aw)
  have bU:(⟨af⟩++Array.replicate n undef:Array Value).getD k undef=v:=by
   have aC:k<af.length:=by rw[aR.length h]; exact aw
   have uH:af[k]=v:=by rw[List.getElem?_eq_getElem aC]at ar; simpa using ar
   have:k<(⟨af⟩:Array Value).size:=aC
   simp only[Array.getD_eq_getD_getElem?,Array.getElem?_append,this,if_true]
   simp [aC,uH]
  rw[bU]
  simpa [List.getD,aw] using ax
 ·have:args.getD k .eX= .eX:=by simp [List.getD,aw]
  rw[this]
  simp only[aP]
theorem KO {P:Program}{f:FuncId}{fn:Func}{args:List I}{e:bm}{aS:List bc}{H:aA}{R:Out→aA→Prop}(hm:P.follows .mixedOrders=true) (hf:P.funcs[f]? =some fn) (aq:bR P fn args.length e aS=true) (h:cF P aS R [.c e] (mQ args) H):ko P f args H R:=by
 intro m af eO be ae
 simp only[bR,Bool.and_eq_true]at aq
 obtain⟨⟨aW,ac⟩,hb⟩:=aq
 cases Bq:fn.body with
 |none=>rw[Bq]at hb; cases hb
 |some c=>
  rw[Bq]at hb
  refine calls_of_wp_defers hf Bq ?_
  have hlen:=aR.length ae
  have tR:args.length≤fn.ntmps:=Nat.le_of_ble_eq_true aW
  have:=Wi (fn:=fn) (n:=fn.ntmps) (m0:=m) hm ac h [.c c] {tmps:=⟨af⟩++Array.replicate (fn.ntmps-(⟨af⟩:Array Value).size) undef,defers:=[]} m.w (by simp only[hZ]; exact⟨c,[],rfl,⟨hb,by simp⟩,rfl⟩) ⟨m,rfl,eO,be,b8.refl m,av2 ae,⟨rfl,by simp⟩,by simp [hlen]; omega⟩
  simp only[post]at this
  refine this
def C6:Out→Out→Prop
 | .ret a,.ret b=>bh a b
 | .e5 a,.e5 b=>bh a b
 | _,_=>False
theorem bh.refl (a:I):bh a a:=fun _ _ h=>h
theorem ko.mono {P:Program}{f:FuncId}{args:List I}{H:aA}{R pQ:Out→aA→Prop}(h:ko P f args H R) (ac: ∀o aB,R o aB→∃eR dQ,C6 o eR∧HSub dQ aB∧pQ eR dQ):ko P f args H pQ:=by
 intro m af eO be ae cs
 obtain⟨e,w',az,⟨o,aB,hr,cO,g1,g2,g3,g4⟩,rest⟩:=h m af eO be ae cs
 obtain⟨eR,dQ,bf,bi,cz⟩:=ac o aB g4
 refine⟨e,w',az,⟨eR,dQ,hr,cO,b9.forget bi g1,b8.forget bi g2,?_,cz⟩,rest⟩
 cases o<;>cases eR<;>simp only[C6]at bf<;>try exact bf.elim
 ·simp only[ti]at g3 ⊢
  obtain⟨v,ar,ax⟩:=g3
  exact⟨v,ar,aP.forget bi _ _ (bf _ _ ax)⟩
 ·simp only[ti]at g3 ⊢
  obtain⟨v,ar,ax⟩:=g3
  exact⟨v,ar,aP.forget bi _ _ (bf _ _ ax)⟩
theorem ko.pure {P:Program}{f:FuncId}{args:List I}{r:I}(h: ∀H,ko P f args H fun o aB=> ∃a,o= .ret a∧bh a r∧HSub H aB):Pure P f args r:=fun H=>
 (h H).mono fun o aB ⟨a,e,U,aa⟩=>⟨.ret r,H,by subst e; exact U,aa,rfl,rfl⟩
theorem pure_intro {P:Program}{f:FuncId}{fn:Func}{args:List I}{e:bm}{aS:List bc}{r:I}(hm:P.follows .mixedOrders=true) (hf:P.funcs[f]? =some fn) (aq:bR P fn args.length e aS=true) (h: ∀H,cF P aS (fun o aB=> ∃a,o= .ret a∧bh a r∧HSub H aB) [.c e] (mQ args) H):Pure P f args r:=
 ko.pure fun H=>KO hm hf aq (h H)
end Go.aO
namespace Go.aO
open Go
variable {P:Program}{aS:List bc}{R:Out→aA→Prop}
theorem bh.eX (a:I):bh a .eX:=fun _ _ _=>by simp only[aP]
theorem bt.o4 {f args env H l K Rp d}(az:List I) (r:I) (hp:Pure P f az r) (aL:eo (args.map (aJ.aI env)) az) (h:bt P l (env.put d r) H K Rp):bt P (⟨d,none,.call f args⟩::l) env H K Rp:=
 bt.xD (.dj r) rfl (.jF aL hp) fun _ _=>h
theorem bt.G6 {d j t op l env H K Rp}{b:Bool}(hb:env.get j= .bool b) (h:b=t→bt P (⟨d,none,op⟩::l) env H K Rp) (jp:b=(!t)→bt P l (env.put d .undef) H K Rp):bt P (⟨d,some (j,t),op⟩::l) env H K Rp:=by
 by_cases e:b=t
 ·have:=h e
  simp only[bt,wanted]at this ⊢
  rw[hb]
  subst e
  simpa using this
 ·refine bt.skip ?_ (jp (by cases b<;>cases t<;>simp_all))
  simp only[wanted,hb]
  cases b<;>cases t<;>simp_all
theorem gG:eo [] []:=rfl
theorem bu {a b:I}{az bQ:List I}(h:bh a b) (t:eo az bQ):eo (a::az) (b::bQ):=⟨b,bQ,rfl,h,t⟩
theorem eo.refl: ∀(az:List I),eo az az
 |[]=>rfl
 |a::az=>bu (bh.refl a) (eo.refl az)
theorem bh.nil {size:Nat}:bh .aD (.af size []):=fun m v h=>by
 simp only[aP]at h ⊢
 subst h
 exact⟨none,0,0,rfl,rfl,⟨Nat.le_refl _,by unfold maxLen; omega⟩,.inl rfl⟩
theorem qt {az bQ:List I}(h:eo az bQ):bh (.agg az) (.agg bQ):=by
 intro m v ae
 simp only[aP]at ae ⊢
 obtain⟨l,e,aC⟩:=ae
 refine⟨l,e,?_⟩
 clear e
 induction az generalizing bQ l with
 |nil=>simp only[eo]at h; subst h; exact aC
 |cons a az bB=>
  simp only[eo]at h
  obtain⟨b,AM,rfl,U,aa⟩:=h
  simp only[aR]at aC ⊢
  obtain⟨x,xs,rfl,g1,g2⟩:=aC
  exact⟨x,xs,rfl,U _ _ g1,bB aa _ g2⟩
theorem Wu {az bQ:List I}(h:eo az bQ):bh (.cT az) (.cT bQ):=by
 intro m v ae
 simp only[aP]at ae ⊢
 obtain⟨l,e,aC⟩:=ae
 have:=qt h m (.agg ⟨l⟩) (by simp only[aP]; exact⟨l,rfl,aC⟩)
 simp only[aP]at this
 obtain⟨cc,cI,jp⟩:=this
 simp at cI
 subst cI
 exact⟨l,e,jp⟩
theorem cF.congr {k e cI H}(h:lQ e cI) (aL:cF P aS R k e H):cF P aS R k cI H:=cF.As (fun j=>by rw[h j]; exact bh.refl _) aL
theorem Ot {env:Env}{j:Nat}{v:I}(h:env.get j=v):lQ ((j,v)::env) env:=fun k=>by
 simp only[Env.get]
 by_cases e:j=k
 ·subst e; simp [h]
 ·have:(j==k)=false:=by simpa using e
  rw[this,cond_false]
theorem bt.G5 {d:Option Nat}{j:Nat}{t:Bool}{op:bg}{l:List bY}{env:Env}{H:aA}{k:List Item}{Rp:I→aA→Prop}{b:Bool}(hb:env.get j= .bool b) (h:b=t→bt P (⟨d,none,op⟩::l) ((j,.bool t)::env) H (fun e aB=>cF P aS R k e aB) Rp) (jp:b=(!t)→bt P l (Env.put ((j,.bool (!t))::env) d .undef) H (fun e aB=>cF P aS R k e aB) Rp):bt P (⟨d,some (j,t),op⟩::l) env H (fun e aB=>cF P aS R k e aB) Rp:=by
 refine bt.G6 hb (fun e=> ?_) (fun e=> ?_)
 ·subst e
  exact Gn (K:=fun e aB=>cF P aS R k e aB) (fun _ _ _ he aw=>cF.congr he aw) _ (Ot hb) (h rfl)
 ·subst e
  exact Gn (K:=fun e aB=>cF P aS R k e aB) (fun _ _ _ he aw=>cF.congr he aw) _ (IP (Ot hb) _ _) (jp rfl)
theorem cF.ZJ {c:aJ}{a b:bm}{k:List Item}{env:Env}{H:aA}(aq:c.aI env= .bool true) (h:cF P aS R (.c a::k) env H):cF P aS R (.c (.cond c a b)::k) env H:=cF.cond aq (fun _=>h) (fun e=>by cases e)
theorem cF.ZI {c:aJ}{a b:bm}{k:List Item}{env:Env}{H:aA}(aq:c.aI env= .bool false) (h:cF P aS R (.c b::k) env H):cF P aS R (.c (.cond c a b)::k) env H:=cF.cond aq (fun e=>by cases e) (fun _=>h)
section
variable {d:Nat}{zj:Option Nat}{j:Nat}{t dT:Bool}{op:bg}{l:List bY}{env:Env}{H:aA}{K:Env→aA→Prop}{Rp:I→aA→Prop}{v:I}
theorem bt.p (ae:ca op env H=some v) (h:bt P l ((d,v)::env) H K Rp):bt P (⟨some d,none,op⟩::l) env H K Rp:=bt.pF rfl ae h
end
theorem bt.oV {d:Nat}{j:Nat}{op:bg}{l:List bY}{env:Env}{H:aA}{k:List Item}{Rp:I→aA→Prop}{b:Bool}(hb:env.get j= .bool b) (h:b=true→bt P (⟨some d,none,op⟩::l) ((j,.bool true)::env) H (fun e aB=>cF P aS R k e aB) Rp) (jp:b=false→bt P l ((d,.undef)::(j,.bool false)::env) H (fun e aB=>cF P aS R k e aB) Rp):bt P (⟨some d,some (j,true),op⟩::l) env H (fun e aB=>cF P aS R k e aB) Rp:=bt.G5 hb h jp
theorem bt.oU {d:Nat}{j:Nat}{op:bg}{l:List bY}{env:Env}{H:aA}{k:List Item}{Rp:I→aA→Prop}{b:Bool}(hb:env.get j= .bool b) (h:b=false→bt P (⟨some d,none,op⟩::l) ((j,.bool false)::env) H (fun e aB=>cF P aS R k e aB) Rp) (jp:b=true→bt P l ((d,.undef)::(j,.bool true)::env) H (fun e aB=>cF P aS R k e aB) Rp):bt P (⟨some d,some (j,false),op⟩::l) env H (fun e aB=>cF P aS R k e aB) Rp:=bt.G5 hb h jp
theorem K0 {a b:I}(h:a=b):bh a b:=h▸bh.refl a
section
variable {d:Nat}{zj:Option Nat}{j:Nat}{op:bg}{l:List bY}{env:Env}{H:aA}{K:Env→aA→Prop}{Rp:I→aA→Prop}{v:I}{f:FuncId}{args:List aJ}{az jx:List I}{r:I}
theorem bt.yu (hp:Pure P f az r) (hm:args.map (aJ.aI env)=jx) (aL:eo jx az) (h:bt P l ((d,r)::env) H K Rp):bt P (⟨some d,none,.call f args⟩::l) env H K Rp:=
 bt.o4 az r hp (hm▸aL) h
end
theorem wrap64 {n:Int}(aU: -9223372036854775808≤n) (U:n≤9223372036854775807):IntKind.i64.wrap n=n:=by
 simp only[IntKind.wrap,IntKind.bits,IntKind.signed]
 simp
 omega
variable {P:Program}{aS:List bc}{R:Out→aA→Prop}
theorem zO {α:Type}: ∀ {l:List α}{o:Nat}{v:α},l[o]? =some v→l.set o v=l
 |[],_,_,h=>by simp at h
 |x::l,0,v,h=>by simp at h; simp [h]
 |x::l,o+1,v,h=>by simp at h; simp [zO h]
theorem cF.ah0 {k env H}(b o:Nat) (nh size:Nat){T:TypeId}{cs:List I}(aU:size≠0) (hb:H.aZ b=some (T,cs)) (ao:cs[o]? =some .aD)
  (h: ∀t,H.tok t=none→cF P aS R k env ((H.cj t (.bA nh size 0 [])).cp b T (cs.set o (.c6 t 0)))):cF P aS R k env H:=by
 refine cF.conv (fun bd aB=> ∃t,H.tok t=none∧bd=env∧aB=(H.cj t (.bA nh size 0 [])).cp b T (cs.set o (.c6 t 0))) ?_ ?_
 ·intro m eO be
  subst eO
  obtain⟨cu,ar,v1⟩:=QM be (T:=nh) aU
  obtain⟨l,qf,jC,uV⟩:=cu.aZ b T cs hb
  obtain⟨v,sw,oX⟩:=jC.get o _ ao
  simp only[aP]at oX
  subst oX
  have qg:=jC.set o v1
  rw[zO sw]at qg
  have cL:=b9.ju cu (w':=m.w) (b:=b) (T:=T) hb rfl rfl rfl rfl (fun _ _=>rfl) qf qg uV
  have ax:=b8.ju cu (w':=m.w) (b:=b) (T:=T) (cs:=cs.set o (.c6 m.T 0)) hb rfl rfl rfl rfl (fun _ _=>rfl)
  exact⟨env,_,_,_,⟨m.T,s3 be,rfl,rfl⟩,cL,ar.trans ax,fun j v ae=>aP.aI (ar.trans ax) _ _ ae⟩
 ·rintro bd aB ⟨t,U,rfl,rfl⟩
  exact h t U
def oh (H dQ:aA) (a a2:I):Prop:=∀m:Mem,m.H=H→b9 m→∀v,aP m a v→aP ⟨m.w,dQ,m.L,m.T⟩ a2 v
def tc (H dQ:aA) (a a2:List I):Prop:=∀m:Mem,m.H=H→b9 m→∀v,aR m a v→aR ⟨m.w,dQ,m.L,m.T⟩ a2 v
theorem oh.le {H dQ:aA}{a b:I}(a8:HSub dQ H) (aC:bh a b):oh H dQ a b:=by
 rintro m rfl be v h
 exact aP.forget (w:=m.w) (L:=m.L) (T:=m.T) a8 b v (aC _ _ h)
theorem tc.nil {H dQ:aA}:tc H dQ [] []:=fun m _ _ v h=>by simp only[aR]at*; exact h
theorem tc.cons {H dQ:aA}{a b:I}{az bQ:List I}(h:oh H dQ a b) (t:tc H dQ az bQ):tc H dQ (a::az) (b::bQ):=fun m e r v ae=>by
 simp only[aR]at*
 obtain⟨x,xs,rfl,U,aa⟩:=ae
 exact⟨x,xs,rfl,h m e r _ U,t m e r _ aa⟩
theorem oh.agg {H dQ:aA}{az bQ:List I}(h:tc H dQ az bQ):oh H dQ (.agg az) (.agg bQ):=fun m e r v ae=>by
 simp only[aP]at*
 obtain⟨l,rfl,U⟩:=ae
 exact⟨l,rfl,h m e r _ U⟩
theorem oh.cT {H dQ:aA}{az bQ:List I}(h:tc H dQ az bQ):oh H dQ (.cT az) (.cT bQ):=fun m e r v ae=>by
 simp only[aP]at*
 obtain⟨l,rfl,U⟩:=ae
 exact⟨l,rfl,h m e r _ U⟩
theorem oh.c6 {H dQ:aA}{t ver T size:Nat}{rows:List (List I)}(a8:HSub dQ H) (ht:H.tok t=some (.bA T size ver rows)) (n8:dQ.tok t=none):oh H dQ (.c6 t ver) (.af size rows):=by
 rintro m rfl be v h
 obtain⟨dX,aU,hs,aq⟩:=zP be ht h
 simp only[aP]
 rcases aq with ⟨rfl,rfl⟩|⟨g,p,cap,cur,rfl,a7,U,aa,ay,bl,bW⟩
 ·exact⟨none,0,0,rfl,rfl,⟨Nat.le_refl _,by unfold maxLen; omega⟩,.inl rfl⟩
 ·obtain⟨bf,bi,cz,eu⟩:=be.tok t _ ht
  obtain⟨b0,cN⟩:=eu g (by rw[dX]; rfl)
  have cB:g<m.w.heap.size:=(Array.getElem?_eq_some_iff.1 a7).1
  refine⟨some ⟨g,p,none⟩,rows.length,cap,rfl,rfl,⟨U,aa⟩,.inr ⟨g,p,rfl,ef.of hs (aR.forget (w:=m.w) (L:=m.L) (T:=m.T) a8 _ _ bl) fun j v bx=>⟨?_,bW v (List.mem_of_getElem? bx),⟨cB,a8.yk b0,fun dT dB hD ia=> ?_⟩⟩⟩⟩
  ·rw[cell_of_row m.w g (p+j) cur T (0,0) a7]
   have:=bx
   rw[List.getElem?_take]at this
   split at this
   ·rw[List.getElem?_drop]at this
    simpa using this
   ·cases this
  ·have:=cN dT dB (a8.tok dT dB hD) ia
   subst this
   rw[n8]at hD
   cases hD
def Kx (H dQ:aA):Out→Out→Prop
 | .ret a,.ret b=>oh H dQ a b
 | .e5 a,.e5 b=>oh H dQ a b
 | _,_=>False
theorem ko.bX {f:FuncId}{args:List I}{H:aA}{R pQ:Out→aA→Prop}(h:ko P f args H R) (ac: ∀o aB,R o aB→∃eR dQ,Kx aB dQ o eR∧HSub dQ aB∧pQ eR dQ):ko P f args H pQ:=by
 intro m af eO be ae cs
 obtain⟨e,w',az,⟨o,aB,hr,cO,g1,g2,g3,g4⟩,rest⟩:=h m af eO be ae cs
 obtain⟨eR,dQ,bf,bi,cz⟩:=ac o aB g4
 refine⟨e,w',az,⟨eR,dQ,hr,cO,b9.forget bi g1,b8.forget bi g2,?_,cz⟩,rest⟩
 cases o<;>cases eR<;>simp only[Kx]at bf<;>try exact bf.elim
 ·simp only[ti]at g3 ⊢
  obtain⟨v,ar,ax⟩:=g3
  exact⟨v,ar,bf ⟨w',aB,hr,cO⟩ rfl g1 v ax⟩
 ·simp only[ti]at g3 ⊢
  obtain⟨v,ar,ax⟩:=g3
  exact⟨v,ar,bf ⟨w',aB,hr,cO⟩ rfl g1 v ax⟩
variable {P:Program}{aS:List bc}{R:Out→aA→Prop}
section
variable {H:aA}{b b1 t dT:Nat}{T:TypeId}{c:List I}{o:cb}
theorem ag1 (h:(H.cp b T c).aZ b1=none):b1≠b∧b≠b1∧H.aZ b1=none:=by
 simp only[aA.cp]at h
 by_cases e:b1=b
 ·rw[if_pos e]at h; cases h
 ·rw[if_neg e]at h; exact⟨e,Ne.symm e,h⟩
theorem af9 {G:Prop}(h:(H.cp b T c).aZ b1=none) (k:b1≠b→b≠b1→H.aZ b1=none→G):G:=by obtain⟨x,y,z⟩:=ag1 h; exact k x y z
theorem ag0 {G:Prop}(h:(H.cj t o).aZ b1=none) (k:H.aZ b1=none→G):G:=k h
theorem aD4 {x:TypeId×List I}(h:H.aZ b=none) (k:H.aZ b1=some x):b≠b1∧b1≠b:=by
 have:b≠b1:=fun e=>by subst e; rw[h]at k; cases k
 exact⟨this,Ne.symm this⟩
theorem aD5 {x:cb}(h:H.tok b=none) (k:H.tok b1=some x):b≠b1∧b1≠b:=by
 have:b≠b1:=fun e=>by subst e; rw[h]at k; cases k
 exact⟨this,Ne.symm this⟩
theorem Jr:(H.cp b T c).aZ b=some (T,c):=by simp [aA.cp]
theorem aU4 (h:b1≠b):(H.cp b T c).aZ b1=H.aZ b1:=by simp [aA.cp,h]
theorem aV2:(H.cj t o).tok t=some o:=by simp [aA.cj]
theorem aV1 (h:dT≠t):(H.cj t o).tok dT=H.tok dT:=by simp [aA.cj,h]
theorem G4:(H.cp b T c).aZ b=some (T,c):=Jr
theorem ag7 {x:Option (TypeId×List I)}(h:b1≠b) (k:H.aZ b1=x):(H.cp b T c).aZ b1=x:=(aU4 h).trans k
theorem ag6 {x:Option (TypeId×List I)}(k:H.aZ b1=x):(H.cj t o).aZ b1=x:=k
theorem aY8:(H.cj t o).tok t=some o:=aV2
theorem aY7 {x:Option cb}(h:dT≠t) (k:H.tok dT=x):(H.cj t o).tok dT=x:=(aV1 h).trans k
theorem aY6 {x:Option cb}(k:H.tok dT=x):(H.cp b T c).tok dT=x:=k
theorem aU5 {cO:TypeId}{cV:List I}:(H.cp b T c).cp b cO cV=H.cp b cO cV:=by
 simp only[aA.cp,aA.mk.injEq,and_true]
 funext x
 by_cases e:x=b<;>simp [e]
end
theorem cF.forget {k:List Item}{env:Env}{H:aA}(dQ:aA) (hs:HSub dQ H) (h:cF P aS R k env dQ):cF P aS R k env H:=
 cF.conv (fun bd aB=>bd=env∧aB=dQ) (fun m e be=>by
  subst e
  have ar:b8 m ⟨m.w,m.H,m.L,m.T⟩:=b8.refl m
  exact⟨env,dQ,m.L,m.T,⟨rfl,rfl⟩,b9.forget hs be,b8.forget hs ar,fun j v ae=>aP.forget (w:=m.w) (L:=m.L) (T:=m.T) hs _ _ ae⟩) (fun bd aB ⟨ar,ax⟩=>by subst ar; subst ax; exact h)
section
variable {d:Nat}{zj:Option Nat}{l:List bY}{env:Env}{H:aA}{K:Env→aA→Prop}{Rp:I→aA→Prop}{x a v:aJ}{cs new cE:List I}{b o n:Nat}{T:TypeId}{r eV:I}
theorem bt.WY (ab:x.aI env= .agg cs) (ao:cs.all I.one=true) (h: ∀b,H.aZ b=none→bt P l ((d,.ptr b 0)::env) (H.cp b T cs) K Rp):bt P (⟨some d,none,.box T x⟩::l) env H K Rp:=
 bt.xD (.km T (x.aI env).cells) rfl (.box (by rw[ab]; exact ao)) fun b hb=>by
  have:=h b hb
  simp only[D.val,D.heap,ab,I.cells]
  exact this
theorem bt.Db (ao:cs.all I.one=true) (h: ∀b,H.aZ b=none→bt P l ((d,.ptr b 0)::env) (H.cp b T cs) K Rp):bt P (⟨some d,none,.alloc T cs⟩::l) env H K Rp:=
 bt.xD (.km T cs) rfl (.alloc ao) fun b hb=>h b hb
theorem take_one {α:Type}{l:List α}{o:Nat}{r:α}(h:l[o]? =some r):(l.drop o).take 1=[r]:=by
 obtain⟨aC,e⟩:=List.getElem?_eq_some_iff.1 h
 rw[List.drop_eq_getElem_cons aC,e]
 rfl
theorem bt.aA2 (ab:x.aI env= .ptr b o) (hb:H.aZ b=some (T,cs)) (a7:cs[o]? =some r) (h:bt P l ((d,r)::env) H K Rp):bt P (⟨some d,none,.load false 1 x⟩::l) env H K Rp:=by
 refine bt.p (v:=r) ?_ h
 have aC:=(List.getElem?_eq_some_iff.1 a7).1
 simp only[ca,ab,hb]
 rw[if_pos (by omega)]
 rw[take_one a7]
 rfl
theorem bt.aA3 (ab:x.aI env= .ptr b o) (hb:H.aZ b=some (T,cs)) (aC:o+n≤cs.length) (a7:(cs.drop o).take n=new) (h:bt P l ((d,.agg new)::env) H K Rp):bt P (⟨some d,none,.load true n x⟩::l) env H K Rp:=by
 refine bt.p (v:= .agg new) ?_ h
 simp only[ca,ab,hb]
 rw[if_pos aC,a7]
 rfl
theorem bt.aA5 (ab:x.aI env= .eK cs o) (a7:cs[o]? =some r) (h:bt P l ((d,r)::env) H K Rp):bt P (⟨some d,none,.load false 1 x⟩::l) env H K Rp:=by
 refine bt.p (v:=r) ?_ h
 have aC:=(List.getElem?_eq_some_iff.1 a7).1
 simp only[ca,ab]
 rw[if_pos (by omega)]
 rw[take_one a7]
 rfl
theorem bt.aA6 (ab:x.aI env= .eK cs o) (aC:o+n≤cs.length) (a7:(cs.drop o).take n=new) (h:bt P l ((d,.agg new)::env) H K Rp):bt P (⟨some d,none,.load true n x⟩::l) env H K Rp:=by
 refine bt.p (v:= .agg new) ?_ h
 simp only[ca,ab]
 rw[if_pos aC,a7]
 rfl
inductive tf (H:aA):I→List I→Nat→Prop
 |p {b o:Nat}{T:TypeId}{cs:List I}(h:H.aZ b=some (T,cs)):tf H (.ptr b o) cs o
 |r {cs:List I}{o:Nat}:tf H (.eK cs o) cs o
theorem bt.aA7 (ab:x.aI env=eV) (hb:tf H eV cs o) (a7:cs[o]? =some r) (h:bt P l ((d,r)::env) H K Rp):bt P (⟨some d,none,.load false 1 x⟩::l) env H K Rp:=by
 cases hb with
 |p hb=>exact bt.aA2 ab hb a7 h
 |r=>exact bt.aA5 ab a7 h
theorem bt.aA8 (ab:x.aI env=eV) (hb:tf H eV cs o) (aC:o+n≤cs.length) (a7:(cs.drop o).take n=new) (h:bt P l ((d,.agg new)::env) H K Rp):bt P (⟨some d,none,.load true n x⟩::l) env H K Rp:=by
 cases hb with
 |p hb=>exact bt.aA3 ab hb aC a7 h
 |r=>exact bt.aA6 ab aC a7 h
theorem bt.aX3 (aL:a.aI env= .ptr b o) (hb:H.aZ b=some (T,cs)) (ae:(v.aI env).cells=new) (aW:new.length=n) (aC:o+n≤cs.length) (ao:new.all I.one=true) (hs:gj cs o new=cE){aB:aA}(eO:H.cp b T cE=aB) (h:bt P l env aB K Rp):bt P (⟨none,none,.store n a v⟩::l) env H K Rp:=by
 simp only[bt,wanted]
 subst eO
 exact iK.store aL hb (by rw[ae]; exact aW) aC (by rw[ae]; exact ao) (by rw[ae,hs]; exact h)
theorem bt.av7 {size len:Nat}{i:aJ}{k:IntKind}{z:Int}(ab:x.aI env= .ptr b o) (ad:i.aI env= .int k z) (aU:0≤z) (U:z<(len:Int)) (hp:o+z.toNat*size=n) (h:bt P l ((d,.ptr b n)::env) H K Rp):bt P (⟨some d,none,.oA len size x i⟩::l) env H K Rp:=
 bt.xD (.dj (.ptr b (o+z.toNat*size))) rfl (.oY ab ad aU U) fun _ _=>hp▸h
theorem bt.WX {size:Nat}{zero:List I}{parts:List (Nat×aJ)}{rows:List (List I)}(ac:lr env parts=rows) (hs:rows.all (fun r=>r.length==size)=true) (ao:rows.flatten.all I.one=true) (h:bt P l ((d,.af size rows)::env) H K Rp):bt P (⟨some d,none,.da T size n zero parts⟩::l) env H K Rp:=
 bt.xD (.dj _) rfl (.pT ac hs ao) fun _ _=>h
section
variable {t ver size k:Nat}{rows:List (List I)}{row:List I}{nh:TypeId}
theorem bt.mU (ab:x.aI env= .c6 t ver) (ht:H.tok t=some (.bA nh size ver rows)) (h:bt P l ((d,.int .i64 rows.length)::env) H K Rp):bt P (⟨some d,none,.iq x⟩::l) env H K Rp:=
 bt.xD (.dj _) rfl (.iq ab ht) fun _ _=>h
theorem bt.GX {off:Nat}(ab:x.aI env= .mp t ver k) (ht:H.tok t=some (.bA nh size ver rows)) (h:bt P l ((d,.mp t ver (k+off))::env) H K Rp):bt P (⟨some d,none,.jJ off x⟩::l) env H K Rp:=
 bt.xD (.dj _) rfl (.jJ ab ht) fun _ _=>h
end
theorem aQ5 {cZ hV:Nat}(ab:env.get cZ= .ptr b 0) (hb:H.aZ b=some (T,cs)) (aC:hV=cs.length):aO.results [.cell true hV cZ] env H=some (.agg cs):=by
 subst aC
 simp [aO.results,bc.aI,ca,aJ.aI,ab,hb,I.js]
theorem aQ6 {cZ hV aX:Nat}(ab:env.get cZ= .ptr b 0) (hb:H.aZ b=some (T,cs)) (aC:hV=cs.length) (hm:env.get aX=r):aO.results [.cell true hV cZ,.t aX] env H=some (.cT [.agg cs,r]):=by
 subst aC
 subst hm
 simp [aO.results,bc.aI,ca,aJ.aI,ab,hb,I.js]
theorem aR0 {cZ aX:Nat}{q:I}(ab:env.get cZ=q) (hm:env.get aX=r):aO.results [.t cZ,.t aX] env H=some (.cT [q,r]):=by
 subst hm
 subst ab
 simp [aO.results,bc.aI]
theorem aR1 {cZ aX cV:Nat}{q kB:I}(ab:env.get cZ=q) (hm:env.get aX=r) (aq:env.get cV=kB):aO.results [.t cZ,.t aX,.t cV] env H=some (.cT [q,r,kB]):=by
 subst hm
 subst ab
 subst aq
 simp [aO.results,bc.aI]
theorem aQ9 {cZ:Nat}(ab:env.get cZ=r):aO.results [.t cZ] env H=some r:=by
 subst ab
 simp [aO.results,bc.aI]
theorem aQ7:aO.results [] env H=some (.cT []):=by simp [aO.results]
theorem cF.aR2 {aS:List bc}{k:List Item}{H0:aA}{q eV:I}(ae:aO.results aS env H=some q) (h:bh q eV) (hs:HSub H0 H):cF P aS (fun o aB=> ∃a,o= .ret a∧bh a eV∧HSub H0 aB) (.c .ret::k) env H:=
 cF.ret ae ⟨_,rfl,h,hs⟩
theorem cF.ac3 {aS:List bc}{H0:aA}{q eV:I}(ae:aO.results aS env H=some q) (h:bh q eV) (hs:HSub H0 H):cF P aS (fun o aB=> ∃a,o= .ret a∧bh a eV∧HSub H0 aB) [] env H:=
 cF.done ae ⟨_,rfl,h,hs⟩
def C9 (S:I→aA→Prop) (o:Out) (H:aA):Prop:=∃r,o= .ret r∧S r H
theorem cF.aR3 {aS:List bc}{k:List Item}{S:I→aA→Prop}{q:I}(ae:aO.results aS env H=some q) (h:S q H):cF P aS (C9 S) (.c .ret::k) env H:=
 cF.ret ae ⟨_,rfl,h⟩
theorem cF.ac4 {aS:List bc}{S:I→aA→Prop}{q:I}(ae:aO.results aS env H=some q) (h:S q H):cF P aS (C9 S) [] env H:=
 cF.done ae ⟨_,rfl,h⟩
end
theorem FD: ∀(l:List bY),fs l []=l
 |[]=>rfl
 |⟨d,g,op⟩::l=>by cases op<;>simp only[fs,FD l]
inductive fQ:Prop→Prop→Prop
 |aW9 {P:Program}{aS:List bc}{R:Out→aA→Prop}{k:List Item}{env:Env}{H:aA}{a b:bm}:fQ (cF P aS R (.c a:: .c b::k) env H) (cF P aS R (.c (.seq a b)::k) env H)
 |eY {P:Program}{aS:List bc}{R:Out→aA→Prop}{k:List Item}{env:Env}{H:aA}{id:Nat}{body:bm}:fQ (cF P aS R (.c body:: .aZ id::k) env H) (cF P aS R (.c (.block id body)::k) env H)
 |ig {P:Program}{aS:List bc}{R:Out→aA→Prop}{k:List Item}{env:Env}{H:aA}:fQ (cF P aS R k env H) (cF P aS R (.c .skip::k) env H)
 |WI {P:Program}{aS:List bc}{R:Out→aA→Prop}{k:List Item}{env:Env}{H:aA}{id:Nat}:fQ (cF P aS R k env H) (cF P aS R (.aZ id::k) env H)
 |ex {P:Program}{aS:List bc}{R:Out→aA→Prop}{k:List Item}{fO:List Item}{env:Env}{H:aA}{id:Nat}(aw:qV id k=some fO):fQ (cF P aS R fO env H) (cF P aS R (.c (.exit id)::k) env H)
 |rg {P:Program}{aS:List bc}{R:Out→aA→Prop}{k:List Item}{env:Env}{H:aA}{l:List bY}:fQ (bt P l env H (fun bd aB=>cF P aS R k bd aB) (fun v aB=>R (.e5 v) aB)) (cF P aS R (.c (.region l false)::k) env H)
 |zQ {P:Program}{aS:List bc}{R:Out→aA→Prop}{k:List Item}{env:Env}{H:aA}{Rp:I→aA→Prop}:fQ (cF P aS R k env H) (bt P [] env H (fun bd aB=>cF P aS R k bd aB) Rp)
 |aH {P:Program}{env:Env}{H:aA}{K:Env→aA→Prop}{Rp:I→aA→Prop}{l:List bY}{d:Nat}{x:aJ}{cs:List I}{o:Nat}{r:I}{eV:I}(ab:x.aI env=eV) (hb:tf H eV cs o) (a7:cs[o]? =some r):fQ (bt P l ((d,r)::env) H K Rp) (bt P (⟨some d,none,.load false 1 x⟩::l) env H K Rp)
 |az3 {P:Program}{env:Env}{H:aA}{K:Env→aA→Prop}{Rp:I→aA→Prop}{l:List bY}{d:Nat}{x:aJ}{cs:List I}{new:List I}{o:Nat}{n:Nat}{eV:I}(ab:x.aI env=eV) (hb:tf H eV cs o) (aC:o+n≤cs.length) (a7:(cs.drop o).take n=new):fQ (bt P l ((d,.agg new)::env) H K Rp) (bt P (⟨some d,none,.load true n x⟩::l) env H K Rp)
 |Wz {P:Program}{env:Env}{H:aA}{K:Env→aA→Prop}{Rp:I→aA→Prop}{l:List bY}{d:Nat}{x:aJ}{cs:List I}{T:TypeId}(ab:x.aI env= .agg cs) (ao:cs.all I.one=true):fQ (∀b,H.aZ b=none→bt P l ((d,.ptr b 0)::env) (H.cp b T cs) K Rp) (bt P (⟨some d,none,.box T x⟩::l) env H K Rp)
 |Db {P:Program}{env:Env}{H:aA}{K:Env→aA→Prop}{Rp:I→aA→Prop}{l:List bY}{d:Nat}{cs:List I}{T:TypeId}(ao:cs.all I.one=true):fQ (∀b,H.aZ b=none→bt P l ((d,.ptr b 0)::env) (H.cp b T cs) K Rp) (bt P (⟨some d,none,.alloc T cs⟩::l) env H K Rp)
 |U1 {P:Program}{env:Env}{H:aA}{aB:aA}{K:Env→aA→Prop}{Rp:I→aA→Prop}{l:List bY}{a:aJ}{v:aJ}{cs:List I}{new:List I}{cE:List I}{b:Nat}{o:Nat}{n:Nat}{T:TypeId}(aL:a.aI env= .ptr b o) (hb:H.aZ b=some (T,cs)) (ae:(v.aI env).cells=new) (aW:new.length=n) (aC:o+n≤cs.length) (ao:new.all I.one=true) (hs:gj cs o new=cE) (eO:H.cp b T cE=aB):fQ (bt P l env aB K Rp) (bt P (⟨none,none,.store n a v⟩::l) env H K Rp)
 |au8 {P:Program}{env:Env}{H:aA}{K:Env→aA→Prop}{Rp:I→aA→Prop}{l:List bY}{d:Nat}{x:aJ}{i:aJ}{b:Nat}{o:Nat}{n:Nat}{size len:Nat}{j4:IntKind}{z:Int}(ab:x.aI env= .ptr b o) (ad:i.aI env= .int j4 z) (aU:0≤z) (U:z<(len:Int)) (hp:o+z.toNat*size=n):fQ (bt P l ((d,.ptr b n)::env) H K Rp) (bt P (⟨some d,none,.oA len size x i⟩::l) env H K Rp)
 |az4 {P:Program}{env:Env}{H:aA}{K:Env→aA→Prop}{Rp:I→aA→Prop}{l:List bY}{d:Nat}{x:aJ}{t ver size:Nat}{rows:List (List I)}{nh:TypeId}(ab:x.aI env= .c6 t ver) (ht:H.tok t=some (.bA nh size ver rows)):fQ (bt P l ((d,.int .i64 rows.length)::env) H K Rp) (bt P (⟨some d,none,.iq x⟩::l) env H K Rp)
 |af0 {P:Program}{env:Env}{H:aA}{K:Env→aA→Prop}{Rp:I→aA→Prop}{l:List bY}{d:Nat}{x:aJ}{t ver size j4 off:Nat}{rows:List (List I)}{nh:TypeId}(ab:x.aI env= .mp t ver j4) (ht:H.tok t=some (.bA nh size ver rows)):fQ (bt P l ((d,.mp t ver (j4+off))::env) H K Rp) (bt P (⟨some d,none,.jJ off x⟩::l) env H K Rp)
 |bQ {P:Program}{env:Env}{H:aA}{K:Env→aA→Prop}{Rp:I→aA→Prop}{l:List bY}{d:Nat}{n:Nat}{T:TypeId}{size:Nat}{zero:List I}{parts:List (Nat×aJ)}{rows:List (List I)}(ac:lr env parts=rows) (hs:rows.all (fun r=>r.length==size)=true) (ao:rows.flatten.all I.one=true):fQ (bt P l ((d,.af size rows)::env) H K Rp) (bt P (⟨some d,none,.da T size n zero parts⟩::l) env H K Rp)
 |pF {P:Program}{env:Env}{H:aA}{K:Env→aA→Prop}{Rp:I→aA→Prop}{l:List bY}{d:Nat}{r:I}{op:bg}(ae:ca op env H=some r):fQ (bt P l ((d,r)::env) H K Rp) (bt P (⟨some d,none,op⟩::l) env H K Rp)
theorem fQ.go {N G:Prop}(h:fQ N G) (aW:N):G:=by
 cases h with
 |aW9=>exact cF.seq aW
 |eY=>exact cF.block aW
 |ig=>exact cF.skip aW
 |WI=>exact cF.AL aW
 |ex aw=>exact cF.exit aw aW
 |rg=>exact cF.iU [] (by rw[FD]; exact aW)
 |zQ=>exact bt.nil aW
 |aH ab hb a7=>exact bt.aA7 ab hb a7 aW
 |az3 ab hb aC a7=>exact bt.aA8 ab hb aC a7 aW
 |Wz ab ao=>exact bt.WY ab ao aW
 |Db ao=>exact bt.Db ao aW
 |U1 aL hb ae tR aC ao hs eO=>exact bt.aX3 aL hb ae tR aC ao hs eO aW
 |au8 ab ad aU U hp=>exact bt.av7 ab ad aU U hp aW
 |az4 ab ht=>exact bt.mU ab ht aW
 |af0 ab ht=>exact bt.GX ab ht aW
 |bQ ac hs ao=>exact bt.WX ac hs ao aW
 |pF ae=>exact bt.p ae aW
inductive ol:Prop→Prop→Prop
 |a {P:Program}{aS:List bc}{k:List Item}{env:Env}{H:aA}{eV:I}{q:I}{H0:aA}(ae:aO.results aS env H=some q) (hs:HSub H0 H):ol (bh q eV) (cF P aS (fun o aB=> ∃a,o= .ret a∧bh a eV∧HSub H0 aB) (.c .ret::k) env H)
 |b {P:Program}{aS:List bc}{env:Env}{H:aA}{eV:I}{q:I}{H0:aA}(ae:aO.results aS env H=some q) (hs:HSub H0 H):ol (bh q eV) (cF P aS (fun o aB=> ∃a,o= .ret a∧bh a eV∧HSub H0 aB) [] env H)
 |s {P:Program}{aS:List bc}{k:List Item}{env:Env}{H:aA}{q:I}{S:I→aA→Prop}(ae:aO.results aS env H=some q):ol (S q H) (cF P aS (C9 S) (.c .ret::k) env H)
 |t {P:Program}{aS:List bc}{env:Env}{H:aA}{q:I}{S:I→aA→Prop}(ae:aO.results aS env H=some q):ol (S q H) (cF P aS (C9 S) [] env H)
theorem ol.go {N G:Prop}(h:ol N G) (aW:N):G:=by
 cases h with
 |a ae hs=>exact cF.aR2 ae aW hs
 |b ae hs=>exact cF.ac3 ae aW hs
 |s ae=>exact cF.aR3 ae aW
 |t ae=>exact cF.ac4 ae aW
inductive lS:Prop→Prop
 |WA {H:aA}{b:Nat}{T:TypeId}{c:List I}:lS ((H.cp b T c).aZ b=some (T,c))
 |aC8 {H:aA}{b:Nat}{b1:Nat}{T:TypeId}{c:List I}{y:Option (TypeId×List I)}(h:b1≠b) (k:H.aZ b1=y):lS ((H.cp b T c).aZ b1=y)
 |aY4 {H:aA}{b1:Nat}{t:Nat}{o:cb}{y:Option (TypeId×List I)}(k:H.aZ b1=y):lS ((H.cj t o).aZ b1=y)
 |K3 {H:aA}{t:Nat}{o:cb}:lS ((H.cj t o).tok t=some o)
 |aC9 {H:aA}{t dT:Nat}{o:cb}{y:Option cb}(h:dT≠t) (k:H.tok dT=y):lS ((H.cj t o).tok dT=y)
 |aY5 {H:aA}{b:Nat}{T:TypeId}{t:Nat}{c:List I}{y:Option cb}(k:H.tok t=y):lS ((H.cp b T c).tok t=y)
 |rd {H:aA}{cs:List I}{o:Nat}:lS (tf H (.eK cs o) cs o)
 |eK {H:aA}{cs:List I}{b:Nat}{o:Nat}{T:TypeId}(h:H.aZ b=some (T,cs)):lS (tf H (.ptr b o) cs o)
 |ac {H:aA}:lS (HSub H H)
 |fa {H:aA}{aB:aA}{b:Nat}{T:TypeId}{c:List I}(h:HSub H aB) (hb:H.aZ b=none):lS (HSub H (aB.cp b T c))
 |dF {H:aA}{aB:aA}{t:Nat}{o:cb}(h:HSub H aB) (hb:H.tok t=none):lS (HSub H (aB.cj t o))
 |fb {env:Env}{H:aA}:lS (aO.results [] env H=some (.cT []))
 |b0 {env:Env}{H:aA}{r:I}{cZ:Nat}(ab:env.get cZ=r):lS (aO.results [.t cZ] env H=some r)
 |cN {env:Env}{H:aA}{cs:List I}{b:Nat}{T:TypeId}{cZ hV:Nat}(ab:env.get cZ= .ptr b 0) (hb:H.aZ b=some (T,cs)) (aC:hV=cs.length):lS (aO.results [.cell true hV cZ] env H=some (.agg cs))
 |du {env:Env}{H:aA}{cs:List I}{b:Nat}{T:TypeId}{r:I}{cZ hV aX:Nat}(ab:env.get cZ= .ptr b 0) (hb:H.aZ b=some (T,cs)) (aC:hV=cs.length) (hm:env.get aX=r):lS (aO.results [.cell true hV cZ,.t aX] env H=some (.cT [.agg cs,r]))
 |gE {env:Env}{H:aA}{r:I}{q:I}{cZ aX:Nat}(ab:env.get cZ=q) (hm:env.get aX=r):lS (aO.results [.t cZ,.t aX] env H=some (.cT [q,r]))
 |l7 {env:Env}{H:aA}{r:I}{eV:I}{q:I}{cZ aX cV:Nat}(ab:env.get cZ=q) (hm:env.get aX=r) (aq:env.get cV=eV):lS (aO.results [.t cZ,.t aX,.t cV] env H=some (.cT [q,r,eV]))
theorem lS.go {G:Prop}(h:lS G):G:=by
 cases h with
 |WA=>exact G4
 |aC8 h k=>exact ag7 h k
 |aY4 k=>exact ag6 k
 |K3=>exact aY8
 |aC9 h k=>exact aY7 h k
 |aY5 k=>exact aY6 k
 |rd=>exact tf.r
 |eK h=>exact tf.p h
 |ac=>exact HSub.refl _
 |fa h hb=>exact HSub.cp h hb
 |dF h hb=>exact HSub.cj h hb
 |fb=>exact aQ7
 |b0 ab=>exact aQ9 ab
 |cN ab hb aC=>exact aQ5 ab hb aC
 |du ab hb aC hm=>exact aQ6 ab hb aC hm
 |gE ab hm=>exact aR0 ab hm
 |l7 ab hm aq=>exact aR1 ab hm aq
theorem rt {P:Program}{aS:List bc}{R:Out→aA→Prop}{k:List Item}{env:Env}{H:aA}{l:List bY}(h:bt P l env H (fun bd aB=>cF P aS R k bd aB) (fun v aB=>R (.e5 v) aB)):cF P aS R (.c (.region l true)::k) env H:=cF.iU [] (by rw[FD]; exact h)
theorem Ai {H:aA}{b:Nat}{T:TypeId}{cO:TypeId}{c cV:List I}:(H.cp b T c).cp b cO cV=H.cp b cO cV:=aU5
theorem oT {H:aA}{b:Nat}{b1:Nat}{T:TypeId}{G:Prop}{c:List I}(h:(H.cp b T c).aZ b1=none) (k:b1≠b→b≠b1→H.aZ b1=none→G):G:=af9 h k
theorem oS {H:aA}{b1:Nat}{G:Prop}{t:Nat}{o:cb}(h:(H.cj t o).aZ b1=none) (k:H.aZ b1=none→G):G:=ag0 h k
theorem b4 {H:aA}{b:Nat}{b1:Nat}{y:TypeId×List I}(h:H.aZ b=none) (k:H.aZ b1=some y):b1≠b:=(aD4 h k).2
theorem bj {H:aA}{t dT:Nat}{y:cb}(h:H.tok t=none) (k:H.tok dT=some y):dT≠t:=(aD5 h k).2
theorem fj {P:Program}{env:Env}{H:aA}{K:Env→aA→Prop}{Rp:I→aA→Prop}{l:List bY}{zj:Option Nat}{g:Nat×Bool}{op:bg}(hw:wanted ⟨zj,some g,op⟩ env=some true) (h:bt P (⟨zj,none,op⟩::l) env H K Rp):bt P (⟨zj,some g,op⟩::l) env H K Rp:=by
 simp only[bt]at h ⊢
 rw[hw]
 exact h
theorem je {P:Program}{env:Env}{H:aA}{K:Env→aA→Prop}{Rp:I→aA→Prop}{l:List bY}{d:Nat}{g:Nat×Bool}{op:bg}(hw:wanted ⟨some d,some g,op⟩ env=some false) (h:bt P l ((d,.undef)::env) H K Rp):bt P (⟨some d,some g,op⟩::l) env H K Rp:=bt.skip hw h
theorem nX {P:Program}{aS:List bc}{R:Out→aA→Prop}{k:List Item}{env:Env}{H:aA}{c:aJ}{a b:bm}(aq:c.aI env= .bool true) (h:cF P aS R (.c a::k) env H):cF P aS R (.c (.cond c a b)::k) env H:=cF.ZJ aq h
theorem nW {P:Program}{aS:List bc}{R:Out→aA→Prop}{k:List Item}{env:Env}{H:aA}{c:aJ}{a b:bm}(aq:c.aI env= .bool false) (h:cF P aS R (.c b::k) env H):cF P aS R (.c (.cond c a b)::k) env H:=cF.ZI aq h
end Go.aO
namespace Go.aO
theorem fQ.g {N G:Prop}(aW:N) (h:fQ N G:=by constructor<;>first|exact Ai|(change _= _; first|(simp only[go_sem,Nat.reduceBEq,Nat.reduceAdd,Nat.reduceLeDiff,reduceIte]<;>rfl)|rfl)|exact Nat.le_of_ble_eq_true rfl|decide|((repeat' first|(apply lS.go; constructor)|assumption|exact b4 ‹_› ‹_› |exact bj ‹_› ‹_›); done)):G:=fQ.go h aW
theorem ol.g {N G:Prop}(aW:N) (h:ol N G:=by constructor<;>first|(apply lS.go; constructor<;>first|exact Ai|(change _= _; first|(simp only[go_sem,Nat.reduceBEq,Nat.reduceAdd,Nat.reduceLeDiff,reduceIte]<;>rfl)|rfl)|exact Nat.le_of_ble_eq_true rfl|decide|((repeat' first|(apply lS.go; constructor)|assumption|exact b4 ‹_› ‹_› |exact bj ‹_› ‹_›); done))|assumption):G:=ol.go h aW
end Go.aO
namespace Go.aO
open Go
structure bC where
 b:List Nat
 t:List Nat
structure bC.e8 (s b5:bC):Prop where
 b: ∀(i x:Nat),s.b[i]? =some x→b5.b[i]? =some x
 t: ∀(i x:Nat),s.t[i]? =some x→b5.t[i]? =some x
theorem bC.e8.refl (s:bC):bC.e8 s s:=⟨fun _ _ h=>h,fun _ _ h=>h⟩
theorem bC.e8.trans {a b c:bC}(h:bC.e8 a b) (k:bC.e8 b c):bC.e8 a c:=⟨fun i x e=>k.b i x (h.b i x e),fun i x e=>k.t i x (h.t i x e)⟩
mutual
def aN (s:bC):I→I→Prop
 | .eX,_=>True
 | .ptr b o,a=> ∃x,s.b[b]? =some x∧a= .ptr x o
 | .agg cs,a=> ∃l,a= .agg l∧bk s cs l
 | .cT cs,a=> ∃l,a= .cT l∧bk s cs l
 | .af n rows,a=> ∃l,a= .af n l∧cq s rows l
 | .own t n rows,a=> ∃x l,s.t[t]? =some x∧a= .own x n l∧cq s rows l
 | .c6 t ver,a=> ∃x,s.t[t]? =some x∧a= .c6 x ver
 | .mp t ver k,a=> ∃x,s.t[t]? =some x∧a= .mp x ver k
 | .eK row off,a=> ∃l,a= .eK l off∧bk s row l
 | .fn f cap,a=> ∃l,a= .fn f l∧bk s cap l
 | .iE t v,a=> ∃x,a= .iE t x∧aN s v x
 | .bool b,a=>a= .bool b
 | .int k n,a=>a= .int k n
 | .str x,a=>a= .str x
 | .ev v,a=>a= .ev v
def bk (s:bC):List I→List I→Prop
 |[],l=>l=[]
 |a::az,l=> ∃v af,l=v::af∧aN s a v∧bk s az af
def cq (s:bC):List (List I)→List (List I)→Prop
 |[],l=>l=[]
 |r::aS,l=> ∃v af,l=v::af∧bk s r v∧cq s aS af
end
mutual
theorem aN.mono {s b5:bC}(e:bC.e8 s b5): ∀(a v:I),aN s a v→aN b5 a v
 | .eX,_,_=>by simp only[aN]
 | .ptr b o,_,h=>by simp only[aN]at*; obtain⟨x,U,aa⟩:=h; exact⟨x,e.b _ _ U,aa⟩
 | .agg cs,_,h=>by simp only[aN]at*; obtain⟨l,U,aa⟩:=h; exact⟨l,U,bk.mono e cs l aa⟩
 | .cT cs,_,h=>by simp only[aN]at*; obtain⟨l,U,aa⟩:=h; exact⟨l,U,bk.mono e cs l aa⟩
 | .af n rows,_,h=>by simp only[aN]at*; obtain⟨l,U,aa⟩:=h; exact⟨l,U,cq.mono e rows l aa⟩
 | .own t n rows,_,h=>by simp only[aN]at*; obtain⟨x,l,U,aa,ay⟩:=h; exact⟨x,l,e.t _ _ U,aa,cq.mono e rows l ay⟩
 | .c6 t ver,_,h=>by simp only[aN]at*; obtain⟨x,U,aa⟩:=h; exact⟨x,e.t _ _ U,aa⟩
 | .mp t ver k,_,h=>by simp only[aN]at*; obtain⟨x,U,aa⟩:=h; exact⟨x,e.t _ _ U,aa⟩
 | .eK row off,_,h=>by simp only[aN]at*; obtain⟨l,U,aa⟩:=h; exact⟨l,U,bk.mono e row l aa⟩
 | .fn f cap,_,h=>by simp only[aN]at*; obtain⟨l,U,aa⟩:=h; exact⟨l,U,bk.mono e cap l aa⟩
 | .iE t v,_,h=>by simp only[aN]at*; obtain⟨x,U,aa⟩:=h; exact⟨x,U,aN.mono e v x aa⟩
 | .bool _,_,h=>by simp only[aN]at*; exact h
 | .int _ _,_,h=>by simp only[aN]at*; exact h
 | .str _,_,h=>by simp only[aN]at*; exact h
 | .ev _,_,h=>by simp only[aN]at*; exact h
theorem bk.mono {s b5:bC}(e:bC.e8 s b5): ∀(az l:List I),bk s az l→bk b5 az l
 |[],_,h=>by simp only[bk]at*; exact h
 |a::az,_,h=>by simp only[bk]at*; obtain⟨v,af,U,aa,ay⟩:=h; exact⟨v,af,U,aN.mono e a v aa,bk.mono e az af ay⟩
theorem cq.mono {s b5:bC}(e:bC.e8 s b5): ∀(az l:List (List I)),cq s az l→cq b5 az l
 |[],_,h=>by simp only[cq]at*; exact h
 |r::aS,_,h=>by simp only[cq]at*; obtain⟨v,af,U,aa,ay⟩:=h; exact⟨v,af,U,bk.mono e r v aa,cq.mono e aS af ay⟩
end
section
variable {s:bC}
theorem bk.length: ∀ {az l:List I},bk s az l→l.length=az.length
 |[],_,h=>by simp only[bk]at h; subst h; rfl
 |a::az,_,h=>by simp only[bk]at h; obtain⟨v,af,rfl,_,aa⟩:=h; simp [bk.length aa]
theorem bk.get: ∀ {az l:List I}(_:bk s az l) (i:Nat) (a:I),az[i]? =some a→∃v,l[i]? =some v∧aN s a v
 |[],_,_,_,_,h=>by simp at h
 |a::az,_,h,0,x,ab=>by simp only[bk]at h; obtain⟨v,af,rfl,U,aa⟩:=h; simp at ab; subst ab; exact⟨v,rfl,U⟩
 |a::az,_,h,i+1,x,ab=>by simp only[bk]at h; obtain⟨v,af,rfl,U,aa⟩:=h; simp at ab; obtain⟨bI,ar,ax⟩:=bk.get aa i x ab; exact⟨bI,by simpa using ar,ax⟩
theorem bk.append: ∀ {az l bQ cc:List I}(_:bk s az l) (_:bk s bQ cc),bk s (az++bQ) (l++cc)
 |[],_,_,_,h,k=>by simp only[bk]at h; subst h; simpa using k
 |a::az,_,_,_,h,k=>by simp only[bk]at h; obtain⟨v,af,rfl,U,aa⟩:=h; simp only[List.cons_append,bk]; exact⟨v,_,rfl,U,bk.append aa k⟩
theorem bk.drop: ∀(n:Nat){az l:List I}(_:bk s az l),bk s (az.drop n) (l.drop n)
 |0,_,_,h=>by simpa using h
 |n+1,[],_,h=>by simp only[bk]at h; subst h; simp [bk]
 |n+1,a::az,_,h=>by simp only[bk]at h; obtain⟨v,af,rfl,U,aa⟩:=h; simpa using bk.drop n aa
theorem bk.take: ∀(n:Nat){az l:List I}(_:bk s az l),bk s (az.take n) (l.take n)
 |0,_,_,_=>by simp [bk]
 |n+1,[],_,h=>by simp only[bk]at h; subst h; simp [bk]
 |n+1,a::az,_,h=>by simp only[bk]at h; obtain⟨v,af,rfl,U,aa⟩:=h; simp only[List.take_succ_cons,bk]; exact⟨v,_,rfl,U,bk.take n aa⟩
theorem bk.gj {az l new ED:List I}(h:bk s az l) (k:bk s new ED) (o:Nat):bk s (gj az o new) (gj l o ED):=by
 unfold aO.gj
 rw[bk.length k]
 exact ((h.take o).append k).append (h.drop _)
theorem cq.length: ∀ {az l:List (List I)},cq s az l→l.length=az.length
 |[],_,h=>by simp only[cq]at h; subst h; rfl
 |a::az,_,h=>by simp only[cq]at h; obtain⟨v,af,rfl,_,aa⟩:=h; simp [cq.length aa]
theorem cq.get: ∀ {az l:List (List I)}(_:cq s az l) (i:Nat) (a:List I),az[i]? =some a→∃v,l[i]? =some v∧bk s a v
 |[],_,_,_,_,h=>by simp at h
 |a::az,_,h,0,x,ab=>by simp only[cq]at h; obtain⟨v,af,rfl,U,aa⟩:=h; simp at ab; subst ab; exact⟨v,rfl,U⟩
 |a::az,_,h,i+1,x,ab=>by simp only[cq]at h; obtain⟨v,af,rfl,U,aa⟩:=h; simp at ab; obtain⟨bI,ar,ax⟩:=cq.get aa i x ab; exact⟨bI,by simpa using ar,ax⟩
theorem cq.append: ∀ {az l bQ cc:List (List I)}(_:cq s az l) (_:cq s bQ cc),cq s (az++bQ) (l++cc)
 |[],_,_,_,h,k=>by simp only[cq]at h; subst h; simpa using k
 |a::az,_,_,_,h,k=>by simp only[cq]at h; obtain⟨v,af,rfl,U,aa⟩:=h; simp only[List.cons_append,cq]; exact⟨v,_,rfl,U,cq.append aa k⟩
theorem cq.drop: ∀(n:Nat){az l:List (List I)}(_:cq s az l),cq s (az.drop n) (l.drop n)
 |0,_,_,h=>by simpa using h
 |n+1,[],_,h=>by simp only[cq]at h; subst h; simp [cq]
 |n+1,a::az,_,h=>by simp only[cq]at h; obtain⟨v,af,rfl,U,aa⟩:=h; simpa using cq.drop n aa
theorem cq.take: ∀(n:Nat){az l:List (List I)}(_:cq s az l),cq s (az.take n) (l.take n)
 |0,_,_,_=>by simp [cq]
 |n+1,[],_,h=>by simp only[cq]at h; subst h; simp [cq]
 |n+1,a::az,_,h=>by simp only[cq]at h; obtain⟨v,af,rfl,U,aa⟩:=h; simp only[List.take_succ_cons,cq]; exact⟨v,_,rfl,U,cq.take n aa⟩
theorem cq.flatten: ∀ {az l:List (List I)}(_:cq s az l),bk s az.flatten l.flatten
 |[],_,h=>by simp only[cq]at h; subst h; simp [bk]
 |a::az,_,h=>by simp only[cq]at h; obtain⟨v,af,rfl,U,aa⟩:=h; simpa using U.append (cq.flatten aa)
theorem cq.Jw {n:Nat}: ∀ {az l:List (List I)}(_:cq s az l),az.all (fun r=>r.length==n)=true→l.all (fun r=>r.length==n)=true
 |[],_,h,_=>by simp only[cq]at h; subst h; rfl
 |a::az,_,h,k=>by
  simp only[cq]at h
  obtain⟨v,af,rfl,U,aa⟩:=h
  simp only[List.all_cons,Bool.and_eq_true]at k ⊢
  rw[bk.length U]
  exact⟨k.1,cq.Jw aa k.2⟩
theorem aN.one {a v:I}(h:aN s a v) (aL:a.one=true):v.one=true:=by
 cases a<;>simp only[I.one,Bool.false_eq_true]at aL<;>simp only[aN]at h
 all_goals first
  |(subst h; first|rfl|exact aL)
  |(obtain⟨x,U,rfl⟩:=h; rfl)
  |(obtain⟨x,rfl,U⟩:=h; rfl)
  |(obtain⟨x,l,U,rfl,aa⟩:=h; rfl)
theorem bk.zS: ∀ {az l:List I}(_:bk s az l),az.all I.one=true→l.all I.one=true
 |[],_,h,_=>by simp only[bk]at h; subst h; rfl
 |a::az,_,h,k=>by
  simp only[bk]at h
  obtain⟨v,af,rfl,U,aa⟩:=h
  simp only[List.all_cons,Bool.and_eq_true]at k ⊢
  exact⟨U.one k.1,bk.zS aa k.2⟩
theorem aN.fk {a v:I}(h:aN s a v) (aL:a.fk=true):v.fk=true∧bk s a.cells v.cells:=by
 cases a with
 |agg cs=>
  simp only[aN]at h
  obtain⟨l,rfl,U⟩:=h
  exact⟨rfl,U⟩
 | _=>
  all_goals
   have U:=h.one (by simpa only[I.fk] using aL)
   have ae:v.cells=[v]∧v.fk=true:=by
    cases v<;>simp only[I.one,Bool.false_eq_true]at U<;>first|exact⟨rfl,rfl⟩|exact⟨rfl,U⟩
   refine⟨ae.2,?_⟩
   rw[ae.1]
   simp only[I.cells,bk]
   exact⟨_,_,rfl,h,rfl⟩
theorem bk.js {agg:Bool}{az l:List I}{v:I}(h:bk s az l) (ae:I.js agg az=some v): ∃bI,I.js agg l=some bI∧aN s v bI:=by
 cases agg with
 |true=>
  simp only[I.js,cond_true,Option.some.injEq]at ae ⊢
  subst ae
  exact⟨_,rfl,by simp only[aN]; exact⟨l,rfl,h⟩⟩
 |false=>
  simp only[I.js,cond_false]at ae ⊢
  match az,h,ae with
  |[a],h,ae=>
   simp only[bk]at h
   obtain⟨x,xs,rfl,U,rfl⟩:=h
   simp only[Option.some.injEq]at ae ⊢
   subst ae
   exact⟨_,rfl,U⟩
end
mutual
def I.flat:I→Bool
 | .bool _=>true
 | .int _ _=>true
 | .str _=>true
 | .ev _=>true
 | .agg cs=>b7 cs
 | .cT cs=>b7 cs
 | .af _ rows=>eN rows
 | .eK row _=>b7 row
 | .fn _ cap=>b7 cap
 | .iE _ v=>v.flat
 | _=>false
def b7:List I→Bool
 |[]=>true
 |a::az=>a.flat&&b7 az
def eN:List (List I)→Bool
 |[]=>true
 |a::az=>b7 a&&eN az
end
mutual
theorem I.lX {s:bC}: ∀(a:I),a.flat=true→∀v,aN s a v↔v=a
 | .bool _,_,_=>by simp only[aN]
 | .int _ _,_,_=>by simp only[aN]
 | .str _,_,_=>by simp only[aN]
 | .ev _,_,_=>by simp only[aN]
 | .agg cs,h,v=>by simp only[I.flat]at h; simp only[aN,n2 cs h]; exact⟨fun⟨l,ar,ax⟩=>by rw[ar,ax],fun e=>⟨cs,e,rfl⟩⟩
 | .cT cs,h,v=>by simp only[I.flat]at h; simp only[aN,n2 cs h]; exact⟨fun⟨l,ar,ax⟩=>by rw[ar,ax],fun e=>⟨cs,e,rfl⟩⟩
 | .af n rows,h,v=>by simp only[I.flat]at h; simp only[aN,p1 rows h]; exact⟨fun⟨l,ar,ax⟩=>by rw[ar,ax],fun e=>⟨rows,e,rfl⟩⟩
 | .eK row o,h,v=>by simp only[I.flat]at h; simp only[aN,n2 row h]; exact⟨fun⟨l,ar,ax⟩=>by rw[ar,ax],fun e=>⟨row,e,rfl⟩⟩
 | .fn f cap,h,v=>by simp only[I.flat]at h; simp only[aN,n2 cap h]; exact⟨fun⟨l,ar,ax⟩=>by rw[ar,ax],fun e=>⟨cap,e,rfl⟩⟩
 | .iE t a,h,v=>by simp only[I.flat]at h; simp only[aN,I.lX a h]; exact⟨fun⟨l,ar,ax⟩=>by rw[ar,ax],fun e=>⟨a,e,rfl⟩⟩
theorem n2 {s:bC}: ∀(az:List I),b7 az=true→∀l,bk s az l↔l=az
 |[],_,l=>by simp only[bk]
 |a::az,h,l=>by
  simp only[b7,Bool.and_eq_true]at h
  simp only[bk,I.lX a h.1,n2 az h.2]
  exact⟨fun⟨v,af,ar,ax,bU⟩=>by rw[ar,ax,bU],fun e=>⟨a,az,e,rfl,rfl⟩⟩
theorem p1 {s:bC}: ∀(az:List (List I)),eN az=true→∀l,cq s az l↔l=az
 |[],_,l=>by simp only[cq]
 |a::az,h,l=>by
  simp only[eN,Bool.and_eq_true]at h
  simp only[cq,n2 a h.1,p1 az h.2]
  exact⟨fun⟨v,af,ar,ax,bU⟩=>by rw[ar,ax,bU],fun e=>⟨a,az,e,rfl,rfl⟩⟩
end
def iA (s:bC) (env bd:Env):Prop:=∀j,aN s (env.get j) (bd.get j)
def bp (env:Env):aJ→I
 | .t n=>env.get n
 | .c a=>bif a.flat then a else .eX
def iz (s:bC) (i dB:cb):Prop:=dB.ty=i.ty∧dB.size=i.size∧dB.n=i.n∧dB.ver=i.ver∧match i.lU with
 |none=>dB.lU=none
 |some rows=> ∃l,dB.lU=some l∧cq s rows l
structure HR (H0:aA) (s:bC) (C H:aA):Prop where
 base:HSub H0 H
 aZ: ∀b T cs,C.aZ b=some (T,cs)→∃x cE,s.b[b]? =some x∧H.aZ x=some (T,cE)∧bk s cs cE
 tok: ∀t i,C.tok t=some i→∃x dB,s.t[t]? =some x∧H.tok x=some dB∧iz s i dB
 l4: ∀(b x:Nat),s.b[b]? =some x→H0.aZ x=none∧∃y,H.aZ x=some y
 lG: ∀(t x:Nat),s.t[t]? =some x→H0.tok x=none∧∃y,H.tok x=some y
 mR: ∀(b b1 x:Nat),s.b[b]? =some x→s.b[b1]? =some x→b=b1
 oa: ∀(b b1 x:Nat),s.t[b]? =some x→s.t[b1]? =some x→b=b1
section
variable {P:Program}{s:bC}{env bd:Env}{H0 C H:aA}
theorem lu (he:iA s env bd) (x:aJ):aN s (bp env x) (x.aI bd):=by
 cases x with
 |t n=>exact he n
 |c a=>
  show aN s (bif a.flat then a else .eX) a
  cases h:a.flat with
  |false=>simp only[cond_false,aN]
  |true=>rw[cond_true,I.lX a h]
theorem oQ (he:iA s env bd): ∀(xs:List aJ),bk s (xs.map (bp env)) (xs.map (aJ.aI bd))
 |[]=>by simp [bk]
 |x::xs=>by simp only[List.map_cons,bk]; exact⟨_,_,rfl,lu he x,oQ he xs⟩
theorem iA.put (he:iA s env bd){v bI:I}(ae:aN s v bI) (d:Option Nat):iA s (env.put d v) (bd.put d bI):=by
 cases d with
 |none=>exact he
 |some k=>
  intro j
  simp only[Env.put,Env.get]
  cases k==j with
  |true=>exact ae
  |false=>exact he j
theorem iA.mono {b5:bC}(e:bC.e8 s b5) (he:iA s env bd):iA b5 env bd:=fun j=>aN.mono e _ _ (he j)
def pk (env:Env) (Gl:Nat):Option aJ→Option Nat
 |none=>some Gl
 |some x=>match bp env x with
  | .int _ (.ofNat n)=>some n
  | _=>none
theorem zg (he:iA s env bd){d n:Nat}{x:Option aJ}(h:pk env d x=some n):kA bd d x=some n:=by
 cases x with
 |none=>exact h
 |some x=>
  have ab:=lu he x
  simp only[pk]at h
  split at h
  ·rename_i k m e
   rw[e]at ab
   simp only[aN]at ab
   simp only[kA,ab]
   exact h
  ·cases h
def uv (env:Env) (cells:List I):List (Nat×Nat×aJ)→Option (List I)
 |[]=>some cells
 |(off,size,x)::rest=>
  let a:=bp env x
  bif a.fk&&(a.cells.length==size&&Nat.ble (off+size) cells.length) then uv env (gj cells off a.cells) rest else none
theorem LJ (he:iA s env bd): ∀(parts:List (Nat×Nat×aJ)) (cells AR cs:List I),bk s cells AR→uv env cells parts=some cs→∃cE,pg bd AR parts=some cE∧bk s cs cE
 |[],cells,AR,cs,h,hb=>by
  simp only[uv,Option.some.injEq]at hb
  subst hb
  exact⟨_,rfl,h⟩
 |(off,size,x)::rest,cells,AR,cs,h,hb=>by
  simp only[uv]at hb
  cases aq:((bp env x).fk&&((bp env x).cells.length==size&&Nat.ble (off+size) cells.length)) with
  |false=>rw[aq]at hb; cases hb
  |true=>
   rw[aq,cond_true]at hb
   simp only[Bool.and_eq_true,beq_iff_eq,Nat.ble_eq]at aq
   obtain⟨U,aa,ay⟩:=aq
   obtain⟨bf,bi⟩:=(lu he x).fk U
   obtain⟨cE,ar,ax⟩:=LJ he rest _ (gj AR off (x.aI bd).cells) cs (h.gj bi off) hb
   refine⟨cE,?_,ax⟩
   simp only[pg]
   rw[if_pos ⟨by rw[bk.length bi,aa],by rw[bk.length h]; exact ay,bf⟩]
   exact ar
theorem Qu (nv:Bool): ∀(l cc:List I) (a cZ v:I),aN s a cZ→bk s l cc→mG nv a l=some v→mG nv cZ cc=some v∧aN s v v
 |[],_,a,cZ,v,aL,aC,ae=>by
  simp only[bk]at aC
  subst aC
  cases a<;>simp only[mG,Option.some.injEq,reduceCtorEq]at ae
  subst ae
  simp only[aN]at aL
  subst aL
  exact⟨rfl,by simp only[aN]⟩
 |b::rest,_,a,cZ,v,aL,aC,ae=>by
  simp only[bk]at aC
  obtain⟨b1,fG,rfl,hb,aC⟩:=aC
  cases a<;>cases b<;>simp only[mG,reduceCtorEq]at ae
  simp only[aN]at aL hb
  subst aL hb
  simp only[mG]
  split at ae
  ·rename_i aw
   rw[if_pos aw]
   exact Qu nv rest fG _ _ v (by simp only[aN]) aC ae
  ·cases ae
theorem ae2 {k:nP}{a cZ b b1:I}{r:Bool}(aL:aN s a cZ) (hb:aN s b b1) (h:po k a b=some r):po k cZ b1=some r:=by
 cases k<;>cases a<;>cases b<;>simp only[po,reduceCtorEq]at h<;>simp only[aN]at aL hb<;>subst aL hb<;>exact h
theorem Ov: ∀(aT:List nP) (az jx bQ AM:List I) (r:Bool),bk s az jx→bk s bQ AM→h9 aT az bQ=some r→h9 aT jx AM=some r
 |[],[],_,[],_,r,aL,hb,h=>by
  simp only[bk]at aL hb
  subst aL hb
  exact h
 |k::aT,a::az,_,b::bQ,_,r,aL,hb,h=>by
  simp only[bk]at aL hb
  obtain⟨cZ,jx,rfl,aL,has⟩:=aL
  obtain⟨b1,AM,rfl,hb,al6⟩:=hb
  simp only[h9]at h ⊢
  split at h
  ·rename_i x y U aa
   rw[ae2 aL hb U,Ov aT az jx bQ AM y has al6 aa]
   exact h
  ·cases h
 |[],_:: _,_,_,_,_,_,_,h=>by simp [h9]at h
 |[],[],_,_:: _,_,_,_,_,h=>by simp [h9]at h
 | _:: _,[],_,_,_,_,_,_,h=>by simp [h9]at h
 | _:: _,_:: _,_,[],_,_,_,_,h=>by simp [h9]at h
end
def tw (n:Int) (len:Nat):Option Nat:=
 match n with
 | .ofNat k=>bif Nat.blt k len then some k else none
 | _=>none
theorem ze {n:Int}{len k:Nat}(h:tw n len=some k):0≤n∧n<(len:Int)∧n.toNat=k:=by
 cases n with
 |ofNat j=>
  simp only[tw]at h
  cases hb:Nat.blt j len with
  |false=>rw[hb]at h; cases h
  |true=>
   rw[hb]at h
   simp only[cond_true,Option.some.injEq]at h
   subst h
   have:j<len:=by simpa [Nat.blt_eq] using hb
   exact⟨Int.natCast_nonneg j,Int.ofNat_lt.2 this,rfl⟩
 |negSucc j=>cases h
def pX (cs:List I) (agg:Bool) (o n:Nat):Option I:=bif Nat.ble (o+n) cs.length then I.js agg ((cs.drop o).take n) else none
theorem uC {s:bC}{cs cE:List I}{agg:Bool}{o n:Nat}{v:I}(h:bk s cs cE) (ae:pX cs agg o n=some v):o+n≤cE.length∧∃bI,I.js agg ((cE.drop o).take n)=some bI∧aN s v bI:=by
 unfold pX at ae
 cases hb:Nat.ble (o+n) cs.length with
 |false=>rw[hb]at ae; cases ae
 |true=>
  rw[hb,cond_true]at ae
  exact⟨by rw[bk.length h]; exact Nat.le_of_ble_eq_true hb,bk.js ((h.drop o).take n) ae⟩
def y9 (op:BinOp):I→I→Option I
 | .int k a,.int j b=>if k=j then (match op with
  | .quo=>if b=0 then none else some (.int k (k.wrap (a.tdiv b)))
  | .rem=>if b=0 then none else some (.int k (a.tmod b))
  |op=>r1 op k a b) else w4 op k a b
 | .str a,.str b=>match op with
  | .add=>bif Nat.ble (a.length+b.length) maxLen then some (.str (a++b)) else none
  |op=>ur op a b
 | _,_=>none
def fN (op:bg) (env:Env) (C:aA):Option I:=
 match op with
 | .hO x=>some (bp env x)
 | .pick c a b=>match bp env c with
  | .bool true=>some (bp env a)
  | .bool false=>some (bp env b)
  | _=>none
 | .eB x=>match bp env x with
  | .ptr b o=>some (.ptr b o)
  | .eK r o=>some (.eK r o)
  | .fn f c=>some (.fn f c)
  | _=>none
 | .build zero parts=>bif b7 zero then (uv env zero parts).map .agg else none
 | .load agg n x=>match bp env x with
  | .ptr b o=>match C.aZ b with
   |some (_,cs)=>pX cs agg o n
   |none=>none
  | .eK row o=>pX row agg o n
  | _=>none
 | .fP fv agg n x=>match env.get fv,bp env x with
  | .ptr b 0,.ptr b1 o=>bif b1==b then (match C.aZ b1 with
   |some (_,cs)=>pX cs agg o n
   |none=>none) else none
  | _,_=>none
 | .pA agg n x=>match bp env x with
  | .eK row o=>pX row agg o n
  | _=>none
 | .pq off x=>match bp env x with
  | .ptr b o=>some (.ptr b (o+off))
  | .eK row o=>some (.eK row (o+off))
  | _=>none
 | .field agg off n x=>match bp env x with
  | .agg cs=>pX cs agg off n
  | _=>none
 | .gy size x i=>match bp env x,bp env i with
  | .af l8 rows,.int _ (.ofNat n)=>bif l8==size then rows[n]?.map fun r=> .eK r 0 else none
  | .own _ l8 rows,.int _ (.ofNat n)=>bif l8==size then rows[n]?.map fun r=> .eK r 0 else none
  | _,_=>none
 | .oA len size x i=>match bp env x,bp env i with
  | .ptr b o,.int _ n=>(tw n len).map fun k=> .ptr b (o+k*size)
  | .eK row o,.int _ n=>(tw n len).map fun k=> .eK row (o+k*size)
  | _,_=>none
 | .kj agg len size x i=>match bp env x,bp env i with
  | .agg cs,.int _ n=>match tw n len with
   |some k=>pX cs agg (k*size) size
   |none=>none
  | _,_=>none
 | .ic x i=>match bp env x,bp env i with
  | .str b,.int _ (.ofNat n)=>b[n]?.map fun c=> .int .u8 c.toNat
  | _,_=>none
 | .bin op x y=>y9 op (bp env x) (bp env y)
 | .rk op x y=>match bp env x,bp env y with
  | .bool a,.bool b=>vX op a b
  | _,_=>none
 | .j1 neg _ aT x y=>match bp env x,bp env y with
  | .agg a,.agg b=>(h9 aT a b).map fun r=> .bool (bif neg then !r else r)
  | _,_=>none
 | .not x=>match bp env x with
  | .bool b=>some (.bool (!b))
  | _=>none
 | .sJ neg x=>match bp env x with
  | .ptr _ _=>some (.bool neg)
  | .eK _ _=>some (.bool neg)
  | .ev (.pointer none)=>some (.bool (!neg))
  | _=>none
 | .neg x=>match bp env x with
  | .int k n=>some (.int k (k.wrap (0-n)))
  | _=>none
 | .conv k x=>match bp env x with
  | .int _ n=>some (.int k (k.wrap n))
  | _=>none
 | .mT x=>match bp env x with
  | .str b=>some (.int .i64 b.length)
  | _=>none
 | .len x=>match bp env x with
  | .af _ rows=>some (.int .i64 rows.length)
  | .own _ _ rows=>some (.int .i64 rows.length)
  | .ev (.slice _ n _)=>some (.int .i64 n)
  | _=>none
 | .rE n=>some (.int .i64 n)
 | .l1 nv xs=>match xs.map (bp env) with
  |a::rest=>mG nv a rest
  |[]=>none
 | .kE x cJ ad=>match bp env x with
  | .str b=>match pk env 0 cJ,pk env b.length ad with
   |some l,some h=>bif Nat.ble l h&&Nat.ble h b.length then some (.str ((b.take h).drop l)) else none
   | _,_=>none
  | _=>none
 | .ii size x cJ ad none=>match oJ size (bp env x) with
  |some rows=>match pk env 0 cJ,pk env rows.length ad with
   |some l,some h=>bif Nat.ble l h&&Nat.ble h rows.length then some (.af size ((rows.take h).drop l)) else none
   | _,_=>none
  |none=>none
 | .extract i x=>match bp env x with
  | .cT l=>l[i]?
  | _=>none
 | .j6 f cap=>some (.fn f (cap.map (bp env)))
 | .vl f cap=>some (.fn (f+ke) (cap.map (bp env)))
 | .r5 int x=>match int,bp env x with
  |true,.int _ n=>some (.str (Utf8.encode n).data.toList)
  |false,.af 1 rows=>(mn rows).map .str
  |false,.own _ 1 rows=>(mn rows).map .str
  |false,.ev (.slice none _ _)=>some (.str [])
  | _,_=>none
 | .kN T x=>match bp env x with
  | .str b=>some (.af 1 (b.map fun c=>[.int .u8 c.toNat]))
  | _=>none
 | .qM T x=>some (.iE T (bp env x))
 | .qH neg x=>match bp env x with
  | .ev (.slice none 0 0)=>some (.bool (!neg))
  | .af _ (_:: _)=>some (.bool neg)
  | _=>none
 | .iq x=>match bp env x with
  | .c6 t ver=>match C.tok t with
   |some ⟨_,_,0,hY,some rows⟩=>bif hY==ver then some (.int .i64 rows.length) else none
   | _=>none
  | _=>none
 | .ji ok z x k=>match bp env x,bp env k with
  | .c6 t ver,.str s=>match C.tok t with
   |some ⟨_,2,1,hY,some rows⟩=>bif hY==ver&&b7 [z] then (ny s rows).map (l3 ok z) else none
   | _=>none
  | .ev (.map none),.str s=>bif b7 [z] then some (l3 ok z none) else none
  | _,_=>none
 | .jJ off x=>match bp env x with
  | .mp t ver k=>match C.tok t with
   |some ⟨_,_,0,hY,some rows⟩=>bif hY==ver then some (.mp t ver (k+off)) else none
   | _=>none
  | _=>none
 | .jr size x i=>match bp env x,bp env i with
  | .c6 t ver,.int _ n=>match C.tok t with
   |some ⟨_,l8,0,hY,some rows⟩=>bif hY==ver&&l8==size then (tw n rows.length).map fun k=> .mp t ver (k*size) else none
   | _=>none
  | _,_=>none
 | .j5 agg n x=>match bp env x with
  | .mp t ver k=>match C.tok t with
   |some ⟨_,_,0,hY,some rows⟩=>bif hY==ver then pX rows.flatten agg k n else none
   | _=>none
  | _=>none
 | .da T size n zero parts=>
  let az:=parts.map fun p=>bp env p.2
  bif az.all I.fk&&((az.map I.cells).all (fun r=>r.length==size)&&(az.map I.cells).flatten.all I.one) then some (.af size (az.map I.cells)) else none
 | _=>none
section
variable {P:Program}{s:bC}{env bd:Env}{H0 C H:aA}
theorem HR.bA (ac:HR H0 s C H){t:Nat}{T:TypeId}{size ver:Nat}{rows:List (List I)}(h:C.tok t=some ⟨T,size,0,ver,some rows⟩): ∃x l,s.t[t]? =some x∧H.tok x=some (.bA T size ver l)∧cq s rows l:=by
 obtain⟨x,⟨cO,uk,hV,bI,cV⟩,U,aa,ar,ax,bU,dl,gn⟩:=ac.tok t _ h
 simp only at ar ax bU dl gn
 obtain⟨l,gn,mw⟩:=gn
 subst ar ax bU dl gn
 exact⟨x,l,U,aa,mw⟩
theorem HR.bb (ac:HR H0 s C H){t:Nat}{T:TypeId}{ver:Nat}{rows:List (List I)}(h:C.tok t=some ⟨T,2,1,ver,some rows⟩): ∃x l,s.t[t]? =some x∧H.tok x=some (.bb T ver l)∧cq s rows l:=by
 obtain⟨x,⟨cO,uk,hV,bI,cV⟩,U,aa,ar,ax,bU,dl,gn⟩:=ac.tok t _ h
 simp only at ar ax bU dl gn
 obtain⟨l,gn,mw⟩:=gn
 subst ar ax bU dl gn
 exact⟨x,l,U,aa,mw⟩
theorem QE {k:List UInt8}{v:I}{r l:List (List I)}(h:cq s ([.str k,v]::r) l): ∃bI cc,l=[.str k,bI]::cc∧aN s v bI∧cq s r cc:=by
 simp only[cq,bk,aN]at h
 obtain⟨x,cc,rfl,⟨y,eT,rfl,rfl,z,bo3,rfl,ay,rfl⟩,aa⟩:=h
 exact⟨z,cc,rfl,ay,aa⟩
theorem Qo (k:List UInt8): ∀(rows l:List (List I)) (r:Option I),cq s rows l→ny k rows=some r→(r=none∧ny k l=some none)∨∃v bI,r=some v∧ny k l=some (some bI)∧aN s v bI
 |[],l,r,h,ac=>by
  simp only[cq]at h
  subst h
  simp only[ny,Option.some.injEq]at ac
  exact .inl ⟨ac.symm,rfl⟩
 |row::rows,l,r,h,ac=>by
  unfold ny at ac
  split at ac
  ·cases ‹_:: _=[]›
  ·rename_i q v eV cA
   simp only[List.cons.injEq]at cA
   obtain⟨rfl,rfl⟩:=cA
   obtain⟨bI,cc,rfl,U,aa⟩:=QE h
   by_cases aw:k=q
   ·rw[if_pos aw]at ac
    simp only[Option.some.injEq]at ac
    exact .inr ⟨v,bI,ac.symm,by simp only[ny,if_pos aw],U⟩
   ·rw[if_neg aw]at ac
    rcases Qo k _ cc r aa ac with ⟨g1,g2⟩|⟨x,c9,g1,g2,g3⟩
    ·exact .inl ⟨g1,by simp only[ny,if_neg aw]; exact g2⟩
    ·exact .inr ⟨x,c9,g1,by simp only[ny,if_neg aw]; exact g2,g3⟩
  ·cases ac
theorem QC (k:List UInt8){a cZ:I}(aL:aN s a cZ): ∀(rows l rows':List (List I)),cq s rows l→l2 k a rows=some rows'→∃cc,l2 k cZ l=some cc∧cq s rows' cc
 |[],l,r,h,ac=>by
  simp only[cq]at h
  subst h
  simp only[l2,Option.some.injEq]at ac
  subst ac
  exact⟨_,rfl,by simp only[cq,bk,aN]; exact⟨_,_,rfl,⟨_,_,rfl,rfl,_,_,rfl,aL,rfl⟩,rfl⟩⟩
 |row::rows,l,r,h,ac=>by
  unfold l2 at ac
  split at ac
  ·cases ‹_:: _=[]›
  ·rename_i q v eV cA
   simp only[List.cons.injEq]at cA
   obtain⟨rfl,rfl⟩:=cA
   obtain⟨bI,cc,rfl,U,aa⟩:=QE h
   by_cases aw:k=q
   ·rw[if_pos aw]at ac
    simp only[Option.some.injEq]at ac
    subst ac
    exact⟨[.str k,cZ]::cc,by simp only[l2,if_pos aw],by simp only[cq,bk,aN]; exact⟨_,_,rfl,⟨_,_,rfl,rfl,_,_,rfl,aL,rfl⟩,aa⟩⟩
   ·rw[if_neg aw]at ac
    cases bw:l2 k a rows with
    |none=>rw[bw]at ac; cases ac
    |some kB=>
     rw[bw]at ac
     simp only[Option.map_some,Option.some.injEq]at ac
     subst ac
     obtain⟨fG,g1,g2⟩:=QC k aL _ cc kB aa bw
     exact⟨[.str q,bI]::fG,by simp only[l2,if_neg aw,g1,Option.map_some],by simp only[cq,bk,aN]; exact⟨_,_,rfl,⟨_,_,rfl,rfl,_,_,rfl,U,rfl⟩,g2⟩⟩
  ·cases ac
theorem Ig {ok:Bool}{z:I}{r eV:Option I}(aG:b7 [z]=true) (h:(r=none∧eV=none)∨∃v bI,r=some v∧eV=some bI∧aN s v bI):aN s (l3 ok z r) (l3 ok z eV):=by
 have aU:aN s z z:=by
  have:=(n2 (s:=s) [z] aG [z]).2 rfl
  simp only[bk]at this
  obtain⟨v,af,e,h,_⟩:=this
  cases e
  exact h
 rcases h with ⟨rfl,rfl⟩|⟨v,bI,rfl,rfl,h⟩
 ·cases ok
  ·simpa [l3] using aU
  ·simp only[l3,if_true,Option.getD_none,Option.isSome_none,aN,bk]
   exact⟨_,rfl,_,_,rfl,aU,_,_,rfl,rfl,rfl⟩
 ·cases ok
  ·simpa [l3] using h
  ·simp only[l3,if_true,Option.getD_some,Option.isSome_some,aN,bk]
   exact⟨_,rfl,_,_,rfl,h,_,_,rfl,rfl,rfl⟩
theorem FK (he:iA s env bd): ∀(parts:List (Nat×aJ)),(parts.map fun p=>bp env p.2).all I.fk=true→cq s ((parts.map fun p=>bp env p.2).map I.cells) (lr bd parts)
 |[],_=>by simp [lr,cq]
 |p::parts,h=>by
  simp only[List.map_cons,List.all_cons,Bool.and_eq_true]at h
  simp only[List.map_cons,lr,cq]
  exact⟨_,_,rfl,((lu he p.2).fk h.1).2,FK he parts h.2⟩
end
variable {P:Program}{s:bC}{env bd:Env}{H0 C H:aA}
theorem eD (he:iA s env bd){x:aJ}{a:I}(e:bp env x=a):aN s a (x.aI bd):=e▸lu he x
theorem aW2 {size:Nat}{a cZ:I}{rows:List (List I)}(h:aN s a cZ) (e:oJ size a=some rows): ∃l,oJ size cZ=some l∧cq s rows l:=by
 unfold oJ at e
 split at e
 ·split at e
  ·rename_i hs
   simp only[Option.some.injEq]at e
   subst e
   simp only[aN]at h
   obtain⟨l,rfl,U⟩:=h
   exact⟨l,by simp [oJ,hs],U⟩
  ·cases e
 ·split at e
  ·rename_i hs
   simp only[Option.some.injEq]at e
   subst e
   simp only[aN]at h
   obtain⟨x,l,_,rfl,U⟩:=h
   exact⟨l,by simp [oJ,hs],U⟩
  ·cases e
 ·cases e
theorem WM {op:BinOp}{k:IntKind}{a b:Int}{v:I}(h:r1 op k a b=some v):aN s v v:=by
 cases op<;>simp only[r1,Option.some.injEq,reduceCtorEq]at h<;>first
  |(subst h; simp only[aN]; done)
  |(split at h<;>first
   |(cases h; done)
   |(simp only[Option.some.injEq]at h; subst h; simp only[aN]; done))
theorem aV5 {op:BinOp}{k:IntKind}{a b:Int}{v:I}(h:w4 op k a b=some v):aN s v v:=by
 cases op<;>simp only[w4,reduceCtorEq]at h<;>first
  |(cases h; done)
  |(split at h<;>first
   |(cases h; done)
   |(simp only[Option.some.injEq]at h; subst h; simp only[aN]; done))
theorem FN: ∀ {rows l:List (List I)}{b:List UInt8},mn rows=some b→cq s rows l→mn l=some b
 |[],l,b,h,k=>by simp only[cq]at k; subst k; exact h
 |r::aS,l,b,h,k=>by
  simp only[cq]at k
  obtain⟨eV,cc,rfl,bf,bi⟩:=k
  unfold mn at h
  split at h
  ·rename_i e; cases e
  ·rename_i n Jk e
   simp only[List.cons.injEq]at e
   obtain⟨rfl,rfl⟩:=e
   simp only[bk,aN]at bf
   obtain⟨_,_,rfl,rfl,rfl⟩:=bf
   split at h
   ·rename_i b5 cI
    simp only[mn,FN cI bi]
    exact h
   ·cases h
  ·cases h
theorem Ln: ∀(b:List UInt8),cq s (b.map fun c=>[I.int .u8 c.toNat]) (b.map fun c=>[I.int .u8 c.toNat])
 |[]=>by simp [cq]
 |c::b=>by simp only[List.map_cons,cq,bk,aN]; exact⟨_,_,rfl,⟨_,_,rfl,rfl,rfl⟩,Ln b⟩
theorem Zb {op:BinOp}{x y:aJ}{a b v:I}(aL:aN s a (x.aI bd)) (hb:aN s b (y.aI bd)) (h:y9 op a b=some v): ∃bI,e9 P (.bin op x y) bd H (.dj bI)∧aN s v bI:=by
 unfold y9 at h
 split at h
 ·rename_i k a j b
  simp only[aN]at aL hb
  split at h
  ·rename_i aw
   subst aw
   split at h
   ·split at h
    ·cases h
    ·rename_i aG
     simp only[Option.some.injEq]at h
     subst h
     exact⟨_,.quo aL hb aG,by simp only[aN]⟩
   ·split at h
    ·cases h
    ·rename_i aG
     simp only[Option.some.injEq]at h
     subst h
     exact⟨_,.rem aL hb aG,by simp only[aN]⟩
   ·refine⟨v,.pure (by simp only[ca,aL,hb,if_pos]; exact h),?_⟩
    exact WM h
  ·rename_i aw
   refine⟨v,.pure (by simp only[ca,aL,hb,if_neg aw]; exact h),aV5 h⟩
 ·rename_i a b
  simp only[aN]at aL hb
  split at h
  ·cases hm:Nat.ble (a.length+b.length) maxLen with
   |false=>rw[hm]at h; cases h
   |true=>
    rw[hm]at h
    simp only[cond_true,Option.some.injEq]at h
    subst h
    exact⟨_,.j0 aL hb (Nat.le_of_ble_eq_true hm),by simp only[aN]⟩
  ·refine⟨v,.pure (by simp only[ca,aL,hb]; exact h),?_⟩
   cases op<;>simp only[ur,Option.some.injEq,reduceCtorEq]at h<;>subst h<;>simp only[aN]
 ·cases h
theorem EB {ver hY:Nat}(h:(hY==ver)=true):hY=ver:=by simpa using h
theorem ZL (he:iA s env bd) (ac:HR H0 s C H){op:bg}{v:I}(h:fN op env C=some v): ∃bI,e9 P op bd H (.dj bI)∧aN s v bI:=by
 cases op<;>simp only[fN,reduceCtorEq]at h
 case hO x=>
  simp only[Option.some.injEq]at h
  subst h
  exact⟨_,.pure rfl,lu he x⟩
 case pick c a b=>
  split at h
  ·rename_i e
   have aq:=eD he e
   simp only[aN]at aq
   simp only[Option.some.injEq]at h
   subst h
   exact⟨_,.pure (by simp only[ca,aq]),lu he a⟩
  ·rename_i e
   have aq:=eD he e
   simp only[aN]at aq
   simp only[Option.some.injEq]at h
   subst h
   exact⟨_,.pure (by simp only[ca,aq]),lu he b⟩
  ·cases h
 case eB x=>
  split at h
  ·rename_i e
   have ab:=eD he e
   simp only[Option.some.injEq]at h
   subst h
   simp only[aN]at ab
   obtain⟨y,U,aa⟩:=ab
   exact⟨_,.pure (by simp only[ca,aa]; rfl),by simp only[aN]; exact⟨y,U,rfl⟩⟩
  ·rename_i e
   have ab:=eD he e
   simp only[Option.some.injEq]at h
   subst h
   simp only[aN]at ab
   obtain⟨y,aa,U⟩:=ab
   exact⟨_,.pure (by simp only[ca,aa]; rfl),by simp only[aN]; exact⟨y,rfl,U⟩⟩
  ·rename_i e
   have ab:=eD he e
   simp only[Option.some.injEq]at h
   subst h
   simp only[aN]at ab
   obtain⟨y,aa,U⟩:=ab
   exact⟨_,.pure (by simp only[ca,aa]; rfl),by simp only[aN]; exact⟨y,rfl,U⟩⟩
  ·cases h
 case build zero parts=>
  cases aG:b7 zero with
  |false=>rw[aG]at h; cases h
  |true=>
   rw[aG]at h
   simp only[cond_true,Option.map_eq_some_iff]at h
   obtain⟨cs,e,rfl⟩:=h
   obtain⟨cE,ar,ax⟩:=LJ he parts zero zero cs ((n2 zero aG _).2 rfl) e
   exact⟨_,.pure (by simp only[ca,ar,Option.map_some]; rfl),by simp only[aN]; exact⟨_,rfl,ax⟩⟩
 case load agg n x=>
  split at h
  ·rename_i b o e
   have ab:=eD he e
   simp only[aN]at ab
   obtain⟨y,U,aa⟩:=ab
   split at h
   ·rename_i T cs ax
    obtain⟨c9,cE,g1,g2,g3⟩:=ac.aZ _ _ _ ax
    rw[U]at g1
    cases g1
    obtain⟨bf,bI,bi,cz⟩:=uC g3 h
    exact⟨bI,.pure (by simp only[ca,aa,g2,if_pos bf,bi]),cz⟩
   ·cases h
  ·rename_i row o e
   have ab:=eD he e
   simp only[aN]at ab
   obtain⟨l,aa,U⟩:=ab
   obtain⟨bf,bI,bi,cz⟩:=uC U h
   exact⟨bI,.pure (by simp only[ca,aa,if_pos bf,bi]),cz⟩
  ·cases h
 case pA agg n x=>
  split at h
  ·rename_i row o e
   have ab:=eD he e
   simp only[aN]at ab
   obtain⟨l,aa,U⟩:=ab
   obtain⟨bf,bI,bi,cz⟩:=uC U h
   exact⟨bI,.pure (by simp only[ca,aa,if_pos bf,bi]),cz⟩
  ·cases h
 case fP fv agg n x=>
  split at h
  ·rename_i b b1 o cA e
   have ab:=eD he e
   have hm:=he fv
   rw[cA]at hm
   simp only[aN]at ab hm
   obtain⟨y,U,aa⟩:=ab
   obtain⟨kb,ay,bl⟩:=hm
   cases hb:b1==b with
   |false=>rw[hb]at h; cases h
   |true=>
    rw[hb,cond_true]at h
    have hb:b1=b:=by simpa using hb
    subst hb
    rw[U]at ay
    cases ay
    split at h
    ·rename_i T cs ax
     obtain⟨c9,cE,g1,g2,g3⟩:=ac.aZ _ _ _ ax
     rw[U]at g1
     cases g1
     obtain⟨bf,bI,bi,cz⟩:=uC g3 h
     exact⟨bI,.pure (by simp only[ca,aa,bl,g2,if_pos bf,bi,if_true]),cz⟩
    ·cases h
  ·cases h
 case pq off x=>
  split at h
  ·rename_i e
   have ab:=eD he e
   simp only[Option.some.injEq]at h
   subst h
   simp only[aN]at ab
   obtain⟨y,U,aa⟩:=ab
   exact⟨_,.pure (by simp only[ca,aa]; rfl),by simp only[aN]; exact⟨y,U,rfl⟩⟩
  ·rename_i e
   have ab:=eD he e
   simp only[Option.some.injEq]at h
   subst h
   simp only[aN]at ab
   obtain⟨y,aa,U⟩:=ab
   exact⟨_,.pure (by simp only[ca,aa]; rfl),by simp only[aN]; exact⟨y,rfl,U⟩⟩
  ·cases h
 case field agg off n x=>
  split at h
  ·rename_i e
   have ab:=eD he e
   simp only[aN]at ab
   obtain⟨l,aa,U⟩:=ab
   obtain⟨bf,bI,bi,cz⟩:=uC U h
   exact⟨bI,.pure (by simp only[ca,aa,if_pos bf,bi]),cz⟩
  ·cases h
 case gy size x i=>
  split at h
  ·rename_i l8 rows k n ar ax
   have ab:=eD he ar
   have ad:=eD he ax
   simp only[aN]at ab ad
   obtain⟨l,aa,U⟩:=ab
   cases hs:l8==size with
   |false=>rw[hs]at h; cases h
   |true=>
    rw[hs]at h
    have hs:l8=size:=by simpa using hs
    subst hs
    simp only[cond_true,Option.map_eq_some_iff]at h
    obtain⟨r,g1,rfl⟩:=h
    obtain⟨eV,g2,g3⟩:=cq.get U _ _ g1
    exact⟨_,.py aa ad (Int.natCast_nonneg n) g2,by simp only[aN]; exact⟨_,rfl,g3⟩⟩
  ·rename_i dT l8 rows k n ar ax
   have ab:=eD he ar
   have ad:=eD he ax
   simp only[aN]at ab ad
   obtain⟨y,l,aU,aa,U⟩:=ab
   cases hs:l8==size with
   |false=>rw[hs]at h; cases h
   |true=>
    rw[hs]at h
    have hs:l8=size:=by simpa using hs
    subst hs
    simp only[cond_true,Option.map_eq_some_iff]at h
    obtain⟨r,g1,rfl⟩:=h
    obtain⟨eV,g2,g3⟩:=cq.get U _ _ g1
    exact⟨_,.pw aa ad (Int.natCast_nonneg n) g2,by simp only[aN]; exact⟨_,rfl,g3⟩⟩
  ·cases h
 case oA len size x i=>
  split at h
  ·rename_i b o k n ar ax
   have ab:=eD he ar
   have ad:=eD he ax
   simp only[aN]at ab ad
   obtain⟨y,U,aa⟩:=ab
   simp only[Option.map_eq_some_iff]at h
   obtain⟨j,g1,rfl⟩:=h
   obtain⟨g2,g3,rfl⟩:=ze g1
   exact⟨_,.oY aa ad g2 g3,by simp only[aN]; exact⟨_,U,rfl⟩⟩
  ·rename_i row o k n ar ax
   have ab:=eD he ar
   have ad:=eD he ax
   simp only[aN]at ab ad
   obtain⟨l,aa,U⟩:=ab
   simp only[Option.map_eq_some_iff]at h
   obtain⟨j,g1,rfl⟩:=h
   obtain⟨g2,g3,rfl⟩:=ze g1
   exact⟨_,.px aa ad g2 g3,by simp only[aN]; exact⟨_,rfl,U⟩⟩
  ·cases h
 case kj agg len size x i=>
  split at h
  ·rename_i cs k n ar ax
   have ab:=eD he ar
   have ad:=eD he ax
   simp only[aN]at ab ad
   obtain⟨l,aa,U⟩:=ab
   split at h
   ·rename_i j g1
    obtain⟨g2,g3,rfl⟩:=ze g1
    obtain⟨bf,bI,bi,cz⟩:=uC U h
    exact⟨bI,.kj aa ad g2 g3 bf bi,cz⟩
   ·cases h
  ·cases h
 case ic x i=>
  split at h
  ·rename_i b k n ar ax
   have ab:=eD he ar
   have ad:=eD he ax
   simp only[aN]at ab ad
   simp only[Option.map_eq_some_iff]at h
   obtain⟨c,g1,rfl⟩:=h
   exact⟨_,.ic ab ad (Int.natCast_nonneg n) g1,by simp only[aN]⟩
  ·cases h
 case bin op x y=>exact Zb (lu he x) (lu he y) h
 case rk op x y=>
  split at h
  ·rename_i a b ar ax
   have ab:=eD he ar
   have aV:=eD he ax
   simp only[aN]at ab aV
   refine⟨v,.pure (by simp only[ca,ab,aV]; exact h),?_⟩
   cases op<;>simp only[vX,Option.some.injEq,reduceCtorEq]at h<;>subst h<;>simp only[aN]
  ·cases h
 case j1 neg T aT x y=>
  split at h
  ·rename_i a b ar ax
   have ab:=eD he ar
   have aV:=eD he ax
   simp only[aN]at ab aV
   obtain⟨aH,U,aa⟩:=ab
   obtain⟨fG,ay,bl⟩:=aV
   simp only[Option.map_eq_some_iff]at h
   obtain⟨r,g1,rfl⟩:=h
   exact⟨_,.pure (by simp only[ca,U,ay,Ov aT _ _ _ _ r aa bl g1,Option.map_some]; rfl),by simp only[aN]⟩
  ·cases h
 case not x=>
  split at h
  ·rename_i e
   have ab:=eD he e
   simp only[aN]at ab
   simp only[Option.some.injEq]at h
   subst h
   exact⟨_,.pure (by simp only[ca,ab]; rfl),by simp only[aN]⟩
  ·cases h
 case sJ neg x=>
  split at h
  ·rename_i e
   have ab:=eD he e
   simp only[aN]at ab
   obtain⟨y,U,aa⟩:=ab
   simp only[Option.some.injEq]at h
   subst h
   exact⟨_,.pure (by simp only[ca,aa]; rfl),by simp only[aN]⟩
  ·rename_i e
   have ab:=eD he e
   simp only[aN]at ab
   obtain⟨y,aa,U⟩:=ab
   simp only[Option.some.injEq]at h
   subst h
   exact⟨_,.pure (by simp only[ca,aa]; rfl),by simp only[aN]⟩
  ·rename_i e
   have ab:=eD he e
   simp only[aN]at ab
   simp only[Option.some.injEq]at h
   subst h
   exact⟨_,.pure (by simp only[ca,ab]; rfl),by simp only[aN]⟩
  ·cases h
 case neg x=>
  split at h
  ·rename_i e
   have ab:=eD he e
   simp only[aN]at ab
   simp only[Option.some.injEq]at h
   subst h
   exact⟨_,.pure (by simp only[ca,ab]; rfl),by simp only[aN]⟩
  ·cases h
 case conv k x=>
  split at h
  ·rename_i e
   have ab:=eD he e
   simp only[aN]at ab
   simp only[Option.some.injEq]at h
   subst h
   exact⟨_,.pure (by simp only[ca,ab]; rfl),by simp only[aN]⟩
  ·cases h
 case mT x=>
  split at h
  ·rename_i e
   have ab:=eD he e
   simp only[aN]at ab
   simp only[Option.some.injEq]at h
   subst h
   exact⟨_,.pure (by simp only[ca,ab]; rfl),by simp only[aN]⟩
  ·cases h
 case len x=>
  split at h
  ·rename_i e
   have ab:=eD he e
   simp only[aN]at ab
   obtain⟨l,aa,U⟩:=ab
   simp only[Option.some.injEq]at h
   subst h
   exact⟨_,.pure (by simp only[ca,aa]; rfl),by simp only[aN]; rw[cq.length U]⟩
  ·rename_i e
   have ab:=eD he e
   simp only[aN]at ab
   obtain⟨y,l,aU,aa,U⟩:=ab
   simp only[Option.some.injEq]at h
   subst h
   exact⟨_,.pure (by simp only[ca,aa]; rfl),by simp only[aN]; rw[cq.length U]⟩
  ·rename_i e
   have ab:=eD he e
   simp only[aN]at ab
   simp only[Option.some.injEq]at h
   subst h
   exact⟨_,.pure (by simp only[ca,ab]; rfl),by simp only[aN]⟩
  ·cases h
 case rE n=>
  simp only[Option.some.injEq]at h
  subst h
  exact⟨_,.pure rfl,by simp only[aN]⟩
 case l1 nv xs=>
  have aC:=oQ he xs
  split at h
  ·rename_i a rest e
   rw[e]at aC
   simp only[bk]at aC
   obtain⟨cZ,bm1,cI,U,aa⟩:=aC
   obtain⟨bf,bi⟩:=Qu nv _ _ _ _ v U aa h
   exact⟨v,.pure (by simp only[ca,cI]; exact bf),bi⟩
  ·cases h
 case kE x cJ ad=>
  split at h
  ·rename_i b e
   have ab:=eD he e
   simp only[aN]at ab
   split at h
   ·rename_i l m ar ax
    cases hb:(Nat.ble l m&&Nat.ble m b.length) with
    |false=>rw[hb]at h; cases h
    |true=>
     rw[hb]at h
     simp only[cond_true,Option.some.injEq]at h
     subst h
     simp only[Bool.and_eq_true,Nat.ble_eq]at hb
     exact⟨_,.kE ab (zg he ar) (zg he ax) hb.1 hb.2,by simp only[aN]⟩
   ·cases h
  ·cases h
 case ii size x cJ ad nB=>
  cases nB with
  |some _=>cases h
  |none=>
   simp only at h
   split at h
   ·rename_i rows e
    obtain⟨cc,aa,U⟩:=aW2 (lu he x) e
    split at h
    ·rename_i l m ar ax
     cases hb:(Nat.ble l m&&Nat.ble m rows.length) with
     |false=>rw[hb]at h; cases h
     |true=>
      rw[hb]at h
      simp only[cond_true,Option.some.injEq]at h
      subst h
      simp only[Bool.and_eq_true,Nat.ble_eq]at hb
      obtain⟨nr,gP⟩:=hb
      exact⟨_,.ii aa (zg he ar) (by rw[cq.length U]; exact zg he ax) nr (by rw[cq.length U]; exact gP),by simp only[aN]; exact⟨_,rfl,(U.take _).drop _⟩⟩
    ·cases h
   ·cases h
 case extract i x=>
  split at h
  ·rename_i e
   have ab:=eD he e
   simp only[aN]at ab
   obtain⟨l,aa,U⟩:=ab
   obtain⟨bI,g1,g2⟩:=bk.get U _ _ h
   exact⟨bI,.pure (by simp only[ca,aa]; exact g1),g2⟩
  ·cases h
 case j6 f cap=>
  simp only[Option.some.injEq]at h
  subst h
  exact⟨_,.pure rfl,by simp only[aN]; exact⟨_,rfl,oQ he cap⟩⟩
 case vl f cap=>
  simp only[Option.some.injEq]at h
  subst h
  exact⟨_,.pure rfl,by simp only[aN]; exact⟨_,rfl,oQ he cap⟩⟩
 case kN T x=>
  split at h
  ·rename_i b e
   have ab:=eD he e
   simp only[aN]at ab
   simp only[Option.some.injEq]at h
   subst h
   exact⟨_,.kN ab,by simp only[aN]; exact⟨_,rfl,Ln b⟩⟩
  ·cases h
 case r5 int x=>
  split at h
  ·rename_i k n e
   have ab:=eD he e
   simp only[aN]at ab
   simp only[Option.some.injEq]at h
   subst h
   exact⟨_,.pure (by simp only[ca,ab]; rfl),by simp only[aN]⟩
  ·rename_i rows e
   have ab:=eD he e
   simp only[aN]at ab
   obtain⟨l,aa,U⟩:=ab
   cases hb:mn rows with
   |none=>simp [hb]at h
   |some b=>
    simp only[hb,Option.map_some,Option.some.injEq]at h
    subst h
    exact⟨_,.pure (by simp only[ca,aa,FN hb U]; rfl),by simp only[aN]⟩
  ·rename_i t rows e
   have ab:=eD he e
   simp only[aN]at ab
   obtain⟨y,l,aU,aa,U⟩:=ab
   cases hb:mn rows with
   |none=>simp [hb]at h
   |some b=>
    simp only[hb,Option.map_some,Option.some.injEq]at h
    subst h
    exact⟨_,.pure (by simp only[ca,aa,FN hb U]; rfl),by simp only[aN]⟩
  ·rename_i n c e
   have ab:=eD he e
   simp only[aN]at ab
   simp only[Option.some.injEq]at h
   subst h
   exact⟨.str [],.pure (by simp only[ca,ab]),by simp only[aN]⟩
  ·cases h
 case qM T x=>
  simp only[Option.some.injEq]at h
  subst h
  exact⟨_,.pure rfl,by simp only[aN]; exact⟨_,rfl,lu he x⟩⟩
 case qH neg x=>
  split at h
  ·rename_i e
   have ab:=eD he e
   simp only[aN]at ab
   simp only[Option.some.injEq]at h
   subst h
   exact⟨_,.wO ab,by simp only[aN]⟩
  ·rename_i e
   have ab:=eD he e
   simp only[aN]at ab
   obtain⟨l,aa,U⟩:=ab
   simp only[Option.some.injEq]at h
   subst h
   refine⟨_,.wN aa (fun a8=> ?_),by simp only[aN]⟩
   subst a8
   simpa using cq.length U
  ·cases h
 case iq x=>
  split at h
  ·rename_i t ver e
   have ab:=eD he e
   simp only[aN]at ab
   obtain⟨y,U,aa⟩:=ab
   split at h
   ·rename_i T size hY rows ax
    cases ae:hY==ver with
    |false=>rw[ae]at h; cases h
    |true=>
     rw[ae]at h
     simp only[cond_true,Option.some.injEq]at h
     subst h
     have ae:=EB ae
     subst ae
     obtain⟨z,l,g1,g2,g3⟩:=ac.bA ax
     rw[U]at g1
     cases g1
     exact⟨_,.iq aa g2,by simp only[aN]; rw[cq.length g3]⟩
   ·cases h
  ·cases h
 case ji ok z x k=>
  split at h
  ·rename_i t ver q e cI
   have ab:=eD he e
   have aw:=eD he cI
   simp only[aN]at ab aw
   obtain⟨y,U,aa⟩:=ab
   split at h
   ·rename_i T hY rows ax
    cases ae:(hY==ver&&b7 [z]) with
    |false=>rw[ae]at h; cases h
    |true=>
     rw[ae]at h
     simp only[cond_true]at h
     simp only[Bool.and_eq_true]at ae
     obtain⟨ae,aG⟩:=ae
     have ae:=EB ae
     subst ae
     obtain⟨w,l,g1,g2,g3⟩:=ac.bb ax
     rw[U]at g1
     cases g1
     cases hm:ny q rows with
     |none=>rw[hm]at h; cases h
     |some r=>
      rw[hm]at h
      simp only[Option.map_some,Option.some.injEq]at h
      subst h
      rcases Qo q rows l r g3 hm with ⟨rfl,f2⟩|⟨Kk,Kl,rfl,f2,f3⟩
      ·exact⟨_,.ji aa g2 aw f2,Ig aG (.inl ⟨rfl,rfl⟩)⟩
      ·exact⟨_,.ji aa g2 aw f2,Ig aG (.inr ⟨_,_,rfl,rfl,f3⟩)⟩
   ·cases h
  ·rename_i q e cI
   have ab:=eD he e
   have aw:=eD he cI
   simp only[aN]at ab aw
   cases aG:b7 [z] with
   |false=>rw[aG]at h; cases h
   |true=>
    rw[aG]at h
    simp only[cond_true,Option.some.injEq]at h
    subst h
    exact⟨_,.rF ab aw,Ig aG (.inl ⟨rfl,rfl⟩)⟩
  ·cases h
 case jJ off x=>
  split at h
  ·rename_i t ver k e
   have ab:=eD he e
   simp only[aN]at ab
   obtain⟨y,U,aa⟩:=ab
   split at h
   ·rename_i T size hY rows ax
    cases ae:hY==ver with
    |false=>rw[ae]at h; cases h
    |true=>
     rw[ae]at h
     simp only[cond_true,Option.some.injEq]at h
     subst h
     have ae:=EB ae
     subst ae
     obtain⟨z,l,g1,g2,g3⟩:=ac.bA ax
     rw[U]at g1
     cases g1
     exact⟨_,.jJ aa g2,by simp only[aN]; exact⟨_,U,rfl⟩⟩
   ·cases h
  ·cases h
 case jr size x i=>
  split at h
  ·rename_i t ver k n e ar
   have ab:=eD he e
   have ad:=eD he ar
   simp only[aN]at ab ad
   obtain⟨y,U,aa⟩:=ab
   split at h
   ·rename_i T l8 hY rows ax
    cases ae:(hY==ver&&l8==size) with
    |false=>rw[ae]at h; cases h
    |true=>
     rw[ae]at h
     simp only[cond_true,Option.map_eq_some_iff]at h
     simp only[Bool.and_eq_true,beq_iff_eq]at ae
     obtain⟨rfl,rfl⟩:=ae
     obtain⟨j,bf,rfl⟩:=h
     obtain⟨z,l,g1,g2,g3⟩:=ac.bA ax
     rw[U]at g1
     cases g1
     obtain⟨bi,cz,rfl⟩:=ze bf
     exact⟨_,.jr aa g2 ad bi (by rw[cq.length g3]; exact cz),by simp only[aN]; exact⟨_,U,rfl⟩⟩
   ·cases h
  ·cases h
 case j5 agg n x=>
  split at h
  ·rename_i t ver k e
   have ab:=eD he e
   simp only[aN]at ab
   obtain⟨y,U,aa⟩:=ab
   split at h
   ·rename_i T size hY rows ax
    cases ae:hY==ver with
    |false=>rw[ae]at h; cases h
    |true=>
     rw[ae]at h
     simp only[cond_true]at h
     have ae:=EB ae
     subst ae
     obtain⟨z,l,g1,g2,g3⟩:=ac.bA ax
     rw[U]at g1
     cases g1
     obtain⟨bf,bI,bi,cz⟩:=uC g3.flatten h
     exact⟨bI,.j5 aa g2 bf bi,cz⟩
   ·cases h
  ·cases h
 case da T size n zero parts=>
  cases aq:((parts.map fun p=>bp env p.2).all I.fk&&(((parts.map fun p=>bp env p.2).map I.cells).all (fun r=>r.length==size)&&((parts.map fun p=>bp env p.2).map I.cells).flatten.all I.one)) with
  |false=>rw[aq]at h; cases h
  |true=>
   rw[aq,cond_true,Option.some.injEq]at h
   subst h
   rw[Bool.and_eq_true,Bool.and_eq_true]at aq
   obtain⟨U,aa,ay⟩:=aq
   have hb:=FK he parts U
   exact⟨_,.pT rfl (hb.Jw aa) (hb.flatten.zS ay),by simp only[aN]; exact⟨_,rfl,hb⟩⟩
structure aQ where
 H:aA
 b4:Nat
 bj:Nat
def aQ.new:aQ:=⟨.none,0,0⟩
def aQ.q9 (c:aQ) (T:TypeId) (cs:List I):aQ:=⟨c.H.cp c.b4 T cs,c.b4+1,c.bj⟩
def aQ.hz (c:aQ) (o:cb):aQ:=⟨c.H.cj c.bj o,c.b4,c.bj+1⟩
def aQ.cp (c:aQ) (b:Nat) (T:TypeId) (cs:List I):aQ:=⟨c.H.cp b T cs,c.b4,c.bj⟩
def aQ.cj (c:aQ) (t:Nat) (o:cb):aQ:=⟨c.H.cj t o,c.b4,c.bj⟩
structure fi (H0:aA) (s:bC) (c:aQ) (H:aA):Prop extends HR H0 s c.H H where
 b4:c.b4=s.b.length
 bj:c.bj=s.t.length
section
variable {P:Program}{s:bC}{env bd:Env}{H0 H:aA}{c:aQ}
theorem iz.mono {b5:bC}(e:bC.e8 s b5){i dB:cb}(h:iz s i dB):iz b5 i dB:=by
 obtain⟨U,aa,ay,bl,bW⟩:=h
 refine⟨U,aa,ay,bl,?_⟩
 cases aq:i.lU with
 |none=>rw[aq]at bW; exact bW
 |some rows=>rw[aq]at bW; obtain⟨l,ar,ax⟩:=bW; exact⟨l,ar,cq.mono e _ _ ax⟩
theorem zu {l:List Nat}{x i y:Nat}(h:(l++[x])[i]? =some y):l[i]? =some y∨(i=l.length∧y=x):=by
 by_cases ad:i<l.length
 ·rw[List.getElem?_append_left ad]at h
  exact .inl h
 ·rw[List.getElem?_append_right (by omega)]at h
  by_cases aU:i=l.length
  ·subst aU
   simp at h
   exact .inr ⟨rfl,h.symm⟩
  ·have:i-l.length=(i-l.length-1)+1:=by omega
   rw[this]at h
   simp at h
theorem Df {l:List Nat}{x i y:Nat}(h:l[i]? =some y):(l++[x])[i]? =some y:=by
 have ad:i<l.length:=(List.getElem?_eq_some_iff.1 h).1
 rw[List.getElem?_append_left ad,h]
theorem pf {l:List Nat}{x:Nat}:(l++[x])[l.length]? =some x:=by simp
theorem bC.B6 (s:bC) (x:Nat):bC.e8 s ⟨s.b++[x],s.t⟩:=⟨fun _ _ h=>Df h,fun _ _ h=>h⟩
theorem bC.lF (s:bC) (x:Nat):bC.e8 s ⟨s.b,s.t++[x]⟩:=⟨fun _ _ h=>h,fun _ _ h=>Df h⟩
theorem fi.q9 (h:fi H0 s c H){T:TypeId}{cs cE:List I}(aq:bk s cs cE){x:Nat}(ab:H.aZ x=none):fi H0 ⟨s.b++[x],s.t⟩ (c.q9 T cs) (H.cp x T cE) where
 base:=h.base.cp (h.base.yk ab)
 aZ:=fun b cO l hb=>by
  simp only[aQ.q9,aA.cp]at hb
  split at hb
  ·rename_i e
   subst e
   cases hb
   exact⟨x,cE,by rw[h.b4]; exact pf,by simp [aA.cp],bk.mono (bC.B6 s x) _ _ aq⟩
  ·obtain⟨y,cc,g1,g2,g3⟩:=h.aZ b cO l hb
   refine⟨y,cc,Df g1,?_,bk.mono (bC.B6 s x) _ _ g3⟩
   simp only[aA.cp]
   rw[if_neg (by intro e; subst e; rw[ab]at g2; cases g2)]
   exact g2
 tok:=fun t i hb=>by
  obtain⟨y,dB,g1,g2,g3⟩:=h.tok t i hb
  exact⟨y,dB,g1,g2,g3.mono (bC.B6 s x)⟩
 l4:=fun b y hb=>by
  rcases zu hb with g|⟨_,rfl⟩
  ·obtain⟨g1,z,g2⟩:=h.l4 b y g
   refine⟨g1,z,?_⟩
   simp only[aA.cp]
   rw[if_neg (by intro e; subst e; rw[ab]at g2; cases g2)]
   exact g2
  ·exact⟨h.base.yk ab,(T,cE),by simp [aA.cp]⟩
 lG:=fun t y hb=>h.lG t y hb
 mR:=fun b b1 y U aa=>by
  rcases zu U with g|⟨ar,rfl⟩<;>rcases zu aa with g'|⟨ax,bU⟩
  ·exact h.mR b b1 y g g'
  ·subst bU
   obtain⟨_,z,g2⟩:=h.l4 b _ g
   rw[ab]at g2
   cases g2
  ·obtain⟨_,z,g2⟩:=h.l4 b1 _ g'
   rw[ab]at g2
   cases g2
  ·omega
 oa:=h.oa
 b4:=by simp [aQ.q9,h.b4]
 bj:=h.bj
theorem fi.hz (h:fi H0 s c H){o o':cb}(aq:iz s o o'){x:Nat}(ab:H.tok x=none):fi H0 ⟨s.b,s.t++[x]⟩ (c.hz o) (H.cj x o') where
 base:=h.base.cj (h.base.QR ab)
 tok:=fun b i hb=>by
  simp only[aQ.hz,aA.cj]at hb
  split at hb
  ·rename_i e
   subst e
   cases hb
   exact⟨x,o',by rw[h.bj]; exact pf,by simp [aA.cj],aq.mono (bC.lF s x)⟩
  ·obtain⟨y,cc,g1,g2,g3⟩:=h.tok b i hb
   refine⟨y,cc,Df g1,?_,g3.mono (bC.lF s x)⟩
   simp only[aA.cj]
   rw[if_neg (by intro e; subst e; rw[ab]at g2; cases g2)]
   exact g2
 aZ:=fun t T i hb=>by
  obtain⟨y,dB,g1,g2,g3⟩:=h.aZ t T i hb
  exact⟨y,dB,g1,g2,bk.mono (bC.lF s x) _ _ g3⟩
 lG:=fun b y hb=>by
  rcases zu hb with g|⟨_,rfl⟩
  ·obtain⟨g1,z,g2⟩:=h.lG b y g
   refine⟨g1,z,?_⟩
   simp only[aA.cj]
   rw[if_neg (by intro e; subst e; rw[ab]at g2; cases g2)]
   exact g2
  ·exact⟨h.base.QR ab,o',by simp [aA.cj]⟩
 l4:=fun t y hb=>h.l4 t y hb
 oa:=fun b b1 y U aa=>by
  rcases zu U with g|⟨ar,rfl⟩<;>rcases zu aa with g'|⟨ax,bU⟩
  ·exact h.oa b b1 y g g'
  ·subst bU
   obtain⟨_,z,g2⟩:=h.lG b _ g
   rw[ab]at g2
   cases g2
  ·obtain⟨_,z,g2⟩:=h.lG b1 _ g'
   rw[ab]at g2
   cases g2
  ·omega
 mR:=h.mR
 b4:=h.b4
 bj:=by simp [aQ.hz,h.bj]
theorem fi.cp (h:fi H0 s c H){b x:Nat}(hb:s.b[b]? =some x){T:TypeId}{cs cE:List I}(aq:bk s cs cE):fi H0 s (c.cp b T cs) (H.cp x T cE) where
 base:=h.base.cp (h.l4 b x hb).1
 aZ:=fun b1 cO l ia=>by
  simp only[aQ.cp,aA.cp]at ia
  split at ia
  ·rename_i e
   subst e
   cases ia
   exact⟨x,cE,hb,by simp [aA.cp],aq⟩
  ·rename_i e3
   obtain⟨y,cc,g1,g2,g3⟩:=h.aZ b1 cO l ia
   refine⟨y,cc,g1,?_,g3⟩
   simp only[aA.cp]
   rw[if_neg (by intro e; subst e; exact e3 (h.mR _ _ _ g1 hb))]
   exact g2
 tok:=h.tok
 l4:=fun b1 y ia=>by
  obtain⟨g1,z,g2⟩:=h.l4 b1 y ia
  refine⟨g1,?_⟩
  simp only[aA.cp]
  split
  ·exact⟨_,rfl⟩
  ·exact⟨z,g2⟩
 lG:=h.lG
 mR:=h.mR
 oa:=h.oa
 b4:=h.b4
 bj:=h.bj
theorem fi.cj (h:fi H0 s c H){b x:Nat}(hb:s.t[b]? =some x){o o':cb}(aq:iz s o o'):fi H0 s (c.cj b o) (H.cj x o') where
 base:=h.base.cj (h.lG b x hb).1
 tok:=fun b1 l ia=>by
  simp only[aQ.cj,aA.cj]at ia
  split at ia
  ·rename_i e
   subst e
   cases ia
   exact⟨x,o',hb,by simp [aA.cj],aq⟩
  ·rename_i e3
   obtain⟨y,cc,g1,g2,g3⟩:=h.tok b1 l ia
   refine⟨y,cc,g1,?_,g3⟩
   simp only[aA.cj]
   rw[if_neg (by intro e; subst e; exact e3 (h.oa _ _ _ g1 hb))]
   exact g2
 aZ:=h.aZ
 lG:=fun b1 y ia=>by
  obtain⟨g1,z,g2⟩:=h.lG b1 y ia
  refine⟨g1,?_⟩
  simp only[aA.cj]
  split
  ·exact⟨_,rfl⟩
  ·exact⟨z,g2⟩
 l4:=h.l4
 mR:=h.mR
 oa:=h.oa
 b4:=h.b4
 bj:=h.bj
theorem fi.start (H:aA):fi H ⟨[],[]⟩ .new H where
 base:=HSub.refl H
 aZ:=fun _ _ _ h=>by cases h
 tok:=fun _ _ h=>by cases h
 l4:=fun _ _ h=>by simp at h
 lG:=fun _ _ h=>by simp at h
 mR:=fun _ _ _ h=>by simp at h
 oa:=fun _ _ _ h=>by simp at h
 b4:=rfl
 bj:=rfl
theorem sR: ∀(b:List UInt8),eN (b.map fun c=>[I.int .u8 c.toNat])=true
 |[]=>rfl
 | _::b=>by simp only[List.map_cons,eN,b7,I.flat,sR b]; rfl
theorem UL {size:Nat}{a cZ:I}{rows:List (List I)}(h:aN s a cZ) (ac:rowsOf size a=some rows): ∃rows',rowsOf size cZ=some rows'∧cq s rows rows':=by
 cases a<;>simp only[rowsOf,reduceCtorEq]at ac
 case str b=>
  simp only[aN]at h
  subst h
  refine⟨rows,ac,?_⟩
  split at ac
  ·simp only[Option.some.injEq]at ac
   subst ac
   exact (p1 _ (sR b) _).2 rfl
  ·cases ac
 case ev v=>
  simp only[aN]at h
  subst h
  refine⟨rows,ac,?_⟩
  split at ac
  ·rename_i e
   cases e
  ·rename_i e
   cases e
  ·cases ac
   simp [cq]
  ·rename_i e
   cases e
  ·cases ac
 case af n l=>
  simp only[aN]at h
  obtain⟨cc,rfl,U⟩:=h
  split at ac
  ·rename_i e
   simp only[Option.some.injEq]at ac
   subst ac
   exact⟨cc,by simp only[rowsOf,if_pos e],U⟩
  ·cases ac
 case own t n l=>
  simp only[aN]at h
  obtain⟨x,cc,aU,rfl,U⟩:=h
  split at ac
  ·rename_i e
   simp only[Option.some.injEq]at ac
   subst ac
   exact⟨cc,by simp only[rowsOf,if_pos e],U⟩
  ·cases ac
end
mutual
def I.aM:I→I
 | .own _ n rows=> .af n rows
 | .agg cs=> .agg (lj cs)
 | .cT cs=> .cT (lj cs)
 | .eX=> .eX
 | .bool b=> .bool b
 | .int k n=> .int k n
 | .str b=> .str b
 | .ev v=> .ev v
 | .ptr b o=> .ptr b o
 | .af n rows=> .af n rows
 | .c6 t v=> .c6 t v
 | .mp t v k=> .mp t v k
 | .eK r o=> .eK r o
 | .fn f c=> .fn f c
 | .iE t v=> .iE t v
def lj:List I→List I
 |[]=>[]
 |a::az=>a.aM::lj az
end
mutual
theorem CV {s:bC}{m:Mem}: ∀(a cZ:I),aN s a cZ→a.aM.flat=true→∀v,aP m cZ v→aP m a.aM v
 | .own t n rows,cZ,h,hf,v,ae=>by
  simp only[I.aM,I.flat]at hf ⊢
  simp only[aN]at h
  obtain⟨x,l,_,rfl,U⟩:=h
  have:=(p1 rows hf l).1 U
  subst this
  simp only[aP]at ae ⊢
  exact ae.1
 | .agg cs,cZ,h,hf,v,ae=>by
  simp only[I.aM,I.flat]at hf ⊢
  simp only[aN]at h
  obtain⟨l,rfl,U⟩:=h
  simp only[aP]at ae ⊢
  obtain⟨sE,ar,ax⟩:=ae
  exact⟨sE,ar,Kh cs l U hf sE ax⟩
 | .cT cs,cZ,h,hf,v,ae=>by
  simp only[I.aM,I.flat]at hf ⊢
  simp only[aN]at h
  obtain⟨l,rfl,U⟩:=h
  simp only[aP]at ae ⊢
  obtain⟨sE,ar,ax⟩:=ae
  exact⟨sE,ar,Kh cs l U hf sE ax⟩
 | .eX,cZ,h,hf,v,ae=>by simp only[I.aM,aP]
 | .bool b,cZ,h,hf,v,ae=>by simp only[I.aM]at hf ⊢; rw[I.lX _ hf]at h; subst h; exact ae
 | .int k n,cZ,h,hf,v,ae=>by simp only[I.aM]at hf ⊢; rw[I.lX _ hf]at h; subst h; exact ae
 | .str b,cZ,h,hf,v,ae=>by simp only[I.aM]at hf ⊢; rw[I.lX _ hf]at h; subst h; exact ae
 | .ev b,cZ,h,hf,v,ae=>by simp only[I.aM]at hf ⊢; rw[I.lX _ hf]at h; subst h; exact ae
 | .ptr b o,cZ,h,hf,v,ae=>by simp only[I.aM,I.flat]at hf; cases hf
 | .af n rows,cZ,h,hf,v,ae=>by simp only[I.aM]at hf ⊢; rw[I.lX _ hf]at h; subst h; exact ae
 | .c6 t ver,cZ,h,hf,v,ae=>by simp only[I.aM,I.flat]at hf; cases hf
 | .mp t ver k,cZ,h,hf,v,ae=>by simp only[I.aM,I.flat]at hf; cases hf
 | .eK r o,cZ,h,hf,v,ae=>by simp only[I.aM]at hf ⊢; rw[I.lX _ hf]at h; subst h; exact ae
 | .fn f c,cZ,h,hf,v,ae=>by simp only[I.aM]at hf ⊢; rw[I.lX _ hf]at h; subst h; exact ae
 | .iE t x,cZ,h,hf,v,ae=>by simp only[I.aM]at hf ⊢; rw[I.lX _ hf]at h; subst h; exact ae
theorem Kh {s:bC}{m:Mem}: ∀(az l:List I),bk s az l→b7 (lj az)=true→∀sE,aR m l sE→aR m (lj az) sE
 |[],l,h,_,sE,ae=>by
  simp only[bk]at h
  subst h
  simpa only[lj] using ae
 |a::az,l,h,hf,sE,ae=>by
  simp only[bk]at h
  obtain⟨cZ,cc,rfl,U,aa⟩:=h
  simp only[lj,b7,Bool.and_eq_true]at hf ⊢
  simp only[aR]at ae ⊢
  obtain⟨v,af,ar,ax,bU⟩:=ae
  exact⟨v,af,ar,CV a cZ U hf.1 v ax,Kh az cc aa hf.2 af bU⟩
end
theorem Ki {s:bC}: ∀(az l:List I),bk s az l→b7 (lj az)=true→eo l (lj az)
 |[],l,h,_=>by
  simp only[bk]at h
  subst h
  simp only[lj,eo]
 |a::az,l,h,hf=>by
  simp only[bk]at h
  obtain⟨cZ,cc,rfl,U,aa⟩:=h
  simp only[lj,b7,Bool.and_eq_true]at hf ⊢
  simp only[eo]
  exact⟨_,_,rfl,fun m v ae=>CV a cZ U hf.1 v ae,Ki az cc aa hf.2⟩
def r6 (env:Env) (parts:List (Nat×aJ)):List (List I):=(parts.map fun p=>bp env p.2).map I.cells
def tz (env:Env) (size:Nat) (parts:List (Nat×aJ)):Bool:=(parts.map fun p=>bp env p.2).all I.fk&&((r6 env parts).all (fun r=>r.length==size)&&((r6 env parts).flatten.all I.one&& !(size==0)))
abbrev yR:=FuncId→List I→aQ→Option (I×aQ)
def chunks (size:Nat):Nat→List I→List (List I)
 |0,_=>[]
 |n+1,l=>l.take size::chunks size n (l.drop size)
theorem LU (size:Nat): ∀(n:Nat) (l:List I),l.length=n*size→(chunks size n l).flatten=l∧(∀r∈chunks size n l,r.length=size)∧(chunks size n l).length=n
 |0,l,h=>by
  have:l=[]:=List.length_eq_zero_iff.1 (by omega)
  subst this
  simp [chunks]
 |n+1,l,h=>by
  have hs:size≤l.length:=by rw[h,Nat.add_mul]; omega
  obtain⟨ar,ax,bU⟩:=LU size n (l.drop size) (by rw[List.length_drop,h,Nat.add_mul]; omega)
  refine⟨by simp only[chunks,List.flatten_cons,ar,List.take_append_drop],fun r ac=> ?_,by simp only[chunks,List.length_cons,bU]⟩
  simp only[chunks,List.mem_cons]at ac
  rcases ac with rfl|ac
  ·rw[List.length_take]; omega
  ·exact ax r ac
theorem LV {s:bC}(size:Nat): ∀(n:Nat) (l cc:List I),bk s l cc→cq s (chunks size n l) (chunks size n cc)
 |0,_,_,_=>by simp [chunks,cq]
 |n+1,l,cc,h=>by simp only[chunks,cq]; exact⟨_,_,rfl,h.take size,LV size n _ _ (h.drop size)⟩
def wb (c:aQ) (b o n:Nat) (x:I):Option (I×aQ):=
 match c.H.aZ b with
 |some (T,cs)=>bif (x.fk&&x.cells.length==n)&&(Nat.ble (o+n) cs.length&&x.cells.all I.one) then some (.undef,c.cp b T (gj cs o x.cells)) else none
 |none=>none
def zi (c:aQ) (t ver k n:Nat) (x:I):Option (I×aQ):=
 match c.H.tok t with
 |some ⟨T,size,0,hY,some rows⟩=>
  bif (hY==ver&&(x.fk&&x.cells.length==n))&&((Nat.ble (k+n) rows.flatten.length&&x.cells.all I.one)&&rows.flatten.length==rows.length*size) then some (.undef,c.cj t (.bA T size ver (chunks size rows.length (gj rows.flatten k x.cells)))) else none
 | _=>none
def F0 (c:aQ) (T size bytes:Nat) (x:I) (new:List (List I)):Option (I×aQ):=
 match x with
 | .ev (.slice none 0 0)=>bif Nat.ble (new.length*bytes) 140737488355328&&(Nat.ble new.length maxLen&& !(size==0)) then some (.own c.bj size new,c.hz (.bX T size new.length)) else none
 | .own t l8 rows=>match c.H.tok t with
  |some ⟨cO,z,n,ver,none⟩=>bif (cO==T&&(z==size&&(n==rows.length&&(ver==rows.length&&l8==size))))&&(Nat.ble ((rows.length+new.length)*bytes) 140737488355328&&Nat.ble (rows.length+new.length) maxLen) then some (.own t size (rows++new),c.cj t (.bX T size (rows.length+new.length))) else none
  | _=>none
 | _=>none
def F1 (c:aQ) (T size bytes:Nat) (x:I) (new:List (List I)):Option (I×aQ):=
 match x with
 | .ev (.slice none 0 0)=>bif Nat.ble (new.length*bytes) 140737488355328&&(Nat.ble new.length maxLen&& !(size==0)) then some (.c6 c.bj 0,c.hz (.bA T size 0 new)) else none
 | .c6 t ver=>match c.H.tok t with
  |some ⟨cO,z,0,hY,some rows⟩=>bif (cO==T&&(z==size&&hY==ver))&&(Nat.ble ((rows.length+new.length)*bytes) 140737488355328&&Nat.ble (rows.length+new.length) maxLen) then some (.c6 t (ver+1),c.cj t (.bA T size (ver+1) (rows++new))) else none
  | _=>none
 | _=>none
def Gc (c:aQ) (env:Env) (size t ver:Nat) (cJ ad:Option aJ):Option (I×aQ):=
 match c.H.tok t with
 |some ⟨T,l8,0,hY,some rows⟩=>match pk env 0 cJ,pk env rows.length ad with
  |some q,some h=>bif (hY==ver&&l8==size)&&(Nat.ble h rows.length&&Nat.ble q h) then some (.c6 t (ver+1),c.cj t (.bA T size (ver+1) ((rows.take h).drop q))) else none
  | _,_=>none
 | _=>none
def F9 (c:aQ) (t ver:Nat) (s:List UInt8) (v:I):Option (I×aQ):=
 match c.H.tok t with
 |some ⟨T,2,1,hY,some rows⟩=>bif hY==ver&&v.one then (l2 s v rows).map fun r=>(.undef,c.cj t (.bb T ver r)) else none
 | _=>none
def eZ (env:Env) (b j:Nat):Bool:=
 match env.get j with
 | .ptr iM 0=> !(iM==b)
 | _=>false
def ms (cvs:List FuncId) (cl:yR) (op:bg) (env:Env) (c:aQ):Option (I×aQ):=
 match op with
 | .box T x=>bif (bp env x).fk&&(bp env x).cells.all I.one then some (.ptr c.b4 0,c.q9 T (bp env x).cells) else none
 | .alloc T zero=>bif b7 zero&&zero.all I.one then some (.ptr c.b4 0,c.q9 T zero) else none
 | .nV T size n zero parts=>bif tz env size parts then some (.own c.bj size (r6 env parts),c.hz (.bX T size (r6 env parts).length)) else none
 | .nU T size n zero parts=>bif tz env size parts then some (.c6 c.bj 0,c.hz (.bA T size 0 (r6 env parts))) else none
 | .o0 T size bytes zero x=>match bp env x with
  | .int _ (.ofNat n)=>bif Nat.ble (bytes*n) 281474976710656&&(Nat.ble n maxLen&&(b7 zero&&(zero.all I.one&&(zero.length==size&& !(size==0))))) then some (.c6 c.bj 0,c.hz (.bA T size 0 (List.replicate n zero))) else none
  | _=>none
 | .mkMap T=>some (.c6 c.bj 0,c.hz (.bb T 0 []))
 | .append T size bytes x y=>match rowsOf size (bp env y) with
  |some new=>F0 c T size bytes (bp env x) new
  |none=>none
 | .nj T size bytes x y=>match rowsOf size (bp env y) with
  |some new=>F1 c T size bytes (bp env x) new
  |none=>none
 | .oI size x cJ ad=>match bp env x with
  | .c6 t ver=>Gc c env size t ver cJ ad
  | _=>none
 | .store n a v=>match bp env a with
  | .ptr b o=>wb c b o n (bp env v)
  | .mp t ver k=>zi c t ver k n (bp env v)
  | _=>none
 | .hP fv others n a v=>match env.get fv,bp env a with
  | .ptr b 0,.ptr b1 o=>bif b1==b&&others.all (eZ env b) then wb c b o n (bp env v) else none
  | _,_=>none
 | .oZ x k v=>match bp env x,bp env k with
  | .c6 t ver,.str s=>F9 c t ver s (bp env v)
  | _,_=>none
 | .call f args=>cl f (args.map (bp env)) c
 | .gT x args=>match bp env x with
  | .fn f cap=>bif cvs.contains f then cl f (args.map (bp env)++cap) c else bif Nat.ble ke f&&cvs.contains (f-ke) then cl (f-ke) (cap++args.map (bp env)) c else none
  | _=>none
 |op=>(fN op env c.H).map fun v=>(v,c)
end Go.aO
