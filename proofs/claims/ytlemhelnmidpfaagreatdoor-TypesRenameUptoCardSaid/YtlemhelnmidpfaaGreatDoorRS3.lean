/- Part of a proof; own work. -/
import Derived.Test.YtlemhelnmidpfaaGreatDoorRS2
set_option linter.unusedVariables false
set_option linter.unusedSimpArgs false
open Bool renaming and_eq_true→bb6,not_eq_true'→bg6,and_true→be0,and_self→bc0,or_eq_true→bm0,true_and→bc7
open Int renaming toNat_natCast→bi8
open List renaming replicate→bc9,length_take→be9,all_eq_true→bj8,map_cons→bd4,getElem?_take→be8,getD_eq_getElem?_getD→be7,getElem?_map→bi0,mem_of_getElem?→bc2,mem_of_find?_eq_some→bs6,length_map→bb5,ext_getElem?→bo6,getElem?_eq_none→bj7,getElem?_of_mem→bf4,mem_cons→be4,contains_cons→bg3,find?→bu1,filter→bl9,all_cons→bd3,length_append→bb7,length_drop→bl7,length_nil→bc4,length_cons→bb9
open Nat renaming ble→be1,ble_eq→bj9,le_of_ble_eq_true→bh6,zero_le→bc3,blt→bf8,blt_eq→bo3,ble_eq_true_of_le→bh2,le_refl→bc1,reduceBEq→bl3,reduceAdd→bl4
open Option renaming map_eq_some_iff→bf2
namespace Go.ba
open Go
def TY (P:Program) (cl:wu):Prop:=∀f az c v cJ,cl f az c=some (v,cJ)→∀H0 s iF H,bk s az iF→eR H0 s c H→jE P f iF H fun o aC=> ∃bR bD,bx.eH s bR∧o= .ret bD∧aM bR v bD∧eR H0 bR cJ aC
variable {P:Program}{s:bx}{env bb:Env}{H0 H:aA}{c cJ:aN}{K Rp:I→aA→Prop}{v:I}
theorem h8.bY {T size n:Nat}:h8 s (.bY T size n) (.bY T size n):=⟨rfl,rfl,rfl,rfl,rfl⟩
theorem h8.bC {T size aU:Nat}{rows dT:List (List I)}(h:cd s rows dT):h8 s (.bC T size aU rows) (.bC T size aU dT):=⟨rfl,rfl,rfl,rfl,dT,rfl,h⟩
theorem h8.be {T aU:Nat}{rows dT:List (List I)}(h:cd s rows dT):h8 s (.be T aU rows) (.be T aU dT):=⟨rfl,rfl,rfl,rfl,dT,rfl,h⟩
theorem dZ.sZ: ∀(l:List I),dZ l l
 |[]=>by simp only[dZ]
 |a::l=>by simp only[dZ]; exact⟨_,_,rfl,c5.refl a,dZ.sZ l⟩
theorem Ju (he:hP s env bb){size:Nat}{parts:List (Nat×aJ)}(h:rs env size parts=true):cd s (qv env parts) (j7 bb parts)∧(j7 bb parts).all (fun r=>r.length==size)=true∧(j7 bb parts).flatten.all I.one=true∧size≠0:=by
 simp only[rs,bb6,bg6,beq_eq_false_iff_ne]at h
 obtain⟨U,aa,aD,bA⟩:=h
 have hb:=Dt he parts U
 exact⟨hb,cd.G1 hb aa,bk.xD (cd.flatten hb) aD,bA⟩
theorem cd.aG6 {size n:Nat}{zero:List I}(h:b2 zero=true):cd s (bc9 n zero) (bc9 n zero):=by
 induction n with
 |zero=>simp [cd]
 |succ n b7=>simp only[List.replicate_succ,cd]; exact⟨_,_,rfl,(mM zero h _).2 rfl,b7⟩
theorem Jz {b o n x:Nat}{a cI:I}(aS:aM s a cI) (hb:s.b[b]? =some x) (ac:eR H0 s c H) (h:tw c b o n a=some (v,cJ)): ∃T cs,H.aY x=some (T,cs)∧cI.cells.length=n∧o+n≤cs.length∧cI.cells.all I.one=true∧v= .undef∧eR H0 s cJ (H.cp x T (gg cs o cI.cells)):=by
 unfold tw at h
 split at h
 ·rename_i T cs e
  obtain⟨y,cC,g1,g2,g3⟩:=ac.aY _ _ _ e
  rw[hb]at g1
  cases g1
  cases an:((a.ea&&a.cells.length==n)&&(be1 (o+n) cs.length&&a.cells.all I.one)) with
  |false=>rw[an]at h; cases h
  |true=>
   rw[an]at h
   simp only[cond_true,Option.some.injEq,Prod.mk.injEq]at h
   obtain⟨rfl,rfl⟩:=h
   simp only[bb6,beq_iff_eq,bj9]at an
   obtain⟨⟨U,aa⟩,aD,bA⟩:=an
   obtain⟨br,bB⟩:=aS.ea U
   exact⟨T,cC,g2,by rw[bk.length bB,aa],by rw[bk.length g3]; exact aD,bk.xD bB bA,rfl,ac.cp hb (g3.gg bB o)⟩
 ·cases h
theorem XM {t aU k n x:Nat}{a cI:I}(aS:aM s a cI) (aL:s.t[t]? =some x) (ac:eR H0 s c H) (h:yx c t aU k n a=some (v,cJ)): ∃T size rows dT,H.tok x=some (.bC T size aU rows)∧cI.cells.length=n∧k+n≤rows.flatten.length∧cI.cells.all I.one=true∧dT.flatten=gg rows.flatten k cI.cells∧(∀r∈dT,r.length=size)∧dT.length=rows.length∧v= .undef∧eR H0 s cJ (H.ck x (.bC T size aU dT)):=by
 unfold yx at h
 split at h
 ·rename_i T size gX rows e
  obtain⟨y,l,g1,g2,g3⟩:=ac.bC e
  rw[aL]at g1
  cases g1
  cases an:((gX==aU&&(a.ea&&a.cells.length==n))&&((be1 (k+n) rows.flatten.length&&a.cells.all I.one)&&rows.flatten.length==rows.length*size)) with
  |false=>rw[an]at h; cases h
  |true=>
   rw[an]at h
   simp only[cond_true,Option.some.injEq,Prod.mk.injEq]at h
   obtain⟨rfl,rfl⟩:=h
   simp only[bb6,beq_iff_eq,bj9]at an
   obtain⟨⟨rfl,U,aa⟩,⟨aD,bA⟩,b6⟩:=an
   obtain⟨br,bB⟩:=aS.ea U
   have aG:l.flatten.length=l.length*size:=by rw[bk.length g3.flatten,cd.length g3]; exact b6
   have av:k+n≤l.flatten.length:=by rw[bk.length g3.flatten]; exact aD
   have a1:cI.cells.length=n:=by rw[bk.length bB,aa]
   have ao:(gg l.flatten k cI.cells).length=l.length*size:=by
    unfold gg
    simp only[bb7,be9,bl7]
    omega
   obtain⟨ap,ay,b1⟩:=Jj size l.length _ ao
   refine⟨T,size,l,chunks size l.length (gg l.flatten k cI.cells),g2,a1,av,bk.xD bB bA,ap,ay,b1,rfl,ac.ck aL (h8.bC ?_)⟩
   rw[cd.length g3]
   exact Jk size _ _ _ (g3.flatten.gg bB k)
 ·cases h
theorem XN {cvs:List FuncId}{cl:wu}(vr:TY P cl) (yY: ∀f∈cvs,c6 P f=true) (he:hP s env bb) (ac:eR H0 s c H){op:bc}(h:lx cvs cl op env c=some (v,cJ))
  (dL: ∀bR bD aC,bx.eH s bR→aM bR v bD→eR H0 bR cJ aC→K bD aC):hT P op bb H K Rp:=by
 unfold lx at h
 split at h
 ·rename_i T x
  cases an:((bl env x).ea&&(bl env x).cells.all I.one) with
  |false=>rw[an]at h; cases h
  |true=>
   rw[an]at h
   simp only[cond_true,Option.some.injEq,Prod.mk.injEq]at h
   obtain⟨rfl,rfl⟩:=h
   rw[bb6]at an
   obtain⟨br,bB⟩:=(j8 he x).ea an.1
   refine .ii _ (.box (bk.xD bB an.2)) fun y a8=>dL _ _ _ (bx.zt s y) ?_ (ac.pI bB a8)
   simp only[aM,D.val]
   exact⟨y,by rw[ac.bP]; exact oj,rfl⟩
 ·rename_i T zero
  cases an:(b2 zero&&zero.all I.one) with
  |false=>rw[an]at h; cases h
  |true=>
   rw[an]at h
   simp only[cond_true,Option.some.injEq,Prod.mk.injEq]at h
   obtain⟨rfl,rfl⟩:=h
   rw[bb6]at an
   refine .ii _ (.alloc an.2) fun y a8=>dL _ _ _ (bx.zt s y) ?_ (ac.pI ((mM zero an.1 _).2 rfl) a8)
   simp only[aM,D.val]
   exact⟨y,by rw[ac.bP]; exact oj,rfl⟩
 ·rename_i T size n zero parts
  cases an:rs env size parts with
  |false=>rw[an]at h; cases h
  |true=>
   rw[an]at h
   simp only[cond_true,Option.some.injEq,Prod.mk.injEq]at h
   obtain⟨rfl,rfl⟩:=h
   obtain⟨br,bB,cu,eO⟩:=Ju he an
   refine .ii _ (.lr rfl bB cu eO) fun y a8=>dL _ _ _ (bx.lH s y) ?_ (ac.gO (by rw[cd.length br]; exact h8.bY) a8)
   simp only[aM,D.val]
   exact⟨y,_,by rw[ac.bh]; exact oj,rfl,cd.mono (bx.lH s y) _ _ br⟩
 ·rename_i T size n zero parts
  cases an:rs env size parts with
  |false=>rw[an]at h; cases h
  |true=>
   rw[an]at h
   simp only[cond_true,Option.some.injEq,Prod.mk.injEq]at h
   obtain⟨rfl,rfl⟩:=h
   obtain⟨br,bB,cu,eO⟩:=Ju he an
   refine .ii _ (.ma rfl bB cu eO) fun y a8=>dL _ _ _ (bx.lH s y) ?_ (ac.gO (h8.bC br) a8)
   simp only[aM,D.val]
   exact⟨y,by rw[ac.bh]; exact oj,rfl⟩
 ·rename_i T size bytes zero x
  split at h
  ·rename_i k n e
   have ab:=dY he e
   simp only[aM]at ab
   cases an:(be1 (bytes*n) 281474976710656&&(be1 n maxLen&&(b2 zero&&(zero.all I.one&&(zero.length==size&& !(size==0)))))) with
   |false=>rw[an]at h; cases h
   |true=>
    rw[an]at h
    simp only[cond_true,Option.some.injEq,Prod.mk.injEq]at h
    obtain⟨rfl,rfl⟩:=h
    simp only[bb6,bj9,beq_iff_eq,bg6,beq_eq_false_iff_ne]at an
    obtain⟨U,aa,aD,bA,b6,dx⟩:=an
    refine .ii _ (.nC ab U aa bA b6 dx) fun y a8=>dL _ _ _ (bx.lH s y) ?_ (ac.gO (h8.bC (cd.aG6 (size:=size) aD)) a8)
    simp only[aM,D.val]
    exact⟨y,by rw[ac.bh]; exact oj,rfl⟩
  ·cases h
 ·rename_i T
  simp only[Option.some.injEq,Prod.mk.injEq]at h
  obtain⟨rfl,rfl⟩:=h
  refine .ii _ .mkMap fun y a8=>dL _ _ _ (bx.lH s y) ?_ (ac.gO (h8.be (by simp [cd])) a8)
  simp only[aM,D.val]
  exact⟨y,by rw[ac.bh]; exact oj,rfl⟩
 ·rename_i T size bytes x y
  split at h
  ·rename_i new e
   obtain⟨Cc,br,bB⟩:=Sp (j8 he y) e
   have ab:=j8 he x
   unfold DH at h
   split at h
   ·rename_i ap
    rw[ap]at ab
    simp only[aM]at ab
    cases an:(be1 (new.length*bytes) 140737488355328&&(be1 new.length maxLen&& !(size==0))) with
    |false=>rw[an]at h; cases h
    |true=>
     rw[an]at h
     simp only[cond_true,Option.some.injEq,Prod.mk.injEq]at h
     obtain⟨rfl,rfl⟩:=h
     simp only[bb6,bj9,bg6,beq_eq_false_iff_ne]at an
     refine .ii _ (.qm ab br (by rw[cd.length bB]; exact an.1) (by rw[cd.length bB]; exact an.2.1) an.2.2) fun z aw=>dL _ _ _ (bx.lH s z) ?_ (ac.gO (by rw[cd.length bB]; exact h8.bY) aw)
     simp only[aM,D.val]
     exact⟨z,_,by rw[ac.bh]; exact oj,rfl,cd.mono (bx.lH s z) _ _ bB⟩
   ·rename_i t kG rows ap
    rw[ap]at ab
    simp only[aM]at ab
    obtain⟨z,l,g1,g2,g3⟩:=ab
    split at h
    ·rename_i cG HL n aU ay
     obtain⟨sd,dh,f1,f2,f3⟩:=ac.tok _ _ ay
     rw[g1]at f1
     cases f1
     cases an:((cG==T&&(HL==size&&(n==rows.length&&(aU==rows.length&&kG==size))))&&(be1 ((rows.length+new.length)*bytes) 140737488355328&&be1 (rows.length+new.length) maxLen)) with
     |false=>rw[an]at h; cases h
     |true=>
      rw[an]at h
      simp only[cond_true,Option.some.injEq,Prod.mk.injEq]at h
      obtain⟨rfl,rfl⟩:=h
      simp only[bb6,bj9,beq_iff_eq]at an
      obtain⟨⟨rfl,rfl,rfl,rfl,rfl⟩,c1,cb⟩:=an
      have af:dh= .bY cG kG l.length:=by
       obtain⟨er,a2,a3,a4,a5⟩:=f3
       cases dh
       simp only at er a2 a3 a4 a5
       subst er a2 a3 a4 a5
       rw[cd.length g3]
       rfl
      subst af
      refine .append g2 f2 br (by rw[cd.length bB,cd.length g3]; exact c1) (by rw[cd.length bB,cd.length g3]; exact cb) (dL _ _ _ (bx.eH.refl s) ?_ (ac.ck g1 (by rw[cd.length bB,cd.length g3]; exact h8.bY)))
      simp only[aM]
      exact⟨z,_,g1,rfl,g3.append bB⟩
    ·cases h
   ·cases h
  ·cases h
 ·rename_i T size bytes x y
  split at h
  ·rename_i new e
   obtain⟨Cc,br,bB⟩:=Sp (j8 he y) e
   have ab:=j8 he x
   unfold DI at h
   split at h
   ·rename_i ap
    rw[ap]at ab
    simp only[aM]at ab
    cases an:(be1 (new.length*bytes) 140737488355328&&(be1 new.length maxLen&& !(size==0))) with
    |false=>rw[an]at h; cases h
    |true=>
     rw[an]at h
     simp only[cond_true,Option.some.injEq,Prod.mk.injEq]at h
     obtain⟨rfl,rfl⟩:=h
     simp only[bb6,bj9,bg6,beq_eq_false_iff_ne]at an
     refine .ii _ (.uX ab br (by rw[cd.length bB]; exact an.1) (by rw[cd.length bB]; exact an.2.1) an.2.2) fun z aw=>dL _ _ _ (bx.lH s z) ?_ (ac.gO (h8.bC bB) aw)
     simp only[aM,D.val]
     exact⟨z,by rw[ac.bh]; exact oj,rfl⟩
   ·rename_i t aU ap
    rw[ap]at ab
    simp only[aM]at ab
    obtain⟨z,g1,g2⟩:=ab
    split at h
    ·rename_i cG HL gX rows ay
     obtain⟨sd,l,f1,f2,f3⟩:=ac.bC ay
     rw[g1]at f1
     cases f1
     cases an:((cG==T&&(HL==size&&gX==aU))&&(be1 ((rows.length+new.length)*bytes) 140737488355328&&be1 (rows.length+new.length) maxLen)) with
     |false=>rw[an]at h; cases h
     |true=>
      rw[an]at h
      simp only[cond_true,Option.some.injEq,Prod.mk.injEq]at h
      obtain⟨rfl,rfl⟩:=h
      simp only[bb6,bj9,beq_iff_eq]at an
      obtain⟨⟨rfl,rfl,rfl⟩,c1,cb⟩:=an
      refine .mJ g2 f2 br (by rw[cd.length bB,cd.length f3]; exact c1) (by rw[cd.length bB,cd.length f3]; exact cb) (dL _ _ _ (bx.eH.refl s) ?_ (ac.ck g1 (h8.bC (f3.append bB))))
      simp only[aM]
      exact⟨z,g1,rfl⟩
    ·cases h
   ·cases h
  ·cases h
 ·rename_i size x b3 af
  split at h
  ·rename_i t aU e
   have ab:=dY he e
   simp only[aM]at ab
   obtain⟨z,g1,g2⟩:=ab
   unfold DP at h
   split at h
   ·rename_i T kG gX rows ay
    obtain⟨sd,l,f1,f2,f3⟩:=ac.bC ay
    rw[g1]at f1
    cases f1
    split at h
    ·rename_i q m b1 dC
     cases an:((gX==aU&&kG==size)&&(be1 m rows.length&&be1 q m)) with
     |false=>rw[an]at h; cases h
     |true=>
      rw[an]at h
      simp only[cond_true,Option.some.injEq,Prod.mk.injEq]at h
      obtain⟨rfl,rfl⟩:=h
      simp only[bb6,bj9,beq_iff_eq]at an
      obtain⟨⟨rfl,rfl⟩,c1,cb⟩:=an
      refine .mZ g2 f2 (wQ he b1) (by rw[cd.length f3]; exact wQ he dC) (by rw[cd.length f3]; exact c1) cb (dL _ _ _ (bx.eH.refl s) ?_ (ac.ck g1 (h8.bC ((f3.take m).drop q))))
      simp only[aM]
      exact⟨z,g1,rfl⟩
    ·cases h
   ·cases h
  ·cases h
 ·rename_i n a x
  split at h
  ·rename_i b o e
   have aS:=dY he e
   simp only[aM]at aS
   obtain⟨z,g1,g2⟩:=aS
   obtain⟨T,cs,f1,f2,f3,f4,rfl,f6⟩:=Jz (j8 he x) g1 ac h
   exact .store g2 f1 f2 f3 f4 (dL _ _ _ (bx.eH.refl s) (by simp only[aM]) f6)
  ·rename_i t aU k e
   have aS:=dY he e
   simp only[aM]at aS
   obtain⟨z,g1,g2⟩:=aS
   obtain⟨T,size,rows,dT,f1,f2,f3,f4,f5,f6,f7,rfl,f9⟩:=XM (j8 he x) g1 ac h
   exact .uy g2 f1 f2 f3 f4 f5 f6 f7 (dL _ _ _ (bx.eH.refl s) (by simp only[aM]) f9)
  ·cases h
 ·rename_i e3 others n a x
  split at h
  ·rename_i b bT o bN e
   have aS:=dY he e
   have hm:=he e3
   rw[bN]at hm
   simp only[aM]at aS hm
   obtain⟨z,g1,g2⟩:=aS
   obtain⟨z0,g3,g4⟩:=hm
   cases an:(bT==b&&others.all (io env b)) with
   |false=>rw[an]at h; cases h
   |true=>
    rw[an,cond_true]at h
    simp only[bb6,beq_iff_eq,bj8]at an
    obtain⟨rfl,an⟩:=an
    rw[g1]at g3
    cases g3
    obtain⟨T,cs,f1,f2,f3,f4,rfl,f6⟩:=Jz (j8 he x) g1 ac h
    refine .gK g4 (fun j bm=> ?_) g2 f1 f2 f3 f4 (dL _ _ _ (bx.eH.refl s) (by simp only[aM]) f6)
    have aa:=an j bm
    unfold io at aa
    have aD:=he j
    split at aa
    ·rename_i il ay
     rw[ay]at aD
     simp only[aM]at aD
     obtain⟨z2,ci,cM⟩:=aD
     refine⟨z2,cM,fun a6=> ?_⟩
     subst a6
     have:=ac.lF _ _ _ ci g1
     subst this
     simp at aa
    ·cases aa
  ·cases h
 ·rename_i x k u
  split at h
  ·rename_i t aU q e ct
   have ab:=dY he e
   have av:=dY he ct
   simp only[aM]at ab av
   obtain⟨z,g1,g2⟩:=ab
   unfold DM at h
   split at h
   ·rename_i T gX rows ay
    cases an:(gX==aU&&(bl env u).one) with
    |false=>rw[an]at h; cases h
    |true=>
     rw[an,cond_true]at h
     simp only[bb6,beq_iff_eq]at an
     obtain⟨rfl,iz⟩:=an
     obtain⟨sd,l,f1,f2,f3⟩:=ac.be ay
     rw[g1]at f1
     cases f1
     cases hm:kC q (bl env u) rows with
     |none=>rw[hm]at h; cases h
     |some r=>
      rw[hm]at h
      simp only[Option.map_some,Option.some.injEq,Prod.mk.injEq]at h
      obtain⟨rfl,rfl⟩:=h
      obtain⟨bZ,br,bB⟩:=Ol q (j8 he u) rows l r f3 hm
      exact .nB g2 f2 av ((j8 he u).one iz) br (dL _ _ _ (bx.eH.refl s) (by simp only[aM]) (ac.ck g1 (h8.be bB)))
   ·cases h
  ·cases h
 ·rename_i f args
  refine .call _ (dZ.sZ _) (vr f _ c v cJ h H0 s _ H (nR he args) ac) fun o aC bu=> ?_
  obtain⟨bR,bD,ci,rfl,dE,gU⟩:=bu
  exact dL bR bD aC ci dE gU
 ·rename_i x args
  split at h
  ·rename_i f cap e
   have ab:=dY he e
   simp only[aM]at ab
   obtain⟨l,g1,g2⟩:=ab
   cases an:cvs.contains f with
   |false=>
    rw[an,cond_false]at h
    cases bG:(be1 jp f&&cvs.contains (f-jp)) with
    |false=>rw[bG]at h; cases h
    |true=>
     rw[bG,cond_true]at h
     simp only[bb6]at bG
     have hle:=bh6 bG.1
     have Ex:x.aI bb= .fn (f-jp+jp) l:=by rw[Nat.sub_add_cancel hle]; exact g1
     refine .wJ _ Ex (yY (f-jp) (by simpa using bG.2)) (dZ.sZ _) (vr (f-jp) _ c v cJ h H0 s _ H (g2.append (nR he args)) ac) fun o aC bu=> ?_
     obtain⟨bR,bD,ci,rfl,dE,gU⟩:=bu
     exact dL bR bD aC ci dE gU
   |true=>
    rw[an,cond_true]at h
    refine .gj _ g1 (yY f (by simpa using an)) (dZ.sZ _) (vr f _ c v cJ h H0 s _ H ((nR he args).append g2) ac) fun o aC bu=> ?_
    obtain⟨bR,bD,ci,rfl,dE,gU⟩:=bu
    exact dL bR bD aC ci dE gU
  ·cases h
 ·simp only[bf2,Prod.mk.injEq]at h
  obtain⟨v0,g1,rfl,rfl⟩:=h
  obtain⟨bD,g2,g3⟩:=XI (P:=P) he ac.toHR g1
  exact .ii _ g2 fun x _=>dL s bD H (bx.eH.refl s) g3 ac
def Jr (cl:wu) (f:FuncId) (az:List I):Option I:=
 bif b2 (kn az) then match cl f (kn az) .new with
  |some (v,_)=>bif v.aF.flat then some v.aF else none
  |none=>none
 else none
def oJ:bc→Bool
 | .jj _ _=>true
 | .j3 _ _=>true
 | .rX _ _ _ _=>true
 | _=>false
def yC (cvs:List FuncId) (cl:wu):List bK→Env→aN→Option (List I×Env×aN)
 |[],env,c=>some ([],env,c)
 |⟨d,g,op⟩::l,env,c=>match wanted ⟨d,g,op⟩ env with
  |none=>none
  |some false=>match yC cvs cl l (env.put d .undef) c with
   |some (anns,e,cb)=>some (bif oJ op then .undef::anns else anns,e,cb)
   |none=>none
  |some true=>match op with
   | .jj f args=>match Jr cl f (args.map (bl env)) with
    |some r=>match yC cvs cl l (env.put d r) c with
     |some (anns,e,cb)=>some (r::anns,e,cb)
     |none=>none
    |none=>none
   | .j3 x args=>match bl env x with
    | .fn f cap=>bif cvs.contains f then match Jr cl f (args.map (bl env)++cap) with
     |some r=>match yC cvs cl l (env.put d r) c with
      |some (anns,e,cb)=>some (r::anns,e,cb)
      |none=>none
     |none=>none
     else none
    | _=>none
   | .rX _ _ _ _=>none
   |op=>match lx cvs cl op env c with
    |some (v,c1)=>yC cvs cl l (env.put d v) c1
    |none=>none
section
variable {P:Program}{s:bx}{env bb:Env}{H0 H:aA}{c cJ:aN}{Rp:I→aA→Prop}
theorem CZ (he:hP s env bb){i:bK}{b:Bool}(h:wanted i env=some b):wanted i bb=some b:=by
 obtain⟨d,g,op⟩:=i
 cases g with
 |none=>exact h
 |some p=>
  obtain⟨j,want⟩:=p
  have bm:=he j
  simp only[wanted]at h ⊢
  split at h
  ·rename_i x e
   rw[e]at bm
   simp only[aM]at bm
   rw[bm]
   exact h
  ·rename_i e
   rw[e]at bm
   simp only[aM]at bm
   rw[bm]
   exact h
  ·cases h
end
end Go.ba
namespace Go.ba
open Go
inductive C3 where
 |c (e:bp)
 |aY (id:Nat)
 |mX (body:bp)
def cpop (id:Nat):List C3→Option (List C3)
 | .aY j::k=>bif j==id then some k else cpop id k
 | _::k=>cpop id k
 |[]=>none
def tv (env:Env) (C:aA):bf→Option I
 | .t n=>some (env.get n)
 | .cell agg n a=>match env.get a with
  | .ptr b o=>match C.aY b with
   |some (_,cs)=>ou cs agg o n
   |none=>none
  | .ed row o=>ou row agg o n
  | _=>none
def tu (env:Env) (C:aA):List bf→Option (List I)
 |[]=>some []
 |r::aQ=>match tv env C r,tu env C aQ with
  |some v,some l=>some (v::l)
  | _,_=>none
def ov (aQ:List bf) (env:Env) (C:aA):Option I:=
 match aQ with
 |[r]=>tv env C r
 |aQ=>(tu env C aQ).map .c3
abbrev H6:=FuncId→Option (bp×List bf×Nat)
abbrev Lib:=FuncId→List I→Option I
def run (px:H6) (pi:Lib) (cvs:List FuncId):Nat→List bf→List C3→Env→aN→Option (I×aN)
 |0,_,_,_,_=>none
 |n+1,aQ,k,env,c=>
  match k with
  |[]=>(ov aQ env c.H).map fun v=>(v,c)
  | .aY _::k=>run px pi cvs n aQ k env c
  | .mX body::k=>run px pi cvs n aQ (.c body:: .mX body::k) env c
  | .c e::k=>match e with
   | .ret=>(ov aQ env c.H).map fun v=>(v,c)
   | .skip=>run px pi cvs n aQ k env c
   | .seq a b=>run px pi cvs n aQ (.c a:: .c b::k) env c
   | .block id b=>run px pi cvs n aQ (.c b:: .aY id::k) env c
   | .exit id=>match cpop id k with
    |some ff=>run px pi cvs n aQ ff env c
    |none=>none
   | .cond x a b=>match bl env x with
    | .bool true=>run px pi cvs n aQ (.c a::k) env c
    | .bool false=>run px pi cvs n aQ (.c b::k) env c
    | _=>none
   | .region ops _=>
    match yC cvs (fun f az c=>match pi f (kn az) with
     |some r=>bif b2 (kn az)&&r.flat then some (r,c) else none
     |none=>match px f with
      |some (e,aQ,m)=>bif az.length==m then run px pi cvs n aQ [.c e] (lE az) c else none
      |none=>none) ops env c with
    |some (_,bb,cJ)=>run px pi cvs n aQ k bb cJ
    |none=>none
   | .loop body=>run px pi cvs n aQ (.c body:: .mX body::k) env c
   | .sv _ _ _=>none
section
variable {P:Program}{px:H6}{pi:Lib}{cvs:List FuncId}{aQ:List bf}{v:I}{c1:aN}{H0:aA}{ez:bx}
variable {s:bx}{env bb:Env}{H:aA}{c:aN}
theorem Jt (he:hP s env bb) (ac:eR H0 s c H){r:bf}{x:I}(h:tv env c.H r=some x): ∃cN,r.aI bb H=some cN∧aM s x cN:=by
 cases r with
 |t n=>
  simp only[tv,Option.some.injEq]at h
  subst h
  exact⟨_,rfl,he n⟩
 |cell agg n a=>
  simp only[tv]at h
  have aS:=he a
  split at h
  ·rename_i b o e
   rw[e]at aS
   simp only[aM]at aS
   obtain⟨y,U,aa⟩:=aS
   split at h
   ·rename_i T cs ay
    obtain⟨cN,cC,g1,g2,g3⟩:=ac.aY _ _ _ ay
    rw[U]at g1
    cases g1
    obtain⟨br,bD,bB,cu⟩:=su g3 h
    exact⟨bD,by simp only[bf.aI,bX,aJ.aI,aa,g2,if_pos br,bB],cu⟩
   ·cases h
  ·rename_i row o e
   rw[e]at aS
   simp only[aM]at aS
   obtain⟨l,aa,U⟩:=aS
   obtain⟨br,bD,bB,cu⟩:=su U h
   exact⟨bD,by simp only[bf.aI,bX,aJ.aI,aa,if_pos br,bB],cu⟩
  ·cases h
theorem Js (he:hP s env bb) (ac:eR H0 s c H): ∀(l:List bf) (x:List I),tu env c.H l=some x→∃cN,l.mapM (bf.aI bb H)=some cN∧bk s x cN
 |[],x,h=>by
  simp only[tu,Option.some.injEq]at h
  subst h
  exact⟨[],rfl,by simp only[bk]⟩
 |r::l,x,h=>by
  simp only[tu]at h
  split at h
  ·rename_i y eh ap ay
   simp only[Option.some.injEq]at h
   subst h
   obtain⟨hZ,g1,g2⟩:=Jt he ac ap
   obtain⟨a09,g3,g4⟩:=Js he ac l eh ay
   exact⟨hZ::a09,by simp [List.mapM_cons,g1,g3],by simp only[bk]; exact⟨_,_,rfl,g2,g4⟩⟩
  ·cases h
theorem DO (he:hP s env bb) (ac:eR H0 s c H){l:List bf}{x:I}(h:ov l env c.H=some x): ∃cN,results l bb H=some cN∧aM s x cN:=by
 unfold ov at h
 split at h
 ·exact Jt he ac h
 ·rename_i a1
  simp only[bf2]at h
  obtain⟨y,e,rfl⟩:=h
  obtain⟨hZ,g1,g2⟩:=Js he ac l y e
  refine⟨.c3 hZ,?_,by simp only[aM]; exact⟨_,rfl,g2⟩⟩
  unfold results
  split
  ·rename_i r
   exact absurd rfl (a1 r)
  ·rw[g1]; rfl
theorem ai6: ∀ {az iF:List I},bk s az iF→hP s (lE az) (lE iF):=by
 intro az iF h j
 rw[B1,B1]
 simp only[bc3,if_true,Nat.sub_zero]
 cases e:az[j]? with
 |none=>
  simp only[List.getD,e,Option.getD_none,aM]
 |some a=>
  obtain⟨cI,g1,g2⟩:=h.get j a e
  simp only[List.getD,e,g1,Option.getD_some]
  exact g2
theorem dZ.GU {m:Mem}: ∀ {az ca:List I}{l:List Value},dZ az ca→aR m az l→aR m ca l
 |[],_,_,h,k=>by simp only[dZ]at h; subst h; exact k
 |a::az,_,_,h,k=>by
  simp only[dZ]at h
  obtain⟨b,ca,rfl,U,aa⟩:=h
  simp only[aR]at k ⊢
  obtain⟨v,aq,ap,ay,b1⟩:=k
  exact⟨v,aq,ap,U m v ay,dZ.GU aa b1⟩
end
end Go.ba
namespace Go.ba
open Go
def mG (s:bx):Out→Out→Prop
  | .ret a,.ret b=>aM s a b
  | .ey a,.ey b=>aM s a b
  | _,_=>False
def bg (P:Program) (f:FuncId) (az:List I) (c:aN) (Q:Out→aN→Prop):Prop:=
  ∀H0 s iF H,bk s az iF→eR H0 s c H→jE P f iF H fun o' aC=> ∃bR o c1,bx.eH s bR∧Q o c1∧mG bR o o'∧eR H0 bR c1 aC
def mH (v:I) (c1:aN):Out→aN→Prop:=fun o c=>o= .ret v∧c=c1
inductive fs where
  |c (e:bp)
  |aY (id:Nat)
  |mX (eG:Nat→Env→aN→Prop) (m0:Nat)
def fs.mB (H0:aA) (ez:bx):fs→Item
  | .c e=> .c e
  | .aY id=> .aY id
  | .mX eG m0=> .round (fun m bb aC=> ∃s env c,bx.eH ez s∧eG m env c∧hP s env bb∧eR H0 s c aC) m0
def rT (id:Nat):List fs→Option (List fs)
  | .aY j::k=>bif j==id then some k else rT id k
  | _::k=>rT id k
  |[]=>none
theorem B2 {H0:aA}{ez:bx}{id:Nat}: ∀ {k ff:List fs},rT id k=some ff→pt id (k.map (fs.mB H0 ez))=some (ff.map (fs.mB H0 ez))
  |[],_,h=>by cases h
  | .c _::k,_,h=>by simp only[rT]at h; simp only[bd4,fs.mB,pt]; exact B2 h
  | .mX _ _::k,_,h=>by simp only[rT]at h; simp only[bd4,fs.mB,pt]; exact B2 h
  | .aY j::k,_,h=>by
    simp only[rT]at h
    simp only[bd4,fs.mB,pt]
    cases af:j==id with
    |true=>rw[af]at h; cases h; rw[if_pos (by simpa using af)]
    |false=>rw[af]at h; rw[if_neg (by simpa using af)]; exact B2 h
def ar (P:Program) (aQ:List bf) (cL t0:Nat) (k:List fs) (Q:Out→aN→Prop) (env:Env) (c:aN):Prop:=
  ∀H0 ez s bb H (R:Out→aA→Prop),ez.b.length=cL→ez.t.length=t0→bx.eH ez s→hP s env bb→eR H0 s c H→(∀bR o o' c1 aC,bx.eH ez bR→Q o c1→mG bR o o'→eR H0 bR c1 aC→R o' aC)→cr P aQ R (k.map (fs.mB H0 ez)) bb H
def al (P:Program) (anns:List I) (l:List bK) (env:Env) (c:aN) (K:Env→aN→Prop) (Rp:I→aN→Prop):Prop:=
  ∀H0 s bb H (K':Env→aA→Prop) (jo:I→aA→Prop),hP s env bb→eR H0 s c H→(∀bR e ct c1 aC,bx.eH s bR→K e c1→hP bR e ct→eR H0 bR c1 aC→K' ct aC)→(∀bR v bD c1 aC,bx.eH s bR→Rp v c1→aM bR v bD→eR H0 bR c1 aC→jo bD aC)→bn P (eT l anns) bb H K' jo
variable {P:Program}{aQ:List bf}{cL t0:Nat}{k:List fs}{Q:Out→aN→Prop}{env:Env}{c c1:aN}{v:I}
theorem ar.ret (ad:ov aQ env c.H=some v) (h:Q (.ret v) c):ar P aQ cL t0 (.c .ret::k) Q env c:=fun H0 ez s bb H R a1 aL ao he ac ag=>by
  obtain⟨bD,g1,g2⟩:=DO he ac ad
  exact .ret g1 (ag s (.ret v) (.ret bD) c H ao h g2 ac)
theorem ar.done (ad:ov aQ env c.H=some v) (h:Q (.ret v) c):ar P aQ cL t0 [] Q env c:=fun H0 ez s bb H R a1 aL ao he ac ag=>by
  obtain⟨bD,g1,g2⟩:=DO he ac ad
  exact .done g1 (ag s (.ret v) (.ret bD) c H ao h g2 ac)
theorem ar.skip (h:ar P aQ cL t0 k Q env c):ar P aQ cL t0 (.c .skip::k) Q env c:=fun H0 ez s bb H R a1 aL ao he ac ag=> .skip (h H0 ez s bb H R a1 aL ao he ac ag)
theorem ar.iy {id:Nat}(h:ar P aQ cL t0 k Q env c):ar P aQ cL t0 (.aY id::k) Q env c:=fun H0 ez s bb H R a1 aL ao he ac ag=> .iy (h H0 ez s bb H R a1 aL ao he ac ag)
theorem ar.seq {a b:bp}(h:ar P aQ cL t0 (.c a:: .c b::k) Q env c):ar P aQ cL t0 (.c (.seq a b)::k) Q env c:=fun H0 ez s bb H R a1 aL ao he ac ag=> .seq (h H0 ez s bb H R a1 aL ao he ac ag)
theorem ar.block {id:Nat}{b:bp}(h:ar P aQ cL t0 (.c b:: .aY id::k) Q env c):ar P aQ cL t0 (.c (.block id b)::k) Q env c:=fun H0 ez s bb H R a1 aL ao he ac ag=> .block (h H0 ez s bb H R a1 aL ao he ac ag)
theorem ar.exit {id:Nat}{ff:List fs}(av:rT id k=some ff) (h:ar P aQ cL t0 ff Q env c):ar P aQ cL t0 (.c (.exit id)::k) Q env c:=fun H0 ez s bb H R a1 aL ao he ac ag=> .exit (B2 av) (h H0 ez s bb H R a1 aL ao he ac ag)
theorem ar.cond {x:aJ}{a b:bp}{t:Bool}(an:bl env x= .bool t) (U:t=true→ar P aQ cL t0 (.c a::k) Q env c) (aa:t=false→ar P aQ cL t0 (.c b::k) Q env c):ar P aQ cL t0 (.c (.cond x a b)::k) Q env c:=fun H0 ez s bb H R a1 aL ao he ac ag=>by
  have ab:=j8 he x
  rw[an]at ab
  simp only[aM]at ab
  exact .cond ab (fun e=>U e H0 ez s bb H R a1 aL ao he ac ag) (fun e=>aa e H0 ez s bb H R a1 aL ao he ac ag)
theorem ar.mg {x:aJ}{a b:bp}(an:bl env x= .bool true) (h:ar P aQ cL t0 (.c a::k) Q env c):ar P aQ cL t0 (.c (.cond x a b)::k) Q env c:=ar.cond an (fun _=>h) (fun e=>by cases e)
theorem ar.mf {x:aJ}{a b:bp}(an:bl env x= .bool false) (h:ar P aQ cL t0 (.c b::k) Q env c):ar P aQ cL t0 (.c (.cond x a b)::k) Q env c:=ar.cond an (fun e=>by cases e) (fun _=>h)
theorem ar.gC {ops:List bK}{draw:Bool}{anns:List I}(h:al P anns ops env c (fun e c1=>ar P aQ cL t0 k Q e c1) (fun v c1=>Q (.ey v) c1)):ar P aQ cL t0 (.c (.region ops draw)::k) Q env c:=fun H0 ez s bb H R a1 aL ao he ac ag=>
  .region anns _ (h H0 s bb H _ _ he ac (fun bR e ct c1 aC ci cM dE gU=>cM H0 ez bR ct aC R a1 aL (ao.trans ci) dE gU ag) (fun bR v bD c1 aC ci cM dE gU=>ag bR (.ey v) (.ey bD) c1 aC (ao.trans ci) cM dE gU)) fun _ _ h=>h
theorem ar.loop {body:bp}(eG:Nat→Env→aN→Prop) (m:Nat) (aW:eG m env c) (h: ∀aX e cJ,eG aX e cJ→ar P aQ cL t0 (.c body:: .mX eG aX::k) Q e cJ):ar P aQ cL t0 (.c (.loop body)::k) Q env c:=fun H0 ez s bb H R a1 aL ao he ac ag=>
  .loop (fun m bb aC=> ∃s env c,bx.eH ez s∧eG m env c∧hP s env bb∧eR H0 s c aC) m ⟨s,env,c,ao,aW,he,ac⟩ fun aX ct aC ⟨s2,ay,cb,ci,cM,dE,gU⟩=>h aX ay cb cM H0 ez s2 ct aC R a1 aL ci dE gU ag
theorem ar.round {eG:Nat→Env→aN→Prop}{m0:Nat}(m:Nat) (aW:eG m env c) (U:m<m0):ar P aQ cL t0 (.mX eG m0::k) Q env c:=fun H0 ez s bb H R a1 aL ao he ac ag=>
  .round m ⟨s,env,c,ao,aW,he,ac⟩ U
def pE (env:Env):Env→Prop
  |[]=>True
  |p::l=>env.get p.1=p.2∧pE env l
theorem pE.get: ∀ {E:Env},pE env E→∀j,E.get j=env.get j∨E.get j= .eD
  |[],_,j=> .inr rfl
  |(k,v)::E,h,j=>by
   simp only[pE]at h
   simp only[Env.get]
   cases av:k==j with
   |true=>have:k=j:=by simpa using av
          subst this; exact .inl h.1.symm
   |false=>exact pE.get h.2 j
theorem hP.x4 {s:bx}{E bb:Env}(h: ∀j,E.get j=env.get j∨E.get j= .eD) (he:hP s env bb):hP s E bb:=fun j=>by
  rcases h j with e|e
  ·rw[e]; exact he j
  ·rw[e]; simp only[aM]
abbrev eJ:=List (Nat×TypeId×List I)
abbrev eK:=List (Nat×bM)
def gS:eJ→Nat→Option (TypeId×List I)
  |[],_=>none
  |(k,x)::l,j=>bif k==j then some x else gS l j
def iK:eK→Nat→Option bM
  |[],_=>none
  |(k,x)::l,j=>bif k==j then some x else iK l j
def aN.of (bP bh:Nat) (cq:eJ) (cH:eK):aN:=⟨⟨gS cq,iK cH⟩,bP,bh⟩
def jX (H:aA):eJ→Prop
  |[]=>True
  |p::l=>H.aY p.1=some p.2∧jX H l
def jY (H:aA):eK→Prop
  |[]=>True
  |p::l=>H.tok p.1=some p.2∧jY H l
theorem jX.get {H:aA}: ∀ {l:eJ},jX H l→∀j y,gS l j=some y→H.aY j=some y
  |[],_,_,_,e=>by cases e
  |(k,x)::l,h,j,y,e=>by
   simp only[jX]at h
   simp only[gS]at e
   cases av:k==j with
   |true=>rw[av]at e; cases e
          have:k=j:=by simpa using av
          subst this; exact h.1
   |false=>rw[av]at e; exact jX.get h.2 j y e
theorem jY.get {H:aA}: ∀ {l:eK},jY H l→∀j y,iK l j=some y→H.tok j=some y
  |[],_,_,_,e=>by cases e
  |(k,x)::l,h,j,y,e=>by
   simp only[jY]at h
   simp only[iK]at e
   cases av:k==j with
   |true=>rw[av]at e; cases e
          have:k=j:=by simpa using av
          subst this; exact h.1
   |false=>rw[av]at e; exact jY.get h.2 j y e
mutual
def I.du (n t:Nat):I→Bool
  | .ptr b _=>bf8 b n
  | .agg cs=>dw n t cs
  | .c3 cs=>dw n t cs
  | .aq _ rows=>eY rows
  | .own x _ rows=>bf8 x t&&eY rows
  | .cV x _=>bf8 x t
  | .mp x _ _=>bf8 x t
  | .ed row _=>b2 row
  | .fn _ cap=>dw n t cap
  | .hW _ v=>v.du n t
  | _=>true
def dw (n t:Nat):List I→Bool
  |[]=>true
  |a::az=>a.du n t&&dw n t az
end
theorem Eu {s bR:bx}{az l:List I}(h:b2 az=true) (ac:bk s az l):bk bR az l:=(mM az h l).2 ((mM az h l).1 ac)
theorem tJ {s bR:bx}{az l:List (List I)}(h:eY az=true) (ac:cd s az l):cd bR az l:=(qC az h l).2 ((qC az h l).1 ac)
theorem qt {i n:Nat}(h:bf8 i n=true):i<n:=by simpa [bo3] using h
theorem xV {l:List Nat}{n i x:Nat}(h:l[i]? =some x) (af:bf8 i n=true):(l.take n)[i]? =some x:=by
  rw[be8,if_pos (qt af),h]
mutual
theorem aM.cut {s:bx}{n t:Nat}: ∀(a v:I),aM s a v→a.du n t=true→aM ⟨s.b.take n,s.t.take t⟩ a v
  | .eD,_,_,_=>by simp only[aM]
  | .ptr b o,_,h,hb=>by simp only[I.du]at hb; simp only[aM]at*; obtain⟨x,U,aa⟩:=h; exact⟨x,xV U hb,aa⟩
  | .agg cs,_,h,hb=>by simp only[I.du]at hb; simp only[aM]at*; obtain⟨l,U,aa⟩:=h; exact⟨l,U,bk.cut cs l aa hb⟩
  | .c3 cs,_,h,hb=>by simp only[I.du]at hb; simp only[aM]at*; obtain⟨l,U,aa⟩:=h; exact⟨l,U,bk.cut cs l aa hb⟩
  | .aq _ rows,_,h,hb=>by
    simp only[I.du]at hb
    simp only[aM]at*
    obtain⟨l,U,aa⟩:=h
    exact⟨l,U,tJ hb aa⟩
  | .own x _ rows,_,h,hb=>by
    simp only[I.du,bb6]at hb
    simp only[aM]at*
    obtain⟨y,l,aW,U,aa⟩:=h
    exact⟨y,l,xV aW hb.1,U,tJ hb.2 aa⟩
  | .cV x _,_,h,hb=>by simp only[I.du]at hb; simp only[aM]at*; obtain⟨x,U,aa⟩:=h; exact⟨x,xV U hb,aa⟩
  | .mp x _ _,_,h,hb=>by simp only[I.du]at hb; simp only[aM]at*; obtain⟨x,U,aa⟩:=h; exact⟨x,xV U hb,aa⟩
  | .ed row _,_,h,hb=>by
    simp only[I.du]at hb
    simp only[aM]at*
    obtain⟨l,U,aa⟩:=h
    exact⟨l,U,Eu hb aa⟩
  | .fn _ cap,_,h,hb=>by simp only[I.du]at hb; simp only[aM]at*; obtain⟨l,U,aa⟩:=h; exact⟨l,U,bk.cut cap l aa hb⟩
  | .hW _ v,_,h,hb=>by simp only[I.du]at hb; simp only[aM]at*; obtain⟨x,U,aa⟩:=h; exact⟨x,U,aM.cut v x aa hb⟩
  | .bool _,_,h,_=>by simp only[aM]at*; exact h
  | .int _ _,_,h,_=>by simp only[aM]at*; exact h
  | .str _,_,h,_=>by simp only[aM]at*; exact h
  | .dV _,_,h,_=>by simp only[aM]at*; exact h
theorem bk.cut {s:bx}{n t:Nat}: ∀(az l:List I),bk s az l→dw n t az=true→bk ⟨s.b.take n,s.t.take t⟩ az l
  |[],_,h,_=>by simp only[bk]at*; exact h
  |a::az,_,h,hb=>by simp only[dw,bb6]at hb; simp only[bk]at*; obtain⟨v,aq,U,aa,aD⟩:=h; exact⟨v,aq,U,aM.cut a v aa hb.1,bk.cut az aq aD hb.2⟩
end
def im (n t:Nat):Env→Bool
  |[]=>true
  |p::l=>p.2.du n t&&im n t l
def eA (n t:Nat):eJ→Bool
  |[]=>true
  |p::l=>bf8 p.1 n&&(dw n t p.2.2&&eA n t l)
def ia:Option (List (List I))→Bool
  |none=>true
  |some rows=>eY rows
def eB (n t:Nat):eK→Bool
  |[]=>true
  |p::l=>bf8 p.1 t&&(ia p.2.lu&&eB n t l)
theorem Iv {n t:Nat}: ∀ {E:Env},im n t E=true→∀j,(E.get j).du n t=true
  |[],_,j=>rfl
  |(k,v)::E,h,j=>by
   simp only[im,bb6]at h
   simp only[Env.get]
   cases k==j with
   |true=>exact h.1
   |false=>exact Iv h.2 j
theorem Dn {n t:Nat}: ∀ {l:eJ},eA n t l=true→∀j T cs,gS l j=some (T,cs)→bf8 j n=true∧dw n t cs=true
  |[],_,_,_,_,e=>by cases e
  |(k,x)::l,h,j,T,cs,e=>by
   simp only[eA,bb6]at h
   simp only[gS]at e
   cases av:k==j with
   |true=>rw[av]at e; cases e
          have:k=j:=by simpa using av
          subst this; exact⟨h.1,h.2.1⟩
   |false=>rw[av]at e; exact Dn h.2.2 j T cs e
theorem Dp {n t:Nat}: ∀ {l:eK},eB n t l=true→∀j o,iK l j=some o→bf8 j t=true∧ia o.lu=true
  |[],_,_,_,e=>by cases e
  |(k,x)::l,h,j,o,e=>by
   simp only[eB,bb6]at h
   simp only[iK]at e
   cases av:k==j with
   |true=>rw[av]at e; cases e
          have:k=j:=by simpa using av
          subst this; exact⟨h.1,h.2.1⟩
   |false=>rw[av]at e; exact Dp h.2.2 j o e
theorem eR.cut {H0 H:aA}{s:bx}{n t:Nat}{cq:eJ}{cH:eK}(ac:eR H0 s c H) (hb:jX c.H cq) (aL:jY c.H cH) (a1:n≤c.bP) (hm:t≤c.bh) (qN:eA n t cq=true) (kt:eB n t cH=true):eR H0 ⟨s.b.take n,s.t.take t⟩ (aN.of n t cq cH) H where
  base:=ac.base
  aY:=fun b T cs e=>by
    obtain⟨g1,g2⟩:=Dn qN b T cs e
    obtain⟨x,cC,U,aa,aD⟩:=ac.aY b T cs (hb.get b _ e)
    exact⟨x,cC,xV U g1,aa,bk.cut _ _ aD g2⟩
  tok:=fun b o e=>by
    obtain⟨g1,g2⟩:=Dp kt b o e
    obtain⟨x,o',U,aa,aD,bA,b6,dx,qE⟩:=ac.tok b o (aL.get b _ e)
    refine⟨x,o',xV U g1,aa,aD,bA,b6,dx,?_⟩
    cases an:o.lu with
    |none=>rw[an]at qE; exact qE
    |some rows=>
     rw[an]at qE g2
     simp only[ia]at g2
     obtain⟨l,ci,cM⟩:=qE
     exact⟨l,ci,tJ g2 cM⟩
  lj:=fun b x e=>by
    rw[be8]at e
    split at e
    ·exact ac.lj b x e
    ·cases e
  kE:=fun b x e=>by
    rw[be8]at e
    split at e
    ·exact ac.kE b x e
    ·cases e
  lF:=fun b bT x e ct=>by
    rw[be8]at e ct
    split at e
    ·split at ct
     ·exact ac.lF b bT x e ct
     ·cases ct
    ·cases e
  mv:=fun b bT x e ct=>by
    rw[be8]at e ct
    split at e
    ·split at ct
     ·exact ac.mv b bT x e ct
     ·cases ct
    ·cases e
  bP:=by simp only[aN.of,be9]; rw[←ac.bP]; omega
  bh:=by simp only[aN.of,be9]; rw[←ac.bh]; omega
theorem bx.eH.cut {ez s:bx}{n t:Nat}(h:bx.eH ez s) (a1:ez.b.length≤n) (aL:ez.t.length≤t):bx.eH ez ⟨s.b.take n,s.t.take t⟩ where
  b:=fun i x e=>by
   have:i<ez.b.length:=(List.getElem?_eq_some_iff.1 e).1
   rw[be8,if_pos (by omega)]
   exact h.b i x e
  t:=fun i x e=>by
   have:i<ez.t.length:=(List.getElem?_eq_some_iff.1 e).1
   rw[be8,if_pos (by omega)]
   exact h.t i x e
theorem ar.cut (n t:Nat) (E:Env) (cq:eJ) (cH:eK) (he:pE env E) (hb:jX c.H cq) (aL:jY c.H cH) (a1:(be1 cL n&&(be1 n c.bP&&(be1 t0 t&&be1 t c.bh)))=true) (bG:(im n t E&&(eA n t cq&&eB n t cH))=true) (h:ar P aQ cL t0 k Q E (aN.of n t cq cH)):ar P aQ cL t0 k Q env c:=fun H0 ez s bb H R U aa ao dc ac ag=>by
  simp only[bb6,bj9]at a1 bG
  obtain⟨er,a2,a3,a4⟩:=a1
  obtain⟨e5,il,jZ⟩:=bG
  refine h H0 ez ⟨s.b.take n,s.t.take t⟩ bb H R U aa (ao.cut (by omega) (by omega)) (fun j=> ?_) (ac.cut hb aL a2 a4 il jZ) ag
  exact aM.cut _ _ (hP.x4 he.get dc j) (Iv e5 j)
theorem ar.B3 (E:Env) (cq:eJ) (cH:eK) (he:pE env E) (hb:jX c.H cq) (aL:jY c.H cH) (h:ar P aQ cL t0 k Q E (aN.of c.bP c.bh cq cH)):ar P aQ cL t0 k Q env c:=fun H0 ez s bb H R U aa ao dc ac ag=>by
  refine h H0 ez s bb H R U aa ao (hP.x4 he.get dc) ⟨⟨ac.base,fun b T cs e=>ac.aY b T cs (hb.get b _ e),fun b o e=>ac.tok b o (aL.get b _ e),ac.lj,ac.kE,ac.lF,ac.mv⟩,ac.bP,ac.bh⟩ ag
end Go.ba
namespace Go.ba
open Go
def h7 (P:Program) (op:bc) (env:Env) (c:aN) (S fh:I→aN→Prop):Prop:=
  ∀H0 s bb H (K Rp:I→aA→Prop),hP s env bb→eR H0 s c H→(∀bR v bD c1 aC,bx.eH s bR→S v c1→aM bR v bD→eR H0 bR c1 aC→K bD aC)→(∀bR v bD c1 aC,bx.eH s bR→fh v c1→aM bR v bD→eR H0 bR c1 aC→Rp bD aC)→hT P op bb H K Rp
section
variable {P:Program}{aQ:List bf}{cL t0:Nat}{k:List fs}{Q:Out→aN→Prop}{env:Env}{c c1:aN}{v r:I}{anns:List I}{l:List bK}{K:Env→aN→Prop}{Rp:I→aN→Prop}{d:Option Nat}{g:Option (Nat×Bool)}{op:bc}{f:FuncId}{args:List aJ}{az cap:List I}{x:aJ}
theorem al.nil (h:K env c):al P [] [] env c K Rp:=fun H0 s bb H K' jo he ac dL iS=>by
  exact dL s env bb c H (bx.eH.refl s) h he ac
theorem al.p5 {S:I→aN→Prop}(hw:wanted ⟨d,g,op⟩ env=some true) (hp:oJ op=false) (af:h7 P op env c S Rp) (h: ∀v c1,S v c1→al P anns l (env.put d v) c1 K Rp):al P anns (⟨d,g,op⟩::l) env c K Rp:=fun H0 s bb H K' jo he ac dL iS=>by
  have q:bn P (⟨d,g,op⟩::eT l anns) bb H K' jo:=bn.step (CZ he hw) (af H0 s bb H _ _ he ac (fun bR v bD c1 aC er a2 a3 a4=>h v c1 a2 H0 bR _ aC K' jo ((he.mono er).put a3 d) a4 (fun s2 e ct cb dt e5 il jZ om=>dL s2 e ct cb dt (er.trans e5) il jZ om) (fun s2 e ct cb dt e5 il jZ om=>iS s2 e ct cb dt (er.trans e5) il jZ om)) iS)
  cases op<;>first|(simp [oJ]at hp; done)|(cases anns<;>simpa only[eT] using q)
abbrev Ou:wu:=fun _ _ _=>none
abbrev eu (op:bc) (env:Env) (c:aN):Option (I×aN):=lx [] Ou op env c
theorem h7.o (h:eu op env c=some (v,c1)):h7 P op env c (fun bD cJ=>bD=v∧cJ=c1) Rp:=fun H0 s bb H K Rp he ac dL iS=>
  XN (cvs:=[]) (cl:=Ou) (fun _ _ _ _ _ h=>by cases h) (fun _ h=>by simp at h) he ac h fun bR bD aC ci cM dE=>dL bR v bD c1 aC ci ⟨rfl,rfl⟩ cM dE
theorem al.o (hw:wanted ⟨d,g,op⟩ env=some true) (hp:oJ op=false) (ao:eu op env c=some (v,c1)) (h:al P anns l (env.put d v) c1 K Rp):al P anns (⟨d,g,op⟩::l) env c K Rp:=
  al.p5 hw hp (h7.o ao) fun bD cJ ⟨ap,ay⟩=>by rw[ap,ay]; exact h
theorem al.fB (hw:wanted ⟨d,g,op⟩ env=some false) (hp:oJ op=false) (h:al P anns l (env.put d .undef) c K Rp):al P anns (⟨d,g,op⟩::l) env c K Rp:=fun H0 s bb H K' jo he ac dL iS=>by
  have q:bn P (⟨d,g,op⟩::eT l anns) bb H K' jo:=bn.skip (CZ he hw) (h H0 s _ H K' jo (he.put (by simp only[aM]) d) ac dL iS)
  cases op<;>first|(simp [oJ]at hp; done)|(cases anns<;>simpa only[eT] using q)
theorem al.aL5 (hw:wanted ⟨d,g,op⟩ env=some false) (hp:oJ op=true) (h:al P anns l (env.put d .undef) c K Rp):al P (r::anns) (⟨d,g,op⟩::l) env c K Rp:=fun H0 s bb H K' jo he ac dL iS=>by
  have Fv:=CZ he hw
  have q:=h H0 s (bb.put d I.undef) H K' jo (he.put (by simp only[aM]) d) ac dL iS
  cases op<;>first|(simp [oJ]at hp; done)|(simp only[eT]; exact bn.skip Fv q)
theorem al.u {d:Nat}(hp:oJ op=false) (ao:eu op env c=some (v,c1)) (h:al P anns l ((d,v)::env) c1 K Rp):al P anns (⟨some d,none,op⟩::l) env c K Rp:=al.o rfl hp ao h
theorem al.Tk (hp:oJ op=false) (ao:eu op env c=some (v,c1)) (h:al P anns l env c1 K Rp):al P anns (⟨none,none,op⟩::l) env c K Rp:=al.o rfl hp ao h
theorem Ud {g g':Option (Nat×Bool)}{H0 H:aA}{bb:Env}{HQ:Env→aA→Prop}{HX:I→aA→Prop}(h: ∀i,wanted ⟨d,g,i⟩ bb=wanted ⟨d,g',i⟩ bb) (k:bn P (eT (⟨d,g',op⟩::l) anns) bb H HQ HX):bn P (eT (⟨d,g,op⟩::l) anns) bb H HQ HX:=by
  cases op<;>cases anns<;>simp only[eT,bn]at k ⊢ <;>rw[h]<;>exact k
theorem al.EA {j:Nat}{t b:Bool}(hb:env.get j= .bool b) (aL:b=t) (h:al P anns (⟨d,none,op⟩::l) env c K Rp):al P anns (⟨d,some (j,t),op⟩::l) env c K Rp:=fun H0 s bb H K' jo he ac dL iS=>by
  subst aL
  refine Ud (H0:=H0) (g':=none) (fun i=> ?_) (h H0 s bb H K' jo he ac dL iS)
  have:=he j
  rw[hb]at this
  simp only[aM]at this
  simp only[wanted,this,beq_self_eq_true]
theorem al.nG (hw:wanted ⟨d,g,.jj f args⟩ env=some true) (U:Pure P f az r) (aS:kn (args.map (bl env))=az) (aT:b2 az=true) (ac:r.flat=true) (h:al P anns l (env.put d r) c K Rp):al P (r::anns) (⟨d,g,.jj f args⟩::l) env c K Rp:=fun H0 s bb H K' jo he a6 dL iS=>by
  subst aS
  simp only[eT]
  exact bn.step (CZ he hw) (.ii (.cZ r) (.pq (HH _ _ (nR he args) aT) U) fun _ _=>h H0 s _ H K' jo (he.put ((I.lA r ac r).2 rfl) d) a6 dL iS)
theorem Cl {K Rp:I→aA→Prop}{s:bx}{H0:aA}(dL: ∀bR v bD c1 aC,bx.eH s bR→Q (.ret v) c1→aM bR v bD→eR H0 bR c1 aC→K bD aC) (iS: ∀bR v bD c1 aC,bx.eH s bR→Q (.ey v) c1→aM bR v bD→eR H0 bR c1 aC→Rp bD aC): ∀o' aC,(∃bR o c1,bx.eH s bR∧Q o c1∧mG bR o o'∧eR H0 bR c1 aC)→wB K Rp aC o':=by
  rintro o' aC ⟨bR,o,c1,er,a2,a3,a4⟩
  cases o<;>cases o'<;>simp only[mG]at a3
  ·exact dL bR _ _ c1 aC er a2 a3 a4
  ·exact iS bR _ _ c1 aC er a2 a3 a4
theorem h7.call (h:bg P f (args.map (bl env)) c Q):h7 P (.call f args) env c (fun v c1=>Q (.ret v) c1) (fun v c1=>Q (.ey v) c1):=fun H0 s bb H K Rp he ac dL iS=>
  .call _ (dZ.sZ _) (h H0 s _ H (nR he args) ac) (Cl dL iS)
theorem h7.gj (ab:bl env x= .fn f cap) (an:c6 P f=true) (h:bg P f (args.map (bl env)++cap) c Q):h7 P (.gj x args) env c (fun v c1=>Q (.ret v) c1) (fun v c1=>Q (.ey v) c1):=fun H0 s bb H K Rp he ac dL iS=>by
  have jv:=dY he ab
  simp only[aM]at jv
  obtain⟨a68,g1,g2⟩:=jv
  exact .gj _ g1 an (dZ.sZ _) (h H0 s _ H ((nR he args).append g2) ac) (Cl dL iS)
theorem h7.panic {t:TypeId}(ab:bl env x= .hW t v):h7 P (.panic x) env c (fun _ _=>False) (fun bD cJ=>bD= .hW t v∧cJ=c):=fun H0 s bb H K Rp he ac dL iS=>by
  have jv:=dY he ab
  have tY:=jv
  simp only[aM]at jv
  obtain⟨y,g1,g2⟩:=jv
  rw[g1]at tY
  exact .panic g1 (iS s _ _ c H (bx.eH.refl s) ⟨rfl,rfl⟩ tY ac)
theorem h7.mono {S H4 fh H5:I→aN→Prop}(h:h7 P op env c S fh) (U: ∀v c1,S v c1→H4 v c1) (aa: ∀v c1,fh v c1→H5 v c1):h7 P op env c H4 H5:=fun H0 s bb H K Rp he ac dL iS=>
  h H0 s bb H K Rp he ac (fun bR v bD c1 aC er a2 a3 a4=>dL bR v bD c1 aC er (U _ _ a2) a3 a4) (fun bR v bD c1 aC er a2 a3 a4=>iS bR v bD c1 aC er (aa _ _ a2) a3 a4)
theorem al.yv (hw:wanted ⟨d,g,.call f args⟩ env=some true) (an:bg P f az c Q) (aS:args.map (bl env)=az) (h: ∀v c1,Q (.ret v) c1→al P anns l (env.put d v) c1 K Rp) (hp: ∀v c1,Q (.ey v) c1→Rp v c1):al P anns (⟨d,g,.call f args⟩::l) env c K Rp:=by
  subst aS
  exact al.p5 hw rfl ((h7.call an).mono (fun _ _ h=>h) hp) h
theorem al.st (hw:wanted ⟨d,g,.call f args⟩ env=some true) (an:bg P f az c (mH v c1)) (aS:args.map (bl env)=az) (h:al P anns l (env.put d v) c1 K Rp):al P anns (⟨d,g,.call f args⟩::l) env c K Rp:=
  al.yv hw an aS (fun bD cJ ⟨ap,ay⟩=>by cases ap; rw[ay]; exact h) (fun bD cJ ⟨ap,ay⟩=>by cases ap)
theorem al.aW7 (hw:wanted ⟨d,g,.gj x args⟩ env=some true) (ab:bl env x= .fn f cap) (aT:c6 P f=true) (an:bg P f az c Q) (aS:args.map (bl env)++cap=az) (h: ∀v c1,Q (.ret v) c1→al P anns l (env.put d v) c1 K Rp) (hp: ∀v c1,Q (.ey v) c1→Rp v c1):al P anns (⟨d,g,.gj x args⟩::l) env c K Rp:=by
  subst aS
  exact al.p5 hw rfl ((h7.gj ab aT an).mono (fun _ _ h=>h) hp) h
theorem al.HD (hw:wanted ⟨d,g,.gj x args⟩ env=some true) (ab:bl env x= .fn f cap) (aT:c6 P f=true) (an:bg P f az c (mH v c1)) (aS:args.map (bl env)++cap=az) (h:al P anns l (env.put d v) c1 K Rp):al P anns (⟨d,g,.gj x args⟩::l) env c K Rp:=
  al.aW7 hw ab aT an aS (fun bD cJ ⟨ap,ay⟩=>by cases ap; rw[ay]; exact h) (fun bD cJ ⟨ap,ay⟩=>by cases ap)
theorem al.ax7 {t:TypeId}(hw:wanted ⟨d,g,.panic x⟩ env=some true) (ab:bl env x= .hW t v) (h:Rp (.hW t v) c):al P anns (⟨d,g,.panic x⟩::l) env c K Rp:=
  al.p5 hw rfl ((h7.panic ab).mono (fun _ _ h=>h) (fun bD cJ ⟨ap,ay⟩=>by rw[ap,ay]; exact h)) fun _ _ h=>h.elim
theorem bg.mono {HU:Out→aN→Prop}(h:bg P f az c Q) (bu: ∀o c1,Q o c1→HU o c1):bg P f az c HU:=fun H0 s iF H aS ac=>
  (h H0 s iF H aS ac).mono fun o aC ⟨bR,e4,c1,er,a2,a3,a4⟩=>⟨o,aC,by cases o<;>exact c5.refl _,HSub.refl _,bR,e4,c1,er,bu _ _ a2,a3,a4⟩
theorem bg.intro {fn:Func}{e:bp}(hm:P.follows .mixedOrders=true) (aT:P.funcs[f]? =some fn) (an:bL P fn az.length e aQ=true) (h:ar P aQ c.bP c.bh [.c e] Q (lE az) c):bg P f az c Q:=fun H0 s iF H aS ac=>by
  have aG:=bk.length aS
  exact Ic hm aT (by rw[aG]; exact an) (h H0 s s (lE iF) H _ ac.bP.symm ac.bh.symm (bx.eH.refl s) (ai6 aS) ac fun bR o o' c1 aC ci cM dE gU=>⟨bR,o,c1,ci,cM,dE,gU⟩)
theorem bg.FT (h:Pure P f az r) (aT:b2 az=true) (ac:r.flat=true){dS:List I}(aS:kn dS=az):bg P f dS c (mH r c):=fun H0 s iF H ZL a6=>by
  subst aS
  have hp:=h H
  have zc:jE P f iF H fun o aC=>o= .ret r∧aC=H:=fun m aq fL bd ad=>hp m aq fL bd ((HH _ _ ZL aT).GU ad)
  exact zc.mono fun o aC ⟨ap,ay⟩=>⟨o,aC,by subst ap; exact c5.refl _,HSub.refl _,s,.ret r,c,bx.eH.refl s,⟨rfl,rfl⟩,by subst ap; exact (I.lA r ac r).2 rfl,by rw[ay]; exact a6⟩
theorem bg.pure (h:bg P f az .new Q) (aT:b2 az=true) (ac:r.flat=true) (bu: ∀o c1,Q o c1→∃v,o= .ret v∧v.aF=r):Pure P f az r:=jE.pure fun H=>
  (h H ⟨[],[]⟩ az H ((mM az aT _).2 rfl) (eR.start H)).mono fun o aC ⟨bR,e4,c1,er,a2,a3,a4⟩=>by
    obtain⟨v,ap,ay⟩:=bu _ _ a2
    subst ap ay
    cases o with
    |ey w=>simp only[mG]at a3
    |ret w=>exact⟨.ret w,aC,c5.refl _,HSub.refl _,w,rfl,fun m y a8=>As v w a3 ac y a8,a4.base⟩
end
end Go.ba
namespace Go.ba
open Go
mutual
def I.eP (p:bx):I→I
  | .ptr b o=> .ptr (p.b.getD b 0) o
  | .agg cs=> .agg (e7 p cs)
  | .c3 cs=> .c3 (e7 p cs)
  | .aq n rows=> .aq n rows
  | .own t n rows=> .own (p.t.getD t 0) n rows
  | .cV t v=> .cV (p.t.getD t 0) v
  | .mp t v k=> .mp (p.t.getD t 0) v k
  | .ed row o=> .ed row o
  | .fn f cap=> .fn f (e7 p cap)
  | .hW t v=> .hW t (v.eP p)
  | .eD=> .eD
  | .bool b=> .bool b
  | .int k n=> .int k n
  | .str s=> .str s
  | .dV v=> .dV v
def e7 (p:bx):List I→List I
  |[]=>[]
  |a::az=>a.eP p::e7 p az
end
def bx.comp (p s:bx):bx:=⟨p.b.map fun b=>s.b.getD b 0,p.t.map fun t=>s.t.getD t 0⟩
structure bx.Sub (p s:bx):Prop where
  b: ∀(i x:Nat),p.b[i]? =some x→x<s.b.length
  t: ∀(i x:Nat),p.t[i]? =some x→x<s.t.length
theorem lB {l:List Nat}{i:Nat}(h:i<l.length):l[i]? =some (l.getD i 0):=by
  rw[be7,List.getElem?_eq_getElem h]; rfl
theorem oA {l:List Nat}{i x:Nat}(h:l[i]? =some x):l.getD i 0=x:=by rw[be7,h]; rfl
theorem DL {p s:bx}{i y:Nat}(h:p.b[i]? =some y):(p.comp s).b[i]? =some (s.b.getD y 0):=by simp [bx.comp,h]
theorem yu {p s:bx}{i y:Nat}(h:p.t[i]? =some y):(p.comp s).t[i]? =some (s.t.getD y 0):=by simp [bx.comp,h]
theorem uZ {p s:bx}{i x:Nat}(h:(p.comp s).b[i]? =some x): ∃y,p.b[i]? =some y∧s.b.getD y 0=x:=by
  simp only[bx.comp,bi0,bf2]at h
  exact h
theorem ss {p s:bx}{i x:Nat}(h:(p.comp s).t[i]? =some x): ∃y,p.t[i]? =some y∧s.t.getD y 0=x:=by
  simp only[bx.comp,bi0,bf2]at h
  exact h
section
variable {p s:bx}
mutual
theorem aM.comp (hp:p.Sub s): ∀(a v:I),a.du p.b.length p.t.length=true→aM s (a.eP p) v→aM (p.comp s) a v
  | .eD,_,_,_=>by simp only[I.eP,aM]
  | .ptr b o,_,hb,h=>by
    have hb:=qt hb
    simp only[I.eP,aM]at*
    obtain⟨x,U,aa⟩:=h
    exact⟨x,by rw[DL (lB hb),oA U],aa⟩
  | .cV t v,_,hb,h=>by
    have hb:=qt hb
    simp only[I.eP,aM]at*
    obtain⟨x,U,aa⟩:=h
    exact⟨x,by rw[yu (lB hb),oA U],aa⟩
  | .mp t v k,_,hb,h=>by
    have hb:=qt hb
    simp only[I.eP,aM]at*
    obtain⟨x,U,aa⟩:=h
    exact⟨x,by rw[yu (lB hb),oA U],aa⟩
  | .agg cs,_,hb,h=>by simp only[I.du]at hb; simp only[I.eP,aM]at*; obtain⟨l,U,aa⟩:=h; exact⟨l,U,bk.comp hp cs l hb aa⟩
  | .c3 cs,_,hb,h=>by simp only[I.du]at hb; simp only[I.eP,aM]at*; obtain⟨l,U,aa⟩:=h; exact⟨l,U,bk.comp hp cs l hb aa⟩
  | .fn f cs,_,hb,h=>by simp only[I.du]at hb; simp only[I.eP,aM]at*; obtain⟨l,U,aa⟩:=h; exact⟨l,U,bk.comp hp cs l hb aa⟩
  | .hW t a,_,hb,h=>by simp only[I.du]at hb; simp only[I.eP,aM]at*; obtain⟨x,U,aa⟩:=h; exact⟨x,U,aM.comp hp a x hb aa⟩
  | .aq n rows,_,hb,h=>by simp only[I.du]at hb; simp only[I.eP,aM]at*; obtain⟨l,U,aa⟩:=h; exact⟨l,U,tJ hb aa⟩
  | .ed row o,_,hb,h=>by simp only[I.du]at hb; simp only[I.eP,aM]at*; obtain⟨l,U,aa⟩:=h; exact⟨l,U,Eu hb aa⟩
  | .own t n rows,_,hb,h=>by
    simp only[I.du,bb6]at hb
    have mP:=qt hb.1
    simp only[I.eP,aM]at*
    obtain⟨x,l,aW,U,aa⟩:=h
    exact⟨x,l,by rw[yu (lB mP),oA aW],U,tJ hb.2 aa⟩
  | .bool _,_,_,h=>by simp only[I.eP,aM]at*; exact h
  | .int _ _,_,_,h=>by simp only[I.eP,aM]at*; exact h
  | .str _,_,_,h=>by simp only[I.eP,aM]at*; exact h
  | .dV _,_,_,h=>by simp only[I.eP,aM]at*; exact h
theorem bk.comp (hp:p.Sub s): ∀(az l:List I),dw p.b.length p.t.length az=true→bk s (e7 p az) l→bk (p.comp s) az l
  |[],_,_,h=>by simp only[e7,bk]at*; exact h
  |a::az,_,hb,h=>by simp only[dw,bb6]at hb; simp only[e7,bk]at*; obtain⟨v,aq,U,aa,aD⟩:=h; exact⟨v,aq,U,aM.comp hp a v hb.1 aa,bk.comp hp az aq hb.2 aD⟩
end
mutual
theorem aM.split (hp:p.Sub s): ∀(a v:I),a.du p.b.length p.t.length=true→aM (p.comp s) a v→aM s (a.eP p) v
  | .eD,_,_,_=>by simp only[I.eP,aM]
  | .ptr b o,_,hb,h=>by
    simp only[I.eP,aM]at*
    obtain⟨x,U,aa⟩:=h
    obtain⟨y,ap,ay⟩:=uZ U
    exact⟨x,by rw[oA ap,lB (hp.b _ _ ap),ay],aa⟩
  | .cV t v,_,hb,h=>by
    simp only[I.eP,aM]at*
    obtain⟨x,U,aa⟩:=h
    obtain⟨y,ap,ay⟩:=ss U
    exact⟨x,by rw[oA ap,lB (hp.t _ _ ap),ay],aa⟩
  | .mp t v k,_,hb,h=>by
    simp only[I.eP,aM]at*
    obtain⟨x,U,aa⟩:=h
    obtain⟨y,ap,ay⟩:=ss U
    exact⟨x,by rw[oA ap,lB (hp.t _ _ ap),ay],aa⟩
  | .agg cs,_,hb,h=>by simp only[I.du]at hb; simp only[I.eP,aM]at*; obtain⟨l,U,aa⟩:=h; exact⟨l,U,bk.split hp cs l hb aa⟩
  | .c3 cs,_,hb,h=>by simp only[I.du]at hb; simp only[I.eP,aM]at*; obtain⟨l,U,aa⟩:=h; exact⟨l,U,bk.split hp cs l hb aa⟩
  | .fn f cs,_,hb,h=>by simp only[I.du]at hb; simp only[I.eP,aM]at*; obtain⟨l,U,aa⟩:=h; exact⟨l,U,bk.split hp cs l hb aa⟩
  | .hW t a,_,hb,h=>by simp only[I.du]at hb; simp only[I.eP,aM]at*; obtain⟨x,U,aa⟩:=h; exact⟨x,U,aM.split hp a x hb aa⟩
  | .aq n rows,_,hb,h=>by simp only[I.du]at hb; simp only[I.eP,aM]at*; obtain⟨l,U,aa⟩:=h; exact⟨l,U,tJ hb aa⟩
  | .ed row o,_,hb,h=>by simp only[I.du]at hb; simp only[I.eP,aM]at*; obtain⟨l,U,aa⟩:=h; exact⟨l,U,Eu hb aa⟩
  | .own t n rows,_,hb,h=>by
    simp only[I.du,bb6]at hb
    simp only[I.eP,aM]at*
    obtain⟨x,l,aW,U,aa⟩:=h
    obtain⟨y,ap,ay⟩:=ss aW
    exact⟨x,l,by rw[oA ap,lB (hp.t _ _ ap),ay],U,tJ hb.2 aa⟩
  | .bool _,_,_,h=>by simp only[I.eP,aM]at*; exact h
  | .int _ _,_,_,h=>by simp only[I.eP,aM]at*; exact h
  | .str _,_,_,h=>by simp only[I.eP,aM]at*; exact h
  | .dV _,_,_,h=>by simp only[I.eP,aM]at*; exact h
theorem bk.split (hp:p.Sub s): ∀(az l:List I),dw p.b.length p.t.length az=true→bk (p.comp s) az l→bk s (e7 p az) l
  |[],_,_,h=>by simp only[e7,bk]at*; exact h
  |a::az,_,hb,h=>by simp only[dw,bb6]at hb; simp only[e7,bk]at*; obtain⟨v,aq,U,aa,aD⟩:=h; exact⟨v,aq,U,aM.split hp a v hb.1 aa,bk.split hp az aq hb.2 aD⟩
end
end
theorem h8.any {s bR:bx}{o i:bM}(hb:ia o.lu=true) (h:h8 s o i):h8 bR o i:=by
  obtain⟨U,aa,aD,bA,b6⟩:=h
  refine⟨U,aa,aD,bA,?_⟩
  cases an:o.lu with
  |none=>rw[an]at b6; exact b6
  |some rows=>
   rw[an]at b6 hb
   obtain⟨l,ap,ay⟩:=b6
   exact⟨l,ap,tJ hb ay⟩
def HA (p:bx) (cq:eJ) (H:Nat→Option (TypeId×List I)):Nat→Option (TypeId×List I):=fun b=>bif p.b.contains b then (match (cq.find? fun q=>p.b.getD q.1 0==b) with
      |some q=>some (q.2.1,e7 p q.2.2)
      |none=>none) else H b
def HB (p:bx) (cH:eK) (H:Nat→Option bM):Nat→Option bM:=fun t=>bif p.t.contains t then (match (cH.find? fun q=>p.t.getD q.1 0==t) with
      |some q=>some q.2
      |none=>none) else H t
def aN.kk (c:aN) (p:bx) (cq:eJ) (cH:eK):aN:=⟨⟨HA p cq c.H.aY,HB p cH c.H.tok⟩,c.bP,c.bh⟩
def nw (H:Nat→Option (TypeId×List I)) (p:bx):eJ→Prop
  |[]=>True
  |q::l=>H (p.b.getD q.1 0)=some (q.2.1,e7 p q.2.2)∧nw H p l
def nx (H:Nat→Option bM) (p:bx):eK→Prop
  |[]=>True
  |q::l=>H (p.t.getD q.1 0)=some q.2∧nx H p l
theorem nw.get {H:Nat→Option (TypeId×List I)}{p:bx}: ∀ {l:eJ},nw H p l→∀j T cs,gS l j=some (T,cs)→H (p.b.getD j 0)=some (T,e7 p cs)
  |[],_,_,_,_,e=>by cases e
  |(k,x)::l,h,j,T,cs,e=>by
   simp only[nw]at h
   simp only[gS]at e
   cases av:k==j with
   |true=>rw[av]at e; cases e
          have:k=j:=by simpa using av
          subst this; exact h.1
   |false=>rw[av]at e; exact nw.get h.2 j T cs e
theorem nx.get {H:Nat→Option bM}{p:bx}: ∀ {l:eK},nx H p l→∀j o,iK l j=some o→H (p.t.getD j 0)=some o
  |[],_,_,_,e=>by cases e
  |(k,x)::l,h,j,o,e=>by
   simp only[nx]at h
   simp only[iK]at e
   cases av:k==j with
   |true=>rw[av]at e; cases e
          have:k=j:=by simpa using av
          subst this; exact h.1
   |false=>rw[av]at e; exact nx.get h.2 j o e
def nodupB:List Nat→Bool
  |[]=>true
  |a::l=> !l.contains a&&nodupB l
theorem FQ: ∀ {l:List Nat},nodupB l=true→∀(i j x:Nat),l[i]? =some x→l[j]? =some x→i=j
  |[],_,i,j,x,h,_=>by simp at h
  |a::l,h,0,0,x,_,_=>rfl
  |a::l,h,0,j+1,x,U,aa=>by
   simp only[nodupB,bb6,bg6]at h
   simp at U aa
   subst U
   have:=bc2 aa
   simp [this]at h
  |a::l,h,i+1,0,x,U,aa=>by
   simp only[nodupB,bb6,bg6]at h
   simp at U aa
   subst aa
   have:=bc2 U
   simp [this]at h
  |a::l,h,i+1,j+1,x,U,aa=>by
   simp only[nodupB,bb6]at h
   simp at U aa
   rw[FQ h.2 i j x U aa]
def AT (n t:Nat):Out→Bool
  | .ret a=>a.du n t
  | .ey a=>a.du n t
def Out.eP (p:bx):Out→Out
  | .ret a=> .ret (a.eP p)
  | .ey a=> .ey (a.eP p)
theorem Y1 {cq:eJ}{p:bx}{b:Nat}{q:Nat×TypeId×List I}(h:cq.find? (fun q=>p.b.getD q.1 0==b)=some q):q∈cq∧p.b.getD q.1 0=b:=⟨bs6 h,by simpa using List.find?_some h⟩
section
variable {P:Program}{f:FuncId}{dS:List I}{c Dx:aN}{uR:Out→aN→Prop}
theorem bg.frame (p:bx){fP:eJ}{fY:eK}{n t:Nat}{Q:Out→aN→Prop}(h:bg P f dS (aN.of n t fP fY) uR) (a1:p.b.length=n) (aL:p.t.length=t)
    (bG:(nodupB p.b&&nodupB p.t)=true) (BP: ∀(i x:Nat),p.b[i]? =some x→x<c.bP) (cz: ∀(i x:Nat),p.t[i]? =some x→x<c.bh) (hb:(dw n t dS&&(eA n t fP&&eB n t fY))=true) (dD:nw c.H.aY p fP) (c4:nx c.H.tok p fY)
    (bu: ∀o c1,uR o c1→∃cq cH,jX c1.H cq∧jY c1.H cH∧(eA n t cq&&(eB n t cH&&AT n t o))=true∧Q (o.eP p) (c.kk p cq cH)):bg P f (e7 p dS) c Q:=fun H0 s iF H aS ac=>by
  subst a1 aL
  simp only[bb6]at bG hb
  obtain⟨EY,M3⟩:=bG
  obtain⟨mP,gH,EU⟩:=hb
  have hp:p.Sub s:=⟨fun i x e=>by rw[←ac.bP]; exact BP i x e,fun i x e=>by rw[←ac.bh]; exact cz i x e⟩
  have tW: ∀ {i x:Nat},p.b[i]? =some x→s.b[x]? =some (s.b.getD x 0):=fun e=>lB (hp.b _ _ e)
  have lD: ∀ {i x:Nat},p.t[i]? =some x→s.t[x]? =some (s.t.getD x 0):=fun e=>lB (hp.t _ _ e)
  let AB:aA:=⟨fun x=>if x∈(p.comp s).b then none else H.aY x,fun x=>if x∈(p.comp s).t then none else H.tok x⟩
  have af1:eR AB (p.comp s) (aN.of p.b.length p.t.length fP fY) H:=by
    refine⟨⟨⟨fun x y e=> ?_,fun x y e=> ?_⟩,fun b T cs e=> ?_,fun b o e=> ?_,fun b x e=> ?_,fun b x e=> ?_,fun b bT x e ct=> ?_,fun b bT x e ct=> ?_⟩,by simp [aN.of,bx.comp],by simp [aN.of,bx.comp]⟩
    ·simp only[AB]at e
     split at e
     ·cases e
     ·exact e
    ·simp only[AB]at e
     split at e
     ·cases e
     ·exact e
    ·obtain⟨g1,g2⟩:=Dn gH b T cs e
     have g0:=lB (qt g1)
     obtain⟨x,cC,ci,cM,dE⟩:=ac.aY _ _ _ (dD.get b T cs e)
     exact⟨x,cC,by rw[DL g0,oA ci],cM,bk.comp hp cs cC g2 dE⟩
    ·obtain⟨g1,g2⟩:=Dp EU b o e
     have g0:=lB (qt g1)
     obtain⟨x,o',ci,cM,dE⟩:=ac.tok _ _ (c4.get b o e)
     exact⟨x,o',by rw[yu g0,oA ci],cM,h8.any g2 dE⟩
    ·obtain⟨y,ap,ay⟩:=uZ e
     have aD:=tW ap
     rw[ay]at aD
     refine⟨?_,(ac.lj y x aD).2⟩
     show (if x∈(p.comp s).b then none else H.aY x)=none
     rw[if_pos (bc2 e)]
    ·obtain⟨y,ap,ay⟩:=ss e
     have aD:=lD ap
     rw[ay]at aD
     refine⟨?_,(ac.kE y x aD).2⟩
     show (if x∈(p.comp s).t then none else H.tok x)=none
     rw[if_pos (bc2 e)]
    ·obtain⟨y,ap,ay⟩:=uZ e
     obtain⟨hZ,sw,Ec⟩:=uZ ct
     have aD:=tW ap
     have vm:=tW sw
     rw[ay]at aD
     rw[Ec]at vm
     have:=ac.lF _ _ _ aD vm
     subst this
     exact FQ EY _ _ _ ap sw
    ·obtain⟨y,ap,ay⟩:=ss e
     obtain⟨hZ,sw,Ec⟩:=ss ct
     have aD:=lD ap
     have vm:=lD sw
     rw[ay]at aD
     rw[Ec]at vm
     have:=ac.mv _ _ _ aD vm
     subst this
     exact FQ M3 _ _ _ ap sw
  refine (h AB (p.comp s) iF H (bk.comp hp dS iF mP aS) af1).mono fun o' aC ⟨bR,o,c1,er,a2,a3,a4⟩=> ?_
  obtain⟨cq,cH,g1,g2,g3,g4⟩:=bu o c1 a2
  simp only[bb6]at g3
  obtain⟨g3,g5,g6⟩:=g3
  have a5:=a4.cut g1 g2 (n:=p.b.length) (t:=p.t.length) (by
    rw[a4.bP]
    by_cases bN:p.b.length=0
    ·omega
    ·have ap:(p.comp s).b[p.b.length-1]? =some ((p.comp s).b.getD (p.b.length-1) 0):=lB (by simp only[bx.comp,bb5]; omega)
     have:=(List.getElem?_eq_some_iff.1 (er.b _ _ ap)).1
     omega) (by
    rw[a4.bh]
    by_cases bN:p.t.length=0
    ·omega
    ·have ap:(p.comp s).t[p.t.length-1]? =some ((p.comp s).t.getD (p.t.length-1) 0):=lB (by simp only[bx.comp,bb5]; omega)
     have:=(List.getElem?_eq_some_iff.1 (er.t _ _ ap)).1
     omega) g3 g5
  have es:(⟨bR.b.take p.b.length,bR.t.take p.t.length⟩:bx)=p.comp s:=by
    have ci:bR.b.take p.b.length=(p.comp s).b:=by
      apply bo6
      intro i
      rw[be8]
      split
      ·rename_i af
       have:=lB (l:=(p.comp s).b) (i:=i) (by simp only[bx.comp,bb5]; exact af)
       rw[this,er.b _ _ this]
      ·rename_i af
       rw[bj7 (by simp only[bx.comp,bb5]; omega)]
    have cM:bR.t.take p.t.length=(p.comp s).t:=by
      apply bo6
      intro i
      rw[be8]
      split
      ·rename_i af
       have:=lB (l:=(p.comp s).t) (i:=i) (by simp only[bx.comp,bb5]; exact af)
       rw[this,er.t _ _ this]
      ·rename_i af
       rw[bj7 (by simp only[bx.comp,bb5]; omega)]
    rw[ci,cM]
  have Dg:mG (p.comp s) o o':=by
    rw[←es]
    cases o<;>cases o'<;>simp only[mG,AT]at a3 g6 ⊢
    ·exact aM.cut _ _ a3 g6
    ·exact aM.cut _ _ a3 g6
  rw[es]at a5
  have Z1:HSub H0 aC:=⟨fun x y e=>a4.base.aY x y (by
      show (if x∈(p.comp s).b then none else H.aY x)=some y
      rw[if_neg ?_,ac.base.aY x y e]
      intro hm
      obtain⟨i,af⟩:=bf4 hm
      obtain⟨z,ap,ay⟩:=uZ af
      have aD:=tW ap
      rw[ay]at aD
      rw[(ac.lj _ _ aD).1]at e
      cases e),fun x y e=>a4.base.tok x y (by
      show (if x∈(p.comp s).t then none else H.tok x)=some y
      rw[if_neg ?_,ac.base.tok x y e]
      intro hm
      obtain⟨i,af⟩:=bf4 hm
      obtain⟨z,ap,ay⟩:=ss af
      have aD:=lD ap
      rw[ay]at aD
      rw[(ac.kE _ _ aD).1]at e
      cases e)⟩
  have ad5: ∀ {b x:Nat},s.b[b]? =some x→(x∈(p.comp s).b↔b∈p.b):=by
    intro b x e
    constructor
    ·intro hm
     obtain⟨i,af⟩:=bf4 hm
     obtain⟨z,ap,ay⟩:=uZ af
     have aD:=tW ap
     rw[ay]at aD
     rw[ac.lF _ _ _ e aD]
     exact bc2 ap
    ·intro hm
     obtain⟨i,af⟩:=bf4 hm
     have:=DL (s:=s) af
     rw[oA e]at this
     exact bc2 this
  have BQ: ∀ {b x:Nat},s.t[b]? =some x→(x∈(p.comp s).t↔b∈p.t):=by
    intro b x e
    constructor
    ·intro hm
     obtain⟨i,af⟩:=bf4 hm
     obtain⟨z,ap,ay⟩:=ss af
     have aD:=lD ap
     rw[ay]at aD
     rw[ac.mv _ _ _ e aD]
     exact bc2 ap
    ·intro hm
     obtain⟨i,af⟩:=bf4 hm
     have:=yu (s:=s) af
     rw[oA e]at this
     exact bc2 this
  refine⟨o',aC,by cases o'<;>exact c5.refl _,HSub.refl _,s,o.eP p,c.kk p cq cH,bx.eH.refl s,g4,?_,⟨⟨Z1,fun b T cs e=> ?_,fun b av1 e=> ?_,fun b x e=> ?_,fun b x e=> ?_,ac.lF,ac.mv⟩,ac.bP,ac.bh⟩⟩
  ·cases o<;>cases o'<;>simp only[mG,Out.eP,AT]at Dg g6 ⊢
   ·exact aM.split hp _ _ g6 Dg
   ·exact aM.split hp _ _ g6 Dg
  ·simp only[aN.kk,HA]at e
   cases hm:p.b.contains b with
   |false=>
    rw[hm,cond_false]at e
    obtain⟨x,cC,ci,cM,dE⟩:=ac.aY b T cs e
    refine⟨x,cC,ci,a4.base.aY x _ ?_,dE⟩
    show (if x∈(p.comp s).b then none else H.aY x)= _
    rw[if_neg ?_,cM]
    rw[ad5 ci]
    intro a6
    simp [a6]at hm
   |true=>
    rw[hm,cond_true]at e
    split at e
    ·rename_i q bu
     obtain⟨br,bB⟩:=Y1 bu
     cases e
     obtain⟨lG,tj,qw⟩:=q
     simp only at bB ⊢
     have vv:lG<p.b.length∧dw p.b.length p.t.length qw=true∧∃x cC,(p.comp s).b[lG]? =some x∧aC.aY x=some (tj,cC)∧bk (p.comp s) qw cC:=by
       have xc: ∀(l:eJ),jX c1.H l→eA p.b.length p.t.length l=true→(lG,tj,qw)∈l→c1.H.aY lG=some (tj,qw)∧lG<p.b.length∧dw p.b.length p.t.length qw=true:=by
         intro l
         induction l with
         |nil=>intro _ _ h; simp at h
         |cons q l b7=>
          intro U aa aD
          simp only[jX]at U
          simp only[eA,bb6,bo3]at aa
          simp only[be4]at aD
          rcases aD with aD|aD
          ·subst aD; exact⟨U.1,aa.1,aa.2.1⟩
          ·exact b7 U.2 aa.2.2 aD
       obtain⟨cm,cA,dk⟩:=xc cq g1 g3 br
       obtain⟨x,cC,s6,uF,x3⟩:=a4.aY lG tj qw cm
       have Hx:(p.comp s).b[lG]? =some x:=by
         have w:=lB (l:=(p.comp s).b) (i:=lG) (by simp only[bx.comp,bb5]; exact cA)
         have km:=er.b _ _ w
         rw[s6]at km
         cases km
         exact w
       refine⟨cA,dk,x,cC,Hx,uF,?_⟩
       have:=bk.cut (n:=p.b.length) (t:=p.t.length) _ _ x3 dk
       rw[es]at this
       exact this
     obtain⟨cA,dk,x,cC,s6,uF,x3⟩:=vv
     obtain⟨y,ap,ay⟩:=uZ s6
     have aD:=tW ap
     rw[ay]at aD
     rw[oA ap]at bB
     subst bB
     exact⟨x,cC,aD,uF,bk.split hp qw cC dk x3⟩
    ·cases e
  ·simp only[aN.kk,HB]at e
   cases hm:p.t.contains b with
   |false=>
    rw[hm,cond_false]at e
    obtain⟨x,cC,ci,cM,dE⟩:=ac.tok b av1 e
    refine⟨x,cC,ci,a4.base.tok x _ ?_,dE⟩
    show (if x∈(p.comp s).t then none else H.tok x)= _
    rw[if_neg ?_,cM]
    rw[BQ ci]
    intro a6
    simp [a6]at hm
   |true=>
    rw[hm,cond_true]at e
    split at e
    ·rename_i q bu
     have br:=bs6 bu
     have bB:p.t.getD q.1 0=b:=by simpa using List.find?_some bu
     cases e
     obtain⟨lG,Cf⟩:=q
     simp only at bB ⊢
     have xc: ∀(l:eK),jY c1.H l→eB p.b.length p.t.length l=true→(lG,Cf)∈l→c1.H.tok lG=some Cf∧lG<p.t.length∧ia Cf.lu=true:=by
       intro l
       induction l with
       |nil=>intro _ _ h; simp at h
       |cons q l b7=>
        intro U aa aD
        simp only[jY]at U
        simp only[eB,bb6,bo3]at aa
        simp only[be4]at aD
        rcases aD with aD|aD
        ·subst aD; exact⟨U.1,aa.1,aa.2.1⟩
        ·exact b7 U.2 aa.2.2 aD
     obtain⟨cm,cA,dk⟩:=xc cH g2 g5 br
     obtain⟨x,e4,s6,uF,x3⟩:=a4.tok lG Cf cm
     have Hx:(p.comp s).t[lG]? =some x:=by
       have w:=lB (l:=(p.comp s).t) (i:=lG) (by simp only[bx.comp,bb5]; exact cA)
       have km:=er.t _ _ w
       rw[s6]at km
       cases km
       exact w
     obtain⟨y,ap,ay⟩:=ss Hx
     have aD:=lD ap
     rw[ay]at aD
     rw[oA ap]at bB
     subst bB
     exact⟨x,e4,aD,uF,h8.any dk x3⟩
    ·cases e
  ·obtain⟨ci,y,cM⟩:=ac.lj b x e
   refine⟨ci,?_⟩
   by_cases hm:x∈(p.comp s).b
   ·obtain⟨i,af⟩:=bf4 hm
    exact (a4.lj i x (er.b _ _ af)).2
   ·exact⟨y,a4.base.aY x y (by show (if x∈(p.comp s).b then none else H.aY x)=some y; rw[if_neg hm]; exact cM)⟩
  ·obtain⟨ci,y,cM⟩:=ac.kE b x e
   refine⟨ci,?_⟩
   by_cases hm:x∈(p.comp s).t
   ·obtain⟨i,af⟩:=bf4 hm
    exact (a4.kE i x (er.t _ _ af)).2
   ·exact⟨y,a4.base.tok x y (by show (if x∈(p.comp s).t then none else H.tok x)=some y; rw[if_neg hm]; exact cM)⟩
def dA (v:I) (cq:eJ) (cH:eK):Out→aN→Prop:=fun o c=>o= .ret v∧jX c.H cq∧jY c.H cH
theorem bg.o6 (p:bx){fP kR:eJ}{fY ll:eK}{n t:Nat}{v:I}(h:bg P f dS (aN.of n t fP fY) (dA v kR ll)) (a1:p.b.length=n) (aL:p.t.length=t)
    (bG:(nodupB p.b&&nodupB p.t&&p.b.all (fun x=>bf8 x c.bP)&&p.t.all (fun x=>bf8 x c.bh))=true) (dD:nw c.H.aY p fP) (c4:nx c.H.tok p fY) (hb:(dw n t dS&&(eA n t fP&&eB n t fY))=true)
    (U:(eA n t kR&&(eB n t ll&&v.du n t))=true){az:List I}(aS:az=e7 p dS):bg P f az c (mH (v.eP p) (c.kk p kR ll)):=by
  simp only[bb6,bj8]at bG
  obtain⟨⟨⟨d1,d2⟩,d3⟩,d4⟩:=bG
  subst aS
  refine bg.frame p h a1 aL (by rw[d1,d2]; rfl) (fun i x e=>qt (d3 x (bc2 e))) (fun i x e=>qt (d4 x (bc2 e))) hb dD c4 ?_
  rintro o c1 ⟨rfl,aa,aD⟩
  exact⟨kR,ll,aa,aD,U,rfl,rfl⟩
end
end Go.ba
namespace Go.ba
open Go
section
variable {P:Program}{aQ:List bf}{cL t0:Nat}{k:List fs}{Q:Out→aN→Prop}{env:Env}{c c1:aN}{v r:I}{anns:List I}{l:List bK}{K:Env→aN→Prop}{Rp:I→aN→Prop}{d:Option Nat}{g:Option (Nat×Bool)}{x y i:aJ}{dG:IntKind}{size:Nat}{rows new:List (List I)}{row:List I}{a b:List UInt8}{z sd:Int}
theorem XC {z:Int}{len:Nat}(aW:0≤z) (U:z<len):rr z len=some z.toNat:=by
  match z,aW,U with
  | .ofNat n,_,U=>
    have:bf8 n len=true:=Nat.blt_eq.symm▸Int.ofNat_lt.1 U
    simp only[rr,this,cond_true]
    rfl
theorem Cg {z:Int}(aW:0≤z): ∃n:Nat,z= .ofNat n∧z.toNat=n:=⟨z.toNat,(Int.toNat_of_nonneg aW).symm,rfl⟩
theorem al.bU (hw:wanted ⟨d,g,.bin .add x y⟩ env=some true) (ab:bl env x= .str a) (a8:bl env y= .str b) (hb:a.length+b.length≤maxLen) (h:al P anns l (env.put d (.str (a++b))) c K Rp):al P anns (⟨d,g,.bin .add x y⟩::l) env c K Rp:=
  al.o hw rfl (by simp only[eu,lx,fe,ab,a8,wK,bh2 hb,cond_true]<;>rfl) h
theorem al.aj8 (hw:wanted ⟨d,g,.hV size x i⟩ env=some true) (ab:bl env x= .aq size rows) (af:bl env i= .int dG z) (aW:0≤z) (ac:rows[z.toNat]? =some row) (h:al P anns l (env.put d (.ed row 0)) c K Rp):al P anns (⟨d,g,.hV size x i⟩::l) env c K Rp:=by
  obtain⟨n,ap,ay⟩:=Cg aW
  rw[ay]at ac
  subst ap
  exact al.o hw rfl (by simp only[eu,lx,fe,ab,af,beq_self_eq_true,cond_true,ac]<;>rfl) h
theorem al.aj4 {t:Nat}(hw:wanted ⟨d,g,.hV size x i⟩ env=some true) (ab:bl env x= .own t size rows) (af:bl env i= .int dG z) (aW:0≤z) (ac:rows[z.toNat]? =some row) (h:al P anns l (env.put d (.ed row 0)) c K Rp):al P anns (⟨d,g,.hV size x i⟩::l) env c K Rp:=by
  obtain⟨n,ap,ay⟩:=Cg aW
  rw[ay]at ac
  subst ap
  exact al.o hw rfl (by simp only[eu,lx,fe,ab,af,beq_self_eq_true,cond_true,ac]<;>rfl) h
theorem al.aj6 {u:UInt8}(hw:wanted ⟨d,g,.fQ x i⟩ env=some true) (ab:bl env x= .str a) (af:bl env i= .int dG z) (aW:0≤z) (ac:a[z.toNat]? =some u) (h:al P anns l (env.put d (.int .u8 u.toNat)) c K Rp):al P anns (⟨d,g,.fQ x i⟩::l) env c K Rp:=by
  obtain⟨n,ap,ay⟩:=Cg aW
  rw[ay]at ac
  subst ap
  exact al.o hw rfl (by simp only[eu,lx,fe,ab,af,ac]<;>rfl) h
theorem al.aM2 {b3 af:Option aJ}{p q:Nat}(hw:wanted ⟨d,g,.iB x b3 af⟩ env=some true) (ab:bl env x= .str a) (aG:mL env 0 b3=some p) (a6:mL env a.length af=some q) (U:p≤q) (aa:q≤a.length) (h:al P anns l (env.put d (.str ((a.take q).drop p))) c K Rp):al P anns (⟨d,g,.iB x b3 af⟩::l) env c K Rp:=
  al.o hw rfl (by simp only[eu,lx,fe,ab,aG,a6,bh2 U,bh2 aa,be0,cond_true]<;>rfl) h
theorem al.SL {b3 af:Option aJ}{p q:Nat}(hw:wanted ⟨d,g,.gJ size x b3 af none⟩ env=some true) (ab:na size (bl env x)=some rows) (aG:mL env 0 b3=some p) (a6:mL env rows.length af=some q) (U:p≤q) (aa:q≤rows.length) (h:al P anns l (env.put d (.aq size ((rows.take q).drop p))) c K Rp):al P anns (⟨d,g,.gJ size x b3 af none⟩::l) env c K Rp:=
  al.o hw rfl (by simp only[eu,lx,fe,ab,aG,a6,bh2 U,bh2 aa,be0,cond_true]<;>rfl) h
theorem au8 {env:Env}{DY:Nat}{x:aJ}{z:Int}(ab:bl env x= .int dG z) (aW:0≤z):mL env DY (some x)=some z.toNat:=by
  obtain⟨n,ap,ay⟩:=Cg aW
  subst ap
  simp only[mL,ab]
  rfl
theorem al.iE {T bytes t:Nat}(hw:wanted ⟨d,g,.append T size bytes x y⟩ env=some true) (ab:bl env x= .own t size rows) (aL:c.H.tok t=some (.bY T size rows.length)) (a8:rowsOf size (bl env y)=some new) (hb:(rows.length+new.length)*bytes≤140737488355328) (hm:rows.length+new.length≤maxLen) (h:al P anns l (env.put d (.own t size (rows++new))) (c.ck t (.bY T size (rows.length+new.length))) K Rp):al P anns (⟨d,g,.append T size bytes x y⟩::l) env c K Rp:=
  al.o hw rfl (by simp only[eu,lx,a8,ab,DH,aL,bM.bY,beq_self_eq_true,bh2 hb,bh2 hm,be0,cond_true]<;>rfl) h
theorem L7 {env:Env}{j:Nat}{v:I}(h:env.get j=v): ∀i,Env.get ((j,v)::env) i=env.get i:=fun i=>by
  simp only[Env.get]
  cases af:j==i with
  |true=>have:j=i:=by simpa using af
         subst this; exact h.symm
  |false=>rfl
theorem al.gs {j:Nat}{t:Bool}{op:bc}{b:Bool}(hb:env.get j= .bool b) (U:b=true→al P anns (⟨d,some (j,t),op⟩::l) ((j,.bool true)::env) c K Rp) (aa:b=false→al P anns (⟨d,some (j,t),op⟩::l) ((j,.bool false)::env) c K Rp):al P anns (⟨d,some (j,t),op⟩::l) env c K Rp:=fun H0 s bb H K' jo he ac dL iS=>by
  cases b with
  |true=>exact U rfl H0 s bb H K' jo (fun i=>by rw[L7 hb i]; exact he i) ac dL iS
  |false=>exact aa rfl H0 s bb H K' jo (fun i=>by rw[L7 hb i]; exact he i) ac dL iS
theorem ar.c9 {ops:List bK}{draw:Bool}(h:al P [] ops env c (fun e c1=>ar P aQ cL t0 k Q e c1) (fun v c1=>Q (.ey v) c1)):ar P aQ cL t0 (.c (.region ops draw)::k) Q env c:=ar.gC h
theorem al.aj3 {p d:Nat}(ac:rows[p]? =some row) (ab:bl env x= .aq size rows) (af:bl env i= .int dG z) (e:z=p) (h:al P anns l ((d,.ed row 0)::env) c K Rp):al P anns (⟨some d,none,.hV size x i⟩::l) env c K Rp:=al.aj8 rfl ab af (by omega) (by rw[e,bi8]; exact ac) h
theorem al.aj5 {p d t:Nat}(ac:rows[p]? =some row) (ab:bl env x= .own t size rows) (af:bl env i= .int dG z) (e:z=p) (h:al P anns l ((d,.ed row 0)::env) c K Rp):al P anns (⟨some d,none,.hV size x i⟩::l) env c K Rp:=al.aj4 rfl ab af (by omega) (by rw[e,bi8]; exact ac) h
theorem al.aj7 {p d:Nat}{u:UInt8}(ac:a[p]? =some u) (ab:bl env x= .str a) (af:bl env i= .int dG z) (e:z=p) (h:al P anns l ((d,.int .u8 u.toNat)::env) c K Rp):al P anns (⟨some d,none,.fQ x i⟩::l) env c K Rp:=al.aj6 rfl ab af (by omega) (by rw[e,bi8]; exact ac) h
theorem Cj {env:Env}{DY:Nat}{x:aJ}{z:Int}{p:Nat}(ab:bl env x= .int dG z) (e:z=p):mL env DY (some x)=some p:=by subst e; rw[au8 ab (by omega),bi8]
theorem al.G2 {b3:aJ}(p:Nat){d:Nat}(ab:na size (bl env x)=some rows) (aG:bl env b3= .int dG z) (ap:z=p) (U:p≤rows.length) (h:al P anns l ((d,.aq size (rows.drop p))::env) c K Rp):al P anns (⟨some d,none,.gJ size x (some b3) none none⟩::l) env c K Rp:=al.SL rfl ab (Cj aG ap) rfl U (bc1 _) (by rw[List.take_length]; exact h)
theorem al.uw {af:aJ}(q:Nat){d:Nat}(ab:na size (bl env x)=some rows) (aG:bl env af= .int dG z) (ap:z=q) (U:q≤rows.length) (h:al P anns l ((d,.aq size (rows.take q))::env) c K Rp):al P anns (⟨some d,none,.gJ size x none (some af) none⟩::l) env c K Rp:=al.SL rfl ab rfl (Cj aG ap) (bc3 _) U h
theorem al.zY {b3 af:aJ}(p q:Nat){d:Nat}{FB:IntKind}(ab:bl env x= .str a) (aG:bl env b3= .int dG z) (a6:bl env af= .int FB sd) (ap:z=p) (ay:sd=q) (U:p≤q) (aa:q≤a.length) (h:al P anns l ((d,.str ((a.take q).drop p))::env) c K Rp):al P anns (⟨some d,none,.iB x (some b3) (some af)⟩::l) env c K Rp:=al.aM2 rfl ab (Cj aG ap) (Cj a6 ay) U aa h
theorem al.Xg {d:Nat}(ab:bl env x= .str a) (a8:bl env y= .str b) (hb:a.length+b.length≤maxLen) (h:al P anns l ((d,.str (a++b))::env) c K Rp):al P anns (⟨some d,none,.bin .add x y⟩::l) env c K Rp:=al.bU rfl ab a8 hb h
theorem al.Ik {T bytes t d:Nat}(ab:bl env x= .own t size rows) (aL:c.H.tok t=some (.bY T size rows.length)) (a8:rowsOf size (bl env y)=some new) (hb:(rows.length+new.length)*bytes≤140737488355328) (hm:rows.length+new.length≤maxLen) (h:al P anns l ((d,.own t size (rows++new))::env) (c.ck t (.bY T size (rows.length+new.length))) K Rp):al P anns (⟨some d,none,.append T size bytes x y⟩::l) env c K Rp:=al.iE rfl ab aL a8 hb hm h
theorem Oa {α β:Type}(f:α→β){l:List α}{i:Nat}{v:α}(h:l[i]? =some v):(l.map f)[i]? =some (f v):=by simp [h]
theorem al.fw {α:Type}{f:α→List I}{w:α}{m:List α}{p d:Nat}(ab:bl env x= .aq size (m.map f)) (af:bl env i= .int dG z) (ac:m[p]? =some w) (e:z=p) (h:al P anns l ((d,.ed (f w) 0)::env) c K Rp):al P anns (⟨some d,none,.hV size x i⟩::l) env c K Rp:=al.aj3 (Oa f ac) ab af e h
theorem al.fx {α:Type}{f:α→List I}{w:α}{m:List α}{p d t:Nat}(ab:bl env x= .own t size (m.map f)) (af:bl env i= .int dG z) (ac:m[p]? =some w) (e:z=p) (h:al P anns l ((d,.ed (f w) 0)::env) c K Rp):al P anns (⟨some d,none,.hV size x i⟩::l) env c K Rp:=al.aj5 (Oa f ac) ab af e h
theorem al.fy {u:UInt8}{p d:Nat}(ab:bl env x= .str a) (af:bl env i= .int dG z) (ac:a[p]? =some u) (e:z=p) (h:al P anns l ((d,.int .u8 u.toNat)::env) c K Rp):al P anns (⟨some d,none,.fQ x i⟩::l) env c K Rp:=al.aj7 ac ab af e h
theorem ar.tK (j size T:Nat) (bm:env.get j= .bi) (aW:size≠0) (h:ar P aQ cL t0 k Q ((j,.own c.bh size [])::env) (c.gO (.bY T size 0))):ar P aQ cL t0 k Q env c:=fun H0 ez s bb H R a1 aL ao he ac ag=>by
  refine cr.conv (fun ct aC=> ∃t,H.tok t=none∧ct=(j,.own t size [])::bb∧aC=H.ck t (.bY T size 0)) ?_ ?_
  ·intro m fL bd
   subst fL
   obtain⟨cm,ap,v1⟩:=FL bd (T:=T) aW
   refine⟨_,_,_,_,⟨m.T,r2 bd,rfl,rfl⟩,cm,ap,fun i w hw=> ?_⟩
   simp only[Env.get]
   cases af:j==i with
   |true=>
    have:j=i:=by simpa using af
    subst this
    have bo:=he j
    rw[bm]at bo
    simp only[aM]at bo
    rw[bo]at hw
    simp only[aP]at hw
    subst hw
    exact v1
   |false=>exact aP.aI ap _ _ hw
  ·rintro ct aC ⟨t,U,rfl,rfl⟩
   refine h H0 ez ⟨s.b,s.t++[t]⟩ _ _ R a1 aL (ao.trans (bx.lH s t)) ?_ (ac.gO h8.bY U) ag
   refine (he.mono (bx.lH s t)).put (d:=some j) ?_
   simp only[aM]
   exact⟨t,[],by rw[ac.bh]; exact oj,rfl,by simp only[cd]⟩
theorem ar.vi (p o size qk:Nat){T:TypeId}{cs:List I}(hb:c.H.aY p=some (T,cs)) (aj:cs[o]? =some .bi) (aW:size≠0) (h:ar P aQ cL t0 k Q env ((c.gO (.bY qk size 0)).cp p T (cs.set o (.own c.bh size [])))):ar P aQ cL t0 k Q env c:=fun H0 ez s bb H R a1 aL ao he ac ag=>by
  obtain⟨x,cC,ci,cM,dE⟩:=ac.aY p T cs hb
  have mR:cC[o]? =some .bi:=by
    obtain⟨v,ap,ay⟩:=dE.get o _ aj
    simp only[aM]at ay
    rw[ap,ay]
  refine cr.conv (fun ct aC=> ∃t,H.tok t=none∧ct=bb∧aC=(H.ck t (.bY qk size 0)).cp x T (cC.set o (.own t size []))) ?_ ?_
  ·intro m fL bd
   subst fL
   obtain⟨cm,ap,v1⟩:=FL bd (T:=qk) aW
   obtain⟨l,rN,mr,y8⟩:=cm.aY x T cC cM
   obtain⟨v,zg,sJ⟩:=mr.get o _ mR
   simp only[aP]at sJ
   subst sJ
   have tT:=mr.set o v1
   rw[B5 zg]at tT
   have cA:=bW.iW cm (w':=m.w) (b:=x) (T:=T) cM rfl rfl rfl rfl (fun _ _=>rfl) rN tT y8
   have ay:=bV.iW cm (w':=m.w) (b:=x) (T:=T) (cs:=cC.set o (.own m.T size [])) cM rfl rfl rfl rfl (fun _ _=>rfl)
   exact⟨bb,_,_,_,⟨m.T,r2 bd,rfl,rfl⟩,cA,ap.trans ay,fun j v ad=>aP.aI (ap.trans ay) _ _ ad⟩
  ·rintro ct aC ⟨t,U,rfl,rfl⟩
   have b6:=ac.gO (s:=s) (x:=t) (h8.bY (s:=s) (T:=qk) (size:=size) (n:=0)) U
   refine h H0 ez ⟨s.b,s.t++[t]⟩ _ _ R a1 aL (ao.trans (bx.lH s t)) (he.mono (bx.lH s t)) (b6.cp ci ?_) ag
   have: ∀ {az l:List I}(_:bk s az l) (n:Nat){a v:I},aM ⟨s.b,s.t++[t]⟩ a v→bk ⟨s.b,s.t++[t]⟩ (az.set n a) (l.set n v):=by
     intro az
     induction az with
     |nil=>intro l h n a v _; simp only[bk]at h; subst h; simp [bk]
     |cons a az b7=>
      intro l h n b v ad
      simp only[bk]at h
      obtain⟨w,ws,rfl,U,aa⟩:=h
      cases n with
      |zero=>simp only[List.set_cons_zero,bk]; exact⟨_,_,rfl,ad,bk.mono (bx.lH s t) _ _ aa⟩
      |succ n=>simp only[List.set_cons_succ,bk]; exact⟨_,_,rfl,aM.mono (bx.lH s t) _ _ U,b7 aa n ad⟩
   refine this dE o ?_
   simp only[aM]
   exact⟨t,[],by rw[ac.bh]; exact oj,rfl,by simp only[cd]⟩
def yc {X:Type}(E:X→Env) (C:X→aN) (eG:X→Prop) (bC:X→Nat):Nat→Env→aN→Prop:=fun m env c=> ∃x,eG x∧env=E x∧c=C x∧bC x=m
theorem ar.cU {X:Type}{body:bp}(nj:X) (E:X→Env) (B:X→eJ) (T:X→eK) (eG:X→Prop) (bC:X→Nat) (aW:eG nj) (he:pE env (E nj)) (hb:jX c.H (B nj)) (aL:jY c.H (T nj)) (h: ∀x,eG x→ar P aQ cL t0 (.c body:: .mX (yc E (fun x=>aN.of c.bP c.bh (B x) (T x)) eG bC) (bC x)::k) Q (E x) (aN.of c.bP c.bh (B x) (T x))):ar P aQ cL t0 (.c (.loop body)::k) Q env c:=
  ar.B3 (E nj) (B nj) (T nj) he hb aL (ar.loop (yc E (fun x=>aN.of c.bP c.bh (B x) (T x)) eG bC) (bC nj) ⟨nj,aW,rfl,rfl,rfl⟩ fun m e cJ ⟨x,U,aa,aD,bA⟩=>by subst aa aD bA; exact h x U)
theorem ar.eC {X:Type}{E:X→Env}{bP bh:Nat}{B:X→eJ}{T:X→eK}{eG:X→Prop}{bC:X→Nat}{m0:Nat}(x:X) (aW:eG x) (he:pE env (E x)) (hb:jX c.H (B x)) (aL:jY c.H (T x)) (a1:c.bP=bP) (hm:c.bh=bh) (U:bC x<m0):ar P aQ cL t0 (.mX (yc E (fun x=>aN.of bP bh (B x) (T x)) eG bC) m0::k) Q env c:=
  ar.B3 (E x) (B x) (T x) he hb aL (ar.round (bC x) ⟨x,aW,rfl,by rw[a1,hm],rfl⟩ U)
theorem ar.jS {X:Type}{E:X→Env}{bP bh:Nat}{B:X→eJ}{T:X→eK}{eG:X→Prop}{bC:X→Nat}{m0:Nat}(x:X) (aW:eG x) (he:pE env (E x)) (hb:jX c.H (B x)) (aL:jY c.H (T x)) (a1:(be1 cL bP&&(be1 bP c.bP&&(be1 t0 bh&&be1 bh c.bh)))=true) (bG:(im bP bh (E x)&&(eA bP bh (B x)&&eB bP bh (T x)))=true) (U:bC x<m0):ar P aQ cL t0 (.mX (yc E (fun x=>aN.of bP bh (B x) (T x)) eG bC) m0::k) Q env c:=
  ar.cut bP bh (E x) (B x) (T x) he hb aL a1 bG (ar.round (bC x) ⟨x,aW,rfl,rfl,rfl⟩ U)
end
section
variable {P:Program}{aQ:List bf}{cL t0:Nat}{k:List fs}{Q:Out→aN→Prop}{env:Env}{c:aN}
abbrev HP {X:Type}(P:Program) (aQ:List bf) (cL t0:Nat) (k:List fs) (Q:Out→aN→Prop) (E:X→Env) (bP bh:Nat) (B:X→eJ) (T:X→eK) (eG:X→Prop):Prop:=∀(env:Env) (c:aN) (x:X),eG x→pE env (E x)→jX c.H (B x)→jY c.H (T x)→c.bP=bP→c.bh=bh→ar P aQ cL t0 k Q env c
theorem ar.IB {X:Type}{id:Nat}{b:bp}(E:X→Env) (B:X→eJ) (T:X→eK) (eG:X→Prop) (aa: ∀x,eG x→ar P aQ cL t0 k Q (E x) (aN.of c.bP c.bh (B x) (T x))) (U:HP P aQ cL t0 k Q E c.bP c.bh B T eG→ar P aQ cL t0 (.c b:: .aY id::k) Q env c):ar P aQ cL t0 (.c (.block id b)::k) Q env c:=
  ar.block (U fun e cJ x ab he hb aL a1 hm=>ar.B3 (E x) (B x) (T x) he hb aL (by rw[a1,hm]; exact aa x ab))
theorem ar.aK2 {X:Type}{a b:bp}(E:X→Env) (B:X→eJ) (T:X→eK) (eG:X→Prop) (aa: ∀x,eG x→ar P aQ cL t0 (.c b::k) Q (E x) (aN.of c.bP c.bh (B x) (T x))) (U:HP P aQ cL t0 (.c b::k) Q E c.bP c.bh B T eG→ar P aQ cL t0 (.c a:: .c b::k) Q env c):ar P aQ cL t0 (.c (.seq a b)::k) Q env c:=
  ar.seq (U fun e cJ x ab he hb aL a1 hm=>ar.B3 (E x) (B x) (T x) he hb aL (by rw[a1,hm]; exact aa x ab))
end
theorem ml {α:Type}{f:α→List I}(h: ∀x,b2 (f x)=true): ∀(l:List α),eY (l.map f)=true
  |[]=>rfl
  |a::l=>by simp only[bd4,eY,h,ml h l,bc0]
mutual
theorem TF: ∀(a:I),a.flat=true→a.aF=a
  | .agg cs,h=>by simp only[I.flat]at h; simp only[I.aF,HF cs h]
  | .c3 cs,h=>by simp only[I.flat]at h; simp only[I.aF,HF cs h]
  | .own _ _ _,h=>by simp [I.flat]at h
  | .eD,_=>rfl
  | .bool _,_=>rfl
  | .int _ _,_=>rfl
  | .str _,_=>rfl
  | .dV _,_=>rfl
  | .ptr _ _,_=>rfl
  | .aq _ _,_=>rfl
  | .cV _ _,_=>rfl
  | .mp _ _ _,_=>rfl
  | .ed _ _,_=>rfl
  | .fn _ _,_=>rfl
  | .hW _ _,_=>rfl
theorem HF: ∀(l:List I),b2 l=true→kn l=l
  |[],_=>rfl
  |a::l,h=>by simp only[b2,bb6]at h; simp only[kn,TF a h.1,HF l h.2]
end
mutual
inductive rl:I→I→Prop
  |aF {v r:I}(h:v.aF=r) (aT:r.flat=true):rl v r
  |nil {n:Nat}:rl .bi (.aq n [])
  |agg {az ca:List I}(h:rn az ca):rl (.agg az) (.agg ca)
  |c3 {az ca:List I}(h:rn az ca):rl (.c3 az) (.c3 ca)
inductive rn:List I→List I→Prop
  |nil:rn [] []
  |cons {a b:I}{az ca:List I}(h:rl a b) (t:rn az ca):rn (a::az) (b::ca)
end
mutual
theorem rl.le: ∀ {v r:I},rl v r→∀(s:bx) (bD:I),aM s v bD→c5 bD r
  | _,_,.aF h aT,s,bD,ad=>by subst h; exact fun m y a8=>As _ bD ad aT y a8
  | _,_,.nil,s,bD,ad=>by simp only[aM]at ad; subst ad; exact c5.nil
  | _,_,.agg h,s,bD,ad=>by simp only[aM]at ad; obtain⟨l,e,aG⟩:=ad; subst e; exact AO (rn.le h s l aG)
  | _,_,.c3 h,s,bD,ad=>by simp only[aM]at ad; obtain⟨l,e,aG⟩:=ad; subst e; exact Un (rn.le h s l aG)
theorem rn.le: ∀ {az ca:List I},rn az ca→∀(s:bx) (l:List I),bk s az l→dZ l ca
  | _,_,.nil,s,l,h=>by simp only[bk]at h; subst h; exact pN
  | _,_,.cons h t,s,l,aG=>by simp only[bk]at aG; obtain⟨v,aq,e,U,aa⟩:=aG; subst e; exact fm (rl.le h s v U) (rn.le t s aq aa)
end
def uT (r:I) (cq:eJ) (cH:eK):Out→aN→Prop:=fun o c=> ∃v,o= .ret v∧rl v r∧jX c.H cq∧jY c.H cH
theorem bg.rw {P:Program}{f:FuncId}{az:List I}{c:aN}{r:I}{cq:eJ}{cH:eK}(h:bg P f az c (uT r cq cH)) (ac:r.flat=true):bg P f az c (dA r cq cH):=fun H0 s iF H aS a6=>
  (h H0 s iF H aS a6).mono fun o aC ⟨bR,e4,c1,er,⟨v,ap,ay,b1,dC⟩,a3,a4⟩=>by
    subst ap
    cases o with
    |ey w=>simp only[mG]at a3
    |ret w=>exact⟨.ret r,aC,rl.le ay bR w a3,HSub.refl _,bR,.ret r,c1,er,⟨rfl,b1,dC⟩,(I.lA _ ac _).2 rfl,a4⟩
theorem bg.ai7 {P:Program}{f:FuncId}{az:List I}{c:aN}{aQ:List bf}{r:I}{cq:eJ}{cH:eK}{fn:Func}{e:bp}(hm:P.follows .mixedOrders=true) (aT:P.funcs[f]? =some fn) (an:bL P fn az.length e aQ=true) (ac:r.flat=true) (h:ar P aQ c.bP c.bh [.c e] (uT r cq cH) (lE az) c):bg P f az c (dA r cq cH):=(bg.intro hm aT an h).rw ac
theorem cw {P:Program}{f:FuncId}{az:List I}{aQ:List bf}{r:I}{fn:Func}{e:bp}(hm:P.follows .mixedOrders=true) (aT:P.funcs[f]? =some fn) (an:bL P fn az.length e aQ=true) (aS:b2 az=true) (ac:r.flat=true) (h:ar P aQ 0 0 [.c e] (uT r [] []) (lE az) .new):Pure P f az r:=
  bg.pure (bg.ai7 hm aT an ac h) aS ac fun o c1 ⟨e,_,_⟩=>⟨r,e,TF r ac⟩
end Go.ba
namespace Go.ba
open Go
def nH (b:Nat):eJ→eJ
  |[]=>[]
  |(k,x)::l=>bif k==b then nH b l else (k,x)::nH b l
def qX (b:Nat):eK→eK
  |[]=>[]
  |(k,x)::l=>bif k==b then qX b l else (k,x)::qX b l
theorem zv {b j:Nat}(h:(b==j)=false): ∀(l:eJ),gS (nH b l) j=gS l j
  |[]=>rfl
  |(k,x)::l=>by
   simp only[nH,gS]
   cases av:k==b with
   |true=>
    have e:k=b:=by simpa using av
    subst e
    rw[cond_true,h,cond_false,zv h l]
   |false=>simp only[cond_false,gS,zv h l]
theorem zw {b j:Nat}(h:(b==j)=false): ∀(l:eK),iK (qX b l) j=iK l j
  |[]=>rfl
  |(k,x)::l=>by
   simp only[qX,iK]
   cases av:k==b with
   |true=>
    have e:k=b:=by simpa using av
    subst e
    rw[cond_true,h,cond_false,zw h l]
   |false=>simp only[cond_false,iK,zw h l]
def pu:List Nat→eJ→eJ
  |[],l=>l
  |b::ca,l=>nH b (pu ca l)
def qa:List Nat→eK→eK
  |[],l=>l
  |b::ca,l=>qX b (qa ca l)
def p8 (p:bx):eJ→eJ
  |[]=>[]
  |q::l=>(p.b.getD q.1 0,q.2.1,e7 p q.2.2)::p8 p l
def p9 (p:bx):eK→eK
  |[]=>[]
  |q::l=>(p.t.getD q.1 0,q.2)::p9 p l
def oZ:eJ→eJ→eJ
  |[],m=>m
  |q::l,m=>q::oZ l m
def o0:eK→eK→eK
  |[],m=>m
  |q::l,m=>q::o0 l m
theorem GM {j:Nat}: ∀(ca:List Nat),ca.contains j=true→∀l,gS (pu ca l) j=none
  |[],h,_=>by simp at h
  |b::ca,h,l=>by
   have key: ∀(l:eJ),gS (nH j l) j=none:=by
     intro l
     induction l with
     |nil=>rfl
     |cons q l b7=>
      obtain⟨k,x⟩:=q
      simp only[nH]
      cases av:k==j with
      |true=>rw[cond_true]; exact b7
      |false=>simp only[cond_false,gS,av]; exact b7
   simp only[pu]
   by_cases e:b=j
   ·subst e; exact key _
   ·have ct:(b==j)=false:=by simpa using e
    rw[zv ct]
    refine GM ca ?_ l
    simp only[bg3,bm0,beq_iff_eq]at h
    exact h.resolve_left fun h=>e h.symm
theorem Sn {j:Nat}: ∀(ca:List Nat),ca.contains j=true→∀l,iK (qa ca l) j=none
  |[],h,_=>by simp at h
  |b::ca,h,l=>by
   have key: ∀(l:eK),iK (qX j l) j=none:=by
     intro l
     induction l with
     |nil=>rfl
     |cons q l b7=>
      obtain⟨k,x⟩:=q
      simp only[qX]
      cases av:k==j with
      |true=>rw[cond_true]; exact b7
      |false=>simp only[cond_false,iK,av]; exact b7
   simp only[qa]
   by_cases e:b=j
   ·subst e; exact key _
   ·have ct:(b==j)=false:=by simpa using e
    rw[zw ct]
    refine Sn ca ?_ l
    simp only[bg3,bm0,beq_iff_eq]at h
    exact h.resolve_left fun h=>e h.symm
theorem Sm {j:Nat}: ∀(ca:List Nat),ca.contains j=false→∀l,gS (pu ca l) j=gS l j
  |[],_,_=>rfl
  |b::ca,h,l=>by
   simp only[bg3,Bool.or_eq_false_iff,beq_eq_false_iff_ne]at h
   simp only[pu]
   rw[zv (by simpa using fun e=>h.1 (Eq.symm e)),Sm ca h.2]
theorem So {j:Nat}: ∀(ca:List Nat),ca.contains j=false→∀l,iK (qa ca l) j=iK l j
  |[],_,_=>rfl
  |b::ca,h,l=>by
   simp only[bg3,Bool.or_eq_false_iff,beq_eq_false_iff_ne]at h
   simp only[qa]
   rw[zw (by simpa using fun e=>h.1 (Eq.symm e)),So ca h.2]
section
variable {n t b:Nat}{cq kR:eJ}{cH ll:eK}{T:TypeId}{cs:List I}{o:bM}
theorem yw {a c:aN}(U: ∀j,a.H.aY j=c.H.aY j) (aa: ∀j,a.H.tok j=c.H.tok j) (aD:a.bP=c.bP) (bA:a.bh=c.bh):a=c:=by
  obtain⟨⟨er,a2⟩,a3,a4⟩:=a
  obtain⟨⟨c1,cb⟩,eW,gE⟩:=c
  simp only at U aa aD bA
  have ap:er=c1:=funext U
  have ay:a2=cb:=funext aa
  subst ap ay aD bA
  rfl
theorem FU:(aN.of n t cq cH).cp b T cs=aN.of n t ((b,T,cs)::nH b cq) cH:=yw (fun j=>by
  simp only[aN.cp,aN.of,aA.cp,gS]
  cases bm:b==j with
  |true=>have e:b=j:=by simpa using bm
         subst e; simp
  |false=>have e: ¬j=b:=fun e=>by subst e; simp at bm
          rw[if_neg e,cond_false,zv bm]) (fun j=>rfl) rfl rfl
theorem Pe:(aN.of n t cq cH).pI T cs=aN.of (n+1) t ((n,T,cs)::cq) cH:=yw (fun j=>by
  simp only[aN.pI,aN.of,aA.cp,gS]
  cases bm:n==j with
  |true=>have e:n=j:=by simpa using bm
         subst e; simp
  |false=>have e: ¬j=n:=fun e=>by subst e; simp at bm
          exact if_neg e) (fun j=>rfl) rfl rfl
theorem Pj:(aN.of n t cq cH).ck b o=aN.of n t cq ((b,o)::qX b cH):=yw (fun j=>rfl) (fun j=>by
  simp only[aN.ck,aN.of,aA.ck,iK]
  cases bm:b==j with
  |true=>have e:b=j:=by simpa using bm
         subst e; simp
  |false=>have e: ¬j=b:=fun e=>by subst e; simp at bm
          rw[if_neg e,cond_false,zw bm]) rfl rfl
theorem zF:(aN.of n t cq cH).gO o=aN.of n (t+1) cq ((t,o)::cH):=yw (fun j=>rfl) (fun j=>by
  simp only[aN.gO,aN.of,aA.ck,iK]
  cases bm:t==j with
  |true=>have e:t=j:=by simpa using bm
         subst e; simp
  |false=>have e: ¬j=t:=fun e=>by subst e; simp at bm
          exact if_neg e) rfl rfl
theorem mV {p:bx}:(aN.of n t cq cH).kk p kR ll=aN.of n t (oZ ((p8 p kR).filter fun q=>p.b.contains q.1) (pu p.b cq)) (o0 ((p9 p ll).filter fun q=>p.t.contains q.1) (qa p.t cH)):=yw (fun j=>by
  simp only[aN.kk,aN.of,HA]
  cases an:p.b.contains j with
  |true=>
   rw[cond_true]
   induction kR with
   |nil=>simp only[bu1,p8,bl9,oZ]; rw[GM p.b an]
   |cons q l b7=>
    simp only[bu1,p8]
    cases bu:p.b.getD q.1 0==j with
    |true=>
     have e:p.b.getD q.1 0=j:=by simpa using bu
     rw[e]
     simp only[bl9,an,oZ,gS,beq_self_eq_true,cond_true]
    |false=>
     simp only[bl9]
     cases bG:p.b.contains (p.b.getD q.1 0) with
     |true=>simp only[oZ,gS,bu,cond_false]; exact b7
     |false=>exact b7
  |false=>
   rw[cond_false]
   induction kR with
   |nil=>simp only[p8,bl9,oZ]; rw[Sm p.b an]
   |cons q l b7=>
    simp only[p8,bl9]
    cases bG:p.b.contains (p.b.getD q.1 0) with
    |true=>
     have:(p.b.getD q.1 0==j)=false:=by
       cases bm:p.b.getD q.1 0==j with
       |false=>rfl
       |true=>have e:p.b.getD q.1 0=j:=by simpa using bm
              rw[e,an]at bG; cases bG
     simp only[oZ,gS,this,cond_false]; exact b7
    |false=>exact b7) (fun j=>by
  simp only[aN.kk,aN.of,HB]
  cases an:p.t.contains j with
  |true=>
   rw[cond_true]
   induction ll with
   |nil=>simp only[bu1,p9,bl9,o0]; rw[Sn p.t an]
   |cons q l b7=>
    simp only[bu1,p9]
    cases bu:p.t.getD q.1 0==j with
    |true=>
     have e:p.t.getD q.1 0=j:=by simpa using bu
     rw[e]
     simp only[bl9,an,o0,iK,beq_self_eq_true,cond_true]
    |false=>
     simp only[bl9]
     cases bG:p.t.contains (p.t.getD q.1 0) with
     |true=>simp only[o0,iK,bu,cond_false]; exact b7
     |false=>exact b7
  |false=>
   rw[cond_false]
   induction ll with
   |nil=>simp only[p9,bl9,o0]; rw[So p.t an]
   |cons q l b7=>
    simp only[p9,bl9]
    cases bG:p.t.contains (p.t.getD q.1 0) with
    |true=>
     have:(p.t.getD q.1 0==j)=false:=by
       cases bm:p.t.getD q.1 0==j with
       |false=>rfl
       |true=>have e:p.t.getD q.1 0=j:=by simpa using bm
              rw[e,an]at bG; cases bG
     simp only[o0,iK,this,cond_false]; exact b7
    |false=>exact b7) rfl rfl
theorem xC {j:Nat}:(aN.of n t cq cH).H.aY j=gS cq j:=rfl
theorem FV {j:Nat}:(aN.of n t cq cH).H.tok j=iK cH j:=rfl
theorem Pf:(aN.of n t cq cH).bP=n:=rfl
theorem Ph:(aN.of n t cq cH).bh=t:=rfl
theorem Pg:aN.new=aN.of 0 0 [] []:=rfl
theorem DN {l:List I}{agg:Bool}{o n:Nat}:ou l agg o n=if o+n≤l.length then I.iA agg ((l.drop o).take n) else none:=by
  unfold ou
  by_cases h:o+n≤l.length
  ·rw[bh2 h,if_pos h,cond_true]
  ·rw[if_neg h]
   cases hb:be1 (o+n) l.length with
   |true=>exact absurd (bh6 hb) h
   |false=>rfl
theorem Jy {c:aN}{b o n:Nat}{x:I}:tw c b o n x=match c.H.aY b with
  |some (T,cs)=>if (x.ea=true∧x.cells.length=n)∧(o+n≤cs.length∧x.cells.all I.one=true) then some (.undef,c.cp b T (gg cs o x.cells)) else none
  |none=>none:=by
  unfold tw
  cases e:c.H.aY b with
  |none=>rfl
  |some q=>
   obtain⟨T,cs⟩:=q
   simp only[]
   by_cases h:(x.ea=true∧x.cells.length=n)∧(o+n≤cs.length∧x.cells.all I.one=true)
   ·rw[if_pos h,h.1.1,h.1.2,h.2.2,bh2 h.2.1]
    simp
   ·rw[if_neg h]
    cases hb:(x.ea&&x.cells.length==n)&&(be1 (o+n) cs.length&&x.cells.all I.one) with
    |false=>rfl
    |true=>
     simp only[bb6,beq_iff_eq,bj9]at hb
     exact absurd hb h
theorem Pn:I.one (.dV (.slice none 0 0))=true:=rfl
theorem Pc:(Value.slice none 0 0).oneCell'=true:=rfl
theorem Pd:(Value.pointer none).oneCell'=true:=rfl
theorem Po:I.one (.dV (.pointer none))=true:=rfl
theorem Je {env:Env}{j:Nat}:bl env (.t j)=env.get j:=rfl
theorem Jd {env:Env}{a:I}:bl env (.c a)=bif a.flat then a else .eD:=rfl
theorem xJ {env:Env}{d:Nat}{v:I}:env.put (some d) v=(d,v)::env:=rfl
theorem xI {env:Env}{v:I}:env.put none v=env:=rfl
theorem rH {a d:Nat}{l:List Nat}:(a::l).getD 0 d=a:=rfl
theorem Mt {a d i:Nat}{l:List Nat}:(a::l).getD (i+1) d=l.getD i d:=rfl
section
variable {env:Env}{c:aN}{x y z:aJ}{zero l:List I}{PI:List (Nat×Nat×aJ)}{sV:List (Nat×aJ)}{agg:Bool}{n m e3:Nat}{AU:BinOp}{bH:List l8}{dG:IntKind}{xs:List aJ}{b3 af lX:Option aJ}{T:TypeId}
theorem I8 {env:Env}{cells:List I}:sq env cells []=some cells:=rfl
theorem I7 {env:Env}{cells:List I}{off size:Nat}{x:aJ}{rest:List (Nat×Nat×aJ)}:sq env cells ((off,size,x)::rest)=if (bl env x).ea=true∧((bl env x).cells.length=size∧off+size≤cells.length) then sq env (gg cells off (bl env x).cells) rest else none:=by
  simp only[sq]
  by_cases h:(bl env x).ea=true∧((bl env x).cells.length=size∧off+size≤cells.length)
  ·rw[if_pos h,h.1,h.2.1,bh2 h.2.2]
   simp
  ·rw[if_neg h]
   cases hb:(bl env x).ea&&((bl env x).cells.length==size&&be1 (off+size) cells.length) with
   |false=>rfl
   |true=>
    simp only[bb6,beq_iff_eq,bj9]at hb
    exact absurd hb h
theorem DK {n:Int}{len:Nat}:rr n len=if 0≤n∧n<len then some n.toNat else none:=by
  by_cases h:0≤n∧n<len
  ·rw[if_pos h,XC h.1 h.2]
  ·rw[if_neg h]
   cases an:rr n len with
   |none=>rfl
   |some k=>exact absurd ⟨(wN an).1,(wN an).2.1⟩ h
theorem TI {n:Int}(aW:0≤n) (U:n≤18446744073709551615):IntKind.u64.wrap n=n:=by rw[IntKind.wrap_u64]; omega
theorem TJ {n:Int}(aW:0≤n) (U:n≤255):IntKind.u8.wrap n=n:=by rw[IntKind.wrap_u8]; omega
theorem Ot {α:Type}{b:Int}{x y:α}(h:0≤b):(if 0≤b then x else y)=x:=if_pos h
theorem O2:eu (.gI x) env c=(fe (.gI x) env c.H).map fun v=>(v,c):=rfl
theorem O6:eu (.pick x y z) env c=(fe (.pick x y z) env c.H).map fun v=>(v,c):=rfl
theorem O4:eu (.gn x) env c=(fe (.gn x) env c.H).map fun v=>(v,c):=rfl
theorem OF:eu (.build zero PI) env c=(fe (.build zero PI) env c.H).map fun v=>(v,c):=rfl
theorem OV:eu (.load agg n x) env c=(fe (.load agg n x) env c.H).map fun v=>(v,c):=rfl
theorem OW:eu (.gb e3 agg n x) env c=(fe (.gb e3 agg n x) env c.H).map fun v=>(v,c):=rfl
theorem OX:eu (.qP agg n x) env c=(fe (.qP agg n x) env c.H).map fun v=>(v,c):=rfl
theorem OL:eu (.nZ n x) env c=(fe (.nZ n x) env c.H).map fun v=>(v,c):=rfl
theorem OM:eu (.field agg n m x) env c=(fe (.field agg n m x) env c.H).map fun v=>(v,c):=rfl
theorem ON:eu (.hV n x y) env c=(fe (.hV n x y) env c.H).map fun v=>(v,c):=rfl
theorem OO:eu (.mS n m x y) env c=(fe (.mS n m x y) env c.H).map fun v=>(v,c):=rfl
theorem OP:eu (.jw agg n m x y) env c=(fe (.jw agg n m x y) env c.H).map fun v=>(v,c):=rfl
theorem OQ:eu (.fQ x y) env c=(fe (.fQ x y) env c.H).map fun v=>(v,c):=rfl
theorem Oz:eu (.bin AU x y) env c=(fe (.bin AU x y) env c.H).map fun v=>(v,c):=rfl
theorem OA:eu (.qq AU x y) env c=(fe (.qq AU x y) env c.H).map fun v=>(v,c):=rfl
theorem OJ:eu (.nX agg T bH x y) env c=(fe (.nX agg T bH x y) env c.H).map fun v=>(v,c):=rfl
theorem O5:eu (.not x) env c=(fe (.not x) env c.H).map fun v=>(v,c):=rfl
theorem O7:eu (.qV agg x) env c=(fe (.qV agg x) env c.H).map fun v=>(v,c):=rfl
theorem O3:eu (.neg x) env c=(fe (.neg x) env c.H).map fun v=>(v,c):=rfl
theorem OG:eu (.conv dG x) env c=(fe (.conv dG x) env c.H).map fun v=>(v,c):=rfl
theorem OU:eu (.iV x) env c=(fe (.iV x) env c.H).map fun v=>(v,c):=rfl
theorem OS:eu (.len x) env c=(fe (.len x) env c.H).map fun v=>(v,c):=rfl
theorem OT:eu (.p1 n) env c=(fe (.p1 n) env c.H).map fun v=>(v,c):=rfl
theorem OY:eu (.kf agg xs) env c=(fe (.kf agg xs) env c.H).map fun v=>(v,c):=rfl
theorem O8:eu (.iB x b3 af) env c=(fe (.iB x b3 af) env c.H).map fun v=>(v,c):=rfl
theorem O9:eu (.gJ n x b3 af lX) env c=(fe (.gJ n x b3 af lX) env c.H).map fun v=>(v,c):=rfl
theorem OK:eu (.extract n x) env c=(fe (.extract n x) env c.H).map fun v=>(v,c):=rfl
theorem OZ:eu (.jJ n xs) env c=(fe (.jJ n xs) env c.H).map fun v=>(v,c):=rfl
theorem O0:eu (.sO n xs) env c=(fe (.sO n xs) env c.H).map fun v=>(v,c):=rfl
theorem OI:eu (.nT agg x) env c=(fe (.nT agg x) env c.H).map fun v=>(v,c):=rfl
theorem OH:eu (.jP T x) env c=(fe (.jP T x) env c.H).map fun v=>(v,c):=rfl
theorem O1:eu (.pj T x) env c=(fe (.pj T x) env c.H).map fun v=>(v,c):=rfl
theorem OR:eu (.pd agg x) env c=(fe (.pd agg x) env c.H).map fun v=>(v,c):=rfl
theorem OC:eu (.et T n m l sV) env c=(fe (.et T n m l sV) env c.H).map fun v=>(v,c):=rfl
theorem OB:eu (.box T x) env c=bif (bl env x).ea&&(bl env x).cells.all I.one then some (.ptr c.bP 0,c.pI T (bl env x).cells) else none:=rfl
theorem Oy:eu (.alloc T zero) env c=bif b2 zero&&zero.all I.one then some (.ptr c.bP 0,c.pI T zero) else none:=rfl
theorem Pa:eu (.store n x y) env c=(match bl env x with
    | .ptr b o=>tw c b o n (bl env y)
    | .mp t aU k=>yx c t aU k n (bl env y)
    | _=>none):=rfl
theorem Pb {others:List Nat}:eu (.gK e3 others n x y) env c=(match env.get e3,bl env x with
    | .ptr b 0,.ptr bT o=>bif bT==b&&others.all (io env b) then tw c b o n (bl env y) else none
    | _,_=>none):=rfl
theorem OE:eu (.lr T n m zero sV) env c=bif rs env n sV then some (.own c.bh n (qv env sV),c.gO (.bY T n (qv env sV).length)) else none:=rfl
theorem OD:eu (.ma T n m zero sV) env c=bif rs env n sV then some (.cV c.bh 0,c.gO (.bC T n 0 (qv env sV))) else none:=rfl
end
end
end Go.ba
namespace Go.ba
open Go
mutual
def I.py:I→Bool
  | .eD=>false
  | .agg cs=>oN cs
  | .c3 cs=>oN cs
  | .aq _ rows=>eY rows
  | .own _ _ rows=>eY rows
  | .ed row _=>b2 row
  | .fn _ cap=>oN cap
  | .hW _ v=>v.py
  | _=>true
def oN:List I→Bool
  |[]=>true
  |a::az=>a.py&&oN az
end
theorem Mn {s:bx}{az l bZ:List (List I)}(h:eY az=true) (U:cd s az l) (aa:cd s az bZ):l=bZ:=((qC az h l).1 U).trans ((qC az h bZ).1 aa).symm
theorem Y3 {s:bx}{az l bZ:List I}(h:b2 az=true) (U:bk s az l) (aa:bk s az bZ):l=bZ:=((mM az h l).1 U).trans ((mM az h bZ).1 aa).symm
mutual
theorem aM.same {s:bx}: ∀(a v bD:I),a.py=true→aM s a v→aM s a bD→v=bD
  | .eD,_,_,h,_,_=>by simp [I.py]at h
  | .ptr b o,_,_,_,U,aa=>by simp only[aM]at*; obtain⟨x,ap,rfl⟩:=U; obtain⟨y,ay,rfl⟩:=aa; rw[ap]at ay; cases ay; rfl
  | .cV b o,_,_,_,U,aa=>by simp only[aM]at*; obtain⟨x,ap,rfl⟩:=U; obtain⟨y,ay,rfl⟩:=aa; rw[ap]at ay; cases ay; rfl
  | .mp b o k,_,_,_,U,aa=>by simp only[aM]at*; obtain⟨x,ap,rfl⟩:=U; obtain⟨y,ay,rfl⟩:=aa; rw[ap]at ay; cases ay; rfl
  | .agg cs,_,_,h,U,aa=>by simp only[I.py]at h; simp only[aM]at*; obtain⟨l,rfl,ap⟩:=U; obtain⟨m,rfl,ay⟩:=aa; rw[bk.same cs l m h ap ay]
  | .c3 cs,_,_,h,U,aa=>by simp only[I.py]at h; simp only[aM]at*; obtain⟨l,rfl,ap⟩:=U; obtain⟨m,rfl,ay⟩:=aa; rw[bk.same cs l m h ap ay]
  | .fn f cs,_,_,h,U,aa=>by simp only[I.py]at h; simp only[aM]at*; obtain⟨l,rfl,ap⟩:=U; obtain⟨m,rfl,ay⟩:=aa; rw[bk.same cs l m h ap ay]
  | .hW t a,_,_,h,U,aa=>by simp only[I.py]at h; simp only[aM]at*; obtain⟨l,rfl,ap⟩:=U; obtain⟨m,rfl,ay⟩:=aa; rw[aM.same a l m h ap ay]
  | .aq n rows,_,_,h,U,aa=>by simp only[I.py]at h; simp only[aM]at*; obtain⟨l,rfl,ap⟩:=U; obtain⟨m,rfl,ay⟩:=aa; rw[Mn h ap ay]
  | .ed row o,_,_,h,U,aa=>by simp only[I.py]at h; simp only[aM]at*; obtain⟨l,rfl,ap⟩:=U; obtain⟨m,rfl,ay⟩:=aa; rw[Y3 h ap ay]
  | .own t n rows,_,_,h,U,aa=>by
    simp only[I.py]at h
    simp only[aM]at*
    obtain⟨x,l,bN,rfl,ap⟩:=U
    obtain⟨y,m,JV,rfl,ay⟩:=aa
    rw[bN]at JV
    cases JV
    rw[Mn h ap ay]
  | .bool _,_,_,_,U,aa=>by simp only[aM]at*; rw[U,aa]
  | .int _ _,_,_,_,U,aa=>by simp only[aM]at*; rw[U,aa]
  | .str _,_,_,_,U,aa=>by simp only[aM]at*; rw[U,aa]
  | .dV _,_,_,_,U,aa=>by simp only[aM]at*; rw[U,aa]
theorem bk.same {s:bx}: ∀(az l bZ:List I),oN az=true→bk s az l→bk s az bZ→l=bZ
  |[],_,_,_,U,aa=>by simp only[bk]at*; rw[U,aa]
  |a::az,_,_,h,U,aa=>by
   simp only[oN,bb6]at h
   simp only[bk]at*
   obtain⟨v,aq,rfl,er,a2⟩:=U
   obtain⟨w,ws,rfl,e5,il⟩:=aa
   rw[aM.same a v w h.1 er e5,bk.same az aq ws h.2 a2 il]
end
theorem bx.eH.eq {s bR:bx}(h:bx.eH s bR) (U:bR.b.length=s.b.length) (aa:bR.t.length=s.t.length):bR=s:=by
  obtain⟨b,t⟩:=s
  obtain⟨bT,dv⟩:=bR
  simp only at U aa
  have ap:bT=b:=by
    apply bo6
    intro i
    by_cases af:i<b.length
    ·have:=lB af
     rw[this]; exact h.b _ _ this
    ·rw[bj7 (by omega),bj7 (by omega)]
  have ay:dv=t:=by
    apply bo6
    intro i
    by_cases af:i<t.length
    ·have:=lB af
     rw[this]; exact h.t _ _ this
    ·rw[bj7 (by omega),bj7 (by omega)]
  rw[ap,ay]
section
variable {P:Program}{env:Env}{c:aN}{v:I}{anns:List I}{l:List bK}{K:Env→aN→Prop}{Rp:I→aN→Prop}{f:FuncId}{args:List aJ}{az:List I}
theorem al.Gb {d:Nat}{dS:List I}{r:I}(h:Pure P f az r) (aS:args.map (bl env)=dS) (hw:kn dS=az) (aT:b2 az=true) (ac:r.flat=true) (av:al P anns l ((d,r)::env) c K Rp):al P anns (⟨some d,none,.call f args⟩::l) env c K Rp:=
  al.st rfl (bg.FT h aT ac hw) aS av
end
end Go.ba
namespace Go.ba
open Go
def oB (a:I) (t:Bool):Option Bool:=match a with
  | .bool b=>some (b==t)
  | .dV (.tuple ⟨[]⟩)=>some false
  | _=>none
theorem MC {b t:Bool}:oB (.bool b) t=some (b==t):=rfl
theorem MD {t:Bool}:oB .undef t=some false:=rfl
def BA (g:Option (Nat×Bool)) (env:Env):Option Bool:=match g with
  |none=>some true
  |some (j,t)=>oB (env.get j) t
def dst (i:bK) (env:Env) (c:aN):Option (Env×aN):=match BA i.guard env with
  |some true=>(eu i.op env c).map fun q=>(env.put i.dst q.1,q.2)
  |some false=>some (env.put i.dst .undef,c)
  |none=>none
def zm (ex cq:Bool):List fs→Env→Option (List fs)
  | .c e::k,env=>match e with
    | .skip=>some k
    | .seq a b=>some (.c a:: .c b::k)
    | .block id b=>match cq with
      |true=>some (.c b:: .aY id::k)
      |false=>none
    | .exit id=>match ex with
      |true=>rT id k
      |false=>none
    | .cond x a b=>match bl env x with
      | .bool true=>some (.c a::k)
      | .bool false=>some (.c b::k)
      | _=>none
    | _=>none
  | .aY _::k,_=>some k
  | _,_=>none
section
variable {P:Program}{aQ:List bf}{cL t0:Nat}{k ff:List fs}{Q:Out→aN→Prop}{env bb:Env}{c cJ:aN}{anns:List I}{l:List bK}{i:bK}{K:Env→aN→Prop}{Rp:I→aN→Prop}
theorem al.s (hp:oJ i.op=false) (h:dst i env c=some (bb,cJ)) (av:al P anns l bb cJ K Rp):al P anns (i::l) env c K Rp:=by
  obtain⟨d,g,op⟩:=i
  have hw: ∀b,BA g env=some b→wanted ⟨d,g,op⟩ env=some b:=by
    intro b hb
    cases g with
    |none=>exact hb
    |some p=>exact hb
  unfold dst at h
  simp only at h hp
  split at h
  ·rename_i e
   simp only[bf2,Prod.mk.injEq]at h
   obtain⟨⟨v,c1⟩,U,aa,aD⟩:=h
   subst aa aD
   exact al.o (hw _ e) hp U av
  ·rename_i e
   simp only[Option.some.injEq,Prod.mk.injEq]at h
   obtain⟨aa,aD⟩:=h
   subst aa aD
   exact al.fB (hw _ e) hp av
  ·cases h
theorem al.ft {d:Option Nat}{j:Nat}{t:Bool}{op:bc}(h:oB (env.get j) t=some true) (av:al P anns (⟨d,none,op⟩::l) env c K Rp):al P anns (⟨d,some (j,t),op⟩::l) env c K Rp:=by
  unfold oB at h
  split at h
  ·rename_i b e
   simp only[Option.some.injEq,beq_iff_eq]at h
   exact al.EA e h av
  ·cases h
  ·cases h
theorem al.fu {d:Option Nat}{j:Nat}{t:Bool}{op:bc}(hp:oJ op=true) (h:oB (env.get j) t=some false) (av:al P anns l (env.put d .undef) c K Rp):al P (.undef::anns) (⟨d,some (j,t),op⟩::l) env c K Rp:=al.aL5 h hp av
theorem ar.s (ex cq:Bool) (h:zm ex cq k env=some ff) (av:ar P aQ cL t0 ff Q env c):ar P aQ cL t0 k Q env c:=by
  unfold zm at h
  split at h
  ·split at h
   ·cases h; exact .skip av
   ·cases h; exact .seq av
   ·cases cq with
    |true=>cases h; exact .block av
    |false=>cases h
   ·cases ex with
    |true=>exact .exit h av
    |false=>cases h
   ·split at h
    ·rename_i e; cases h; exact .mg e av
    ·rename_i e; cases h; exact .mf e av
    ·cases h
   ·cases h
  ·cases h; exact .iy av
  ·cases h
theorem al.o6 {f:FuncId}{args:List aJ}{d:Option Nat}(p:bx){dS:List I}{fP kR:eJ}{fY ll:eK}{n t:Nat}{v:I}(h:bg P f dS (aN.of n t fP fY) (dA v kR ll)) (an:(p.b.length==n&&(p.t.length==t&&(nodupB p.b&&(nodupB p.t&&(p.b.all (fun x=>bf8 x c.bP)&&(p.t.all (fun x=>bf8 x c.bh)&&(dw n t dS&&(eA n t fP&&(eB n t fY&&(eA n t kR&&(eB n t ll&&v.du n t)))))))))))=true) (dD:nw c.H.aY p fP) (c4:nx c.H.tok p fY) (aS:args.map (bl env)=e7 p dS) (av:al P anns l (env.put d (v.eP p)) (c.kk p kR ll) K Rp):al P anns (⟨d,none,.call f args⟩::l) env c K Rp:=by
  simp only[bb6,beq_iff_eq]at an
  obtain⟨c1,cb,eW,gE,ls,me,nP,o3,mK,mc,U1,Vb⟩:=an
  exact al.st rfl (bg.o6 p h c1 cb (by rw[eW,gE,ls,me]; rfl) dD c4 (by rw[nP,o3,mK]; rfl) (by rw[mc,U1,Vb]; rfl) rfl) aS av
end
end Go.ba
namespace Go.ba
open Go
section
variable {cY:Program}{aQ:List bf}{cL t0:Nat}{k ff:List fs}{Q:Out→aN→Prop}{env bb:Env}{c cJ:aN}{anns:List I}{l:List bK}{K:Env→aN→Prop}{Rp:I→aN→Prop}{d:Option Nat}{g:Option (Nat×Bool)}{op:bc}{j:Nat}{t b:Bool}{v bD:I}{x i:aJ}{dG:IntKind}{z:Int}{size p e:Nat}{f:FuncId}{args:List aJ}
theorem D.S (av:al cY anns l bb cJ K Rp) (hp:oJ op=false:=by rfl) (h:dst ⟨d,g,op⟩ env c=some (bb,cJ):=by simp (disch:=omega) only[go_sem,simprocAttr]<;>with_reducible rfl):al cY anns (⟨d,g,op⟩::l) env c K Rp:=al.s hp h av
theorem D.fg (ex cq:Bool) (av:ar cY aQ cL t0 ff Q env c) (h:zm ex cq k env=some ff:=by simp (disch:=omega) only[go_sem,simprocAttr]<;>with_reducible rfl):ar cY aQ cL t0 k Q env c:=ar.s ex cq h av
theorem D.W (av:al cY anns (⟨d,none,op⟩::l) env c K Rp) (h:oB (env.get j) t=some true:=by simp (disch:=omega) only[go_sem,simprocAttr]<;>with_reducible rfl):al cY anns (⟨d,some (j,t),op⟩::l) env c K Rp:=al.ft h av
theorem D.Z (av:al cY anns l (env.put d .undef) c K Rp) (hp:oJ op=true:=by rfl) (h:oB (env.get j) t=some false:=by simp (disch:=omega) only[go_sem,simprocAttr]<;>with_reducible rfl):al cY (.undef::anns) (⟨d,some (j,t),op⟩::l) env c K Rp:=al.fu hp h av
theorem D.G (U:b=true→al cY anns (⟨d,some (j,t),op⟩::l) ((j,.bool true)::env) c K Rp) (aa:b=false→al cY anns (⟨d,some (j,t),op⟩::l) ((j,.bool false)::env) c K Rp) (h:env.get j= .bool b:=by simp (disch:=omega) only[go_sem,simprocAttr]<;>with_reducible rfl):al cY anns (⟨d,some (j,t),op⟩::l) env c K Rp:=al.gs h U aa
theorem D.C {a cI:bp}(U:b=true→ar cY aQ cL t0 (.c a::k) Q env c) (aa:b=false→ar cY aQ cL t0 (.c cI::k) Q env c) (h:bl env x= .bool b:=by simp (disch:=omega) only[go_sem,simprocAttr]<;>with_reducible rfl):ar cY aQ cL t0 (.c (.cond x a cI)::k) Q env c:=ar.cond h U aa
theorem D.R (bu:Q (.ret v) c) (h:ov aQ env c.H=some v:=by simp (disch:=omega) only[go_sem,simprocAttr]<;>with_reducible rfl):ar cY aQ cL t0 (.c .ret::k) Q env c:=ar.ret h bu
theorem D.E (bu:Q (.ret v) c) (h:ov aQ env c.H=some v:=by simp (disch:=omega) only[go_sem,simprocAttr]<;>with_reducible rfl):ar cY aQ cL t0 [] Q env c:=ar.done h bu
theorem D.r (bu:Q (.ret v) c) (h:ov aQ env c.H=some v:=by simp (disch:=omega) only[go_sem,simprocAttr]<;>with_reducible rfl) (aW:ff=[]∨∃k,ff= .c .ret::k:=by first|exact .inl rfl|exact .inr ⟨_,rfl⟩):ar cY aQ cL t0 ff Q env c:=by
  rcases aW with rfl|⟨k,rfl⟩
  ·exact ar.done h bu
  ·exact ar.ret h bu
theorem D.rx (h:ov aQ env c.H=some v:=by simp (disch:=omega) only[go_sem,simprocAttr]<;>with_reducible rfl) (bu:Q (.ret v) c:=by exact⟨_,rfl,.aF rfl rfl,trivial,trivial⟩) (aW:ff=[]∨∃k,ff= .c .ret::k:=by first|exact .inl rfl|exact .inr ⟨_,rfl⟩):ar cY aQ cL t0 ff Q env c:=D.r bu h aW
theorem D.X {α:Type}{f:α→List I}{w:α}{m:List α}{d:Nat}(ac:m[p]? =some w) (av:al cY anns l ((d,.ed (f w) 0)::env) c K Rp) (ab:bl env x= .aq size (m.map f):=by simp (disch:=omega) only[go_sem,simprocAttr]<;>with_reducible rfl) (af:bl env i= .int dG z:=by simp (disch:=omega) only[go_sem,simprocAttr]<;>with_reducible rfl) (e:z=p:=by omega):al cY anns (⟨some d,none,.hV size x i⟩::l) env c K Rp:=al.fw ab af ac e av
theorem D.ja {α:Type}{f:α→List I}{w:α}{m:List α}{d q:Nat}(ac:m[p]? =some w) (av:al cY anns l ((d,.ed (f w) 0)::env) c K Rp) (ab:bl env x= .own q size (m.map f):=by simp (disch:=omega) only[go_sem,simprocAttr]<;>with_reducible rfl) (af:bl env i= .int dG z:=by simp (disch:=omega) only[go_sem,simprocAttr]<;>with_reducible rfl) (e:z=p:=by omega):al cY anns (⟨some d,none,.hV size x i⟩::l) env c K Rp:=al.fx ab af ac e av
theorem D.jb {u:UInt8}{d:Nat}{a:List UInt8}(ac:a[p]? =some u) (av:al cY anns l ((d,.int .u8 u.toNat)::env) c K Rp) (ab:bl env x= .str a:=by simp (disch:=omega) only[go_sem,simprocAttr]<;>with_reducible rfl) (af:bl env i= .int dG z:=by simp (disch:=omega) only[go_sem,simprocAttr]<;>with_reducible rfl) (e:z=p:=by omega):al cY anns (⟨some d,none,.fQ x i⟩::l) env c K Rp:=al.fy ab af ac e av
theorem D.F (s:bx){dS:List I}{fP kR:eJ}{fY ll:eK}{n q:Nat}{cb:aN}(h:bg cY f dS (aN.of n q fP fY) (dA v kR ll)) (av:al cY anns l (env.put d bD) cb K Rp) (an:(s.b.length==n&&(s.t.length==q&&(nodupB s.b&&(nodupB s.t&&(s.b.all (fun x=>bf8 x c.bP)&&(s.t.all (fun x=>bf8 x c.bh)&&(dw n q dS&&(eA n q fP&&(eB n q fY&&(eA n q kR&&(eB n q ll&&v.du n q)))))))))))=true:=by simp (disch:=omega) only[go_sem,simprocAttr]<;>rfl) (dD:nw c.H.aY s fP:=by repeat first|exact trivial|refine⟨rfl,?_⟩) (c4:nx c.H.tok s fY:=by repeat first|exact trivial|refine⟨rfl,?_⟩) (aS:args.map (bl env)=e7 s dS:=by simp (disch:=omega) only[go_sem,simprocAttr]<;>rfl) (ad:v.eP s=bD:=by simp (disch:=omega) only[go_sem,simprocAttr]<;>with_reducible rfl) (hu:c.kk s kR ll=cb:=by simp (disch:=omega) only[go_sem,simprocAttr]<;>with_reducible rfl):al cY anns (⟨d,none,.call f args⟩::l) env c K Rp:=by
  subst ad hu
  exact al.o6 s h an dD c4 aS av
theorem D.P {d:Nat}{az dS:List I}{r:I}(h:Pure cY f az r) (av:al cY anns l ((d,r)::env) c K Rp) (aS:args.map (bl env)=dS:=by simp (disch:=omega) only[go_sem,simprocAttr]<;>with_reducible rfl) (hw:kn dS=az:=by rfl) (aT:b2 az=true:=by simp (disch:=omega) only[go_sem,simprocAttr]<;>rfl) (ac:r.flat=true:=by simp (disch:=omega) only[go_sem,simprocAttr]<;>rfl):al cY anns (⟨some d,none,.call f args⟩::l) env c K Rp:=al.Gb h aS hw aT ac av
theorem D.ei {az dS:List I}{r:I}(h:Pure cY f az r) (av:al cY anns l (env.put d r) c K Rp) (aS:args.map (bl env)=dS:=by simp (disch:=omega) only[go_sem,simprocAttr]<;>with_reducible rfl) (hw:kn dS=az:=by rfl) (aT:b2 az=true:=by simp (disch:=omega) only[go_sem,simprocAttr]<;>rfl) (ac:r.flat=true:=by simp (disch:=omega) only[go_sem,simprocAttr]<;>rfl):al cY (r::anns) (⟨d,none,.jj f args⟩::l) env c K Rp:=al.nG rfl h (by rw[aS,hw]) aT ac av
theorem D.V {d:Nat}{az dS cap:List I}{r:I}(aT:c6 cY f=true) (h:Pure cY f az r) (av:al cY anns l ((d,r)::env) c K Rp) (ab:bl env x= .fn f cap:=by simp (disch:=omega) only[go_sem,simprocAttr]<;>with_reducible rfl) (aS:args.map (bl env)++cap=dS:=by simp (disch:=omega) only[go_sem,simprocAttr]<;>with_reducible rfl) (hw:kn dS=az:=by rfl) (aG:b2 az=true:=by simp (disch:=omega) only[go_sem,simprocAttr]<;>rfl) (ac:r.flat=true:=by simp (disch:=omega) only[go_sem,simprocAttr]<;>rfl):al cY anns (⟨some d,none,.gj x args⟩::l) env c K Rp:=al.HD rfl ab aT (bg.FT h aG ac hw) aS av
end
end Go.ba
namespace Go.ba
open Go
section
variable {P:Program}{aQ:List bf}{cL t0:Nat}{k:List fs}{Q:Out→aN→Prop}{env:Env}{c c1:aN}{v:I}
def sR (k:List fs):Bool:=k.all fun i=>match i with
  | .mX _ _=>false
  | _=>true
theorem FN {H0:aA}{ez:bx}: ∀ {k:List fs},sR k=true→(k.map (fs.mB H0 ez)).all (fun i=>match i with| .round _ _=>false| _=>true)=true
  |[],_=>rfl
  | .c e::k,h=>by
    simp only[sR,bd3,bc7]at h
    simp only[bd4,bd3,fs.mB,bc7]
    exact FN h
  | .aY i::k,h=>by
    simp only[sR,bd3,bc7]at h
    simp only[bd4,bd3,fs.mB,bc7]
    exact FN h
  | .mX _ _::k,h=>by simp [sR]at h
def wv (P:Program) (f:FuncId) (gx:List I) (x:I) (c:aN) (uS:aN→Prop):Prop:=
  ∀H0 s yq cN H,bk s gx yq→aM s x cN→eR H0 s c H→tf P f yq cN H fun dt=> ∃bR c1,bx.eH s bR∧uS c1∧eR H0 bR c1 dt
def tmpsOf (bb:Env) (kt:Env):Env:=kt.map fun p=>(p.1,bb.get p.1)
theorem Hd (bb:Env): ∀(kt:Env) (j:Nat),(tmpsOf bb kt).get j=bb.get j∨((tmpsOf bb kt).get j= .eD∧kt.get j= .eD)
  |[],_=> .inr ⟨rfl,rfl⟩
  |(i,v)::kt,j=>by
   simp only[tmpsOf,bd4,Env.get]
   cases e:i==j with
   |true=>
    have:i=j:=by simpa using e
    subst this
    exact .inl rfl
   |false=>exact Hd bb kt j
theorem NX {env:Env}: ∀(kt:Env),(∀p∈kt,env.get p.1=p.2)→∀j,kt.get j=env.get j∨kt.get j= .eD
  |[],_,_=> .inr rfl
  |(i,v)::kt,h,j=>by
   simp only[Env.get]
   cases e:i==j with
   |true=>
    have:i=j:=by simpa using e
    subst this
    exact .inl (h (i,v) List.mem_cons_self).symm
   |false=>exact NX kt (fun q bu=>h q (List.mem_cons_of_mem _ bu)) j
theorem aM.eD (s:bx) (x:I):aM s .eD x:=by simp only[aM]
def zB (t:Nat) (k:List fs):Bool:=k.all fun i=>match i with
  | .c e=>e.kF t
  | .aY _=>true
  | .mX _ _=>false
theorem FP {H0:aA}{ez:bx}{t:Nat}: ∀ {k:List fs},zB t k=true→(k.map (fs.mB H0 ez)).all (Item.kF t)=true
  |[],_=>rfl
  | .c e::k,h=>by
    simp only[zB,bd3,bb6]at h
    simp only[bd4,bd3,fs.mB,bb6]
    exact⟨h.1,FP h.2⟩
  | .aY i::k,h=>by
    simp only[zB,bd3,bc7]at h
    simp only[bd4,bd3,fs.mB,bb6]
    exact⟨rfl,FP h⟩
  | .mX _ _::k,h=>by simp [zB]at h
theorem FO {H0:aA}{ez s1:bx}: ∀ {k:List fs},sR k=true→k.map (fs.mB H0 ez)=k.map (fs.mB H0 s1)
  |[],_=>rfl
  | .c e::k,h=>by
    simp only[sR,bd3,bc7]at h
    simp only[bd4,fs.mB]
    rw[FO h]
  | .aY i::k,h=>by
    simp only[sR,bd3,bc7]at h
    simp only[bd4,fs.mB]
    rw[FO h]
  | .mX _ _::k,h=>by simp [sR]at h
theorem tf.mono {f:FuncId}{gx:List I}{x:I}{H:aA}{yg uS:aA→Prop}(h:tf P f gx x H yg) (bu: ∀aC,yg aC→uS aC):tf P f gx x H uS:=fun m aq ku U aa aD bA=>
  (h m aq ku U aa aD bA).mono fun e qf w' ⟨g1,g2,aC,gw,cG,g3,g4,g5⟩=>⟨g1,g2,aC,gw,cG,g3,g4,bu aC g5⟩
end
end Go.ba
namespace Go.ba
open Go
mutual
theorem sy {p:bx}: ∀(a:I),a.flat=true→a.eP p=a
  | .agg cs,h=>by simp only[I.flat]at h; simp only[I.eP,Bu cs h]
  | .c3 cs,h=>by simp only[I.flat]at h; simp only[I.eP,Bu cs h]
  | .fn _ cs,h=>by simp only[I.flat]at h; simp only[I.eP,Bu cs h]
  | .hW _ v,h=>by simp only[I.flat]at h; simp only[I.eP,sy v h]
  | .own _ _ _,h=>by simp [I.flat]at h
  | .ptr _ _,h=>by simp [I.flat]at h
  | .cV _ _,h=>by simp [I.flat]at h
  | .mp _ _ _,h=>by simp [I.flat]at h
  | .eD,_=>rfl
  | .bool _,_=>rfl
  | .int _ _,_=>rfl
  | .str _,_=>rfl
  | .dV _,_=>rfl
  | .aq _ _,_=>rfl
  | .ed _ _,_=>rfl
theorem Bu {p:bx}: ∀(l:List I),b2 l=true→e7 p l=l
  |[],_=>rfl
  |a::l,h=>by simp only[b2,bb6]at h; simp only[e7,sy a h.1,Bu l h.2]
end
mutual
theorem sx {n t:Nat}: ∀(a:I),a.flat=true→a.du n t=true
  | .agg cs,h=>by simp only[I.flat]at h; simp only[I.du,Bt cs h]
  | .c3 cs,h=>by simp only[I.flat]at h; simp only[I.du,Bt cs h]
  | .fn _ cs,h=>by simp only[I.flat]at h; simp only[I.du,Bt cs h]
  | .hW _ v,h=>by simp only[I.flat]at h; simp only[I.du,sx v h]
  | .own _ _ _,h=>by simp [I.flat]at h
  | .ptr _ _,h=>by simp [I.flat]at h
  | .cV _ _,h=>by simp [I.flat]at h
  | .mp _ _ _,h=>by simp [I.flat]at h
  | .eD,_=>rfl
  | .bool _,_=>rfl
  | .int _ _,_=>rfl
  | .str _,_=>rfl
  | .dV _,_=>rfl
  | .aq _ _,h=>by simpa only[I.flat,I.du] using h
  | .ed _ _,h=>by simpa only[I.flat,I.du] using h
theorem Bt {n t:Nat}: ∀(l:List I),b2 l=true→dw n t l=true
  |[],_=>rfl
  |a::l,h=>by simp only[b2,bb6]at h; simp only[dw,sx a h.1,Bt l h.2,bc0]
end
def rj (x:I):Out→aN→Prop:=fun o _=>o= .ey x
section
variable {P:Program}{aQ:List bf}{cL t0:Nat}{k:List fs}{Q:Out→aN→Prop}{env:Env}{c:aN}{anns:List I}{l:List bK}{K:Env→aN→Prop}{Rp:I→aN→Prop}{f:FuncId}{args:List aJ}{az dS:List I}
theorem bg.vg (p:bx){fP:eJ}{fY:eK}{n t:Nat}{x:I}(h:bg P f dS (aN.of n t fP fY) (rj x)) (a1:p.b.length=n) (aL:p.t.length=t)
    (bG:(nodupB p.b&&nodupB p.t&&p.b.all (fun x=>bf8 x c.bP)&&p.t.all (fun x=>bf8 x c.bh))=true) (dD:nw c.H.aY p fP) (c4:nx c.H.tok p fY) (hb:(dw n t dS&&(eA n t fP&&eB n t fY))=true)
    (ab:x.du n t=true) (ac:x.eP p=x){az:List I}(aS:az=e7 p dS):bg P f az c (fun o cJ=>o= .ey x∧cJ=c.kk p [] []):=by
  simp only[bb6,bj8]at bG
  obtain⟨⟨⟨d1,d2⟩,d3⟩,d4⟩:=bG
  subst aS
  refine bg.frame p h a1 aL (by rw[d1,d2]; rfl) (fun i x e=>qt (d3 x (bc2 e))) (fun i x e=>qt (d4 x (bc2 e))) hb dD c4 ?_
  rintro o c1 rfl
  refine⟨[],[],trivial,trivial,?_,?_,rfl⟩
  ·simp only[eA,eB,AT,ab,bc0]
  ·simp only[Out.eP,ac]
theorem av0 (o:Out):AE o o:=by cases o<;>first|exact c5.refl _|(simp only[AE]; exact c5.refl _)
theorem ar.dead (j T:Nat) (bm:c.H.tok j=some (.bY T 0 0)):ar P aQ cL t0 k Q env c:=fun H0 ez s bb H R a1 aL ao he ac ag=>by
  refine cr.conv (fun _ _=>False) ?_ fun _ _ h=>h.elim
  intro m fL bd
  subst fL
  obtain⟨x,i,U,aa,aD⟩:=ac.tok j _ bm
  have:=(bd.tok x i aa).2.1
  exact absurd (aD.2.1.trans rfl) this
theorem h7.DF {others:List Nat}{x jy:I}{cb:aN}(h:bg P f (args.map (bl env)) c (fun o cJ=>o= .ey x∧cJ=cb)) (Fo:jy.flat=true) (a1:cb.bP=c.bP) (aL:cb.bh=c.bh) (aj: ∀s∈others,∃bT cG cC,env.get s= .ptr bT 0∧c.H.aY bT=some (cG,cC)∧cb.H.aY bT=some (cG,cC)∧oN cC=true):h7 P (.gP others f args) env c (fun bD cJ=>bD=jy∧cJ=c.gO (.bY 0 0 0)) (fun bD cJ=>bD=x∧cJ=cb):=fun H0 s bb H K jo he ac dL iS=>by
  have ab2: ∀ {bR:bx}{aC:aA},bx.eH s bR→eR H0 bR cb aC→bR=s:=fun ci gU=>ci.eq (by rw[←gU.bP,a1,ac.bP]) (by rw[←gU.bh,aL,ac.bh])
  have U:=h H0 s _ H (nR he args) ac
  refine .gP (az:=args.map (aJ.aI bb)) (fun o aC=>(∃bR e4 c1,bx.eH s bR∧(e4= .ey x∧c1=cb)∧mG bR e4 o∧eR H0 bR c1 aC)∨(∃N,H.tok N=none∧o= .ret jy∧aC=H.ck N (.bY 0 0 0))) (fun j bm=> ?_) (fun cR=> ?_) (dZ.sZ _) (U.mono fun o aC bu=>⟨o,aC,av0 o,HSub.refl aC,.inl bu⟩) ?_
  ·obtain⟨bT,cG,cC,ap,ay,b1,dC⟩:=aj j bm
   have jh:=he j
   rw[ap]at jh
   simp only[aM]at jh
   obtain⟨y,g1,g2⟩:=jh
   refine⟨y,g2,fun o aC bu=> ?_⟩
   rcases bu with ⟨bR,e4,c1,ci,⟨_,dE⟩,gU,mz⟩|⟨N,_,_,rfl⟩
   ·subst dE
    have:=ab2 ci mz
    subst this
    obtain⟨z,aK,cm,cA,dk⟩:=ac.aY bT cG cC ay
    obtain⟨uP,fR,hF,mA,v7⟩:=mz.aY bT cG cC b1
    rw[g1]at cm hF
    cases cm
    cases hF
    rw[cA,mA,bk.same cC aK fR dC dk v7]
   ·rfl
  ·obtain⟨N,cP⟩:=cR
   refine⟨jy,_,.inr ⟨N,(cP N (bc1 _)).2,rfl,rfl⟩,N+1,fun m hm=>⟨(cP m (by omega)).1,?_⟩⟩
   simp only[aA.ck]
   rw[if_neg (by omega)]
   exact (cP m (by omega)).2
  ·rintro o aC (⟨bR,e4,c1,ci,⟨cM,dE⟩,gU,mz⟩|⟨N,aa,rfl,rfl⟩)
   ·subst cM dE
    cases o with
    |ret v=>simp only[mG]at gU
    |ey v=>exact iS bR _ v _ aC ci ⟨rfl,rfl⟩ gU mz
   ·exact dL ⟨s.b,s.t++[N]⟩ jy jy (c.gO (.bY 0 0 0)) _ (bx.lH s N) ⟨rfl,rfl⟩ ((I.lA jy Fo jy).2 rfl) (ac.gO h8.bY aa)
end
end Go.ba
