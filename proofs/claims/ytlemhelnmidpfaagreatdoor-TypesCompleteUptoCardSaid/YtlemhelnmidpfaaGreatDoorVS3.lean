/- Part of a proof; own work. -/
import Derived.Test.YtlemhelnmidpfaaGreatDoorVS2
set_option linter.unusedVariables false
set_option linter.unusedSimpArgs false
open Bool renaming and_eq_true→aT0,not_eq_true'→aX1,and_true→aW0,and_self→aT7,or_eq_true→bc7,true_and→aU7
open Int renaming toNat_natCast→aY6
open List renaming replicate→aU2,length_take→aX3,all_eq_true→bb1,map_cons→aU5,getElem?_take→aV6,getD_eq_getElem?_getD→aV9,getElem?_map→aZ7,mem_of_getElem?→aT6,mem_of_find?_eq_some→bk7,length_map→aT1,ext_getElem?→bc8,getElem?_eq_none→aY3,getElem?_of_mem→aW5,mem_cons→aV8,contains_cons→aZ1,find?→bl8,filter→bd8,all_cons→aV0,length_drop→bd3,length_cons→aT3,length_append→aT2,length_nil→aU1
open Nat renaming ble→aV2,ble_eq→bb2,le_of_ble_eq_true→aZ3,zero_le→aT8,blt→aW7,blt_eq→bg0,ble_eq_true_of_le→ba7,reduceBEq→bd1,reduceAdd→bd2
open Option renaming map_eq_some_iff→aW3
namespace Go.aX
open Go
def Rt (P:Program) (cl:vP):Prop:=∀f az c v cB,cl f az c=some (v,cB)→∀H0 s ha H,bd s az ha→ea H0 s c H→iu P f ha H fun o av=> ∃bF bp,bl.dU s bF∧o= .ret bp∧aI bF v bp∧ea H0 bF cB av
variable {P:Program}{s:bl}{env a7:Env}{H0 H:aw}{c cB:aJ}{K Rp:I→aw→Prop}{v:I}
theorem gm.bP {T size n:Nat}:gm s (.bP T size n) (.bP T size n):=⟨rfl,rfl,rfl,rfl,rfl⟩
theorem gm.bc {T size ver:Nat}{rows rows':List (List I)}(h:bV s rows rows'):gm s (.bc T size ver rows) (.bc T size ver rows'):=⟨rfl,rfl,rfl,rfl,rows',rfl,h⟩
theorem gm.bk {T ver:Nat}{rows rows':List (List I)}(h:bV s rows rows'):gm s (.bk T ver rows) (.bk T ver rows'):=⟨rfl,rfl,rfl,rfl,rows',rfl,h⟩
theorem dD.rN: ∀(l:List I),dD l l
 |[]=>by simp only[dD]
 |a::l=>by simp only[dD]; exact⟨_,_,rfl,cR.refl a,dD.rN l⟩
theorem HZ (he:gy s env a7){size:Nat}{parts:List (Nat×aH)}(h:rf env size parts=true):bV s (qe env parts) (jB a7 parts)∧(jB a7 parts).all (fun r=>r.length==size)=true∧(jB a7 parts).flatten.all I.one=true∧size≠0:=by
 simp only[rf,aT0,aX1,beq_eq_false_iff_ne]at h
 obtain⟨h1,J,aA,bz⟩:=h
 have hb:=Cy he parts h1
 exact⟨hb,bV.FL hb J,bd.w6 (bV.flatten hb) aA,bz⟩
theorem bV.ao2 {size n:Nat}{zero:List I}(h:b9 zero=true):bV s (aU2 n zero) (aU2 n zero):=by
 induction n with
 |zero=>simp [bV]
 |succ n b8=>simp only[List.replicate_succ,bV]; exact⟨_,_,rfl,(lM zero h _).2 rfl,b8⟩
theorem H6 {b o n x:Nat}{a cw:I}(aL:aI s a cw) (hb:s.b[b]? =some x) (ab:ea H0 s c H) (h:tf c b o n a=some (v,cB)): ∃T cs,H.aV x=some (T,cs)∧cw.cells.length=n∧o+n≤cs.length∧cw.cells.all I.one=true∧v= .undef∧ea H0 s cB (H.cc x T (fs cs o cw.cells)):=by
 unfold tf at h
 split at h
 ·rename_i T cs e
  obtain⟨y,cn,g1,g2,g3⟩:=ab.aV _ _ _ e
  rw[hb]at g1
  cases g1
  cases ah:((a.ev&&a.cells.length==n)&&(aV2 (o+n) cs.length&&a.cells.all I.one)) with
  |false=>rw[ah]at h; cases h
  |true=>
   rw[ah]at h
   simp only[cond_true,Option.some.injEq,Prod.mk.injEq]at h
   obtain⟨rfl,rfl⟩:=h
   simp only[aT0,beq_iff_eq,bb2]at ah
   obtain⟨⟨h1,J⟩,aA,bz⟩:=ah
   obtain⟨br,bA⟩:=aL.ev h1
   exact⟨T,cn,g2,by rw[bd.length bA,J],by rw[bd.length g3]; exact aA,bd.w6 bA bz,rfl,ab.cc hb (g3.fs bA o)⟩
 ·cases h
theorem US {t ver k n x:Nat}{a cw:I}(aL:aI s a cw) (aF:s.t[t]? =some x) (ab:ea H0 s c H) (h:x2 c t ver k n a=some (v,cB)): ∃T size rows rows',H.tok x=some (.bc T size ver rows)∧cw.cells.length=n∧k+n≤rows.flatten.length∧cw.cells.all I.one=true∧rows'.flatten=fs rows.flatten k cw.cells∧(∀r∈rows',r.length=size)∧rows'.length=rows.length∧v= .undef∧ea H0 s cB (H.b7 x (.bc T size ver rows')):=by
 unfold x2 at h
 split at h
 ·rename_i T size fW rows e
  obtain⟨y,l,g1,g2,g3⟩:=ab.bc e
  rw[aF]at g1
  cases g1
  cases ah:((fW==ver&&(a.ev&&a.cells.length==n))&&((aV2 (k+n) rows.flatten.length&&a.cells.all I.one)&&rows.flatten.length==rows.length*size)) with
  |false=>rw[ah]at h; cases h
  |true=>
   rw[ah]at h
   simp only[cond_true,Option.some.injEq,Prod.mk.injEq]at h
   obtain⟨rfl,rfl⟩:=h
   simp only[aT0,beq_iff_eq,bb2]at ah
   obtain⟨⟨rfl,h1,J⟩,⟨aA,bz⟩,bZ⟩:=ah
   obtain⟨br,bA⟩:=aL.ev h1
   have aE:l.flatten.length=l.length*size:=by rw[bd.length g3.flatten,bV.length g3]; exact bZ
   have hk:k+n≤l.flatten.length:=by rw[bd.length g3.flatten]; exact aA
   have bb:cw.cells.length=n:=by rw[bd.length bA,J]
   have an:(fs l.flatten k cw.cells).length=l.length*size:=by
    unfold fs
    simp only[aT2,aX3,bd3]
    omega
   obtain⟨aj,aq,bD⟩:=HN size l.length _ an
   refine⟨T,size,l,chunks size l.length (fs l.flatten k cw.cells),g2,bb,hk,bd.w6 bA bz,aj,aq,bD,rfl,ab.b7 aF (gm.bc ?_)⟩
   rw[bV.length g3]
   exact HO size _ _ _ (g3.flatten.fs bA k)
 ·cases h
theorem UT {cvs:List FuncId}{cl:vP}(uU:Rt P cl) (ym: ∀f∈cvs,cT P f=true) (he:gy s env a7) (ab:ea H0 s c H){op:ba}(h:k9 cvs cl op env c=some (v,cB))
  (dz: ∀bF bp av,bl.dU s bF→aI bF v bp→ea H0 bF cB av→K bp av):gH P op a7 H K Rp:=by
 unfold k9 at h
 split at h
 ·rename_i T x
  cases ah:((bi env x).ev&&(bi env x).cells.all I.one) with
  |false=>rw[ah]at h; cases h
  |true=>
   rw[ah]at h
   simp only[cond_true,Option.some.injEq,Prod.mk.injEq]at h
   obtain⟨rfl,rfl⟩:=h
   rw[aT0]at ah
   obtain⟨br,bA⟩:=(jC he x).ev ah.1
   refine .gU _ (.box (bd.w6 bA ah.2)) fun y bg=>dz _ _ _ (bl.yN s y) ?_ (ab.pg bA bg)
   simp only[aI,D.val]
   exact⟨y,by rw[ab.bN]; exact mE,rfl⟩
 ·rename_i T zero
  cases ah:(b9 zero&&zero.all I.one) with
  |false=>rw[ah]at h; cases h
  |true=>
   rw[ah]at h
   simp only[cond_true,Option.some.injEq,Prod.mk.injEq]at h
   obtain⟨rfl,rfl⟩:=h
   rw[aT0]at ah
   refine .gU _ (.alloc ah.2) fun y bg=>dz _ _ _ (bl.yN s y) ?_ (ab.pg ((lM zero ah.1 _).2 rfl) bg)
   simp only[aI,D.val]
   exact⟨y,by rw[ab.bN]; exact mE,rfl⟩
 ·rename_i T size n zero parts
  cases ah:rf env size parts with
  |false=>rw[ah]at h; cases h
  |true=>
   rw[ah]at h
   simp only[cond_true,Option.some.injEq,Prod.mk.injEq]at h
   obtain⟨rfl,rfl⟩:=h
   obtain⟨br,bA,cy,eR⟩:=HZ he ah
   refine .gU _ (.l4 rfl bA cy eR) fun y bg=>dz _ _ _ (bl.jJ s y) ?_ (ab.fw (by rw[bV.length br]; exact gm.bP) bg)
   simp only[aI,D.val]
   exact⟨y,_,by rw[ab.bf]; exact mE,rfl,bV.mono (bl.jJ s y) _ _ br⟩
 ·rename_i T size n zero parts
  cases ah:rf env size parts with
  |false=>rw[ah]at h; cases h
  |true=>
   rw[ah]at h
   simp only[cond_true,Option.some.injEq,Prod.mk.injEq]at h
   obtain⟨rfl,rfl⟩:=h
   obtain⟨br,bA,cy,eR⟩:=HZ he ah
   refine .gU _ (.lF rfl bA cy eR) fun y bg=>dz _ _ _ (bl.jJ s y) ?_ (ab.fw (gm.bc br) bg)
   simp only[aI,D.val]
   exact⟨y,by rw[ab.bf]; exact mE,rfl⟩
 ·rename_i T size bytes zero x
  split at h
  ·rename_i k n e
   have U:=dJ he e
   simp only[aI]at U
   cases ah:(aV2 (bytes*n) 281474976710656&&(aV2 n maxLen&&(b9 zero&&(zero.all I.one&&(zero.length==size&& !(size==0)))))) with
   |false=>rw[ah]at h; cases h
   |true=>
    rw[ah]at h
    simp only[cond_true,Option.some.injEq,Prod.mk.injEq]at h
    obtain⟨rfl,rfl⟩:=h
    simp only[aT0,bb2,beq_iff_eq,aX1,beq_eq_false_iff_ne]at ah
    obtain⟨h1,J,aA,bz,bZ,ef⟩:=ah
    refine .gU _ (.mR U h1 J bz bZ ef) fun y bg=>dz _ _ _ (bl.jJ s y) ?_ (ab.fw (gm.bc (bV.ao2 (size:=size) aA)) bg)
    simp only[aI,D.val]
    exact⟨y,by rw[ab.bf]; exact mE,rfl⟩
  ·cases h
 ·rename_i T
  simp only[Option.some.injEq,Prod.mk.injEq]at h
  obtain⟨rfl,rfl⟩:=h
  refine .gU _ .mkMap fun y bg=>dz _ _ _ (bl.jJ s y) ?_ (ab.fw (gm.bk (by simp [bV])) bg)
  simp only[aI,D.val]
  exact⟨y,by rw[ab.bf]; exact mE,rfl⟩
 ·rename_i T size bytes x y
  split at h
  ·rename_i new e
   obtain⟨Bk,br,bA⟩:=P5 (jC he y) e
   have U:=jC he x
   unfold CM at h
   split at h
   ·rename_i aj
    rw[aj]at U
    simp only[aI]at U
    cases ah:(aV2 (new.length*bytes) 140737488355328&&(aV2 new.length maxLen&& !(size==0))) with
    |false=>rw[ah]at h; cases h
    |true=>
     rw[ah]at h
     simp only[cond_true,Option.some.injEq,Prod.mk.injEq]at h
     obtain⟨rfl,rfl⟩:=h
     simp only[aT0,bb2,aX1,beq_eq_false_iff_ne]at ah
     refine .gU _ (.pY U br (by rw[bV.length bA]; exact ah.1) (by rw[bV.length bA]; exact ah.2.1) ah.2.2) fun z aD=>dz _ _ _ (bl.jJ s z) ?_ (ab.fw (by rw[bV.length bA]; exact gm.bP) aD)
     simp only[aI,D.val]
     exact⟨z,_,by rw[ab.bf]; exact mE,rfl,bV.mono (bl.jJ s z) _ _ bA⟩
   ·rename_i t ka rows aj
    rw[aj]at U
    simp only[aI]at U
    obtain⟨z,l,g1,g2,g3⟩:=U
    split at h
    ·rename_i cu Gp n ver aq
     obtain⟨ul,c3,f1,f2,f3⟩:=ab.tok _ _ aq
     rw[g1]at f1
     cases f1
     cases ah:((cu==T&&(Gp==size&&(n==rows.length&&(ver==rows.length&&ka==size))))&&(aV2 ((rows.length+new.length)*bytes) 140737488355328&&aV2 (rows.length+new.length) maxLen)) with
     |false=>rw[ah]at h; cases h
     |true=>
      rw[ah]at h
      simp only[cond_true,Option.some.injEq,Prod.mk.injEq]at h
      obtain⟨rfl,rfl⟩:=h
      simp only[aT0,bb2,beq_iff_eq]at ah
      obtain⟨⟨rfl,rfl,rfl,rfl,rfl⟩,c1,c2⟩:=ah
      have ae:c3= .bP cu ka l.length:=by
       obtain⟨eG,a2,a3,a4,a5⟩:=f3
       cases c3
       simp only at eG a2 a3 a4 a5
       subst eG a2 a3 a4 a5
       rw[bV.length g3]
       rfl
      subst ae
      refine .append g2 f2 br (by rw[bV.length bA,bV.length g3]; exact c1) (by rw[bV.length bA,bV.length g3]; exact c2) (dz _ _ _ (bl.dU.refl s) ?_ (ab.b7 g1 (by rw[bV.length bA,bV.length g3]; exact gm.bP)))
      simp only[aI]
      exact⟨z,_,g1,rfl,g3.append bA⟩
    ·cases h
   ·cases h
  ·cases h
 ·rename_i T size bytes x y
  split at h
  ·rename_i new e
   obtain⟨Bk,br,bA⟩:=P5 (jC he y) e
   have U:=jC he x
   unfold CN at h
   split at h
   ·rename_i aj
    rw[aj]at U
    simp only[aI]at U
    cases ah:(aV2 (new.length*bytes) 140737488355328&&(aV2 new.length maxLen&& !(size==0))) with
    |false=>rw[ah]at h; cases h
    |true=>
     rw[ah]at h
     simp only[cond_true,Option.some.injEq,Prod.mk.injEq]at h
     obtain⟨rfl,rfl⟩:=h
     simp only[aT0,bb2,aX1,beq_eq_false_iff_ne]at ah
     refine .gU _ (.uy U br (by rw[bV.length bA]; exact ah.1) (by rw[bV.length bA]; exact ah.2.1) ah.2.2) fun z aD=>dz _ _ _ (bl.jJ s z) ?_ (ab.fw (gm.bc bA) aD)
     simp only[aI,D.val]
     exact⟨z,by rw[ab.bf]; exact mE,rfl⟩
   ·rename_i t ver aj
    rw[aj]at U
    simp only[aI]at U
    obtain⟨z,g1,g2⟩:=U
    split at h
    ·rename_i cu Gp fW rows aq
     obtain⟨ul,l,f1,f2,f3⟩:=ab.bc aq
     rw[g1]at f1
     cases f1
     cases ah:((cu==T&&(Gp==size&&fW==ver))&&(aV2 ((rows.length+new.length)*bytes) 140737488355328&&aV2 (rows.length+new.length) maxLen)) with
     |false=>rw[ah]at h; cases h
     |true=>
      rw[ah]at h
      simp only[cond_true,Option.some.injEq,Prod.mk.injEq]at h
      obtain⟨rfl,rfl⟩:=h
      simp only[aT0,bb2,beq_iff_eq]at ah
      obtain⟨⟨rfl,rfl,rfl⟩,c1,c2⟩:=ah
      refine .lD g2 f2 br (by rw[bV.length bA,bV.length f3]; exact c1) (by rw[bV.length bA,bV.length f3]; exact c2) (dz _ _ _ (bl.dU.refl s) ?_ (ab.b7 g1 (gm.bc (f3.append bA))))
      simp only[aI]
      exact⟨z,g1,rfl⟩
    ·cases h
   ·cases h
  ·cases h
 ·rename_i size x cm ae
  split at h
  ·rename_i t ver e
   have U:=dJ he e
   simp only[aI]at U
   obtain⟨z,g1,g2⟩:=U
   unfold CU at h
   split at h
   ·rename_i T ka fW rows aq
    obtain⟨ul,l,f1,f2,f3⟩:=ab.bc aq
    rw[g1]at f1
    cases f1
    split at h
    ·rename_i q m bD da
     cases ah:((fW==ver&&ka==size)&&(aV2 m rows.length&&aV2 q m)) with
     |false=>rw[ah]at h; cases h
     |true=>
      rw[ah]at h
      simp only[cond_true,Option.some.injEq,Prod.mk.injEq]at h
      obtain⟨rfl,rfl⟩:=h
      simp only[aT0,bb2,beq_iff_eq]at ah
      obtain⟨⟨rfl,rfl⟩,c1,c2⟩:=ah
      refine .mo g2 f2 (wj he bD) (by rw[bV.length f3]; exact wj he da) (by rw[bV.length f3]; exact c1) c2 (dz _ _ _ (bl.dU.refl s) ?_ (ab.b7 g1 (gm.bc ((f3.take m).drop q))))
      simp only[aI]
      exact⟨z,g1,rfl⟩
    ·cases h
   ·cases h
  ·cases h
 ·rename_i n a x
  split at h
  ·rename_i b o e
   have aL:=dJ he e
   simp only[aI]at aL
   obtain⟨z,g1,g2⟩:=aL
   obtain⟨T,cs,f1,f2,f3,f4,rfl,f6⟩:=H6 (jC he x) g1 ab h
   exact .store g2 f1 f2 f3 f4 (dz _ _ _ (bl.dU.refl s) (by simp only[aI]) f6)
  ·rename_i t ver k e
   have aL:=dJ he e
   simp only[aI]at aL
   obtain⟨z,g1,g2⟩:=aL
   obtain⟨T,size,rows,rows',f1,f2,f3,f4,f5,f6,f7,rfl,f9⟩:=US (jC he x) g1 ab h
   exact .tZ g2 f1 f2 f3 f4 f5 f6 f7 (dz _ _ _ (bl.dU.refl s) (by simp only[aI]) f9)
  ·cases h
 ·rename_i eJ others n a x
  split at h
  ·rename_i b bJ o ch e
   have aL:=dJ he e
   have hm:=he eJ
   rw[ch]at hm
   simp only[aI]at aL hm
   obtain⟨z,g1,g2⟩:=aL
   obtain⟨z0,g3,g4⟩:=hm
   cases ah:(bJ==b&&others.all (hQ env b)) with
   |false=>rw[ah]at h; cases h
   |true=>
    rw[ah,cond_true]at h
    simp only[aT0,beq_iff_eq,bb1]at ah
    obtain⟨rfl,ah⟩:=ah
    rw[g1]at g3
    cases g3
    obtain⟨T,cs,f1,f2,f3,f4,rfl,f6⟩:=H6 (jC he x) g1 ab h
    refine .gF g4 (fun j bq=> ?_) g2 f1 f2 f3 f4 (dz _ _ _ (bl.dU.refl s) (by simp only[aI]) f6)
    have J:=ah j bq
    unfold hQ at J
    have aA:=he j
    split at J
    ·rename_i jf aq
     rw[aq]at aA
     simp only[aI]at aA
     obtain⟨z2,b5,cA⟩:=aA
     refine⟨z2,cA,fun a8=> ?_⟩
     subst a8
     have:=ab.kS _ _ _ b5 g1
     subst this
     simp at J
    ·cases J
  ·cases h
 ·rename_i x k u
  split at h
  ·rename_i t ver q e cd
   have U:=dJ he e
   have hk:=dJ he cd
   simp only[aI]at U hk
   obtain⟨z,g1,g2⟩:=U
   unfold CR at h
   split at h
   ·rename_i T fW rows aq
    cases ah:(fW==ver&&(bi env u).one) with
    |false=>rw[ah]at h; cases h
    |true=>
     rw[ah,cond_true]at h
     simp only[aT0,beq_iff_eq]at ah
     obtain⟨rfl,hr⟩:=ah
     obtain⟨ul,l,f1,f2,f3⟩:=ab.bk aq
     rw[g1]at f1
     cases f1
     cases hm:j5 q (bi env u) rows with
     |none=>rw[hm]at h; cases h
     |some r=>
      rw[hm]at h
      simp only[Option.map_some,Option.some.injEq,Prod.mk.injEq]at h
      obtain⟨rfl,rfl⟩:=h
      obtain⟨bM,br,bA⟩:=Mu q (jC he u) rows l r f3 hm
      exact .mQ g2 f2 hk ((jC he u).one hr) br (dz _ _ _ (bl.dU.refl s) (by simp only[aI]) (ab.b7 g1 (gm.bk bA)))
   ·cases h
  ·cases h
 ·rename_i f args
  refine .call _ (dD.rN _) (uU f _ c v cB h H0 s _ H (nq he args) ab) fun o av bs=> ?_
  obtain⟨bF,bp,b5,rfl,dh,fC⟩:=bs
  exact dz bF bp av b5 dh fC
 ·rename_i x args
  split at h
  ·rename_i f cap e
   have U:=dJ he e
   simp only[aI]at U
   obtain⟨l,g1,g2⟩:=U
   cases ah:cvs.contains f with
   |false=>
    rw[ah,cond_false]at h
    cases bw:(aV2 iy f&&cvs.contains (f-iy)) with
    |false=>rw[bw]at h; cases h
    |true=>
     rw[bw,cond_true]at h
     simp only[aT0]at bw
     have hle:=aZ3 bw.1
     have DA:x.aC a7= .fn (f-iy+iy) l:=by rw[Nat.sub_add_cancel hle]; exact g1
     refine .v8 _ DA (ym (f-iy) (by simpa using bw.2)) (dD.rN _) (uU (f-iy) _ c v cB h H0 s _ H (g2.append (nq he args)) ab) fun o av bs=> ?_
     obtain⟨bF,bp,b5,rfl,dh,fC⟩:=bs
     exact dz bF bp av b5 dh fC
   |true=>
    rw[ah,cond_true]at h
    refine .fx _ g1 (ym f (by simpa using ah)) (dD.rN _) (uU f _ c v cB h H0 s _ H ((nq he args).append g2) ab) fun o av bs=> ?_
    obtain⟨bF,bp,b5,rfl,dh,fC⟩:=bs
    exact dz bF bp av b5 dh fC
  ·cases h
 ·simp only[aW3,Prod.mk.injEq]at h
  obtain⟨v0,g1,rfl,rfl⟩:=h
  obtain⟨bp,g2,g3⟩:=UO (P:=P) he ab.toHR g1
  exact .gU _ g2 fun x _=>dz s bp H (bl.dU.refl s) g3 ab
def HW (cl:vP) (f:FuncId) (az:List I):Option I:=
 bif b9 (jt az) then match cl f (jt az) .new with
  |some (v,_)=>bif v.aQ.flat then some v.aQ else none
  |none=>none
 else none
def oi:ba→Bool
 | .io _ _=>true
 | .j8 _ _=>true
 | .rM _ _ _ _=>true
 | _=>false
def x5 (cvs:List FuncId) (cl:vP):List bC→Env→aJ→Option (List I×Env×aJ)
 |[],env,c=>some ([],env,c)
 |⟨d,g,op⟩::l,env,c=>match wanted ⟨d,g,op⟩ env with
  |none=>none
  |some false=>match x5 cvs cl l (env.put d .undef) c with
   |some (anns,e,c2)=>some (bif oi op then .undef::anns else anns,e,c2)
   |none=>none
  |some true=>match op with
   | .io f args=>match HW cl f (args.map (bi env)) with
    |some r=>match x5 cvs cl l (env.put d r) c with
     |some (anns,e,c2)=>some (r::anns,e,c2)
     |none=>none
    |none=>none
   | .j8 x args=>match bi env x with
    | .fn f cap=>bif cvs.contains f then match HW cl f (args.map (bi env)++cap) with
     |some r=>match x5 cvs cl l (env.put d r) c with
      |some (anns,e,c2)=>some (r::anns,e,c2)
      |none=>none
     |none=>none
     else none
    | _=>none
   | .rM _ _ _ _=>none
   |op=>match k9 cvs cl op env c with
    |some (v,c1)=>x5 cvs cl l (env.put d v) c1
    |none=>none
section
variable {P:Program}{s:bl}{env a7:Env}{H0 H:aw}{c cB:aJ}{Rp:I→aw→Prop}
theorem B2 (he:gy s env a7){i:bC}{b:Bool}(h:wanted i env=some b):wanted i a7=some b:=by
 obtain⟨d,g,op⟩:=i
 cases g with
 |none=>exact h
 |some p=>
  obtain⟨j,want⟩:=p
  have bq:=he j
  simp only[wanted]at h ⊢
  split at h
  ·rename_i x e
   rw[e]at bq
   simp only[aI]at bq
   rw[bq]
   exact h
  ·rename_i e
   rw[e]at bq
   simp only[aI]at bq
   rw[bq]
   exact h
  ·cases h
end
end Go.aX
namespace Go.aX
open Go
inductive B9 where
 |c (e:bu)
 |aV (id:Nat)
 |mm (body:bu)
def cpop (id:Nat):List B9→Option (List B9)
 | .aV j::k=>bif j==id then some k else cpop id k
 | _::k=>cpop id k
 |[]=>none
def td (env:Env) (C:aw):bj→Option I
 | .t n=>some (env.get n)
 | .cell agg n a=>match env.get a with
  | .ptr b o=>match C.aV b with
   |some (_,cs)=>nV cs agg o n
   |none=>none
  | .dL row o=>nV row agg o n
  | _=>none
def tc (env:Env) (C:aw):List bj→Option (List I)
 |[]=>some []
 |r::aN=>match td env C r,tc env C aN with
  |some v,some l=>some (v::l)
  | _,_=>none
def nW (aN:List bj) (env:Env) (C:aw):Option I:=
 match aN with
 |[r]=>td env C r
 |aN=>(tc env C aN).map .cV
abbrev GI:=FuncId→Option (bu×List bj×Nat)
abbrev Lib:=FuncId→List I→Option I
def run (o2:GI) (oQ:Lib) (cvs:List FuncId):Nat→List bj→List B9→Env→aJ→Option (I×aJ)
 |0,_,_,_,_=>none
 |n+1,aN,k,env,c=>
  match k with
  |[]=>(nW aN env c.H).map fun v=>(v,c)
  | .aV _::k=>run o2 oQ cvs n aN k env c
  | .mm body::k=>run o2 oQ cvs n aN (.c body:: .mm body::k) env c
  | .c e::k=>match e with
   | .ret=>(nW aN env c.H).map fun v=>(v,c)
   | .skip=>run o2 oQ cvs n aN k env c
   | .seq a b=>run o2 oQ cvs n aN (.c a:: .c b::k) env c
   | .block id b=>run o2 oQ cvs n aN (.c b:: .aV id::k) env c
   | .exit id=>match cpop id k with
    |some eX=>run o2 oQ cvs n aN eX env c
    |none=>none
   | .cond x a b=>match bi env x with
    | .bool true=>run o2 oQ cvs n aN (.c a::k) env c
    | .bool false=>run o2 oQ cvs n aN (.c b::k) env c
    | _=>none
   | .region ops _=>
    match x5 cvs (fun f az c=>match oQ f (jt az) with
     |some r=>bif b9 (jt az)&&r.flat then some (r,c) else none
     |none=>match o2 f with
      |some (e,aN,m)=>bif az.length==m then run o2 oQ cvs n aN [.c e] (kR az) c else none
      |none=>none) ops env c with
    |some (_,a7,cB)=>run o2 oQ cvs n aN k a7 cB
    |none=>none
   | .loop body=>run o2 oQ cvs n aN (.c body:: .mm body::k) env c
   | .sk _ _ _=>none
section
variable {P:Program}{o2:GI}{oQ:Lib}{cvs:List FuncId}{aN:List bj}{v:I}{c1:aJ}{H0:aw}{dN:bl}
variable {s:bl}{env a7:Env}{H:aw}{c:aJ}
theorem HY (he:gy s env a7) (ab:ea H0 s c H){r:bj}{x:I}(h:td env c.H r=some x): ∃cE,r.aC a7 H=some cE∧aI s x cE:=by
 cases r with
 |t n=>
  simp only[td,Option.some.injEq]at h
  subst h
  exact⟨_,rfl,he n⟩
 |cell agg n a=>
  simp only[td]at h
  have aL:=he a
  split at h
  ·rename_i b o e
   rw[e]at aL
   simp only[aI]at aL
   obtain⟨y,h1,J⟩:=aL
   split at h
   ·rename_i T cs aq
    obtain⟨cE,cn,g1,g2,g3⟩:=ab.aV _ _ _ aq
    rw[h1]at g1
    cases g1
    obtain⟨br,bp,bA,cy⟩:=si g3 h
    exact⟨bp,by simp only[bj.aC,bL,aH.aC,J,g2,if_pos br,bA],cy⟩
   ·cases h
  ·rename_i row o e
   rw[e]at aL
   simp only[aI]at aL
   obtain⟨l,J,h1⟩:=aL
   obtain⟨br,bp,bA,cy⟩:=si h1 h
   exact⟨bp,by simp only[bj.aC,bL,aH.aC,J,if_pos br,bA],cy⟩
  ·cases h
theorem HX (he:gy s env a7) (ab:ea H0 s c H): ∀(l:List bj) (x:List I),tc env c.H l=some x→∃cE,l.mapM (bj.aC a7 H)=some cE∧bd s x cE
 |[],x,h=>by
  simp only[tc,Option.some.injEq]at h
  subst h
  exact⟨[],rfl,by simp only[bd]⟩
 |r::l,x,h=>by
  simp only[tc]at h
  split at h
  ·rename_i y dO aj aq
   simp only[Option.some.injEq]at h
   subst h
   obtain⟨gO,g1,g2⟩:=HY he ab aj
   obtain⟨aJ9,g3,g4⟩:=HX he ab l dO aq
   exact⟨gO::aJ9,by simp [List.mapM_cons,g1,g3],by simp only[bd]; exact⟨_,_,rfl,g2,g4⟩⟩
  ·cases h
theorem CT (he:gy s env a7) (ab:ea H0 s c H){l:List bj}{x:I}(h:nW l env c.H=some x): ∃cE,results l a7 H=some cE∧aI s x cE:=by
 unfold nW at h
 split at h
 ·exact HY he ab h
 ·rename_i bb
  simp only[aW3]at h
  obtain⟨y,e,rfl⟩:=h
  obtain⟨gO,g1,g2⟩:=HX he ab l y e
  refine⟨.cV gO,?_,by simp only[aI]; exact⟨_,rfl,g2⟩⟩
  unfold results
  split
  ·rename_i r
   exact absurd rfl (bb r)
  ·rw[g1]; rfl
theorem YC: ∀ {az ha:List I},bd s az ha→gy s (kR az) (kR ha):=by
 intro az ha h j
 rw[Ba,Ba]
 simp only[aT8,if_true,Nat.sub_zero]
 cases e:az[j]? with
 |none=>
  simp only[List.getD,e,Option.getD_none,aI]
 |some a=>
  obtain⟨cw,g1,g2⟩:=h.get j a e
  simp only[List.getD,e,g1,Option.getD_some]
  exact g2
theorem dD.BO {m:Mem}: ∀ {az bU:List I}{l:List Value},dD az bU→aM m az l→aM m bU l
 |[],_,_,h,k=>by simp only[dD]at h; subst h; exact k
 |a::az,_,_,h,k=>by
  simp only[dD]at h
  obtain⟨b,bU,rfl,h1,J⟩:=h
  simp only[aM]at k ⊢
  obtain⟨v,ak,aj,aq,bD⟩:=k
  exact⟨v,ak,aj,h1 m v aq,dD.BO J bD⟩
end
end Go.aX
namespace Go.aX
open Go
def jy (s:bl):Out→Out→Prop
  | .ret a,.ret b=>aI s a b
  | .dW a,.dW b=>aI s a b
  | _,_=>False
def aY (P:Program) (f:FuncId) (az:List I) (c:aJ) (Q:Out→aJ→Prop):Prop:=
  ∀H0 s ha H,bd s az ha→ea H0 s c H→iu P f ha H fun o' av=> ∃bF o c1,bl.dU s bF∧Q o c1∧jy bF o o'∧ea H0 bF c1 av
def lB (v:I) (c1:aJ):Out→aJ→Prop:=fun o c=>o= .ret v∧c=c1
inductive e7 where
  |c (e:bu)
  |aV (id:Nat)
  |mm (eT:Nat→Env→aJ→Prop) (m0:Nat)
def e7.mZ (H0:aw) (dN:bl):e7→Item
  | .c e=> .c e
  | .aV id=> .aV id
  | .mm eT m0=> .round (fun m a7 av=> ∃s env c,bl.dU dN s∧eT m env c∧gy s env a7∧ea H0 s c av) m0
def rE (id:Nat):List e7→Option (List e7)
  | .aV j::k=>bif j==id then some k else rE id k
  | _::k=>rE id k
  |[]=>none
theorem Bc {H0:aw}{dN:bl}{id:Nat}: ∀ {k eX:List e7},rE id k=some eX→oW id (k.map (e7.mZ H0 dN))=some (eX.map (e7.mZ H0 dN))
  |[],_,h=>by cases h
  | .c _::k,_,h=>by simp only[rE]at h; simp only[aU5,e7.mZ,oW]; exact Bc h
  | .mm _ _::k,_,h=>by simp only[rE]at h; simp only[aU5,e7.mZ,oW]; exact Bc h
  | .aV j::k,_,h=>by
    simp only[rE]at h
    simp only[aU5,e7.mZ,oW]
    cases ae:j==id with
    |true=>rw[ae]at h; cases h; rw[if_pos (by simpa using ae)]
    |false=>rw[ae]at h; rw[if_neg (by simpa using ae)]; exact Bc h
def ay (P:Program) (aN:List bj) (cF t0:Nat) (k:List e7) (Q:Out→aJ→Prop) (env:Env) (c:aJ):Prop:=
  ∀H0 dN s a7 H (R:Out→aw→Prop),dN.b.length=cF→dN.t.length=t0→bl.dU dN s→gy s env a7→ea H0 s c H→(∀bF o o' c1 av,bl.dU dN bF→Q o c1→jy bF o o'→ea H0 bF c1 av→R o' av)→ci P aN R (k.map (e7.mZ H0 dN)) a7 H
def ai (P:Program) (anns:List I) (l:List bC) (env:Env) (c:aJ) (K:Env→aJ→Prop) (Rp:I→aJ→Prop):Prop:=
  ∀H0 s a7 H (K':Env→aw→Prop) (iw:I→aw→Prop),gy s env a7→ea H0 s c H→(∀bF e cd c1 av,bl.dU s bF→K e c1→gy bF e cd→ea H0 bF c1 av→K' cd av)→(∀bF v bp c1 av,bl.dU s bF→Rp v c1→aI bF v bp→ea H0 bF c1 av→iw bp av)→bh P (eB l anns) a7 H K' iw
variable {P:Program}{aN:List bj}{cF t0:Nat}{k:List e7}{Q:Out→aJ→Prop}{env:Env}{c c1:aJ}{v:I}
theorem ay.ret (ad:nW aN env c.H=some v) (h:Q (.ret v) c):ay P aN cF t0 (.c .ret::k) Q env c:=fun H0 dN s a7 H R bb aF an he ab ac=>by
  obtain⟨bp,g1,g2⟩:=CT he ab ad
  exact .ret g1 (ac s (.ret v) (.ret bp) c H an h g2 ab)
theorem ay.done (ad:nW aN env c.H=some v) (h:Q (.ret v) c):ay P aN cF t0 [] Q env c:=fun H0 dN s a7 H R bb aF an he ab ac=>by
  obtain⟨bp,g1,g2⟩:=CT he ab ad
  exact .done g1 (ac s (.ret v) (.ret bp) c H an h g2 ab)
theorem ay.skip (h:ay P aN cF t0 k Q env c):ay P aN cF t0 (.c .skip::k) Q env c:=fun H0 dN s a7 H R bb aF an he ab ac=> .skip (h H0 dN s a7 H R bb aF an he ab ac)
theorem ay.xT {id:Nat}(h:ay P aN cF t0 k Q env c):ay P aN cF t0 (.aV id::k) Q env c:=fun H0 dN s a7 H R bb aF an he ab ac=> .xT (h H0 dN s a7 H R bb aF an he ab ac)
theorem ay.seq {a b:bu}(h:ay P aN cF t0 (.c a:: .c b::k) Q env c):ay P aN cF t0 (.c (.seq a b)::k) Q env c:=fun H0 dN s a7 H R bb aF an he ab ac=> .seq (h H0 dN s a7 H R bb aF an he ab ac)
theorem ay.block {id:Nat}{b:bu}(h:ay P aN cF t0 (.c b:: .aV id::k) Q env c):ay P aN cF t0 (.c (.block id b)::k) Q env c:=fun H0 dN s a7 H R bb aF an he ab ac=> .block (h H0 dN s a7 H R bb aF an he ab ac)
theorem ay.exit {id:Nat}{eX:List e7}(hk:rE id k=some eX) (h:ay P aN cF t0 eX Q env c):ay P aN cF t0 (.c (.exit id)::k) Q env c:=fun H0 dN s a7 H R bb aF an he ab ac=> .exit (Bc hk) (h H0 dN s a7 H R bb aF an he ab ac)
theorem ay.cond {x:aH}{a b:bu}{t:Bool}(ah:bi env x= .bool t) (h1:t=true→ay P aN cF t0 (.c a::k) Q env c) (J:t=false→ay P aN cF t0 (.c b::k) Q env c):ay P aN cF t0 (.c (.cond x a b)::k) Q env c:=fun H0 dN s a7 H R bb aF an he ab ac=>by
  have U:=jC he x
  rw[ah]at U
  simp only[aI]at U
  exact .cond U (fun e=>h1 e H0 dN s a7 H R bb aF an he ab ac) (fun e=>J e H0 dN s a7 H R bb aF an he ab ac)
theorem ay.lI {x:aH}{a b:bu}(ah:bi env x= .bool true) (h:ay P aN cF t0 (.c a::k) Q env c):ay P aN cF t0 (.c (.cond x a b)::k) Q env c:=ay.cond ah (fun _=>h) (fun e=>by cases e)
theorem ay.lH {x:aH}{a b:bu}(ah:bi env x= .bool false) (h:ay P aN cF t0 (.c b::k) Q env c):ay P aN cF t0 (.c (.cond x a b)::k) Q env c:=ay.cond ah (fun e=>by cases e) (fun _=>h)
theorem ay.kG {ops:List bC}{draw:Bool}{anns:List I}(h:ai P anns ops env c (fun e c1=>ay P aN cF t0 k Q e c1) (fun v c1=>Q (.dW v) c1)):ay P aN cF t0 (.c (.region ops draw)::k) Q env c:=fun H0 dN s a7 H R bb aF an he ab ac=>
  .region anns _ (h H0 s a7 H _ _ he ab (fun bF e cd c1 av b5 cA dh fC=>cA H0 dN bF cd av R bb aF (an.trans b5) dh fC ac) (fun bF v bp c1 av b5 cA dh fC=>ac bF (.dW v) (.dW bp) c1 av (an.trans b5) cA dh fC)) fun _ _ h=>h
theorem ay.loop {body:bu}(eT:Nat→Env→aJ→Prop) (m:Nat) (aW:eT m env c) (h: ∀aU e cB,eT aU e cB→ay P aN cF t0 (.c body:: .mm eT aU::k) Q e cB):ay P aN cF t0 (.c (.loop body)::k) Q env c:=fun H0 dN s a7 H R bb aF an he ab ac=>
  .loop (fun m a7 av=> ∃s env c,bl.dU dN s∧eT m env c∧gy s env a7∧ea H0 s c av) m ⟨s,env,c,an,aW,he,ab⟩ fun aU cd av ⟨s2,aq,c2,b5,cA,dh,fC⟩=>h aU aq c2 cA H0 dN s2 cd av R bb aF b5 dh fC ac
theorem ay.round {eT:Nat→Env→aJ→Prop}{m0:Nat}(m:Nat) (aW:eT m env c) (h1:m<m0):ay P aN cF t0 (.mm eT m0::k) Q env c:=fun H0 dN s a7 H R bb aF an he ab ac=>
  .round m ⟨s,env,c,an,aW,he,ab⟩ h1
def pT (env:Env):Env→Prop
  |[]=>True
  |p::l=>env.get p.1=p.2∧pT env l
theorem pT.get: ∀ {E:Env},pT env E→∀j,E.get j=env.get j∨E.get j= .ec
  |[],_,j=> .inr rfl
  |(k,v)::E,h,j=>by
   simp only[pT]at h
   simp only[Env.get]
   cases hk:k==j with
   |true=>have:k=j:=by simpa using hk
          subst this; exact .inl h.1.symm
   |false=>exact pT.get h.2 j
theorem gy.xw {s:bl}{E a7:Env}(h: ∀j,E.get j=env.get j∨E.get j= .ec) (he:gy s env a7):gy s E a7:=fun j=>by
  rcases h j with e|e
  ·rw[e]; exact he j
  ·rw[e]; simp only[aI]
abbrev ey:=List (Nat×TypeId×List I)
abbrev eA:=List (Nat×bB)
def fT:ey→Nat→Option (TypeId×List I)
  |[],_=>none
  |(k,x)::l,j=>bif k==j then some x else fT l j
def hW:eA→Nat→Option bB
  |[],_=>none
  |(k,x)::l,j=>bif k==j then some x else hW l j
def aJ.of (bN bf:Nat) (cj:ey) (cv:eA):aJ:=⟨⟨fT cj,hW cv⟩,bN,bf⟩
def jw (H:aw):ey→Prop
  |[]=>True
  |p::l=>H.aV p.1=some p.2∧jw H l
def jx (H:aw):eA→Prop
  |[]=>True
  |p::l=>H.tok p.1=some p.2∧jx H l
theorem jw.get {H:aw}: ∀ {l:ey},jw H l→∀j y,fT l j=some y→H.aV j=some y
  |[],_,_,_,e=>by cases e
  |(k,x)::l,h,j,y,e=>by
   simp only[jw]at h
   simp only[fT]at e
   cases hk:k==j with
   |true=>rw[hk]at e; cases e
          have:k=j:=by simpa using hk
          subst this; exact h.1
   |false=>rw[hk]at e; exact jw.get h.2 j y e
theorem jx.get {H:aw}: ∀ {l:eA},jx H l→∀j y,hW l j=some y→H.tok j=some y
  |[],_,_,_,e=>by cases e
  |(k,x)::l,h,j,y,e=>by
   simp only[jx]at h
   simp only[hW]at e
   cases hk:k==j with
   |true=>rw[hk]at e; cases e
          have:k=j:=by simpa using hk
          subst this; exact h.1
   |false=>rw[hk]at e; exact jx.get h.2 j y e
mutual
def I.dC (n t:Nat):I→Bool
  | .ptr b _=>aW7 b n
  | .agg cs=>dE n t cs
  | .cV cs=>dE n t cs
  | .ak _ rows=>eD rows
  | .own x _ rows=>aW7 x t&&eD rows
  | .cz x _=>aW7 x t
  | .mp x _ _=>aW7 x t
  | .dL row _=>b9 row
  | .fn _ cap=>dE n t cap
  | .gJ _ v=>v.dC n t
  | _=>true
def dE (n t:Nat):List I→Bool
  |[]=>true
  |a::az=>a.dC n t&&dE n t az
end
theorem Dw {s bF:bl}{az l:List I}(h:b9 az=true) (ab:bd s az l):bd bF az l:=(lM az h l).2 ((lM az h l).1 ab)
theorem tw {s bF:bl}{az l:List (List I)}(h:eD az=true) (ab:bV s az l):bV bF az l:=(nB az h l).2 ((nB az h l).1 ab)
theorem p9 {i n:Nat}(h:aW7 i n=true):i<n:=by simpa [bg0] using h
theorem xm {l:List Nat}{n i x:Nat}(h:l[i]? =some x) (ae:aW7 i n=true):(l.take n)[i]? =some x:=by
  rw[aV6,if_pos (p9 ae),h]
mutual
theorem aI.cut {s:bl}{n t:Nat}: ∀(a v:I),aI s a v→a.dC n t=true→aI ⟨s.b.take n,s.t.take t⟩ a v
  | .ec,_,_,_=>by simp only[aI]
  | .ptr b o,_,h,hb=>by simp only[I.dC]at hb; simp only[aI]at*; obtain⟨x,h1,J⟩:=h; exact⟨x,xm h1 hb,J⟩
  | .agg cs,_,h,hb=>by simp only[I.dC]at hb; simp only[aI]at*; obtain⟨l,h1,J⟩:=h; exact⟨l,h1,bd.cut cs l J hb⟩
  | .cV cs,_,h,hb=>by simp only[I.dC]at hb; simp only[aI]at*; obtain⟨l,h1,J⟩:=h; exact⟨l,h1,bd.cut cs l J hb⟩
  | .ak _ rows,_,h,hb=>by
    simp only[I.dC]at hb
    simp only[aI]at*
    obtain⟨l,h1,J⟩:=h
    exact⟨l,h1,tw hb J⟩
  | .own x _ rows,_,h,hb=>by
    simp only[I.dC,aT0]at hb
    simp only[aI]at*
    obtain⟨y,l,aW,h1,J⟩:=h
    exact⟨y,l,xm aW hb.1,h1,tw hb.2 J⟩
  | .cz x _,_,h,hb=>by simp only[I.dC]at hb; simp only[aI]at*; obtain⟨x,h1,J⟩:=h; exact⟨x,xm h1 hb,J⟩
  | .mp x _ _,_,h,hb=>by simp only[I.dC]at hb; simp only[aI]at*; obtain⟨x,h1,J⟩:=h; exact⟨x,xm h1 hb,J⟩
  | .dL row _,_,h,hb=>by
    simp only[I.dC]at hb
    simp only[aI]at*
    obtain⟨l,h1,J⟩:=h
    exact⟨l,h1,Dw hb J⟩
  | .fn _ cap,_,h,hb=>by simp only[I.dC]at hb; simp only[aI]at*; obtain⟨l,h1,J⟩:=h; exact⟨l,h1,bd.cut cap l J hb⟩
  | .gJ _ v,_,h,hb=>by simp only[I.dC]at hb; simp only[aI]at*; obtain⟨x,h1,J⟩:=h; exact⟨x,h1,aI.cut v x J hb⟩
  | .bool _,_,h,_=>by simp only[aI]at*; exact h
  | .int _ _,_,h,_=>by simp only[aI]at*; exact h
  | .str _,_,h,_=>by simp only[aI]at*; exact h
  | .dI _,_,h,_=>by simp only[aI]at*; exact h
theorem bd.cut {s:bl}{n t:Nat}: ∀(az l:List I),bd s az l→dE n t az=true→bd ⟨s.b.take n,s.t.take t⟩ az l
  |[],_,h,_=>by simp only[bd]at*; exact h
  |a::az,_,h,hb=>by simp only[dE,aT0]at hb; simp only[bd]at*; obtain⟨v,ak,h1,J,aA⟩:=h; exact⟨v,ak,h1,aI.cut a v J hb.1,bd.cut az ak aA hb.2⟩
end
def jp (n t:Nat):Env→Bool
  |[]=>true
  |p::l=>p.2.dC n t&&jp n t l
def eP (n t:Nat):ey→Bool
  |[]=>true
  |p::l=>aW7 p.1 n&&(dE n t p.2.2&&eP n t l)
def jg:Option (List (List I))→Bool
  |none=>true
  |some rows=>eD rows
def eQ (n t:Nat):eA→Bool
  |[]=>true
  |p::l=>aW7 p.1 t&&(jg p.2.kq&&eQ n t l)
theorem G4 {n t:Nat}: ∀ {E:Env},jp n t E=true→∀j,(E.get j).dC n t=true
  |[],_,j=>rfl
  |(k,v)::E,h,j=>by
   simp only[jp,aT0]at h
   simp only[Env.get]
   cases k==j with
   |true=>exact h.1
   |false=>exact G4 h.2 j
theorem Ct {n t:Nat}: ∀ {l:ey},eP n t l=true→∀j T cs,fT l j=some (T,cs)→aW7 j n=true∧dE n t cs=true
  |[],_,_,_,_,e=>by cases e
  |(k,x)::l,h,j,T,cs,e=>by
   simp only[eP,aT0]at h
   simp only[fT]at e
   cases hk:k==j with
   |true=>rw[hk]at e; cases e
          have:k=j:=by simpa using hk
          subst this; exact⟨h.1,h.2.1⟩
   |false=>rw[hk]at e; exact Ct h.2.2 j T cs e
theorem Cu {n t:Nat}: ∀ {l:eA},eQ n t l=true→∀j o,hW l j=some o→aW7 j t=true∧jg o.kq=true
  |[],_,_,_,e=>by cases e
  |(k,x)::l,h,j,o,e=>by
   simp only[eQ,aT0]at h
   simp only[hW]at e
   cases hk:k==j with
   |true=>rw[hk]at e; cases e
          have:k=j:=by simpa using hk
          subst this; exact⟨h.1,h.2.1⟩
   |false=>rw[hk]at e; exact Cu h.2.2 j o e
theorem ea.cut {H0 H:aw}{s:bl}{n t:Nat}{cj:ey}{cv:eA}(ab:ea H0 s c H) (hb:jw c.H cj) (aF:jx c.H cv) (bb:n≤c.bN) (hm:t≤c.bf) (qy:eP n t cj=true) (kt:eQ n t cv=true):ea H0 ⟨s.b.take n,s.t.take t⟩ (aJ.of n t cj cv) H where
  base:=ab.base
  aV:=fun b T cs e=>by
    obtain⟨g1,g2⟩:=Ct qy b T cs e
    obtain⟨x,cn,h1,J,aA⟩:=ab.aV b T cs (hb.get b _ e)
    exact⟨x,cn,xm h1 g1,J,bd.cut _ _ aA g2⟩
  tok:=fun b o e=>by
    obtain⟨g1,g2⟩:=Cu kt b o e
    obtain⟨x,o',h1,J,aA,bz,bZ,ef,wA⟩:=ab.tok b o (aF.get b _ e)
    refine⟨x,o',xm h1 g1,J,aA,bz,bZ,ef,?_⟩
    cases ah:o.kq with
    |none=>rw[ah]at wA; exact wA
    |some rows=>
     rw[ah]at wA g2
     simp only[jg]at g2
     obtain⟨l,b5,cA⟩:=wA
     exact⟨l,b5,tw g2 cA⟩
  kE:=fun b x e=>by
    rw[aV6]at e
    split at e
    ·exact ab.kE b x e
    ·cases e
  jK:=fun b x e=>by
    rw[aV6]at e
    split at e
    ·exact ab.jK b x e
    ·cases e
  kS:=fun b bJ x e cd=>by
    rw[aV6]at e cd
    split at e
    ·split at cd
     ·exact ab.kS b bJ x e cd
     ·cases cd
    ·cases e
  lP:=fun b bJ x e cd=>by
    rw[aV6]at e cd
    split at e
    ·split at cd
     ·exact ab.lP b bJ x e cd
     ·cases cd
    ·cases e
  bN:=by simp only[aJ.of,aX3]; rw[←ab.bN]; omega
  bf:=by simp only[aJ.of,aX3]; rw[←ab.bf]; omega
theorem bl.dU.cut {dN s:bl}{n t:Nat}(h:bl.dU dN s) (bb:dN.b.length≤n) (aF:dN.t.length≤t):bl.dU dN ⟨s.b.take n,s.t.take t⟩ where
  b:=fun i x e=>by
   have:i<dN.b.length:=(List.getElem?_eq_some_iff.1 e).1
   rw[aV6,if_pos (by omega)]
   exact h.b i x e
  t:=fun i x e=>by
   have:i<dN.t.length:=(List.getElem?_eq_some_iff.1 e).1
   rw[aV6,if_pos (by omega)]
   exact h.t i x e
theorem ay.cut (n t:Nat) (E:Env) (cj:ey) (cv:eA) (he:pT env E) (hb:jw c.H cj) (aF:jx c.H cv) (bb:(aV2 cF n&&(aV2 n c.bN&&(aV2 t0 t&&aV2 t c.bf)))=true) (bw:(jp n t E&&(eP n t cj&&eQ n t cv))=true) (h:ay P aN cF t0 k Q E (aJ.of n t cj cv)):ay P aN cF t0 k Q env c:=fun H0 dN s a7 H R h1 J an dp ab ac=>by
  simp only[aT0,bb2]at bb bw
  obtain⟨eG,a2,a3,a4⟩:=bb
  obtain⟨ff,jf,lE⟩:=bw
  refine h H0 dN ⟨s.b.take n,s.t.take t⟩ a7 H R h1 J (an.cut (by omega) (by omega)) (fun j=> ?_) (ab.cut hb aF a2 a4 jf lE) ac
  exact aI.cut _ _ (gy.xw he.get dp j) (G4 ff j)
theorem ay.LZ (E:Env) (cj:ey) (cv:eA) (he:pT env E) (hb:jw c.H cj) (aF:jx c.H cv) (h:ay P aN cF t0 k Q E (aJ.of c.bN c.bf cj cv)):ay P aN cF t0 k Q env c:=fun H0 dN s a7 H R h1 J an dp ab ac=>by
  refine h H0 dN s a7 H R h1 J an (gy.xw he.get dp) ⟨⟨ab.base,fun b T cs e=>ab.aV b T cs (hb.get b _ e),fun b o e=>ab.tok b o (aF.get b _ e),ab.kE,ab.jK,ab.kS,ab.lP⟩,ab.bN,ab.bf⟩ ac
end Go.aX
namespace Go.aX
open Go
def gP (P:Program) (op:ba) (env:Env) (c:aJ) (S e3:I→aJ→Prop):Prop:=
  ∀H0 s a7 H (K Rp:I→aw→Prop),gy s env a7→ea H0 s c H→(∀bF v bp c1 av,bl.dU s bF→S v c1→aI bF v bp→ea H0 bF c1 av→K bp av)→(∀bF v bp c1 av,bl.dU s bF→e3 v c1→aI bF v bp→ea H0 bF c1 av→Rp bp av)→gH P op a7 H K Rp
section
variable {P:Program}{aN:List bj}{cF t0:Nat}{k:List e7}{Q:Out→aJ→Prop}{env:Env}{c c1:aJ}{v r:I}{anns:List I}{l:List bC}{K:Env→aJ→Prop}{Rp:I→aJ→Prop}{d:Option Nat}{g:Option (Nat×Bool)}{op:ba}{f:FuncId}{args:List aH}{az cap:List I}{x:aH}
theorem ai.nil (h:K env c):ai P [] [] env c K Rp:=fun H0 s a7 H K' iw he ab dz ia=>by
  exact dz s env a7 c H (bl.dU.refl s) h he ab
theorem ai.pH {S:I→aJ→Prop}(hw:wanted ⟨d,g,op⟩ env=some true) (hp:oi op=false) (ae:gP P op env c S Rp) (h: ∀v c1,S v c1→ai P anns l (env.put d v) c1 K Rp):ai P anns (⟨d,g,op⟩::l) env c K Rp:=fun H0 s a7 H K' iw he ab dz ia=>by
  have q:bh P (⟨d,g,op⟩::eB l anns) a7 H K' iw:=bh.step (B2 he hw) (ae H0 s a7 H _ _ he ab (fun bF v bp c1 av eG a2 a3 a4=>h v c1 a2 H0 bF _ av K' iw ((he.mono eG).put a3 d) a4 (fun s2 e cd c2 df ff jf lE pj=>dz s2 e cd c2 df (eG.trans ff) jf lE pj) (fun s2 e cd c2 df ff jf lE pj=>ia s2 e cd c2 df (eG.trans ff) jf lE pj)) ia)
  cases op<;>first|(simp [oi]at hp; done)|(cases anns<;>simpa only[eB] using q)
abbrev MC:vP:=fun _ _ _=>none
abbrev dY (op:ba) (env:Env) (c:aJ):Option (I×aJ):=k9 [] MC op env c
theorem gP.o (h:dY op env c=some (v,c1)):gP P op env c (fun bp cB=>bp=v∧cB=c1) Rp:=fun H0 s a7 H K Rp he ab dz ia=>
  UT (cvs:=[]) (cl:=MC) (fun _ _ _ _ _ h=>by cases h) (fun _ h=>by simp at h) he ab h fun bF bp av b5 cA dh=>dz bF v bp c1 av b5 ⟨rfl,rfl⟩ cA dh
theorem ai.o (hw:wanted ⟨d,g,op⟩ env=some true) (hp:oi op=false) (an:dY op env c=some (v,c1)) (h:ai P anns l (env.put d v) c1 K Rp):ai P anns (⟨d,g,op⟩::l) env c K Rp:=
  ai.pH hw hp (gP.o an) fun bp cB ⟨aj,aq⟩=>by rw[aj,aq]; exact h
theorem ai.gj (hw:wanted ⟨d,g,op⟩ env=some false) (hp:oi op=false) (h:ai P anns l (env.put d .undef) c K Rp):ai P anns (⟨d,g,op⟩::l) env c K Rp:=fun H0 s a7 H K' iw he ab dz ia=>by
  have q:bh P (⟨d,g,op⟩::eB l anns) a7 H K' iw:=bh.skip (B2 he hw) (h H0 s _ H K' iw (he.put (by simp only[aI]) d) ab dz ia)
  cases op<;>first|(simp [oi]at hp; done)|(cases anns<;>simpa only[eB] using q)
theorem ai.at2 (hw:wanted ⟨d,g,op⟩ env=some false) (hp:oi op=true) (h:ai P anns l (env.put d .undef) c K Rp):ai P (r::anns) (⟨d,g,op⟩::l) env c K Rp:=fun H0 s a7 H K' iw he ab dz ia=>by
  have Ek:=B2 he hw
  have q:=h H0 s (a7.put d I.undef) H K' iw (he.put (by simp only[aI]) d) ab dz ia
  cases op<;>first|(simp [oi]at hp; done)|(simp only[eB]; exact bh.skip Ek q)
theorem ai.u {d:Nat}(hp:oi op=false) (an:dY op env c=some (v,c1)) (h:ai P anns l ((d,v)::env) c1 K Rp):ai P anns (⟨some d,none,op⟩::l) env c K Rp:=ai.o rfl hp an h
theorem ai.QR (hp:oi op=false) (an:dY op env c=some (v,c1)) (h:ai P anns l env c1 K Rp):ai P anns (⟨none,none,op⟩::l) env c K Rp:=ai.o rfl hp an h
theorem RI {g g':Option (Nat×Bool)}{H0 H:aw}{a7:Env}{Gt:Env→aw→Prop}{Gz:I→aw→Prop}(h: ∀i,wanted ⟨d,g,i⟩ a7=wanted ⟨d,g',i⟩ a7) (k:bh P (eB (⟨d,g',op⟩::l) anns) a7 H Gt Gz):bh P (eB (⟨d,g,op⟩::l) anns) a7 H Gt Gz:=by
  cases op<;>cases anns<;>simp only[eB,bh]at k ⊢ <;>rw[h]<;>exact k
theorem ai.DD {j:Nat}{t b:Bool}(hb:env.get j= .bool b) (aF:b=t) (h:ai P anns (⟨d,none,op⟩::l) env c K Rp):ai P anns (⟨d,some (j,t),op⟩::l) env c K Rp:=fun H0 s a7 H K' iw he ab dz ia=>by
  subst aF
  refine RI (H0:=H0) (g':=none) (fun i=> ?_) (h H0 s a7 H K' iw he ab dz ia)
  have:=he j
  rw[hb]at this
  simp only[aI]at this
  simp only[wanted,this,beq_self_eq_true]
theorem ai.mV (hw:wanted ⟨d,g,.io f args⟩ env=some true) (h1:Pure P f az r) (aL:jt (args.map (bi env))=az) (aO:b9 az=true) (ab:r.flat=true) (h:ai P anns l (env.put d r) c K Rp):ai P (r::anns) (⟨d,g,.io f args⟩::l) env c K Rp:=fun H0 s a7 H K' iw he a8 dz ia=>by
  subst aL
  simp only[eB]
  exact bh.step (B2 he hw) (.gU (.cP r) (.oU (B3 _ _ (nq he args) aO) h1) fun _ _=>h H0 s _ H K' iw (he.put ((I.j1 r ab r).2 rfl) d) a8 dz ia)
theorem Bs {K Rp:I→aw→Prop}{s:bl}{H0:aw}(dz: ∀bF v bp c1 av,bl.dU s bF→Q (.ret v) c1→aI bF v bp→ea H0 bF c1 av→K bp av) (ia: ∀bF v bp c1 av,bl.dU s bF→Q (.dW v) c1→aI bF v bp→ea H0 bF c1 av→Rp bp av): ∀o' av,(∃bF o c1,bl.dU s bF∧Q o c1∧jy bF o o'∧ea H0 bF c1 av)→vU K Rp av o':=by
  rintro o' av ⟨bF,o,c1,eG,a2,a3,a4⟩
  cases o<;>cases o'<;>simp only[jy]at a3
  ·exact dz bF _ _ c1 av eG a2 a3 a4
  ·exact ia bF _ _ c1 av eG a2 a3 a4
theorem gP.call (h:aY P f (args.map (bi env)) c Q):gP P (.call f args) env c (fun v c1=>Q (.ret v) c1) (fun v c1=>Q (.dW v) c1):=fun H0 s a7 H K Rp he ab dz ia=>
  .call _ (dD.rN _) (h H0 s _ H (nq he args) ab) (Bs dz ia)
theorem gP.fx (U:bi env x= .fn f cap) (ah:cT P f=true) (h:aY P f (args.map (bi env)++cap) c Q):gP P (.fx x args) env c (fun v c1=>Q (.ret v) c1) (fun v c1=>Q (.dW v) c1):=fun H0 s a7 H K Rp he ab dz ia=>by
  have jI:=dJ he U
  simp only[aI]at jI
  obtain⟨aO4,g1,g2⟩:=jI
  exact .fx _ g1 ah (dD.rN _) (h H0 s _ H ((nq he args).append g2) ab) (Bs dz ia)
theorem gP.panic {t:TypeId}(U:bi env x= .gJ t v):gP P (.panic x) env c (fun _ _=>False) (fun bp cB=>bp= .gJ t v∧cB=c):=fun H0 s a7 H K Rp he ab dz ia=>by
  have jI:=dJ he U
  have yA:=jI
  simp only[aI]at jI
  obtain⟨y,g1,g2⟩:=jI
  rw[g1]at yA
  exact .panic g1 (ia s _ _ c H (bl.dU.refl s) ⟨rfl,rfl⟩ yA ab)
theorem gP.mono {S GF e3 GG:I→aJ→Prop}(h:gP P op env c S e3) (h1: ∀v c1,S v c1→GF v c1) (J: ∀v c1,e3 v c1→GG v c1):gP P op env c GF GG:=fun H0 s a7 H K Rp he ab dz ia=>
  h H0 s a7 H K Rp he ab (fun bF v bp c1 av eG a2 a3 a4=>dz bF v bp c1 av eG (h1 _ _ a2) a3 a4) (fun bF v bp c1 av eG a2 a3 a4=>ia bF v bp c1 av eG (J _ _ a2) a3 a4)
theorem ai.x0 (hw:wanted ⟨d,g,.call f args⟩ env=some true) (ah:aY P f az c Q) (aL:args.map (bi env)=az) (h: ∀v c1,Q (.ret v) c1→ai P anns l (env.put d v) c1 K Rp) (hp: ∀v c1,Q (.dW v) c1→Rp v c1):ai P anns (⟨d,g,.call f args⟩::l) env c K Rp:=by
  subst aL
  exact ai.pH hw rfl ((gP.call ah).mono (fun _ _ h=>h) hp) h
theorem ai.re (hw:wanted ⟨d,g,.call f args⟩ env=some true) (ah:aY P f az c (lB v c1)) (aL:args.map (bi env)=az) (h:ai P anns l (env.put d v) c1 K Rp):ai P anns (⟨d,g,.call f args⟩::l) env c K Rp:=
  ai.x0 hw ah aL (fun bp cB ⟨aj,aq⟩=>by cases aj; rw[aq]; exact h) (fun bp cB ⟨aj,aq⟩=>by cases aj)
theorem ai.aG8 (hw:wanted ⟨d,g,.fx x args⟩ env=some true) (U:bi env x= .fn f cap) (aO:cT P f=true) (ah:aY P f az c Q) (aL:args.map (bi env)++cap=az) (h: ∀v c1,Q (.ret v) c1→ai P anns l (env.put d v) c1 K Rp) (hp: ∀v c1,Q (.dW v) c1→Rp v c1):ai P anns (⟨d,g,.fx x args⟩::l) env c K Rp:=by
  subst aL
  exact ai.pH hw rfl ((gP.fx U aO ah).mono (fun _ _ h=>h) hp) h
theorem ai.Ge (hw:wanted ⟨d,g,.fx x args⟩ env=some true) (U:bi env x= .fn f cap) (aO:cT P f=true) (ah:aY P f az c (lB v c1)) (aL:args.map (bi env)++cap=az) (h:ai P anns l (env.put d v) c1 K Rp):ai P anns (⟨d,g,.fx x args⟩::l) env c K Rp:=
  ai.aG8 hw U aO ah aL (fun bp cB ⟨aj,aq⟩=>by cases aj; rw[aq]; exact h) (fun bp cB ⟨aj,aq⟩=>by cases aj)
theorem ai.af8 {t:TypeId}(hw:wanted ⟨d,g,.panic x⟩ env=some true) (U:bi env x= .gJ t v) (h:Rp (.gJ t v) c):ai P anns (⟨d,g,.panic x⟩::l) env c K Rp:=
  ai.pH hw rfl ((gP.panic U).mono (fun _ _ h=>h) (fun bp cB ⟨aj,aq⟩=>by rw[aj,aq]; exact h)) fun _ _ h=>h.elim
theorem aY.mono {Gw:Out→aJ→Prop}(h:aY P f az c Q) (bs: ∀o c1,Q o c1→Gw o c1):aY P f az c Gw:=fun H0 s ha H aL ab=>
  (h H0 s ha H aL ab).mono fun o av ⟨bF,eS,c1,eG,a2,a3,a4⟩=>⟨o,av,by cases o<;>exact cR.refl _,HSub.refl _,bF,eS,c1,eG,bs _ _ a2,a3,a4⟩
theorem aY.intro {fn:Func}{e:bu}(hm:P.follows .mixedOrders=true) (aO:P.funcs[f]? =some fn) (ah:b4 P fn az.length e aN=true) (h:ay P aN c.bN c.bf [.c e] Q (kR az) c):aY P f az c Q:=fun H0 s ha H aL ab=>by
  have aE:=bd.length aL
  exact GN hm aO (by rw[aE]; exact ah) (h H0 s s (kR ha) H _ ab.bN.symm ab.bf.symm (bl.dU.refl s) (YC aL) ab fun bF o o' c1 av b5 cA dh fC=>⟨bF,o,c1,b5,cA,dh,fC⟩)
theorem aY.EN (h:Pure P f az r) (aO:b9 az=true) (ab:r.flat=true){dA:List I}(aL:jt dA=az):aY P f dA c (lB r c):=fun H0 s ha H DR a8=>by
  subst aL
  have hp:=h H
  have u6:iu P f ha H fun o av=>o= .ret r∧av=H:=fun m ak hH aZ ad=>hp m ak hH aZ ((B3 _ _ DR aO).BO ad)
  exact u6.mono fun o av ⟨aj,aq⟩=>⟨o,av,by subst aj; exact cR.refl _,HSub.refl _,s,.ret r,c,bl.dU.refl s,⟨rfl,rfl⟩,by subst aj; exact (I.j1 r ab r).2 rfl,by rw[aq]; exact a8⟩
theorem aY.pure (h:aY P f az .new Q) (aO:b9 az=true) (ab:r.flat=true) (bs: ∀o c1,Q o c1→∃v,o= .ret v∧v.aQ=r):Pure P f az r:=iu.pure fun H=>
  (h H ⟨[],[]⟩ az H ((lM az aO _).2 rfl) (ea.start H)).mono fun o av ⟨bF,eS,c1,eG,a2,a3,a4⟩=>by
    obtain⟨v,aj,aq⟩:=bs _ _ a2
    subst aj aq
    cases o with
    |dW w=>simp only[jy]at a3
    |ret w=>exact⟨.ret w,av,cR.refl _,HSub.refl _,w,rfl,fun m y bg=>xx v w a3 ab y bg,a4.base⟩
end
end Go.aX
namespace Go.aX
open Go
mutual
def I.ek (p:bl):I→I
  | .ptr b o=> .ptr (p.b.getD b 0) o
  | .agg cs=> .agg (eO p cs)
  | .cV cs=> .cV (eO p cs)
  | .ak n rows=> .ak n rows
  | .own t n rows=> .own (p.t.getD t 0) n rows
  | .cz t v=> .cz (p.t.getD t 0) v
  | .mp t v k=> .mp (p.t.getD t 0) v k
  | .dL row o=> .dL row o
  | .fn f cap=> .fn f (eO p cap)
  | .gJ t v=> .gJ t (v.ek p)
  | .ec=> .ec
  | .bool b=> .bool b
  | .int k n=> .int k n
  | .str s=> .str s
  | .dI v=> .dI v
def eO (p:bl):List I→List I
  |[]=>[]
  |a::az=>a.ek p::eO p az
end
def bl.comp (p s:bl):bl:=⟨p.b.map fun b=>s.b.getD b 0,p.t.map fun t=>s.t.getD t 0⟩
structure bl.Sub (p s:bl):Prop where
  b: ∀(i x:Nat),p.b[i]? =some x→x<s.b.length
  t: ∀(i x:Nat),p.t[i]? =some x→x<s.t.length
theorem kO {l:List Nat}{i:Nat}(h:i<l.length):l[i]? =some (l.getD i 0):=by
  rw[aV9,List.getElem?_eq_getElem h]; rfl
theorem n0 {l:List Nat}{i x:Nat}(h:l[i]? =some x):l.getD i 0=x:=by rw[aV9,h]; rfl
theorem CQ {p s:bl}{i y:Nat}(h:p.b[i]? =some y):(p.comp s).b[i]? =some (s.b.getD y 0):=by simp [bl.comp,h]
theorem xZ {p s:bl}{i y:Nat}(h:p.t[i]? =some y):(p.comp s).t[i]? =some (s.t.getD y 0):=by simp [bl.comp,h]
theorem uA {p s:bl}{i x:Nat}(h:(p.comp s).b[i]? =some x): ∃y,p.b[i]? =some y∧s.b.getD y 0=x:=by
  simp only[bl.comp,aZ7,aW3]at h
  exact h
theorem sg {p s:bl}{i x:Nat}(h:(p.comp s).t[i]? =some x): ∃y,p.t[i]? =some y∧s.t.getD y 0=x:=by
  simp only[bl.comp,aZ7,aW3]at h
  exact h
section
variable {p s:bl}
mutual
theorem aI.comp (hp:p.Sub s): ∀(a v:I),a.dC p.b.length p.t.length=true→aI s (a.ek p) v→aI (p.comp s) a v
  | .ec,_,_,_=>by simp only[I.ek,aI]
  | .ptr b o,_,hb,h=>by
    have hb:=p9 hb
    simp only[I.ek,aI]at*
    obtain⟨x,h1,J⟩:=h
    exact⟨x,by rw[CQ (kO hb),n0 h1],J⟩
  | .cz t v,_,hb,h=>by
    have hb:=p9 hb
    simp only[I.ek,aI]at*
    obtain⟨x,h1,J⟩:=h
    exact⟨x,by rw[xZ (kO hb),n0 h1],J⟩
  | .mp t v k,_,hb,h=>by
    have hb:=p9 hb
    simp only[I.ek,aI]at*
    obtain⟨x,h1,J⟩:=h
    exact⟨x,by rw[xZ (kO hb),n0 h1],J⟩
  | .agg cs,_,hb,h=>by simp only[I.dC]at hb; simp only[I.ek,aI]at*; obtain⟨l,h1,J⟩:=h; exact⟨l,h1,bd.comp hp cs l hb J⟩
  | .cV cs,_,hb,h=>by simp only[I.dC]at hb; simp only[I.ek,aI]at*; obtain⟨l,h1,J⟩:=h; exact⟨l,h1,bd.comp hp cs l hb J⟩
  | .fn f cs,_,hb,h=>by simp only[I.dC]at hb; simp only[I.ek,aI]at*; obtain⟨l,h1,J⟩:=h; exact⟨l,h1,bd.comp hp cs l hb J⟩
  | .gJ t a,_,hb,h=>by simp only[I.dC]at hb; simp only[I.ek,aI]at*; obtain⟨x,h1,J⟩:=h; exact⟨x,h1,aI.comp hp a x hb J⟩
  | .ak n rows,_,hb,h=>by simp only[I.dC]at hb; simp only[I.ek,aI]at*; obtain⟨l,h1,J⟩:=h; exact⟨l,h1,tw hb J⟩
  | .dL row o,_,hb,h=>by simp only[I.dC]at hb; simp only[I.ek,aI]at*; obtain⟨l,h1,J⟩:=h; exact⟨l,h1,Dw hb J⟩
  | .own t n rows,_,hb,h=>by
    simp only[I.dC,aT0]at hb
    have mb:=p9 hb.1
    simp only[I.ek,aI]at*
    obtain⟨x,l,aW,h1,J⟩:=h
    exact⟨x,l,by rw[xZ (kO mb),n0 aW],h1,tw hb.2 J⟩
  | .bool _,_,_,h=>by simp only[I.ek,aI]at*; exact h
  | .int _ _,_,_,h=>by simp only[I.ek,aI]at*; exact h
  | .str _,_,_,h=>by simp only[I.ek,aI]at*; exact h
  | .dI _,_,_,h=>by simp only[I.ek,aI]at*; exact h
theorem bd.comp (hp:p.Sub s): ∀(az l:List I),dE p.b.length p.t.length az=true→bd s (eO p az) l→bd (p.comp s) az l
  |[],_,_,h=>by simp only[eO,bd]at*; exact h
  |a::az,_,hb,h=>by simp only[dE,aT0]at hb; simp only[eO,bd]at*; obtain⟨v,ak,h1,J,aA⟩:=h; exact⟨v,ak,h1,aI.comp hp a v hb.1 J,bd.comp hp az ak hb.2 aA⟩
end
mutual
theorem aI.split (hp:p.Sub s): ∀(a v:I),a.dC p.b.length p.t.length=true→aI (p.comp s) a v→aI s (a.ek p) v
  | .ec,_,_,_=>by simp only[I.ek,aI]
  | .ptr b o,_,hb,h=>by
    simp only[I.ek,aI]at*
    obtain⟨x,h1,J⟩:=h
    obtain⟨y,aj,aq⟩:=uA h1
    exact⟨x,by rw[n0 aj,kO (hp.b _ _ aj),aq],J⟩
  | .cz t v,_,hb,h=>by
    simp only[I.ek,aI]at*
    obtain⟨x,h1,J⟩:=h
    obtain⟨y,aj,aq⟩:=sg h1
    exact⟨x,by rw[n0 aj,kO (hp.t _ _ aj),aq],J⟩
  | .mp t v k,_,hb,h=>by
    simp only[I.ek,aI]at*
    obtain⟨x,h1,J⟩:=h
    obtain⟨y,aj,aq⟩:=sg h1
    exact⟨x,by rw[n0 aj,kO (hp.t _ _ aj),aq],J⟩
  | .agg cs,_,hb,h=>by simp only[I.dC]at hb; simp only[I.ek,aI]at*; obtain⟨l,h1,J⟩:=h; exact⟨l,h1,bd.split hp cs l hb J⟩
  | .cV cs,_,hb,h=>by simp only[I.dC]at hb; simp only[I.ek,aI]at*; obtain⟨l,h1,J⟩:=h; exact⟨l,h1,bd.split hp cs l hb J⟩
  | .fn f cs,_,hb,h=>by simp only[I.dC]at hb; simp only[I.ek,aI]at*; obtain⟨l,h1,J⟩:=h; exact⟨l,h1,bd.split hp cs l hb J⟩
  | .gJ t a,_,hb,h=>by simp only[I.dC]at hb; simp only[I.ek,aI]at*; obtain⟨x,h1,J⟩:=h; exact⟨x,h1,aI.split hp a x hb J⟩
  | .ak n rows,_,hb,h=>by simp only[I.dC]at hb; simp only[I.ek,aI]at*; obtain⟨l,h1,J⟩:=h; exact⟨l,h1,tw hb J⟩
  | .dL row o,_,hb,h=>by simp only[I.dC]at hb; simp only[I.ek,aI]at*; obtain⟨l,h1,J⟩:=h; exact⟨l,h1,Dw hb J⟩
  | .own t n rows,_,hb,h=>by
    simp only[I.dC,aT0]at hb
    simp only[I.ek,aI]at*
    obtain⟨x,l,aW,h1,J⟩:=h
    obtain⟨y,aj,aq⟩:=sg aW
    exact⟨x,l,by rw[n0 aj,kO (hp.t _ _ aj),aq],h1,tw hb.2 J⟩
  | .bool _,_,_,h=>by simp only[I.ek,aI]at*; exact h
  | .int _ _,_,_,h=>by simp only[I.ek,aI]at*; exact h
  | .str _,_,_,h=>by simp only[I.ek,aI]at*; exact h
  | .dI _,_,_,h=>by simp only[I.ek,aI]at*; exact h
theorem bd.split (hp:p.Sub s): ∀(az l:List I),dE p.b.length p.t.length az=true→bd (p.comp s) az l→bd s (eO p az) l
  |[],_,_,h=>by simp only[eO,bd]at*; exact h
  |a::az,_,hb,h=>by simp only[dE,aT0]at hb; simp only[eO,bd]at*; obtain⟨v,ak,h1,J,aA⟩:=h; exact⟨v,ak,h1,aI.split hp a v hb.1 J,bd.split hp az ak hb.2 aA⟩
end
end
theorem gm.any {s bF:bl}{o i:bB}(hb:jg o.kq=true) (h:gm s o i):gm bF o i:=by
  obtain⟨h1,J,aA,bz,bZ⟩:=h
  refine⟨h1,J,aA,bz,?_⟩
  cases ah:o.kq with
  |none=>rw[ah]at bZ; exact bZ
  |some rows=>
   rw[ah]at bZ hb
   obtain⟨l,aj,aq⟩:=bZ
   exact⟨l,aj,tw hb aq⟩
def Ga (p:bl) (cj:ey) (H:Nat→Option (TypeId×List I)):Nat→Option (TypeId×List I):=fun b=>bif p.b.contains b then (match (cj.find? fun q=>p.b.getD q.1 0==b) with
      |some q=>some (q.2.1,eO p q.2.2)
      |none=>none) else H b
def Gb (p:bl) (cv:eA) (H:Nat→Option bB):Nat→Option bB:=fun t=>bif p.t.contains t then (match (cv.find? fun q=>p.t.getD q.1 0==t) with
      |some q=>some q.2
      |none=>none) else H t
def aJ.jR (c:aJ) (p:bl) (cj:ey) (cv:eA):aJ:=⟨⟨Ga p cj c.H.aV,Gb p cv c.H.tok⟩,c.bN,c.bf⟩
def mL (H:Nat→Option (TypeId×List I)) (p:bl):ey→Prop
  |[]=>True
  |q::l=>H (p.b.getD q.1 0)=some (q.2.1,eO p q.2.2)∧mL H p l
def mM (H:Nat→Option bB) (p:bl):eA→Prop
  |[]=>True
  |q::l=>H (p.t.getD q.1 0)=some q.2∧mM H p l
theorem mL.get {H:Nat→Option (TypeId×List I)}{p:bl}: ∀ {l:ey},mL H p l→∀j T cs,fT l j=some (T,cs)→H (p.b.getD j 0)=some (T,eO p cs)
  |[],_,_,_,_,e=>by cases e
  |(k,x)::l,h,j,T,cs,e=>by
   simp only[mL]at h
   simp only[fT]at e
   cases hk:k==j with
   |true=>rw[hk]at e; cases e
          have:k=j:=by simpa using hk
          subst this; exact h.1
   |false=>rw[hk]at e; exact mL.get h.2 j T cs e
theorem mM.get {H:Nat→Option bB}{p:bl}: ∀ {l:eA},mM H p l→∀j o,hW l j=some o→H (p.t.getD j 0)=some o
  |[],_,_,_,e=>by cases e
  |(k,x)::l,h,j,o,e=>by
   simp only[mM]at h
   simp only[hW]at e
   cases hk:k==j with
   |true=>rw[hk]at e; cases e
          have:k=j:=by simpa using hk
          subst this; exact h.1
   |false=>rw[hk]at e; exact mM.get h.2 j o e
def nodupB:List Nat→Bool
  |[]=>true
  |a::l=> !l.contains a&&nodupB l
theorem EJ: ∀ {l:List Nat},nodupB l=true→∀(i j x:Nat),l[i]? =some x→l[j]? =some x→i=j
  |[],_,i,j,x,h,_=>by simp at h
  |a::l,h,0,0,x,_,_=>rfl
  |a::l,h,0,j+1,x,h1,J=>by
   simp only[nodupB,aT0,aX1]at h
   simp at h1 J
   subst h1
   have:=aT6 J
   simp [this]at h
  |a::l,h,i+1,0,x,h1,J=>by
   simp only[nodupB,aT0,aX1]at h
   simp at h1 J
   subst J
   have:=aT6 h1
   simp [this]at h
  |a::l,h,i+1,j+1,x,h1,J=>by
   simp only[nodupB,aT0]at h
   simp at h1 J
   rw[EJ h.2 i j x h1 J]
def Ad (n t:Nat):Out→Bool
  | .ret a=>a.dC n t
  | .dW a=>a.dC n t
def Out.ek (p:bl):Out→Out
  | .ret a=> .ret (a.ek p)
  | .dW a=> .dW (a.ek p)
theorem V6 {cj:ey}{p:bl}{b:Nat}{q:Nat×TypeId×List I}(h:cj.find? (fun q=>p.b.getD q.1 0==b)=some q):q∈cj∧p.b.getD q.1 0=b:=⟨bk7 h,by simpa using List.find?_some h⟩
section
variable {P:Program}{f:FuncId}{dA:List I}{c CC:aJ}{uq:Out→aJ→Prop}
theorem aY.frame (p:bl){fg:ey}{fr:eA}{n t:Nat}{Q:Out→aJ→Prop}(h:aY P f dA (aJ.of n t fg fr) uq) (bb:p.b.length=n) (aF:p.t.length=t)
    (bw:(nodupB p.b&&nodupB p.t)=true) (A2: ∀(i x:Nat),p.b[i]? =some x→x<c.bN) (cL: ∀(i x:Nat),p.t[i]? =some x→x<c.bf) (hb:(dE n t dA&&(eP n t fg&&eQ n t fr))=true) (eh:mL c.H.aV p fg) (dj:mM c.H.tok p fr)
    (bs: ∀o c1,uq o c1→∃cj cv,jw c1.H cj∧jx c1.H cv∧(eP n t cj&&(eQ n t cv&&Ad n t o))=true∧Q (o.ek p) (c.jR p cj cv)):aY P f (eO p dA) c Q:=fun H0 s ha H aL ab=>by
  subst bb aF
  simp only[aT0]at bw hb
  obtain⟨DY,Lc⟩:=bw
  obtain⟨mb,fN,DV⟩:=hb
  have hp:p.Sub s:=⟨fun i x e=>by rw[←ab.bN]; exact A2 i x e,fun i x e=>by rw[←ab.bf]; exact cL i x e⟩
  have wP: ∀ {i x:Nat},p.b[i]? =some x→s.b[x]? =some (s.b.getD x 0):=fun e=>kO (hp.b _ _ e)
  have kQ: ∀ {i x:Nat},p.t[i]? =some x→s.t[x]? =some (s.t.getD x 0):=fun e=>kO (hp.t _ _ e)
  let zP:aw:=⟨fun x=>if x∈(p.comp s).b then none else H.aV x,fun x=>if x∈(p.comp s).t then none else H.tok x⟩
  have X1:ea zP (p.comp s) (aJ.of p.b.length p.t.length fg fr) H:=by
    refine⟨⟨⟨fun x y e=> ?_,fun x y e=> ?_⟩,fun b T cs e=> ?_,fun b o e=> ?_,fun b x e=> ?_,fun b x e=> ?_,fun b bJ x e cd=> ?_,fun b bJ x e cd=> ?_⟩,by simp [aJ.of,bl.comp],by simp [aJ.of,bl.comp]⟩
    ·simp only[zP]at e
     split at e
     ·cases e
     ·exact e
    ·simp only[zP]at e
     split at e
     ·cases e
     ·exact e
    ·obtain⟨g1,g2⟩:=Ct fN b T cs e
     have g0:=kO (p9 g1)
     obtain⟨x,cn,b5,cA,dh⟩:=ab.aV _ _ _ (eh.get b T cs e)
     exact⟨x,cn,by rw[CQ g0,n0 b5],cA,bd.comp hp cs cn g2 dh⟩
    ·obtain⟨g1,g2⟩:=Cu DV b o e
     have g0:=kO (p9 g1)
     obtain⟨x,o',b5,cA,dh⟩:=ab.tok _ _ (dj.get b o e)
     exact⟨x,o',by rw[xZ g0,n0 b5],cA,gm.any g2 dh⟩
    ·obtain⟨y,aj,aq⟩:=uA e
     have aA:=wP aj
     rw[aq]at aA
     refine⟨?_,(ab.kE y x aA).2⟩
     show (if x∈(p.comp s).b then none else H.aV x)=none
     rw[if_pos (aT6 e)]
    ·obtain⟨y,aj,aq⟩:=sg e
     have aA:=kQ aj
     rw[aq]at aA
     refine⟨?_,(ab.jK y x aA).2⟩
     show (if x∈(p.comp s).t then none else H.tok x)=none
     rw[if_pos (aT6 e)]
    ·obtain⟨y,aj,aq⟩:=uA e
     obtain⟨gO,sl,Df⟩:=uA cd
     have aA:=wP aj
     have uN:=wP sl
     rw[aq]at aA
     rw[Df]at uN
     have:=ab.kS _ _ _ aA uN
     subst this
     exact EJ DY _ _ _ aj sl
    ·obtain⟨y,aj,aq⟩:=sg e
     obtain⟨gO,sl,Df⟩:=sg cd
     have aA:=kQ aj
     have uN:=kQ sl
     rw[aq]at aA
     rw[Df]at uN
     have:=ab.lP _ _ _ aA uN
     subst this
     exact EJ Lc _ _ _ aj sl
  refine (h zP (p.comp s) ha H (bd.comp hp dA ha mb aL) X1).mono fun o' av ⟨bF,o,c1,eG,a2,a3,a4⟩=> ?_
  obtain⟨cj,cv,g1,g2,g3,g4⟩:=bs o c1 a2
  simp only[aT0]at g3
  obtain⟨g3,g5,g6⟩:=g3
  have a5:=a4.cut g1 g2 (n:=p.b.length) (t:=p.t.length) (by
    rw[a4.bN]
    by_cases ch:p.b.length=0
    ·omega
    ·have aj:(p.comp s).b[p.b.length-1]? =some ((p.comp s).b.getD (p.b.length-1) 0):=kO (by simp only[bl.comp,aT1]; omega)
     have:=(List.getElem?_eq_some_iff.1 (eG.b _ _ aj)).1
     omega) (by
    rw[a4.bf]
    by_cases ch:p.t.length=0
    ·omega
    ·have aj:(p.comp s).t[p.t.length-1]? =some ((p.comp s).t.getD (p.t.length-1) 0):=kO (by simp only[bl.comp,aT1]; omega)
     have:=(List.getElem?_eq_some_iff.1 (eG.t _ _ aj)).1
     omega) g3 g5
  have es:(⟨bF.b.take p.b.length,bF.t.take p.t.length⟩:bl)=p.comp s:=by
    have b5:bF.b.take p.b.length=(p.comp s).b:=by
      apply bc8
      intro i
      rw[aV6]
      split
      ·rename_i ae
       have:=kO (l:=(p.comp s).b) (i:=i) (by simp only[bl.comp,aT1]; exact ae)
       rw[this,eG.b _ _ this]
      ·rename_i ae
       rw[aY3 (by simp only[bl.comp,aT1]; omega)]
    have cA:bF.t.take p.t.length=(p.comp s).t:=by
      apply bc8
      intro i
      rw[aV6]
      split
      ·rename_i ae
       have:=kO (l:=(p.comp s).t) (i:=i) (by simp only[bl.comp,aT1]; exact ae)
       rw[this,eG.t _ _ this]
      ·rename_i ae
       rw[aY3 (by simp only[bl.comp,aT1]; omega)]
    rw[b5,cA]
  have Cl:jy (p.comp s) o o':=by
    rw[←es]
    cases o<;>cases o'<;>simp only[jy,Ad]at a3 g6 ⊢
    ·exact aI.cut _ _ a3 g6
    ·exact aI.cut _ _ a3 g6
  rw[es]at a5
  have W4:HSub H0 av:=⟨fun x y e=>a4.base.aV x y (by
      show (if x∈(p.comp s).b then none else H.aV x)=some y
      rw[if_neg ?_,ab.base.aV x y e]
      intro hm
      obtain⟨i,ae⟩:=aW5 hm
      obtain⟨z,aj,aq⟩:=uA ae
      have aA:=wP aj
      rw[aq]at aA
      rw[(ab.kE _ _ aA).1]at e
      cases e),fun x y e=>a4.base.tok x y (by
      show (if x∈(p.comp s).t then none else H.tok x)=some y
      rw[if_neg ?_,ab.base.tok x y e]
      intro hm
      obtain⟨i,ae⟩:=aW5 hm
      obtain⟨z,aj,aq⟩:=sg ae
      have aA:=kQ aj
      rw[aq]at aA
      rw[(ab.jK _ _ aA).1]at e
      cases e)⟩
  have XH: ∀ {b x:Nat},s.b[b]? =some x→(x∈(p.comp s).b↔b∈p.b):=by
    intro b x e
    constructor
    ·intro hm
     obtain⟨i,ae⟩:=aW5 hm
     obtain⟨z,aj,aq⟩:=uA ae
     have aA:=wP aj
     rw[aq]at aA
     rw[ab.kS _ _ _ e aA]
     exact aT6 aj
    ·intro hm
     obtain⟨i,ae⟩:=aW5 hm
     have:=CQ (s:=s) ae
     rw[n0 e]at this
     exact aT6 this
  have XK: ∀ {b x:Nat},s.t[b]? =some x→(x∈(p.comp s).t↔b∈p.t):=by
    intro b x e
    constructor
    ·intro hm
     obtain⟨i,ae⟩:=aW5 hm
     obtain⟨z,aj,aq⟩:=sg ae
     have aA:=kQ aj
     rw[aq]at aA
     rw[ab.lP _ _ _ e aA]
     exact aT6 aj
    ·intro hm
     obtain⟨i,ae⟩:=aW5 hm
     have:=xZ (s:=s) ae
     rw[n0 e]at this
     exact aT6 this
  refine⟨o',av,by cases o'<;>exact cR.refl _,HSub.refl _,s,o.ek p,c.jR p cj cv,bl.dU.refl s,g4,?_,⟨⟨W4,fun b T cs e=> ?_,fun b ac8 e=> ?_,fun b x e=> ?_,fun b x e=> ?_,ab.kS,ab.lP⟩,ab.bN,ab.bf⟩⟩
  ·cases o<;>cases o'<;>simp only[jy,Out.ek,Ad]at Cl g6 ⊢
   ·exact aI.split hp _ _ g6 Cl
   ·exact aI.split hp _ _ g6 Cl
  ·simp only[aJ.jR,Ga]at e
   cases hm:p.b.contains b with
   |false=>
    rw[hm,cond_false]at e
    obtain⟨x,cn,b5,cA,dh⟩:=ab.aV b T cs e
    refine⟨x,cn,b5,a4.base.aV x _ ?_,dh⟩
    show (if x∈(p.comp s).b then none else H.aV x)= _
    rw[if_neg ?_,cA]
    rw[XH b5]
    intro a8
    simp [a8]at hm
   |true=>
    rw[hm,cond_true]at e
    split at e
    ·rename_i q bs
     obtain⟨br,bA⟩:=V6 bs
     cases e
     obtain⟨kU,s0,qf⟩:=q
     simp only at bA ⊢
     have wM:kU<p.b.length∧dE p.b.length p.t.length qf=true∧∃x cn,(p.comp s).b[kU]? =some x∧av.aV x=some (s0,cn)∧bd (p.comp s) qf cn:=by
       have wE: ∀(l:ey),jw c1.H l→eP p.b.length p.t.length l=true→(kU,s0,qf)∈l→c1.H.aV kU=some (s0,qf)∧kU<p.b.length∧dE p.b.length p.t.length qf=true:=by
         intro l
         induction l with
         |nil=>intro _ _ h; simp at h
         |cons q l b8=>
          intro h1 J aA
          simp only[jw]at h1
          simp only[eP,aT0,bg0]at J
          simp only[aV8]at aA
          rcases aA with aA|aA
          ·subst aA; exact⟨h1.1,J.1,J.2.1⟩
          ·exact b8 h1.2 J.2.2 aA
       obtain⟨cb,cp,c5⟩:=wE cj g1 g3 br
       obtain⟨x,cn,vK,xu,xv⟩:=a4.aV kU s0 qf cb
       have F7:(p.comp s).b[kU]? =some x:=by
         have w:=kO (l:=(p.comp s).b) (i:=kU) (by simp only[bl.comp,aT1]; exact cp)
         have nh:=eG.b _ _ w
         rw[vK]at nh
         cases nh
         exact w
       refine⟨cp,c5,x,cn,F7,xu,?_⟩
       have:=bd.cut (n:=p.b.length) (t:=p.t.length) _ _ xv c5
       rw[es]at this
       exact this
     obtain⟨cp,c5,x,cn,vK,xu,xv⟩:=wM
     obtain⟨y,aj,aq⟩:=uA vK
     have aA:=wP aj
     rw[aq]at aA
     rw[n0 aj]at bA
     subst bA
     exact⟨x,cn,aA,xu,bd.split hp qf cn c5 xv⟩
    ·cases e
  ·simp only[aJ.jR,Gb]at e
   cases hm:p.t.contains b with
   |false=>
    rw[hm,cond_false]at e
    obtain⟨x,cn,b5,cA,dh⟩:=ab.tok b ac8 e
    refine⟨x,cn,b5,a4.base.tok x _ ?_,dh⟩
    show (if x∈(p.comp s).t then none else H.tok x)= _
    rw[if_neg ?_,cA]
    rw[XK b5]
    intro a8
    simp [a8]at hm
   |true=>
    rw[hm,cond_true]at e
    split at e
    ·rename_i q bs
     have br:=bk7 bs
     have bA:p.t.getD q.1 0=b:=by simpa using List.find?_some bs
     cases e
     obtain⟨kU,Bn⟩:=q
     simp only at bA ⊢
     have wE: ∀(l:eA),jx c1.H l→eQ p.b.length p.t.length l=true→(kU,Bn)∈l→c1.H.tok kU=some Bn∧kU<p.t.length∧jg Bn.kq=true:=by
       intro l
       induction l with
       |nil=>intro _ _ h; simp at h
       |cons q l b8=>
        intro h1 J aA
        simp only[jx]at h1
        simp only[eQ,aT0,bg0]at J
        simp only[aV8]at aA
        rcases aA with aA|aA
        ·subst aA; exact⟨h1.1,J.1,J.2.1⟩
        ·exact b8 h1.2 J.2.2 aA
     obtain⟨cb,cp,c5⟩:=wE cv g2 g5 br
     obtain⟨x,eS,vK,xu,xv⟩:=a4.tok kU Bn cb
     have F7:(p.comp s).t[kU]? =some x:=by
       have w:=kO (l:=(p.comp s).t) (i:=kU) (by simp only[bl.comp,aT1]; exact cp)
       have nh:=eG.t _ _ w
       rw[vK]at nh
       cases nh
       exact w
     obtain⟨y,aj,aq⟩:=sg F7
     have aA:=kQ aj
     rw[aq]at aA
     rw[n0 aj]at bA
     subst bA
     exact⟨x,eS,aA,xu,gm.any c5 xv⟩
    ·cases e
  ·obtain⟨b5,y,cA⟩:=ab.kE b x e
   refine⟨b5,?_⟩
   by_cases hm:x∈(p.comp s).b
   ·obtain⟨i,ae⟩:=aW5 hm
    exact (a4.kE i x (eG.b _ _ ae)).2
   ·exact⟨y,a4.base.aV x y (by show (if x∈(p.comp s).b then none else H.aV x)=some y; rw[if_neg hm]; exact cA)⟩
  ·obtain⟨b5,y,cA⟩:=ab.jK b x e
   refine⟨b5,?_⟩
   by_cases hm:x∈(p.comp s).t
   ·obtain⟨i,ae⟩:=aW5 hm
    exact (a4.jK i x (eG.t _ _ ae)).2
   ·exact⟨y,a4.base.tok x y (by show (if x∈(p.comp s).t then none else H.tok x)=some y; rw[if_neg hm]; exact cA)⟩
def c8 (v:I) (cj:ey) (cv:eA):Out→aJ→Prop:=fun o c=>o= .ret v∧jw c.H cj∧jx c.H cv
theorem aY.oH (p:bl){fg kl:ey}{fr kI:eA}{n t:Nat}{v:I}(h:aY P f dA (aJ.of n t fg fr) (c8 v kl kI)) (bb:p.b.length=n) (aF:p.t.length=t)
    (bw:(nodupB p.b&&nodupB p.t&&p.b.all (fun x=>aW7 x c.bN)&&p.t.all (fun x=>aW7 x c.bf))=true) (eh:mL c.H.aV p fg) (dj:mM c.H.tok p fr) (hb:(dE n t dA&&(eP n t fg&&eQ n t fr))=true)
    (h1:(eP n t kl&&(eQ n t kI&&v.dC n t))=true){az:List I}(aL:az=eO p dA):aY P f az c (lB (v.ek p) (c.jR p kl kI)):=by
  simp only[aT0,bb1]at bw
  obtain⟨⟨⟨d1,d2⟩,d3⟩,d4⟩:=bw
  subst aL
  refine aY.frame p h bb aF (by rw[d1,d2]; rfl) (fun i x e=>p9 (d3 x (aT6 e))) (fun i x e=>p9 (d4 x (aT6 e))) hb eh dj ?_
  rintro o c1 ⟨rfl,J,aA⟩
  exact⟨kl,kI,J,aA,h1,rfl,rfl⟩
end
end Go.aX
namespace Go.aX
open Go
section
variable {P:Program}{aN:List bj}{cF t0:Nat}{k:List e7}{Q:Out→aJ→Prop}{env:Env}{c c1:aJ}{v r:I}{anns:List I}{l:List bC}{K:Env→aJ→Prop}{Rp:I→aJ→Prop}{d:Option Nat}{g:Option (Nat×Bool)}{x y i:aH}{ei:IntKind}{size:Nat}{rows new:List (List I)}{row:List I}{a b:List UInt8}{z ul:Int}
theorem UF {z:Int}{len:Nat}(aW:0≤z) (h1:z<len):rc z len=some z.toNat:=by
  match z,aW,h1 with
  | .ofNat n,_,h1=>
    have:aW7 n len=true:=Nat.blt_eq.symm▸Int.ofNat_lt.1 h1
    simp only[rc,this,cond_true]
    rfl
theorem Bo {z:Int}(aW:0≤z): ∃n:Nat,z= .ofNat n∧z.toNat=n:=⟨z.toNat,(Int.toNat_of_nonneg aW).symm,rfl⟩
theorem ai.ij (hw:wanted ⟨d,g,.bin .add x y⟩ env=some true) (U:bi env x= .str a) (bg:bi env y= .str b) (hb:a.length+b.length≤maxLen) (h:ai P anns l (env.put d (.str (a++b))) c K Rp):ai P anns (⟨d,g,.bin .add x y⟩::l) env c K Rp:=
  ai.o hw rfl (by simp only[dY,k9,e4,U,bg,wa,ba7 hb,cond_true]<;>rfl) h
theorem ai.YL (hw:wanted ⟨d,g,.gS size x i⟩ env=some true) (U:bi env x= .ak size rows) (ae:bi env i= .int ei z) (aW:0≤z) (ab:rows[z.toNat]? =some row) (h:ai P anns l (env.put d (.dL row 0)) c K Rp):ai P anns (⟨d,g,.gS size x i⟩::l) env c K Rp:=by
  obtain⟨n,aj,aq⟩:=Bo aW
  rw[aq]at ab
  subst aj
  exact ai.o hw rfl (by simp only[dY,k9,e4,U,ae,beq_self_eq_true,cond_true,ab]<;>rfl) h
theorem ai.YH {t:Nat}(hw:wanted ⟨d,g,.gS size x i⟩ env=some true) (U:bi env x= .own t size rows) (ae:bi env i= .int ei z) (aW:0≤z) (ab:rows[z.toNat]? =some row) (h:ai P anns l (env.put d (.dL row 0)) c K Rp):ai P anns (⟨d,g,.gS size x i⟩::l) env c K Rp:=by
  obtain⟨n,aj,aq⟩:=Bo aW
  rw[aq]at ab
  subst aj
  exact ai.o hw rfl (by simp only[dY,k9,e4,U,ae,beq_self_eq_true,cond_true,ab]<;>rfl) h
theorem ai.YJ {u:UInt8}(hw:wanted ⟨d,g,.gp x i⟩ env=some true) (U:bi env x= .str a) (ae:bi env i= .int ei z) (aW:0≤z) (ab:a[z.toNat]? =some u) (h:ai P anns l (env.put d (.int .u8 u.toNat)) c K Rp):ai P anns (⟨d,g,.gp x i⟩::l) env c K Rp:=by
  obtain⟨n,aj,aq⟩:=Bo aW
  rw[aq]at ab
  subst aj
  exact ai.o hw rfl (by simp only[dY,k9,e4,U,ae,ab]<;>rfl) h
theorem ai.au1 {cm ae:Option aH}{p q:Nat}(hw:wanted ⟨d,g,.gL size x cm ae none⟩ env=some true) (U:mX size (bi env x)=some rows) (aE:nu env 0 cm=some p) (a8:nu env rows.length ae=some q) (h1:p≤q) (J:q≤rows.length) (h:ai P anns l (env.put d (.ak size ((rows.take q).drop p))) c K Rp):ai P anns (⟨d,g,.gL size x cm ae none⟩::l) env c K Rp:=
  ai.o hw rfl (by simp only[dY,k9,e4,U,aE,a8,ba7 h1,ba7 J,aW0,cond_true]<;>rfl) h
theorem ac4 {env:Env}{C3:Nat}{x:aH}{z:Int}(U:bi env x= .int ei z) (aW:0≤z):nu env C3 (some x)=some z.toNat:=by
  obtain⟨n,aj,aq⟩:=Bo aW
  subst aj
  simp only[nu,U]
  rfl
theorem ai.jz {T bytes t:Nat}(hw:wanted ⟨d,g,.append T size bytes x y⟩ env=some true) (U:bi env x= .own t size rows) (aF:c.H.tok t=some (.bP T size rows.length)) (bg:rowsOf size (bi env y)=some new) (hb:(rows.length+new.length)*bytes≤140737488355328) (hm:rows.length+new.length≤maxLen) (h:ai P anns l (env.put d (.own t size (rows++new))) (c.b7 t (.bP T size (rows.length+new.length))) K Rp):ai P anns (⟨d,g,.append T size bytes x y⟩::l) env c K Rp:=
  ai.o hw rfl (by simp only[dY,k9,bg,U,CM,aF,bB.bP,beq_self_eq_true,ba7 hb,ba7 hm,aW0,cond_true]<;>rfl) h
theorem Ki {env:Env}{j:Nat}{v:I}(h:env.get j=v): ∀i,Env.get ((j,v)::env) i=env.get i:=fun i=>by
  simp only[Env.get]
  cases ae:j==i with
  |true=>have:j=i:=by simpa using ae
         subst this; exact h.symm
  |false=>rfl
theorem ai.gs {j:Nat}{t:Bool}{op:ba}{b:Bool}(hb:env.get j= .bool b) (h1:b=true→ai P anns (⟨d,some (j,t),op⟩::l) ((j,.bool true)::env) c K Rp) (J:b=false→ai P anns (⟨d,some (j,t),op⟩::l) ((j,.bool false)::env) c K Rp):ai P anns (⟨d,some (j,t),op⟩::l) env c K Rp:=fun H0 s a7 H K' iw he ab dz ia=>by
  cases b with
  |true=>exact h1 rfl H0 s a7 H K' iw (fun i=>by rw[Ki hb i]; exact he i) ab dz ia
  |false=>exact J rfl H0 s a7 H K' iw (fun i=>by rw[Ki hb i]; exact he i) ab dz ia
theorem ay.dr {ops:List bC}{draw:Bool}(h:ai P [] ops env c (fun e c1=>ay P aN cF t0 k Q e c1) (fun v c1=>Q (.dW v) c1)):ay P aN cF t0 (.c (.region ops draw)::k) Q env c:=ay.kG h
theorem ai.LV {p d:Nat}(ab:rows[p]? =some row) (U:bi env x= .ak size rows) (ae:bi env i= .int ei z) (e:z=p) (h:ai P anns l ((d,.dL row 0)::env) c K Rp):ai P anns (⟨some d,none,.gS size x i⟩::l) env c K Rp:=ai.YL rfl U ae (by omega) (by rw[e,aY6]; exact ab) h
theorem ai.YI {p d t:Nat}(ab:rows[p]? =some row) (U:bi env x= .own t size rows) (ae:bi env i= .int ei z) (e:z=p) (h:ai P anns l ((d,.dL row 0)::env) c K Rp):ai P anns (⟨some d,none,.gS size x i⟩::l) env c K Rp:=ai.YH rfl U ae (by omega) (by rw[e,aY6]; exact ab) h
theorem ai.YK {p d:Nat}{u:UInt8}(ab:a[p]? =some u) (U:bi env x= .str a) (ae:bi env i= .int ei z) (e:z=p) (h:ai P anns l ((d,.int .u8 u.toNat)::env) c K Rp):ai P anns (⟨some d,none,.gp x i⟩::l) env c K Rp:=ai.YJ rfl U ae (by omega) (by rw[e,aY6]; exact ab) h
theorem ac5 {env:Env}{C3:Nat}{x:aH}{z:Int}{p:Nat}(U:bi env x= .int ei z) (e:z=p):nu env C3 (some x)=some p:=by subst e; rw[ac4 U (by omega),aY6]
theorem ai.zq {ae:aH}(q:Nat){d:Nat}(U:mX size (bi env x)=some rows) (aE:bi env ae= .int ei z) (aj:z=q) (h1:q≤rows.length) (h:ai P anns l ((d,.ak size (rows.take q))::env) c K Rp):ai P anns (⟨some d,none,.gL size x none (some ae) none⟩::l) env c K Rp:=ai.au1 rfl U rfl (ac5 aE aj) (aT8 _) h1 h
theorem ai.Uk {d:Nat}(U:bi env x= .str a) (bg:bi env y= .str b) (hb:a.length+b.length≤maxLen) (h:ai P anns l ((d,.str (a++b))::env) c K Rp):ai P anns (⟨some d,none,.bin .add x y⟩::l) env c K Rp:=ai.ij rfl U bg hb h
theorem ai.GV {T bytes t d:Nat}(U:bi env x= .own t size rows) (aF:c.H.tok t=some (.bP T size rows.length)) (bg:rowsOf size (bi env y)=some new) (hb:(rows.length+new.length)*bytes≤140737488355328) (hm:rows.length+new.length≤maxLen) (h:ai P anns l ((d,.own t size (rows++new))::env) (c.b7 t (.bP T size (rows.length+new.length))) K Rp):ai P anns (⟨some d,none,.append T size bytes x y⟩::l) env c K Rp:=ai.jz rfl U aF bg hb hm h
theorem Mi {α β:Type}(f:α→β){l:List α}{i:Nat}{v:α}(h:l[i]? =some v):(l.map f)[i]? =some (f v):=by simp [h]
theorem ai.fl {α:Type}{f:α→List I}{w:α}{m:List α}{p d:Nat}(U:bi env x= .ak size (m.map f)) (ae:bi env i= .int ei z) (ab:m[p]? =some w) (e:z=p) (h:ai P anns l ((d,.dL (f w) 0)::env) c K Rp):ai P anns (⟨some d,none,.gS size x i⟩::l) env c K Rp:=ai.LV (Mi f ab) U ae e h
theorem ai.fm {α:Type}{f:α→List I}{w:α}{m:List α}{p d t:Nat}(U:bi env x= .own t size (m.map f)) (ae:bi env i= .int ei z) (ab:m[p]? =some w) (e:z=p) (h:ai P anns l ((d,.dL (f w) 0)::env) c K Rp):ai P anns (⟨some d,none,.gS size x i⟩::l) env c K Rp:=ai.YI (Mi f ab) U ae e h
theorem ai.fo {u:UInt8}{p d:Nat}(U:bi env x= .str a) (ae:bi env i= .int ei z) (ab:a[p]? =some u) (e:z=p) (h:ai P anns l ((d,.int .u8 u.toNat)::env) c K Rp):ai P anns (⟨some d,none,.gp x i⟩::l) env c K Rp:=ai.YK ab U ae e h
theorem ay.uJ (j size T:Nat) (bq:env.get j= .bn) (aW:size≠0) (h:ay P aN cF t0 k Q ((j,.own c.bf size [])::env) (c.fw (.bP T size 0))):ay P aN cF t0 k Q env c:=fun H0 dN s a7 H R bb aF an he ab ac=>by
  refine ci.conv (fun cd av=> ∃t,H.tok t=none∧cd=(j,.own t size [])::a7∧av=H.b7 t (.bP T size 0)) ?_ ?_
  ·intro m hH aZ
   subst hH
   obtain⟨cb,aj,v1⟩:=EE aZ (T:=T) aW
   refine⟨_,_,_,_,⟨m.T,qL aZ,rfl,rfl⟩,cb,aj,fun i w hw=> ?_⟩
   simp only[Env.get]
   cases ae:j==i with
   |true=>
    have:j=i:=by simpa using ae
    subst this
    have bm:=he j
    rw[bq]at bm
    simp only[aI]at bm
    rw[bm]at hw
    simp only[aK]at hw
    subst hw
    exact v1
   |false=>exact aK.aC aj _ _ hw
  ·rintro cd av ⟨t,h1,rfl,rfl⟩
   refine h H0 dN ⟨s.b,s.t++[t]⟩ _ _ R bb aF (an.trans (bl.jJ s t)) ?_ (ab.fw gm.bP h1) ac
   refine (he.mono (bl.jJ s t)).put (d:=some j) ?_
   simp only[aI]
   exact⟨t,[],by rw[ab.bf]; exact mE,rfl,by simp only[bV]⟩
theorem ay.tx (p o size pW:Nat){T:TypeId}{cs:List I}(hb:c.H.aV p=some (T,cs)) (af:cs[o]? =some .bn) (aW:size≠0) (h:ay P aN cF t0 k Q env ((c.fw (.bP pW size 0)).cc p T (cs.set o (.own c.bf size [])))):ay P aN cF t0 k Q env c:=fun H0 dN s a7 H R bb aF an he ab ac=>by
  obtain⟨x,cn,b5,cA,dh⟩:=ab.aV p T cs hb
  have lj:cn[o]? =some .bn:=by
    obtain⟨v,aj,aq⟩:=dh.get o _ af
    simp only[aI]at aq
    rw[aj,aq]
  refine ci.conv (fun cd av=> ∃t,H.tok t=none∧cd=a7∧av=(H.b7 t (.bP pW size 0)).cc x T (cn.set o (.own t size []))) ?_ ?_
  ·intro m hH aZ
   subst hH
   obtain⟨cb,aj,v1⟩:=EE aZ (T:=pW) aW
   obtain⟨l,pA,kv,uZ⟩:=cb.aV x T cn cA
   obtain⟨v,va,qu⟩:=kv.get o _ lj
   simp only[aK]at qu
   subst qu
   have qp:=kv.set o v1
   rw[yP va]at qp
   have cp:=bG.ic cb (w':=m.w) (b:=x) (T:=T) cA rfl rfl rfl rfl (fun _ _=>rfl) pA qp uZ
   have aq:=bH.ic cb (w':=m.w) (b:=x) (T:=T) (cs:=cn.set o (.own m.T size [])) cA rfl rfl rfl rfl (fun _ _=>rfl)
   exact⟨a7,_,_,_,⟨m.T,qL aZ,rfl,rfl⟩,cp,aj.trans aq,fun j v ad=>aK.aC (aj.trans aq) _ _ ad⟩
  ·rintro cd av ⟨t,h1,rfl,rfl⟩
   have bZ:=ab.fw (s:=s) (x:=t) (gm.bP (s:=s) (T:=pW) (size:=size) (n:=0)) h1
   refine h H0 dN ⟨s.b,s.t++[t]⟩ _ _ R bb aF (an.trans (bl.jJ s t)) (he.mono (bl.jJ s t)) (bZ.cc b5 ?_) ac
   have: ∀ {az l:List I}(_:bd s az l) (n:Nat){a v:I},aI ⟨s.b,s.t++[t]⟩ a v→bd ⟨s.b,s.t++[t]⟩ (az.set n a) (l.set n v):=by
     intro az
     induction az with
     |nil=>intro l h n a v _; simp only[bd]at h; subst h; simp [bd]
     |cons a az b8=>
      intro l h n b v ad
      simp only[bd]at h
      obtain⟨w,ws,rfl,h1,J⟩:=h
      cases n with
      |zero=>simp only[List.set_cons_zero,bd]; exact⟨_,_,rfl,ad,bd.mono (bl.jJ s t) _ _ J⟩
      |succ n=>simp only[List.set_cons_succ,bd]; exact⟨_,_,rfl,aI.mono (bl.jJ s t) _ _ h1,b8 J n ad⟩
   refine this dh o ?_
   simp only[aI]
   exact⟨t,[],by rw[ab.bf]; exact mE,rfl,by simp only[bV]⟩
def xF {X:Type}(E:X→Env) (C:X→aJ) (eT:X→Prop) (bc:X→Nat):Nat→Env→aJ→Prop:=fun m env c=> ∃x,eT x∧env=E x∧c=C x∧bc x=m
theorem ay.dq {X:Type}{body:bu}(my:X) (E:X→Env) (B:X→ey) (T:X→eA) (eT:X→Prop) (bc:X→Nat) (aW:eT my) (he:pT env (E my)) (hb:jw c.H (B my)) (aF:jx c.H (T my)) (h: ∀x,eT x→ay P aN cF t0 (.c body:: .mm (xF E (fun x=>aJ.of c.bN c.bf (B x) (T x)) eT bc) (bc x)::k) Q (E x) (aJ.of c.bN c.bf (B x) (T x))):ay P aN cF t0 (.c (.loop body)::k) Q env c:=
  ay.LZ (E my) (B my) (T my) he hb aF (ay.loop (xF E (fun x=>aJ.of c.bN c.bf (B x) (T x)) eT bc) (bc my) ⟨my,aW,rfl,rfl,rfl⟩ fun m e cB ⟨x,h1,J,aA,bz⟩=>by subst J aA bz; exact h x h1)
theorem ay.fH {X:Type}{E:X→Env}{bN bf:Nat}{B:X→ey}{T:X→eA}{eT:X→Prop}{bc:X→Nat}{m0:Nat}(x:X) (aW:eT x) (he:pT env (E x)) (hb:jw c.H (B x)) (aF:jx c.H (T x)) (bb:c.bN=bN) (hm:c.bf=bf) (h1:bc x<m0):ay P aN cF t0 (.mm (xF E (fun x=>aJ.of bN bf (B x) (T x)) eT bc) m0::k) Q env c:=
  ay.LZ (E x) (B x) (T x) he hb aF (ay.round (bc x) ⟨x,aW,rfl,by rw[bb,hm],rfl⟩ h1)
theorem ay.lU {X:Type}{E:X→Env}{bN bf:Nat}{B:X→ey}{T:X→eA}{eT:X→Prop}{bc:X→Nat}{m0:Nat}(x:X) (aW:eT x) (he:pT env (E x)) (hb:jw c.H (B x)) (aF:jx c.H (T x)) (bb:(aV2 cF bN&&(aV2 bN c.bN&&(aV2 t0 bf&&aV2 bf c.bf)))=true) (bw:(jp bN bf (E x)&&(eP bN bf (B x)&&eQ bN bf (T x)))=true) (h1:bc x<m0):ay P aN cF t0 (.mm (xF E (fun x=>aJ.of bN bf (B x) (T x)) eT bc) m0::k) Q env c:=
  ay.cut bN bf (E x) (B x) (T x) he hb aF bb bw (ay.round (bc x) ⟨x,aW,rfl,rfl,rfl⟩ h1)
end
section
variable {P:Program}{aN:List bj}{cF t0:Nat}{k:List e7}{Q:Out→aJ→Prop}{env:Env}{c:aJ}
end
theorem lN {α:Type}{f:α→List I}(h: ∀x,b9 (f x)=true): ∀(l:List α),eD (l.map f)=true
  |[]=>rfl
  |a::l=>by simp only[aU5,eD,h,lN h l,aT7]
mutual
theorem Ra: ∀(a:I),a.flat=true→a.aQ=a
  | .agg cs,h=>by simp only[I.flat]at h; simp only[I.aQ,Gh cs h]
  | .cV cs,h=>by simp only[I.flat]at h; simp only[I.aQ,Gh cs h]
  | .own _ _ _,h=>by simp [I.flat]at h
  | .ec,_=>rfl
  | .bool _,_=>rfl
  | .int _ _,_=>rfl
  | .str _,_=>rfl
  | .dI _,_=>rfl
  | .ptr _ _,_=>rfl
  | .ak _ _,_=>rfl
  | .cz _ _,_=>rfl
  | .mp _ _ _,_=>rfl
  | .dL _ _,_=>rfl
  | .fn _ _,_=>rfl
  | .gJ _ _,_=>rfl
theorem Gh: ∀(l:List I),b9 l=true→jt l=l
  |[],_=>rfl
  |a::l,h=>by simp only[b9,aT0]at h; simp only[jt,Ra a h.1,Gh l h.2]
end
mutual
inductive q2:I→I→Prop
  |aQ {v r:I}(h:v.aQ=r) (aO:r.flat=true):q2 v r
  |nil {n:Nat}:q2 .bn (.ak n [])
  |agg {az bU:List I}(h:q4 az bU):q2 (.agg az) (.agg bU)
  |cV {az bU:List I}(h:q4 az bU):q2 (.cV az) (.cV bU)
inductive q4:List I→List I→Prop
  |nil:q4 [] []
  |cons {a b:I}{az bU:List I}(h:q2 a b) (t:q4 az bU):q4 (a::az) (b::bU)
end
mutual
theorem q2.le: ∀ {v r:I},q2 v r→∀(s:bl) (bp:I),aI s v bp→cR bp r
  | _,_,.aQ h aO,s,bp,ad=>by subst h; exact fun m y bg=>xx _ bp ad aO y bg
  | _,_,.nil,s,bp,ad=>by simp only[aI]at ad; subst ad; exact cR.nil
  | _,_,.agg h,s,bp,ad=>by simp only[aI]at ad; obtain⟨l,e,aE⟩:=ad; subst e; exact xO (q4.le h s l aE)
  | _,_,.cV h,s,bp,ad=>by simp only[aI]at ad; obtain⟨l,e,aE⟩:=ad; subst e; exact RS (q4.le h s l aE)
theorem q4.le: ∀ {az bU:List I},q4 az bU→∀(s:bl) (l:List I),bd s az l→dD l bU
  | _,_,.nil,s,l,h=>by simp only[bd]at h; subst h; exact pZ
  | _,_,.cons h t,s,l,aE=>by simp only[bd]at aE; obtain⟨v,ak,e,h1,J⟩:=aE; subst e; exact fc (q2.le h s v h1) (q4.le t s ak J)
end
def xJ (r:I) (cj:ey) (cv:eA):Out→aJ→Prop:=fun o c=> ∃v,o= .ret v∧q2 v r∧jw c.H cj∧jx c.H cv
theorem aY.rw {P:Program}{f:FuncId}{az:List I}{c:aJ}{r:I}{cj:ey}{cv:eA}(h:aY P f az c (xJ r cj cv)) (ab:r.flat=true):aY P f az c (c8 r cj cv):=fun H0 s ha H aL a8=>
  (h H0 s ha H aL a8).mono fun o av ⟨bF,eS,c1,eG,⟨v,aj,aq,bD,da⟩,a3,a4⟩=>by
    subst aj
    cases o with
    |dW w=>simp only[jy]at a3
    |ret w=>exact⟨.ret r,av,q2.le aq bF w a3,HSub.refl _,bF,.ret r,c1,eG,⟨rfl,bD,da⟩,(I.j1 _ ab _).2 rfl,a4⟩
theorem aY.YD {P:Program}{f:FuncId}{az:List I}{c:aJ}{aN:List bj}{r:I}{cj:ey}{cv:eA}{fn:Func}{e:bu}(hm:P.follows .mixedOrders=true) (aO:P.funcs[f]? =some fn) (ah:b4 P fn az.length e aN=true) (ab:r.flat=true) (h:ay P aN c.bN c.bf [.c e] (xJ r cj cv) (kR az) c):aY P f az c (c8 r cj cv):=(aY.intro hm aO ah h).rw ab
theorem dt {P:Program}{f:FuncId}{az:List I}{aN:List bj}{r:I}{fn:Func}{e:bu}(hm:P.follows .mixedOrders=true) (aO:P.funcs[f]? =some fn) (ah:b4 P fn az.length e aN=true) (aL:b9 az=true) (ab:r.flat=true) (h:ay P aN 0 0 [.c e] (xJ r [] []) (kR az) .new):Pure P f az r:=
  aY.pure (aY.YD hm aO ah ab h) aL ab fun o c1 ⟨e,_,_⟩=>⟨r,e,Ra r ab⟩
end Go.aX
namespace Go.aX
open Go
def mW (b:Nat):ey→ey
  |[]=>[]
  |(k,x)::l=>bif k==b then mW b l else (k,x)::mW b l
def qF (b:Nat):eA→eA
  |[]=>[]
  |(k,x)::l=>bif k==b then qF b l else (k,x)::qF b l
theorem yQ {b j:Nat}(h:(b==j)=false): ∀(l:ey),fT (mW b l) j=fT l j
  |[]=>rfl
  |(k,x)::l=>by
   simp only[mW,fT]
   cases hk:k==b with
   |true=>
    have e:k=b:=by simpa using hk
    subst e
    rw[cond_true,h,cond_false,yQ h l]
   |false=>simp only[cond_false,fT,yQ h l]
theorem yR {b j:Nat}(h:(b==j)=false): ∀(l:eA),hW (qF b l) j=hW l j
  |[]=>rfl
  |(k,x)::l=>by
   simp only[qF,hW]
   cases hk:k==b with
   |true=>
    have e:k=b:=by simpa using hk
    subst e
    rw[cond_true,h,cond_false,yR h l]
   |false=>simp only[cond_false,hW,yR h l]
def oX:List Nat→ey→ey
  |[],l=>l
  |b::bU,l=>mW b (oX bU l)
def pM:List Nat→eA→eA
  |[],l=>l
  |b::bU,l=>qF b (pM bU l)
def pK (p:bl):ey→ey
  |[]=>[]
  |q::l=>(p.b.getD q.1 0,q.2.1,eO p q.2.2)::pK p l
def pL (p:bl):eA→eA
  |[]=>[]
  |q::l=>(p.t.getD q.1 0,q.2)::pL p l
def oz:ey→ey→ey
  |[],m=>m
  |q::l,m=>q::oz l m
def oA:eA→eA→eA
  |[],m=>m
  |q::l,m=>q::oA l m
theorem Fw {j:Nat}: ∀(bU:List Nat),bU.contains j=true→∀l,fT (oX bU l) j=none
  |[],h,_=>by simp at h
  |b::bU,h,l=>by
   have key: ∀(l:ey),fT (mW j l) j=none:=by
     intro l
     induction l with
     |nil=>rfl
     |cons q l b8=>
      obtain⟨k,x⟩:=q
      simp only[mW]
      cases hk:k==j with
      |true=>rw[cond_true]; exact b8
      |false=>simp only[cond_false,fT,hk]; exact b8
   simp only[oX]
   by_cases e:b=j
   ·subst e; exact key _
   ·have cd:(b==j)=false:=by simpa using e
    rw[yQ cd]
    refine Fw bU ?_ l
    simp only[aZ1,bc7,beq_iff_eq]at h
    exact h.resolve_left fun h=>e h.symm
theorem P2 {j:Nat}: ∀(bU:List Nat),bU.contains j=true→∀l,hW (pM bU l) j=none
  |[],h,_=>by simp at h
  |b::bU,h,l=>by
   have key: ∀(l:eA),hW (qF j l) j=none:=by
     intro l
     induction l with
     |nil=>rfl
     |cons q l b8=>
      obtain⟨k,x⟩:=q
      simp only[qF]
      cases hk:k==j with
      |true=>rw[cond_true]; exact b8
      |false=>simp only[cond_false,hW,hk]; exact b8
   simp only[pM]
   by_cases e:b=j
   ·subst e; exact key _
   ·have cd:(b==j)=false:=by simpa using e
    rw[yR cd]
    refine P2 bU ?_ l
    simp only[aZ1,bc7,beq_iff_eq]at h
    exact h.resolve_left fun h=>e h.symm
theorem P1 {j:Nat}: ∀(bU:List Nat),bU.contains j=false→∀l,fT (oX bU l) j=fT l j
  |[],_,_=>rfl
  |b::bU,h,l=>by
   simp only[aZ1,Bool.or_eq_false_iff,beq_eq_false_iff_ne]at h
   simp only[oX]
   rw[yQ (by simpa using fun e=>h.1 (Eq.symm e)),P1 bU h.2]
theorem P3 {j:Nat}: ∀(bU:List Nat),bU.contains j=false→∀l,hW (pM bU l) j=hW l j
  |[],_,_=>rfl
  |b::bU,h,l=>by
   simp only[aZ1,Bool.or_eq_false_iff,beq_eq_false_iff_ne]at h
   simp only[pM]
   rw[yR (by simpa using fun e=>h.1 (Eq.symm e)),P3 bU h.2]
section
variable {n t b:Nat}{cj kl:ey}{cv kI:eA}{T:TypeId}{cs:List I}{o:bB}
theorem x1 {a c:aJ}(h1: ∀j,a.H.aV j=c.H.aV j) (J: ∀j,a.H.tok j=c.H.tok j) (aA:a.bN=c.bN) (bz:a.bf=c.bf):a=c:=by
  obtain⟨⟨eG,a2⟩,a3,a4⟩:=a
  obtain⟨⟨c1,c2⟩,eV,gn⟩:=c
  simp only at h1 J aA bz
  have aj:eG=c1:=funext h1
  have aq:a2=c2:=funext J
  subst aj aq aA bz
  rfl
theorem EO:(aJ.of n t cj cv).cc b T cs=aJ.of n t ((b,T,cs)::mW b cj) cv:=x1 (fun j=>by
  simp only[aJ.cc,aJ.of,aw.cc,fT]
  cases bq:b==j with
  |true=>have e:b=j:=by simpa using bq
         subst e; simp
  |false=>have e: ¬j=b:=fun e=>by subst e; simp at bq
          rw[if_neg e,cond_false,yQ bq]) (fun j=>rfl) rfl rfl
theorem No:(aJ.of n t cj cv).pg T cs=aJ.of (n+1) t ((n,T,cs)::cj) cv:=x1 (fun j=>by
  simp only[aJ.pg,aJ.of,aw.cc,fT]
  cases bq:n==j with
  |true=>have e:n=j:=by simpa using bq
         subst e; simp
  |false=>have e: ¬j=n:=fun e=>by subst e; simp at bq
          exact if_neg e) (fun j=>rfl) rfl rfl
theorem Ns:(aJ.of n t cj cv).b7 b o=aJ.of n t cj ((b,o)::qF b cv):=x1 (fun j=>rfl) (fun j=>by
  simp only[aJ.b7,aJ.of,aw.b7,hW]
  cases bq:b==j with
  |true=>have e:b=j:=by simpa using bq
         subst e; simp
  |false=>have e: ¬j=b:=fun e=>by subst e; simp at bq
          rw[if_neg e,cond_false,yR bq]) rfl rfl
theorem y5:(aJ.of n t cj cv).fw o=aJ.of n (t+1) cj ((t,o)::cv):=x1 (fun j=>rfl) (fun j=>by
  simp only[aJ.fw,aJ.of,aw.b7,hW]
  cases bq:t==j with
  |true=>have e:t=j:=by simpa using bq
         subst e; simp
  |false=>have e: ¬j=t:=fun e=>by subst e; simp at bq
          exact if_neg e) rfl rfl
theorem mj {p:bl}:(aJ.of n t cj cv).jR p kl kI=aJ.of n t (oz ((pK p kl).filter fun q=>p.b.contains q.1) (oX p.b cj)) (oA ((pL p kI).filter fun q=>p.t.contains q.1) (pM p.t cv)):=x1 (fun j=>by
  simp only[aJ.jR,aJ.of,Ga]
  cases ah:p.b.contains j with
  |true=>
   rw[cond_true]
   induction kl with
   |nil=>simp only[bl8,pK,bd8,oz]; rw[Fw p.b ah]
   |cons q l b8=>
    simp only[bl8,pK]
    cases bs:p.b.getD q.1 0==j with
    |true=>
     have e:p.b.getD q.1 0=j:=by simpa using bs
     rw[e]
     simp only[bd8,ah,oz,fT,beq_self_eq_true,cond_true]
    |false=>
     simp only[bd8]
     cases bw:p.b.contains (p.b.getD q.1 0) with
     |true=>simp only[oz,fT,bs,cond_false]; exact b8
     |false=>exact b8
  |false=>
   rw[cond_false]
   induction kl with
   |nil=>simp only[pK,bd8,oz]; rw[P1 p.b ah]
   |cons q l b8=>
    simp only[pK,bd8]
    cases bw:p.b.contains (p.b.getD q.1 0) with
    |true=>
     have:(p.b.getD q.1 0==j)=false:=by
       cases bq:p.b.getD q.1 0==j with
       |false=>rfl
       |true=>have e:p.b.getD q.1 0=j:=by simpa using bq
              rw[e,ah]at bw; cases bw
     simp only[oz,fT,this,cond_false]; exact b8
    |false=>exact b8) (fun j=>by
  simp only[aJ.jR,aJ.of,Gb]
  cases ah:p.t.contains j with
  |true=>
   rw[cond_true]
   induction kI with
   |nil=>simp only[bl8,pL,bd8,oA]; rw[P2 p.t ah]
   |cons q l b8=>
    simp only[bl8,pL]
    cases bs:p.t.getD q.1 0==j with
    |true=>
     have e:p.t.getD q.1 0=j:=by simpa using bs
     rw[e]
     simp only[bd8,ah,oA,hW,beq_self_eq_true,cond_true]
    |false=>
     simp only[bd8]
     cases bw:p.t.contains (p.t.getD q.1 0) with
     |true=>simp only[oA,hW,bs,cond_false]; exact b8
     |false=>exact b8
  |false=>
   rw[cond_false]
   induction kI with
   |nil=>simp only[pL,bd8,oA]; rw[P3 p.t ah]
   |cons q l b8=>
    simp only[pL,bd8]
    cases bw:p.t.contains (p.t.getD q.1 0) with
    |true=>
     have:(p.t.getD q.1 0==j)=false:=by
       cases bq:p.t.getD q.1 0==j with
       |false=>rfl
       |true=>have e:p.t.getD q.1 0=j:=by simpa using bq
              rw[e,ah]at bw; cases bw
     simp only[oA,hW,this,cond_false]; exact b8
    |false=>exact b8) rfl rfl
theorem w4 {j:Nat}:(aJ.of n t cj cv).H.aV j=fT cj j:=rfl
theorem EP {j:Nat}:(aJ.of n t cj cv).H.tok j=hW cv j:=rfl
theorem Np:(aJ.of n t cj cv).bN=n:=rfl
theorem Nr:(aJ.of n t cj cv).bf=t:=rfl
theorem Nq:aJ.new=aJ.of 0 0 [] []:=rfl
theorem CS {l:List I}{agg:Bool}{o n:Nat}:nV l agg o n=if o+n≤l.length then I.hJ agg ((l.drop o).take n) else none:=by
  unfold nV
  by_cases h:o+n≤l.length
  ·rw[ba7 h,if_pos h,cond_true]
  ·rw[if_neg h]
   cases hb:aV2 (o+n) l.length with
   |true=>exact absurd (aZ3 hb) h
   |false=>rfl
theorem H5 {c:aJ}{b o n:Nat}{x:I}:tf c b o n x=match c.H.aV b with
  |some (T,cs)=>if (x.ev=true∧x.cells.length=n)∧(o+n≤cs.length∧x.cells.all I.one=true) then some (.undef,c.cc b T (fs cs o x.cells)) else none
  |none=>none:=by
  unfold tf
  cases e:c.H.aV b with
  |none=>rfl
  |some q=>
   obtain⟨T,cs⟩:=q
   simp only[]
   by_cases h:(x.ev=true∧x.cells.length=n)∧(o+n≤cs.length∧x.cells.all I.one=true)
   ·rw[if_pos h,h.1.1,h.1.2,h.2.2,ba7 h.2.1]
    simp
   ·rw[if_neg h]
    cases hb:(x.ev&&x.cells.length==n)&&(aV2 (o+n) cs.length&&x.cells.all I.one) with
    |false=>rfl
    |true=>
     simp only[aT0,beq_iff_eq,bb2]at hb
     exact absurd hb h
theorem Nw:I.one (.dI (.slice none 0 0))=true:=rfl
theorem Nl:(Value.slice none 0 0).oneCell'=true:=rfl
theorem Nn:(Value.pointer none).oneCell'=true:=rfl
theorem Nx:I.one (.dI (.pointer none))=true:=rfl
theorem HJ {env:Env}{j:Nat}:bi env (.t j)=env.get j:=rfl
theorem HI {env:Env}{a:I}:bi env (.c a)=bif a.flat then a else .ec:=rfl
theorem vz {env:Env}{d:Nat}{v:I}:env.put (some d) v=(d,v)::env:=rfl
theorem xa {env:Env}{v:I}:env.put none v=env:=rfl
theorem rv {a d:Nat}{l:List Nat}:(a::l).getD 0 d=a:=rfl
theorem KF {a d i:Nat}{l:List Nat}:(a::l).getD (i+1) d=l.getD i d:=rfl
section
variable {env:Env}{c:aJ}{x y z:aH}{zero l:List I}{prt:List (Nat×Nat×aH)}{sL:List (Nat×aH)}{agg:Bool}{n m eJ:Nat}{Ae:BinOp}{bx:List lA}{ei:IntKind}{xs:List aH}{cm ae lp:Option aH}{T:TypeId}
theorem HD {env:Env}{cells:List I}:sd env cells []=some cells:=rfl
theorem HC {env:Env}{cells:List I}{off size:Nat}{x:aH}{rest:List (Nat×Nat×aH)}:sd env cells ((off,size,x)::rest)=if (bi env x).ev=true∧((bi env x).cells.length=size∧off+size≤cells.length) then sd env (fs cells off (bi env x).cells) rest else none:=by
  simp only[sd]
  by_cases h:(bi env x).ev=true∧((bi env x).cells.length=size∧off+size≤cells.length)
  ·rw[if_pos h,h.1,h.2.1,ba7 h.2.2]
   simp
  ·rw[if_neg h]
   cases hb:(bi env x).ev&&((bi env x).cells.length==size&&aV2 (off+size) cells.length) with
   |false=>rfl
   |true=>
    simp only[aT0,beq_iff_eq,bb2]at hb
    exact absurd hb h
theorem CP {n:Int}{len:Nat}:rc n len=if 0≤n∧n<len then some n.toNat else none:=by
  by_cases h:0≤n∧n<len
  ·rw[if_pos h,UF h.1 h.2]
  ·rw[if_neg h]
   cases ah:rc n len with
   |none=>rfl
   |some k=>exact absurd ⟨(wg ah).1,(wg ah).2.1⟩ h
theorem Rc {n:Int}(aW:0≤n) (h1:n≤18446744073709551615):IntKind.u64.wrap n=n:=by rw[IntKind.wrap_u64]; omega
theorem Re {n:Int}(aW:0≤n) (h1:n≤255):IntKind.u8.wrap n=n:=by rw[IntKind.wrap_u8]; omega
theorem MB {α:Type}{b:Int}{x y:α}(h:0≤b):(if 0≤b then x else y)=x:=if_pos h
theorem M9:dY (.fO x) env c=(e4 (.fO x) env c.H).map fun v=>(v,c):=rfl
theorem Nd:dY (.pick x y z) env c=(e4 (.pick x y z) env c.H).map fun v=>(v,c):=rfl
theorem Nb:dY (.fB x) env c=(e4 (.fB x) env c.H).map fun v=>(v,c):=rfl
theorem MM:dY (.build zero prt) env c=(e4 (.build zero prt) env c.H).map fun v=>(v,c):=rfl
theorem M2:dY (.load agg n x) env c=(e4 (.load agg n x) env c.H).map fun v=>(v,c):=rfl
theorem M3:dY (.gq eJ agg n x) env c=(e4 (.gq eJ agg n x) env c.H).map fun v=>(v,c):=rfl
theorem M4:dY (.qz agg n x) env c=(e4 (.qz agg n x) env c.H).map fun v=>(v,c):=rfl
theorem MS:dY (.nA n x) env c=(e4 (.nA n x) env c.H).map fun v=>(v,c):=rfl
theorem MT:dY (.field agg n m x) env c=(e4 (.field agg n m x) env c.H).map fun v=>(v,c):=rfl
theorem MU:dY (.gS n x y) env c=(e4 (.gS n x y) env c.H).map fun v=>(v,c):=rfl
theorem MV:dY (.me n m x y) env c=(e4 (.me n m x y) env c.H).map fun v=>(v,c):=rfl
theorem MW:dY (.iD agg n m x y) env c=(e4 (.iD agg n m x y) env c.H).map fun v=>(v,c):=rfl
theorem MX:dY (.gp x y) env c=(e4 (.gp x y) env c.H).map fun v=>(v,c):=rfl
theorem MG:dY (.bin Ae x y) env c=(e4 (.bin Ae x y) env c.H).map fun v=>(v,c):=rfl
theorem MH:dY (.p7 Ae x y) env c=(e4 (.p7 Ae x y) env c.H).map fun v=>(v,c):=rfl
theorem MQ:dY (.ny agg T bx x y) env c=(e4 (.ny agg T bx x y) env c.H).map fun v=>(v,c):=rfl
theorem Nc:dY (.not x) env c=(e4 (.not x) env c.H).map fun v=>(v,c):=rfl
theorem Nf:dY (.qD agg x) env c=(e4 (.qD agg x) env c.H).map fun v=>(v,c):=rfl
theorem Na:dY (.neg x) env c=(e4 (.neg x) env c.H).map fun v=>(v,c):=rfl
theorem MN:dY (.conv ei x) env c=(e4 (.conv ei x) env c.H).map fun v=>(v,c):=rfl
theorem M1:dY (.kV x) env c=(e4 (.kV x) env c.H).map fun v=>(v,c):=rfl
theorem MZ:dY (.len x) env c=(e4 (.len x) env c.H).map fun v=>(v,c):=rfl
theorem M0:dY (.pE n) env c=(e4 (.pE n) env c.H).map fun v=>(v,c):=rfl
theorem M5:dY (.j4 agg xs) env c=(e4 (.j4 agg xs) env c.H).map fun v=>(v,c):=rfl
theorem Ng:dY (.iW x cm ae) env c=(e4 (.iW x cm ae) env c.H).map fun v=>(v,c):=rfl
theorem Nh:dY (.gL n x cm ae lp) env c=(e4 (.gL n x cm ae lp) env c.H).map fun v=>(v,c):=rfl
theorem MR:dY (.extract n x) env c=(e4 (.extract n x) env c.H).map fun v=>(v,c):=rfl
theorem M6:dY (.iS n xs) env c=(e4 (.iS n xs) env c.H).map fun v=>(v,c):=rfl
theorem M7:dY (.sE n xs) env c=(e4 (.sE n xs) env c.H).map fun v=>(v,c):=rfl
theorem MP:dY (.qd agg x) env c=(e4 (.qd agg x) env c.H).map fun v=>(v,c):=rfl
theorem MO:dY (.jh T x) env c=(e4 (.jh T x) env c.H).map fun v=>(v,c):=rfl
theorem M8:dY (.oR T x) env c=(e4 (.oR T x) env c.H).map fun v=>(v,c):=rfl
theorem MY:dY (.oO agg x) env c=(e4 (.oO agg x) env c.H).map fun v=>(v,c):=rfl
theorem MJ:dY (.eu T n m l sL) env c=(e4 (.eu T n m l sL) env c.H).map fun v=>(v,c):=rfl
theorem MI:dY (.box T x) env c=bif (bi env x).ev&&(bi env x).cells.all I.one then some (.ptr c.bN 0,c.pg T (bi env x).cells) else none:=rfl
theorem MF:dY (.alloc T zero) env c=bif b9 zero&&zero.all I.one then some (.ptr c.bN 0,c.pg T zero) else none:=rfl
theorem Ni:dY (.store n x y) env c=(match bi env x with
    | .ptr b o=>tf c b o n (bi env y)
    | .mp t ver k=>x2 c t ver k n (bi env y)
    | _=>none):=rfl
theorem Nj {others:List Nat}:dY (.gF eJ others n x y) env c=(match env.get eJ,bi env x with
    | .ptr b 0,.ptr bJ o=>bif bJ==b&&others.all (hQ env b) then tf c b o n (bi env y) else none
    | _,_=>none):=rfl
theorem ML:dY (.l4 T n m zero sL) env c=bif rf env n sL then some (.own c.bf n (qe env sL),c.fw (.bP T n (qe env sL).length)) else none:=rfl
theorem MK:dY (.lF T n m zero sL) env c=bif rf env n sL then some (.cz c.bf 0,c.fw (.bc T n 0 (qe env sL))) else none:=rfl
end
end
end Go.aX
namespace Go.aX
open Go
mutual
def I.o3:I→Bool
  | .ec=>false
  | .agg cs=>ot cs
  | .cV cs=>ot cs
  | .ak _ rows=>eD rows
  | .own _ _ rows=>eD rows
  | .dL row _=>b9 row
  | .fn _ cap=>ot cap
  | .gJ _ v=>v.o3
  | _=>true
def ot:List I→Bool
  |[]=>true
  |a::az=>a.o3&&ot az
end
theorem Kz {s:bl}{az l bM:List (List I)}(h:eD az=true) (h1:bV s az l) (J:bV s az bM):l=bM:=((nB az h l).1 h1).trans ((nB az h bM).1 J).symm
theorem V7 {s:bl}{az l bM:List I}(h:b9 az=true) (h1:bd s az l) (J:bd s az bM):l=bM:=((lM az h l).1 h1).trans ((lM az h bM).1 J).symm
mutual
theorem aI.same {s:bl}: ∀(a v bp:I),a.o3=true→aI s a v→aI s a bp→v=bp
  | .ec,_,_,h,_,_=>by simp [I.o3]at h
  | .ptr b o,_,_,_,h1,J=>by simp only[aI]at*; obtain⟨x,aj,rfl⟩:=h1; obtain⟨y,aq,rfl⟩:=J; rw[aj]at aq; cases aq; rfl
  | .cz b o,_,_,_,h1,J=>by simp only[aI]at*; obtain⟨x,aj,rfl⟩:=h1; obtain⟨y,aq,rfl⟩:=J; rw[aj]at aq; cases aq; rfl
  | .mp b o k,_,_,_,h1,J=>by simp only[aI]at*; obtain⟨x,aj,rfl⟩:=h1; obtain⟨y,aq,rfl⟩:=J; rw[aj]at aq; cases aq; rfl
  | .agg cs,_,_,h,h1,J=>by simp only[I.o3]at h; simp only[aI]at*; obtain⟨l,rfl,aj⟩:=h1; obtain⟨m,rfl,aq⟩:=J; rw[bd.same cs l m h aj aq]
  | .cV cs,_,_,h,h1,J=>by simp only[I.o3]at h; simp only[aI]at*; obtain⟨l,rfl,aj⟩:=h1; obtain⟨m,rfl,aq⟩:=J; rw[bd.same cs l m h aj aq]
  | .fn f cs,_,_,h,h1,J=>by simp only[I.o3]at h; simp only[aI]at*; obtain⟨l,rfl,aj⟩:=h1; obtain⟨m,rfl,aq⟩:=J; rw[bd.same cs l m h aj aq]
  | .gJ t a,_,_,h,h1,J=>by simp only[I.o3]at h; simp only[aI]at*; obtain⟨l,rfl,aj⟩:=h1; obtain⟨m,rfl,aq⟩:=J; rw[aI.same a l m h aj aq]
  | .ak n rows,_,_,h,h1,J=>by simp only[I.o3]at h; simp only[aI]at*; obtain⟨l,rfl,aj⟩:=h1; obtain⟨m,rfl,aq⟩:=J; rw[Kz h aj aq]
  | .dL row o,_,_,h,h1,J=>by simp only[I.o3]at h; simp only[aI]at*; obtain⟨l,rfl,aj⟩:=h1; obtain⟨m,rfl,aq⟩:=J; rw[V7 h aj aq]
  | .own t n rows,_,_,h,h1,J=>by
    simp only[I.o3]at h
    simp only[aI]at*
    obtain⟨x,l,ch,rfl,aj⟩:=h1
    obtain⟨y,m,Iw,rfl,aq⟩:=J
    rw[ch]at Iw
    cases Iw
    rw[Kz h aj aq]
  | .bool _,_,_,_,h1,J=>by simp only[aI]at*; rw[h1,J]
  | .int _ _,_,_,_,h1,J=>by simp only[aI]at*; rw[h1,J]
  | .str _,_,_,_,h1,J=>by simp only[aI]at*; rw[h1,J]
  | .dI _,_,_,_,h1,J=>by simp only[aI]at*; rw[h1,J]
theorem bd.same {s:bl}: ∀(az l bM:List I),ot az=true→bd s az l→bd s az bM→l=bM
  |[],_,_,_,h1,J=>by simp only[bd]at*; rw[h1,J]
  |a::az,_,_,h,h1,J=>by
   simp only[ot,aT0]at h
   simp only[bd]at*
   obtain⟨v,ak,rfl,eG,a2⟩:=h1
   obtain⟨w,ws,rfl,ff,jf⟩:=J
   rw[aI.same a v w h.1 eG ff,bd.same az ak ws h.2 a2 jf]
end
theorem bl.dU.eq {s bF:bl}(h:bl.dU s bF) (h1:bF.b.length=s.b.length) (J:bF.t.length=s.t.length):bF=s:=by
  obtain⟨b,t⟩:=s
  obtain⟨bJ,dk⟩:=bF
  simp only at h1 J
  have aj:bJ=b:=by
    apply bc8
    intro i
    by_cases ae:i<b.length
    ·have:=kO ae
     rw[this]; exact h.b _ _ this
    ·rw[aY3 (by omega),aY3 (by omega)]
  have aq:dk=t:=by
    apply bc8
    intro i
    by_cases ae:i<t.length
    ·have:=kO ae
     rw[this]; exact h.t _ _ this
    ·rw[aY3 (by omega),aY3 (by omega)]
  rw[aj,aq]
section
variable {P:Program}{env:Env}{c:aJ}{v:I}{anns:List I}{l:List bC}{K:Env→aJ→Prop}{Rp:I→aJ→Prop}{f:FuncId}{args:List aH}{az:List I}
theorem ai.EZ {d:Nat}{dA:List I}{r:I}(h:Pure P f az r) (aL:args.map (bi env)=dA) (hw:jt dA=az) (aO:b9 az=true) (ab:r.flat=true) (hk:ai P anns l ((d,r)::env) c K Rp):ai P anns (⟨some d,none,.call f args⟩::l) env c K Rp:=
  ai.re rfl (aY.EN h aO ab hw) aL hk
end
end Go.aX
namespace Go.aX
open Go
def tz (a:I) (t:Bool):Option Bool:=match a with
  | .bool b=>some (b==t)
  | .dI (.tuple ⟨[]⟩)=>some false
  | _=>none
theorem KR {b t:Bool}:tz (.bool b) t=some (b==t):=rfl
theorem KS {t:Bool}:tz .undef t=some false:=rfl
def AR (g:Option (Nat×Bool)) (env:Env):Option Bool:=match g with
  |none=>some true
  |some (j,t)=>tz (env.get j) t
def dst (i:bC) (env:Env) (c:aJ):Option (Env×aJ):=match AR i.guard env with
  |some true=>(dY i.op env c).map fun q=>(env.put i.dst q.1,q.2)
  |some false=>some (env.put i.dst .undef,c)
  |none=>none
def yG (ex cj:Bool):List e7→Env→Option (List e7)
  | .c e::k,env=>match e with
    | .skip=>some k
    | .seq a b=>some (.c a:: .c b::k)
    | .block id b=>match cj with
      |true=>some (.c b:: .aV id::k)
      |false=>none
    | .exit id=>match ex with
      |true=>rE id k
      |false=>none
    | .cond x a b=>match bi env x with
      | .bool true=>some (.c a::k)
      | .bool false=>some (.c b::k)
      | _=>none
    | _=>none
  | .aV _::k,_=>some k
  | _,_=>none
section
variable {P:Program}{aN:List bj}{cF t0:Nat}{k eX:List e7}{Q:Out→aJ→Prop}{env a7:Env}{c cB:aJ}{anns:List I}{l:List bC}{i:bC}{K:Env→aJ→Prop}{Rp:I→aJ→Prop}
theorem ai.s (hp:oi i.op=false) (h:dst i env c=some (a7,cB)) (hk:ai P anns l a7 cB K Rp):ai P anns (i::l) env c K Rp:=by
  obtain⟨d,g,op⟩:=i
  have hw: ∀b,AR g env=some b→wanted ⟨d,g,op⟩ env=some b:=by
    intro b hb
    cases g with
    |none=>exact hb
    |some p=>exact hb
  unfold dst at h
  simp only at h hp
  split at h
  ·rename_i e
   simp only[aW3,Prod.mk.injEq]at h
   obtain⟨⟨v,c1⟩,h1,J,aA⟩:=h
   subst J aA
   exact ai.o (hw _ e) hp h1 hk
  ·rename_i e
   simp only[Option.some.injEq,Prod.mk.injEq]at h
   obtain⟨J,aA⟩:=h
   subst J aA
   exact ai.gj (hw _ e) hp hk
  ·cases h
theorem ai.fi {d:Option Nat}{j:Nat}{t:Bool}{op:ba}(h:tz (env.get j) t=some true) (hk:ai P anns (⟨d,none,op⟩::l) env c K Rp):ai P anns (⟨d,some (j,t),op⟩::l) env c K Rp:=by
  unfold tz at h
  split at h
  ·rename_i b e
   simp only[Option.some.injEq,beq_iff_eq]at h
   exact ai.DD e h hk
  ·cases h
  ·cases h
theorem ai.fj {d:Option Nat}{j:Nat}{t:Bool}{op:ba}(hp:oi op=true) (h:tz (env.get j) t=some false) (hk:ai P anns l (env.put d .undef) c K Rp):ai P (.undef::anns) (⟨d,some (j,t),op⟩::l) env c K Rp:=ai.at2 h hp hk
theorem ay.s (ex cj:Bool) (h:yG ex cj k env=some eX) (hk:ay P aN cF t0 eX Q env c):ay P aN cF t0 k Q env c:=by
  unfold yG at h
  split at h
  ·split at h
   ·cases h; exact .skip hk
   ·cases h; exact .seq hk
   ·cases cj with
    |true=>cases h; exact .block hk
    |false=>cases h
   ·cases ex with
    |true=>exact .exit h hk
    |false=>cases h
   ·split at h
    ·rename_i e; cases h; exact .lI e hk
    ·rename_i e; cases h; exact .lH e hk
    ·cases h
   ·cases h
  ·cases h; exact .xT hk
  ·cases h
theorem ai.oH {f:FuncId}{args:List aH}{d:Option Nat}(p:bl){dA:List I}{fg kl:ey}{fr kI:eA}{n t:Nat}{v:I}(h:aY P f dA (aJ.of n t fg fr) (c8 v kl kI)) (ah:(p.b.length==n&&(p.t.length==t&&(nodupB p.b&&(nodupB p.t&&(p.b.all (fun x=>aW7 x c.bN)&&(p.t.all (fun x=>aW7 x c.bf)&&(dE n t dA&&(eP n t fg&&(eQ n t fr&&(eP n t kl&&(eQ n t kI&&v.dC n t)))))))))))=true) (eh:mL c.H.aV p fg) (dj:mM c.H.tok p fr) (aL:args.map (bi env)=eO p dA) (hk:ai P anns l (env.put d (v.ek p)) (c.jR p kl kI) K Rp):ai P anns (⟨d,none,.call f args⟩::l) env c K Rp:=by
  simp only[aT0,beq_iff_eq]at ah
  obtain⟨c1,c2,eV,gn,kL,lG,np,oD,l5,nn,Sq,Ag⟩:=ah
  exact ai.re rfl (aY.oH p h c1 c2 (by rw[eV,gn,kL,lG]; rfl) eh dj (by rw[np,oD,l5]; rfl) (by rw[nn,Sq,Ag]; rfl) rfl) aL hk
end
end Go.aX
namespace Go.aX
open Go
section
variable {cN:Program}{aN:List bj}{cF t0:Nat}{k eX:List e7}{Q:Out→aJ→Prop}{env a7:Env}{c cB:aJ}{anns:List I}{l:List bC}{K:Env→aJ→Prop}{Rp:I→aJ→Prop}{d:Option Nat}{g:Option (Nat×Bool)}{op:ba}{j:Nat}{t b:Bool}{v bp:I}{x i:aH}{ei:IntKind}{z:Int}{size p e:Nat}{f:FuncId}{args:List aH}
theorem D.S (hk:ai cN anns l a7 cB K Rp) (hp:oi op=false:=by rfl) (h:dst ⟨d,g,op⟩ env c=some (a7,cB):=by simp (disch:=omega) only[go_sem,simprocAttr]<;>with_reducible rfl):ai cN anns (⟨d,g,op⟩::l) env c K Rp:=ai.s hp h hk
theorem D.iv (ex cj:Bool) (hk:ay cN aN cF t0 eX Q env c) (h:yG ex cj k env=some eX:=by simp (disch:=omega) only[go_sem,simprocAttr]<;>with_reducible rfl):ay cN aN cF t0 k Q env c:=ay.s ex cj h hk
theorem D.W (hk:ai cN anns (⟨d,none,op⟩::l) env c K Rp) (h:tz (env.get j) t=some true:=by simp (disch:=omega) only[go_sem,simprocAttr]<;>with_reducible rfl):ai cN anns (⟨d,some (j,t),op⟩::l) env c K Rp:=ai.fi h hk
theorem D.Z (hk:ai cN anns l (env.put d .undef) c K Rp) (hp:oi op=true:=by rfl) (h:tz (env.get j) t=some false:=by simp (disch:=omega) only[go_sem,simprocAttr]<;>with_reducible rfl):ai cN (.undef::anns) (⟨d,some (j,t),op⟩::l) env c K Rp:=ai.fj hp h hk
theorem D.G (h1:b=true→ai cN anns (⟨d,some (j,t),op⟩::l) ((j,.bool true)::env) c K Rp) (J:b=false→ai cN anns (⟨d,some (j,t),op⟩::l) ((j,.bool false)::env) c K Rp) (h:env.get j= .bool b:=by simp (disch:=omega) only[go_sem,simprocAttr]<;>with_reducible rfl):ai cN anns (⟨d,some (j,t),op⟩::l) env c K Rp:=ai.gs h h1 J
theorem D.C {a cw:bu}(h1:b=true→ay cN aN cF t0 (.c a::k) Q env c) (J:b=false→ay cN aN cF t0 (.c cw::k) Q env c) (h:bi env x= .bool b:=by simp (disch:=omega) only[go_sem,simprocAttr]<;>with_reducible rfl):ay cN aN cF t0 (.c (.cond x a cw)::k) Q env c:=ay.cond h h1 J
theorem D.R (bs:Q (.ret v) c) (h:nW aN env c.H=some v:=by simp (disch:=omega) only[go_sem,simprocAttr]<;>with_reducible rfl):ay cN aN cF t0 (.c .ret::k) Q env c:=ay.ret h bs
theorem D.E (bs:Q (.ret v) c) (h:nW aN env c.H=some v:=by simp (disch:=omega) only[go_sem,simprocAttr]<;>with_reducible rfl):ay cN aN cF t0 [] Q env c:=ay.done h bs
theorem D.r (bs:Q (.ret v) c) (h:nW aN env c.H=some v:=by simp (disch:=omega) only[go_sem,simprocAttr]<;>with_reducible rfl) (aW:eX=[]∨∃k,eX= .c .ret::k:=by first|exact .inl rfl|exact .inr ⟨_,rfl⟩):ay cN aN cF t0 eX Q env c:=by
  rcases aW with rfl|⟨k,rfl⟩
  ·exact ay.done h bs
  ·exact ay.ret h bs
theorem D.rx (h:nW aN env c.H=some v:=by simp (disch:=omega) only[go_sem,simprocAttr]<;>with_reducible rfl) (bs:Q (.ret v) c:=by exact⟨_,rfl,.aQ rfl rfl,trivial,trivial⟩) (aW:eX=[]∨∃k,eX= .c .ret::k:=by first|exact .inl rfl|exact .inr ⟨_,rfl⟩):ay cN aN cF t0 eX Q env c:=D.r bs h aW
theorem D.X {α:Type}{f:α→List I}{w:α}{m:List α}{d:Nat}(ab:m[p]? =some w) (hk:ai cN anns l ((d,.dL (f w) 0)::env) c K Rp) (U:bi env x= .ak size (m.map f):=by simp (disch:=omega) only[go_sem,simprocAttr]<;>with_reducible rfl) (ae:bi env i= .int ei z:=by simp (disch:=omega) only[go_sem,simprocAttr]<;>with_reducible rfl) (e:z=p:=by omega):ai cN anns (⟨some d,none,.gS size x i⟩::l) env c K Rp:=ai.fl U ae ab e hk
theorem D.jU {α:Type}{f:α→List I}{w:α}{m:List α}{d q:Nat}(ab:m[p]? =some w) (hk:ai cN anns l ((d,.dL (f w) 0)::env) c K Rp) (U:bi env x= .own q size (m.map f):=by simp (disch:=omega) only[go_sem,simprocAttr]<;>with_reducible rfl) (ae:bi env i= .int ei z:=by simp (disch:=omega) only[go_sem,simprocAttr]<;>with_reducible rfl) (e:z=p:=by omega):ai cN anns (⟨some d,none,.gS size x i⟩::l) env c K Rp:=ai.fm U ae ab e hk
theorem D.jV {u:UInt8}{d:Nat}{a:List UInt8}(ab:a[p]? =some u) (hk:ai cN anns l ((d,.int .u8 u.toNat)::env) c K Rp) (U:bi env x= .str a:=by simp (disch:=omega) only[go_sem,simprocAttr]<;>with_reducible rfl) (ae:bi env i= .int ei z:=by simp (disch:=omega) only[go_sem,simprocAttr]<;>with_reducible rfl) (e:z=p:=by omega):ai cN anns (⟨some d,none,.gp x i⟩::l) env c K Rp:=ai.fo U ae ab e hk
theorem D.F (s:bl){dA:List I}{fg kl:ey}{fr kI:eA}{n q:Nat}{c2:aJ}(h:aY cN f dA (aJ.of n q fg fr) (c8 v kl kI)) (hk:ai cN anns l (env.put d bp) c2 K Rp) (ah:(s.b.length==n&&(s.t.length==q&&(nodupB s.b&&(nodupB s.t&&(s.b.all (fun x=>aW7 x c.bN)&&(s.t.all (fun x=>aW7 x c.bf)&&(dE n q dA&&(eP n q fg&&(eQ n q fr&&(eP n q kl&&(eQ n q kI&&v.dC n q)))))))))))=true:=by simp (disch:=omega) only[go_sem,simprocAttr]<;>rfl) (eh:mL c.H.aV s fg:=by repeat first|exact trivial|refine⟨rfl,?_⟩) (dj:mM c.H.tok s fr:=by repeat first|exact trivial|refine⟨rfl,?_⟩) (aL:args.map (bi env)=eO s dA:=by simp (disch:=omega) only[go_sem,simprocAttr]<;>rfl) (ad:v.ek s=bp:=by simp (disch:=omega) only[go_sem,simprocAttr]<;>with_reducible rfl) (hu:c.jR s kl kI=c2:=by simp (disch:=omega) only[go_sem,simprocAttr]<;>with_reducible rfl):ai cN anns (⟨d,none,.call f args⟩::l) env c K Rp:=by
  subst ad hu
  exact ai.oH s h ah eh dj aL hk
theorem D.P {d:Nat}{az dA:List I}{r:I}(h:Pure cN f az r) (hk:ai cN anns l ((d,r)::env) c K Rp) (aL:args.map (bi env)=dA:=by simp (disch:=omega) only[go_sem,simprocAttr]<;>with_reducible rfl) (hw:jt dA=az:=by rfl) (aO:b9 az=true:=by simp (disch:=omega) only[go_sem,simprocAttr]<;>rfl) (ab:r.flat=true:=by simp (disch:=omega) only[go_sem,simprocAttr]<;>rfl):ai cN anns (⟨some d,none,.call f args⟩::l) env c K Rp:=ai.EZ h aL hw aO ab hk
theorem D.ig {az dA:List I}{r:I}(h:Pure cN f az r) (hk:ai cN anns l (env.put d r) c K Rp) (aL:args.map (bi env)=dA:=by simp (disch:=omega) only[go_sem,simprocAttr]<;>with_reducible rfl) (hw:jt dA=az:=by rfl) (aO:b9 az=true:=by simp (disch:=omega) only[go_sem,simprocAttr]<;>rfl) (ab:r.flat=true:=by simp (disch:=omega) only[go_sem,simprocAttr]<;>rfl):ai cN (r::anns) (⟨d,none,.io f args⟩::l) env c K Rp:=ai.mV rfl h (by rw[aL,hw]) aO ab hk
theorem D.V {d:Nat}{az dA cap:List I}{r:I}(aO:cT cN f=true) (h:Pure cN f az r) (hk:ai cN anns l ((d,r)::env) c K Rp) (U:bi env x= .fn f cap:=by simp (disch:=omega) only[go_sem,simprocAttr]<;>with_reducible rfl) (aL:args.map (bi env)++cap=dA:=by simp (disch:=omega) only[go_sem,simprocAttr]<;>with_reducible rfl) (hw:jt dA=az:=by rfl) (aE:b9 az=true:=by simp (disch:=omega) only[go_sem,simprocAttr]<;>rfl) (ab:r.flat=true:=by simp (disch:=omega) only[go_sem,simprocAttr]<;>rfl):ai cN anns (⟨some d,none,.fx x args⟩::l) env c K Rp:=ai.Ge rfl U aO (aY.EN h aE ab hw) aL hk
end
end Go.aX
namespace Go.aX
open Go
section
variable {P:Program}{aN:List bj}{cF t0:Nat}{k:List e7}{Q:Out→aJ→Prop}{env:Env}{c c1:aJ}{v:I}
def sG (k:List e7):Bool:=k.all fun i=>match i with
  | .mm _ _=>false
  | _=>true
theorem EG {H0:aw}{dN:bl}: ∀ {k:List e7},sG k=true→(k.map (e7.mZ H0 dN)).all (fun i=>match i with| .round _ _=>false| _=>true)=true
  |[],_=>rfl
  | .c e::k,h=>by
    simp only[sG,aV0,aU7]at h
    simp only[aU5,aV0,e7.mZ,aU7]
    exact EG h
  | .aV i::k,h=>by
    simp only[sG,aV0,aU7]at h
    simp only[aU5,aV0,e7.mZ,aU7]
    exact EG h
  | .mm _ _::k,h=>by simp [sG]at h
def vQ (P:Program) (f:FuncId) (fJ:List I) (x:I) (c:aJ) (ur:aJ→Prop):Prop:=
  ∀H0 s xV cE H,bd s fJ xV→aI s x cE→ea H0 s c H→sX P f xV cE H fun df=> ∃bF c1,bl.dU s bF∧ur c1∧ea H0 bF c1 df
def tmpsOf (a7:Env) (kt:Env):Env:=kt.map fun p=>(p.1,a7.get p.1)
theorem FU (a7:Env): ∀(kt:Env) (j:Nat),(tmpsOf a7 kt).get j=a7.get j∨((tmpsOf a7 kt).get j= .ec∧kt.get j= .ec)
  |[],_=> .inr ⟨rfl,rfl⟩
  |(i,v)::kt,j=>by
   simp only[tmpsOf,aU5,Env.get]
   cases e:i==j with
   |true=>
    have:i=j:=by simpa using e
    subst this
    exact .inl rfl
   |false=>exact FU a7 kt j
theorem L5 {env:Env}: ∀(kt:Env),(∀p∈kt,env.get p.1=p.2)→∀j,kt.get j=env.get j∨kt.get j= .ec
  |[],_,_=> .inr rfl
  |(i,v)::kt,h,j=>by
   simp only[Env.get]
   cases e:i==j with
   |true=>
    have:i=j:=by simpa using e
    subst this
    exact .inl (h (i,v) List.mem_cons_self).symm
   |false=>exact L5 kt (fun q bs=>h q (List.mem_cons_of_mem _ bs)) j
theorem aI.ec (s:bl) (x:I):aI s .ec x:=by simp only[aI]
def yX (t:Nat) (k:List e7):Bool:=k.all fun i=>match i with
  | .c e=>e.j7 t
  | .aV _=>true
  | .mm _ _=>false
theorem EI {H0:aw}{dN:bl}{t:Nat}: ∀ {k:List e7},yX t k=true→(k.map (e7.mZ H0 dN)).all (Item.j7 t)=true
  |[],_=>rfl
  | .c e::k,h=>by
    simp only[yX,aV0,aT0]at h
    simp only[aU5,aV0,e7.mZ,aT0]
    exact⟨h.1,EI h.2⟩
  | .aV i::k,h=>by
    simp only[yX,aV0,aU7]at h
    simp only[aU5,aV0,e7.mZ,aT0]
    exact⟨rfl,EI h⟩
  | .mm _ _::k,h=>by simp [yX]at h
theorem EH {H0:aw}{dN s1:bl}: ∀ {k:List e7},sG k=true→k.map (e7.mZ H0 dN)=k.map (e7.mZ H0 s1)
  |[],_=>rfl
  | .c e::k,h=>by
    simp only[sG,aV0,aU7]at h
    simp only[aU5,e7.mZ]
    rw[EH h]
  | .aV i::k,h=>by
    simp only[sG,aV0,aU7]at h
    simp only[aU5,e7.mZ]
    rw[EH h]
  | .mm _ _::k,h=>by simp [sG]at h
theorem sX.mono {f:FuncId}{fJ:List I}{x:I}{H:aw}{xI ur:aw→Prop}(h:sX P f fJ x H xI) (bs: ∀av,xI av→ur av):sX P f fJ x H ur:=fun m ak jY h1 J aA bz=>
  (h m ak jY h1 J aA bz).mono fun e pQ w' ⟨g1,g2,av,fI,cu,g3,g4,g5⟩=>⟨g1,g2,av,fI,cu,g3,g4,bs av g5⟩
end
end Go.aX
namespace Go.aX
open Go
mutual
theorem so {p:bl}: ∀(a:I),a.flat=true→a.ek p=a
  | .agg cs,h=>by simp only[I.flat]at h; simp only[I.ek,AL cs h]
  | .cV cs,h=>by simp only[I.flat]at h; simp only[I.ek,AL cs h]
  | .fn _ cs,h=>by simp only[I.flat]at h; simp only[I.ek,AL cs h]
  | .gJ _ v,h=>by simp only[I.flat]at h; simp only[I.ek,so v h]
  | .own _ _ _,h=>by simp [I.flat]at h
  | .ptr _ _,h=>by simp [I.flat]at h
  | .cz _ _,h=>by simp [I.flat]at h
  | .mp _ _ _,h=>by simp [I.flat]at h
  | .ec,_=>rfl
  | .bool _,_=>rfl
  | .int _ _,_=>rfl
  | .str _,_=>rfl
  | .dI _,_=>rfl
  | .ak _ _,_=>rfl
  | .dL _ _,_=>rfl
theorem AL {p:bl}: ∀(l:List I),b9 l=true→eO p l=l
  |[],_=>rfl
  |a::l,h=>by simp only[b9,aT0]at h; simp only[eO,so a h.1,AL l h.2]
end
mutual
theorem sn {n t:Nat}: ∀(a:I),a.flat=true→a.dC n t=true
  | .agg cs,h=>by simp only[I.flat]at h; simp only[I.dC,AK cs h]
  | .cV cs,h=>by simp only[I.flat]at h; simp only[I.dC,AK cs h]
  | .fn _ cs,h=>by simp only[I.flat]at h; simp only[I.dC,AK cs h]
  | .gJ _ v,h=>by simp only[I.flat]at h; simp only[I.dC,sn v h]
  | .own _ _ _,h=>by simp [I.flat]at h
  | .ptr _ _,h=>by simp [I.flat]at h
  | .cz _ _,h=>by simp [I.flat]at h
  | .mp _ _ _,h=>by simp [I.flat]at h
  | .ec,_=>rfl
  | .bool _,_=>rfl
  | .int _ _,_=>rfl
  | .str _,_=>rfl
  | .dI _,_=>rfl
  | .ak _ _,h=>by simpa only[I.flat,I.dC] using h
  | .dL _ _,h=>by simpa only[I.flat,I.dC] using h
theorem AK {n t:Nat}: ∀(l:List I),b9 l=true→dE n t l=true
  |[],_=>rfl
  |a::l,h=>by simp only[b9,aT0]at h; simp only[dE,sn a h.1,AK l h.2,aT7]
end
def q1 (x:I):Out→aJ→Prop:=fun o _=>o= .dW x
section
variable {P:Program}{aN:List bj}{cF t0:Nat}{k:List e7}{Q:Out→aJ→Prop}{env:Env}{c:aJ}{anns:List I}{l:List bC}{K:Env→aJ→Prop}{Rp:I→aJ→Prop}{f:FuncId}{args:List aH}{az dA:List I}
theorem aY.uH (p:bl){fg:ey}{fr:eA}{n t:Nat}{x:I}(h:aY P f dA (aJ.of n t fg fr) (q1 x)) (bb:p.b.length=n) (aF:p.t.length=t)
    (bw:(nodupB p.b&&nodupB p.t&&p.b.all (fun x=>aW7 x c.bN)&&p.t.all (fun x=>aW7 x c.bf))=true) (eh:mL c.H.aV p fg) (dj:mM c.H.tok p fr) (hb:(dE n t dA&&(eP n t fg&&eQ n t fr))=true)
    (U:x.dC n t=true) (ab:x.ek p=x){az:List I}(aL:az=eO p dA):aY P f az c (fun o cB=>o= .dW x∧cB=c.jR p [] []):=by
  simp only[aT0,bb1]at bw
  obtain⟨⟨⟨d1,d2⟩,d3⟩,d4⟩:=bw
  subst aL
  refine aY.frame p h bb aF (by rw[d1,d2]; rfl) (fun i x e=>p9 (d3 x (aT6 e))) (fun i x e=>p9 (d4 x (aT6 e))) hb eh dj ?_
  rintro o c1 rfl
  refine⟨[],[],trivial,trivial,?_,?_,rfl⟩
  ·simp only[eP,eQ,Ad,U,aT7]
  ·simp only[Out.ek,ab]
theorem ac7 (o:Out):zS o o:=by cases o<;>first|exact cR.refl _|(simp only[zS]; exact cR.refl _)
theorem ay.dead (j T:Nat) (bq:c.H.tok j=some (.bP T 0 0)):ay P aN cF t0 k Q env c:=fun H0 dN s a7 H R bb aF an he ab ac=>by
  refine ci.conv (fun _ _=>False) ?_ fun _ _ h=>h.elim
  intro m hH aZ
  subst hH
  obtain⟨x,i,h1,J,aA⟩:=ab.tok j _ bq
  have:=(aZ.tok x i J).2.1
  exact absurd (aA.2.1.trans rfl) this
theorem gP.CJ {others:List Nat}{x iG:I}{c2:aJ}(h:aY P f (args.map (bi env)) c (fun o cB=>o= .dW x∧cB=c2)) (Ee:iG.flat=true) (bb:c2.bN=c.bN) (aF:c2.bf=c.bf) (af: ∀s∈others,∃bJ cu cn,env.get s= .ptr bJ 0∧c.H.aV bJ=some (cu,cn)∧c2.H.aV bJ=some (cu,cn)∧ot cn=true):gP P (.fQ others f args) env c (fun bp cB=>bp=iG∧cB=c.fw (.bP 0 0 0)) (fun bp cB=>bp=x∧cB=c2):=fun H0 s a7 H K iw he ab dz ia=>by
  have Xm: ∀ {bF:bl}{av:aw},bl.dU s bF→ea H0 bF c2 av→bF=s:=fun b5 fC=>b5.eq (by rw[←fC.bN,bb,ab.bN]) (by rw[←fC.bf,aF,ab.bf])
  have h1:=h H0 s _ H (nq he args) ab
  refine .fQ (az:=args.map (aH.aC a7)) (fun o av=>(∃bF eS c1,bl.dU s bF∧(eS= .dW x∧c1=c2)∧jy bF eS o∧ea H0 bF c1 av)∨(∃N,H.tok N=none∧o= .ret iG∧av=H.b7 N (.bP 0 0 0))) (fun j bq=> ?_) (fun cM=> ?_) (dD.rN _) (h1.mono fun o av bs=>⟨o,av,ac7 o,HSub.refl av,.inl bs⟩) ?_
  ·obtain⟨bJ,cu,cn,aj,aq,bD,da⟩:=af j bq
   have il:=he j
   rw[aj]at il
   simp only[aI]at il
   obtain⟨y,g1,g2⟩:=il
   refine⟨y,g2,fun o av bs=> ?_⟩
   rcases bs with ⟨bF,eS,c1,b5,⟨_,dh⟩,fC,lS⟩|⟨N,_,_,rfl⟩
   ·subst dh
    have:=Xm b5 lS
    subst this
    obtain⟨z,aR,cb,cp,c5⟩:=ab.aV bJ cu cn aq
    obtain⟨uj,fp,gu,lT,vA⟩:=lS.aV bJ cu cn bD
    rw[g1]at cb gu
    cases cb
    cases gu
    rw[cp,lT,bd.same cn aR fp da c5 vA]
   ·rfl
  ·obtain⟨N,dl⟩:=cM
   refine⟨iG,_,.inr ⟨N,(dl N (Nat.le_refl _)).2,rfl,rfl⟩,N+1,fun m hm=>⟨(dl m (by omega)).1,?_⟩⟩
   simp only[aw.b7]
   rw[if_neg (by omega)]
   exact (dl m (by omega)).2
  ·rintro o av (⟨bF,eS,c1,b5,⟨cA,dh⟩,fC,lS⟩|⟨N,J,rfl,rfl⟩)
   ·subst cA dh
    cases o with
    |ret v=>simp only[jy]at fC
    |dW v=>exact ia bF _ v _ av b5 ⟨rfl,rfl⟩ fC lS
   ·exact dz ⟨s.b,s.t++[N]⟩ iG iG (c.fw (.bP 0 0 0)) _ (bl.jJ s N) ⟨rfl,rfl⟩ ((I.j1 iG Ee iG).2 rfl) (ab.fw gm.bP J)
end
end Go.aX
