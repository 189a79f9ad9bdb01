/- Part of a proof; own work. -/
import Derived.Test.YtlemhelnmidpfaaGreatDoorQS2
set_option linter.unusedVariables false
set_option linter.unusedSimpArgs false
namespace Go.aO
open Go
def V7 (P:Program) (cl:yR):Prop:=∀f az c v cV,cl f az c=some (v,cV)→∀H0 s jx H,bk s az jx→fi H0 s c H→ko P f jx H fun o aB=> ∃b5 bI,bC.e8 s b5∧o= .ret bI∧aN b5 v bI∧fi H0 b5 cV aB
variable {P:Program}{s:bC}{env bd:Env}{H0 H:aA}{c cV:aQ}{K Rp:I→aA→Prop}{v:I}
theorem iz.bX {T size n:Nat}:iz s (.bX T size n) (.bX T size n):=⟨rfl,rfl,rfl,rfl,rfl⟩
theorem iz.bA {T size ver:Nat}{rows rows':List (List I)}(h:cq s rows rows'):iz s (.bA T size ver rows) (.bA T size ver rows'):=⟨rfl,rfl,rfl,rfl,rows',rfl,h⟩
theorem iz.bb {T ver:Nat}{rows rows':List (List I)}(h:cq s rows rows'):iz s (.bb T ver rows) (.bb T ver rows'):=⟨rfl,rfl,rfl,rfl,rows',rfl,h⟩
theorem eo.ua: ∀(l:List I),eo l l
 |[]=>by simp only[eo]
 |a::l=>by simp only[eo]; exact⟨_,_,rfl,bh.refl a,eo.ua l⟩
theorem L3 (he:iA s env bd){size:Nat}{parts:List (Nat×aJ)}(h:tz env size parts=true):cq s (r6 env parts) (lr bd parts)∧(lr bd parts).all (fun r=>r.length==size)=true∧(lr bd parts).flatten.all I.one=true∧size≠0:=by
 simp only[tz,Bool.and_eq_true,Bool.not_eq_true',beq_eq_false_iff_ne]at h
 obtain⟨U,aa,ay,bl⟩:=h
 have hb:=FK he parts U
 exact⟨hb,cq.Jw hb aa,bk.zS (cq.flatten hb) ay,bl⟩
theorem cq.aQ3 {size n:Nat}{zero:List I}(h:b7 zero=true):cq s (List.replicate n zero) (List.replicate n zero):=by
 induction n with
 |zero=>simp [cq]
 |succ n bB=>simp only[List.replicate_succ,cq]; exact⟨_,_,rfl,(n2 zero h _).2 rfl,bB⟩
theorem L8 {b o n x:Nat}{a cZ:I}(aL:aN s a cZ) (hb:s.b[b]? =some x) (ac:fi H0 s c H) (h:wb c b o n a=some (v,cV)): ∃T cs,H.aZ x=some (T,cs)∧cZ.cells.length=n∧o+n≤cs.length∧cZ.cells.all I.one=true∧v= .undef∧fi H0 s cV (H.cp x T (gj cs o cZ.cells)):=by
 unfold wb at h
 split at h
 ·rename_i T cs e
  obtain⟨y,cE,g1,g2,g3⟩:=ac.aZ _ _ _ e
  rw[hb]at g1
  cases g1
  cases aq:((a.fk&&a.cells.length==n)&&(Nat.ble (o+n) cs.length&&a.cells.all I.one)) with
  |false=>rw[aq]at h; cases h
  |true=>
   rw[aq]at h
   simp only[cond_true,Option.some.injEq,Prod.mk.injEq]at h
   obtain⟨rfl,rfl⟩:=h
   simp only[Bool.and_eq_true,beq_iff_eq,Nat.ble_eq]at aq
   obtain⟨⟨U,aa⟩,ay,bl⟩:=aq
   obtain⟨bf,bi⟩:=aL.fk U
   exact⟨T,cE,g2,by rw[bk.length bi,aa],by rw[bk.length g3]; exact ay,bk.zS bi bl,rfl,ac.cp hb (g3.gj bi o)⟩
 ·cases h
theorem ZP {t ver k n x:Nat}{a cZ:I}(aL:aN s a cZ) (ht:s.t[t]? =some x) (ac:fi H0 s c H) (h:zi c t ver k n a=some (v,cV)): ∃T size rows rows',H.tok x=some (.bA T size ver rows)∧cZ.cells.length=n∧k+n≤rows.flatten.length∧cZ.cells.all I.one=true∧rows'.flatten=gj rows.flatten k cZ.cells∧(∀r∈rows',r.length=size)∧rows'.length=rows.length∧v= .undef∧fi H0 s cV (H.cj x (.bA T size ver rows')):=by
 unfold zi at h
 split at h
 ·rename_i T size hY rows e
  obtain⟨y,l,g1,g2,g3⟩:=ac.bA e
  rw[ht]at g1
  cases g1
  cases aq:((hY==ver&&(a.fk&&a.cells.length==n))&&((Nat.ble (k+n) rows.flatten.length&&a.cells.all I.one)&&rows.flatten.length==rows.length*size)) with
  |false=>rw[aq]at h; cases h
  |true=>
   rw[aq]at h
   simp only[cond_true,Option.some.injEq,Prod.mk.injEq]at h
   obtain⟨rfl,rfl⟩:=h
   simp only[Bool.and_eq_true,beq_iff_eq,Nat.ble_eq]at aq
   obtain⟨⟨rfl,U,aa⟩,⟨ay,bl⟩,bW⟩:=aq
   obtain⟨bf,bi⟩:=aL.fk U
   have aC:l.flatten.length=l.length*size:=by rw[bk.length g3.flatten,cq.length g3]; exact bW
   have aw:k+n≤l.flatten.length:=by rw[bk.length g3.flatten]; exact ay
   have aW:cZ.cells.length=n:=by rw[bk.length bi,aa]
   have hs:(gj l.flatten k cZ.cells).length=l.length*size:=by
    unfold gj
    simp only[List.length_append,List.length_take,List.length_drop]
    omega
   obtain⟨ar,ax,bU⟩:=LU size l.length _ hs
   refine⟨T,size,l,chunks size l.length (gj l.flatten k cZ.cells),g2,aW,aw,bk.zS bi bl,ar,ax,bU,rfl,ac.cj ht (iz.bA ?_)⟩
   rw[cq.length g3]
   exact LV size _ _ _ (g3.flatten.gj bi k)
 ·cases h
theorem ZQ {cvs:List FuncId}{cl:yR}(tN:V7 P cl) (Br: ∀f∈cvs,di P f=true) (he:iA s env bd) (ac:fi H0 s c H){op:bg}(h:ms cvs cl op env c=some (v,cV))
  (dZ: ∀b5 bI aB,bC.e8 s b5→aN b5 v bI→fi H0 b5 cV aB→K bI aB):iK P op bd H K Rp:=by
 unfold ms at h
 split at h
 ·rename_i T x
  cases aq:((bp env x).fk&&(bp env x).cells.all I.one) with
  |false=>rw[aq]at h; cases h
  |true=>
   rw[aq]at h
   simp only[cond_true,Option.some.injEq,Prod.mk.injEq]at h
   obtain⟨rfl,rfl⟩:=h
   rw[Bool.and_eq_true]at aq
   obtain⟨bf,bi⟩:=(lu he x).fk aq.1
   refine .ij _ (.box (bk.zS bi aq.2)) fun y aV=>dZ _ _ _ (bC.B6 s y) ?_ (ac.q9 bi aV)
   simp only[aN,D.val]
   exact⟨y,by rw[ac.b4]; exact pf,rfl⟩
 ·rename_i T zero
  cases aq:(b7 zero&&zero.all I.one) with
  |false=>rw[aq]at h; cases h
  |true=>
   rw[aq]at h
   simp only[cond_true,Option.some.injEq,Prod.mk.injEq]at h
   obtain⟨rfl,rfl⟩:=h
   rw[Bool.and_eq_true]at aq
   refine .ij _ (.alloc aq.2) fun y aV=>dZ _ _ _ (bC.B6 s y) ?_ (ac.q9 ((n2 zero aq.1 _).2 rfl) aV)
   simp only[aN,D.val]
   exact⟨y,by rw[ac.b4]; exact pf,rfl⟩
 ·rename_i T size n zero parts
  cases aq:tz env size parts with
  |false=>rw[aq]at h; cases h
  |true=>
   rw[aq]at h
   simp only[cond_true,Option.some.injEq,Prod.mk.injEq]at h
   obtain⟨rfl,rfl⟩:=h
   obtain⟨bf,bi,cz,eu⟩:=L3 he aq
   refine .ij _ (.nV rfl bi cz eu) fun y aV=>dZ _ _ _ (bC.lF s y) ?_ (ac.hz (by rw[cq.length bf]; exact iz.bX) aV)
   simp only[aN,D.val]
   exact⟨y,_,by rw[ac.bj]; exact pf,rfl,cq.mono (bC.lF s y) _ _ bf⟩
 ·rename_i T size n zero parts
  cases aq:tz env size parts with
  |false=>rw[aq]at h; cases h
  |true=>
   rw[aq]at h
   simp only[cond_true,Option.some.injEq,Prod.mk.injEq]at h
   obtain⟨rfl,rfl⟩:=h
   obtain⟨bf,bi,cz,eu⟩:=L3 he aq
   refine .ij _ (.nU rfl bi cz eu) fun y aV=>dZ _ _ _ (bC.lF s y) ?_ (ac.hz (iz.bA bf) aV)
   simp only[aN,D.val]
   exact⟨y,by rw[ac.bj]; exact pf,rfl⟩
 ·rename_i T size bytes zero x
  split at h
  ·rename_i k n e
   have ab:=eD he e
   simp only[aN]at ab
   cases aq:(Nat.ble (bytes*n) 281474976710656&&(Nat.ble n maxLen&&(b7 zero&&(zero.all I.one&&(zero.length==size&& !(size==0)))))) with
   |false=>rw[aq]at h; cases h
   |true=>
    rw[aq]at h
    simp only[cond_true,Option.some.injEq,Prod.mk.injEq]at h
    obtain⟨rfl,rfl⟩:=h
    simp only[Bool.and_eq_true,Nat.ble_eq,beq_iff_eq,Bool.not_eq_true',beq_eq_false_iff_ne]at aq
    obtain⟨U,aa,ay,bl,bW,eL⟩:=aq
    refine .ij _ (.o0 ab U aa bl bW eL) fun y aV=>dZ _ _ _ (bC.lF s y) ?_ (ac.hz (iz.bA (cq.aQ3 (size:=size) ay)) aV)
    simp only[aN,D.val]
    exact⟨y,by rw[ac.bj]; exact pf,rfl⟩
  ·cases h
 ·rename_i T
  simp only[Option.some.injEq,Prod.mk.injEq]at h
  obtain⟨rfl,rfl⟩:=h
  refine .ij _ .mkMap fun y aV=>dZ _ _ _ (bC.lF s y) ?_ (ac.hz (iz.bb (by simp [cq])) aV)
  simp only[aN,D.val]
  exact⟨y,by rw[ac.bj]; exact pf,rfl⟩
 ·rename_i T size bytes x y
  split at h
  ·rename_i new e
   obtain⟨ED,bf,bi⟩:=UL (lu he y) e
   have ab:=lu he x
   unfold F0 at h
   split at h
   ·rename_i ar
    rw[ar]at ab
    simp only[aN]at ab
    cases aq:(Nat.ble (new.length*bytes) 140737488355328&&(Nat.ble new.length maxLen&& !(size==0))) with
    |false=>rw[aq]at h; cases h
    |true=>
     rw[aq]at h
     simp only[cond_true,Option.some.injEq,Prod.mk.injEq]at h
     obtain⟨rfl,rfl⟩:=h
     simp only[Bool.and_eq_true,Nat.ble_eq,Bool.not_eq_true',beq_eq_false_iff_ne]at aq
     refine .ij _ (.rY ab bf (by rw[cq.length bi]; exact aq.1) (by rw[cq.length bi]; exact aq.2.1) aq.2.2) fun z aG=>dZ _ _ _ (bC.lF s z) ?_ (ac.hz (by rw[cq.length bi]; exact iz.bX) aG)
     simp only[aN,D.val]
     exact⟨z,_,by rw[ac.bj]; exact pf,rfl,cq.mono (bC.lF s z) _ _ bi⟩
   ·rename_i t l8 rows ar
    rw[ar]at ab
    simp only[aN]at ab
    obtain⟨z,l,g1,g2,g3⟩:=ab
    split at h
    ·rename_i cO Kq n ver ax
     obtain⟨uk,dB,f1,f2,f3⟩:=ac.tok _ _ ax
     rw[g1]at f1
     cases f1
     cases aq:((cO==T&&(Kq==size&&(n==rows.length&&(ver==rows.length&&l8==size))))&&(Nat.ble ((rows.length+new.length)*bytes) 140737488355328&&Nat.ble (rows.length+new.length) maxLen)) with
     |false=>rw[aq]at h; cases h
     |true=>
      rw[aq]at h
      simp only[cond_true,Option.some.injEq,Prod.mk.injEq]at h
      obtain⟨rfl,rfl⟩:=h
      simp only[Bool.and_eq_true,Nat.ble_eq,beq_iff_eq]at aq
      obtain⟨⟨rfl,rfl,rfl,rfl,rfl⟩,c1,ci⟩:=aq
      have ad:dB= .bX cO l8 l.length:=by
       obtain⟨ec,a2,a3,a4,a5⟩:=f3
       cases dB
       simp only at ec a2 a3 a4 a5
       subst ec a2 a3 a4 a5
       rw[cq.length g3]
       rfl
      subst ad
      refine .append g2 f2 bf (by rw[cq.length bi,cq.length g3]; exact c1) (by rw[cq.length bi,cq.length g3]; exact ci) (dZ _ _ _ (bC.e8.refl s) ?_ (ac.cj g1 (by rw[cq.length bi,cq.length g3]; exact iz.bX)))
      simp only[aN]
      exact⟨z,_,g1,rfl,g3.append bi⟩
    ·cases h
   ·cases h
  ·cases h
 ·rename_i T size bytes x y
  split at h
  ·rename_i new e
   obtain⟨ED,bf,bi⟩:=UL (lu he y) e
   have ab:=lu he x
   unfold F1 at h
   split at h
   ·rename_i ar
    rw[ar]at ab
    simp only[aN]at ab
    cases aq:(Nat.ble (new.length*bytes) 140737488355328&&(Nat.ble new.length maxLen&& !(size==0))) with
    |false=>rw[aq]at h; cases h
    |true=>
     rw[aq]at h
     simp only[cond_true,Option.some.injEq,Prod.mk.injEq]at h
     obtain⟨rfl,rfl⟩:=h
     simp only[Bool.and_eq_true,Nat.ble_eq,Bool.not_eq_true',beq_eq_false_iff_ne]at aq
     refine .ij _ (.xu ab bf (by rw[cq.length bi]; exact aq.1) (by rw[cq.length bi]; exact aq.2.1) aq.2.2) fun z aG=>dZ _ _ _ (bC.lF s z) ?_ (ac.hz (iz.bA bi) aG)
     simp only[aN,D.val]
     exact⟨z,by rw[ac.bj]; exact pf,rfl⟩
   ·rename_i t ver ar
    rw[ar]at ab
    simp only[aN]at ab
    obtain⟨z,g1,g2⟩:=ab
    split at h
    ·rename_i cO Kq hY rows ax
     obtain⟨uk,l,f1,f2,f3⟩:=ac.bA ax
     rw[g1]at f1
     cases f1
     cases aq:((cO==T&&(Kq==size&&hY==ver))&&(Nat.ble ((rows.length+new.length)*bytes) 140737488355328&&Nat.ble (rows.length+new.length) maxLen)) with
     |false=>rw[aq]at h; cases h
     |true=>
      rw[aq]at h
      simp only[cond_true,Option.some.injEq,Prod.mk.injEq]at h
      obtain⟨rfl,rfl⟩:=h
      simp only[Bool.and_eq_true,Nat.ble_eq,beq_iff_eq]at aq
      obtain⟨⟨rfl,rfl,rfl⟩,c1,ci⟩:=aq
      refine .nj g2 f2 bf (by rw[cq.length bi,cq.length f3]; exact c1) (by rw[cq.length bi,cq.length f3]; exact ci) (dZ _ _ _ (bC.e8.refl s) ?_ (ac.cj g1 (iz.bA (f3.append bi))))
      simp only[aN]
      exact⟨z,g1,rfl⟩
    ·cases h
   ·cases h
  ·cases h
 ·rename_i size x cJ ad
  split at h
  ·rename_i t ver e
   have ab:=eD he e
   simp only[aN]at ab
   obtain⟨z,g1,g2⟩:=ab
   unfold Gc at h
   split at h
   ·rename_i T l8 hY rows ax
    obtain⟨uk,l,f1,f2,f3⟩:=ac.bA ax
    rw[g1]at f1
    cases f1
    split at h
    ·rename_i q m bU dl
     cases aq:((hY==ver&&l8==size)&&(Nat.ble m rows.length&&Nat.ble q m)) with
     |false=>rw[aq]at h; cases h
     |true=>
      rw[aq]at h
      simp only[cond_true,Option.some.injEq,Prod.mk.injEq]at h
      obtain⟨rfl,rfl⟩:=h
      simp only[Bool.and_eq_true,Nat.ble_eq,beq_iff_eq]at aq
      obtain⟨⟨rfl,rfl⟩,c1,ci⟩:=aq
      refine .oI g2 f2 (zg he bU) (by rw[cq.length f3]; exact zg he dl) (by rw[cq.length f3]; exact c1) ci (dZ _ _ _ (bC.e8.refl s) ?_ (ac.cj g1 (iz.bA ((f3.take m).drop q))))
      simp only[aN]
      exact⟨z,g1,rfl⟩
    ·cases h
   ·cases h
  ·cases h
 ·rename_i n a x
  split at h
  ·rename_i b o e
   have aL:=eD he e
   simp only[aN]at aL
   obtain⟨z,g1,g2⟩:=aL
   obtain⟨T,cs,f1,f2,f3,f4,rfl,f6⟩:=L8 (lu he x) g1 ac h
   exact .store g2 f1 f2 f3 f4 (dZ _ _ _ (bC.e8.refl s) (by simp only[aN]) f6)
  ·rename_i t ver k e
   have aL:=eD he e
   simp only[aN]at aL
   obtain⟨z,g1,g2⟩:=aL
   obtain⟨T,size,rows,rows',f1,f2,f3,f4,f5,f6,f7,rfl,f9⟩:=ZP (lu he x) g1 ac h
   exact .w7 g2 f1 f2 f3 f4 f5 f6 f7 (dZ _ _ _ (bC.e8.refl s) (by simp only[aN]) f9)
  ·cases h
 ·rename_i fv others n a x
  split at h
  ·rename_i b b1 o cA e
   have aL:=eD he e
   have hm:=he fv
   rw[cA]at hm
   simp only[aN]at aL hm
   obtain⟨z,g1,g2⟩:=aL
   obtain⟨z0,g3,g4⟩:=hm
   cases aq:(b1==b&&others.all (eZ env b)) with
   |false=>rw[aq]at h; cases h
   |true=>
    rw[aq,cond_true]at h
    simp only[Bool.and_eq_true,beq_iff_eq,List.all_eq_true]at aq
    obtain⟨rfl,aq⟩:=aq
    rw[g1]at g3
    cases g3
    obtain⟨T,cs,f1,f2,f3,f4,rfl,f6⟩:=L8 (lu he x) g1 ac h
    refine .hP g4 (fun j bx=> ?_) g2 f1 f2 f3 f4 (dZ _ _ _ (bC.e8.refl s) (by simp only[aN]) f6)
    have aa:=aq j bx
    unfold eZ at aa
    have ay:=he j
    split at aa
    ·rename_i iM ax
     rw[ax]at ay
     simp only[aN]at ay
     obtain⟨z2,b0,cN⟩:=ay
     refine⟨z2,cN,fun a8=> ?_⟩
     subst a8
     have:=ac.mR _ _ _ b0 g1
     subst this
     simp at aa
    ·cases aa
  ·cases h
 ·rename_i x k u
  split at h
  ·rename_i t ver q e cI
   have ab:=eD he e
   have aw:=eD he cI
   simp only[aN]at ab aw
   obtain⟨z,g1,g2⟩:=ab
   unfold F9 at h
   split at h
   ·rename_i T hY rows ax
    cases aq:(hY==ver&&(bp env u).one) with
    |false=>rw[aq]at h; cases h
    |true=>
     rw[aq,cond_true]at h
     simp only[Bool.and_eq_true,beq_iff_eq]at aq
     obtain⟨rfl,jq⟩:=aq
     obtain⟨uk,l,f1,f2,f3⟩:=ac.bb ax
     rw[g1]at f1
     cases f1
     cases hm:l2 q (bp env u) rows with
     |none=>rw[hm]at h; cases h
     |some r=>
      rw[hm]at h
      simp only[Option.map_some,Option.some.injEq,Prod.mk.injEq]at h
      obtain⟨rfl,rfl⟩:=h
      obtain⟨cc,bf,bi⟩:=QC q (lu he u) rows l r f3 hm
      exact .oZ g2 f2 aw ((lu he u).one jq) bf (dZ _ _ _ (bC.e8.refl s) (by simp only[aN]) (ac.cj g1 (iz.bb bi)))
   ·cases h
  ·cases h
 ·rename_i f args
  refine .call _ (eo.ua _) (tN f _ c v cV h H0 s _ H (oQ he args) ac) fun o aB bw=> ?_
  obtain⟨b5,bI,b0,rfl,du,gE⟩:=bw
  exact dZ b5 bI aB b0 du gE
 ·rename_i x args
  split at h
  ·rename_i f cap e
   have ab:=eD he e
   simp only[aN]at ab
   obtain⟨l,g1,g2⟩:=ab
   cases aq:cvs.contains f with
   |false=>
    rw[aq,cond_false]at h
    cases br:(Nat.ble ke f&&cvs.contains (f-ke)) with
    |false=>rw[br]at h; cases h
    |true=>
     rw[br,cond_true]at h
     simp only[Bool.and_eq_true]at br
     have hle:=Nat.le_of_ble_eq_true br.1
     have G3:x.aI bd= .fn (f-ke+ke) l:=by rw[Nat.sub_add_cancel hle]; exact g1
     refine .y8 _ G3 (Br (f-ke) (by simpa using br.2)) (eo.ua _) (tN (f-ke) _ c v cV h H0 s _ H (g2.append (oQ he args)) ac) fun o aB bw=> ?_
     obtain⟨b5,bI,b0,rfl,du,gE⟩:=bw
     exact dZ b5 bI aB b0 du gE
   |true=>
    rw[aq,cond_true]at h
    refine .gT _ g1 (Br f (by simpa using aq)) (eo.ua _) (tN f _ c v cV h H0 s _ H ((oQ he args).append g2) ac) fun o aB bw=> ?_
    obtain⟨b5,bI,b0,rfl,du,gE⟩:=bw
    exact dZ b5 bI aB b0 du gE
  ·cases h
 ·simp only[Option.map_eq_some_iff,Prod.mk.injEq]at h
  obtain⟨v0,g1,rfl,rfl⟩:=h
  obtain⟨bI,g2,g3⟩:=ZL (P:=P) he ac.toHR g1
  exact .ij _ g2 fun x _=>dZ s bI H (bC.e8.refl s) g3 ac
def L0 (cl:yR) (f:FuncId) (az:List I):Option I:=
 bif b7 (lj az) then match cl f (lj az) .new with
  |some (v,_)=>bif v.aM.flat then some v.aM else none
  |none=>none
 else none
def ql:bg→Bool
 | .jF _ _=>true
 | .ld _ _=>true
 | .tZ _ _ _ _=>true
 | _=>false
def AZ (cvs:List FuncId) (cl:yR):List bY→Env→aQ→Option (List I×Env×aQ)
 |[],env,c=>some ([],env,c)
 |⟨d,g,op⟩::l,env,c=>match wanted ⟨d,g,op⟩ env with
  |none=>none
  |some false=>match AZ cvs cl l (env.put d .undef) c with
   |some (anns,e,ci)=>some (bif ql op then .undef::anns else anns,e,ci)
   |none=>none
  |some true=>match op with
   | .jF f args=>match L0 cl f (args.map (bp env)) with
    |some r=>match AZ cvs cl l (env.put d r) c with
     |some (anns,e,ci)=>some (r::anns,e,ci)
     |none=>none
    |none=>none
   | .ld x args=>match bp env x with
    | .fn f cap=>bif cvs.contains f then match L0 cl f (args.map (bp env)++cap) with
     |some r=>match AZ cvs cl l (env.put d r) c with
      |some (anns,e,ci)=>some (r::anns,e,ci)
      |none=>none
     |none=>none
     else none
    | _=>none
   | .tZ _ _ _ _=>none
   |op=>match ms cvs cl op env c with
    |some (v,c1)=>AZ cvs cl l (env.put d v) c1
    |none=>none
section
variable {P:Program}{s:bC}{env bd:Env}{H0 H:aA}{c cV:aQ}{Rp:I→aA→Prop}
theorem Fl (he:iA s env bd){i:bY}{b:Bool}(h:wanted i env=some b):wanted i bd=some b:=by
 obtain⟨d,g,op⟩:=i
 cases g with
 |none=>exact h
 |some p=>
  obtain⟨j,want⟩:=p
  have bx:=he j
  simp only[wanted]at h ⊢
  split at h
  ·rename_i x e
   rw[e]at bx
   simp only[aN]at bx
   rw[bx]
   exact h
  ·rename_i e
   rw[e]at bx
   simp only[aN]at bx
   rw[bx]
   exact h
  ·cases h
end
end Go.aO
namespace Go.aO
open Go
inductive Fu where
 |c (e:bm)
 |aZ (id:Nat)
 |oF (body:bm)
def cpop (id:Nat):List Fu→Option (List Fu)
 | .aZ j::k=>bif j==id then some k else cpop id k
 | _::k=>cpop id k
 |[]=>none
def wa (env:Env) (C:aA):bc→Option I
 | .t n=>some (env.get n)
 | .cell agg n a=>match env.get a with
  | .ptr b o=>match C.aZ b with
   |some (_,cs)=>pX cs agg o n
   |none=>none
  | .eK row o=>pX row agg o n
  | _=>none
def v8 (env:Env) (C:aA):List bc→Option (List I)
 |[]=>some []
 |r::aS=>match wa env C r,v8 env C aS with
  |some v,some l=>some (v::l)
  | _,_=>none
def pY (aS:List bc) (env:Env) (C:aA):Option I:=
 match aS with
 |[r]=>wa env C r
 |aS=>(v8 env C aS).map .cT
abbrev KJ:=FuncId→Option (bm×List bc×Nat)
abbrev Lib:=FuncId→List I→Option I
def run (qX:KJ) (qK:Lib) (cvs:List FuncId):Nat→List bc→List Fu→Env→aQ→Option (I×aQ)
 |0,_,_,_,_=>none
 |n+1,aS,k,env,c=>
  match k with
  |[]=>(pY aS env c.H).map fun v=>(v,c)
  | .aZ _::k=>run qX qK cvs n aS k env c
  | .oF body::k=>run qX qK cvs n aS (.c body:: .oF body::k) env c
  | .c e::k=>match e with
   | .ret=>(pY aS env c.H).map fun v=>(v,c)
   | .skip=>run qX qK cvs n aS k env c
   | .seq a b=>run qX qK cvs n aS (.c a:: .c b::k) env c
   | .block id b=>run qX qK cvs n aS (.c b:: .aZ id::k) env c
   | .exit id=>match cpop id k with
    |some fO=>run qX qK cvs n aS fO env c
    |none=>none
   | .cond x a b=>match bp env x with
    | .bool true=>run qX qK cvs n aS (.c a::k) env c
    | .bool false=>run qX qK cvs n aS (.c b::k) env c
    | _=>none
   | .region ops _=>
    match AZ cvs (fun f az c=>match qK f (lj az) with
     |some r=>bif b7 (lj az)&&r.flat then some (r,c) else none
     |none=>match qX f with
      |some (e,aS,m)=>bif az.length==m then run qX qK cvs n aS [.c e] (mQ az) c else none
      |none=>none) ops env c with
    |some (_,bd,cV)=>run qX qK cvs n aS k bd cV
    |none=>none
   | .loop body=>run qX qK cvs n aS (.c body:: .oF body::k) env c
   | .uG _ _ _=>none
section
variable {P:Program}{qX:KJ}{qK:Lib}{cvs:List FuncId}{aS:List bc}{v:I}{c1:aQ}{H0:aA}{eP:bC}
variable {s:bC}{env bd:Env}{H:aA}{c:aQ}
theorem L2 (he:iA s env bd) (ac:fi H0 s c H){r:bc}{x:I}(h:wa env c.H r=some x): ∃c9,r.aI bd H=some c9∧aN s x c9:=by
 cases r with
 |t n=>
  simp only[wa,Option.some.injEq]at h
  subst h
  exact⟨_,rfl,he n⟩
 |cell agg n a=>
  simp only[wa]at h
  have aL:=he a
  split at h
  ·rename_i b o e
   rw[e]at aL
   simp only[aN]at aL
   obtain⟨y,U,aa⟩:=aL
   split at h
   ·rename_i T cs ax
    obtain⟨c9,cE,g1,g2,g3⟩:=ac.aZ _ _ _ ax
    rw[U]at g1
    cases g1
    obtain⟨bf,bI,bi,cz⟩:=uC g3 h
    exact⟨bI,by simp only[bc.aI,ca,aJ.aI,aa,g2,if_pos bf,bi],cz⟩
   ·cases h
  ·rename_i row o e
   rw[e]at aL
   simp only[aN]at aL
   obtain⟨l,aa,U⟩:=aL
   obtain⟨bf,bI,bi,cz⟩:=uC U h
   exact⟨bI,by simp only[bc.aI,ca,aJ.aI,aa,if_pos bf,bi],cz⟩
  ·cases h
theorem L1 (he:iA s env bd) (ac:fi H0 s c H): ∀(l:List bc) (x:List I),v8 env c.H l=some x→∃c9,l.mapM (bc.aI bd H)=some c9∧bk s x c9
 |[],x,h=>by
  simp only[v8,Option.some.injEq]at h
  subst h
  exact⟨[],rfl,by simp only[bk]⟩
 |r::l,x,h=>by
  simp only[v8]at h
  split at h
  ·rename_i y eT ar ax
   simp only[Option.some.injEq]at h
   subst h
   obtain⟨iX,g1,g2⟩:=L2 he ac ar
   obtain⟨bg0,g3,g4⟩:=L1 he ac l eT ax
   exact⟨iX::bg0,by simp [List.mapM_cons,g1,g3],by simp only[bk]; exact⟨_,_,rfl,g2,g4⟩⟩
  ·cases h
theorem Gb (he:iA s env bd) (ac:fi H0 s c H){l:List bc}{x:I}(h:pY l env c.H=some x): ∃c9,results l bd H=some c9∧aN s x c9:=by
 unfold pY at h
 split at h
 ·exact L2 he ac h
 ·rename_i aW
  simp only[Option.map_eq_some_iff]at h
  obtain⟨y,e,rfl⟩:=h
  obtain⟨iX,g1,g2⟩:=L1 he ac l y e
  refine⟨.cT iX,?_,by simp only[aN]; exact⟨_,rfl,g2⟩⟩
  unfold results
  split
  ·rename_i r
   exact absurd rfl (aW r)
  ·rw[g1]; rfl
theorem av3: ∀ {az jx:List I},bk s az jx→iA s (mQ az) (mQ jx):=by
 intro az jx h j
 rw[Et,Et]
 simp only[Nat.zero_le,if_true,Nat.sub_zero]
 cases e:az[j]? with
 |none=>
  simp only[List.getD,e,Option.getD_none,aN]
 |some a=>
  obtain⟨cZ,g1,g2⟩:=h.get j a e
  simp only[List.getD,e,g1,Option.getD_some]
  exact g2
theorem eo.Jo {m:Mem}: ∀ {az bQ:List I}{l:List Value},eo az bQ→aR m az l→aR m bQ l
 |[],_,_,h,k=>by simp only[eo]at h; subst h; exact k
 |a::az,_,_,h,k=>by
  simp only[eo]at h
  obtain⟨b,bQ,rfl,U,aa⟩:=h
  simp only[aR]at k ⊢
  obtain⟨v,af,ar,ax,bU⟩:=k
  exact⟨v,af,ar,U m v ax,eo.Jo aa bU⟩
end
end Go.aO
namespace Go.aO
open Go
def oj (s:bC):Out→Out→Prop
  | .ret a,.ret b=>aN s a b
  | .e5 a,.e5 b=>aN s a b
  | _,_=>False
def aY (P:Program) (f:FuncId) (az:List I) (c:aQ) (Q:Out→aQ→Prop):Prop:=
  ∀H0 s jx H,bk s az jx→fi H0 s c H→ko P f jx H fun o' aB=> ∃b5 o c1,bC.e8 s b5∧Q o c1∧oj b5 o o'∧fi H0 b5 c1 aB
def ng (v:I) (c1:aQ):Out→aQ→Prop:=fun o c=>o= .ret v∧c=c1
inductive gm where
  |c (e:bm)
  |aZ (id:Nat)
  |oF (fK:Nat→Env→aQ→Prop) (m0:Nat)
def gm.o8 (H0:aA) (eP:bC):gm→Item
  | .c e=> .c e
  | .aZ id=> .aZ id
  | .oF fK m0=> .round (fun m bd aB=> ∃s env c,bC.e8 eP s∧fK m env c∧iA s env bd∧fi H0 s c aB) m0
def tV (id:Nat):List gm→Option (List gm)
  | .aZ j::k=>bif j==id then some k else tV id k
  | _::k=>tV id k
  |[]=>none
theorem Ew {H0:aA}{eP:bC}{id:Nat}: ∀ {k fO:List gm},tV id k=some fO→qV id (k.map (gm.o8 H0 eP))=some (fO.map (gm.o8 H0 eP))
  |[],_,h=>by cases h
  | .c _::k,_,h=>by simp only[tV]at h; simp only[List.map_cons,gm.o8,qV]; exact Ew h
  | .oF _ _::k,_,h=>by simp only[tV]at h; simp only[List.map_cons,gm.o8,qV]; exact Ew h
  | .aZ j::k,_,h=>by
    simp only[tV]at h
    simp only[List.map_cons,gm.o8,qV]
    cases ad:j==id with
    |true=>rw[ad]at h; cases h; rw[if_pos (by simpa using ad)]
    |false=>rw[ad]at h; rw[if_neg (by simpa using ad)]; exact Ew h
def av (P:Program) (aS:List bc) (c8 t0:Nat) (k:List gm) (Q:Out→aQ→Prop) (env:Env) (c:aQ):Prop:=
  ∀H0 eP s bd H (R:Out→aA→Prop),eP.b.length=c8→eP.t.length=t0→bC.e8 eP s→iA s env bd→fi H0 s c H→(∀b5 o o' c1 aB,bC.e8 eP b5→Q o c1→oj b5 o o'→fi H0 b5 c1 aB→R o' aB)→cF P aS R (k.map (gm.o8 H0 eP)) bd H
def au (P:Program) (anns:List I) (l:List bY) (env:Env) (c:aQ) (K:Env→aQ→Prop) (Rp:I→aQ→Prop):Prop:=
  ∀H0 s bd H (K':Env→aA→Prop) (jX:I→aA→Prop),iA s env bd→fi H0 s c H→(∀b5 e cI c1 aB,bC.e8 s b5→K e c1→iA b5 e cI→fi H0 b5 c1 aB→K' cI aB)→(∀b5 v bI c1 aB,bC.e8 s b5→Rp v c1→aN b5 v bI→fi H0 b5 c1 aB→jX bI aB)→bt P (fs l anns) bd H K' jX
variable {P:Program}{aS:List bc}{c8 t0:Nat}{k:List gm}{Q:Out→aQ→Prop}{env:Env}{c c1:aQ}{v:I}
theorem av.ret (ae:pY aS env c.H=some v) (h:Q (.ret v) c):av P aS c8 t0 (.c .ret::k) Q env c:=fun H0 eP s bd H R aW ht hs he ac ak=>by
  obtain⟨bI,g1,g2⟩:=Gb he ac ae
  exact .ret g1 (ak s (.ret v) (.ret bI) c H hs h g2 ac)
theorem av.done (ae:pY aS env c.H=some v) (h:Q (.ret v) c):av P aS c8 t0 [] Q env c:=fun H0 eP s bd H R aW ht hs he ac ak=>by
  obtain⟨bI,g1,g2⟩:=Gb he ac ae
  exact .done g1 (ak s (.ret v) (.ret bI) c H hs h g2 ac)
theorem av.skip (h:av P aS c8 t0 k Q env c):av P aS c8 t0 (.c .skip::k) Q env c:=fun H0 eP s bd H R aW ht hs he ac ak=> .skip (h H0 eP s bd H R aW ht hs he ac ak)
theorem av.AL {id:Nat}(h:av P aS c8 t0 k Q env c):av P aS c8 t0 (.aZ id::k) Q env c:=fun H0 eP s bd H R aW ht hs he ac ak=> .AL (h H0 eP s bd H R aW ht hs he ac ak)
theorem av.seq {a b:bm}(h:av P aS c8 t0 (.c a:: .c b::k) Q env c):av P aS c8 t0 (.c (.seq a b)::k) Q env c:=fun H0 eP s bd H R aW ht hs he ac ak=> .seq (h H0 eP s bd H R aW ht hs he ac ak)
theorem av.block {id:Nat}{b:bm}(h:av P aS c8 t0 (.c b:: .aZ id::k) Q env c):av P aS c8 t0 (.c (.block id b)::k) Q env c:=fun H0 eP s bd H R aW ht hs he ac ak=> .block (h H0 eP s bd H R aW ht hs he ac ak)
theorem av.exit {id:Nat}{fO:List gm}(aw:tV id k=some fO) (h:av P aS c8 t0 fO Q env c):av P aS c8 t0 (.c (.exit id)::k) Q env c:=fun H0 eP s bd H R aW ht hs he ac ak=> .exit (Ew aw) (h H0 eP s bd H R aW ht hs he ac ak)
theorem av.cond {x:aJ}{a b:bm}{t:Bool}(aq:bp env x= .bool t) (U:t=true→av P aS c8 t0 (.c a::k) Q env c) (aa:t=false→av P aS c8 t0 (.c b::k) Q env c):av P aS c8 t0 (.c (.cond x a b)::k) Q env c:=fun H0 eP s bd H R aW ht hs he ac ak=>by
  have ab:=lu he x
  rw[aq]at ab
  simp only[aN]at ab
  exact .cond ab (fun e=>U e H0 eP s bd H R aW ht hs he ac ak) (fun e=>aa e H0 eP s bd H R aW ht hs he ac ak)
theorem av.nX {x:aJ}{a b:bm}(aq:bp env x= .bool true) (h:av P aS c8 t0 (.c a::k) Q env c):av P aS c8 t0 (.c (.cond x a b)::k) Q env c:=av.cond aq (fun _=>h) (fun e=>by cases e)
theorem av.nW {x:aJ}{a b:bm}(aq:bp env x= .bool false) (h:av P aS c8 t0 (.c b::k) Q env c):av P aS c8 t0 (.c (.cond x a b)::k) Q env c:=av.cond aq (fun e=>by cases e) (fun _=>h)
theorem av.iU {ops:List bY}{draw:Bool}{anns:List I}(h:au P anns ops env c (fun e c1=>av P aS c8 t0 k Q e c1) (fun v c1=>Q (.e5 v) c1)):av P aS c8 t0 (.c (.region ops draw)::k) Q env c:=fun H0 eP s bd H R aW ht hs he ac ak=>
  .region anns _ (h H0 s bd H _ _ he ac (fun b5 e cI c1 aB b0 cN du gE=>cN H0 eP b5 cI aB R aW ht (hs.trans b0) du gE ak) (fun b5 v bI c1 aB b0 cN du gE=>ak b5 (.e5 v) (.e5 bI) c1 aB (hs.trans b0) cN du gE)) fun _ _ h=>h
theorem av.loop {body:bm}(fK:Nat→Env→aQ→Prop) (m:Nat) (aU:fK m env c) (h: ∀aX e cV,fK aX e cV→av P aS c8 t0 (.c body:: .oF fK aX::k) Q e cV):av P aS c8 t0 (.c (.loop body)::k) Q env c:=fun H0 eP s bd H R aW ht hs he ac ak=>
  .loop (fun m bd aB=> ∃s env c,bC.e8 eP s∧fK m env c∧iA s env bd∧fi H0 s c aB) m ⟨s,env,c,hs,aU,he,ac⟩ fun aX cI aB ⟨s2,ax,ci,b0,cN,du,gE⟩=>h aX ax ci cN H0 eP s2 cI aB R aW ht b0 du gE ak
theorem av.round {fK:Nat→Env→aQ→Prop}{m0:Nat}(m:Nat) (aU:fK m env c) (U:m<m0):av P aS c8 t0 (.oF fK m0::k) Q env c:=fun H0 eP s bd H R aW ht hs he ac ak=>
  .round m ⟨s,env,c,hs,aU,he,ac⟩ U
def rT (env:Env):Env→Prop
  |[]=>True
  |p::l=>env.get p.1=p.2∧rT env l
theorem rT.get: ∀ {E:Env},rT env E→∀j,E.get j=env.get j∨E.get j= .eX
  |[],_,j=> .inr rfl
  |(k,v)::E,h,j=>by
   simp only[rT]at h
   simp only[Env.get]
   cases aw:k==j with
   |true=>have:k=j:=by simpa using aw
          subst this; exact .inl h.1.symm
   |false=>exact rT.get h.2 j
theorem iA.As {s:bC}{E bd:Env}(h: ∀j,E.get j=env.get j∨E.get j= .eX) (he:iA s env bd):iA s E bd:=fun j=>by
  rcases h j with e|e
  ·rw[e]; exact he j
  ·rw[e]; simp only[aN]
abbrev fl:=List (Nat×TypeId×List I)
abbrev fm:=List (Nat×cb)
def hU:fl→Nat→Option (TypeId×List I)
  |[],_=>none
  |(k,x)::l,j=>bif k==j then some x else hU l j
def jD:fm→Nat→Option cb
  |[],_=>none
  |(k,x)::l,j=>bif k==j then some x else jD l j
def aQ.of (b4 bj:Nat) (cK:fl) (cX:fm):aQ:=⟨⟨hU cK,jD cX⟩,b4,bj⟩
def ll (H:aA):fl→Prop
  |[]=>True
  |p::l=>H.aZ p.1=some p.2∧ll H l
def lm (H:aA):fm→Prop
  |[]=>True
  |p::l=>H.tok p.1=some p.2∧lm H l
theorem ll.get {H:aA}: ∀ {l:fl},ll H l→∀j y,hU l j=some y→H.aZ j=some y
  |[],_,_,_,e=>by cases e
  |(k,x)::l,h,j,y,e=>by
   simp only[ll]at h
   simp only[hU]at e
   cases aw:k==j with
   |true=>rw[aw]at e; cases e
          have:k=j:=by simpa using aw
          subst this; exact h.1
   |false=>rw[aw]at e; exact ll.get h.2 j y e
theorem lm.get {H:aA}: ∀ {l:fm},lm H l→∀j y,jD l j=some y→H.tok j=some y
  |[],_,_,_,e=>by cases e
  |(k,x)::l,h,j,y,e=>by
   simp only[lm]at h
   simp only[jD]at e
   cases aw:k==j with
   |true=>rw[aw]at e; cases e
          have:k=j:=by simpa using aw
          subst this; exact h.1
   |false=>rw[aw]at e; exact lm.get h.2 j y e
mutual
def I.dW (n t:Nat):I→Bool
  | .ptr b _=>Nat.blt b n
  | .agg cs=>ed n t cs
  | .cT cs=>ed n t cs
  | .af _ rows=>eN rows
  | .own x _ rows=>Nat.blt x t&&eN rows
  | .c6 x _=>Nat.blt x t
  | .mp x _ _=>Nat.blt x t
  | .eK row _=>b7 row
  | .fn _ cap=>ed n t cap
  | .iE _ v=>v.dW n t
  | _=>true
def ed (n t:Nat):List I→Bool
  |[]=>true
  |a::az=>a.dW n t&&ed n t az
end
theorem GY {s b5:bC}{az l:List I}(h:b7 az=true) (ac:bk s az l):bk b5 az l:=(n2 az h l).2 ((n2 az h l).1 ac)
theorem ww {s b5:bC}{az l:List (List I)}(h:eN az=true) (ac:cq s az l):cq b5 az l:=(p1 az h l).2 ((p1 az h l).1 ac)
theorem om {i n:Nat}(h:Nat.blt i n=true):i<n:=by simpa [Nat.blt_eq] using h
theorem Aj {l:List Nat}{n i x:Nat}(h:l[i]? =some x) (ad:Nat.blt i n=true):(l.take n)[i]? =some x:=by
  rw[List.getElem?_take,if_pos (om ad),h]
mutual
theorem aN.cut {s:bC}{n t:Nat}: ∀(a v:I),aN s a v→a.dW n t=true→aN ⟨s.b.take n,s.t.take t⟩ a v
  | .eX,_,_,_=>by simp only[aN]
  | .ptr b o,_,h,hb=>by simp only[I.dW]at hb; simp only[aN]at*; obtain⟨x,U,aa⟩:=h; exact⟨x,Aj U hb,aa⟩
  | .agg cs,_,h,hb=>by simp only[I.dW]at hb; simp only[aN]at*; obtain⟨l,U,aa⟩:=h; exact⟨l,U,bk.cut cs l aa hb⟩
  | .cT cs,_,h,hb=>by simp only[I.dW]at hb; simp only[aN]at*; obtain⟨l,U,aa⟩:=h; exact⟨l,U,bk.cut cs l aa hb⟩
  | .af _ rows,_,h,hb=>by
    simp only[I.dW]at hb
    simp only[aN]at*
    obtain⟨l,U,aa⟩:=h
    exact⟨l,U,ww hb aa⟩
  | .own x _ rows,_,h,hb=>by
    simp only[I.dW,Bool.and_eq_true]at hb
    simp only[aN]at*
    obtain⟨y,l,aU,U,aa⟩:=h
    exact⟨y,l,Aj aU hb.1,U,ww hb.2 aa⟩
  | .c6 x _,_,h,hb=>by simp only[I.dW]at hb; simp only[aN]at*; obtain⟨x,U,aa⟩:=h; exact⟨x,Aj U hb,aa⟩
  | .mp x _ _,_,h,hb=>by simp only[I.dW]at hb; simp only[aN]at*; obtain⟨x,U,aa⟩:=h; exact⟨x,Aj U hb,aa⟩
  | .eK row _,_,h,hb=>by
    simp only[I.dW]at hb
    simp only[aN]at*
    obtain⟨l,U,aa⟩:=h
    exact⟨l,U,GY hb aa⟩
  | .fn _ cap,_,h,hb=>by simp only[I.dW]at hb; simp only[aN]at*; obtain⟨l,U,aa⟩:=h; exact⟨l,U,bk.cut cap l aa hb⟩
  | .iE _ v,_,h,hb=>by simp only[I.dW]at hb; simp only[aN]at*; obtain⟨x,U,aa⟩:=h; exact⟨x,U,aN.cut v x aa hb⟩
  | .bool _,_,h,_=>by simp only[aN]at*; exact h
  | .int _ _,_,h,_=>by simp only[aN]at*; exact h
  | .str _,_,h,_=>by simp only[aN]at*; exact h
  | .ev _,_,h,_=>by simp only[aN]at*; exact h
theorem bk.cut {s:bC}{n t:Nat}: ∀(az l:List I),bk s az l→ed n t az=true→bk ⟨s.b.take n,s.t.take t⟩ az l
  |[],_,h,_=>by simp only[bk]at*; exact h
  |a::az,_,h,hb=>by simp only[ed,Bool.and_eq_true]at hb; simp only[bk]at*; obtain⟨v,af,U,aa,ay⟩:=h; exact⟨v,af,U,aN.cut a v aa hb.1,bk.cut az af ay hb.2⟩
end
def lq (n t:Nat):Env→Bool
  |[]=>true
  |p::l=>p.2.dW n t&&lq n t l
def fA (n t:Nat):fl→Bool
  |[]=>true
  |p::l=>Nat.blt p.1 n&&(ed n t p.2.2&&fA n t l)
def kd:Option (List (List I))→Bool
  |none=>true
  |some rows=>eN rows
def fB (n t:Nat):fm→Bool
  |[]=>true
  |p::l=>Nat.blt p.1 t&&(kd p.2.lU&&fB n t l)
theorem K4 {n t:Nat}: ∀ {E:Env},lq n t E=true→∀j,(E.get j).dW n t=true
  |[],_,j=>rfl
  |(k,v)::E,h,j=>by
   simp only[lq,Bool.and_eq_true]at h
   simp only[Env.get]
   cases k==j with
   |true=>exact h.1
   |false=>exact K4 h.2 j
theorem FG {n t:Nat}: ∀ {l:fl},fA n t l=true→∀j T cs,hU l j=some (T,cs)→Nat.blt j n=true∧ed n t cs=true
  |[],_,_,_,_,e=>by cases e
  |(k,x)::l,h,j,T,cs,e=>by
   simp only[fA,Bool.and_eq_true]at h
   simp only[hU]at e
   cases aw:k==j with
   |true=>rw[aw]at e; cases e
          have:k=j:=by simpa using aw
          subst this; exact⟨h.1,h.2.1⟩
   |false=>rw[aw]at e; exact FG h.2.2 j T cs e
theorem FH {n t:Nat}: ∀ {l:fm},fB n t l=true→∀j o,jD l j=some o→Nat.blt j t=true∧kd o.lU=true
  |[],_,_,_,e=>by cases e
  |(k,x)::l,h,j,o,e=>by
   simp only[fB,Bool.and_eq_true]at h
   simp only[jD]at e
   cases aw:k==j with
   |true=>rw[aw]at e; cases e
          have:k=j:=by simpa using aw
          subst this; exact⟨h.1,h.2.1⟩
   |false=>rw[aw]at e; exact FH h.2.2 j o e
theorem fi.cut {H0 H:aA}{s:bC}{n t:Nat}{cK:fl}{cX:fm}(ac:fi H0 s c H) (hb:ll c.H cK) (ht:lm c.H cX) (aW:n≤c.b4) (hm:t≤c.bj) (sC:fA n t cK=true) (kt:fB n t cX=true):fi H0 ⟨s.b.take n,s.t.take t⟩ (aQ.of n t cK cX) H where
  base:=ac.base
  aZ:=fun b T cs e=>by
    obtain⟨g1,g2⟩:=FG sC b T cs e
    obtain⟨x,cE,U,aa,ay⟩:=ac.aZ b T cs (hb.get b _ e)
    exact⟨x,cE,Aj U g1,aa,bk.cut _ _ ay g2⟩
  tok:=fun b o e=>by
    obtain⟨g1,g2⟩:=FH kt b o e
    obtain⟨x,o',U,aa,ay,bl,bW,eL,uN⟩:=ac.tok b o (ht.get b _ e)
    refine⟨x,o',Aj U g1,aa,ay,bl,bW,eL,?_⟩
    cases aq:o.lU with
    |none=>rw[aq]at uN; exact uN
    |some rows=>
     rw[aq]at uN g2
     simp only[kd]at g2
     obtain⟨l,b0,cN⟩:=uN
     exact⟨l,b0,ww g2 cN⟩
  l4:=fun b x e=>by
    rw[List.getElem?_take]at e
    split at e
    ·exact ac.l4 b x e
    ·cases e
  lG:=fun b x e=>by
    rw[List.getElem?_take]at e
    split at e
    ·exact ac.lG b x e
    ·cases e
  mR:=fun b b1 x e cI=>by
    rw[List.getElem?_take]at e cI
    split at e
    ·split at cI
     ·exact ac.mR b b1 x e cI
     ·cases cI
    ·cases e
  oa:=fun b b1 x e cI=>by
    rw[List.getElem?_take]at e cI
    split at e
    ·split at cI
     ·exact ac.oa b b1 x e cI
     ·cases cI
    ·cases e
  b4:=by simp only[aQ.of,List.length_take]; rw[←ac.b4]; omega
  bj:=by simp only[aQ.of,List.length_take]; rw[←ac.bj]; omega
theorem bC.e8.cut {eP s:bC}{n t:Nat}(h:bC.e8 eP s) (aW:eP.b.length≤n) (ht:eP.t.length≤t):bC.e8 eP ⟨s.b.take n,s.t.take t⟩ where
  b:=fun i x e=>by
   have:i<eP.b.length:=(List.getElem?_eq_some_iff.1 e).1
   rw[List.getElem?_take,if_pos (by omega)]
   exact h.b i x e
  t:=fun i x e=>by
   have:i<eP.t.length:=(List.getElem?_eq_some_iff.1 e).1
   rw[List.getElem?_take,if_pos (by omega)]
   exact h.t i x e
theorem av.cut (n t:Nat) (E:Env) (cK:fl) (cX:fm) (he:rT env E) (hb:ll c.H cK) (ht:lm c.H cX) (aW:(Nat.ble c8 n&&(Nat.ble n c.b4&&(Nat.ble t0 t&&Nat.ble t c.bj)))=true) (br:(lq n t E&&(fA n t cK&&fB n t cX))=true) (h:av P aS c8 t0 k Q E (aQ.of n t cK cX)):av P aS c8 t0 k Q env c:=fun H0 eP s bd H R U aa hs dC ac ak=>by
  simp only[Bool.and_eq_true,Nat.ble_eq]at aW br
  obtain⟨ec,a2,a3,a4⟩:=aW
  obtain⟨fz,iM,kL⟩:=br
  refine h H0 eP ⟨s.b.take n,s.t.take t⟩ bd H R U aa (hs.cut (by omega) (by omega)) (fun j=> ?_) (ac.cut hb ht a2 a4 iM kL) ak
  exact aN.cut _ _ (iA.As he.get dC j) (K4 fz j)
theorem av.Qb (E:Env) (cK:fl) (cX:fm) (he:rT env E) (hb:ll c.H cK) (ht:lm c.H cX) (h:av P aS c8 t0 k Q E (aQ.of c.b4 c.bj cK cX)):av P aS c8 t0 k Q env c:=fun H0 eP s bd H R U aa hs dC ac ak=>by
  refine h H0 eP s bd H R U aa hs (iA.As he.get dC) ⟨⟨ac.base,fun b T cs e=>ac.aZ b T cs (hb.get b _ e),fun b o e=>ac.tok b o (ht.get b _ e),ac.l4,ac.lG,ac.mR,ac.oa⟩,ac.b4,ac.bj⟩ ak
end Go.aO
namespace Go.aO
open Go
def ik (P:Program) (op:bg) (env:Env) (c:aQ) (S fQ:I→aQ→Prop):Prop:=
  ∀H0 s bd H (K Rp:I→aA→Prop),iA s env bd→fi H0 s c H→(∀b5 v bI c1 aB,bC.e8 s b5→S v c1→aN b5 v bI→fi H0 b5 c1 aB→K bI aB)→(∀b5 v bI c1 aB,bC.e8 s b5→fQ v c1→aN b5 v bI→fi H0 b5 c1 aB→Rp bI aB)→iK P op bd H K Rp
section
variable {P:Program}{aS:List bc}{c8 t0:Nat}{k:List gm}{Q:Out→aQ→Prop}{env:Env}{c c1:aQ}{v r:I}{anns:List I}{l:List bY}{K:Env→aQ→Prop}{Rp:I→aQ→Prop}{d:Option Nat}{g:Option (Nat×Bool)}{op:bg}{f:FuncId}{args:List aJ}{az cap:List I}{x:aJ}
theorem au.nil (h:K env c):au P [] [] env c K Rp:=fun H0 s bd H K' jX he ac dZ jA=>by
  exact dZ s env bd c H (bC.e8.refl s) h he ac
theorem au.qR {S:I→aQ→Prop}(hw:wanted ⟨d,g,op⟩ env=some true) (hp:ql op=false) (ad:ik P op env c S Rp) (h: ∀v c1,S v c1→au P anns l (env.put d v) c1 K Rp):au P anns (⟨d,g,op⟩::l) env c K Rp:=fun H0 s bd H K' jX he ac dZ jA=>by
  have q:bt P (⟨d,g,op⟩::fs l anns) bd H K' jX:=bt.step (Fl he hw) (ad H0 s bd H _ _ he ac (fun b5 v bI c1 aB ec a2 a3 a4=>h v c1 a2 H0 b5 _ aB K' jX ((he.mono ec).put a3 d) a4 (fun s2 e cI ci dQ fz iM kL qu=>dZ s2 e cI ci dQ (ec.trans fz) iM kL qu) (fun s2 e cI ci dQ fz iM kL qu=>jA s2 e cI ci dQ (ec.trans fz) iM kL qu)) jA)
  cases op<;>first|(simp [ql]at hp; done)|(cases anns<;>simpa only[fs] using q)
abbrev QP:yR:=fun _ _ _=>none
abbrev eU (op:bg) (env:Env) (c:aQ):Option (I×aQ):=ms [] QP op env c
theorem ik.o (h:eU op env c=some (v,c1)):ik P op env c (fun bI cV=>bI=v∧cV=c1) Rp:=fun H0 s bd H K Rp he ac dZ jA=>
  ZQ (cvs:=[]) (cl:=QP) (fun _ _ _ _ _ h=>by cases h) (fun _ h=>by simp at h) he ac h fun b5 bI aB b0 cN du=>dZ b5 v bI c1 aB b0 ⟨rfl,rfl⟩ cN du
theorem au.o (hw:wanted ⟨d,g,op⟩ env=some true) (hp:ql op=false) (hs:eU op env c=some (v,c1)) (h:au P anns l (env.put d v) c1 K Rp):au P anns (⟨d,g,op⟩::l) env c K Rp:=
  au.qR hw hp (ik.o hs) fun bI cV ⟨ar,ax⟩=>by rw[ar,ax]; exact h
theorem au.ig (hw:wanted ⟨d,g,op⟩ env=some false) (hp:ql op=false) (h:au P anns l (env.put d .undef) c K Rp):au P anns (⟨d,g,op⟩::l) env c K Rp:=fun H0 s bd H K' jX he ac dZ jA=>by
  have q:bt P (⟨d,g,op⟩::fs l anns) bd H K' jX:=bt.skip (Fl he hw) (h H0 s _ H K' jX (he.put (by simp only[aN]) d) ac dZ jA)
  cases op<;>first|(simp [ql]at hp; done)|(cases anns<;>simpa only[fs] using q)
theorem au.aV8 (hw:wanted ⟨d,g,op⟩ env=some false) (hp:ql op=true) (h:au P anns l (env.put d .undef) c K Rp):au P (r::anns) (⟨d,g,op⟩::l) env c K Rp:=fun H0 s bd H K' jX he ac dZ jA=>by
  have BH:=Fl he hw
  have q:=h H0 s (bd.put d I.undef) H K' jX (he.put (by simp only[aN]) d) ac dZ jA
  cases op<;>first|(simp [ql]at hp; done)|(simp only[fs]; exact bt.skip BH q)
theorem au.u {d:Nat}(hp:ql op=false) (hs:eU op env c=some (v,c1)) (h:au P anns l ((d,v)::env) c1 K Rp):au P anns (⟨some d,none,op⟩::l) env c K Rp:=au.o rfl hp hs h
theorem au.JY (hp:ql op=false) (hs:eU op env c=some (v,c1)) (h:au P anns l env c1 K Rp):au P anns (⟨none,none,op⟩::l) env c K Rp:=au.o rfl hp hs h
theorem Wm {g g':Option (Nat×Bool)}{H0 H:aA}{bd:Env}{Kv:Env→aA→Prop}{KB:I→aA→Prop}(h: ∀i,wanted ⟨d,g,i⟩ bd=wanted ⟨d,g',i⟩ bd) (k:bt P (fs (⟨d,g',op⟩::l) anns) bd H Kv KB):bt P (fs (⟨d,g,op⟩::l) anns) bd H Kv KB:=by
  cases op<;>cases anns<;>simp only[fs,bt]at k ⊢ <;>rw[h]<;>exact k
theorem au.G6 {j:Nat}{t b:Bool}(hb:env.get j= .bool b) (ht:b=t) (h:au P anns (⟨d,none,op⟩::l) env c K Rp):au P anns (⟨d,some (j,t),op⟩::l) env c K Rp:=fun H0 s bd H K' jX he ac dZ jA=>by
  subst ht
  refine Wm (H0:=H0) (g':=none) (fun i=> ?_) (h H0 s bd H K' jX he ac dZ jA)
  have:=he j
  rw[hb]at this
  simp only[aN]at this
  simp only[wanted,this,beq_self_eq_true]
theorem au.o4 (hw:wanted ⟨d,g,.jF f args⟩ env=some true) (U:Pure P f az r) (aL:lj (args.map (bp env))=az) (hf:b7 az=true) (ac:r.flat=true) (h:au P anns l (env.put d r) c K Rp):au P (r::anns) (⟨d,g,.jF f args⟩::l) env c K Rp:=fun H0 s bd H K' jX he a8 dZ jA=>by
  subst aL
  simp only[fs]
  exact bt.step (Fl he hw) (.ij (.dj r) (.qT (Ki _ _ (oQ he args) hf) U) fun _ _=>h H0 s _ H K' jX (he.put ((I.lX r ac r).2 rfl) d) a8 dZ jA)
theorem Cn {K Rp:I→aA→Prop}{s:bC}{H0:aA}(dZ: ∀b5 v bI c1 aB,bC.e8 s b5→Q (.ret v) c1→aN b5 v bI→fi H0 b5 c1 aB→K bI aB) (jA: ∀b5 v bI c1 aB,bC.e8 s b5→Q (.e5 v) c1→aN b5 v bI→fi H0 b5 c1 aB→Rp bI aB): ∀o' aB,(∃b5 o c1,bC.e8 s b5∧Q o c1∧oj b5 o o'∧fi H0 b5 c1 aB)→yW K Rp aB o':=by
  rintro o' aB ⟨b5,o,c1,ec,a2,a3,a4⟩
  cases o<;>cases o'<;>simp only[oj]at a3
  ·exact dZ b5 _ _ c1 aB ec a2 a3 a4
  ·exact jA b5 _ _ c1 aB ec a2 a3 a4
theorem ik.call (h:aY P f (args.map (bp env)) c Q):ik P (.call f args) env c (fun v c1=>Q (.ret v) c1) (fun v c1=>Q (.e5 v) c1):=fun H0 s bd H K Rp he ac dZ jA=>
  .call _ (eo.ua _) (h H0 s _ H (oQ he args) ac) (Cn dZ jA)
theorem ik.gT (ab:bp env x= .fn f cap) (aq:di P f=true) (h:aY P f (args.map (bp env)++cap) c Q):ik P (.gT x args) env c (fun v c1=>Q (.ret v) c1) (fun v c1=>Q (.e5 v) c1):=fun H0 s bd H K Rp he ac dZ jA=>by
  have lD:=eD he ab
  simp only[aN]at lD
  obtain⟨bl2,g1,g2⟩:=lD
  exact .gT _ g1 aq (eo.ua _) (h H0 s _ H ((oQ he args).append g2) ac) (Cn dZ jA)
theorem ik.panic {t:TypeId}(ab:bp env x= .iE t v):ik P (.panic x) env c (fun _ _=>False) (fun bI cV=>bI= .iE t v∧cV=c):=fun H0 s bd H K Rp he ac dZ jA=>by
  have lD:=eD he ab
  have BJ:=lD
  simp only[aN]at lD
  obtain⟨y,g1,g2⟩:=lD
  rw[g1]at BJ
  exact .panic g1 (jA s _ _ c H (bC.e8.refl s) ⟨rfl,rfl⟩ BJ ac)
theorem ik.mono {S KG fQ KH:I→aQ→Prop}(h:ik P op env c S fQ) (U: ∀v c1,S v c1→KG v c1) (aa: ∀v c1,fQ v c1→KH v c1):ik P op env c KG KH:=fun H0 s bd H K Rp he ac dZ jA=>
  h H0 s bd H K Rp he ac (fun b5 v bI c1 aB ec a2 a3 a4=>dZ b5 v bI c1 aB ec (U _ _ a2) a3 a4) (fun b5 v bI c1 aB ec a2 a3 a4=>jA b5 v bI c1 aB ec (aa _ _ a2) a3 a4)
theorem au.AV (hw:wanted ⟨d,g,.call f args⟩ env=some true) (aq:aY P f az c Q) (aL:args.map (bp env)=az) (h: ∀v c1,Q (.ret v) c1→au P anns l (env.put d v) c1 K Rp) (hp: ∀v c1,Q (.e5 v) c1→Rp v c1):au P anns (⟨d,g,.call f args⟩::l) env c K Rp:=by
  subst aL
  exact au.qR hw rfl ((ik.call aq).mono (fun _ _ h=>h) hp) h
theorem au.uB (hw:wanted ⟨d,g,.call f args⟩ env=some true) (aq:aY P f az c (ng v c1)) (aL:args.map (bp env)=az) (h:au P anns l (env.put d v) c1 K Rp):au P anns (⟨d,g,.call f args⟩::l) env c K Rp:=
  au.AV hw aq aL (fun bI cV ⟨ar,ax⟩=>by cases ar; rw[ax]; exact h) (fun bI cV ⟨ar,ax⟩=>by cases ar)
theorem au.ba8 (hw:wanted ⟨d,g,.gT x args⟩ env=some true) (ab:bp env x= .fn f cap) (hf:di P f=true) (aq:aY P f az c Q) (aL:args.map (bp env)++cap=az) (h: ∀v c1,Q (.ret v) c1→au P anns l (env.put d v) c1 K Rp) (hp: ∀v c1,Q (.e5 v) c1→Rp v c1):au P anns (⟨d,g,.gT x args⟩::l) env c K Rp:=by
  subst aL
  exact au.qR hw rfl ((ik.gT ab hf aq).mono (fun _ _ h=>h) hp) h
theorem au.Kd (hw:wanted ⟨d,g,.gT x args⟩ env=some true) (ab:bp env x= .fn f cap) (hf:di P f=true) (aq:aY P f az c (ng v c1)) (aL:args.map (bp env)++cap=az) (h:au P anns l (env.put d v) c1 K Rp):au P anns (⟨d,g,.gT x args⟩::l) env c K Rp:=
  au.ba8 hw ab hf aq aL (fun bI cV ⟨ar,ax⟩=>by cases ar; rw[ax]; exact h) (fun bI cV ⟨ar,ax⟩=>by cases ar)
theorem au.aI4 {t:TypeId}(hw:wanted ⟨d,g,.panic x⟩ env=some true) (ab:bp env x= .iE t v) (h:Rp (.iE t v) c):au P anns (⟨d,g,.panic x⟩::l) env c K Rp:=
  au.qR hw rfl ((ik.panic ab).mono (fun _ _ h=>h) (fun bI cV ⟨ar,ax⟩=>by rw[ar,ax]; exact h)) fun _ _ h=>h.elim
theorem aY.mono {Ky:Out→aQ→Prop}(h:aY P f az c Q) (bw: ∀o c1,Q o c1→Ky o c1):aY P f az c Ky:=fun H0 s jx H aL ac=>
  (h H0 s jx H aL ac).mono fun o aB ⟨b5,eF,c1,ec,a2,a3,a4⟩=>⟨o,aB,by cases o<;>exact bh.refl _,HSub.refl _,b5,eF,c1,ec,bw _ _ a2,a3,a4⟩
theorem aY.intro {fn:Func}{e:bm}(hm:P.follows .mixedOrders=true) (hf:P.funcs[f]? =some fn) (aq:bR P fn az.length e aS=true) (h:av P aS c.b4 c.bj [.c e] Q (mQ az) c):aY P f az c Q:=fun H0 s jx H aL ac=>by
  have aC:=bk.length aL
  exact KO hm hf (by rw[aC]; exact aq) (h H0 s s (mQ jx) H _ ac.b4.symm ac.bj.symm (bC.e8.refl s) (av3 aL) ac fun b5 o o' c1 aB b0 cN du gE=>⟨b5,o,c1,b0,cN,du,gE⟩)
theorem aY.It (h:Pure P f az r) (hf:b7 az=true) (ac:r.flat=true){eg:List I}(aL:lj eg=az):aY P f eg c (ng r c):=fun H0 s jx H aj6 a8=>by
  subst aL
  have hp:=h H
  have BC:ko P f jx H fun o aB=>o= .ret r∧aB=H:=fun m af eO be ae=>hp m af eO be ((Ki _ _ aj6 hf).Jo ae)
  exact BC.mono fun o aB ⟨ar,ax⟩=>⟨o,aB,by subst ar; exact bh.refl _,HSub.refl _,s,.ret r,c,bC.e8.refl s,⟨rfl,rfl⟩,by subst ar; exact (I.lX r ac r).2 rfl,by rw[ax]; exact a8⟩
theorem aY.pure (h:aY P f az .new Q) (hf:b7 az=true) (ac:r.flat=true) (bw: ∀o c1,Q o c1→∃v,o= .ret v∧v.aM=r):Pure P f az r:=ko.pure fun H=>
  (h H ⟨[],[]⟩ az H ((n2 az hf _).2 rfl) (fi.start H)).mono fun o aB ⟨b5,eF,c1,ec,a2,a3,a4⟩=>by
    obtain⟨v,ar,ax⟩:=bw _ _ a2
    subst ar ax
    cases o with
    |e5 w=>simp only[oj]at a3
    |ret w=>exact⟨.ret w,aB,bh.refl _,HSub.refl _,w,rfl,fun m y aV=>CV v w a3 ac y aV,a4.base⟩
end
end Go.aO
namespace Go.aO
open Go
mutual
def I.fh (p:bC):I→I
  | .ptr b o=> .ptr (p.b.getD b 0) o
  | .agg cs=> .agg (fw p cs)
  | .cT cs=> .cT (fw p cs)
  | .af n rows=> .af n rows
  | .own t n rows=> .own (p.t.getD t 0) n rows
  | .c6 t v=> .c6 (p.t.getD t 0) v
  | .mp t v k=> .mp (p.t.getD t 0) v k
  | .eK row o=> .eK row o
  | .fn f cap=> .fn f (fw p cap)
  | .iE t v=> .iE t (v.fh p)
  | .eX=> .eX
  | .bool b=> .bool b
  | .int k n=> .int k n
  | .str s=> .str s
  | .ev v=> .ev v
def fw (p:bC):List I→List I
  |[]=>[]
  |a::az=>a.fh p::fw p az
end
def bC.comp (p s:bC):bC:=⟨p.b.map fun b=>s.b.getD b 0,p.t.map fun t=>s.t.getD t 0⟩
structure bC.Sub (p s:bC):Prop where
  b: ∀(i x:Nat),p.b[i]? =some x→x<s.b.length
  t: ∀(i x:Nat),p.t[i]? =some x→x<s.t.length
theorem kx {l:List Nat}{i:Nat}(h:i<l.length):l[i]? =some (l.getD i 0):=by
  rw[List.getD_eq_getElem?_getD,List.getElem?_eq_getElem h]; rfl
theorem p4 {l:List Nat}{i x:Nat}(h:l[i]? =some x):l.getD i 0=x:=by rw[List.getD_eq_getElem?_getD,h]; rfl
theorem F8 {p s:bC}{i y:Nat}(h:p.b[i]? =some y):(p.comp s).b[i]? =some (s.b.getD y 0):=by simp [bC.comp,h]
theorem AU {p s:bC}{i y:Nat}(h:p.t[i]? =some y):(p.comp s).t[i]? =some (s.t.getD y 0):=by simp [bC.comp,h]
theorem xB {p s:bC}{i x:Nat}(h:(p.comp s).b[i]? =some x): ∃y,p.b[i]? =some y∧s.b.getD y 0=x:=by
  simp only[bC.comp,List.getElem?_map,Option.map_eq_some_iff]at h
  exact h
theorem uy {p s:bC}{i x:Nat}(h:(p.comp s).t[i]? =some x): ∃y,p.t[i]? =some y∧s.t.getD y 0=x:=by
  simp only[bC.comp,List.getElem?_map,Option.map_eq_some_iff]at h
  exact h
section
variable {p s:bC}
mutual
theorem aN.comp (hp:p.Sub s): ∀(a v:I),a.dW p.b.length p.t.length=true→aN s (a.fh p) v→aN (p.comp s) a v
  | .eX,_,_,_=>by simp only[I.fh,aN]
  | .ptr b o,_,hb,h=>by
    have hb:=om hb
    simp only[I.fh,aN]at*
    obtain⟨x,U,aa⟩:=h
    exact⟨x,by rw[F8 (kx hb),p4 U],aa⟩
  | .c6 t v,_,hb,h=>by
    have hb:=om hb
    simp only[I.fh,aN]at*
    obtain⟨x,U,aa⟩:=h
    exact⟨x,by rw[AU (kx hb),p4 U],aa⟩
  | .mp t v k,_,hb,h=>by
    have hb:=om hb
    simp only[I.fh,aN]at*
    obtain⟨x,U,aa⟩:=h
    exact⟨x,by rw[AU (kx hb),p4 U],aa⟩
  | .agg cs,_,hb,h=>by simp only[I.dW]at hb; simp only[I.fh,aN]at*; obtain⟨l,U,aa⟩:=h; exact⟨l,U,bk.comp hp cs l hb aa⟩
  | .cT cs,_,hb,h=>by simp only[I.dW]at hb; simp only[I.fh,aN]at*; obtain⟨l,U,aa⟩:=h; exact⟨l,U,bk.comp hp cs l hb aa⟩
  | .fn f cs,_,hb,h=>by simp only[I.dW]at hb; simp only[I.fh,aN]at*; obtain⟨l,U,aa⟩:=h; exact⟨l,U,bk.comp hp cs l hb aa⟩
  | .iE t a,_,hb,h=>by simp only[I.dW]at hb; simp only[I.fh,aN]at*; obtain⟨x,U,aa⟩:=h; exact⟨x,U,aN.comp hp a x hb aa⟩
  | .af n rows,_,hb,h=>by simp only[I.dW]at hb; simp only[I.fh,aN]at*; obtain⟨l,U,aa⟩:=h; exact⟨l,U,ww hb aa⟩
  | .eK row o,_,hb,h=>by simp only[I.dW]at hb; simp only[I.fh,aN]at*; obtain⟨l,U,aa⟩:=h; exact⟨l,U,GY hb aa⟩
  | .own t n rows,_,hb,h=>by
    simp only[I.dW,Bool.and_eq_true]at hb
    have nr:=om hb.1
    simp only[I.fh,aN]at*
    obtain⟨x,l,aU,U,aa⟩:=h
    exact⟨x,l,by rw[AU (kx nr),p4 aU],U,ww hb.2 aa⟩
  | .bool _,_,_,h=>by simp only[I.fh,aN]at*; exact h
  | .int _ _,_,_,h=>by simp only[I.fh,aN]at*; exact h
  | .str _,_,_,h=>by simp only[I.fh,aN]at*; exact h
  | .ev _,_,_,h=>by simp only[I.fh,aN]at*; exact h
theorem bk.comp (hp:p.Sub s): ∀(az l:List I),ed p.b.length p.t.length az=true→bk s (fw p az) l→bk (p.comp s) az l
  |[],_,_,h=>by simp only[fw,bk]at*; exact h
  |a::az,_,hb,h=>by simp only[ed,Bool.and_eq_true]at hb; simp only[fw,bk]at*; obtain⟨v,af,U,aa,ay⟩:=h; exact⟨v,af,U,aN.comp hp a v hb.1 aa,bk.comp hp az af hb.2 ay⟩
end
mutual
theorem aN.split (hp:p.Sub s): ∀(a v:I),a.dW p.b.length p.t.length=true→aN (p.comp s) a v→aN s (a.fh p) v
  | .eX,_,_,_=>by simp only[I.fh,aN]
  | .ptr b o,_,hb,h=>by
    simp only[I.fh,aN]at*
    obtain⟨x,U,aa⟩:=h
    obtain⟨y,ar,ax⟩:=xB U
    exact⟨x,by rw[p4 ar,kx (hp.b _ _ ar),ax],aa⟩
  | .c6 t v,_,hb,h=>by
    simp only[I.fh,aN]at*
    obtain⟨x,U,aa⟩:=h
    obtain⟨y,ar,ax⟩:=uy U
    exact⟨x,by rw[p4 ar,kx (hp.t _ _ ar),ax],aa⟩
  | .mp t v k,_,hb,h=>by
    simp only[I.fh,aN]at*
    obtain⟨x,U,aa⟩:=h
    obtain⟨y,ar,ax⟩:=uy U
    exact⟨x,by rw[p4 ar,kx (hp.t _ _ ar),ax],aa⟩
  | .agg cs,_,hb,h=>by simp only[I.dW]at hb; simp only[I.fh,aN]at*; obtain⟨l,U,aa⟩:=h; exact⟨l,U,bk.split hp cs l hb aa⟩
  | .cT cs,_,hb,h=>by simp only[I.dW]at hb; simp only[I.fh,aN]at*; obtain⟨l,U,aa⟩:=h; exact⟨l,U,bk.split hp cs l hb aa⟩
  | .fn f cs,_,hb,h=>by simp only[I.dW]at hb; simp only[I.fh,aN]at*; obtain⟨l,U,aa⟩:=h; exact⟨l,U,bk.split hp cs l hb aa⟩
  | .iE t a,_,hb,h=>by simp only[I.dW]at hb; simp only[I.fh,aN]at*; obtain⟨x,U,aa⟩:=h; exact⟨x,U,aN.split hp a x hb aa⟩
  | .af n rows,_,hb,h=>by simp only[I.dW]at hb; simp only[I.fh,aN]at*; obtain⟨l,U,aa⟩:=h; exact⟨l,U,ww hb aa⟩
  | .eK row o,_,hb,h=>by simp only[I.dW]at hb; simp only[I.fh,aN]at*; obtain⟨l,U,aa⟩:=h; exact⟨l,U,GY hb aa⟩
  | .own t n rows,_,hb,h=>by
    simp only[I.dW,Bool.and_eq_true]at hb
    simp only[I.fh,aN]at*
    obtain⟨x,l,aU,U,aa⟩:=h
    obtain⟨y,ar,ax⟩:=uy aU
    exact⟨x,l,by rw[p4 ar,kx (hp.t _ _ ar),ax],U,ww hb.2 aa⟩
  | .bool _,_,_,h=>by simp only[I.fh,aN]at*; exact h
  | .int _ _,_,_,h=>by simp only[I.fh,aN]at*; exact h
  | .str _,_,_,h=>by simp only[I.fh,aN]at*; exact h
  | .ev _,_,_,h=>by simp only[I.fh,aN]at*; exact h
theorem bk.split (hp:p.Sub s): ∀(az l:List I),ed p.b.length p.t.length az=true→bk (p.comp s) az l→bk s (fw p az) l
  |[],_,_,h=>by simp only[fw,bk]at*; exact h
  |a::az,_,hb,h=>by simp only[ed,Bool.and_eq_true]at hb; simp only[fw,bk]at*; obtain⟨v,af,U,aa,ay⟩:=h; exact⟨v,af,U,aN.split hp a v hb.1 aa,bk.split hp az af hb.2 ay⟩
end
end
theorem iz.any {s b5:bC}{o i:cb}(hb:kd o.lU=true) (h:iz s o i):iz b5 o i:=by
  obtain⟨U,aa,ay,bl,bW⟩:=h
  refine⟨U,aa,ay,bl,?_⟩
  cases aq:o.lU with
  |none=>rw[aq]at bW; exact bW
  |some rows=>
   rw[aq]at bW hb
   obtain⟨l,ar,ax⟩:=bW
   exact⟨l,ar,ww hb ax⟩
def J9 (p:bC) (cK:fl) (H:Nat→Option (TypeId×List I)):Nat→Option (TypeId×List I):=fun b=>bif p.b.contains b then (match (cK.find? fun q=>p.b.getD q.1 0==b) with
      |some q=>some (q.2.1,fw p q.2.2)
      |none=>none) else H b
def Ka (p:bC) (cX:fm) (H:Nat→Option cb):Nat→Option cb:=fun t=>bif p.t.contains t then (match (cX.find? fun q=>p.t.getD q.1 0==t) with
      |some q=>some q.2
      |none=>none) else H t
def aQ.li (c:aQ) (p:bC) (cK:fl) (cX:fm):aQ:=⟨⟨J9 p cK c.H.aZ,Ka p cX c.H.tok⟩,c.b4,c.bj⟩
def ox (H:Nat→Option (TypeId×List I)) (p:bC):fl→Prop
  |[]=>True
  |q::l=>H (p.b.getD q.1 0)=some (q.2.1,fw p q.2.2)∧ox H p l
def oy (H:Nat→Option cb) (p:bC):fm→Prop
  |[]=>True
  |q::l=>H (p.t.getD q.1 0)=some q.2∧oy H p l
theorem ox.get {H:Nat→Option (TypeId×List I)}{p:bC}: ∀ {l:fl},ox H p l→∀j T cs,hU l j=some (T,cs)→H (p.b.getD j 0)=some (T,fw p cs)
  |[],_,_,_,_,e=>by cases e
  |(k,x)::l,h,j,T,cs,e=>by
   simp only[ox]at h
   simp only[hU]at e
   cases aw:k==j with
   |true=>rw[aw]at e; cases e
          have:k=j:=by simpa using aw
          subst this; exact h.1
   |false=>rw[aw]at e; exact ox.get h.2 j T cs e
theorem oy.get {H:Nat→Option cb}{p:bC}: ∀ {l:fm},oy H p l→∀j o,jD l j=some o→H (p.t.getD j 0)=some o
  |[],_,_,_,e=>by cases e
  |(k,x)::l,h,j,o,e=>by
   simp only[oy]at h
   simp only[jD]at e
   cases aw:k==j with
   |true=>rw[aw]at e; cases e
          have:k=j:=by simpa using aw
          subst this; exact h.1
   |false=>rw[aw]at e; exact oy.get h.2 j o e
def nodupB:List Nat→Bool
  |[]=>true
  |a::l=> !l.contains a&&nodupB l
theorem Iq: ∀ {l:List Nat},nodupB l=true→∀(i j x:Nat),l[i]? =some x→l[j]? =some x→i=j
  |[],_,i,j,x,h,_=>by simp at h
  |a::l,h,0,0,x,_,_=>rfl
  |a::l,h,0,j+1,x,U,aa=>by
   simp only[nodupB,Bool.and_eq_true,Bool.not_eq_true']at h
   simp at U aa
   subst U
   have:=List.mem_of_getElem? aa
   simp [this]at h
  |a::l,h,i+1,0,x,U,aa=>by
   simp only[nodupB,Bool.and_eq_true,Bool.not_eq_true']at h
   simp at U aa
   subst aa
   have:=List.mem_of_getElem? U
   simp [this]at h
  |a::l,h,i+1,j+1,x,U,aa=>by
   simp only[nodupB,Bool.and_eq_true]at h
   simp at U aa
   rw[Iq h.2 i j x U aa]
def Dk (n t:Nat):Out→Bool
  | .ret a=>a.dW n t
  | .e5 a=>a.dW n t
def Out.fh (p:bC):Out→Out
  | .ret a=> .ret (a.fh p)
  | .e5 a=> .e5 (a.fh p)
theorem af3 {cK:fl}{p:bC}{b:Nat}{q:Nat×TypeId×List I}(h:cK.find? (fun q=>p.b.getD q.1 0==b)=some q):q∈cK∧p.b.getD q.1 0=b:=⟨List.mem_of_find?_eq_some h,by simpa using List.find?_some h⟩
section
variable {P:Program}{f:FuncId}{eg:List I}{c pU:aQ}{xo:Out→aQ→Prop}
theorem aY.frame (p:bC){fX:fl}{fZ:fm}{n t:Nat}{Q:Out→aQ→Prop}(h:aY P f eg (aQ.of n t fX fZ) xo) (aW:p.b.length=n) (ht:p.t.length=t)
    (br:(nodupB p.b&&nodupB p.t)=true) (wI: ∀(i x:Nat),p.b[i]? =some x→x<c.b4) (cB: ∀(i x:Nat),p.t[i]? =some x→x<c.bj) (hb:(ed n t eg&&(fA n t fX&&fB n t fZ))=true) (fa:ox c.H.aZ p fX) (dF:oy c.H.tok p fZ)
    (bw: ∀o c1,xo o c1→∃cK cX,ll c1.H cK∧lm c1.H cX∧(fA n t cK&&(fB n t cX&&Dk n t o))=true∧Q (o.fh p) (c.li p cK cX)):aY P f (fw p eg) c Q:=fun H0 s jx H aL ac=>by
  subst aW ht
  simp only[Bool.and_eq_true]at br hb
  obtain⟨Hv,Hw⟩:=br
  obtain⟨nr,gP,Hp⟩:=hb
  have hp:p.Sub s:=⟨fun i x e=>by rw[←ac.b4]; exact wI i x e,fun i x e=>by rw[←ac.bj]; exact cB i x e⟩
  have u7: ∀ {i x:Nat},p.b[i]? =some x→s.b[x]? =some (s.b.getD x 0):=fun e=>kx (hp.b _ _ e)
  have lC: ∀ {i x:Nat},p.t[i]? =some x→s.t[x]? =some (s.t.getD x 0):=fun e=>kx (hp.t _ _ e)
  let C3:aA:=⟨fun x=>if x∈(p.comp s).b then none else H.aZ x,fun x=>if x∈(p.comp s).t then none else H.tok x⟩
  have ar7:fi C3 (p.comp s) (aQ.of p.b.length p.t.length fX fZ) H:=by
    refine⟨⟨⟨fun x y e=> ?_,fun x y e=> ?_⟩,fun b T cs e=> ?_,fun b o e=> ?_,fun b x e=> ?_,fun b x e=> ?_,fun b b1 x e cI=> ?_,fun b b1 x e cI=> ?_⟩,by simp [aQ.of,bC.comp],by simp [aQ.of,bC.comp]⟩
    ·simp only[C3]at e
     split at e
     ·cases e
     ·exact e
    ·simp only[C3]at e
     split at e
     ·cases e
     ·exact e
    ·obtain⟨g1,g2⟩:=FG gP b T cs e
     have g0:=kx (om g1)
     obtain⟨x,cE,b0,cN,du⟩:=ac.aZ _ _ _ (fa.get b T cs e)
     exact⟨x,cE,by rw[F8 g0,p4 b0],cN,bk.comp hp cs cE g2 du⟩
    ·obtain⟨g1,g2⟩:=FH Hp b o e
     have g0:=kx (om g1)
     obtain⟨x,o',b0,cN,du⟩:=ac.tok _ _ (dF.get b o e)
     exact⟨x,o',by rw[AU g0,p4 b0],cN,iz.any g2 du⟩
    ·obtain⟨y,ar,ax⟩:=xB e
     have ay:=u7 ar
     rw[ax]at ay
     refine⟨?_,(ac.l4 y x ay).2⟩
     show (if x∈(p.comp s).b then none else H.aZ x)=none
     rw[if_pos (List.mem_of_getElem? e)]
    ·obtain⟨y,ar,ax⟩:=uy e
     have ay:=lC ar
     rw[ax]at ay
     refine⟨?_,(ac.lG y x ay).2⟩
     show (if x∈(p.comp s).t then none else H.tok x)=none
     rw[if_pos (List.mem_of_getElem? e)]
    ·obtain⟨y,ar,ax⟩:=xB e
     obtain⟨iX,uH,GB⟩:=xB cI
     have ay:=u7 ar
     have xT:=u7 uH
     rw[ax]at ay
     rw[GB]at xT
     have:=ac.mR _ _ _ ay xT
     subst this
     exact Iq Hv _ _ _ ar uH
    ·obtain⟨y,ar,ax⟩:=uy e
     obtain⟨iX,uH,GB⟩:=uy cI
     have ay:=lC ar
     have xT:=lC uH
     rw[ax]at ay
     rw[GB]at xT
     have:=ac.oa _ _ _ ay xT
     subst this
     exact Iq Hw _ _ _ ar uH
  refine (h C3 (p.comp s) jx H (bk.comp hp eg jx nr aL) ar7).mono fun o' aB ⟨b5,o,c1,ec,a2,a3,a4⟩=> ?_
  obtain⟨cK,cX,g1,g2,g3,g4⟩:=bw o c1 a2
  simp only[Bool.and_eq_true]at g3
  obtain⟨g3,g5,g6⟩:=g3
  have a5:=a4.cut g1 g2 (n:=p.b.length) (t:=p.t.length) (by
    rw[a4.b4]
    by_cases cA:p.b.length=0
    ·omega
    ·have ar:(p.comp s).b[p.b.length-1]? =some ((p.comp s).b.getD (p.b.length-1) 0):=kx (by simp only[bC.comp,List.length_map]; omega)
     have:=(List.getElem?_eq_some_iff.1 (ec.b _ _ ar)).1
     omega) (by
    rw[a4.bj]
    by_cases cA:p.t.length=0
    ·omega
    ·have ar:(p.comp s).t[p.t.length-1]? =some ((p.comp s).t.getD (p.t.length-1) 0):=kx (by simp only[bC.comp,List.length_map]; omega)
     have:=(List.getElem?_eq_some_iff.1 (ec.t _ _ ar)).1
     omega) g3 g5
  have es:(⟨b5.b.take p.b.length,b5.t.take p.t.length⟩:bC)=p.comp s:=by
    have b0:b5.b.take p.b.length=(p.comp s).b:=by
      apply List.ext_getElem?
      intro i
      rw[List.getElem?_take]
      split
      ·rename_i ad
       have:=kx (l:=(p.comp s).b) (i:=i) (by simp only[bC.comp,List.length_map]; exact ad)
       rw[this,ec.b _ _ this]
      ·rename_i ad
       rw[List.getElem?_eq_none (by simp only[bC.comp,List.length_map]; omega)]
    have cN:b5.t.take p.t.length=(p.comp s).t:=by
      apply List.ext_getElem?
      intro i
      rw[List.getElem?_take]
      split
      ·rename_i ad
       have:=kx (l:=(p.comp s).t) (i:=i) (by simp only[bC.comp,List.length_map]; exact ad)
       rw[this,ec.t _ _ this]
      ·rename_i ad
       rw[List.getElem?_eq_none (by simp only[bC.comp,List.length_map]; omega)]
    rw[b0,cN]
  have FA:oj (p.comp s) o o':=by
    rw[←es]
    cases o<;>cases o'<;>simp only[oj,Dk]at a3 g6 ⊢
    ·exact aN.cut _ _ a3 g6
    ·exact aN.cut _ _ a3 g6
  rw[es]at a5
  have al1:HSub H0 aB:=⟨fun x y e=>a4.base.aZ x y (by
      show (if x∈(p.comp s).b then none else H.aZ x)=some y
      rw[if_neg ?_,ac.base.aZ x y e]
      intro hm
      obtain⟨i,ad⟩:=List.getElem?_of_mem hm
      obtain⟨z,ar,ax⟩:=xB ad
      have ay:=u7 ar
      rw[ax]at ay
      rw[(ac.l4 _ _ ay).1]at e
      cases e),fun x y e=>a4.base.tok x y (by
      show (if x∈(p.comp s).t then none else H.tok x)=some y
      rw[if_neg ?_,ac.base.tok x y e]
      intro hm
      obtain⟨i,ad⟩:=List.getElem?_of_mem hm
      obtain⟨z,ar,ax⟩:=uy ad
      have ay:=lC ar
      rw[ax]at ay
      rw[(ac.lG _ _ ay).1]at e
      cases e)⟩
  have ap3: ∀ {b x:Nat},s.b[b]? =some x→(x∈(p.comp s).b↔b∈p.b):=by
    intro b x e
    constructor
    ·intro hm
     obtain⟨i,ad⟩:=List.getElem?_of_mem hm
     obtain⟨z,ar,ax⟩:=xB ad
     have ay:=u7 ar
     rw[ax]at ay
     rw[ac.mR _ _ _ e ay]
     exact List.mem_of_getElem? ar
    ·intro hm
     obtain⟨i,ad⟩:=List.getElem?_of_mem hm
     have:=F8 (s:=s) ad
     rw[p4 e]at this
     exact List.mem_of_getElem? this
  have ap7: ∀ {b x:Nat},s.t[b]? =some x→(x∈(p.comp s).t↔b∈p.t):=by
    intro b x e
    constructor
    ·intro hm
     obtain⟨i,ad⟩:=List.getElem?_of_mem hm
     obtain⟨z,ar,ax⟩:=uy ad
     have ay:=lC ar
     rw[ax]at ay
     rw[ac.oa _ _ _ e ay]
     exact List.mem_of_getElem? ar
    ·intro hm
     obtain⟨i,ad⟩:=List.getElem?_of_mem hm
     have:=AU (s:=s) ad
     rw[p4 e]at this
     exact List.mem_of_getElem? this
  refine⟨o',aB,by cases o'<;>exact bh.refl _,HSub.refl _,s,o.fh p,c.li p cK cX,bC.e8.refl s,g4,?_,⟨⟨al1,fun b T cs e=> ?_,fun b RS e=> ?_,fun b x e=> ?_,fun b x e=> ?_,ac.mR,ac.oa⟩,ac.b4,ac.bj⟩⟩
  ·cases o<;>cases o'<;>simp only[oj,Out.fh,Dk]at FA g6 ⊢
   ·exact aN.split hp _ _ g6 FA
   ·exact aN.split hp _ _ g6 FA
  ·simp only[aQ.li,J9]at e
   cases hm:p.b.contains b with
   |false=>
    rw[hm,cond_false]at e
    obtain⟨x,cE,b0,cN,du⟩:=ac.aZ b T cs e
    refine⟨x,cE,b0,a4.base.aZ x _ ?_,du⟩
    show (if x∈(p.comp s).b then none else H.aZ x)= _
    rw[if_neg ?_,cN]
    rw[ap3 b0]
    intro a8
    simp [a8]at hm
   |true=>
    rw[hm,cond_true]at e
    split at e
    ·rename_i q bw
     obtain⟨bf,bi⟩:=af3 bw
     cases e
     obtain⟨j4,vU,r7⟩:=q
     simp only at bi ⊢
     have zD:j4<p.b.length∧ed p.b.length p.t.length r7=true∧∃x cE,(p.comp s).b[j4]? =some x∧aB.aZ x=some (vU,cE)∧bk (p.comp s) r7 cE:=by
       have zy: ∀(l:fl),ll c1.H l→fA p.b.length p.t.length l=true→(j4,vU,r7)∈l→c1.H.aZ j4=some (vU,r7)∧j4<p.b.length∧ed p.b.length p.t.length r7=true:=by
         intro l
         induction l with
         |nil=>intro _ _ h; simp at h
         |cons q l bB=>
          intro U aa ay
          simp only[ll]at U
          simp only[fA,Bool.and_eq_true,Nat.blt_eq]at aa
          simp only[List.mem_cons]at ay
          rcases ay with ay|ay
          ·subst ay; exact⟨U.1,aa.1,aa.2.1⟩
          ·exact bB U.2 aa.2.2 ay
       obtain⟨cu,cL,dv⟩:=zy cK g1 g3 bf
       obtain⟨x,cE,yF,Aq,Ar⟩:=a4.aZ j4 vU r7 cu
       have J6:(p.comp s).b[j4]? =some x:=by
         have w:=kx (l:=(p.comp s).b) (i:=j4) (by simp only[bC.comp,List.length_map]; exact cL)
         have lN:=ec.b _ _ w
         rw[yF]at lN
         cases lN
         exact w
       refine⟨cL,dv,x,cE,J6,Aq,?_⟩
       have:=bk.cut (n:=p.b.length) (t:=p.t.length) _ _ Ar dv
       rw[es]at this
       exact this
     obtain⟨cL,dv,x,cE,yF,Aq,Ar⟩:=zD
     obtain⟨y,ar,ax⟩:=xB yF
     have ay:=u7 ar
     rw[ax]at ay
     rw[p4 ar]at bi
     subst bi
     exact⟨x,cE,ay,Aq,bk.split hp r7 cE dv Ar⟩
    ·cases e
  ·simp only[aQ.li,Ka]at e
   cases hm:p.t.contains b with
   |false=>
    rw[hm,cond_false]at e
    obtain⟨x,cE,b0,cN,du⟩:=ac.tok b RS e
    refine⟨x,cE,b0,a4.base.tok x _ ?_,du⟩
    show (if x∈(p.comp s).t then none else H.tok x)= _
    rw[if_neg ?_,cN]
    rw[ap7 b0]
    intro a8
    simp [a8]at hm
   |true=>
    rw[hm,cond_true]at e
    split at e
    ·rename_i q bw
     have bf:=List.mem_of_find?_eq_some bw
     have bi:p.t.getD q.1 0=b:=by simpa using List.find?_some bw
     cases e
     obtain⟨j4,wT⟩:=q
     simp only at bi ⊢
     have zy: ∀(l:fm),lm c1.H l→fB p.b.length p.t.length l=true→(j4,wT)∈l→c1.H.tok j4=some wT∧j4<p.t.length∧kd wT.lU=true:=by
       intro l
       induction l with
       |nil=>intro _ _ h; simp at h
       |cons q l bB=>
        intro U aa ay
        simp only[lm]at U
        simp only[fB,Bool.and_eq_true,Nat.blt_eq]at aa
        simp only[List.mem_cons]at ay
        rcases ay with ay|ay
        ·subst ay; exact⟨U.1,aa.1,aa.2.1⟩
        ·exact bB U.2 aa.2.2 ay
     obtain⟨cu,cL,dv⟩:=zy cX g2 g5 bf
     obtain⟨x,eF,yF,Aq,Ar⟩:=a4.tok j4 wT cu
     have J6:(p.comp s).t[j4]? =some x:=by
       have w:=kx (l:=(p.comp s).t) (i:=j4) (by simp only[bC.comp,List.length_map]; exact cL)
       have lN:=ec.t _ _ w
       rw[yF]at lN
       cases lN
       exact w
     obtain⟨y,ar,ax⟩:=uy J6
     have ay:=lC ar
     rw[ax]at ay
     rw[p4 ar]at bi
     subst bi
     exact⟨x,eF,ay,Aq,iz.any dv Ar⟩
    ·cases e
  ·obtain⟨b0,y,cN⟩:=ac.l4 b x e
   refine⟨b0,?_⟩
   by_cases hm:x∈(p.comp s).b
   ·obtain⟨i,ad⟩:=List.getElem?_of_mem hm
    exact (a4.l4 i x (ec.b _ _ ad)).2
   ·exact⟨y,a4.base.aZ x y (by show (if x∈(p.comp s).b then none else H.aZ x)=some y; rw[if_neg hm]; exact cN)⟩
  ·obtain⟨b0,y,cN⟩:=ac.lG b x e
   refine⟨b0,?_⟩
   by_cases hm:x∈(p.comp s).t
   ·obtain⟨i,ad⟩:=List.getElem?_of_mem hm
    exact (a4.lG i x (ec.t _ _ ad)).2
   ·exact⟨y,a4.base.tok x y (by show (if x∈(p.comp s).t then none else H.tok x)=some y; rw[if_neg hm]; exact cN)⟩
def dR (v:I) (cK:fl) (cX:fm):Out→aQ→Prop:=fun o c=>o= .ret v∧ll c.H cK∧lm c.H cX
theorem aY.p2 (p:bC){fX kM:fl}{fZ kW:fm}{n t:Nat}{v:I}(h:aY P f eg (aQ.of n t fX fZ) (dR v kM kW)) (aW:p.b.length=n) (ht:p.t.length=t)
    (br:(nodupB p.b&&nodupB p.t&&p.b.all (fun x=>Nat.blt x c.b4)&&p.t.all (fun x=>Nat.blt x c.bj))=true) (fa:ox c.H.aZ p fX) (dF:oy c.H.tok p fZ) (hb:(ed n t eg&&(fA n t fX&&fB n t fZ))=true)
    (U:(fA n t kM&&(fB n t kW&&v.dW n t))=true){az:List I}(aL:az=fw p eg):aY P f az c (ng (v.fh p) (c.li p kM kW)):=by
  simp only[Bool.and_eq_true,List.all_eq_true]at br
  obtain⟨⟨⟨d1,d2⟩,d3⟩,d4⟩:=br
  subst aL
  refine aY.frame p h aW ht (by rw[d1,d2]; rfl) (fun i x e=>om (d3 x (List.mem_of_getElem? e))) (fun i x e=>om (d4 x (List.mem_of_getElem? e))) hb fa dF ?_
  rintro o c1 ⟨rfl,aa,ay⟩
  exact⟨kM,kW,aa,ay,U,rfl,rfl⟩
end
end Go.aO
namespace Go.aO
open Go
section
variable {P:Program}{aS:List bc}{c8 t0:Nat}{k:List gm}{Q:Out→aQ→Prop}{env:Env}{c c1:aQ}{v r:I}{anns:List I}{l:List bY}{K:Env→aQ→Prop}{Rp:I→aQ→Prop}{d:Option Nat}{g:Option (Nat×Bool)}{x y i:aJ}{fg:IntKind}{size:Nat}{rows new:List (List I)}{row:List I}{a b:List UInt8}{z uk:Int}
theorem Zy {z:Int}{len:Nat}(aU:0≤z) (U:z<len):tw z len=some z.toNat:=by
  match z,aU,U with
  | .ofNat n,_,U=>
    have:Nat.blt n len=true:=Nat.blt_eq.symm▸Int.ofNat_lt.1 U
    simp only[tw,this,cond_true]
    rfl
theorem EG {z:Int}(aU:0≤z): ∃n:Nat,z= .ofNat n∧z.toNat=n:=⟨z.toNat,(Int.toNat_of_nonneg aU).symm,rfl⟩
theorem au.j0 (hw:wanted ⟨d,g,.bin .add x y⟩ env=some true) (ab:bp env x= .str a) (aV:bp env y= .str b) (hb:a.length+b.length≤maxLen) (h:au P anns l (env.put d (.str (a++b))) c K Rp):au P anns (⟨d,g,.bin .add x y⟩::l) env c K Rp:=
  au.o hw rfl (by simp only[eU,ms,fN,ab,aV,y9,Nat.ble_eq_true_of_le hb,cond_true]<;>rfl) h
theorem au.aw3 (hw:wanted ⟨d,g,.gy size x i⟩ env=some true) (ab:bp env x= .af size rows) (ad:bp env i= .int fg z) (aU:0≤z) (ac:rows[z.toNat]? =some row) (h:au P anns l (env.put d (.eK row 0)) c K Rp):au P anns (⟨d,g,.gy size x i⟩::l) env c K Rp:=by
  obtain⟨n,ar,ax⟩:=EG aU
  rw[ax]at ac
  subst ar
  exact au.o hw rfl (by simp only[eU,ms,fN,ab,ad,beq_self_eq_true,cond_true,ac]<;>rfl) h
theorem au.av9 {t:Nat}(hw:wanted ⟨d,g,.gy size x i⟩ env=some true) (ab:bp env x= .own t size rows) (ad:bp env i= .int fg z) (aU:0≤z) (ac:rows[z.toNat]? =some row) (h:au P anns l (env.put d (.eK row 0)) c K Rp):au P anns (⟨d,g,.gy size x i⟩::l) env c K Rp:=by
  obtain⟨n,ar,ax⟩:=EG aU
  rw[ax]at ac
  subst ar
  exact au.o hw rfl (by simp only[eU,ms,fN,ab,ad,beq_self_eq_true,cond_true,ac]<;>rfl) h
theorem au.aw1 {u:UInt8}(hw:wanted ⟨d,g,.ic x i⟩ env=some true) (ab:bp env x= .str a) (ad:bp env i= .int fg z) (aU:0≤z) (ac:a[z.toNat]? =some u) (h:au P anns l (env.put d (.int .u8 u.toNat)) c K Rp):au P anns (⟨d,g,.ic x i⟩::l) env c K Rp:=by
  obtain⟨n,ar,ax⟩:=EG aU
  rw[ax]at ac
  subst ar
  exact au.o hw rfl (by simp only[eU,ms,fN,ab,ad,ac]<;>rfl) h
theorem au.U5 {cJ ad:Option aJ}{p q:Nat}(hw:wanted ⟨d,g,.ii size x cJ ad none⟩ env=some true) (ab:oJ size (bp env x)=some rows) (aC:pk env 0 cJ=some p) (a8:pk env rows.length ad=some q) (U:p≤q) (aa:q≤rows.length) (h:au P anns l (env.put d (.af size ((rows.take q).drop p))) c K Rp):au P anns (⟨d,g,.ii size x cJ ad none⟩::l) env c K Rp:=
  au.o hw rfl (by simp only[eU,ms,fN,ab,aC,a8,Nat.ble_eq_true_of_le U,Nat.ble_eq_true_of_le aa,Bool.and_true,cond_true]<;>rfl) h
theorem aF6 {env:Env}{Gk:Nat}{x:aJ}{z:Int}(ab:bp env x= .int fg z) (aU:0≤z):pk env Gk (some x)=some z.toNat:=by
  obtain⟨n,ar,ax⟩:=EG aU
  subst ar
  simp only[pk,ab]
  rfl
theorem au.hQ {T bytes t:Nat}(hw:wanted ⟨d,g,.append T size bytes x y⟩ env=some true) (ab:bp env x= .own t size rows) (ht:c.H.tok t=some (.bX T size rows.length)) (aV:rowsOf size (bp env y)=some new) (hb:(rows.length+new.length)*bytes≤140737488355328) (hm:rows.length+new.length≤maxLen) (h:au P anns l (env.put d (.own t size (rows++new))) (c.cj t (.bX T size (rows.length+new.length))) K Rp):au P anns (⟨d,g,.append T size bytes x y⟩::l) env c K Rp:=
  au.o hw rfl (by simp only[eU,ms,aV,ab,F0,ht,cb.bX,beq_self_eq_true,Nat.ble_eq_true_of_le hb,Nat.ble_eq_true_of_le hm,Bool.and_true,cond_true]<;>rfl) h
theorem Ou {env:Env}{j:Nat}{v:I}(h:env.get j=v): ∀i,Env.get ((j,v)::env) i=env.get i:=fun i=>by
  simp only[Env.get]
  cases ad:j==i with
  |true=>have:j=i:=by simpa using ad
         subst this; exact h.symm
  |false=>rfl
theorem au.gs {j:Nat}{t:Bool}{op:bg}{b:Bool}(hb:env.get j= .bool b) (U:b=true→au P anns (⟨d,some (j,t),op⟩::l) ((j,.bool true)::env) c K Rp) (aa:b=false→au P anns (⟨d,some (j,t),op⟩::l) ((j,.bool false)::env) c K Rp):au P anns (⟨d,some (j,t),op⟩::l) env c K Rp:=fun H0 s bd H K' jX he ac dZ jA=>by
  cases b with
  |true=>exact U rfl H0 s bd H K' jX (fun i=>by rw[Ou hb i]; exact he i) ac dZ jA
  |false=>exact aa rfl H0 s bd H K' jX (fun i=>by rw[Ou hb i]; exact he i) ac dZ jA
theorem av.dN {ops:List bY}{draw:Bool}(h:au P [] ops env c (fun e c1=>av P aS c8 t0 k Q e c1) (fun v c1=>Q (.e5 v) c1)):av P aS c8 t0 (.c (.region ops draw)::k) Q env c:=av.iU h
theorem au.av8 {p d:Nat}(ac:rows[p]? =some row) (ab:bp env x= .af size rows) (ad:bp env i= .int fg z) (e:z=p) (h:au P anns l ((d,.eK row 0)::env) c K Rp):au P anns (⟨some d,none,.gy size x i⟩::l) env c K Rp:=au.aw3 rfl ab ad (by omega) (by rw[e,Int.toNat_natCast]; exact ac) h
theorem au.aw0 {p d t:Nat}(ac:rows[p]? =some row) (ab:bp env x= .own t size rows) (ad:bp env i= .int fg z) (e:z=p) (h:au P anns l ((d,.eK row 0)::env) c K Rp):au P anns (⟨some d,none,.gy size x i⟩::l) env c K Rp:=au.av9 rfl ab ad (by omega) (by rw[e,Int.toNat_natCast]; exact ac) h
theorem au.aw2 {p d:Nat}{u:UInt8}(ac:a[p]? =some u) (ab:bp env x= .str a) (ad:bp env i= .int fg z) (e:z=p) (h:au P anns l ((d,.int .u8 u.toNat)::env) c K Rp):au P anns (⟨some d,none,.ic x i⟩::l) env c K Rp:=au.aw1 rfl ab ad (by omega) (by rw[e,Int.toNat_natCast]; exact ac) h
theorem IC {env:Env}{Gk:Nat}{x:aJ}{z:Int}{p:Nat}(ab:bp env x= .int fg z) (e:z=p):pk env Gk (some x)=some p:=by subst e; rw[aF6 ab (by omega),Int.toNat_natCast]
theorem au.aW5 {cJ ad:aJ}(p q:Nat){d:Nat}{H4:IntKind}(ab:oJ size (bp env x)=some rows) (aC:bp env cJ= .int fg z) (a8:bp env ad= .int H4 uk) (ar:z=p) (ax:uk=q) (U:p≤q) (aa:q≤rows.length) (h:au P anns l ((d,.af size ((rows.take q).drop p))::env) c K Rp):au P anns (⟨some d,none,.ii size x (some cJ) (some ad) none⟩::l) env c K Rp:=au.U5 rfl ab (IC aC ar) (IC a8 ax) U aa h
theorem au.Ah {ad:aJ}(q:Nat){d:Nat}(ab:oJ size (bp env x)=some rows) (aC:bp env ad= .int fg z) (ar:z=q) (U:q≤rows.length) (h:au P anns l ((d,.af size (rows.take q))::env) c K Rp):au P anns (⟨some d,none,.ii size x none (some ad) none⟩::l) env c K Rp:=au.U5 rfl ab rfl (IC aC ar) (Nat.zero_le _) U h
theorem au.Za {d:Nat}(ab:bp env x= .str a) (aV:bp env y= .str b) (hb:a.length+b.length≤maxLen) (h:au P anns l ((d,.str (a++b))::env) c K Rp):au P anns (⟨some d,none,.bin .add x y⟩::l) env c K Rp:=au.j0 rfl ab aV hb h
theorem au.KV {T bytes t d:Nat}(ab:bp env x= .own t size rows) (ht:c.H.tok t=some (.bX T size rows.length)) (aV:rowsOf size (bp env y)=some new) (hb:(rows.length+new.length)*bytes≤140737488355328) (hm:rows.length+new.length≤maxLen) (h:au P anns l ((d,.own t size (rows++new))::env) (c.cj t (.bX T size (rows.length+new.length))) K Rp):au P anns (⟨some d,none,.append T size bytes x y⟩::l) env c K Rp:=au.hQ rfl ab ht aV hb hm h
theorem Qs {α β:Type}(f:α→β){l:List α}{i:Nat}{v:α}(h:l[i]? =some v):(l.map f)[i]? =some (f v):=by simp [h]
theorem au.gz {α:Type}{f:α→List I}{w:α}{m:List α}{p d:Nat}(ab:bp env x= .af size (m.map f)) (ad:bp env i= .int fg z) (ac:m[p]? =some w) (e:z=p) (h:au P anns l ((d,.eK (f w) 0)::env) c K Rp):au P anns (⟨some d,none,.gy size x i⟩::l) env c K Rp:=au.av8 (Qs f ac) ab ad e h
theorem au.gA {α:Type}{f:α→List I}{w:α}{m:List α}{p d t:Nat}(ab:bp env x= .own t size (m.map f)) (ad:bp env i= .int fg z) (ac:m[p]? =some w) (e:z=p) (h:au P anns l ((d,.eK (f w) 0)::env) c K Rp):au P anns (⟨some d,none,.gy size x i⟩::l) env c K Rp:=au.aw0 (Qs f ac) ab ad e h
theorem au.gB {u:UInt8}{p d:Nat}(ab:bp env x= .str a) (ad:bp env i= .int fg z) (ac:a[p]? =some u) (e:z=p) (h:au P anns l ((d,.int .u8 u.toNat)::env) c K Rp):au P anns (⟨some d,none,.ic x i⟩::l) env c K Rp:=au.aw2 ac ab ad e h
theorem av.uM (j size T:Nat) (bx:env.get j= .aD) (aU:size≠0) (h:av P aS c8 t0 k Q ((j,.own c.bj size [])::env) (c.hz (.bX T size 0))):av P aS c8 t0 k Q env c:=fun H0 eP s bd H R aW ht hs he ac ak=>by
  refine cF.conv (fun cI aB=> ∃t,H.tok t=none∧cI=(j,.own t size [])::bd∧aB=H.cj t (.bX T size 0)) ?_ ?_
  ·intro m eO be
   subst eO
   obtain⟨cu,ar,v1⟩:=Ij be (T:=T) aU
   refine⟨_,_,_,_,⟨m.T,s3 be,rfl,rfl⟩,cu,ar,fun i w hw=> ?_⟩
   simp only[Env.get]
   cases ad:j==i with
   |true=>
    have:j=i:=by simpa using ad
    subst this
    have a7:=he j
    rw[bx]at a7
    simp only[aN]at a7
    rw[a7]at hw
    simp only[aP]at hw
    subst hw
    exact v1
   |false=>exact aP.aI ar _ _ hw
  ·rintro cI aB ⟨t,U,rfl,rfl⟩
   refine h H0 eP ⟨s.b,s.t++[t]⟩ _ _ R aW ht (hs.trans (bC.lF s t)) ?_ (ac.hz iz.bX U) ak
   refine (he.mono (bC.lF s t)).put (d:=some j) ?_
   simp only[aN]
   exact⟨t,[],by rw[ac.bj]; exact pf,rfl,by simp only[cq]⟩
theorem av.ou (p o size nh:Nat){T:TypeId}{cs:List I}(hb:c.H.aZ p=some (T,cs)) (ao:cs[o]? =some .aD) (aU:size≠0) (h:av P aS c8 t0 k Q env ((c.hz (.bX nh size 0)).cp p T (cs.set o (.own c.bj size [])))):av P aS c8 t0 k Q env c:=fun H0 eP s bd H R aW ht hs he ac ak=>by
  obtain⟨x,cE,b0,cN,du⟩:=ac.aZ p T cs hb
  have mC:cE[o]? =some .aD:=by
    obtain⟨v,ar,ax⟩:=du.get o _ ao
    simp only[aN]at ax
    rw[ar,ax]
  refine cF.conv (fun cI aB=> ∃t,H.tok t=none∧cI=bd∧aB=(H.cj t (.bX nh size 0)).cp x T (cE.set o (.own t size []))) ?_ ?_
  ·intro m eO be
   subst eO
   obtain⟨cu,ar,v1⟩:=Ij be (T:=nh) aU
   obtain⟨l,qf,jC,uV⟩:=cu.aZ x T cE cN
   obtain⟨v,sw,oX⟩:=jC.get o _ mC
   simp only[aP]at oX
   subst oX
   have qg:=jC.set o v1
   rw[zO sw]at qg
   have cL:=b9.ju cu (w':=m.w) (b:=x) (T:=T) cN rfl rfl rfl rfl (fun _ _=>rfl) qf qg uV
   have ax:=b8.ju cu (w':=m.w) (b:=x) (T:=T) (cs:=cE.set o (.own m.T size [])) cN rfl rfl rfl rfl (fun _ _=>rfl)
   exact⟨bd,_,_,_,⟨m.T,s3 be,rfl,rfl⟩,cL,ar.trans ax,fun j v ae=>aP.aI (ar.trans ax) _ _ ae⟩
  ·rintro cI aB ⟨t,U,rfl,rfl⟩
   have bW:=ac.hz (s:=s) (x:=t) (iz.bX (s:=s) (T:=nh) (size:=size) (n:=0)) U
   refine h H0 eP ⟨s.b,s.t++[t]⟩ _ _ R aW ht (hs.trans (bC.lF s t)) (he.mono (bC.lF s t)) (bW.cp b0 ?_) ak
   have: ∀ {az l:List I}(_:bk s az l) (n:Nat){a v:I},aN ⟨s.b,s.t++[t]⟩ a v→bk ⟨s.b,s.t++[t]⟩ (az.set n a) (l.set n v):=by
     intro az
     induction az with
     |nil=>intro l h n a v _; simp only[bk]at h; subst h; simp [bk]
     |cons a az bB=>
      intro l h n b v ae
      simp only[bk]at h
      obtain⟨w,ws,rfl,U,aa⟩:=h
      cases n with
      |zero=>simp only[List.set_cons_zero,bk]; exact⟨_,_,rfl,ae,bk.mono (bC.lF s t) _ _ aa⟩
      |succ n=>simp only[List.set_cons_succ,bk]; exact⟨_,_,rfl,aN.mono (bC.lF s t) _ _ U,bB aa n ae⟩
   refine this du o ?_
   simp only[aN]
   exact⟨t,[],by rw[ac.bj]; exact pf,rfl,by simp only[cq]⟩
def AA {X:Type}(E:X→Env) (C:X→aQ) (fK:X→Prop) (bA:X→Nat):Nat→Env→aQ→Prop:=fun m env c=> ∃x,fK x∧env=E x∧c=C x∧bA x=m
theorem av.c5 {X:Type}{body:bm}(oK:X) (E:X→Env) (B:X→fl) (T:X→fm) (fK:X→Prop) (bA:X→Nat) (aU:fK oK) (he:rT env (E oK)) (hb:ll c.H (B oK)) (ht:lm c.H (T oK)) (h: ∀x,fK x→av P aS c8 t0 (.c body:: .oF (AA E (fun x=>aQ.of c.b4 c.bj (B x) (T x)) fK bA) (bA x)::k) Q (E x) (aQ.of c.b4 c.bj (B x) (T x))):av P aS c8 t0 (.c (.loop body)::k) Q env c:=
  av.Qb (E oK) (B oK) (T oK) he hb ht (av.loop (AA E (fun x=>aQ.of c.b4 c.bj (B x) (T x)) fK bA) (bA oK) ⟨oK,aU,rfl,rfl,rfl⟩ fun m e cV ⟨x,U,aa,ay,bl⟩=>by subst aa ay bl; exact h x U)
theorem av.dO {X:Type}{E:X→Env}{b4 bj:Nat}{B:X→fl}{T:X→fm}{fK:X→Prop}{bA:X→Nat}{m0:Nat}(x:X) (aU:fK x) (he:rT env (E x)) (hb:ll c.H (B x)) (ht:lm c.H (T x)) (aW:c.b4=b4) (hm:c.bj=bj) (U:bA x<m0):av P aS c8 t0 (.oF (AA E (fun x=>aQ.of b4 bj (B x) (T x)) fK bA) m0::k) Q env c:=
  av.Qb (E x) (B x) (T x) he hb ht (av.round (bA x) ⟨x,aU,rfl,by rw[aW,hm],rfl⟩ U)
theorem av.oG {X:Type}{E:X→Env}{b4 bj:Nat}{B:X→fl}{T:X→fm}{fK:X→Prop}{bA:X→Nat}{m0:Nat}(x:X) (aU:fK x) (he:rT env (E x)) (hb:ll c.H (B x)) (ht:lm c.H (T x)) (aW:(Nat.ble c8 b4&&(Nat.ble b4 c.b4&&(Nat.ble t0 bj&&Nat.ble bj c.bj)))=true) (br:(lq b4 bj (E x)&&(fA b4 bj (B x)&&fB b4 bj (T x)))=true) (U:bA x<m0):av P aS c8 t0 (.oF (AA E (fun x=>aQ.of b4 bj (B x) (T x)) fK bA) m0::k) Q env c:=
  av.cut b4 bj (E x) (B x) (T x) he hb ht aW br (av.round (bA x) ⟨x,aU,rfl,rfl,rfl⟩ U)
end
section
variable {P:Program}{aS:List bc}{c8 t0:Nat}{k:List gm}{Q:Out→aQ→Prop}{env:Env}{c:aQ}
end
theorem lW {α:Type}{f:α→List I}(h: ∀x,b7 (f x)=true): ∀(l:List α),eN (l.map f)=true
  |[]=>rfl
  |a::l=>by simp only[List.map_cons,eN,h,lW h l,Bool.and_self]
mutual
theorem VS: ∀(a:I),a.flat=true→a.aM=a
  | .agg cs,h=>by simp only[I.flat]at h; simp only[I.aM,Kg cs h]
  | .cT cs,h=>by simp only[I.flat]at h; simp only[I.aM,Kg cs h]
  | .own _ _ _,h=>by simp [I.flat]at h
  | .eX,_=>rfl
  | .bool _,_=>rfl
  | .int _ _,_=>rfl
  | .str _,_=>rfl
  | .ev _,_=>rfl
  | .ptr _ _,_=>rfl
  | .af _ _,_=>rfl
  | .c6 _ _,_=>rfl
  | .mp _ _ _,_=>rfl
  | .eK _ _,_=>rfl
  | .fn _ _,_=>rfl
  | .iE _ _,_=>rfl
theorem Kg: ∀(l:List I),b7 l=true→lj l=l
  |[],_=>rfl
  |a::l,h=>by simp only[b7,Bool.and_eq_true]at h; simp only[lj,VS a h.1,Kg l h.2]
end
mutual
inductive tl:I→I→Prop
  |aM {v r:I}(h:v.aM=r) (hf:r.flat=true):tl v r
  |nil {n:Nat}:tl .aD (.af n [])
  |agg {az bQ:List I}(h:tp az bQ):tl (.agg az) (.agg bQ)
  |cT {az bQ:List I}(h:tp az bQ):tl (.cT az) (.cT bQ)
inductive tp:List I→List I→Prop
  |nil:tp [] []
  |cons {a b:I}{az bQ:List I}(h:tl a b) (t:tp az bQ):tp (a::az) (b::bQ)
end
mutual
theorem tl.le: ∀ {v r:I},tl v r→∀(s:bC) (bI:I),aN s v bI→bh bI r
  | _,_,.aM h hf,s,bI,ae=>by subst h; exact fun m y aV=>CV _ bI ae hf y aV
  | _,_,.nil,s,bI,ae=>by simp only[aN]at ae; subst ae; exact bh.nil
  | _,_,.agg h,s,bI,ae=>by simp only[aN]at ae; obtain⟨l,e,aC⟩:=ae; subst e; exact qt (tp.le h s l aC)
  | _,_,.cT h,s,bI,ae=>by simp only[aN]at ae; obtain⟨l,e,aC⟩:=ae; subst e; exact Wu (tp.le h s l aC)
theorem tp.le: ∀ {az bQ:List I},tp az bQ→∀(s:bC) (l:List I),bk s az l→eo l bQ
  | _,_,.nil,s,l,h=>by simp only[bk]at h; subst h; exact gG
  | _,_,.cons h t,s,l,aC=>by simp only[bk]at aC; obtain⟨v,af,e,U,aa⟩:=aC; subst e; exact bu (tl.le h s v U) (tp.le t s af aa)
end
def AE (r:I) (cK:fl) (cX:fm):Out→aQ→Prop:=fun o c=> ∃v,o= .ret v∧tl v r∧ll c.H cK∧lm c.H cX
theorem aY.rw {P:Program}{f:FuncId}{az:List I}{c:aQ}{r:I}{cK:fl}{cX:fm}(h:aY P f az c (AE r cK cX)) (ac:r.flat=true):aY P f az c (dR r cK cX):=fun H0 s jx H aL a8=>
  (h H0 s jx H aL a8).mono fun o aB ⟨b5,eF,c1,ec,⟨v,ar,ax,bU,dl⟩,a3,a4⟩=>by
    subst ar
    cases o with
    |e5 w=>simp only[oj]at a3
    |ret w=>exact⟨.ret r,aB,tl.le ax b5 w a3,HSub.refl _,b5,.ret r,c1,ec,⟨rfl,bU,dl⟩,(I.lX _ ac _).2 rfl,a4⟩
theorem aY.av4 {P:Program}{f:FuncId}{az:List I}{c:aQ}{aS:List bc}{r:I}{cK:fl}{cX:fm}{fn:Func}{e:bm}(hm:P.follows .mixedOrders=true) (hf:P.funcs[f]? =some fn) (aq:bR P fn az.length e aS=true) (ac:r.flat=true) (h:av P aS c.b4 c.bj [.c e] (AE r cK cX) (mQ az) c):aY P f az c (dR r cK cX):=(aY.intro hm hf aq h).rw ac
theorem cM {P:Program}{f:FuncId}{az:List I}{aS:List bc}{r:I}{fn:Func}{e:bm}(hm:P.follows .mixedOrders=true) (hf:P.funcs[f]? =some fn) (aq:bR P fn az.length e aS=true) (aL:b7 az=true) (ac:r.flat=true) (h:av P aS 0 0 [.c e] (AE r [] []) (mQ az) .new):Pure P f az r:=
  aY.pure (aY.av4 hm hf aq ac h) aL ac fun o c1 ⟨e,_,_⟩=>⟨r,e,VS r ac⟩
end Go.aO
namespace Go.aO
open Go
def o5 (b:Nat):fl→fl
  |[]=>[]
  |(k,x)::l=>bif k==b then o5 b l else (k,x)::o5 b l
def sQ (b:Nat):fm→fm
  |[]=>[]
  |(k,x)::l=>bif k==b then sQ b l else (k,x)::sQ b l
theorem B8 {b j:Nat}(h:(b==j)=false): ∀(l:fl),hU (o5 b l) j=hU l j
  |[]=>rfl
  |(k,x)::l=>by
   simp only[o5,hU]
   cases aw:k==b with
   |true=>
    have e:k=b:=by simpa using aw
    subst e
    rw[cond_true,h,cond_false,B8 h l]
   |false=>simp only[cond_false,hU,B8 h l]
theorem B9 {b j:Nat}(h:(b==j)=false): ∀(l:fm),jD (sQ b l) j=jD l j
  |[]=>rfl
  |(k,x)::l=>by
   simp only[sQ,jD]
   cases aw:k==b with
   |true=>
    have e:k=b:=by simpa using aw
    subst e
    rw[cond_true,h,cond_false,B9 h l]
   |false=>simp only[cond_false,jD,B9 h l]
def qW:List Nat→fl→fl
  |[],l=>l
  |b::bQ,l=>o5 b (qW bQ l)
def rN:List Nat→fm→fm
  |[],l=>l
  |b::bQ,l=>sQ b (rN bQ l)
def rL (p:bC):fl→fl
  |[]=>[]
  |q::l=>(p.b.getD q.1 0,q.2.1,fw p q.2.2)::rL p l
def rM (p:bC):fm→fm
  |[]=>[]
  |q::l=>(p.t.getD q.1 0,q.2)::rM p l
def qq:fl→fl→fl
  |[],m=>m
  |q::l,m=>q::qq l m
def qs:fm→fm→fm
  |[],m=>m
  |q::l,m=>q::qs l m
theorem Ji {j:Nat}: ∀(bQ:List Nat),bQ.contains j=true→∀l,hU (qW bQ l) j=none
  |[],h,_=>by simp at h
  |b::bQ,h,l=>by
   have key: ∀(l:fl),hU (o5 j l) j=none:=by
     intro l
     induction l with
     |nil=>rfl
     |cons q l bB=>
      obtain⟨k,x⟩:=q
      simp only[o5]
      cases aw:k==j with
      |true=>rw[cond_true]; exact bB
      |false=>simp only[cond_false,hU,aw]; exact bB
   simp only[qW]
   by_cases e:b=j
   ·subst e; exact key _
   ·have cI:(b==j)=false:=by simpa using e
    rw[B8 cI]
    refine Ji bQ ?_ l
    simp only[List.contains_cons,Bool.or_eq_true,beq_iff_eq]at h
    exact h.resolve_left fun h=>e h.symm
theorem UJ {j:Nat}: ∀(bQ:List Nat),bQ.contains j=true→∀l,jD (rN bQ l) j=none
  |[],h,_=>by simp at h
  |b::bQ,h,l=>by
   have key: ∀(l:fm),jD (sQ j l) j=none:=by
     intro l
     induction l with
     |nil=>rfl
     |cons q l bB=>
      obtain⟨k,x⟩:=q
      simp only[sQ]
      cases aw:k==j with
      |true=>rw[cond_true]; exact bB
      |false=>simp only[cond_false,jD,aw]; exact bB
   simp only[rN]
   by_cases e:b=j
   ·subst e; exact key _
   ·have cI:(b==j)=false:=by simpa using e
    rw[B9 cI]
    refine UJ bQ ?_ l
    simp only[List.contains_cons,Bool.or_eq_true,beq_iff_eq]at h
    exact h.resolve_left fun h=>e h.symm
theorem UI {j:Nat}: ∀(bQ:List Nat),bQ.contains j=false→∀l,hU (qW bQ l) j=hU l j
  |[],_,_=>rfl
  |b::bQ,h,l=>by
   simp only[List.contains_cons,Bool.or_eq_false_iff,beq_eq_false_iff_ne]at h
   simp only[qW]
   rw[B8 (by simpa using fun e=>h.1 (Eq.symm e)),UI bQ h.2]
theorem UK {j:Nat}: ∀(bQ:List Nat),bQ.contains j=false→∀l,jD (rN bQ l) j=jD l j
  |[],_,_=>rfl
  |b::bQ,h,l=>by
   simp only[List.contains_cons,Bool.or_eq_false_iff,beq_eq_false_iff_ne]at h
   simp only[rN]
   rw[B9 (by simpa using fun e=>h.1 (Eq.symm e)),UK bQ h.2]
section
variable {n t b:Nat}{cK kM:fl}{cX kW:fm}{T:TypeId}{cs:List I}{o:cb}
theorem AW {a c:aQ}(U: ∀j,a.H.aZ j=c.H.aZ j) (aa: ∀j,a.H.tok j=c.H.tok j) (ay:a.b4=c.b4) (bl:a.bj=c.bj):a=c:=by
  obtain⟨⟨ec,a2⟩,a3,a4⟩:=a
  obtain⟨⟨c1,ci⟩,fc,ha⟩:=c
  simp only at U aa ay bl
  have ar:ec=c1:=funext U
  have ax:a2=ci:=funext aa
  subst ar ax ay bl
  rfl
theorem Iu:(aQ.of n t cK cX).cp b T cs=aQ.of n t ((b,T,cs)::o5 b cK) cX:=AW (fun j=>by
  simp only[aQ.cp,aQ.of,aA.cp,hU]
  cases bx:b==j with
  |true=>have e:b=j:=by simpa using bx
         subst e; simp
  |false=>have e: ¬j=b:=fun e=>by subst e; simp at bx
          rw[if_neg e,cond_false,B8 bx]) (fun j=>rfl) rfl rfl
theorem RB:(aQ.of n t cK cX).q9 T cs=aQ.of (n+1) t ((n,T,cs)::cK) cX:=AW (fun j=>by
  simp only[aQ.q9,aQ.of,aA.cp,hU]
  cases bx:n==j with
  |true=>have e:n=j:=by simpa using bx
         subst e; simp
  |false=>have e: ¬j=n:=fun e=>by subst e; simp at bx
          exact if_neg e) (fun j=>rfl) rfl rfl
theorem RF:(aQ.of n t cK cX).cj b o=aQ.of n t cK ((b,o)::sQ b cX):=AW (fun j=>rfl) (fun j=>by
  simp only[aQ.cj,aQ.of,aA.cj,jD]
  cases bx:b==j with
  |true=>have e:b=j:=by simpa using bx
         subst e; simp
  |false=>have e: ¬j=b:=fun e=>by subst e; simp at bx
          rw[if_neg e,cond_false,B9 bx]) rfl rfl
theorem Cg:(aQ.of n t cK cX).hz o=aQ.of n (t+1) cK ((t,o)::cX):=AW (fun j=>rfl) (fun j=>by
  simp only[aQ.hz,aQ.of,aA.cj,jD]
  cases bx:t==j with
  |true=>have e:t=j:=by simpa using bx
         subst e; simp
  |false=>have e: ¬j=t:=fun e=>by subst e; simp at bx
          exact if_neg e) rfl rfl
theorem oC {p:bC}:(aQ.of n t cK cX).li p kM kW=aQ.of n t (qq ((rL p kM).filter fun q=>p.b.contains q.1) (qW p.b cK)) (qs ((rM p kW).filter fun q=>p.t.contains q.1) (rN p.t cX)):=AW (fun j=>by
  simp only[aQ.li,aQ.of,J9]
  cases aq:p.b.contains j with
  |true=>
   rw[cond_true]
   induction kM with
   |nil=>simp only[List.find?,rL,List.filter,qq]; rw[Ji p.b aq]
   |cons q l bB=>
    simp only[List.find?,rL]
    cases bw:p.b.getD q.1 0==j with
    |true=>
     have e:p.b.getD q.1 0=j:=by simpa using bw
     rw[e]
     simp only[List.filter,aq,qq,hU,beq_self_eq_true,cond_true]
    |false=>
     simp only[List.filter]
     cases br:p.b.contains (p.b.getD q.1 0) with
     |true=>simp only[qq,hU,bw,cond_false]; exact bB
     |false=>exact bB
  |false=>
   rw[cond_false]
   induction kM with
   |nil=>simp only[rL,List.filter,qq]; rw[UI p.b aq]
   |cons q l bB=>
    simp only[rL,List.filter]
    cases br:p.b.contains (p.b.getD q.1 0) with
    |true=>
     have:(p.b.getD q.1 0==j)=false:=by
       cases bx:p.b.getD q.1 0==j with
       |false=>rfl
       |true=>have e:p.b.getD q.1 0=j:=by simpa using bx
              rw[e,aq]at br; cases br
     simp only[qq,hU,this,cond_false]; exact bB
    |false=>exact bB) (fun j=>by
  simp only[aQ.li,aQ.of,Ka]
  cases aq:p.t.contains j with
  |true=>
   rw[cond_true]
   induction kW with
   |nil=>simp only[List.find?,rM,List.filter,qs]; rw[UJ p.t aq]
   |cons q l bB=>
    simp only[List.find?,rM]
    cases bw:p.t.getD q.1 0==j with
    |true=>
     have e:p.t.getD q.1 0=j:=by simpa using bw
     rw[e]
     simp only[List.filter,aq,qs,jD,beq_self_eq_true,cond_true]
    |false=>
     simp only[List.filter]
     cases br:p.t.contains (p.t.getD q.1 0) with
     |true=>simp only[qs,jD,bw,cond_false]; exact bB
     |false=>exact bB
  |false=>
   rw[cond_false]
   induction kW with
   |nil=>simp only[rM,List.filter,qs]; rw[UK p.t aq]
   |cons q l bB=>
    simp only[rM,List.filter]
    cases br:p.t.contains (p.t.getD q.1 0) with
    |true=>
     have:(p.t.getD q.1 0==j)=false:=by
       cases bx:p.t.getD q.1 0==j with
       |false=>rfl
       |true=>have e:p.t.getD q.1 0=j:=by simpa using bx
              rw[e,aq]at br; cases br
     simp only[qs,jD,this,cond_false]; exact bB
    |false=>exact bB) rfl rfl
theorem zR {j:Nat}:(aQ.of n t cK cX).H.aZ j=hU cK j:=rfl
theorem Iv {j:Nat}:(aQ.of n t cK cX).H.tok j=jD cX j:=rfl
theorem RC:(aQ.of n t cK cX).b4=n:=rfl
theorem RE:(aQ.of n t cK cX).bj=t:=rfl
theorem RD:aQ.new=aQ.of 0 0 [] []:=rfl
theorem Ga {l:List I}{agg:Bool}{o n:Nat}:pX l agg o n=if o+n≤l.length then I.js agg ((l.drop o).take n) else none:=by
  unfold pX
  by_cases h:o+n≤l.length
  ·rw[Nat.ble_eq_true_of_le h,if_pos h,cond_true]
  ·rw[if_neg h]
   cases hb:Nat.ble (o+n) l.length with
   |true=>exact absurd (Nat.le_of_ble_eq_true hb) h
   |false=>rfl
theorem L7 {c:aQ}{b o n:Nat}{x:I}:wb c b o n x=match c.H.aZ b with
  |some (T,cs)=>if (x.fk=true∧x.cells.length=n)∧(o+n≤cs.length∧x.cells.all I.one=true) then some (.undef,c.cp b T (gj cs o x.cells)) else none
  |none=>none:=by
  unfold wb
  cases e:c.H.aZ b with
  |none=>rfl
  |some q=>
   obtain⟨T,cs⟩:=q
   simp only[]
   by_cases h:(x.fk=true∧x.cells.length=n)∧(o+n≤cs.length∧x.cells.all I.one=true)
   ·rw[if_pos h,h.1.1,h.1.2,h.2.2,Nat.ble_eq_true_of_le h.2.1]
    simp
   ·rw[if_neg h]
    cases hb:(x.fk&&x.cells.length==n)&&(Nat.ble (o+n) cs.length&&x.cells.all I.one) with
    |false=>rfl
    |true=>
     simp only[Bool.and_eq_true,beq_iff_eq,Nat.ble_eq]at hb
     exact absurd hb h
theorem RO:I.one (.ev (.slice none 0 0))=true:=rfl
theorem Rz:(Value.slice none 0 0).oneCell'=true:=rfl
theorem RA:(Value.pointer none).oneCell'=true:=rfl
theorem RP:I.one (.ev (.pointer none))=true:=rfl
theorem LO {env:Env}{j:Nat}:bp env (.t j)=env.get j:=rfl
theorem LN {env:Env}{a:I}:bp env (.c a)=bif a.flat then a else .eX:=rfl
theorem zY {env:Env}{d:Nat}{v:I}:env.put (some d) v=(d,v)::env:=rfl
theorem zX {env:Env}{v:I}:env.put none v=env:=rfl
theorem tM {a d:Nat}{l:List Nat}:(a::l).getD 0 d=a:=rfl
theorem OO {a d i:Nat}{l:List Nat}:(a::l).getD (i+1) d=l.getD i d:=rfl
section
variable {env:Env}{c:aQ}{x y z:aJ}{zero l:List I}{R8:List (Nat×Nat×aJ)}{vu:List (Nat×aJ)}{agg:Bool}{n m fv:Nat}{Dm:BinOp}{aT:List nP}{fg:IntKind}{xs:List aJ}{cJ ad nB:Option aJ}{T:TypeId}
theorem LI {env:Env}{cells:List I}:uv env cells []=some cells:=rfl
theorem LH {env:Env}{cells:List I}{off size:Nat}{x:aJ}{rest:List (Nat×Nat×aJ)}:uv env cells ((off,size,x)::rest)=if (bp env x).fk=true∧((bp env x).cells.length=size∧off+size≤cells.length) then uv env (gj cells off (bp env x).cells) rest else none:=by
  simp only[uv]
  by_cases h:(bp env x).fk=true∧((bp env x).cells.length=size∧off+size≤cells.length)
  ·rw[if_pos h,h.1,h.2.1,Nat.ble_eq_true_of_le h.2.2]
   simp
  ·rw[if_neg h]
   cases hb:(bp env x).fk&&((bp env x).cells.length==size&&Nat.ble (off+size) cells.length) with
   |false=>rfl
   |true=>
    simp only[Bool.and_eq_true,beq_iff_eq,Nat.ble_eq]at hb
    exact absurd hb h
theorem F4 {n:Int}{len:Nat}:tw n len=if 0≤n∧n<len then some n.toNat else none:=by
  by_cases h:0≤n∧n<len
  ·rw[if_pos h,Zy h.1 h.2]
  ·rw[if_neg h]
   cases aq:tw n len with
   |none=>rfl
   |some k=>exact absurd ⟨(ze aq).1,(ze aq).2.1⟩ h
theorem VT {n:Int}(aU:0≤n) (U:n≤18446744073709551615):IntKind.u64.wrap n=n:=by rw[IntKind.wrap_u64]; omega
theorem VU {n:Int}(aU:0≤n) (U:n≤255):IntKind.u8.wrap n=n:=by rw[IntKind.wrap_u8]; omega
theorem QO {α:Type}{b:Int}{x y:α}(h:0≤b):(if 0≤b then x else y)=x:=if_pos h
theorem Ro:eU (.hO x) env c=(fN (.hO x) env c.H).map fun v=>(v,c):=rfl
theorem Rt:eU (.pick x y z) env c=(fN (.pick x y z) env c.H).map fun v=>(v,c):=rfl
theorem Rr:eU (.eB x) env c=(fN (.eB x) env c.H).map fun v=>(v,c):=rfl
theorem Q1:eU (.build zero R8) env c=(fN (.build zero R8) env c.H).map fun v=>(v,c):=rfl
theorem Rh:eU (.load agg n x) env c=(fN (.load agg n x) env c.H).map fun v=>(v,c):=rfl
theorem Ri:eU (.fP fv agg n x) env c=(fN (.fP fv agg n x) env c.H).map fun v=>(v,c):=rfl
theorem Rj:eU (.pA agg n x) env c=(fN (.pA agg n x) env c.H).map fun v=>(v,c):=rfl
theorem Q7:eU (.pq n x) env c=(fN (.pq n x) env c.H).map fun v=>(v,c):=rfl
theorem Q8:eU (.field agg n m x) env c=(fN (.field agg n m x) env c.H).map fun v=>(v,c):=rfl
theorem Q9:eU (.gy n x y) env c=(fN (.gy n x y) env c.H).map fun v=>(v,c):=rfl
theorem Ra:eU (.oA n m x y) env c=(fN (.oA n m x y) env c.H).map fun v=>(v,c):=rfl
theorem Rb:eU (.kj agg n m x y) env c=(fN (.kj agg n m x y) env c.H).map fun v=>(v,c):=rfl
theorem Rc:eU (.ic x y) env c=(fN (.ic x y) env c.H).map fun v=>(v,c):=rfl
theorem QV:eU (.bin Dm x y) env c=(fN (.bin Dm x y) env c.H).map fun v=>(v,c):=rfl
theorem QW:eU (.rk Dm x y) env c=(fN (.rk Dm x y) env c.H).map fun v=>(v,c):=rfl
theorem Q5:eU (.j1 agg T aT x y) env c=(fN (.j1 agg T aT x y) env c.H).map fun v=>(v,c):=rfl
theorem Rs:eU (.not x) env c=(fN (.not x) env c.H).map fun v=>(v,c):=rfl
theorem Ru:eU (.sJ agg x) env c=(fN (.sJ agg x) env c.H).map fun v=>(v,c):=rfl
theorem Rq:eU (.neg x) env c=(fN (.neg x) env c.H).map fun v=>(v,c):=rfl
theorem Q2:eU (.conv fg x) env c=(fN (.conv fg x) env c.H).map fun v=>(v,c):=rfl
theorem Rg:eU (.mT x) env c=(fN (.mT x) env c.H).map fun v=>(v,c):=rfl
theorem Re:eU (.len x) env c=(fN (.len x) env c.H).map fun v=>(v,c):=rfl
theorem Rf:eU (.rE n) env c=(fN (.rE n) env c.H).map fun v=>(v,c):=rfl
theorem Rk:eU (.l1 agg xs) env c=(fN (.l1 agg xs) env c.H).map fun v=>(v,c):=rfl
theorem Rv:eU (.kE x cJ ad) env c=(fN (.kE x cJ ad) env c.H).map fun v=>(v,c):=rfl
theorem Rw:eU (.ii n x cJ ad nB) env c=(fN (.ii n x cJ ad nB) env c.H).map fun v=>(v,c):=rfl
theorem Q6:eU (.extract n x) env c=(fN (.extract n x) env c.H).map fun v=>(v,c):=rfl
theorem Rl:eU (.j6 n xs) env c=(fN (.j6 n xs) env c.H).map fun v=>(v,c):=rfl
theorem Rm:eU (.vl n xs) env c=(fN (.vl n xs) env c.H).map fun v=>(v,c):=rfl
theorem Q4:eU (.r5 agg x) env c=(fN (.r5 agg x) env c.H).map fun v=>(v,c):=rfl
theorem Q3:eU (.kN T x) env c=(fN (.kN T x) env c.H).map fun v=>(v,c):=rfl
theorem Rn:eU (.qM T x) env c=(fN (.qM T x) env c.H).map fun v=>(v,c):=rfl
theorem Rd:eU (.qH agg x) env c=(fN (.qH agg x) env c.H).map fun v=>(v,c):=rfl
theorem QY:eU (.da T n m l vu) env c=(fN (.da T n m l vu) env c.H).map fun v=>(v,c):=rfl
theorem QX:eU (.box T x) env c=bif (bp env x).fk&&(bp env x).cells.all I.one then some (.ptr c.b4 0,c.q9 T (bp env x).cells) else none:=rfl
theorem QU:eU (.alloc T zero) env c=bif b7 zero&&zero.all I.one then some (.ptr c.b4 0,c.q9 T zero) else none:=rfl
theorem Rx:eU (.store n x y) env c=(match bp env x with
    | .ptr b o=>wb c b o n (bp env y)
    | .mp t ver k=>zi c t ver k n (bp env y)
    | _=>none):=rfl
theorem Ry {others:List Nat}:eU (.hP fv others n x y) env c=(match env.get fv,bp env x with
    | .ptr b 0,.ptr b1 o=>bif b1==b&&others.all (eZ env b) then wb c b o n (bp env y) else none
    | _,_=>none):=rfl
theorem Q0:eU (.nV T n m zero vu) env c=bif tz env n vu then some (.own c.bj n (r6 env vu),c.hz (.bX T n (r6 env vu).length)) else none:=rfl
theorem QZ:eU (.nU T n m zero vu) env c=bif tz env n vu then some (.c6 c.bj 0,c.hz (.bA T n 0 (r6 env vu))) else none:=rfl
end
end
end Go.aO
namespace Go.aO
open Go
mutual
def I.qY:I→Bool
  | .eX=>false
  | .agg cs=>pH cs
  | .cT cs=>pH cs
  | .af _ rows=>eN rows
  | .own _ _ rows=>eN rows
  | .eK row _=>b7 row
  | .fn _ cap=>pH cap
  | .iE _ v=>v.qY
  | _=>true
def pH:List I→Bool
  |[]=>true
  |a::az=>a.qY&&pH az
end
theorem OH {s:bC}{az l cc:List (List I)}(h:eN az=true) (U:cq s az l) (aa:cq s az cc):l=cc:=((p1 az h l).1 U).trans ((p1 az h cc).1 aa).symm
theorem af4 {s:bC}{az l cc:List I}(h:b7 az=true) (U:bk s az l) (aa:bk s az cc):l=cc:=((n2 az h l).1 U).trans ((n2 az h cc).1 aa).symm
mutual
theorem aN.same {s:bC}: ∀(a v bI:I),a.qY=true→aN s a v→aN s a bI→v=bI
  | .eX,_,_,h,_,_=>by simp [I.qY]at h
  | .ptr b o,_,_,_,U,aa=>by simp only[aN]at*; obtain⟨x,ar,rfl⟩:=U; obtain⟨y,ax,rfl⟩:=aa; rw[ar]at ax; cases ax; rfl
  | .c6 b o,_,_,_,U,aa=>by simp only[aN]at*; obtain⟨x,ar,rfl⟩:=U; obtain⟨y,ax,rfl⟩:=aa; rw[ar]at ax; cases ax; rfl
  | .mp b o k,_,_,_,U,aa=>by simp only[aN]at*; obtain⟨x,ar,rfl⟩:=U; obtain⟨y,ax,rfl⟩:=aa; rw[ar]at ax; cases ax; rfl
  | .agg cs,_,_,h,U,aa=>by simp only[I.qY]at h; simp only[aN]at*; obtain⟨l,rfl,ar⟩:=U; obtain⟨m,rfl,ax⟩:=aa; rw[bk.same cs l m h ar ax]
  | .cT cs,_,_,h,U,aa=>by simp only[I.qY]at h; simp only[aN]at*; obtain⟨l,rfl,ar⟩:=U; obtain⟨m,rfl,ax⟩:=aa; rw[bk.same cs l m h ar ax]
  | .fn f cs,_,_,h,U,aa=>by simp only[I.qY]at h; simp only[aN]at*; obtain⟨l,rfl,ar⟩:=U; obtain⟨m,rfl,ax⟩:=aa; rw[bk.same cs l m h ar ax]
  | .iE t a,_,_,h,U,aa=>by simp only[I.qY]at h; simp only[aN]at*; obtain⟨l,rfl,ar⟩:=U; obtain⟨m,rfl,ax⟩:=aa; rw[aN.same a l m h ar ax]
  | .af n rows,_,_,h,U,aa=>by simp only[I.qY]at h; simp only[aN]at*; obtain⟨l,rfl,ar⟩:=U; obtain⟨m,rfl,ax⟩:=aa; rw[OH h ar ax]
  | .eK row o,_,_,h,U,aa=>by simp only[I.qY]at h; simp only[aN]at*; obtain⟨l,rfl,ar⟩:=U; obtain⟨m,rfl,ax⟩:=aa; rw[af4 h ar ax]
  | .own t n rows,_,_,h,U,aa=>by
    simp only[I.qY]at h
    simp only[aN]at*
    obtain⟨x,l,cA,rfl,ar⟩:=U
    obtain⟨y,m,Mu,rfl,ax⟩:=aa
    rw[cA]at Mu
    cases Mu
    rw[OH h ar ax]
  | .bool _,_,_,_,U,aa=>by simp only[aN]at*; rw[U,aa]
  | .int _ _,_,_,_,U,aa=>by simp only[aN]at*; rw[U,aa]
  | .str _,_,_,_,U,aa=>by simp only[aN]at*; rw[U,aa]
  | .ev _,_,_,_,U,aa=>by simp only[aN]at*; rw[U,aa]
theorem bk.same {s:bC}: ∀(az l cc:List I),pH az=true→bk s az l→bk s az cc→l=cc
  |[],_,_,_,U,aa=>by simp only[bk]at*; rw[U,aa]
  |a::az,_,_,h,U,aa=>by
   simp only[pH,Bool.and_eq_true]at h
   simp only[bk]at*
   obtain⟨v,af,rfl,ec,a2⟩:=U
   obtain⟨w,ws,rfl,fz,iM⟩:=aa
   rw[aN.same a v w h.1 ec fz,bk.same az af ws h.2 a2 iM]
end
mutual
theorem aN.ex {s:bC}{n t:Nat}(aW:n≤s.b.length) (ht:t≤s.t.length): ∀(a:I),a.dW n t=true→∃v,aN s a v
  | .eX,_=>⟨.eX,by simp only[aN]⟩
  | .ptr b o,h=>⟨_,by simp only[aN]; exact⟨_,kx (Nat.lt_of_lt_of_le (om h) aW),rfl⟩⟩
  | .c6 b o,h=>⟨_,by simp only[aN]; exact⟨_,kx (Nat.lt_of_lt_of_le (om h) ht),rfl⟩⟩
  | .mp b o k,h=>⟨_,by simp only[aN]; exact⟨_,kx (Nat.lt_of_lt_of_le (om h) ht),rfl⟩⟩
  | .agg cs,h=>by simp only[I.dW]at h; obtain⟨l,e⟩:=bk.ex aW ht cs h; exact⟨_,by simp only[aN]; exact⟨l,rfl,e⟩⟩
  | .cT cs,h=>by simp only[I.dW]at h; obtain⟨l,e⟩:=bk.ex aW ht cs h; exact⟨_,by simp only[aN]; exact⟨l,rfl,e⟩⟩
  | .fn f cs,h=>by simp only[I.dW]at h; obtain⟨l,e⟩:=bk.ex aW ht cs h; exact⟨_,by simp only[aN]; exact⟨l,rfl,e⟩⟩
  | .iE t a,h=>by simp only[I.dW]at h; obtain⟨l,e⟩:=aN.ex aW ht a h; exact⟨_,by simp only[aN]; exact⟨l,rfl,e⟩⟩
  | .af m rows,h=>⟨_,by simp only[I.dW]at h; simp only[aN]; exact⟨rows,rfl,(p1 rows h _).2 rfl⟩⟩
  | .eK row o,h=>⟨_,by simp only[I.dW]at h; simp only[aN]; exact⟨row,rfl,(n2 row h _).2 rfl⟩⟩
  | .own x m rows,h=>⟨_,by simp only[I.dW,Bool.and_eq_true]at h; simp only[aN]; exact⟨_,rows,kx (Nat.lt_of_lt_of_le (om h.1) ht),rfl,(p1 rows h.2 _).2 rfl⟩⟩
  | .bool b,_=>⟨.bool b,by simp only[aN]⟩
  | .int k n,_=>⟨.int k n,by simp only[aN]⟩
  | .str x,_=>⟨.str x,by simp only[aN]⟩
  | .ev x,_=>⟨.ev x,by simp only[aN]⟩
theorem bk.ex {s:bC}{n t:Nat}(aW:n≤s.b.length) (ht:t≤s.t.length): ∀(az:List I),ed n t az=true→∃l,bk s az l
  |[],_=>⟨[],by simp only[bk]⟩
  |a::az,h=>by
   simp only[ed,Bool.and_eq_true]at h
   obtain⟨v,ar⟩:=aN.ex aW ht a h.1
   obtain⟨l,ax⟩:=bk.ex aW ht az h.2
   exact⟨v::l,by simp only[bk]; exact⟨v,l,rfl,ar,ax⟩⟩
end
theorem bC.e8.eq {s b5:bC}(h:bC.e8 s b5) (U:b5.b.length=s.b.length) (aa:b5.t.length=s.t.length):b5=s:=by
  obtain⟨b,t⟩:=s
  obtain⟨b1,dT⟩:=b5
  simp only at U aa
  have ar:b1=b:=by
    apply List.ext_getElem?
    intro i
    by_cases ad:i<b.length
    ·have:=kx ad
     rw[this]; exact h.b _ _ this
    ·rw[List.getElem?_eq_none (by omega),List.getElem?_eq_none (by omega)]
  have ax:dT=t:=by
    apply List.ext_getElem?
    intro i
    by_cases ad:i<t.length
    ·have:=kx ad
     rw[this]; exact h.t _ _ this
    ·rw[List.getElem?_eq_none (by omega),List.getElem?_eq_none (by omega)]
  rw[ar,ax]
section
variable {P:Program}{env:Env}{c:aQ}{v:I}{anns:List I}{l:List bY}{K:Env→aQ→Prop}{Rp:I→aQ→Prop}{f:FuncId}{args:List aJ}{az:List I}
theorem au.IN {d:Nat}{eg:List I}{r:I}(h:Pure P f az r) (aL:args.map (bp env)=eg) (hw:lj eg=az) (hf:b7 az=true) (ac:r.flat=true) (aw:au P anns l ((d,r)::env) c K Rp):au P anns (⟨some d,none,.call f args⟩::l) env c K Rp:=
  au.uB rfl (aY.It h hf ac hw) aL aw
end
end Go.aO
namespace Go.aO
open Go
def wB (a:I) (t:Bool):Option Bool:=match a with
  | .bool b=>some (b==t)
  | .ev (.tuple ⟨[]⟩)=>some false
  | _=>none
theorem O0 {b t:Bool}:wB (.bool b) t=some (b==t):=rfl
theorem O1 {t:Bool}:wB .undef t=some false:=rfl
def D0 (g:Option (Nat×Bool)) (env:Env):Option Bool:=match g with
  |none=>some true
  |some (j,t)=>wB (env.get j) t
def dst (i:bY) (env:Env) (c:aQ):Option (Env×aQ):=match D0 i.guard env with
  |some true=>(eU i.op env c).map fun q=>(env.put i.dst q.1,q.2)
  |some false=>some (env.put i.dst .undef,c)
  |none=>none
def B0 (ex cK:Bool):List gm→Env→Option (List gm)
  | .c e::k,env=>match e with
    | .skip=>some k
    | .seq a b=>some (.c a:: .c b::k)
    | .block id b=>match cK with
      |true=>some (.c b:: .aZ id::k)
      |false=>none
    | .exit id=>match ex with
      |true=>tV id k
      |false=>none
    | .cond x a b=>match bp env x with
      | .bool true=>some (.c a::k)
      | .bool false=>some (.c b::k)
      | _=>none
    | _=>none
  | .aZ _::k,_=>some k
  | _,_=>none
section
variable {P:Program}{aS:List bc}{c8 t0:Nat}{k fO:List gm}{Q:Out→aQ→Prop}{env bd:Env}{c cV:aQ}{anns:List I}{l:List bY}{i:bY}{K:Env→aQ→Prop}{Rp:I→aQ→Prop}
theorem au.s (hp:ql i.op=false) (h:dst i env c=some (bd,cV)) (aw:au P anns l bd cV K Rp):au P anns (i::l) env c K Rp:=by
  obtain⟨d,g,op⟩:=i
  have hw: ∀b,D0 g env=some b→wanted ⟨d,g,op⟩ env=some b:=by
    intro b hb
    cases g with
    |none=>exact hb
    |some p=>exact hb
  unfold dst at h
  simp only at h hp
  split at h
  ·rename_i e
   simp only[Option.map_eq_some_iff,Prod.mk.injEq]at h
   obtain⟨⟨v,c1⟩,U,aa,ay⟩:=h
   subst aa ay
   exact au.o (hw _ e) hp U aw
  ·rename_i e
   simp only[Option.some.injEq,Prod.mk.injEq]at h
   obtain⟨aa,ay⟩:=h
   subst aa ay
   exact au.ig (hw _ e) hp aw
  ·cases h
theorem au.gw {d:Option Nat}{j:Nat}{t:Bool}{op:bg}(h:wB (env.get j) t=some true) (aw:au P anns (⟨d,none,op⟩::l) env c K Rp):au P anns (⟨d,some (j,t),op⟩::l) env c K Rp:=by
  unfold wB at h
  split at h
  ·rename_i b e
   simp only[Option.some.injEq,beq_iff_eq]at h
   exact au.G6 e h aw
  ·cases h
  ·cases h
theorem au.gx {d:Option Nat}{j:Nat}{t:Bool}{op:bg}(hp:ql op=true) (h:wB (env.get j) t=some false) (aw:au P anns l (env.put d .undef) c K Rp):au P (.undef::anns) (⟨d,some (j,t),op⟩::l) env c K Rp:=au.aV8 h hp aw
theorem av.s (ex cK:Bool) (h:B0 ex cK k env=some fO) (aw:av P aS c8 t0 fO Q env c):av P aS c8 t0 k Q env c:=by
  unfold B0 at h
  split at h
  ·split at h
   ·cases h; exact .skip aw
   ·cases h; exact .seq aw
   ·cases cK with
    |true=>cases h; exact .block aw
    |false=>cases h
   ·cases ex with
    |true=>exact .exit h aw
    |false=>cases h
   ·split at h
    ·rename_i e; cases h; exact .nX e aw
    ·rename_i e; cases h; exact .nW e aw
    ·cases h
   ·cases h
  ·cases h; exact .AL aw
  ·cases h
theorem au.p2 {f:FuncId}{args:List aJ}{d:Option Nat}(p:bC){eg:List I}{fX kM:fl}{fZ kW:fm}{n t:Nat}{v:I}(h:aY P f eg (aQ.of n t fX fZ) (dR v kM kW)) (aq:(p.b.length==n&&(p.t.length==t&&(nodupB p.b&&(nodupB p.t&&(p.b.all (fun x=>Nat.blt x c.b4)&&(p.t.all (fun x=>Nat.blt x c.bj)&&(ed n t eg&&(fA n t fX&&(fB n t fZ&&(fA n t kM&&(fB n t kW&&v.dW n t)))))))))))=true) (fa:ox c.H.aZ p fX) (dF:oy c.H.tok p fZ) (aL:args.map (bp env)=fw p eg) (aw:au P anns l (env.put d (v.fh p)) (c.li p kM kW) K Rp):au P anns (⟨d,none,.call f args⟩::l) env c K Rp:=by
  simp only[Bool.and_eq_true,beq_iff_eq]at aq
  obtain⟨c1,ci,fc,ha,k6,ls,oo,ph,nl,nk,y6,FO⟩:=aq
  exact au.uB rfl (aY.p2 p h c1 ci (by rw[fc,ha,k6,ls]; rfl) fa dF (by rw[oo,ph,nl]; rfl) (by rw[nk,y6,FO]; rfl) rfl) aL aw
end
end Go.aO
namespace Go.aO
open Go
section
variable {dd:Program}{aS:List bc}{c8 t0:Nat}{k fO:List gm}{Q:Out→aQ→Prop}{env bd:Env}{c cV:aQ}{anns:List I}{l:List bY}{K:Env→aQ→Prop}{Rp:I→aQ→Prop}{d:Option Nat}{g:Option (Nat×Bool)}{op:bg}{j:Nat}{t b:Bool}{v bI:I}{x i:aJ}{fg:IntKind}{z:Int}{size p e:Nat}{f:FuncId}{args:List aJ}
theorem D.S (aw:au dd anns l bd cV K Rp) (hp:ql op=false:=by rfl) (h:dst ⟨d,g,op⟩ env c=some (bd,cV):=by simp (disch:=omega) only[go_sem,simprocAttr]<;>with_reducible rfl):au dd anns (⟨d,g,op⟩::l) env c K Rp:=au.s hp h aw
theorem D.jd (ex cK:Bool) (aw:av dd aS c8 t0 fO Q env c) (h:B0 ex cK k env=some fO:=by simp (disch:=omega) only[go_sem,simprocAttr]<;>with_reducible rfl):av dd aS c8 t0 k Q env c:=av.s ex cK h aw
theorem D.W (aw:au dd anns (⟨d,none,op⟩::l) env c K Rp) (h:wB (env.get j) t=some true:=by simp (disch:=omega) only[go_sem,simprocAttr]<;>with_reducible rfl):au dd anns (⟨d,some (j,t),op⟩::l) env c K Rp:=au.gw h aw
theorem D.Z (aw:au dd anns l (env.put d .undef) c K Rp) (hp:ql op=true:=by rfl) (h:wB (env.get j) t=some false:=by simp (disch:=omega) only[go_sem,simprocAttr]<;>with_reducible rfl):au dd (.undef::anns) (⟨d,some (j,t),op⟩::l) env c K Rp:=au.gx hp h aw
theorem D.G (U:b=true→au dd anns (⟨d,some (j,t),op⟩::l) ((j,.bool true)::env) c K Rp) (aa:b=false→au dd anns (⟨d,some (j,t),op⟩::l) ((j,.bool false)::env) c K Rp) (h:env.get j= .bool b:=by simp (disch:=omega) only[go_sem,simprocAttr]<;>with_reducible rfl):au dd anns (⟨d,some (j,t),op⟩::l) env c K Rp:=au.gs h U aa
theorem D.C {a cZ:bm}(U:b=true→av dd aS c8 t0 (.c a::k) Q env c) (aa:b=false→av dd aS c8 t0 (.c cZ::k) Q env c) (h:bp env x= .bool b:=by simp (disch:=omega) only[go_sem,simprocAttr]<;>with_reducible rfl):av dd aS c8 t0 (.c (.cond x a cZ)::k) Q env c:=av.cond h U aa
theorem D.R (bw:Q (.ret v) c) (h:pY aS env c.H=some v:=by simp (disch:=omega) only[go_sem,simprocAttr]<;>with_reducible rfl):av dd aS c8 t0 (.c .ret::k) Q env c:=av.ret h bw
theorem D.E (bw:Q (.ret v) c) (h:pY aS env c.H=some v:=by simp (disch:=omega) only[go_sem,simprocAttr]<;>with_reducible rfl):av dd aS c8 t0 [] Q env c:=av.done h bw
theorem D.r (bw:Q (.ret v) c) (h:pY aS env c.H=some v:=by simp (disch:=omega) only[go_sem,simprocAttr]<;>with_reducible rfl) (aU:fO=[]∨∃k,fO= .c .ret::k:=by first|exact .inl rfl|exact .inr ⟨_,rfl⟩):av dd aS c8 t0 fO Q env c:=by
  rcases aU with rfl|⟨k,rfl⟩
  ·exact av.done h bw
  ·exact av.ret h bw
theorem D.rx (h:pY aS env c.H=some v:=by simp (disch:=omega) only[go_sem,simprocAttr]<;>with_reducible rfl) (bw:Q (.ret v) c:=by exact⟨_,rfl,.aM rfl rfl,trivial,trivial⟩) (aU:fO=[]∨∃k,fO= .c .ret::k:=by first|exact .inl rfl|exact .inr ⟨_,rfl⟩):av dd aS c8 t0 fO Q env c:=D.r bw h aU
theorem D.X {α:Type}{f:α→List I}{w:α}{m:List α}{d:Nat}(ac:m[p]? =some w) (aw:au dd anns l ((d,.eK (f w) 0)::env) c K Rp) (ab:bp env x= .af size (m.map f):=by simp (disch:=omega) only[go_sem,simprocAttr]<;>with_reducible rfl) (ad:bp env i= .int fg z:=by simp (disch:=omega) only[go_sem,simprocAttr]<;>with_reducible rfl) (e:z=p:=by omega):au dd anns (⟨some d,none,.gy size x i⟩::l) env c K Rp:=au.gz ab ad ac e aw
theorem D.jY {α:Type}{f:α→List I}{w:α}{m:List α}{d q:Nat}(ac:m[p]? =some w) (aw:au dd anns l ((d,.eK (f w) 0)::env) c K Rp) (ab:bp env x= .own q size (m.map f):=by simp (disch:=omega) only[go_sem,simprocAttr]<;>with_reducible rfl) (ad:bp env i= .int fg z:=by simp (disch:=omega) only[go_sem,simprocAttr]<;>with_reducible rfl) (e:z=p:=by omega):au dd anns (⟨some d,none,.gy size x i⟩::l) env c K Rp:=au.gA ab ad ac e aw
theorem D.lo {u:UInt8}{d:Nat}{a:List UInt8}(ac:a[p]? =some u) (aw:au dd anns l ((d,.int .u8 u.toNat)::env) c K Rp) (ab:bp env x= .str a:=by simp (disch:=omega) only[go_sem,simprocAttr]<;>with_reducible rfl) (ad:bp env i= .int fg z:=by simp (disch:=omega) only[go_sem,simprocAttr]<;>with_reducible rfl) (e:z=p:=by omega):au dd anns (⟨some d,none,.ic x i⟩::l) env c K Rp:=au.gB ab ad ac e aw
theorem D.F (s:bC){eg:List I}{fX kM:fl}{fZ kW:fm}{n q:Nat}{ci:aQ}(h:aY dd f eg (aQ.of n q fX fZ) (dR v kM kW)) (aw:au dd anns l (env.put d bI) ci K Rp) (aq:(s.b.length==n&&(s.t.length==q&&(nodupB s.b&&(nodupB s.t&&(s.b.all (fun x=>Nat.blt x c.b4)&&(s.t.all (fun x=>Nat.blt x c.bj)&&(ed n q eg&&(fA n q fX&&(fB n q fZ&&(fA n q kM&&(fB n q kW&&v.dW n q)))))))))))=true:=by simp (disch:=omega) only[go_sem,simprocAttr]<;>rfl) (fa:ox c.H.aZ s fX:=by repeat first|exact trivial|refine⟨rfl,?_⟩) (dF:oy c.H.tok s fZ:=by repeat first|exact trivial|refine⟨rfl,?_⟩) (aL:args.map (bp env)=fw s eg:=by simp (disch:=omega) only[go_sem,simprocAttr]<;>rfl) (ae:v.fh s=bI:=by simp (disch:=omega) only[go_sem,simprocAttr]<;>with_reducible rfl) (hu:c.li s kM kW=ci:=by simp (disch:=omega) only[go_sem,simprocAttr]<;>with_reducible rfl):au dd anns (⟨d,none,.call f args⟩::l) env c K Rp:=by
  subst ae hu
  exact au.p2 s h aq fa dF aL aw
theorem D.P {d:Nat}{az eg:List I}{r:I}(h:Pure dd f az r) (aw:au dd anns l ((d,r)::env) c K Rp) (aL:args.map (bp env)=eg:=by simp (disch:=omega) only[go_sem,simprocAttr]<;>with_reducible rfl) (hw:lj eg=az:=by rfl) (hf:b7 az=true:=by simp (disch:=omega) only[go_sem,simprocAttr]<;>rfl) (ac:r.flat=true:=by simp (disch:=omega) only[go_sem,simprocAttr]<;>rfl):au dd anns (⟨some d,none,.call f args⟩::l) env c K Rp:=au.IN h aL hw hf ac aw
theorem D.fL {az eg:List I}{r:I}(h:Pure dd f az r) (aw:au dd anns l (env.put d r) c K Rp) (aL:args.map (bp env)=eg:=by simp (disch:=omega) only[go_sem,simprocAttr]<;>with_reducible rfl) (hw:lj eg=az:=by rfl) (hf:b7 az=true:=by simp (disch:=omega) only[go_sem,simprocAttr]<;>rfl) (ac:r.flat=true:=by simp (disch:=omega) only[go_sem,simprocAttr]<;>rfl):au dd (r::anns) (⟨d,none,.jF f args⟩::l) env c K Rp:=au.o4 rfl h (by rw[aL,hw]) hf ac aw
theorem D.V {d:Nat}{az eg cap:List I}{r:I}(hf:di dd f=true) (h:Pure dd f az r) (aw:au dd anns l ((d,r)::env) c K Rp) (ab:bp env x= .fn f cap:=by simp (disch:=omega) only[go_sem,simprocAttr]<;>with_reducible rfl) (aL:args.map (bp env)++cap=eg:=by simp (disch:=omega) only[go_sem,simprocAttr]<;>with_reducible rfl) (hw:lj eg=az:=by rfl) (aC:b7 az=true:=by simp (disch:=omega) only[go_sem,simprocAttr]<;>rfl) (ac:r.flat=true:=by simp (disch:=omega) only[go_sem,simprocAttr]<;>rfl):au dd anns (⟨some d,none,.gT x args⟩::l) env c K Rp:=au.Kd rfl ab hf (aY.It h aC ac hw) aL aw
end
end Go.aO
namespace Go.aO
open Go
section
variable {P:Program}{aS:List bc}{c8 t0:Nat}{k:List gm}{Q:Out→aQ→Prop}{env:Env}{c c1:aQ}{v:I}
def vn (k:List gm):Bool:=k.all fun i=>match i with
  | .oF _ _=>false
  | _=>true
theorem Im {H0:aA}{eP:bC}: ∀ {k:List gm},vn k=true→(k.map (gm.o8 H0 eP)).all (fun i=>match i with| .round _ _=>false| _=>true)=true
  |[],_=>rfl
  | .c e::k,h=>by
    simp only[vn,List.all_cons,Bool.true_and]at h
    simp only[List.map_cons,List.all_cons,gm.o8,Bool.true_and]
    exact Im h
  | .aZ i::k,h=>by
    simp only[vn,List.all_cons,Bool.true_and]at h
    simp only[List.map_cons,List.all_cons,gm.o8,Bool.true_and]
    exact Im h
  | .oF _ _::k,h=>by simp [vn]at h
def yS (P:Program) (f:FuncId) (hA:List I) (x:I) (c:aQ) (xp:aQ→Prop):Prop:=
  ∀H0 s AP c9 H,bk s hA AP→aN s x c9→fi H0 s c H→vR P f AP c9 H fun dQ=> ∃b5 c1,bC.e8 s b5∧xp c1∧fi H0 b5 c1 dQ
def tmpsOf (bd:Env) (kt:Env):Env:=kt.map fun p=>(p.1,bd.get p.1)
theorem JI (bd:Env): ∀(kt:Env) (j:Nat),(tmpsOf bd kt).get j=bd.get j∨((tmpsOf bd kt).get j= .eX∧kt.get j= .eX)
  |[],_=> .inr ⟨rfl,rfl⟩
  |(i,v)::kt,j=>by
   simp only[tmpsOf,List.map_cons,Env.get]
   cases e:i==j with
   |true=>
    have:i=j:=by simpa using e
    subst this
    exact .inl rfl
   |false=>exact JI bd kt j
theorem Qe {env:Env}: ∀(kt:Env),(∀p∈kt,env.get p.1=p.2)→∀j,kt.get j=env.get j∨kt.get j= .eX
  |[],_,_=> .inr rfl
  |(i,v)::kt,h,j=>by
   simp only[Env.get]
   cases e:i==j with
   |true=>
    have:i=j:=by simpa using e
    subst this
    exact .inl (h (i,v) List.mem_cons_self).symm
   |false=>exact Qe kt (fun q bw=>h q (List.mem_cons_of_mem _ bw)) j
theorem aN.eX (s:bC) (x:I):aN s .eX x:=by simp only[aN]
def Cd (t:Nat) (k:List gm):Bool:=k.all fun i=>match i with
  | .c e=>e.l6 t
  | .aZ _=>true
  | .oF _ _=>false
theorem Ip {H0:aA}{eP:bC}{t:Nat}: ∀ {k:List gm},Cd t k=true→(k.map (gm.o8 H0 eP)).all (Item.l6 t)=true
  |[],_=>rfl
  | .c e::k,h=>by
    simp only[Cd,List.all_cons,Bool.and_eq_true]at h
    simp only[List.map_cons,List.all_cons,gm.o8,Bool.and_eq_true]
    exact⟨h.1,Ip h.2⟩
  | .aZ i::k,h=>by
    simp only[Cd,List.all_cons,Bool.true_and]at h
    simp only[List.map_cons,List.all_cons,gm.o8,Bool.and_eq_true]
    exact⟨rfl,Ip h⟩
  | .oF _ _::k,h=>by simp [Cd]at h
theorem Io {H0:aA}{eP s1:bC}: ∀ {k:List gm},vn k=true→k.map (gm.o8 H0 eP)=k.map (gm.o8 H0 s1)
  |[],_=>rfl
  | .c e::k,h=>by
    simp only[vn,List.all_cons,Bool.true_and]at h
    simp only[List.map_cons,gm.o8]
    rw[Io h]
  | .aZ i::k,h=>by
    simp only[vn,List.all_cons,Bool.true_and]at h
    simp only[List.map_cons,gm.o8]
    rw[Io h]
  | .oF _ _::k,h=>by simp [vn]at h
theorem vR.mono {f:FuncId}{hA:List I}{x:I}{H:aA}{AD xp:aA→Prop}(h:vR P f hA x H AD) (bw: ∀aB,AD aB→xp aB):vR P f hA x H xp:=fun m af lV U aa ay bl=>
  (h m af lV U aa ay bl).mono fun e rQ w' ⟨g1,g2,aB,hr,cO,g3,g4,g5⟩=>⟨g1,g2,aB,hr,cO,g3,g4,bw aB g5⟩
end
end Go.aO
namespace Go.aO
open Go
mutual
theorem tK {p:bC}: ∀(a:I),a.flat=true→a.fh p=a
  | .agg cs,h=>by simp only[I.flat]at h; simp only[I.fh,DV cs h]
  | .cT cs,h=>by simp only[I.flat]at h; simp only[I.fh,DV cs h]
  | .fn _ cs,h=>by simp only[I.flat]at h; simp only[I.fh,DV cs h]
  | .iE _ v,h=>by simp only[I.flat]at h; simp only[I.fh,tK v h]
  | .own _ _ _,h=>by simp [I.flat]at h
  | .ptr _ _,h=>by simp [I.flat]at h
  | .c6 _ _,h=>by simp [I.flat]at h
  | .mp _ _ _,h=>by simp [I.flat]at h
  | .eX,_=>rfl
  | .bool _,_=>rfl
  | .int _ _,_=>rfl
  | .str _,_=>rfl
  | .ev _,_=>rfl
  | .af _ _,_=>rfl
  | .eK _ _,_=>rfl
theorem DV {p:bC}: ∀(l:List I),b7 l=true→fw p l=l
  |[],_=>rfl
  |a::l,h=>by simp only[b7,Bool.and_eq_true]at h; simp only[fw,tK a h.1,DV l h.2]
end
mutual
theorem tJ {n t:Nat}: ∀(a:I),a.flat=true→a.dW n t=true
  | .agg cs,h=>by simp only[I.flat]at h; simp only[I.dW,DU cs h]
  | .cT cs,h=>by simp only[I.flat]at h; simp only[I.dW,DU cs h]
  | .fn _ cs,h=>by simp only[I.flat]at h; simp only[I.dW,DU cs h]
  | .iE _ v,h=>by simp only[I.flat]at h; simp only[I.dW,tJ v h]
  | .own _ _ _,h=>by simp [I.flat]at h
  | .ptr _ _,h=>by simp [I.flat]at h
  | .c6 _ _,h=>by simp [I.flat]at h
  | .mp _ _ _,h=>by simp [I.flat]at h
  | .eX,_=>rfl
  | .bool _,_=>rfl
  | .int _ _,_=>rfl
  | .str _,_=>rfl
  | .ev _,_=>rfl
  | .af _ _,h=>by simpa only[I.flat,I.dW] using h
  | .eK _ _,h=>by simpa only[I.flat,I.dW] using h
theorem DU {n t:Nat}: ∀(l:List I),b7 l=true→ed n t l=true
  |[],_=>rfl
  |a::l,h=>by simp only[b7,Bool.and_eq_true]at h; simp only[ed,tJ a h.1,DU l h.2,Bool.and_self]
end
def th (x:I):Out→aQ→Prop:=fun o _=>o= .e5 x
section
variable {P:Program}{aS:List bc}{c8 t0:Nat}{k:List gm}{Q:Out→aQ→Prop}{env:Env}{c:aQ}{anns:List I}{l:List bY}{K:Env→aQ→Prop}{Rp:I→aQ→Prop}{f:FuncId}{args:List aJ}{az eg:List I}
theorem aY.xM (p:bC){fX:fl}{fZ:fm}{n t:Nat}{x:I}(h:aY P f eg (aQ.of n t fX fZ) (th x)) (aW:p.b.length=n) (ht:p.t.length=t)
    (br:(nodupB p.b&&nodupB p.t&&p.b.all (fun x=>Nat.blt x c.b4)&&p.t.all (fun x=>Nat.blt x c.bj))=true) (fa:ox c.H.aZ p fX) (dF:oy c.H.tok p fZ) (hb:(ed n t eg&&(fA n t fX&&fB n t fZ))=true)
    (ab:x.dW n t=true) (ac:x.fh p=x){az:List I}(aL:az=fw p eg):aY P f az c (fun o cV=>o= .e5 x∧cV=c.li p [] []):=by
  simp only[Bool.and_eq_true,List.all_eq_true]at br
  obtain⟨⟨⟨d1,d2⟩,d3⟩,d4⟩:=br
  subst aL
  refine aY.frame p h aW ht (by rw[d1,d2]; rfl) (fun i x e=>om (d3 x (List.mem_of_getElem? e))) (fun i x e=>om (d4 x (List.mem_of_getElem? e))) hb fa dF ?_
  rintro o c1 rfl
  refine⟨[],[],trivial,trivial,?_,?_,rfl⟩
  ·simp only[fA,fB,Dk,ab,Bool.and_self]
  ·simp only[Out.fh,ac]
theorem aF8 (o:Out):C6 o o:=by cases o<;>first|exact bh.refl _|(simp only[C6]; exact bh.refl _)
theorem av.dead (j T:Nat) (bx:c.H.tok j=some (.bX T 0 0)):av P aS c8 t0 k Q env c:=fun H0 eP s bd H R aW ht hs he ac ak=>by
  refine cF.conv (fun _ _=>False) ?_ fun _ _ h=>h.elim
  intro m eO be
  subst eO
  obtain⟨x,i,U,aa,ay⟩:=ac.tok j _ bx
  have:=(be.tok x i aa).2.1
  exact absurd (ay.2.1.trans rfl) this
theorem ik.FY {others:List Nat}{x iH:I}{ci:aQ}(h:aY P f (args.map (bp env)) c (fun o cV=>o= .e5 x∧cV=ci)) (HQ:iH.flat=true) (aW:ci.b4=c.b4) (ht:ci.bj=c.bj) (ao: ∀s∈others,∃b1 cO cE,env.get s= .ptr b1 0∧c.H.aZ b1=some (cO,cE)∧ci.H.aZ b1=some (cO,cE)∧pH cE=true):ik P (.gN others f args) env c (fun bI cV=>bI=iH∧cV=c.hz (.bX 0 0 0)) (fun bI cV=>bI=x∧cV=ci):=fun H0 s bd H K jX he ac dZ jA=>by
  have an1: ∀ {b5:bC}{aB:aA},bC.e8 s b5→fi H0 b5 ci aB→b5=s:=fun b0 gE=>b0.eq (by rw[←gE.b4,aW,ac.b4]) (by rw[←gE.bj,ht,ac.bj])
  have U:=h H0 s _ H (oQ he args) ac
  refine .gN (az:=args.map (aJ.aI bd)) (fun o aB=>(∃b5 eF c1,bC.e8 s b5∧(eF= .e5 x∧c1=ci)∧oj b5 eF o∧fi H0 b5 c1 aB)∨(∃N,H.tok N=none∧o= .ret iH∧aB=H.cj N (.bX 0 0 0))) (fun j bx=> ?_) (fun bH=> ?_) (eo.ua _) (U.mono fun o aB bw=>⟨o,aB,aF8 o,HSub.refl aB,.inl bw⟩) ?_
  ·obtain⟨b1,cO,cE,ar,ax,bU,dl⟩:=ao j bx
   have jh:=he j
   rw[ar]at jh
   simp only[aN]at jh
   obtain⟨y,g1,g2⟩:=jh
   refine⟨y,g2,fun o aB bw=> ?_⟩
   rcases bw with ⟨b5,eF,c1,b0,⟨_,du⟩,gE,l7⟩|⟨N,_,_,rfl⟩
   ·subst du
    have:=an1 b0 l7
    subst this
    obtain⟨z,aH,cu,cL,dv⟩:=ac.aZ b1 cO cE ax
    obtain⟨xm,fG,hE,mI,sO⟩:=l7.aZ b1 cO cE bU
    rw[g1]at cu hE
    cases cu
    cases hE
    rw[cL,mI,bk.same cE aH fG dl dv sO]
   ·rfl
  ·obtain⟨N,cW⟩:=bH
   refine⟨iH,_,.inr ⟨N,(cW N (Nat.le_refl _)).2,rfl,rfl⟩,N+1,fun m hm=>⟨(cW m (by omega)).1,?_⟩⟩
   simp only[aA.cj]
   rw[if_neg (by omega)]
   exact (cW m (by omega)).2
  ·rintro o aB (⟨b5,eF,c1,b0,⟨cN,du⟩,gE,l7⟩|⟨N,aa,rfl,rfl⟩)
   ·subst cN du
    cases o with
    |ret v=>simp only[oj]at gE
    |e5 v=>exact jA b5 _ v _ aB b0 ⟨rfl,rfl⟩ gE l7
   ·exact dZ ⟨s.b,s.t++[N]⟩ iH iH (c.hz (.bX 0 0 0)) _ (bC.lF s N) ⟨rfl,rfl⟩ ((I.lX iH HQ iH).2 rfl) (ac.hz iz.bX aa)
end
end Go.aO
