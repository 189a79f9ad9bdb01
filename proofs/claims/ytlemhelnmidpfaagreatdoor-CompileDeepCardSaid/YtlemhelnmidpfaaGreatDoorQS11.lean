/- Part of a proof; own work. -/
import Derived.Test.YtlemhelnmidpfaaGreatDoorQS10
set_option linter.unusedVariables false
set_option linter.unusedSimpArgs false
set_option maxHeartbeats 16000000
namespace Go.aO.T.N
open Go Go.aO Go.Proofs Go.RowKit
set_option maxRecDepth 100000
attribute [local irreducible] Go.aO.av Go.aO.au Go.aO.aY
section
attribute [local go_sem] ba.row db eH dp eS of_flat b6 cR eE et er eG ds dw df cH Fd.row dn dz cD.row dr.row bs.row
def vr:Option (List (bF×Int))→I
 |none=> .ev (.map none)
 |some _=> .c6 0 0
def l9:Option (List (bF×Int))→fm
 |none=>[]
 |some m=>[(0,.bb 184 0 (m.map mF))]
def jb:Option (List (bF×Int))→Nat
 |none=>0
 |some _=>1
def j8:Option (List (bF×Int))→List Nat
 |none=>[]
 |some _=>[0]
def o7:Option (List (bF×Int))→fm→fm
 |none,cX=>cX
 |some m,cX=>(0,.bb 184 0 (m.map mF))::sQ 0 cX
def ff (ck:dL):List I:=[.str ck.x.name,.str ck.x.bM,.str ck.x.gJ,.af 7 (ck.x.vars.map ba.row),.af 4 (ck.x.hs.map bL.row),.af 4 (ck.x.os.map cf.row),.str ck.g.name,.af 1 (ck.g.cC.map b6),.af 5 (ck.g.decls.map bs.row),.int .i64 ck.g.iI,.int .i64 ck.g.start,.int .i64 ck.g.fin,.af 6 (ck.g.cy.map cD.row),.af 3 (ck.g.fH.map dr.row),.int .i64 ck.bM,vr ck.ps]
def kz (ck:dL):aQ:=aQ.of 1 (jb ck.ps) [(0,186,ff ck)] (l9 ck.ps)
theorem wR (m:List (bF×Int)):eN (m.map mF)=true:=lW (fun _=>rfl) m
theorem Zz (ck:dL):ed 1 (jb ck.ps) (ff ck)=true:=by
 obtain⟨x,g,bM,ps⟩:=ck
 cases ps<;>simp only[ff,vr,jb,ed,I.dW,db,dp,of_flat,cR,df,ds,dw,Bool.and_self]<;>rfl
theorem aZ3 (ps:Option (List (bF×Int))):fB 1 (jb ps) (l9 ps)=true:=by
 cases ps<;>simp only[l9,jb,fB,kd,cb.bb,wR,Bool.and_self]<;>rfl
def RK {α:Type}(g:α→I) (ck:dL):cY α→Out→aQ→Prop
 | .ok a=>dR (g a) [(0,186,ff ck)] (l9 ck.ps)
 | .err n e=>th (nn n e)
section
variable {dd:Program}{anns:List I}{l:List bY}{env:Env}{K:Env→aQ→Prop}{Rp:I→aQ→Prop}{f:FuncId}{args:List aJ}{eg:List I}{α β:Type}{g:α→I}{kK:cY α}{R:cY β}{F:α→cY β}{ck:dL}{n t d:Nat}{cK jZ:fl}{cX lL:fm}{c:aQ}{others:List Nat}
def xn {α:Type}(g:α→I):Prop:=∀a,(g a).flat=true
theorem LW (aq:(Nat.blt 0 n&&(Nat.ble (jb ck.ps) t&&ed 1 (jb ck.ps) eg))=true) (fa:hU cK 0=some (186,ff ck)) (dF: ∀m,ck.ps=some m→jD cX 0=some (.bb 184 0 (m.map mF))):
  (nodupB [0]&&nodupB (j8 ck.ps)&&[0].all (fun x=>Nat.blt x (aQ.of n t cK cX).b4)&&(j8 ck.ps).all (fun x=>Nat.blt x (aQ.of n t cK cX).bj))=true∧ox (aQ.of n t cK cX).H.aZ ⟨[0],j8 ck.ps⟩ [(0,186,ff ck)]∧oy (aQ.of n t cK cX).H.tok ⟨[0],j8 ck.ps⟩ (l9 ck.ps)∧(ed 1 (jb ck.ps) eg&&(fA 1 (jb ck.ps) [(0,186,ff ck)]&&fB 1 (jb ck.ps) (l9 ck.ps)))=true∧(j8 ck.ps).length=jb ck.ps∧fw ⟨[0],j8 ck.ps⟩ (ff ck)=ff ck:=by
 simp only[Bool.and_eq_true]at aq
 obtain⟨pU,c1,ci⟩:=aq
 have ai5:fA 1 (jb ck.ps) [(0,186,ff ck)]=true:=by simp only[fA,Zz,Bool.and_true]; rfl
 have ac:fw ⟨[0],j8 ck.ps⟩ (ff ck)=ff ck:=by
  obtain⟨x,g,bM,ps⟩:=ck
  cases ps<;>rfl
 refine⟨?_,⟨by rw[ac]; exact fa,trivial⟩,?_,by rw[ci,ai5,aZ3]; rfl,by cases ck.ps<;>rfl,ac⟩
 ·cases hp:ck.ps with
  |none=>simp only[j8,List.all_cons,List.all_nil,show (aQ.of n t cK cX).b4=n from rfl,pU]; rfl
  |some m=>
   rw[hp]at c1
   simp only[jb]at c1
   have Lo:Nat.blt 0 t=true:=c1
   simp only[j8,List.all_cons,List.all_nil,show (aQ.of n t cK cX).b4=n from rfl,show (aQ.of n t cK cX).bj=t from rfl,pU,Lo]; rfl
 ·cases hp:ck.ps with
  |none=>exact trivial
  |some m=>exact⟨dF m hp,trivial⟩
theorem LX (hb:o5 0 cK=jZ) (aC:o7 ck.ps cX=lL):(aQ.of n t cK cX).li ⟨[0],j8 ck.ps⟩ [(0,186,ff ck)] (l9 ck.ps)=aQ.of n t ((0,186,ff ck)::jZ) lL:=by
 have ac:fw ⟨[0],j8 ck.ps⟩ (ff ck)=ff ck:=by
  obtain⟨x,g,bM,ps⟩:=ck
  cases ps<;>rfl
 rw[oC]
 subst hb aC
 simp only[rL,tM,ac,List.filter_cons,List.filter_nil,List.contains_cons,List.contains_nil,beq_self_eq_true,Bool.true_or,if_true,qW,qq]
 cases ck.ps with
 |none=>simp only[l9,j8,o7,rM,List.filter_nil,rN,qs]
 |some m=>simp only[l9,j8,o7,rM,tM,List.filter_cons,List.filter_nil,List.contains_cons,List.contains_nil,beq_self_eq_true,Bool.true_or,if_true,rN,qs]
theorem D.mf (a7:xn g) (h:aY dd f eg (kz ck) (RK g ck kK)) (ak:R=kK.bind F)
  (aw: ∀a,kK= .ok a→R=F a→au dd anns l ((d,g a)::env) (aQ.of n t ((0,186,ff ck)::jZ) lL) K Rp)
  (aq:(Nat.blt 0 n&&(Nat.ble (jb ck.ps) t&&ed 1 (jb ck.ps) eg))=true:=by simp (disch:=omega) only[go_sem,simprocAttr,jb]<;>rfl) (fa:hU cK 0=some (186,ff ck):=by rfl)
  (dF: ∀m,ck.ps=some m→jD cX 0=some (.bb 184 0 (m.map mF)):=by intro m hm; first|(cases hm; rfl)|cases hm)
  (aL:args.map (bp env)=fw ⟨[0],j8 ck.ps⟩ eg:=by simp (disch:=omega) only[go_sem,simprocAttr]<;>rfl) (gP:o5 0 cK=jZ:=by simp (disch:=omega) only[go_sem,simprocAttr]<;>with_reducible rfl) (n8:o7 ck.ps cX=lL:=by simp (disch:=omega) only[go_sem,simprocAttr,o7]<;>with_reducible rfl) (hp: ∀n e,R= .err n e→∀cV,Rp (nn n e) cV:=by intro n e h cV; rw[h]; exact rfl):
  au dd anns (⟨some d,none,.call f args⟩::l) env (aQ.of n t cK cX) K Rp:=by
 obtain⟨bf,bi,cz,eu,gr,mS⟩:=LW aq fa dF
 match kK,h,ak,aw with
 | .err n e,h,ak,_=>
  have jp:aY dd f eg (aQ.of 1 (jb ck.ps) [(0,186,ff ck)] (l9 ck.ps)) (th (nn n e)):=h
  refine au.AV rfl (aY.xM ⟨[0],j8 ck.ps⟩ jp rfl gr bf bi cz eu rfl rfl rfl) aL (fun v c1 q=> ?_) (fun v c1 q=> ?_)
  ·cases q.1
  ·cases q.1
   exact hp n e ak _
 | .ok a,h,ak,aw=>
  have jp:aY dd f eg (aQ.of 1 (jb ck.ps) [(0,186,ff ck)] (l9 ck.ps)) (dR (g a) [(0,186,ff ck)] (l9 ck.ps)):=h
  have yb:=eu
  simp only[Bool.and_eq_true]at yb
  have e:=aY.p2 (c:=aQ.of n t cK cX) ⟨[0],j8 ck.ps⟩ jp rfl gr bf bi cz eu (by rw[yb.2.1,yb.2.2,tJ _ (a7 a)]; rfl) rfl
  rw[tK _ (a7 a),LX gP n8]at e
  exact au.uB rfl e aL (aw a rfl ak)
theorem D.ul {a:α}(a7:xn g) (h:aY dd f eg (kz ck) (RK g ck (.ok a)))
  (aw:au dd anns l ((d,g a)::env) (aQ.of n t ((0,186,ff ck)::jZ) lL) K Rp)
  (aq:(Nat.blt 0 n&&(Nat.ble (jb ck.ps) t&&ed 1 (jb ck.ps) eg))=true:=by simp (disch:=omega) only[go_sem,simprocAttr,jb]<;>rfl) (fa:hU cK 0=some (186,ff ck):=by rfl)
  (dF: ∀m,ck.ps=some m→jD cX 0=some (.bb 184 0 (m.map mF)):=by intro m hm; first|(cases hm; rfl)|cases hm)
  (aL:args.map (bp env)=fw ⟨[0],j8 ck.ps⟩ eg:=by simp (disch:=omega) only[go_sem,simprocAttr]<;>rfl) (gP:o5 0 cK=jZ:=by simp (disch:=omega) only[go_sem,simprocAttr]<;>with_reducible rfl) (n8:o7 ck.ps cX=lL:=by simp (disch:=omega) only[go_sem,simprocAttr,o7]<;>with_reducible rfl):
  au dd anns (⟨some d,none,.call f args⟩::l) env (aQ.of n t cK cX) K Rp:=
 D.mf (β:=Unit) (R:= .ok ()) (F:=fun _=> .ok ()) a7 h rfl (fun b e _=>by cases e; exact aw) aq fa dF aL gP n8 fun n e h=>nomatch h
theorem Be {P:Program}{aS:List bc}{c8 t0:Nat}{k:List gm}{Q:Out→aQ→Prop}{env:Env}{n t:Nat}{cK:fl}{cX:fm}:av P aS c8 t0 k Q env (aQ.of n (t+1) cK ((t,.bX 0 0 0)::cX)):=av.dead t 0 (by simp only[Iv,jD,beq_self_eq_true,cond_true])
theorem D.Aw (a0:α) (a7:xn g) (h:aY dd f eg (kz ck) (RK g ck kK)) (ak:R=kK.bind F)
  (aw: ∀a,kK= .ok a→R=F a→au dd anns l ((d,g a)::env) (aQ.of n t ((0,186,ff ck)::jZ) lL) K Rp)
  (br:au dd anns l ((d,g a0)::env) (aQ.of n (t+1) cK ((t,.bX 0 0 0)::cX)) K Rp)
  (aq:(Nat.blt 0 n&&(Nat.ble (jb ck.ps) t&&ed 1 (jb ck.ps) eg))=true:=by simp (disch:=omega) only[go_sem,simprocAttr,jb]<;>rfl) (fa:hU cK 0=some (186,ff ck):=by rfl)
  (dF: ∀m,ck.ps=some m→jD cX 0=some (.bb 184 0 (m.map mF)):=by intro m hm; first|(cases hm; rfl)|cases hm)
  (aL:args.map (bp env)=fw ⟨[0],j8 ck.ps⟩ eg:=by simp (disch:=omega) only[go_sem,simprocAttr]<;>rfl) (gP:o5 0 cK=jZ:=by simp (disch:=omega) only[go_sem,simprocAttr]<;>with_reducible rfl) (n8:o7 ck.ps cX=lL:=by simp (disch:=omega) only[go_sem,simprocAttr,o7]<;>with_reducible rfl)
  (eO:ll (aQ.of n t cK cX).H ((0,186,ff ck)::jZ):=by repeat first|exact trivial|refine⟨rfl,?_⟩) (ai9:lm (aQ.of n t cK cX).H lL:=by repeat first|exact trivial|refine⟨rfl,?_⟩)
  (ao:nQ (hU cK) env jZ others:=by repeat first|exact trivial|refine⟨⟨_,_,_,by simp (disch:=omega) only[go_sem,simprocAttr]<;>with_reducible rfl,rfl,rfl,by simp (disch:=omega) only[go_sem,simprocAttr]<;>rfl⟩,?_⟩)
  (hp: ∀n e,R= .err n e→∀cV,Rp (nn n e) cV:=by intro n e h cV; rw[h]; exact rfl):
  au dd anns (⟨some d,none,.gN others f args⟩::l) env (aQ.of n t cK cX) K Rp:=by
 obtain⟨bf,bi,cz,eu,gr,mS⟩:=LW aq fa dF
 have aB0: ∀b1 y,hU jZ b1=some y→(0==b1)=false:=fun b1 y h=>by
  cases b1 with
  |zero=>
   have:=Ji (j:=0) [0] rfl cK
   simp only[qW,gP]at this
   rw[this]at h
   cases h
  |succ n=>rfl
 match kK,h,ak,aw with
 | .err Ik e,h,ak,_=>
  have jp:aY dd f eg (aQ.of 1 (jb ck.ps) [(0,186,ff ck)] (l9 ck.ps)) (th (nn Ik e)):=h
  have bH:aY dd f (args.map (bp env)) (aQ.of n t cK cX) (fun o cV=>o= .e5 (nn Ik e)∧cV=(aQ.of n t cK cX).li ⟨[0],j8 ck.ps⟩ [] []):=by
   rw[aL]
   exact aY.xM ⟨[0],j8 ck.ps⟩ jp rfl gr bf bi cz eu rfl rfl rfl
  refine au.qR (S:=fun bI cV=>bI=g a0∧cV=(aQ.of n t cK cX).hz (.bX 0 0 0)) rfl rfl (ik.mono (ik.FY (others:=others) bH (a7 a0) rfl rfl fun s hs=> ?_) (fun _ _ h=>h) fun v cV q=> ?_) fun bI cV q=> ?_
  ·obtain⟨b1,cO,cE,ar,ax,bU,dl⟩:=nQ.get ao s hs
   refine⟨b1,cO,cE,ar,ax,?_,dl⟩
   rw[oC]
   simp only[rL,List.filter_nil,qq,zR,qW,gP]
   exact bU
  ·rw[q.1]
   exact hp Ik e ak _
  ·rw[q.1,q.2,Cg]
   exact br
 | .ok a,h,ak,aw=>
  have jp:aY dd f eg (aQ.of 1 (jb ck.ps) [(0,186,ff ck)] (l9 ck.ps)) (dR (g a) [(0,186,ff ck)] (l9 ck.ps)):=h
  have yb:=eu
  simp only[Bool.and_eq_true]at yb
  have e:=aY.p2 (c:=aQ.of n t cK cX) ⟨[0],j8 ck.ps⟩ jp rfl gr bf bi cz eu (by rw[yb.2.1,yb.2.2,tJ _ (a7 a)]; rfl) rfl
  rw[tK _ (a7 a),LX gP n8,←aL]at e
  refine au.qR rfl rfl (ik.Dq (others:=others) e (fun b y h=>ll.get eO b y h) (fun t y h=>lm.get ai9 t y h) rfl rfl (a7 a) fun s hs=> ?_) fun bI cV q=> ?_
  ·obtain⟨b1,cO,cE,ar,ax,bU,dl⟩:=nQ.get ao s hs
   exact⟨b1,cO,cE,ar,ax,by simp only[zR,hU,aB0 b1 _ bU,cond_false]; exact bU,dl⟩
  ·rw[q.1,q.2]
   exact aw a rfl ak
theorem D.M {b:Bool}{s:bF}{e:Int}{F:Unit→cY β}{l:List bY}{env:Env}{args:List aJ}(ak:R=(gh b s e).bind F) (aw:b=true→R=F ()→au Tryz.prog anns l ((d,.cT [])::env) c K Rp)
  (aL:args.map (bp env)=[.bool b,.str s,.int .i64 e]:=by simp (disch:=omega) only[go_sem,simprocAttr]<;>with_reducible rfl) (hp: ∀n e,R= .err n e→∀cV,Rp (nn n e) cV:=by intro n e h cV; rw[h]; exact rfl):
  au Tryz.prog anns (⟨some d,none,.call 84 args⟩::l) env c K Rp:=by
 cases b with
 |true=>exact au.IN (J8 s e) aL rfl rfl rfl (aw rfl (by rw[ak]; rfl))
 |false=>
  refine au.AV rfl (aY.xM (c:=c) ⟨[],[]⟩ (J7 s e) rfl rfl rfl trivial trivial rfl rfl rfl rfl) (by rw[aL]; rfl) (fun v c1 q=> ?_) (fun v c1 q=> ?_)
  ·cases q.1
  ·cases q.1
   exact hp s e (by rw[ak]; rfl) _
theorem D.iy {aS:List bc}{c8 t0:Nat}{k:List gm}{Q:Out→aQ→Prop}{b:Bool}{s:bF}{e:Int}{F:Unit→cY β}{env:Env}{args:List aJ}(ak:R=(gh b s e).bind F) (aw:b=true→R=F ()→av Tryz.prog aS c8 t0 k Q ((d,.cT [])::env) (aQ.of n t cK cX))
  (aL:args.map (bp env)=[.bool b,.str s,.int .i64 e]:=by simp (disch:=omega) only[go_sem,simprocAttr]<;>with_reducible rfl)
  (ao:nQ (hU cK) env cK others:=by repeat first|exact trivial|refine⟨⟨_,_,_,by simp (disch:=omega) only[go_sem,simprocAttr]<;>with_reducible rfl,rfl,rfl,by simp (disch:=omega) only[go_sem,simprocAttr]<;>rfl⟩,?_⟩)
  (hp: ∀n e,R= .err n e→∀cV,Q (.e5 (nn n e)) cV:=by intro n e h cV; rw[h]; exact rfl):
  au Tryz.prog [] [⟨some d,none,.gN others 84 args⟩] env (aQ.of n t cK cX) (fun e c1=>av Tryz.prog aS c8 t0 k Q e c1) (fun v c1=>Q (.e5 v) c1):=by
 cases b with
 |true=>
  refine au.qR rfl rfl (ik.Dq (others:=others) (aY.It (J8 s e) rfl rfl (by rw[aL]; rfl)) (fun _ _ h=>h) (fun _ _ h=>h) rfl rfl rfl fun s hs=> ?_) fun bI cV q=> ?_
  ·exact nQ.get ao s hs
  ·rw[q.1,q.2]
   exact au.nil (aw rfl (by rw[ak]; rfl))
 |false=>
  have bH:aY Tryz.prog 84 (args.map (bp env)) (aQ.of n t cK cX) (fun o cV=>o= .e5 (nn s e)∧cV=(aQ.of n t cK cX).li ⟨[],[]⟩ [] []):=by
   rw[aL]
   exact aY.xM ⟨[],[]⟩ (J7 s e) rfl rfl rfl trivial trivial rfl rfl rfl rfl
  refine au.qR (S:=fun bI cV=>bI= .cT []∧cV=(aQ.of n t cK cX).hz (.bX 0 0 0)) rfl rfl (ik.mono (ik.FY (others:=others) bH rfl rfl rfl fun s hs=> ?_) (fun _ _ h=>h) fun v cV q=> ?_) fun bI cV q=> ?_
  ·obtain⟨b1,cO,cE,ar,ax,_,bU⟩:=nQ.get ao s hs
   refine⟨b1,cO,cE,ar,ax,?_,bU⟩
   rw[oC]
   exact ax
  ·rw[q.1]
   exact hp s e (by rw[ak]; rfl) _
  ·rw[q.1,q.2,Cg]
   exact au.nil Be
end
end
section
attribute [local go_sem] ba.row db eH dp eS of_flat b6 cR eE et er eG ds dw df cH Fd.row dn dz cD.row dr.row bs.row ff vr l9 jb j8 o7 al.cr ai.cr al.ch ai.ch al.ew ai.ew wR
theorem a43 (w v:ba):aY Tryz.prog 161 [.agg (ba.row w),.ptr 0 0] (aQ.of 1 0 [(0,146,ba.row v)] []) (dR (.bool (decide (w.name=v.name))) [(0,146,ba.row v)] []):=by
 refine aY.intro bb Tryz.func161 Xn ?_
 unfold MS SO
 simp(disch:=omega)only[go_sem,simprocAttr]
 refine aj ?_
 refine D.r ?_
 exact⟨rfl,⟨rfl,trivial⟩,trivial⟩
theorem a64 (n:bF) (v:ba):aY Tryz.prog 265 [.agg (ba.row v),.ptr 0 0] (aQ.of 1 0 [(0,9,[.str n])] []) (dR (.bool (decide (v.name=n))) [(0,9,[.str n])] []):=by
 refine aY.intro bb Tryz.func265 X7 ?_
 unfold Ny Tz
 simp(disch:=omega)only[go_sem,simprocAttr]
 refine aj ?_
 refine D.r ?_
 exact⟨rfl,⟨rfl,trivial⟩,trivial⟩
theorem a79 (n:bF) (d:bs):aY Tryz.prog 341 [.agg (bs.row d),.ptr 0 0] (aQ.of 1 0 [(0,9,[.str n])] []) (dR (.bool (decide (d.name=n))) [(0,9,[.str n])] []):=by
 refine aY.intro bb Tryz.func341 YA ?_
 unfold NX T4
 simp(disch:=omega)only[go_sem,simprocAttr]
 refine aj ?_
 refine D.r ?_
 exact⟨rfl,⟨rfl,trivial⟩,trivial⟩
theorem a45 (h o:bL):aY Tryz.prog 165 [.agg (bL.row o),.ptr 0 0] (aQ.of 1 0 [(0,84,bL.row h)] []) (dR (.bool (decide (o.c7=h.c7)&&decide (o.peer=h.peer))) [(0,84,bL.row h)] []):=by
 refine aY.intro bb Tryz.func165 Xq ?_
 unfold MV SR
 simp(disch:=omega)only[go_sem,simprocAttr]
 (repeat' first|refine D.S ?_|refine D.jd true true ?_|refine au.nil ?_|refine av.dN ?_|refine D.W ?_|refine D.Z ?_|refine D.G ?_ ?_|refine D.X ‹_› ?_|refine D.jY ‹_› ?_|refine D.lo ‹_› ?_|intro h|refine D.C ?_ ?_)
 all_goals
  refine D.r ?_
  refine⟨?_,⟨rfl,trivial⟩,trivial⟩
  simp_all
theorem a63 (a b c:Int) (e:cD):aY Tryz.prog 264 [.agg (cD.row e),.ptr 0 0] (aQ.of 1 0 [(0,74,[.int .i64 a,.int .i64 b,.int .i64 c])] []) (dR (.bool (decide (e.oO=a)&&(decide (e.ri=b)&&decide (e.re=c)))) [(0,74,[.int .i64 a,.int .i64 b,.int .i64 c])] []):=by
 refine aY.intro bb Tryz.func264 X6 ?_
 unfold Nx Ty
 simp(disch:=omega)only[go_sem,simprocAttr]
 refine aj ?_
 refine D.r ?_
 refine⟨?_,⟨rfl,trivial⟩,trivial⟩
 simp [h9,po]
theorem a67 (k x:Int):aY Tryz.prog 269 [.int .i64 x,.ptr 0 0] (aQ.of 1 0 [(0,3,[.int .i64 k])] []) (dR (.bool (!decide (x=k))) [(0,3,[.int .i64 k])] []):=by
 refine aY.intro bb Tryz.func269 Ya ?_
 unfold NB TC
 simp(disch:=omega)only[go_sem,simprocAttr]
 refine aj ?_
 refine D.r ?_
 refine⟨?_,⟨rfl,trivial⟩,trivial⟩
 simp
theorem ax1:di Tryz.prog 161=true:=by kernel_rfl
theorem ax8:di Tryz.prog 265=true:=by kernel_rfl
theorem ay1:di Tryz.prog 341=true:=by kernel_rfl
theorem ax2:di Tryz.prog 165=true:=by kernel_rfl
theorem ax7:di Tryz.prog 264=true:=by kernel_rfl
theorem ax9:di Tryz.prog 269=true:=by kernel_rfl
theorem rD:di Tryz.prog 267=true:=by kernel_rfl
theorem Wh (aT:List Int) (k:Int):(!(aT.any fun x=> !decide (x=k)))=xt aT k:=by
 unfold xt
 induction aT with
 |nil=>rfl
 |cons x l bB=>simp only[List.any_cons,List.all_cons,←bB,Bool.not_or,Bool.not_not]
theorem VH (aT:List Int) (k:Int) (aC:aT.length≤1000000000000):aY Tryz.prog 267 [.int .i64 k,.ptr 0 0] (aQ.of 1 0 [(0,60,[.af 1 (aT.map cH)])] []) (dR (.bool (xt aT k)) [(0,60,[.af 1 (aT.map cH)])] []):=by
 have e:=a66 (T:=3) (cs:=[.int .i64 k]) ax9 rfl rfl (fun x=> !decide (x=k)) aT aC fun x _=>a67 k x
 have eh:=Wh aT k
 generalize (aT.any fun x=> !decide (x=k))=b at e eh
 refine aY.intro bb Tryz.func267 X8 ?_
 unfold Nz TA
 simp(disch:=omega)only[go_sem,simprocAttr]
 refine aj ?_
 refine D.F ⟨[1],[]⟩ (e) ?_
 refine aj ?_
 refine D.r ?_
 exact⟨by rw[←eh],⟨rfl,trivial⟩,trivial⟩
theorem EM {α:Type}(g:α→Bool): ∀(l:List α) (i:Nat),(∃p v,dt (fun v=> !g v) l i=((i+p:Nat):Int)∧l[p]? =some v∧g v=true∧l.find? g=some v)∨(dt (fun v=> !g v) l i= -1∧l.find? g=none)
 |[],_=> .inr ⟨rfl,rfl⟩
 |x::l,i=>by
  simp only[dt,List.find?_cons]
  cases ab:g x with
  |true=>exact .inl ⟨0,x,by simp,rfl,ab,rfl⟩
  |false=>
   rcases EM g l (i+1) with ⟨p,v,U,aa,ay,bl⟩|⟨U,aa⟩
   ·exact .inl ⟨p+1,v,by simp only[Bool.not_false,cond_true,U]; omega,by simpa using aa,ay,bl⟩
   ·exact .inr ⟨U,aa⟩
theorem a61 (ck:dL) (n:bF) (aC:ck.g.decls.length≤1000000000000):aY Tryz.prog 262 [.ptr 0 0,.str n] (kz ck) (RK (fun z:Int=> .int .i64 z) ck (.ok (jn ck.g n))):=by
 obtain⟨x,g,bM,ps⟩:=ck
 have e:=JZ (T:=9) (cs:=[.str n]) ay1 rfl rfl (fun d=>decide (d.name=n)) g.decls aC fun d _=>a79 n d
 simp only[jn]at e ⊢
 generalize dt (fun v=> !decide (v.name=n)) g.decls 0=z at e ⊢
 simp only[RK,kz]
 cases ps
 all_goals
  refine aY.intro bb Tryz.func262 X4 ?_
  unfold Nv Tw
  simp(disch:=omega)only[go_sem,simprocAttr]
  refine aj ?_
  refine D.F ⟨[1],[]⟩ (e) ?_
  refine aj ?_
  refine D.r ?_
  exact⟨rfl,⟨rfl,trivial⟩,by first|exact trivial|exact⟨rfl,trivial⟩⟩
def uL (o:Option ba):I:= .cT [.agg (ba.row (o.getD CQ)),.bool o.isSome]
theorem wv:xn uL:=fun _=>rfl
theorem J1 (ck:dL) (n:bF) (aC:ck.x.vars.length≤1000000000000):aY Tryz.prog 166 [.ptr 0 0,.str n] (kz ck) (RK uL ck (.ok (varOf ck.x.vars n))):=by
 obtain⟨x,g,bM,ps⟩:=ck
 have e:=J4 (T:=9) (cs:=[.str n]) ax8 rfl rfl (fun v=>decide (v.name=n)) x.vars aC fun v _=>a64 n v
 simp only[RK,kz,varOf,uL]
 have hs:=EM (fun v:ba=>decide (v.name=n)) x.vars 0
 generalize dt (fun v=> !decide (v.name=n)) x.vars 0=z at e hs
 generalize x.vars.find? (fun v=>decide (v.name=n))=o at hs ⊢
 rcases hs with ⟨p,v,U,aa,_,bl⟩|⟨U,aa⟩
 ·subst bl
  have d1: ¬z<0:=by omega
  have d2:z=(p:Int):=by omega
  cases ps
  all_goals
   refine aY.intro bb Tryz.func166 Lr ?_
   unfold Gz I3
   simp(disch:=omega)only[go_sem,simprocAttr]
   refine aj ?_
   refine D.F ⟨[1],[]⟩ (e) ?_
   (have ah:=d1;refine bE ?_;clear ah)
   refine aj ?_
   refine D.r ?_
   exact⟨rfl,⟨rfl,trivial⟩,by first|exact trivial|exact⟨rfl,trivial⟩⟩
 ·subst aa
  have d1:z<0:=by omega
  cases ps
  all_goals
   refine aY.intro bb Tryz.func166 Lr ?_
   unfold Gz I3
   simp(disch:=omega)only[go_sem,simprocAttr]
   refine aj ?_
   refine D.F ⟨[1],[]⟩ (e) ?_
   (have ah:=d1;refine bE ?_;clear ah)
   refine D.r ?_
   exact⟨rfl,⟨rfl,trivial⟩,by first|exact trivial|exact⟨rfl,trivial⟩⟩
end
section
attribute [local go_sem] ba.row db eH dp eS of_flat b6 cR eE et er eG ds dw df cH Fd.row dn dz cD.row dr.row bs.row ff vr l9 jb j8 o7 al.cr ai.cr al.ch ai.ch al.ew ai.ew wR
def p3:Unit→I:=fun _=> .cT []
def uK:Int→I:=fun z=> .int .i64 z
theorem si:xn p3:=fun _=>rfl
theorem rq:xn uK:=fun _=>rfl
attribute [local go_sem] p3 uK uL
theorem a68 (ck:dL) (n:bF) (aC:ck.x.vars.length≤1000000000000):aY Tryz.prog 270 [.ptr 0 0,.str n] (kz ck) (RK uK ck (qP ck n)):=by
 obtain⟨R,ak⟩: ∃R,R=qP ck n:=⟨_,rfl⟩
 rw[←ak]
 have e:=J1 ck n aC
 obtain⟨x,g,bM,ps⟩:=ck
 have Hi: ∀k,(dL.mk x g bM ps).look n=some k→R= .ok k:=fun k h=>by rw[ak]; simp only[qP,h]
 have xW:(dL.mk x g bM ps).look n=none→R=(gh (varOf x.vars n).isSome n 10).bind fun _=> .ok ((varOf x.vars n).getD CQ).ig:=fun h=>by
  rw[ak]
  simp only[qP,h]
  cases varOf x.vars n<;>rfl
 clear ak
 simp only at e
 generalize varOf x.vars n=o at e xW
 unfold kz
 cases ps with
 |none=>
  have xW:=xW rfl
  refine aY.intro bb Tryz.func270 FR ?_
  unfold tC EX
  simp(disch:=omega)only[go_sem,simprocAttr]
  refine aj ?_
  refine D.Qr ?_
  refine aj ?_
  refine D.ul wv e ?_
  refine aj ?_
  refine D.M xW fun aa ak=> ?_
  refine aj ?_
  refine D.r ?_
  rw[ak]
  exact⟨rfl,⟨rfl,trivial⟩,trivial⟩
 |some m=>
  cases hm:k9 n m with
  |some k=>
   have ak:=Hi k hm
   refine aY.intro bb Tryz.func270 FR ?_
   unfold tC EX
   simp(disch:=omega)only[go_sem,simprocAttr]
   refine aj ?_
   refine D.yg (m:=m) ?_
   simp only[hm,Option.isSome_some,Option.isSome_none,Option.getD_some,Option.getD_none]
   refine aj ?_
   refine D.r ?_
   rw[ak]
   exact⟨rfl,⟨rfl,trivial⟩,⟨rfl,trivial⟩⟩
  |none=>
   have xW:=xW hm
   refine aY.intro bb Tryz.func270 FR ?_
   unfold tC EX
   simp(disch:=omega)only[go_sem,simprocAttr]
   refine aj ?_
   refine D.yg (m:=m) ?_
   simp only[hm,Option.isSome_some,Option.isSome_none,Option.getD_some,Option.getD_none]
   refine aj ?_
   refine D.ul wv e ?_
   refine aj ?_
   refine D.M xW fun aa ak=> ?_
   refine aj ?_
   refine D.r ?_
   rw[ak]
   exact⟨rfl,⟨rfl,trivial⟩,⟨rfl,trivial⟩⟩
end
section
attribute [local go_sem] ba.row db eH dp eS of_flat b6 cR eE et er eG ds dw df cH Fd.row dn dz cD.row dr.row bs.row ff vr l9 jb j8 o7 al.cr ai.cr al.ch ai.ch al.ew ai.ew wR
attribute [local go_sem] p3 uK uL
theorem Qc {ck:dL}{l:List al}{i:Nat}{x:al}{α:Type}{F:List Int→cY α}(h:l[i]? =some x):(k8 ck (l.drop i)).bind F=(kk ck x).bind fun a=>(k8 ck (l.drop (i+1))).bind fun bQ=>F (a::bQ):=by
 rw[fY h]
 simp only[k8]
 cases kk ck x<;>simp only[cY.bind]
 cases k8 ck (l.drop (i+1))<;>rfl
theorem Bi: ∀ {l:List al}{i:Nat}{x:al},lx l=true→l[i]? =some x→jo x=true
 |y::l,0,x,h,e=>by simp only[lx,Bool.and_eq_true]at h; simp at e; subst e; exact h.1
 |y::l,i+1,x,h,e=>by simp only[lx,Bool.and_eq_true]at h; exact Bi (l:=l) (i:=i) h.2 (by simpa using e)
 |[],_,_,_,e=>by simp at e
theorem cY.AK {α:Type}(r:cY α):r.bind cY.ok=r:=by cases r<;>rfl
theorem J2 (ck:dL) (aC:ck.x.vars.length≤1000000000000): ∀(N:Nat) (x:al),x.bJ≤N→N≤1000000→jo x=true→aY Tryz.prog 168 [.ptr 0 0,.agg x.row] (kz ck) (RK uK ck (kk ck x)):=by
 obtain⟨bT,g,bM,ps⟩:=ck
 intro N
 induction N with
 |zero=>intro x ab; obtain⟨k,o,m,t,n,l⟩:=x; simp only[al.bJ]at ab; omega
 |succ N bB=>
 intro x cW hb a7
 obtain⟨k,o,m,t,n,l⟩:=x
 have n5:l.length≤1000000:=by have:=al.fT l; simp only[al.bJ]at cW; omega
 obtain⟨R,ak⟩: ∃R,R=kk ⟨bT,g,bM,ps⟩ (.mk k o m t n l):=⟨_,rfl⟩
 rw[←ak]
 simp only[kk]at ak
 simp only[jo,Bool.and_eq_true]at a7
 obtain⟨iS,jg⟩:=a7
 have tC:=a68 ⟨bT,g,bM,ps⟩ m aC
 unfold kz at tC ⊢
 cases ps with
 |none=>
  refine aY.intro bb Tryz.func168 Ls ?_
  unfold GA I4
  simp(disch:=omega)only[go_sem,simprocAttr]
  refine aj ?_
  refine av.ou 2 0 1 3 (T:=60) (cs:=[.aD]) rfl rfl (by decide) ?_
  simp(disch:=omega)only[go_sem,simprocAttr]
  refine av.c5 (X:=Nat×List Int) (0,[]) (fun q=>[(0,.ptr 0 0),(3,.ptr 1 0),(5,.ptr 2 0),(10,.af 6 (l.map al.row)),(11,.int .i64 ((l.map al.row).length:Int)),(12,.int .i64 (q.1:Int))]) (fun q=>[(0,186,ff ⟨bT,g,bM,none⟩),(1,80,[.int .i64 k,.str o,.str m,.str t,.int .i64 n,.af 6 (l.map al.row)]),(2,60,[.own 0 1 (q.2.map cH)])]) (fun q=>[(0,.bX 3 1 (q.2.map cH).length)]) (fun q=>q.1≤l.length∧q.2.length=q.1∧R=(k8 ⟨bT,g,bM,none⟩ (l.drop q.1)).bind fun aT=>qm ⟨bT,g,bM,none⟩ k o m (q.2++aT)) (fun q=>l.length-q.1) ⟨Nat.zero_le _,rfl,ak⟩ ⟨rfl,rfl,rfl,rfl,rfl,rfl,trivial⟩ ⟨rfl,rfl,rfl,trivial⟩ ⟨rfl,trivial⟩ ?_
  clear ak
  rintro⟨i,acc⟩ ⟨ad,aL,ak⟩
  try simp only at ad aL ak ⊢
  cases ae:l[i]? with
  |some y=>
   have cB:=(List.getElem?_eq_some_iff.1 ae).1
   have d1:(i:Int)<((l.map al.row).length:Int):=by rw[List.length_map]; omega
   have hm:=al.nx ae
   have p0:=bB y (by simp only[al.bJ]at cW; omega) (by omega) (Bi jg ae)
   rw[Qc ae]at ak
   clear bB tC
   obtain⟨s9,yQ,yP,vM,vL,yO⟩:=y
   simp(disch:=omega)only[go_sem,simprocAttr]at p0
   (have ah:=d1;refine bE ?_;clear ah)
   refine D.Aw 0 rq p0 ak (fun a U ak=> ?_) ?_
   ·refine aj ?_
    refine D.hQ ?_
    refine aj ?_
    refine av.gi (i+1,acc++[a]) ⟨by omega,by rw[List.length_append,aL]; rfl,by rw[ak]; simp only[List.append_assoc,List.cons_append,List.nil_append]⟩ ⟨rfl,rfl,rfl,rfl,rfl,by simp only[Int.natCast_add]; rfl,trivial⟩ ⟨rfl,rfl,by simp only[List.map_append]; rfl,trivial⟩ ⟨by simp only[List.map_append,List.length_append]; rfl,trivial⟩ (by show l.length-(i+1)<l.length-i; omega)
   ·refine aj ?_
    refine D.hQ ?_
    refine aj ?_
    first|exact av.dead 1 0 rfl|exact av.dead 2 0 rfl
  |none=>
   have cg:=List.getElem?_eq_none_iff.1 ae
   have cA:i=l.length:=by omega
   have d1: ¬(i:Int)<((l.map al.row).length:Int):=by rw[List.length_map]; omega
   rw[List.drop_eq_nil_of_le cg]at ak
   simp only[k8,cY.bind,List.append_nil]at ak
   subst cA
   clear ae cg bB ad jg
   have eh:=VH acc
   refine av.Kj 2 0 1 0 (T:=60) (cs:=[.own 0 1 (acc.map cH)]) (rows:=acc.map cH) rfl rfl (eE acc) ?_
   simp(disch:=omega)only[go_sem,simprocAttr]
   by_cases aa:k=2
   ·subst aa
    (have ah:=d1;refine bE ?_;clear ah)
    refine D.r ?_
    rw[ak]
    exact⟨rfl,⟨rfl,trivial⟩,trivial⟩
   by_cases ay:k=3
   ·subst ay
    have ak:R=(qP ⟨bT,g,bM,none⟩ m).bind cY.ok:=by rw[ak,cY.AK]; rfl
    (have ah:=d1;refine bE ?_;clear ah)
    refine D.mf rq tC ak fun a U ak=> ?_
    refine aj ?_
    refine D.r ?_
    rw[ak]
    exact⟨rfl,⟨rfl,trivial⟩,trivial⟩
   simp only[qm,if_neg aa,if_neg ay]at ak
   by_cases bl:k=4
   ·subst bl
    rw[if_pos rfl]at ak
    (have ah:=d1;refine bE ?_;clear ah)
    refine D.vS ⟨[2],[]⟩ rD (eh 2 (by omega)) ?_
    refine aj ?_
    refine D.M ak fun U ak=> ?_
    refine aj ?_
    refine D.r ?_
    rw[ak]
    exact⟨rfl,⟨rfl,trivial⟩,trivial⟩
   rw[if_neg bl]at ak
   by_cases bW:k=5
   ·subst bW
    rw[if_pos rfl]at ak
    (have ah:=d1;refine bE ?_;clear ah)
    refine D.td ⟨[2],[]⟩ rD (eh 1 (by omega)) ?_
    refine aj ?_
    refine D.iy ak fun U ak=> ?_
    refine aj ?_
    refine D.r ?_
    rw[ak]
    exact⟨rfl,⟨rfl,trivial⟩,trivial⟩
   rw[if_neg bW]at ak
   by_cases eL:k=6
   rotate_left
   ·rw[if_neg eL]at ak
    simp only[im,if_neg aa,if_neg ay,if_neg bl,if_neg bW,if_neg eL]at iS
    by_cases U:k=1
    ·subst U
     (have ah:=d1;refine bE ?_;clear ah)
     refine D.r ?_
     rw[ak]
     exact⟨rfl,⟨rfl,trivial⟩,trivial⟩
    ·rw[if_neg U]at iS
     cases iS
   subst eL
   rw[if_pos rfl]at ak
   have wJ:acc.length=2:=by
    simp only[im,if_neg aa,if_neg ay,if_neg bl,if_neg bW,if_pos]at iS
    rw[if_neg (by decide)]at iS
    simp only[Bool.and_eq_true,decide_eq_true_eq]at iS
    exact aL.trans iS.2.1
   clear iS
   obtain⟨pz,sC,rfl⟩: ∃pz sC,acc=[pz,sC]:=by
    match acc,wJ with
    |[pz,sC],_=>exact⟨pz,sC,rfl⟩
   clear aL wJ
   simp only[List.headD_cons]at ak
   by_cases eF:o=[43]
   ·subst eF
    rw[if_neg (by simp),if_pos rfl]at ak
    (have ah:=d1;refine bE ?_;clear ah)
    refine D.td ⟨[2],[]⟩ rD (eh pz (by decide:2≤1000000000000)) ?_
    refine aj ?_
    refine D.iy ak fun U ak=> ?_
    refine aj ?_
    refine D.r ?_
    rw[ak]
    exact⟨rfl,⟨rfl,trivial⟩,trivial⟩
   rw[if_neg eF]at ak
   by_cases eR:o=[61,61]
   ·subst eR
    rw[if_neg (by simp)]at ak
    (have ah:=d1;have z2:=eF;refine eM ?_;clear ah z2)
    refine D.td ⟨[2],[]⟩ rD (eh pz (by decide:2≤1000000000000)) ?_
    refine aj ?_
    refine D.iy ak fun U ak=> ?_
    (have ah:=eF;refine bE ?_;clear ah)
    refine D.r ?_
    rw[ak]
    exact⟨rfl,⟨rfl,trivial⟩,trivial⟩
   by_cases mW:o=[33,61]
   ·subst mW
    rw[if_neg (by simp)]at ak
    (have ah:=d1;have z2:=eF;have z3:=eR;refine dE ?_;clear ah z2 z3)
    refine D.td ⟨[2],[]⟩ rD (eh pz (by decide:2≤1000000000000)) ?_
    refine aj ?_
    refine D.iy ak fun U ak=> ?_
    (have ah:=eF;refine bE ?_;clear ah)
    refine D.r ?_
    rw[ak]
    exact⟨rfl,⟨rfl,trivial⟩,trivial⟩
   rw[if_pos ⟨eF,eR,mW⟩]at ak
   (have ah:=d1;have z2:=eF;have z3:=And.intro eR mW;refine dE ?_;clear ah z2 z3)
   refine D.td ⟨[2],[]⟩ rD (eh 1 (by decide:2≤1000000000000)) ?_
   refine aj ?_
   refine D.iy ak fun U ak=> ?_
   refine aj ?_
   refine D.r ?_
   rw[ak]
   exact⟨rfl,⟨rfl,trivial⟩,trivial⟩
 |some nz=>
  refine aY.intro bb Tryz.func168 Ls ?_
  unfold GA I4
  simp(disch:=omega)only[go_sem,simprocAttr]
  refine aj ?_
  refine av.ou 2 0 1 3 (T:=60) (cs:=[.aD]) rfl rfl (by decide) ?_
  simp(disch:=omega)only[go_sem,simprocAttr]
  refine av.c5 (X:=Nat×List Int) (0,[]) (fun q=>[(0,.ptr 0 0),(3,.ptr 1 0),(5,.ptr 2 0),(10,.af 6 (l.map al.row)),(11,.int .i64 ((l.map al.row).length:Int)),(12,.int .i64 (q.1:Int))]) (fun q=>[(0,186,ff ⟨bT,g,bM,(some nz)⟩),(1,80,[.int .i64 k,.str o,.str m,.str t,.int .i64 n,.af 6 (l.map al.row)]),(2,60,[.own 1 1 (q.2.map cH)])]) (fun q=>[(1,.bX 3 1 (q.2.map cH).length),(0,.bb 184 0 (nz.map mF))]) (fun q=>q.1≤l.length∧q.2.length=q.1∧R=(k8 ⟨bT,g,bM,(some nz)⟩ (l.drop q.1)).bind fun aT=>qm ⟨bT,g,bM,(some nz)⟩ k o m (q.2++aT)) (fun q=>l.length-q.1) ⟨Nat.zero_le _,rfl,ak⟩ ⟨rfl,rfl,rfl,rfl,rfl,rfl,trivial⟩ ⟨rfl,rfl,rfl,trivial⟩ ⟨rfl,⟨rfl,trivial⟩⟩ ?_
  clear ak
  rintro⟨i,acc⟩ ⟨ad,aL,ak⟩
  try simp only at ad aL ak ⊢
  cases ae:l[i]? with
  |some y=>
   have cB:=(List.getElem?_eq_some_iff.1 ae).1
   have d1:(i:Int)<((l.map al.row).length:Int):=by rw[List.length_map]; omega
   have hm:=al.nx ae
   have p0:=bB y (by simp only[al.bJ]at cW; omega) (by omega) (Bi jg ae)
   rw[Qc ae]at ak
   clear bB tC
   obtain⟨s9,yQ,yP,vM,vL,yO⟩:=y
   simp(disch:=omega)only[go_sem,simprocAttr]at p0
   (have ah:=d1;refine bE ?_;clear ah)
   refine D.Aw 0 rq p0 ak (fun a U ak=> ?_) ?_
   ·refine aj ?_
    refine D.hQ ?_
    refine aj ?_
    refine av.gi (i+1,acc++[a]) ⟨by omega,by rw[List.length_append,aL]; rfl,by rw[ak]; simp only[List.append_assoc,List.cons_append,List.nil_append]⟩ ⟨rfl,rfl,rfl,rfl,rfl,by simp only[Int.natCast_add]; rfl,trivial⟩ ⟨rfl,rfl,by simp only[List.map_append]; rfl,trivial⟩ ⟨by simp only[List.map_append,List.length_append]; rfl,⟨rfl,trivial⟩⟩ (by show l.length-(i+1)<l.length-i; omega)
   ·refine aj ?_
    refine D.hQ ?_
    refine aj ?_
    first|exact av.dead 1 0 rfl|exact av.dead 2 0 rfl
  |none=>
   have cg:=List.getElem?_eq_none_iff.1 ae
   have cA:i=l.length:=by omega
   have d1: ¬(i:Int)<((l.map al.row).length:Int):=by rw[List.length_map]; omega
   rw[List.drop_eq_nil_of_le cg]at ak
   simp only[k8,cY.bind,List.append_nil]at ak
   subst cA
   clear ae cg bB ad jg
   have eh:=VH acc
   refine av.Kj 2 0 1 1 (T:=60) (cs:=[.own 1 1 (acc.map cH)]) (rows:=acc.map cH) rfl rfl (eE acc) ?_
   simp(disch:=omega)only[go_sem,simprocAttr]
   by_cases aa:k=2
   ·subst aa
    (have ah:=d1;refine bE ?_;clear ah)
    refine D.r ?_
    rw[ak]
    exact⟨rfl,⟨rfl,trivial⟩,⟨rfl,trivial⟩⟩
   by_cases ay:k=3
   ·subst ay
    have ak:R=(qP ⟨bT,g,bM,(some nz)⟩ m).bind cY.ok:=by rw[ak,cY.AK]; rfl
    (have ah:=d1;refine bE ?_;clear ah)
    refine D.mf rq tC ak fun a U ak=> ?_
    refine aj ?_
    refine D.r ?_
    rw[ak]
    exact⟨rfl,⟨rfl,trivial⟩,⟨rfl,trivial⟩⟩
   simp only[qm,if_neg aa,if_neg ay]at ak
   by_cases bl:k=4
   ·subst bl
    rw[if_pos rfl]at ak
    (have ah:=d1;refine bE ?_;clear ah)
    refine D.vS ⟨[2],[]⟩ rD (eh 2 (by omega)) ?_
    refine aj ?_
    refine D.M ak fun U ak=> ?_
    refine aj ?_
    refine D.r ?_
    rw[ak]
    exact⟨rfl,⟨rfl,trivial⟩,⟨rfl,trivial⟩⟩
   rw[if_neg bl]at ak
   by_cases bW:k=5
   ·subst bW
    rw[if_pos rfl]at ak
    (have ah:=d1;refine bE ?_;clear ah)
    refine D.td ⟨[2],[]⟩ rD (eh 1 (by omega)) ?_
    refine aj ?_
    refine D.iy ak fun U ak=> ?_
    refine aj ?_
    refine D.r ?_
    rw[ak]
    exact⟨rfl,⟨rfl,trivial⟩,⟨rfl,trivial⟩⟩
   rw[if_neg bW]at ak
   by_cases eL:k=6
   rotate_left
   ·rw[if_neg eL]at ak
    simp only[im,if_neg aa,if_neg ay,if_neg bl,if_neg bW,if_neg eL]at iS
    by_cases U:k=1
    ·subst U
     (have ah:=d1;refine bE ?_;clear ah)
     refine D.r ?_
     rw[ak]
     exact⟨rfl,⟨rfl,trivial⟩,⟨rfl,trivial⟩⟩
    ·rw[if_neg U]at iS
     cases iS
   subst eL
   rw[if_pos rfl]at ak
   have wJ:acc.length=2:=by
    simp only[im,if_neg aa,if_neg ay,if_neg bl,if_neg bW,if_pos]at iS
    rw[if_neg (by decide)]at iS
    simp only[Bool.and_eq_true,decide_eq_true_eq]at iS
    exact aL.trans iS.2.1
   clear iS
   obtain⟨pz,sC,rfl⟩: ∃pz sC,acc=[pz,sC]:=by
    match acc,wJ with
    |[pz,sC],_=>exact⟨pz,sC,rfl⟩
   clear aL wJ
   simp only[List.headD_cons]at ak
   by_cases eF:o=[43]
   ·subst eF
    rw[if_neg (by simp),if_pos rfl]at ak
    (have ah:=d1;refine bE ?_;clear ah)
    refine D.td ⟨[2],[]⟩ rD (eh pz (by decide:2≤1000000000000)) ?_
    refine aj ?_
    refine D.iy ak fun U ak=> ?_
    refine aj ?_
    refine D.r ?_
    rw[ak]
    exact⟨rfl,⟨rfl,trivial⟩,⟨rfl,trivial⟩⟩
   rw[if_neg eF]at ak
   by_cases eR:o=[61,61]
   ·subst eR
    rw[if_neg (by simp)]at ak
    (have ah:=d1;have z2:=eF;refine eM ?_;clear ah z2)
    refine D.td ⟨[2],[]⟩ rD (eh pz (by decide:2≤1000000000000)) ?_
    refine aj ?_
    refine D.iy ak fun U ak=> ?_
    (have ah:=eF;refine bE ?_;clear ah)
    refine D.r ?_
    rw[ak]
    exact⟨rfl,⟨rfl,trivial⟩,⟨rfl,trivial⟩⟩
   by_cases mW:o=[33,61]
   ·subst mW
    rw[if_neg (by simp)]at ak
    (have ah:=d1;have z2:=eF;have z3:=eR;refine dE ?_;clear ah z2 z3)
    refine D.td ⟨[2],[]⟩ rD (eh pz (by decide:2≤1000000000000)) ?_
    refine aj ?_
    refine D.iy ak fun U ak=> ?_
    (have ah:=eF;refine bE ?_;clear ah)
    refine D.r ?_
    rw[ak]
    exact⟨rfl,⟨rfl,trivial⟩,⟨rfl,trivial⟩⟩
   rw[if_pos ⟨eF,eR,mW⟩]at ak
   (have ah:=d1;have z2:=eF;have z3:=And.intro eR mW;refine dE ?_;clear ah z2 z3)
   refine D.td ⟨[2],[]⟩ rD (eh 1 (by decide:2≤1000000000000)) ?_
   refine aj ?_
   refine D.iy ak fun U ak=> ?_
   refine aj ?_
   refine D.r ?_
   rw[ak]
   exact⟨rfl,⟨rfl,trivial⟩,⟨rfl,trivial⟩⟩
end
section
attribute [local go_sem] ba.row db eH dp eS of_flat b6 cR eE et er eG ds dw df cH Fd.row dn dz cD.row dr.row bs.row ff vr l9 jb j8 o7 al.cr ai.cr al.ch ai.ch al.ew ai.ew wR
attribute [local go_sem] p3 uK uL Option.isSome_some Option.isSome_none Option.getD_some Option.getD_none
theorem a65 (ck:dL) (aC:ck.x.vars.length≤1000000000000) (k:Int) (m:bF) (x:al) (t:Int) (a b:List ai) (ab:x.bJ≤1000000) (a7:jo x=true):aY Tryz.prog 266 [.ptr 0 0,.agg (ai.row (.mk k m x t a b))] (kz ck) (RK p3 ck (rf ck m x)):=by
 obtain⟨R,ak⟩: ∃R,R=rf ck m x:=⟨_,rfl⟩
 rw[←ak]
 have ar:=J1 ck m aC
 have ax:=J2 ck aC 1000000 x ab (by omega) a7
 simp only[rf]at ak
 obtain⟨bT,g,bM,ps⟩:=ck
 generalize varOf (dL.mk bT g bM ps).x.vars m=o at ar ak
 obtain⟨jQ,jU,jS,jV,jT,jR⟩:=x
 simp(disch:=omega)only[go_sem,simprocAttr]at ax
 unfold kz
 cases ps with
 |none=>
  have dX:(dL.mk bT g bM none).look m=none→R=(gh o.isSome m 10).bind fun _=>(kk (dL.mk bT g bM none) (.mk jQ jU jS jV jT jR)).bind fun k=>(gh (decide (k=(o.getD CQ).ig)) m 11).bind cY.ok:=fun h=>by
   rw[ak,h]
   simp only[Option.isSome_none,Bool.false_or,Bool.not_false,cY.AK]
   rfl
  clear ak
  refine aY.intro bb Tryz.func266 FQ ?_
  unfold DF EW
  simp(disch:=omega)only[go_sem,simprocAttr]
  refine aj ?_
  refine D.Qr ?_
  refine aj ?_
  refine D.ul wv ar ?_
  refine aj ?_
  refine D.M (dX rfl) fun U ak=> ?_
  refine aj ?_
  refine D.M (R:=R) (b:=true) (s:=m) (e:=11) (F:=fun _=>R) rfl fun _ _=> ?_
  refine aj ?_
  refine D.Aw 0 rq ax ak (fun a U ak=> ?_) ?_
  ·refine aj ?_
   refine D.iy ak fun U ak=> ?_
   refine aj ?_
   refine D.r ?_
   rw[ak]
   exact⟨rfl,⟨rfl,trivial⟩,trivial⟩
  ·refine aj ?_
   refine D.Fw (.cT []) 0 0 ?_
   refine aj ?_
   exact Be
 |some nz=>
  have dX:(dL.mk bT g bM (some nz)).look m=none→R=(gh o.isSome m 10).bind fun _=>(kk (dL.mk bT g bM (some nz)) (.mk jQ jU jS jV jT jR)).bind fun k=>(gh (decide (k=(o.getD CQ).ig)) m 11).bind cY.ok:=fun h=>by
   rw[ak,h]
   simp only[Option.isSome_none,Bool.false_or,Bool.not_false,cY.AK]
   rfl
  have ea: ∀z,(dL.mk bT g bM (some nz)).look m=some z→R= .err m 11:=fun z h=>by
   rw[ak,h]
   rfl
  clear ak
  cases hm:k9 m nz with
  |some z=>
   have ak:=ea z hm
   refine aY.intro bb Tryz.func266 FQ ?_
   unfold DF EW
   simp(disch:=omega)only[go_sem,simprocAttr]
   refine aj ?_
   refine D.yg (m:=nz) ?_
   simp only[hm,Option.isSome_some,Option.getD_some]
   refine aj ?_
   refine D.ul wv ar ?_
   refine aj ?_
   refine D.M (R:=R) (b:=true) (s:=m) (e:=10) (F:=fun _=>R) rfl fun _ _=> ?_
   refine aj ?_
   refine D.M (R:=R) (b:=false) (s:=m) (e:=11) (F:=fun _=>R) ak fun h=>nomatch h
  |none=>
   refine aY.intro bb Tryz.func266 FQ ?_
   unfold DF EW
   simp(disch:=omega)only[go_sem,simprocAttr]
   refine aj ?_
   refine D.yg (m:=nz) ?_
   simp only[hm,Option.isSome_none,Option.getD_none]
   refine aj ?_
   refine D.ul wv ar ?_
   refine aj ?_
   refine D.M (dX hm) fun U ak=> ?_
   refine aj ?_
   refine D.M (R:=R) (b:=true) (s:=m) (e:=11) (F:=fun _=>R) rfl fun _ _=> ?_
   refine aj ?_
   refine D.Aw 0 rq ax ak (fun a U ak=> ?_) ?_
   ·refine aj ?_
    refine D.iy ak fun U ak=> ?_
    refine aj ?_
    refine D.r ?_
    rw[ak]
    exact⟨rfl,⟨rfl,trivial⟩,⟨rfl,trivial⟩⟩
   ·refine aj ?_
    refine D.Fw (.cT []) 1 0 ?_
    refine aj ?_
    exact Be
theorem Va {ck:dL}{l:List ai}{i:Nat}{x:ai}(h:l[i]? =some x):jN ck (l.drop i)=(o6 ck x).bind fun _=>jN ck (l.drop (i+1)):=by
 rw[fY h]
 rfl
theorem G9: ∀ {l:List ai}{i:Nat}{x:ai},k7 l=true→l[i]? =some x→ky x=true
 |y::l,0,x,h,e=>by simp only[k7,Bool.and_eq_true]at h; simp at e; subst e; exact h.1
 |y::l,i+1,x,h,e=>by simp only[k7,Bool.and_eq_true]at h; exact G9 (l:=l) (i:=i) h.2 (by simpa using e)
 |[],_,_,_,e=>by simp at e
theorem a47 (ck:dL) (aC:ck.x.vars.length≤1000000000000): ∀(N:Nat) (l:List ai),ai.bz l≤N→N≤1000000→k7 l=true→aY Tryz.prog 167 [.ptr 0 0,.af 11 (l.map ai.row)] (kz ck) (RK p3 ck (jN ck l)):=by
 obtain⟨bT,g,bM,ps⟩:=ck
 intro N
 induction N with
 |zero=>
  intro l cW hb a7
  have aW:l=[]:=by have:=ai.fT l; exact List.length_eq_zero_iff.1 (by omega)
  subst aW
  unfold kz
  cases ps with
  |none=>
   refine aY.intro bb Tryz.func167 Dp ?_
   unfold A1 Cu
   simp(disch:=omega)only[go_sem,simprocAttr]
   refine aj ?_
   refine av.c5 (X:=Unit) () (fun _=>[(0,.ptr 0 0),(7,.int .i64 0),(8,.int .i64 0)]) (fun _=>[(0,186,ff ⟨bT,g,bM,none⟩)]) (fun _=>[]) (fun _=>True) (fun _=>0) trivial ⟨rfl,rfl,rfl,trivial⟩ ⟨rfl,trivial⟩ trivial ?_
   rintro _ _
   refine aj ?_
   refine D.r ?_
   exact⟨rfl,⟨rfl,trivial⟩,trivial⟩
  |some nz=>
   refine aY.intro bb Tryz.func167 Dp ?_
   unfold A1 Cu
   simp(disch:=omega)only[go_sem,simprocAttr]
   refine aj ?_
   refine av.c5 (X:=Unit) () (fun _=>[(0,.ptr 0 0),(7,.int .i64 0),(8,.int .i64 0)]) (fun _=>[(0,186,ff ⟨bT,g,bM,(some nz)⟩)]) (fun _=>[(0,.bb 184 0 (nz.map mF))]) (fun _=>True) (fun _=>0) trivial ⟨rfl,rfl,rfl,trivial⟩ ⟨rfl,trivial⟩ ⟨rfl,trivial⟩ ?_
   rintro _ _
   refine aj ?_
   refine D.r ?_
   exact⟨rfl,⟨rfl,trivial⟩,⟨rfl,trivial⟩⟩
 |succ N bB=>
 intro l cW hb a7
 have n5:l.length≤1000000:=by have:=ai.fT l; omega
 obtain⟨R,ak⟩: ∃R,R=jN ⟨bT,g,bM,ps⟩ l:=⟨_,rfl⟩
 rw[←ak]
 have iO:=a65 ⟨bT,g,bM,ps⟩ aC
 have tD:=J2 ⟨bT,g,bM,ps⟩ aC 1000000
 unfold kz
 cases ps with
 |none=>
  refine aY.intro bb Tryz.func167 Dp ?_
  unfold A1 Cu
  simp(disch:=omega)only[go_sem,simprocAttr]
  refine aj ?_
  refine av.c5 (X:=Nat) 0 (fun i=>[(0,.ptr 0 0),(6,.af 11 (l.map ai.row)),(7,.int .i64 ((l.map ai.row).length:Int)),(8,.int .i64 (i:Int))]) (fun _=>[(0,186,ff ⟨bT,g,bM,none⟩)]) (fun _=>[]) (fun i=>i≤l.length∧R=jN ⟨bT,g,bM,none⟩ (l.drop i)) (fun i=>l.length-i) ⟨Nat.zero_le _,ak⟩ ⟨rfl,rfl,rfl,rfl,trivial⟩ ⟨rfl,trivial⟩ trivial ?_
  clear ak
  rintro i ⟨ad,ak⟩
  try simp only at ad ak ⊢
  cases ae:l[i]? with
  |none=>
   have cg:=List.getElem?_eq_none_iff.1 ae
   have d1: ¬(i:Int)<((l.map ai.row).length:Int):=by rw[List.length_map]; omega
   rw[List.drop_eq_nil_of_le cg]at ak
   (have ah:=d1;refine bE ?_;clear ah)
   refine D.r ?_
   rw[ak]
   exact⟨rfl,⟨rfl,trivial⟩,trivial⟩
  |some y=>
   have cB:=(List.getElem?_eq_some_iff.1 ae).1
   have d1:(i:Int)<((l.map ai.row).length:Int):=by rw[List.length_map]; omega
   have hm:=ai.nx ae
   have aV:=G9 a7 ae
   rw[Va ae]at ak
   obtain⟨k,m,x,t,a,b⟩:=y
   have BK:x.bJ≤1000000:=by simp only[ai.bJ]at hm; omega
   simp only[ky,Bool.and_eq_true]at aV
   obtain⟨BL,sy,HZ,H2⟩:=aV
   have h8:=bB a (by simp only[ai.bJ]at hm; omega) (by omega) HZ
   have iB:=bB b (by simp only[ai.bJ]at hm; omega) (by omega) H2
   have iO:=iO k m x t a b BK sy
   have tD:=tD x BK (by omega) sy
   clear bB a7
   obtain⟨jQ,jU,jS,jV,jT,jR⟩:=x
   simp(disch:=omega)only[go_sem,simprocAttr]at iO
   simp(disch:=omega)only[go_sem,simprocAttr]at tD
   simp only[o6]at ak
   by_cases bf:k=1
   ·subst bf
    rw[if_pos rfl]at ak
    (have ah:=d1;refine bE ?_;clear ah)
    refine D.mf si iO ak fun _ U ak=> ?_
    refine aj ?_
    refine av.gi (i+1) ⟨by omega,ak⟩ ⟨rfl,rfl,rfl,by simp only[Int.natCast_add]; rfl,trivial⟩ ⟨rfl,trivial⟩ trivial (by show l.length-(i+1)<l.length-i; omega)
   rw[if_neg bf]at ak
   by_cases bi:k=2
   ·subst bi
    rw[if_pos rfl]at ak
    simp only[cY.bind_assoc]at ak
    (have ah:=d1;refine bE ?_;clear ah)
    refine D.mf rq tD ak fun q U ak=> ?_
    refine aj ?_
    refine D.M ak fun U ak=> ?_
    refine aj ?_
    refine D.mf si h8 ak fun _ U ak=> ?_
    refine aj ?_
    refine D.mf si iB ak fun _ U ak=> ?_
    refine aj ?_
    refine av.gi (i+1) ⟨by omega,ak⟩ ⟨rfl,rfl,rfl,by simp only[Int.natCast_add]; rfl,trivial⟩ ⟨rfl,trivial⟩ trivial (by show l.length-(i+1)<l.length-i; omega)
   rw[if_neg bi]at ak
   by_cases cz:k=3
   ·subst cz
    rw[if_pos rfl]at ak
    simp only[cY.bind_assoc]at ak
    (have ah:=d1;refine bE ?_;clear ah)
    refine D.mf rq tD ak fun q U ak=> ?_
    refine aj ?_
    refine D.M ak fun U ak=> ?_
    refine aj ?_
    refine D.mf si h8 ak fun _ U ak=> ?_
    refine aj ?_
    refine D.mf si iB ak fun _ U ak=> ?_
    refine aj ?_
    refine av.gi (i+1) ⟨by omega,ak⟩ ⟨rfl,rfl,rfl,by simp only[Int.natCast_add]; rfl,trivial⟩ ⟨rfl,trivial⟩ trivial (by show l.length-(i+1)<l.length-i; omega)
   ·simp only[gp,if_neg bf,if_neg bi,if_neg cz]at BL
    cases BL
 |some nz=>
  refine aY.intro bb Tryz.func167 Dp ?_
  unfold A1 Cu
  simp(disch:=omega)only[go_sem,simprocAttr]
  refine aj ?_
  refine av.c5 (X:=Nat) 0 (fun i=>[(0,.ptr 0 0),(6,.af 11 (l.map ai.row)),(7,.int .i64 ((l.map ai.row).length:Int)),(8,.int .i64 (i:Int))]) (fun _=>[(0,186,ff ⟨bT,g,bM,(some nz)⟩)]) (fun _=>[(0,.bb 184 0 (nz.map mF))]) (fun i=>i≤l.length∧R=jN ⟨bT,g,bM,(some nz)⟩ (l.drop i)) (fun i=>l.length-i) ⟨Nat.zero_le _,ak⟩ ⟨rfl,rfl,rfl,rfl,trivial⟩ ⟨rfl,trivial⟩ ⟨rfl,trivial⟩ ?_
  clear ak
  rintro i ⟨ad,ak⟩
  try simp only at ad ak ⊢
  cases ae:l[i]? with
  |none=>
   have cg:=List.getElem?_eq_none_iff.1 ae
   have d1: ¬(i:Int)<((l.map ai.row).length:Int):=by rw[List.length_map]; omega
   rw[List.drop_eq_nil_of_le cg]at ak
   (have ah:=d1;refine bE ?_;clear ah)
   refine D.r ?_
   rw[ak]
   exact⟨rfl,⟨rfl,trivial⟩,⟨rfl,trivial⟩⟩
  |some y=>
   have cB:=(List.getElem?_eq_some_iff.1 ae).1
   have d1:(i:Int)<((l.map ai.row).length:Int):=by rw[List.length_map]; omega
   have hm:=ai.nx ae
   have aV:=G9 a7 ae
   rw[Va ae]at ak
   obtain⟨k,m,x,t,a,b⟩:=y
   have BK:x.bJ≤1000000:=by simp only[ai.bJ]at hm; omega
   simp only[ky,Bool.and_eq_true]at aV
   obtain⟨BL,sy,HZ,H2⟩:=aV
   have h8:=bB a (by simp only[ai.bJ]at hm; omega) (by omega) HZ
   have iB:=bB b (by simp only[ai.bJ]at hm; omega) (by omega) H2
   have iO:=iO k m x t a b BK sy
   have tD:=tD x BK (by omega) sy
   clear bB a7
   obtain⟨jQ,jU,jS,jV,jT,jR⟩:=x
   simp(disch:=omega)only[go_sem,simprocAttr]at iO
   simp(disch:=omega)only[go_sem,simprocAttr]at tD
   simp only[o6]at ak
   by_cases bf:k=1
   ·subst bf
    rw[if_pos rfl]at ak
    (have ah:=d1;refine bE ?_;clear ah)
    refine D.mf si iO ak fun _ U ak=> ?_
    refine aj ?_
    refine av.gi (i+1) ⟨by omega,ak⟩ ⟨rfl,rfl,rfl,by simp only[Int.natCast_add]; rfl,trivial⟩ ⟨rfl,trivial⟩ ⟨rfl,trivial⟩ (by show l.length-(i+1)<l.length-i; omega)
   rw[if_neg bf]at ak
   by_cases bi:k=2
   ·subst bi
    rw[if_pos rfl]at ak
    simp only[cY.bind_assoc]at ak
    (have ah:=d1;refine bE ?_;clear ah)
    refine D.mf rq tD ak fun q U ak=> ?_
    refine aj ?_
    refine D.M ak fun U ak=> ?_
    refine aj ?_
    refine D.mf si h8 ak fun _ U ak=> ?_
    refine aj ?_
    refine D.mf si iB ak fun _ U ak=> ?_
    refine aj ?_
    refine av.gi (i+1) ⟨by omega,ak⟩ ⟨rfl,rfl,rfl,by simp only[Int.natCast_add]; rfl,trivial⟩ ⟨rfl,trivial⟩ ⟨rfl,trivial⟩ (by show l.length-(i+1)<l.length-i; omega)
   rw[if_neg bi]at ak
   by_cases cz:k=3
   ·subst cz
    rw[if_pos rfl]at ak
    simp only[cY.bind_assoc]at ak
    (have ah:=d1;refine bE ?_;clear ah)
    refine D.mf rq tD ak fun q U ak=> ?_
    refine aj ?_
    refine D.M ak fun U ak=> ?_
    refine aj ?_
    refine D.mf si h8 ak fun _ U ak=> ?_
    refine aj ?_
    refine D.mf si iB ak fun _ U ak=> ?_
    refine aj ?_
    refine av.gi (i+1) ⟨by omega,ak⟩ ⟨rfl,rfl,rfl,by simp only[Int.natCast_add]; rfl,trivial⟩ ⟨rfl,trivial⟩ ⟨rfl,trivial⟩ (by show l.length-(i+1)<l.length-i; omega)
   ·simp only[gp,if_neg bf,if_neg bi,if_neg cz]at BL
    cases BL
end
section
attribute [local go_sem] ba.row db eH dp eS of_flat b6 cR eE et er eG ds dw df cH Fd.row dn dz cD.row dr.row bs.row ff vr l9 jb j8 o7 al.cr ai.cr al.ch ai.ch al.ew ai.ew wR
attribute [local go_sem] p3 uK uL Option.isSome_some Option.isSome_none Option.getD_some Option.getD_none
theorem Iz:I.one (.ev (.map none))=true:=rfl
theorem GZ:I.flat (.ev (.map none))=true:=rfl
theorem Is:(Value.map none).oneCell'=true:=rfl
attribute [local go_sem] Iz GZ Is
def DY (d:bs):I:= .agg (bs.row d)
theorem OD:xn DY:=fun d=>by simp only[DY,I.flat,b7,bs.row,et,er,eG,Bool.and_self]
attribute [local go_sem] DY eZ
theorem J0 (x:b3) (g:cd) (bM:Int) (path peer:bF) (va:Bool) (br:g.decls.length≤1000000000000) (ac:g.cC.length≤1000000000000) (he:g.cy.length≤1000000000000):aY Tryz.prog 164 [.ptr 0 0,.str path,.str peer,.bool va] (kz ⟨x,g,bM,none⟩) (RK DY ⟨x,g,bM,none⟩ (qL ⟨x,g,bM,none⟩ path peer va)):=by
 obtain⟨R,ak⟩: ∃R,R=qL ⟨x,g,bM,none⟩ path peer va:=⟨_,rfl⟩
 rw[←ak]
 simp only[qL]at ak
 have ar:=a61 ⟨x,g,bM,none⟩ path br
 have ax:Pure Tryz.prog 93 [.af 1 (g.cC.map b6),.str peer] (.int .i64 (eJ g.cC peer)):=zZ g.cC peer (by unfold maxLen; omega)
 have hs:=EM (fun d:bs=>decide (d.name=path)) g.decls 0
 have aG:jn g path=dt (fun v=> !decide (v.name=path)) g.decls 0:=rfl
 rw[←aG]at hs
 clear aG
 simp only at ar
 generalize jn g path=z at ar hs ak
 generalize eJ g.cC peer=p at ax ak
 have bU:=fun a b c=>a62 (T:=74) (cs:=[.int .i64 a,.int .i64 b,.int .i64 c]) ax7 rfl rfl (fun e=>decide (e.oO=a)&&(decide (e.ri=b)&&decide (e.re=c))) g.cy he fun e _=>a63 a b c e
 unfold kz
 refine aY.intro bb Tryz.func164 Xp ?_
 unfold MU SQ
 simp(disch:=omega)only[go_sem,simprocAttr]
 refine aj ?_
 refine D.ul (fun _=>rfl) ar ?_
 refine aj ?_
 refine D.M ak fun U ak=> ?_
 simp only[decide_eq_true_eq]at U
 obtain⟨q,d,bw,Hv,Hw,bj2⟩: ∃q d,z=((0+q:Nat):Int)∧g.decls[q]? =some d∧decide (d.name=path)=true∧g.decls.find? (fun d=>decide (d.name=path))=some d:=by
  rcases hs with h|⟨h,_⟩
  ·exact h
  ·omega
 have au6:z.toNat=q:=by omega
 rw[au6,Hv]at ak
 simp only at ak
 clear hs
 refine aj ?_
 refine D.P (ax) ?_
 refine aj ?_
 refine D.M ak fun aa ak=> ?_
 cases va
 ·simp only[Bool.false_eq_true,if_false]at ak
  refine aj ?_
  refine D.F ⟨[2],[]⟩ (bU bM p z) ?_
  refine aj ?_
  refine D.M ak fun ay ak=> ?_
  have ad:z=(q:Int):=by omega
  refine aj ?_
  refine D.r ?_
  rw[ak]
  exact⟨rfl,⟨rfl,trivial⟩,trivial⟩
 ·simp only[if_true]at ak
  refine aj ?_
  refine D.F ⟨[2],[]⟩ (bU p bM z) ?_
  refine aj ?_
  refine D.M ak fun ay ak=> ?_
  have ad:z=(q:Int):=by omega
  refine aj ?_
  refine D.r ?_
  rw[ak]
  exact⟨rfl,⟨rfl,trivial⟩,trivial⟩
theorem aH7 {vars:List ba}{acc:List (bF×Int)}{ps:List bF}{b2:List Fd}{i:Nat}{n:bF}{f:Fd}(U:ps[i]? =some n) (aa:b2[i]? =some f):oE vars acc (ps.drop i) (b2.drop i)=(gh (!(varOf vars n).isSome&& !(k9 n acc).isSome) n 9).bind fun _=>oE vars (acc++[(n,f.kind)]) (ps.drop (i+1)) (b2.drop (i+1)):=by
 rw[fY U,fY aa]
 rfl
theorem aH6 {vars:List ba}{acc:List (bF×Int)}{b2:List Fd}:oE vars acc [] b2= .ok acc:=by cases b2<;>rfl
theorem ba1 (x:b3) (g:cd) (bM:Int) (h:bL) (ahead:List bL) (ae:x.vars.length≤1000000000000) (br:g.decls.length≤1000000000000) (ac:g.cC.length≤1000000000000) (he:g.cy.length≤1000000000000) (ak0:ahead.length≤1000000000000) (qh:h.ps.length≤1000000000) (hb:ai.bz h.body≤1000000) (a7:k7 h.body=true):
  aY Tryz.prog 86 [.ptr 0 0,.agg (bL.row h),.af 4 (ahead.map bL.row)] (kz ⟨x,g,bM,none⟩) (RK p3 ⟨x,g,bM,none⟩ (ki ⟨x,g,bM,none⟩ ahead h)):=by
 obtain⟨R,ak⟩: ∃R,R=ki ⟨x,g,bM,none⟩ ahead h:=⟨_,rfl⟩
 rw[←ak]
 simp only[ki]at ak
 have ar:=J0 x g bM h.c7 h.peer true br ac he
 have ax:=ba3 (T:=84) (cs:=bL.row h) ax2 (by simp only[eH,ed,I.dW,cR,ai.ch,Bool.and_self]) (by rfl) (fun o=>decide (o.c7=h.c7)&&decide (o.peer=h.peer)) ahead ak0 fun o _=>a45 h o
 have bU:=fun m=>a47 ⟨x,g,bM,some m⟩ ae 1000000 h.body hb (by omega) a7
 have dl:=fun m n=>J1 ⟨x,g,bM,some m⟩ n ae
 generalize (ahead.any fun o=>decide (o.c7=h.c7)&&decide (o.peer=h.peer))=JJ at ax ak
 obtain⟨c7,peer,hp,body⟩:=h
 simp only at qh hb a7
 simp(disch:=omega)only[go_sem,simprocAttr]at ax
 unfold kz
 refine aY.intro bb Tryz.func86 Y3 ?_
 unfold wj Ux
 simp(disch:=omega)only[go_sem,simprocAttr]
 refine aj ?_
 refine D.mf OD ar ak fun d U ak=> ?_
 simp only at ak
 rw[show decide (hp.length=d.fields.length)=decide (((hp.map b6).length:Int)=((d.fields.map Fd.row).length:Int)) from decide_eq_decide.2 (by simp only[List.length_map]; omega)]at ak
 refine aj ?_
 refine D.C5 ⟨[1],[]⟩ ax ?_
 refine aj ?_
 refine D.iy ak fun aa ak=> ?_
 refine aj ?_
 refine D.M ak fun ay ak=> ?_
 have hlen:hp.length=d.fields.length:=by
  simp only[decide_eq_true_eq,List.length_map]at ay; omega
 refine aj ?_
 refine D.mk ?_
 refine aj ?_
 have bi1:d.row=[.str d.name,.af 4 (d.fields.map Fd.row),.int .i64 d.first,.af 3 (d.ep.map dn),.af 2 (d.eqs.map dz)]:=rfl
 refine av.c5 (X:=Nat×List (bF×Int)) (0,[]) (fun q=>[(0,.ptr 0 0),(4,.ptr 1 0),(6,.ptr 2 0),(43,.af 1 (hp.map b6)),(44,.int .i64 ((hp.map b6).length:Int)),(45,.int .i64 (q.1:Int))]) (fun q=>[(0,186,ff ⟨x,g,bM,some q.2⟩),(1,84,[.str c7,.str peer,.af 1 (hp.map b6),.af 11 (body.map ai.row)]),(2,72,[.str d.name,.af 4 (d.fields.map Fd.row),.int .i64 d.first,.af 3 (d.ep.map dn),.af 2 (d.eqs.map dz)])]) (fun q=>[(0,.bb 184 0 (q.2.map mF))]) (fun q=>q.1≤hp.length∧R=(oE x.vars q.2 (hp.drop q.1) (d.fields.drop q.1)).bind fun m=>jN ⟨x,g,bM,some m⟩ body) (fun q=>hp.length-q.1) ⟨Nat.zero_le _,ak⟩ ⟨rfl,rfl,rfl,rfl,rfl,rfl,trivial⟩ ⟨rfl,rfl,rfl,trivial⟩ ⟨rfl,trivial⟩ ?_
 clear ak
 rintro⟨i,acc⟩ ⟨ad,ak⟩
 try simp only at ad ak ⊢
 cases hw:hp[i]? with
 |none=>
  have cg:=List.getElem?_eq_none_iff.1 hw
  have d1: ¬(i:Int)<((hp.map b6).length:Int):=by rw[List.length_map]; omega
  rw[List.drop_eq_nil_of_le cg,aH6]at ak
  simp only[cY.bind]at ak
  have bU:=bU acc
  have ak:R=(jN ⟨x,g,bM,some acc⟩ body).bind cY.ok:=by rw[ak,cY.AK]
  clear ar ax dl
  (have ah:=d1;refine bE ?_;clear ah)
  refine D.mf si bU ak fun _ U ak=> ?_
  refine aj ?_
  refine D.r ?_
  rw[ak]
  exact⟨rfl,⟨rfl,trivial⟩,trivial⟩
 |some n=>
  have cB:=(List.getElem?_eq_some_iff.1 hw).1
  have d1:(i:Int)<((hp.map b6).length:Int):=by rw[List.length_map]; omega
  obtain⟨f,hf⟩: ∃f,d.fields[i]? =some f:=⟨_,List.getElem?_eq_getElem (by omega)⟩
  rw[aH7 hw hf,cY.bind_assoc]at ak
  have dl:=dl acc n
  simp only at dl
  generalize varOf x.vars n=o at dl ak
  clear ar ax bU
  cases o with
  |some v=>
   have ak:R=(gh false n 9).bind fun _=>R:=by
    rw[ak]
    rfl
   (have ah:=d1;refine bE ?_;clear ah)
   refine D.ul wv dl ?_
   refine aj ?_
   refine D.yg (m:=acc) ?_
   refine aj ?_
   refine D.M (R:=R) (b:=false) (s:=n) (e:=9) (F:=fun _=>R) ak fun h=>nomatch h
  |none=>
  cases hm:k9 n acc with
  |some z=>
   have ak:R=(gh false n 9).bind fun _=>R:=by
    rw[ak,hm]
    rfl
   (have ah:=d1;refine bE ?_;clear ah)
   refine D.ul wv dl ?_
   refine aj ?_
   refine D.yg (m:=acc) ?_
   simp only[hm,Option.isSome_some,Option.getD_some]
   refine aj ?_
   refine D.M (R:=R) (b:=false) (s:=n) (e:=9) (F:=fun _=>R) ak fun h=>nomatch h
  |none=>
   have ak:R=(oE x.vars (acc++[(n,f.kind)]) (hp.drop (i+1)) (d.fields.drop (i+1))).bind fun m=>jN ⟨x,g,bM,some m⟩ body:=by
    rw[ak,hm]
    rfl
   (have ah:=d1;refine bE ?_;clear ah)
   refine D.ul wv dl ?_
   refine aj ?_
   refine D.yg (m:=acc) ?_
   simp only[hm,Option.isSome_none,Option.getD_none]
   refine aj ?_
   refine D.M (R:=R) (b:=true) (s:=n) (e:=9) (F:=fun _=>R) rfl fun _ _=> ?_
   refine aj ?_
   refine D.mp (m:=acc) hm ?_
   refine aj ?_
   refine av.gi (i+1,acc++[(n,f.kind)]) ⟨by omega,ak⟩ ⟨rfl,rfl,rfl,rfl,rfl,by simp only[Int.natCast_add]; rfl,trivial⟩ ⟨rfl,rfl,rfl,trivial⟩ ⟨rfl,trivial⟩ (by show hp.length-(i+1)<hp.length-i; omega)
theorem Ws {ck:dL}{c7:bF}{l:List al}{b2:List Fd}{i:Nat}{x:al}{f:Fd}(U:l[i]? =some x) (aa:b2[i]? =some f):lT ck c7 (l.drop i) (b2.drop i)=(kk ck x).bind fun k=>(gh (decide (k=f.kind)) c7 11).bind fun _=>lT ck c7 (l.drop (i+1)) (b2.drop (i+1)):=by
 rw[fY U,fY aa]
 rfl
theorem Wr {ck:dL}{c7:bF}{b2:List Fd}:lT ck c7 [] b2= .ok ():=by cases b2<;>rfl
theorem be1 {ck:dL}{l:List al}{i:Nat}{x:al}(U:l[i]? =some x):nN ck (l.drop i)=(kk ck x).bind fun k=>(gh (decide (k=1)) [119,104,101,114,101] 11).bind fun _=>nN ck (l.drop (i+1)):=by
 rw[fY U]
 rfl
theorem ba2 (x:b3) (g:cd) (bM:Int) (o:cf) (ae:x.vars.length≤1000000000000) (br:g.decls.length≤1000000000000) (ac:g.cC.length≤1000000000000) (he:g.cy.length≤1000000000000) (aL:al.bz o.args≤1000000) (hw:al.bz o.dk≤1000000) (iS:lx o.args=true) (jg:lx o.dk=true):
  aY Tryz.prog 87 [.ptr 0 0,.agg (cf.row o)] (kz ⟨x,g,bM,none⟩) (RK p3 ⟨x,g,bM,none⟩ (nD ⟨x,g,bM,none⟩ o)):=by
 obtain⟨R,ak⟩: ∃R,R=nD ⟨x,g,bM,none⟩ o:=⟨_,rfl⟩
 rw[←ak]
 simp only[nD]at ak
 have ar:=J0 x g bM o.c7 o.peer false br ac he
 have ax:=J2 ⟨x,g,bM,none⟩ ae 1000000
 obtain⟨c7,peer,args,dk⟩:=o
 simp only at aL hw iS jg
 have az5:args.length≤1000000:=by have:=al.fT args; omega
 have lw:dk.length≤1000000:=by have:=al.fT dk; omega
 unfold kz
 refine aY.intro bb Tryz.func87 Y4 ?_
 unfold wk Uy
 simp(disch:=omega)only[go_sem,simprocAttr]
 refine aj ?_
 refine D.mf OD ar ak fun d U ak=> ?_
 clear ar U
 simp only at ak
 rw[show decide (args.length=d.fields.length)=decide (((args.map al.row).length:Int)=((d.fields.map Fd.row).length:Int)) from decide_eq_decide.2 (by simp only[List.length_map]; omega)]at ak
 refine aj ?_
 refine D.M ak fun ay ak=> ?_
 have hlen:args.length=d.fields.length:=by
  simp only[decide_eq_true_eq,List.length_map]at ay; omega
 clear ay
 refine aj ?_
 refine av.c5 (X:=Nat) 0 (fun i=>[(0,.ptr 0 0),(3,.ptr 1 0),(4,.ptr 2 0),(26,.af 6 (args.map al.row)),(27,.int .i64 ((args.map al.row).length:Int)),(28,.int .i64 (i:Int))]) (fun _=>[(0,186,ff ⟨x,g,bM,none⟩),(1,148,[.str c7,.str peer,.af 6 (args.map al.row),.af 6 (dk.map al.row)]),(2,72,[.str d.name,.af 4 (d.fields.map Fd.row),.int .i64 d.first,.af 3 (d.ep.map dn),.af 2 (d.eqs.map dz)])]) (fun _=>[]) (fun i=>i≤args.length∧R=(lT ⟨x,g,bM,none⟩ c7 (args.drop i) (d.fields.drop i)).bind fun _=>nN ⟨x,g,bM,none⟩ dk) (fun i=>args.length-i) ⟨Nat.zero_le _,ak⟩ ⟨rfl,rfl,rfl,rfl,rfl,rfl,trivial⟩ ⟨rfl,rfl,rfl,trivial⟩ trivial ?_
 clear ak
 rintro i ⟨ad,ak⟩
 try simp only at ad ak ⊢
 cases aG:args[i]? with
 |some y=>
  have cB:=(List.getElem?_eq_some_iff.1 aG).1
  have d1:(i:Int)<((args.map al.row).length:Int):=by rw[List.length_map]; omega
  obtain⟨f,hf⟩: ∃f,d.fields[i]? =some f:=⟨_,List.getElem?_eq_getElem (by omega)⟩
  rw[Ws aG hf,cY.bind_assoc]at ak
  simp only[cY.bind_assoc]at ak
  have p0:=ax y (by have:=al.nx aG; omega) (by omega) (Bi iS aG)
  obtain⟨s9,yQ,yP,vM,vL,yO⟩:=y
  simp(disch:=omega)only[go_sem,simprocAttr]at p0
  (have ah:=d1;refine bE ?_;clear ah)
  refine D.Aw 0 rq p0 ak (fun q U ak=> ?_) ?_
  all_goals clear aG
  ·refine aj ?_
   refine D.iy ak fun U ak=> ?_
   refine aj ?_
   refine av.gi (i+1) ⟨by omega,ak⟩ ⟨rfl,rfl,rfl,rfl,rfl,by simp only[Int.natCast_add]; rfl,trivial⟩ ⟨rfl,rfl,rfl,trivial⟩ trivial (by show args.length-(i+1)<args.length-i; omega)
  ·refine aj ?_
   refine D.Fw (.cT []) 0 0 ?_
   refine aj ?_
   exact Be
 |none=>
 have cg:=List.getElem?_eq_none_iff.1 aG
 have cA:i=args.length:=by omega
 subst cA
 have d1: ¬(args.length:Int)<((args.map al.row).length:Int):=by rw[List.length_map]; omega
 rw[List.drop_eq_nil_of_le (Nat.le_refl _),Wr]at ak
 simp only[cY.bind]at ak
 clear aG cg ad
 (have ah:=d1;refine bE ?_;clear ah)
 refine av.c5 (X:=Nat) 0 (fun i=>[(0,.ptr 0 0),(49,.af 6 (dk.map al.row)),(50,.int .i64 ((dk.map al.row).length:Int)),(51,.int .i64 (i:Int))]) (fun _=>[(0,186,ff ⟨x,g,bM,none⟩)]) (fun _=>[]) (fun i=>i≤dk.length∧R=nN ⟨x,g,bM,none⟩ (dk.drop i)) (fun i=>dk.length-i) ⟨Nat.zero_le _,ak⟩ ⟨rfl,rfl,rfl,rfl,trivial⟩ ⟨rfl,trivial⟩ trivial ?_
 clear ak
 rintro i ⟨ad,ak⟩
 try simp only at ad ak ⊢
 cases aG:dk[i]? with
 |some y=>
  have cB:=(List.getElem?_eq_some_iff.1 aG).1
  have d2:(i:Int)<((dk.map al.row).length:Int):=by rw[List.length_map]; omega
  rw[be1 aG]at ak
  have p0:=ax y (by have:=al.nx aG; omega) (by omega) (Bi jg aG)
  obtain⟨s9,yQ,yP,vM,vL,yO⟩:=y
  simp(disch:=omega)only[go_sem,simprocAttr]at p0
  (have ah:=d2;refine bE ?_;clear ah)
  refine D.mf rq p0 ak fun q U ak=> ?_
  refine aj ?_
  refine D.M ak fun U ak=> ?_
  refine aj ?_
  refine av.gi (i+1) ⟨by omega,ak⟩ ⟨rfl,rfl,rfl,by simp only[Int.natCast_add]; rfl,trivial⟩ ⟨rfl,trivial⟩ trivial (by show dk.length-(i+1)<dk.length-i; omega)
 |none=>
  have cg:=List.getElem?_eq_none_iff.1 aG
  have d2: ¬(i:Int)<((dk.map al.row).length:Int):=by rw[List.length_map]; omega
  rw[List.drop_eq_nil_of_le cg]at ak
  (have ah:=d2;refine bE ?_;clear ah)
  refine D.r ?_
  rw[ak]
  exact⟨rfl,⟨rfl,trivial⟩,trivial⟩
end
section
attribute [local go_sem] ba.row db eH dp eS of_flat b6 cR eE et er eG ds dw df cH Fd.row dn dz cD.row dr.row bs.row ff vr l9 jb j8 o7 al.cr ai.cr al.ch ai.ch al.ew ai.ew wR
attribute [local go_sem] p3 uK uL Option.isSome_some Option.isSome_none Option.getD_some Option.getD_none Iz GZ Is eZ
theorem VK (l:List ba) (i:Nat):eN ((l.map ba.row).take i)=true:=by rw[←List.map_take]; exact db _
theorem Pg (l:List bL) (i:Nat):eN ((l.map bL.row).take i)=true:=by rw[←List.map_take]; exact dp _
attribute [local go_sem] VK Pg
theorem ba7 {l:List ba}{i:Nat}{v:ba}(h:l[i]? =some v):q1 (l.take i) (l.drop i)=(gh (!(l.take i).any fun w=>decide (w.name=v.name)) v.name 9).bind fun _=>(gh (pG v.ig v.cJ v.ad&&zr v) v.name 11).bind fun _=>q1 (l.take (i+1)) (l.drop (i+1)):=by
 rw[fY h,List.take_add_one,h]
 rfl
theorem ba0 (x:b3) (g:cd) (bM:Int) (ae:x.vars.length≤1000000000000):aY Tryz.prog 85 [.ptr 0 0] (kz ⟨x,g,bM,none⟩) (RK p3 ⟨x,g,bM,none⟩ (q1 [] x.vars)):=by
 obtain⟨R,ak⟩: ∃R,R=q1 [] x.vars:=⟨_,rfl⟩
 rw[←ak]
 unfold kz
 refine aY.intro bb Tryz.func85 Y2 ?_
 unfold pZ Uw
 simp(disch:=omega)only[go_sem,simprocAttr]
 refine aj ?_
 refine av.c5 (X:=Nat) 0 (fun i=>[(0,.ptr 0 0),(9,.af 7 (x.vars.map ba.row)),(10,.int .i64 ((x.vars.map ba.row).length:Int)),(11,.int .i64 (i:Int))]) (fun _=>[(0,186,ff ⟨x,g,bM,none⟩)]) (fun _=>[]) (fun i=>i≤x.vars.length∧R=q1 (x.vars.take i) (x.vars.drop i)) (fun i=>x.vars.length-i) ⟨Nat.zero_le _,ak⟩ ⟨rfl,rfl,rfl,rfl,trivial⟩ ⟨rfl,trivial⟩ trivial ?_
 clear ak
 rintro i ⟨ad,ak⟩
 try simp only at ad ak ⊢
 cases aG:x.vars[i]? with
 |none=>
  have cg:=List.getElem?_eq_none_iff.1 aG
  have d1: ¬(i:Int)<((x.vars.map ba.row).length:Int):=by rw[List.length_map]; omega
  rw[List.drop_eq_nil_of_le cg]at ak
  (have ah:=d1;refine bE ?_;clear ah)
  refine D.r ?_
  rw[ak]
  exact⟨rfl,⟨rfl,trivial⟩,trivial⟩
 |some v=>
  have cB:=(List.getElem?_eq_some_iff.1 aG).1
  have d1:(i:Int)<((x.vars.map ba.row).length:Int):=by rw[List.length_map]; omega
  rw[ba7 aG]at ak
  have ar:=a44 (T:=146) (cs:=ba.row v) ax1 rfl rfl (fun w=>decide (w.name=v.name)) (x.vars.take i) (by rw[List.length_take]; omega) fun w _=>a43 w v
  have ax:=VG v.ig v.cJ v.ad
  have bU:=a35 v
  rw[List.map_take]at ar
  generalize ((x.vars.take i).any fun w=>decide (w.name=v.name))=JJ at ar ak
  generalize pG v.ig v.cJ v.ad=fz at ax ak
  generalize zr v=iM at bU ak
  (have ah:=d1;refine bE ?_;clear ah)
  (apply au.Ah (i);(·simp(disch:=omega)only[go_sem,simprocAttr]<;>with_reducible rfl);(·simp(disch:=omega)only[go_sem,simprocAttr]<;>with_reducible rfl);(·omega);(·(try simp only[List.length_map]);omega))
  refine aj ?_
  refine D.C5 ⟨[1],[]⟩ ar ?_
  refine aj ?_
  refine D.iy ak fun U ak=> ?_
  cases fz with
  |false=>
   simp only[Bool.false_and]at ak
   refine av.iU (anns:=[.bool false,.undef]) ?_
   refine dc ?_
   refine D.fL (ax) ?_
   refine dc ?_
   refine D.iy ak fun U ak=> ?_
   cases U
  |true=>
   simp only[Bool.true_and]at ak
   refine av.iU (anns:=[.bool true,.bool iM]) ?_
   refine dc ?_
   refine D.fL (ax) ?_
   refine dc ?_
   refine D.fL (bU) ?_
   refine dc ?_
   refine D.iy ak fun U ak=> ?_
   refine aj ?_
   refine av.gi (i+1) ⟨by omega,ak⟩ ⟨rfl,rfl,rfl,by simp only[Int.natCast_add]; rfl,trivial⟩ ⟨rfl,trivial⟩ trivial (by show x.vars.length-(i+1)<x.vars.length-i; omega)
theorem J5 (x:b3) (g:cd) (ac:g.cC.length≤1000000000000):Pure Tryz.prog 33 [x.cQ,g.cQ] (.cT [.int .i64 (max (eJ g.cC x.bM) 0),.bool (decide (0≤eJ g.cC x.bM))]):=by
 have ax:Pure Tryz.prog 93 [.af 1 (g.cC.map b6),.str x.bM] (.int .i64 (eJ g.cC x.bM)):=zZ g.cC x.bM (by unfold maxLen; omega)
 generalize eJ g.cC x.bM=z at ax ⊢
 rw[lK]
 simp only[cd.cQ,cd.cells]
 refine cM bb Tryz.func33 Yu (by simp only[b7,I.flat,db,dp,of_flat,cR,df,ds,dw,Bool.and_self]) rfl ?_
 unfold mv TW
 simp(disch:=omega)only[go_sem,simprocAttr]
 refine aj ?_
 refine D.P (ax) ?_
 refine aj ?_
 exact D.rx
end
section
attribute [local go_sem] ba.row db eH dp eS of_flat b6 cR eE et er eG ds dw df cH Fd.row dn dz cD.row dr.row bs.row ff vr l9 jb j8 o7 al.cr ai.cr al.ch ai.ch al.ew ai.ew wR
attribute [local go_sem] p3 uK uL Option.isSome_some Option.isSome_none Option.getD_some Option.getD_none Iz GZ Is eZ VK Pg
section
variable {dd:Program}{anns:List I}{l:List bY}{env:Env}{K:Env→aQ→Prop}{Rp:I→aQ→Prop}{f:FuncId}{args:List aJ}{eg:List I}{α β:Type}{g:α→I}{kK:cY α}{R:cY β}{d:Nat}{c:aQ}{others:List Nat}
theorem D.Kw {b:Bool}{s:bF}{e:Int}{F:Unit→cY β}{l:List bY}{env:Env}{args:List aJ}(ak:R=(gh b s e).bind F) (hp:R= .err s e→Rp (nn s e) (c.li ⟨[],[]⟩ [] [])) (aw:b=true→R=F ()→au Tryz.prog anns l ((d,.cT [])::env) c K Rp)
  (aL:args.map (bp env)=[.bool b,.str s,.int .i64 e]:=by simp (disch:=omega) only[go_sem,simprocAttr]<;>with_reducible rfl):
  au Tryz.prog anns (⟨some d,none,.call 84 args⟩::l) env c K Rp:=by
 cases b with
 |true=>exact au.IN (J8 s e) aL rfl rfl rfl (aw rfl (by rw[ak]; rfl))
 |false=>
  refine au.AV rfl (aY.xM (c:=c) ⟨[],[]⟩ (J7 s e) rfl rfl rfl trivial trivial rfl rfl rfl rfl) (by rw[aL]; rfl) (fun v c1 q=> ?_) (fun v c1 q=> ?_)
  ·cases q.1
  ·obtain⟨b0,cN⟩:=q
   cases b0
   subst cN
   exact hp (by rw[ak]; rfl)
theorem D.V6 {aS:List bc}{c8 t0:Nat}{k:List gm}{Q:Out→aQ→Prop}{hV dT:Nat}{cK:fl}{cX:fm}(s:bC){fX:fl}{fZ:fm}{n q:Nat}{x:I}(h:aY dd f eg (aQ.of n q fX fZ) (th x)) (aw:Q (.e5 x) ((aQ.of hV dT cK cX).li s [] []))
  (aq:(s.b.length==n&&(s.t.length==q&&(nodupB s.b&&(nodupB s.t&&(s.b.all (fun x=>Nat.blt x hV)&&(s.t.all (fun x=>Nat.blt x dT)&&(ed n q eg&&(fA n q fX&&(fB n q fZ&&x.dW n q)))))))))=true:=by simp (disch:=omega) only[go_sem,simprocAttr]<;>rfl) (fa:ox (aQ.of hV dT cK cX).H.aZ s fX:=by repeat first|exact trivial|refine⟨rfl,?_⟩) (dF:oy (aQ.of hV dT cK cX).H.tok s fZ:=by repeat first|exact trivial|refine⟨rfl,?_⟩) (aL:args.map (bp env)=fw s eg:=by simp (disch:=omega) only[go_sem,simprocAttr]<;>rfl) (ac:x.fh s=x:=by rfl):
  au dd [] [⟨some d,none,.gN [] f args⟩] env (aQ.of hV dT cK cX) (fun e c1=>av dd aS c8 t0 k Q e c1) (fun v c1=>Q (.e5 v) c1):=by
 simp only[Bool.and_eq_true,beq_iff_eq]at aq
 obtain⟨c1,ci,fc,ha,k6,ls,oo,ph,nl,nk⟩:=aq
 have bH:aY dd f (args.map (bp env)) (aQ.of hV dT cK cX) (fun o cV=>o= .e5 x∧cV=(aQ.of hV dT cK cX).li s [] []):=by
  rw[aL]
  exact aY.xM s h c1 ci (by rw[fc,ha]; simp only[show (aQ.of hV dT cK cX).b4=hV from rfl,show (aQ.of hV dT cK cX).bj=dT from rfl,k6,ls]; rfl) fa dF (by rw[oo,ph,nl]; rfl) nk ac rfl
 refine au.qR (S:=fun bI cV=>bI= .cT []∧cV=(aQ.of hV dT cK cX).hz (.bX 0 0 0)) rfl rfl (ik.mono (ik.FY (others:=[]) bH rfl rfl rfl fun s hs=>by cases hs) (fun _ _ h=>h) fun v cV q=> ?_) fun bI cV q=> ?_
 ·rw[q.1,q.2]
  exact aw
 ·rw[q.1,q.2,Cg]
  exact au.nil Be
end
theorem ak7 {ck:dL}{l:List bL}{i:Nat}{h:bL}(a8:l[i]? =some h):mP ck (l.take i) (l.drop i)=(ki ck (l.take i) h).bind fun _=>mP ck (l.take (i+1)) (l.drop (i+1)):=by
 rw[fY a8,List.take_add_one,a8]
 rfl
theorem aE8 {ck:dL}{l:List cf}{i:Nat}{o:cf}(a8:l[i]? =some o):nE ck (l.drop i)=(nD ck o).bind fun _=>nE ck (l.drop (i+1)):=by
 rw[fY a8]
 rfl
def za (q:bF×Int):I:= .cT [.str q.1,.int .i64 q.2]
theorem a69 (x:b3) (g:cd) (hb:jw x) (br:g.decls.length≤1000000000) (ac:g.cC.length≤1000000000) (he:g.cy.length≤1000000000) (zp:Pure Tryz.prog 82 [g.cQ] (.bool (s6 g))):Pure Tryz.prog 31 [x.cQ,g.cQ] (za (kf x g)):=by
 have Gx:=aL0 x hb
 have mv:=J5 x g (by omega)
 obtain⟨S,ea⟩: ∃S,S=kf x g:=⟨_,rfl⟩
 rw[←ea]
 have kn:=hb.kn
 have l5:=hb.l5
 have no:=hb.no
 rw[lK]at Gx mv ⊢
 simp only[cd.cQ,cd.cells]at zp mv ⊢
 refine cM bb Tryz.func31 Yr (by simp only[b7,I.flat,db,dp,of_flat,cR,df,ds,dw,Bool.and_self]) rfl ?_
 unfold ks TT
 simp(disch:=omega)only[go_sem,simprocAttr]
 refine aj ?_
 refine D.P (Gx) ?_
 cases iS:n3 x with
 |false=>
  refine aj ?_
  refine D.r ?_
  rw[ea]
  simp only[kf,iS,Bool.false_and]
  exact⟨_,rfl,.aM rfl rfl,trivial,trivial⟩
 |true=>
 refine aj ?_
 refine D.P (zp) ?_
 cases jg:s6 g with
 |false=>
  refine aj ?_
  refine D.r ?_
  rw[ea]
  simp only[kf,iS,jg,Bool.and_false]
  exact⟨_,rfl,.aM rfl rfl,trivial,trivial⟩
 |true=>
 obtain⟨R,ak⟩: ∃R,R=pE x g:=⟨_,rfl⟩
 have aj5:R= .ok ()→S=([],0):=fun h=>by
  rw[ea]
  simp only[kf,iS,jg,←ak,h]
  rfl
 have Bl: ∀n e,R= .err n e→S=(n,e):=fun n e h=>by
  rw[ea]
  simp only[kf,iS,jg,←ak,h]
  rfl
 clear ea zp Gx
 simp only[pE]at ak
 have zy:rX x=true:=by simp only[n3,Bool.and_eq_true]at iS; exact iS.2.1
 simp only[rX,Bool.and_eq_true,List.all_eq_true]at zy
 obtain⟨_,OQ,go⟩:=zy
 have pZ:=ba0 x g (max (eJ g.cC x.bM) 0) (by omega)
 have wj: ∀(h:bL),h∈x.hs→∀i,aY Tryz.prog 86 [.ptr 0 0,.agg (bL.row h),.af 4 ((x.hs.map bL.row).take i)] (kz ⟨x,g,max (eJ g.cC x.bM) 0,none⟩) (RK p3 ⟨x,g,max (eJ g.cC x.bM) 0,none⟩ (ki ⟨x,g,max (eJ g.cC x.bM) 0,none⟩ (x.hs.take i) h)):=fun h hm i=>by
  have bw:=OQ h hm
  simp only[pr,Bool.and_eq_true,decide_eq_true_eq]at bw
  have:=ba1 x g (max (eJ g.cC x.bM) 0) h (x.hs.take i) (by omega) (by omega) (by omega) (by omega) (by rw[List.length_take]; omega) (by have:=hb.hp h hm; omega) (by have:=hb.aL h hm; omega) (by rw[xP]; exact bw.2.2.2.2.1)
  rwa [List.map_take]at this
 have wk: ∀(o:cf),o∈x.os→aY Tryz.prog 87 [.ptr 0 0,.agg (cf.row o)] (kz ⟨x,g,max (eJ g.cC x.bM) 0,none⟩) (RK p3 ⟨x,g,max (eJ g.cC x.bM) 0,none⟩ (nD ⟨x,g,max (eJ g.cC x.bM) 0,none⟩ o)):=fun o hm=>by
  have bw:=go o hm
  simp only[qA,Bool.and_eq_true,decide_eq_true_eq,List.all_append]at bw
  obtain⟨_,_,_,_,⟨b0,cN⟩,_⟩:=bw
  exact ba2 x g (max (eJ g.cC x.bM) 0) o (by omega) (by omega) (by omega) (by omega) (by have:=hb.sH o hm; omega) (by have:=hb.sH o hm; omega) (by rw[zv]; exact b0) (by rw[zv]; exact cN)
 clear OQ go iS jg
 generalize eJ g.cC x.bM=z at mv ak pZ wj wk
 generalize max z 0=bM at mv ak pZ wj wk
 refine aj ?_
 refine av.ab9 (cap:=[.t 4,.t 5]) (Qp:=fun c9 c1=> ∃n e,R= .err n e∧c9=nn n e∧c1.H.aZ 2=some (9,[.str []])∧c1.H.aZ 3=some (41,[.int .i64 0])) (kt:=[(4,.ptr 2 0),(5,.ptr 3 0)]) ?_ ?_ ?_ ?_ (fun hA h=>ZR hA h) rfl ?_ ?_
 ·intro q bw
  simp only[List.mem_cons,List.not_mem_nil,or_false]at bw
  rcases bw with rfl|rfl<;>rfl
 ·intro q bw
  simp only[List.mem_cons,List.not_mem_nil,or_false]at bw
  rcases bw with rfl|rfl<;>decide
 ·intro q bw
  simp only[List.mem_cons,List.not_mem_nil,or_false]at bw
  rcases bw with rfl|rfl<;>rfl
 ·kernel_rfl
 ·rintro c9 c1 ⟨n,e,U,rfl,aa,ay⟩
  refine yS.mono (ZS (by decide) aa ay) ?_
  rintro ci rfl
  rw[Bl n e U]
  refine⟨.cT [.str n,.int .i64 e],?_,⟨_,rfl,.aM rfl rfl,trivial,trivial⟩⟩
  simp [pY,v8,wa,Env.get,aQ.cp,aA.cp,pX]
  rfl
 simp(disch:=omega)only[go_sem,simprocAttr]
 refine aj ?_
 refine D.Kw ak (fun h=>⟨_,_,h,rfl,by rw[oC]; rfl,by rw[oC]; rfl⟩) fun U ak=> ?_
 refine aj ?_
 refine D.P (mv) ?_
 refine aj ?_
 refine D.Kw ak (fun h=>⟨_,_,h,rfl,by rw[oC]; rfl,by rw[oC]; rfl⟩) fun aa ak=> ?_
 refine aj ?_
 cases ay:q1 [] x.vars with
 |err n e=>
  rw[ay]at pZ ak
  have pZ:aY Tryz.prog 85 [.ptr 0 0] (aQ.of 1 0 [(0,186,ff ⟨x,g,bM,none⟩)] []) (th (nn n e)):=pZ
  exact D.Ks ⟨[4],[]⟩ pZ ⟨n,e,ak,rfl,by rw[oC]; rfl,by rw[oC]; rfl⟩
 |ok u=>
 rw[ay]at pZ ak
 have pZ:aY Tryz.prog 85 [.ptr 0 0] (aQ.of 1 0 [(0,186,ff ⟨x,g,bM,none⟩)] []) (dR (.cT []) [(0,186,ff ⟨x,g,bM,none⟩)] []):=pZ
 simp only[cY.bind]at ak
 refine D.F ⟨[4],[]⟩ (pZ) ?_
 clear pZ mv U aa ay
 refine aj ?_
 refine av.c5 (X:=Nat) 0 (fun i=>[(2,.ptr 0 0),(3,.ptr 1 0),(4,.ptr 2 0),(5,.ptr 3 0),(8,.ptr 4 0),(48,.af 4 (x.hs.map bL.row)),(49,.int .i64 ((x.hs.map bL.row).length:Int)),(50,.int .i64 (i:Int))]) (fun _=>[(0,48,[.str x.name,.str x.bM,.str x.gJ,.af 7 (x.vars.map ba.row),.af 4 (x.hs.map bL.row),.af 4 (x.os.map cf.row)]),(1,32,g.cells),(2,9,[.str []]),(3,41,[.int .i64 0]),(4,186,ff ⟨x,g,bM,none⟩)]) (fun _=>[]) (fun i=>i≤x.hs.length∧R=(mP ⟨x,g,bM,none⟩ (x.hs.take i) (x.hs.drop i)).bind fun _=>nE ⟨x,g,bM,none⟩ x.os) (fun i=>x.hs.length-i) ⟨Nat.zero_le _,ak⟩ ⟨rfl,rfl,rfl,rfl,rfl,rfl,rfl,rfl,trivial⟩ ⟨rfl,rfl,rfl,rfl,rfl,trivial⟩ trivial ?_
 clear ak
 rintro i ⟨ad,ak⟩
 try simp only at ad ak ⊢
 cases aG:x.hs[i]? with
 |some h=>
  have cB:=(List.getElem?_eq_some_iff.1 aG).1
  have d1:(i:Int)<((x.hs.map bL.row).length:Int):=by rw[List.length_map]; omega
  have wm:=wj h (List.mem_of_getElem? aG) i
  rw[ak7 aG]at ak
  clear wj wk
  simp only[cd.cells]
  (have ah:=d1;refine bE ?_;clear ah)
  (apply au.Ah (i);(·simp(disch:=omega)only[go_sem,simprocAttr]<;>with_reducible rfl);(·simp(disch:=omega)only[go_sem,simprocAttr]<;>with_reducible rfl);(·omega);(·(try simp only[List.length_map]);omega))
  refine aj ?_
  cases a8:ki ⟨x,g,bM,none⟩ (x.hs.take i) h with
  |err n e=>
   rw[a8]at wm ak
   have wm:aY Tryz.prog 86 [.ptr 0 0,.agg (bL.row h),.af 4 ((x.hs.map bL.row).take i)] (aQ.of 1 0 [(0,186,ff ⟨x,g,bM,none⟩)] []) (th (nn n e)):=wm
   exact D.V6 ⟨[4],[]⟩ wm ⟨n,e,ak,rfl,by rw[oC]; rfl,by rw[oC]; rfl⟩
  |ok u=>
   rw[a8]at wm ak
   have wm:aY Tryz.prog 86 [.ptr 0 0,.agg (bL.row h),.af 4 ((x.hs.map bL.row).take i)] (aQ.of 1 0 [(0,186,ff ⟨x,g,bM,none⟩)] []) (dR (.cT []) [(0,186,ff ⟨x,g,bM,none⟩)] []):=wm
   refine D.C5 ⟨[4],[]⟩ wm ?_
   refine aj ?_
   refine av.gi (i+1) ⟨by omega,ak⟩ ⟨rfl,rfl,rfl,rfl,rfl,rfl,rfl,by simp only[Int.natCast_add]; rfl,trivial⟩ ⟨rfl,rfl,rfl,rfl,rfl,trivial⟩ trivial (by show x.hs.length-(i+1)<x.hs.length-i; omega)
 |none=>
 have cg:=List.getElem?_eq_none_iff.1 aG
 have d1: ¬(i:Int)<((x.hs.map bL.row).length:Int):=by rw[List.length_map]; omega
 rw[List.drop_eq_nil_of_le cg]at ak
 simp only[mP,cY.bind]at ak
 simp only[cd.cells]
 (have ah:=d1;refine bE ?_;clear ah)
 clear d1 cg ad aG wj
 refine av.c5 (X:=Nat) 0 (fun i=>[(2,.ptr 0 0),(3,.ptr 1 0),(4,.ptr 2 0),(5,.ptr 3 0),(8,.ptr 4 0),(64,.af 4 (x.os.map cf.row)),(65,.int .i64 ((x.os.map cf.row).length:Int)),(66,.int .i64 (i:Int))]) (fun _=>[(0,48,[.str x.name,.str x.bM,.str x.gJ,.af 7 (x.vars.map ba.row),.af 4 (x.hs.map bL.row),.af 4 (x.os.map cf.row)]),(1,32,g.cells),(2,9,[.str []]),(3,41,[.int .i64 0]),(4,186,ff ⟨x,g,bM,none⟩)]) (fun _=>[]) (fun i=>i≤x.os.length∧R=nE ⟨x,g,bM,none⟩ (x.os.drop i)) (fun i=>x.os.length-i) ⟨Nat.zero_le _,ak⟩ ⟨rfl,rfl,rfl,rfl,rfl,rfl,rfl,rfl,trivial⟩ ⟨rfl,rfl,rfl,rfl,rfl,trivial⟩ trivial ?_
 clear ak i
 rintro i ⟨ad,ak⟩
 try simp only at ad ak ⊢
 cases aG:x.os[i]? with
 |some o=>
  have cB:=(List.getElem?_eq_some_iff.1 aG).1
  have d1:(i:Int)<((x.os.map cf.row).length:Int):=by rw[List.length_map]; omega
  have pn:=wk o (List.mem_of_getElem? aG)
  rw[aE8 aG]at ak
  clear wk
  simp only[cd.cells]
  (have ah:=d1;refine bE ?_;clear ah)
  cases a8:nD ⟨x,g,bM,none⟩ o with
  |err n e=>
   rw[a8]at pn ak
   have pn:aY Tryz.prog 87 [.ptr 0 0,.agg (cf.row o)] (aQ.of 1 0 [(0,186,ff ⟨x,g,bM,none⟩)] []) (th (nn n e)):=pn
   exact D.Ks ⟨[4],[]⟩ pn ⟨n,e,ak,rfl,by rw[oC]; rfl,by rw[oC]; rfl⟩
  |ok u=>
   rw[a8]at pn ak
   have pn:aY Tryz.prog 87 [.ptr 0 0,.agg (cf.row o)] (aQ.of 1 0 [(0,186,ff ⟨x,g,bM,none⟩)] []) (dR (.cT []) [(0,186,ff ⟨x,g,bM,none⟩)] []):=pn
   refine D.F ⟨[4],[]⟩ (pn) ?_
   refine aj ?_
   refine av.gi (i+1) ⟨by omega,ak⟩ ⟨rfl,rfl,rfl,rfl,rfl,rfl,rfl,by simp only[Int.natCast_add]; rfl,trivial⟩ ⟨rfl,rfl,rfl,rfl,rfl,trivial⟩ trivial (by show x.os.length-(i+1)<x.os.length-i; omega)
 |none=>
  have cg:=List.getElem?_eq_none_iff.1 aG
  have d1: ¬(i:Int)<((x.os.map cf.row).length:Int):=by rw[List.length_map]; omega
  rw[List.drop_eq_nil_of_le cg]at ak
  simp only[cd.cells]
  (have ah:=d1;refine bE ?_;clear ah)
  refine D.r ?_
  rw[aj5 ak]
  exact⟨_,rfl,.aM rfl rfl,trivial,trivial⟩
end
section
attribute [local go_sem] b6 cR eE et er eG ds dw df cH Fd.row dn dz cD.row dr.row bs.row eZ
theorem uc (l:List bF) (i:Nat):eN ((l.map b6).take i)=true:=by rw[←List.map_take]; exact cR _
theorem tA (l:List bs) (i:Nat):eN ((l.map bs.row).take i)=true:=by rw[←List.map_take]; exact df _
theorem tF (l:List Fd) (i:Nat):eN ((l.map Fd.row).take i)=true:=by rw[←List.map_take]; exact et _
attribute [local go_sem] uc tA tF
theorem aR7 {l:List bF}{i:Nat}{x:bF}(h:l[i]? =some x):Cv (l.take i) (l.drop i)=(io x&&(!(l.take i).contains x&&Cv (l.take (i+1)) (l.drop (i+1)))):=by
  rw[fY h,List.take_add_one,h]
  rfl
structure kp (g:cd):Prop where
  Ir:g.cC.length≤1000000000
  yi:g.decls.length≤1000000000
  ne:g.cy.length≤1000000000
  bj:g.fH.length≤1000000000
  nf: ∀d∈g.decls,d.fields.length≤1000000000∧d.ep.length≤1000000000∧d.eqs.length≤1000000000
theorem wA (g:cd):g.cells=[.str g.name,.af 1 (g.cC.map b6),.af 5 (g.decls.map bs.row),.int .i64 g.iI,.int .i64 g.start,.int .i64 g.fin,.af 6 (g.cy.map cD.row),.af 3 (g.fH.map dr.row)]:=rfl
theorem lY (g:cd):g.cQ= .agg [.str g.name,.af 1 (g.cC.map b6),.af 5 (g.decls.map bs.row),.int .i64 g.iI,.int .i64 g.start,.int .i64 g.fin,.af 6 (g.cy.map cD.row),.af 3 (g.fH.map dr.row)]:=rfl
theorem a36 (g:cd) (hb:kp g):Pure Tryz.prog 154 [g.cQ] (.bool (Cc g)):=by
  have aW:=hb.Ir
  have ar:=qS g.name
  obtain⟨R,ak⟩: ∃R,R=Cc g:=⟨_,rfl⟩
  rw[←ak]
  simp only[Cc]at ak
  rw[lY]
  refine cM bb Tryz.func154 Xg (by simp only[b7,I.flat,cR,df,ds,dw,Bool.and_self]) rfl ?_
  unfold ML SH
  simp(disch:=omega)only[go_sem,simprocAttr]
  refine aj ?_
  refine D.P (ar) ?_
  generalize io g.name=b at ak
  cases b
  ·refine aj ?_
   refine D.r ?_
   exact⟨_,rfl,.aM (by rw[ak]; rfl) rfl,trivial,trivial⟩
  have eb:((g.cC.map b6).length:Int)=(g.cC.length:Int):=by rw[List.length_map]
  by_cases U:1≤g.cC.length
  rotate_left
  ·have d1:(g.cC.length:Int)<1:=by omega
   (have ah:=eb;have z2:=d1;refine eM ?_;clear ah z2)
   refine D.r ?_
   exact⟨_,rfl,.aM (by rw[ak]; simp [U,I.aM]) rfl,trivial,trivial⟩
  by_cases aa:g.cC.length≤6
  rotate_left
  ·have d1: ¬(g.cC.length:Int)<1:=by omega
   have d2:(6:Int)<(g.cC.length:Int):=by omega
   (have ah:=eb;have z2:=d1;have z3:=d2;refine dE ?_;clear ah z2 z3)
   refine D.r ?_
   exact⟨_,rfl,.aM (by rw[ak]; simp [aa,I.aM]) rfl,trivial,trivial⟩
  have d1: ¬(g.cC.length:Int)<1:=by omega
  have d2: ¬(6:Int)<(g.cC.length:Int):=by omega
  simp only[decide_eq_true U,decide_eq_true aa,Bool.true_and]at ak
  (have ah:=eb;have z2:=d1;have z3:=d2;refine dE ?_;clear ah z2 z3)
  refine av.c5 (X:=Nat) 0 (fun i=>[(1,.ptr 0 0),(22,.af 1 (g.cC.map b6)),(23,.int .i64 (g.cC.length:Int)),(24,.int .i64 (i:Int))]) (fun _=>[(0,32,g.cells)]) (fun _=>[]) (fun i=>i≤g.cC.length∧R=Cv (g.cC.take i) (g.cC.drop i)) (fun i=>g.cC.length-i) ⟨Nat.zero_le _,ak⟩ ⟨rfl,rfl,by simp only[Env.get,eb]; rfl,rfl,trivial⟩ ⟨rfl,trivial⟩ trivial ?_
  clear ak
  rintro i ⟨ad,ak⟩
  try simp only at ad ak ⊢
  cases aG:g.cC[i]? with
  |none=>
   have cg:=List.getElem?_eq_none_iff.1 aG
   have d3: ¬(i:Int)<(g.cC.length:Int):=by omega
   rw[List.drop_eq_nil_of_le cg]at ak
   simp only[wA]
   (have ah:=d3;refine bE ?_;clear ah)
   refine D.r ?_
   exact⟨_,rfl,.aM (by rw[ak]; rfl) rfl,trivial,trivial⟩
  |some x=>
   have cB:=(List.getElem?_eq_some_iff.1 aG).1
   have d3:(i:Int)<(g.cC.length:Int):=by omega
   rw[aR7 aG]at ak
   have ax:=qS x
   have bU:=Sc (g.cC.take i) x (by rw[List.length_take]; unfold maxLen; omega)
   rw[List.map_take]at bU
   generalize io x=fz at ax ak
   generalize (g.cC.take i).contains x=iM at bU ak
   simp only[wA]
   (have ah:=d3;refine bE ?_;clear ah)
   refine D.P (ax) ?_
   cases fz
   ·refine aj ?_
    refine D.r ?_
    exact⟨_,rfl,.aM (by rw[ak]; rfl) rfl,trivial,trivial⟩
   refine aj ?_
   (apply au.Ah (i);(·simp(disch:=omega)only[go_sem,simprocAttr]<;>with_reducible rfl);(·simp(disch:=omega)only[go_sem,simprocAttr]<;>with_reducible rfl);(·omega);(·(try simp only[List.length_map]);omega))
   refine aj ?_
   refine D.P (bU) ?_
   cases iM
   ·refine aj ?_
    refine av.dO (i+1) ⟨by omega,ak⟩ ⟨rfl,rfl,rfl,by simp only[Int.natCast_add]; rfl,trivial⟩ ⟨rfl,trivial⟩ trivial rfl rfl (by show g.cC.length-(i+1)<g.cC.length-i; omega)
   ·refine aj ?_
    refine D.r ?_
    exact⟨_,rfl,.aM (by rw[ak]; rfl) rfl,trivial,trivial⟩
theorem a38 (g:cd) (hb:kp g):Pure Tryz.prog 155 [g.cQ] (.bool (wS g)):=by
  have aW:=hb.ne
  obtain⟨R,ak⟩: ∃R,R=wS g:=⟨_,rfl⟩
  rw[←ak]
  simp only[wS]at ak
  rw[lY]
  refine cM bb Tryz.func155 Xh (by simp only[b7,I.flat,cR,df,ds,dw,Bool.and_self]) rfl ?_
  unfold MM SI
  have c4:((g.cy.map cD.row).length:Int)=(g.cy.length:Int):=by rw[List.length_map]
  have nc:((g.cC.map b6).length:Int)=(g.cC.length:Int):=by rw[List.length_map]
  have lP:((g.decls.map bs.row).length:Int)=(g.decls.length:Int):=by rw[List.length_map]
  simp(disch:=omega)only[go_sem,simprocAttr]
  (repeat' first|(apply au.s rfl;(·simp(disch:=omega)only[go_sem,simprocAttr,c4]<;>with_reducible rfl))|(apply av.s true true;(·simp(disch:=omega)only[go_sem,simprocAttr,c4]<;>with_reducible rfl))|apply au.nil|(refine av.dN ?_)|(apply au.gw;(·simp(disch:=omega)only[go_sem,simprocAttr,c4]<;>with_reducible rfl))|(apply au.gx;(·rfl);(·simp(disch:=omega)only[go_sem,simprocAttr,c4]<;>with_reducible rfl))|(apply au.gs;(·simp(disch:=omega)only[go_sem,simprocAttr,c4]<;>with_reducible rfl))|((first|apply au.gz|apply au.gA|apply au.gB);(·simp(disch:=omega)only[go_sem,simprocAttr,c4]<;>with_reducible rfl);(·simp(disch:=omega)only[go_sem,simprocAttr,c4]<;>with_reducible rfl);(·assumption);(·omega))|intro h|(apply av.cond;(·simp(disch:=omega)only[go_sem,simprocAttr,c4]<;>with_reducible rfl)))
  all_goals first
    |(refine D.R ?_
      refine⟨_,rfl,.aM ?_ rfl,trivial,trivial⟩
      rw[ak]
      simp only[I.aM,I.bool.injEq,@Eq.comm Bool false,Bool.and_eq_false_iff,decide_eq_false_iff_not,decide_eq_true_eq]at*
      omega)
    |skip
  have c:(decide (1≤g.iI)&&(decide (g.iI≤200)&&(decide (0≤g.start)&&(decide (0≤g.fin)&&(decide (g.start<g.iI)&&(decide (g.fin<g.iI)&&decide (g.cy.length≤400)))))))=true:=by
    simp only[Bool.and_eq_true,decide_eq_false_iff_not,decide_eq_true_eq]at*
    omega
  simp only[Bool.and_eq_true,decide_eq_true_eq]at c
  obtain⟨c1,ci,fc,ha,k6,ls,oo⟩:=c
  simp only[decide_eq_true c1,decide_eq_true ci,decide_eq_true fc,decide_eq_true ha,decide_eq_true k6,decide_eq_true ls,decide_eq_true oo,Bool.true_and]at ak
  clear c1 ci fc ha k6 ls
  refine av.c5 (X:=Nat) 0 (fun i=>[(1,.ptr 0 0),(39,.af 6 (g.cy.map cD.row)),(40,.int .i64 ((g.cy.map cD.row).length:Int)),(41,.int .i64 (i:Int))]) (fun _=>[(0,32,g.cells)]) (fun _=>[]) (fun i=>i≤g.cy.length∧R=(g.cy.drop i).all (A7 g)) (fun i=>g.cy.length-i) ⟨Nat.zero_le _,ak⟩ ⟨rfl,rfl,by simp only[Env.get,c4]; rfl,rfl,trivial⟩ ⟨rfl,trivial⟩ trivial ?_
  clear ak
  rintro i ⟨ad,ak⟩
  try simp only at ad ak ⊢
  simp only[wA,c4]
  cases aG:g.cy[i]? with
  |none=>
   have cg:=List.getElem?_eq_none_iff.1 aG
   have d3: ¬(i:Int)<(g.cy.length:Int):=by omega
   rw[List.drop_eq_nil_of_le cg]at ak
   (have ah:=d3;refine bE ?_;clear ah)
   refine D.r ?_
   exact⟨_,rfl,.aM (by rw[ak]; rfl) rfl,trivial,trivial⟩
  |some e=>
   have cB:=(List.getElem?_eq_some_iff.1 aG).1
   have d3:(i:Int)<(g.cy.length:Int):=by omega
   rw[fY aG,List.all_cons]at ak
   simp only[A7]at ak
   generalize nu:(g.cy.drop (i+1)).all (A7 g)=rest at ak
   (repeat' first|(apply au.s rfl;(·simp(disch:=omega)only[go_sem,simprocAttr,d3,nc,lP]<;>with_reducible rfl))|(apply av.s true true;(·simp(disch:=omega)only[go_sem,simprocAttr,d3,nc,lP]<;>with_reducible rfl))|apply au.nil|(refine av.dN ?_)|(apply au.gw;(·simp(disch:=omega)only[go_sem,simprocAttr,d3,nc,lP]<;>with_reducible rfl))|(apply au.gx;(·rfl);(·simp(disch:=omega)only[go_sem,simprocAttr,d3,nc,lP]<;>with_reducible rfl))|(apply au.gs;(·simp(disch:=omega)only[go_sem,simprocAttr,d3,nc,lP]<;>with_reducible rfl))|((first|apply au.gz|apply au.gA|apply au.gB);(·simp(disch:=omega)only[go_sem,simprocAttr,d3,nc,lP]<;>with_reducible rfl);(·simp(disch:=omega)only[go_sem,simprocAttr,d3,nc,lP]<;>with_reducible rfl);(·assumption);(·omega))|intro h|(apply av.cond;(·simp(disch:=omega)only[go_sem,simprocAttr,d3,nc,lP]<;>with_reducible rfl)))
   all_goals first
     |(refine D.R ?_
       refine⟨_,rfl,.aM ?_ rfl,trivial,trivial⟩
       rw[ak]
       simp only[I.aM,I.bool.injEq,@Eq.comm Bool false,Bool.and_eq_false_iff,Bool.not_eq_false',decide_eq_false_iff_not,decide_eq_true_eq]at*
       omega)
     |skip
   refine av.gi (i+1) ⟨by omega,?_⟩ ⟨rfl,rfl,by simp only[Env.get,c4]; rfl,by simp only[Int.natCast_add]; rfl,trivial⟩ ⟨rfl,trivial⟩ trivial (by show g.cy.length-(i+1)<g.cy.length-i; omega)
   rw[nu,ak]
   simp only[decide_eq_false_iff_not]at*
   have c:(decide (0≤e.hM)&&(decide (0≤e.dst)&&(decide (0≤e.oO)&&(decide (0≤e.ri)&&(decide (0≤e.re)&&(decide (e.hM<g.iI)&&(decide (e.dst<g.iI)&&(decide (e.oO<g.cC.length)&&(decide (e.ri<g.cC.length)&&(!decide (e.oO=e.ri)&&decide (e.re<g.decls.length)))))))))))=true:=by
     simp only[Bool.and_eq_true,Bool.not_eq_true',decide_eq_false_iff_not,decide_eq_true_eq]
     omega
   rw[c,Bool.true_and]
end
section
attribute [local go_sem] b6 cR eE et er eG ds dw df cH Fd.row dn dz cD.row dr.row bs.row eZ uc tA tF
theorem a42 (g:cd) (hb:kp g):Pure Tryz.prog 158 [g.cQ] (.bool (CH g)):=by
  have aW:=hb.bj
  have he:=hb.ne
  obtain⟨R,ak⟩: ∃R,R=CH g:=⟨_,rfl⟩
  rw[←ak]
  simp only[CH]at ak
  rw[lY]
  refine cM bb Tryz.func158 Xk (by simp only[b7,I.flat,cR,df,ds,dw,Bool.and_self]) rfl ?_
  unfold MP SL
  have c4:((g.cy.map cD.row).length:Int)=(g.cy.length:Int):=by rw[List.length_map]
  have kJ:((g.fH.map dr.row).length:Int)=(g.fH.length:Int):=by rw[List.length_map]
  simp(disch:=omega)only[go_sem,simprocAttr]
  (have ah:=kJ;refine bE ?_;clear ah)
  refine av.c5 (X:=Nat×Int) (0,-1) (fun q=>[(1,.ptr 0 0),(3,.int .i64 q.2),(7,.af 3 (g.fH.map dr.row)),(8,.int .i64 (g.fH.length:Int)),(9,.int .i64 (q.1:Int))]) (fun _=>[(0,32,g.cells)]) (fun _=>[]) (fun q=>q.1≤g.fH.length∧R=CI g q.2 (g.fH.drop q.1)) (fun q=>g.fH.length-q.1) ⟨Nat.zero_le _,ak⟩ ⟨rfl,rfl,rfl,rfl,rfl,trivial⟩ ⟨rfl,trivial⟩ trivial ?_
  clear ak
  rintro⟨i,last⟩ ⟨ad,ak⟩
  try simp only at ad ak ⊢
  simp only[wA]
  cases aG:g.fH[i]? with
  |none=>
   have cg:=List.getElem?_eq_none_iff.1 aG
   have d3: ¬(i:Int)<(g.fH.length:Int):=by omega
   rw[List.drop_eq_nil_of_le cg]at ak
   (have ah:=d3;refine bE ?_;clear ah)
   refine D.r ?_
   exact⟨_,rfl,.aM (by rw[ak]; rfl) rfl,trivial,trivial⟩
  |some t=>
   have cB:=(List.getElem?_eq_some_iff.1 aG).1
   have d3:(i:Int)<(g.fH.length:Int):=by omega
   rw[fY aG]at ak
   simp only[CI]at ak
   generalize nu:CI g t.state (g.fH.drop (i+1))=rest at ak
   by_cases nt:0≤t.wq∧t.wq<g.cy.length
   rotate_left
   ·(repeat' first|(apply au.s rfl;(·simp(disch:=omega)only[go_sem,simprocAttr,d3,c4]<;>with_reducible rfl))|(apply av.s true true;(·simp(disch:=omega)only[go_sem,simprocAttr,d3,c4]<;>with_reducible rfl))|apply au.nil|(refine av.dN ?_)|(apply au.gw;(·simp(disch:=omega)only[go_sem,simprocAttr,d3,c4]<;>with_reducible rfl))|(apply au.gx;(·rfl);(·simp(disch:=omega)only[go_sem,simprocAttr,d3,c4]<;>with_reducible rfl))|(apply au.gs;(·simp(disch:=omega)only[go_sem,simprocAttr,d3,c4]<;>with_reducible rfl))|((first|apply au.gz|apply au.gA|apply au.gB);(·simp(disch:=omega)only[go_sem,simprocAttr,d3,c4]<;>with_reducible rfl);(·simp(disch:=omega)only[go_sem,simprocAttr,d3,c4]<;>with_reducible rfl);(·assumption);(·omega))|intro h|(apply av.cond;(·simp(disch:=omega)only[go_sem,simprocAttr,d3,c4]<;>with_reducible rfl)))
    all_goals first
      |(refine D.R ?_
        refine⟨_,rfl,.aM ?_ rfl,trivial,trivial⟩
        rw[ak]
        simp only[I.aM,I.bool.injEq,@Eq.comm Bool false,Bool.and_eq_false_iff,Bool.not_eq_false',decide_eq_false_iff_not,decide_eq_true_eq]at*
        omega)
      |(exfalso
        simp only[decide_eq_false_iff_not,decide_eq_true_eq]at*
        omega)
   ·obtain⟨e,a8⟩: ∃e,True∧g.cy[t.wq.toNat]? =some e:=⟨_,trivial,List.getElem?_eq_getElem (by omega)⟩
    rw[a8.2]at ak
    simp only at ak
    (repeat' first|(apply au.s rfl;(·simp(disch:=omega)only[go_sem,simprocAttr,d3,c4]<;>with_reducible rfl))|(apply av.s true true;(·simp(disch:=omega)only[go_sem,simprocAttr,d3,c4]<;>with_reducible rfl))|apply au.nil|(refine av.dN ?_)|(apply au.gw;(·simp(disch:=omega)only[go_sem,simprocAttr,d3,c4]<;>with_reducible rfl))|(apply au.gx;(·rfl);(·simp(disch:=omega)only[go_sem,simprocAttr,d3,c4]<;>with_reducible rfl))|(apply au.gs;(·simp(disch:=omega)only[go_sem,simprocAttr,d3,c4]<;>with_reducible rfl))|((first|apply au.gz|apply au.gA|apply au.gB);(·simp(disch:=omega)only[go_sem,simprocAttr,d3,c4]<;>with_reducible rfl);(·simp(disch:=omega)only[go_sem,simprocAttr,d3,c4]<;>with_reducible rfl);(·assumption);(·omega))|intro h|(apply av.cond;(·simp(disch:=omega)only[go_sem,simprocAttr,d3,c4]<;>with_reducible rfl)))
    all_goals first
      |(refine D.R ?_
        refine⟨_,rfl,.aM ?_ rfl,trivial,trivial⟩
        rw[ak]
        simp only[I.aM,I.bool.injEq,@Eq.comm Bool false,Bool.and_eq_false_iff,Bool.not_eq_false',decide_eq_false_iff_not,decide_eq_true_eq]at*
        omega)
      |skip
    have PZ:=a8.2
    clear aG a8
    obtain⟨kv,h8,iB,mN,ku,GR⟩:=e
    simp only at ak
    (repeat' first|(apply au.s rfl;(·simp(disch:=omega)only[go_sem,simprocAttr,c4]<;>with_reducible rfl))|(apply av.s true true;(·simp(disch:=omega)only[go_sem,simprocAttr,c4]<;>with_reducible rfl))|apply au.nil|(refine av.dN ?_)|(apply au.gw;(·simp(disch:=omega)only[go_sem,simprocAttr,c4]<;>with_reducible rfl))|(apply au.gx;(·rfl);(·simp(disch:=omega)only[go_sem,simprocAttr,c4]<;>with_reducible rfl))|(apply au.gs;(·simp(disch:=omega)only[go_sem,simprocAttr,c4]<;>with_reducible rfl))|((first|apply au.gz|apply au.gA|apply au.gB);(·simp(disch:=omega)only[go_sem,simprocAttr,c4]<;>with_reducible rfl);(·simp(disch:=omega)only[go_sem,simprocAttr,c4]<;>with_reducible rfl);(·assumption);(·omega))|intro h|(apply av.cond;(·simp(disch:=omega)only[go_sem,simprocAttr,c4]<;>with_reducible rfl)))
    all_goals first
      |(refine D.R ?_
        refine⟨_,rfl,.aM ?_ rfl,trivial,trivial⟩
        rw[ak]
        simp only[I.aM,I.bool.injEq,@Eq.comm Bool false,Bool.and_eq_false_iff,Bool.not_eq_false',decide_eq_false_iff_not,decide_eq_true_eq]at*
        first|omega|simp_all)
      |skip
    refine av.gi (i+1,t.state) ⟨by omega,?_⟩ ⟨rfl,rfl,rfl,rfl,by simp only[Int.natCast_add]; rfl,trivial⟩ ⟨rfl,trivial⟩ trivial (by show g.fH.length-(i+1)<g.fH.length-i; omega)
    rw[nu,ak]
    simp_all
theorem ID {f:Nat→cD→Bool}{l:List cD}{i:Nat}{e:cD}(h:l[i]? =some e):pD f i (l.drop i)=(f i e&&pD f (i+1) (l.drop (i+1))):=by
  rw[fY h]
  rfl
theorem a41 (g:cd) (hb:kp g):Pure Tryz.prog 157 [g.cQ] (.bool (Cl g)):=by
  have aW:=hb.ne
  obtain⟨R,ak⟩: ∃R,R=Cl g:=⟨_,rfl⟩
  rw[←ak]
  simp only[Cl]at ak
  rw[lY]
  refine cM bb Tryz.func157 Xj (by simp only[b7,I.flat,cR,df,ds,dw,Bool.and_self]) rfl ?_
  unfold MO SK
  have c4:((g.cy.map cD.row).length:Int)=(g.cy.length:Int):=by rw[List.length_map]
  simp(disch:=omega)only[go_sem,simprocAttr]
  (have ah:=c4;refine bE ?_;clear ah)
  refine av.c5 (X:=Nat) 0 (fun i=>[(1,.ptr 0 0),(8,.af 6 (g.cy.map cD.row)),(9,.int .i64 (g.cy.length:Int)),(10,.int .i64 (i:Int))]) (fun _=>[(0,32,g.cells)]) (fun _=>[]) (fun i=>i≤g.cy.length∧R=pD (EK g) i (g.cy.drop i)) (fun i=>g.cy.length-i) ⟨Nat.zero_le _,ak⟩ ⟨rfl,rfl,rfl,rfl,trivial⟩ ⟨rfl,trivial⟩ trivial ?_
  clear ak
  rintro i ⟨ad,ak⟩
  try simp only at ad ak ⊢
  simp only[wA]
  cases aG:g.cy[i]? with
  |none=>
   have cg:=List.getElem?_eq_none_iff.1 aG
   have d3: ¬(i:Int)<(g.cy.length:Int):=by omega
   rw[List.drop_eq_nil_of_le cg]at ak
   (have ah:=d3;refine bE ?_;clear ah)
   refine D.r ?_
   exact⟨_,rfl,.aM (by rw[ak]; rfl) rfl,trivial,trivial⟩
  |some x=>
   have cB:=(List.getElem?_eq_some_iff.1 aG).1
   have d3:(i:Int)<(g.cy.length:Int):=by omega
   rw[ID aG]at ak
   generalize nu:pD (EK g) (i+1) (g.cy.drop (i+1))=rest at ak
   simp only[EK]at ak
   obtain⟨xl,xh,xi,xj,xk,bf0⟩:=x
   simp only at ak
   clear ad
   cases bf0 with
   |false=>
    (repeat' first|(apply au.s rfl;(·simp(disch:=omega)only[go_sem,simprocAttr,d3,c4]<;>with_reducible rfl))|(apply av.s true true;(·simp(disch:=omega)only[go_sem,simprocAttr,d3,c4]<;>with_reducible rfl))|apply au.nil|(refine av.dN ?_)|(apply au.gw;(·simp(disch:=omega)only[go_sem,simprocAttr,d3,c4]<;>with_reducible rfl))|(apply au.gx;(·rfl);(·simp(disch:=omega)only[go_sem,simprocAttr,d3,c4]<;>with_reducible rfl))|(apply au.gs;(·simp(disch:=omega)only[go_sem,simprocAttr,d3,c4]<;>with_reducible rfl))|((first|apply au.gz|apply au.gA|apply au.gB);(·simp(disch:=omega)only[go_sem,simprocAttr,d3,c4]<;>with_reducible rfl);(·simp(disch:=omega)only[go_sem,simprocAttr,d3,c4]<;>with_reducible rfl);(·assumption);(·omega))|intro h|(apply av.cond;(·simp(disch:=omega)only[go_sem,simprocAttr,d3,c4]<;>with_reducible rfl)))
    all_goals first
      |(refine D.R ?_
        refine⟨_,rfl,.aM ?_ rfl,trivial,trivial⟩
        rw[ak]
        simp_all [I.aM]
        done)
      |skip
    clear aG
    replace ak:R=(pD (vp i ⟨xl,xh,xi,xj,xk,false⟩) 0 g.cy&&rest):=by rw[ak]; simp_all
    refine av.c5 (X:=Nat) 0 (fun k=>[(1,.ptr 0 0),(3,.int .i64 (i:Int)),(4,.ptr 1 0),(8,.af 6 (g.cy.map cD.row)),(9,.int .i64 (g.cy.length:Int)),(10,.int .i64 (i:Int)),(32,.af 6 (g.cy.map cD.row)),(33,.int .i64 (g.cy.length:Int)),(34,.int .i64 (k:Int))]) (fun _=>[(0,32,g.cells),(1,76,[.int .i64 xl,.int .i64 xh,.int .i64 xi,.int .i64 xj,.int .i64 xk,.bool false])]) (fun _=>[]) (fun k=>k≤g.cy.length∧R=(pD (vp i ⟨xl,xh,xi,xj,xk,false⟩) k (g.cy.drop k)&&rest)) (fun k=>g.cy.length-k) ⟨Nat.zero_le _,ak⟩ ⟨rfl,rfl,rfl,rfl,rfl,rfl,rfl,rfl,rfl,trivial⟩ ⟨rfl,rfl,trivial⟩ trivial ?_
    clear ak
    rintro k ⟨aw,ak⟩
    try simp only at aw ak ⊢
    simp only[wA]
    cases aG:g.cy[k]? with
    |none=>
     have cg:=List.getElem?_eq_none_iff.1 aG
     have d4: ¬(k:Int)<(g.cy.length:Int):=by omega
     rw[List.drop_eq_nil_of_le cg]at ak
     simp only[pD,Bool.true_and]at ak
     (have ah:=d4;refine bE ?_;clear ah)
     refine av.gi (i+1) ⟨by omega,by rw[nu,ak]⟩ ⟨rfl,rfl,rfl,by simp only[Int.natCast_add]; rfl,trivial⟩ ⟨rfl,trivial⟩ trivial (by show g.cy.length-(i+1)<g.cy.length-i; omega)
    |some y=>
     have zD:=(List.getElem?_eq_some_iff.1 aG).1
     have d4:(k:Int)<(g.cy.length:Int):=by omega
     rw[ID aG]at ak
     generalize ib:pD (vp i ⟨xl,xh,xi,xj,xk,false⟩) (k+1) (g.cy.drop (k+1))=aR6 at ak
     obtain⟨bf8,lk,kY,Fp,bf7,bf9⟩:=y
     simp only[vp]at ak
     rw[show decide (i=k)=decide ((i:Int)=(k:Int)) from decide_eq_decide.2 (by omega)]at ak
     (repeat' first|(apply au.s rfl;(·simp(disch:=omega)only[go_sem,simprocAttr,d4,c4]<;>with_reducible rfl))|(apply av.s true true;(·simp(disch:=omega)only[go_sem,simprocAttr,d4,c4]<;>with_reducible rfl))|apply au.nil|(refine av.dN ?_)|(apply au.gw;(·simp(disch:=omega)only[go_sem,simprocAttr,d4,c4]<;>with_reducible rfl))|(apply au.gx;(·rfl);(·simp(disch:=omega)only[go_sem,simprocAttr,d4,c4]<;>with_reducible rfl))|(apply au.gs;(·simp(disch:=omega)only[go_sem,simprocAttr,d4,c4]<;>with_reducible rfl))|((first|apply au.gz|apply au.gA|apply au.gB);(·simp(disch:=omega)only[go_sem,simprocAttr,d4,c4]<;>with_reducible rfl);(·simp(disch:=omega)only[go_sem,simprocAttr,d4,c4]<;>with_reducible rfl);(·assumption);(·omega))|intro h|(apply av.cond;(·simp(disch:=omega)only[go_sem,simprocAttr,d4,c4]<;>with_reducible rfl)))
     all_goals first
       |(refine D.R ?_
         refine⟨_,rfl,.aM ?_ rfl,trivial,trivial⟩
         rw[ak]
         simp_all [I.aM]
         done)
       |skip
     all_goals (refine av.gi (k+1) ⟨by omega,?_⟩ ⟨rfl,rfl,rfl,rfl,rfl,rfl,rfl,rfl,by simp only[Int.natCast_add]; rfl,trivial⟩ ⟨rfl,rfl,trivial⟩ trivial (by show g.cy.length-(k+1)<g.cy.length-k; omega))
     all_goals (rw[ib,ak]; clear ak ib nu; simp only[*,Bool.not_true,Bool.not_false,Bool.true_and,Bool.and_true,Bool.false_and,Bool.and_false,Bool.or_false,Bool.false_or,Bool.or_true,Bool.true_or])
   |true=>
    (repeat' first|(apply au.s rfl;(·simp(disch:=omega)only[go_sem,simprocAttr,d3,c4]<;>with_reducible rfl))|(apply av.s true true;(·simp(disch:=omega)only[go_sem,simprocAttr,d3,c4]<;>with_reducible rfl))|apply au.nil|(refine av.dN ?_)|(apply au.gw;(·simp(disch:=omega)only[go_sem,simprocAttr,d3,c4]<;>with_reducible rfl))|(apply au.gx;(·rfl);(·simp(disch:=omega)only[go_sem,simprocAttr,d3,c4]<;>with_reducible rfl))|(apply au.gs;(·simp(disch:=omega)only[go_sem,simprocAttr,d3,c4]<;>with_reducible rfl))|((first|apply au.gz|apply au.gA|apply au.gB);(·simp(disch:=omega)only[go_sem,simprocAttr,d3,c4]<;>with_reducible rfl);(·simp(disch:=omega)only[go_sem,simprocAttr,d3,c4]<;>with_reducible rfl);(·assumption);(·omega))|intro h|(apply av.cond;(·simp(disch:=omega)only[go_sem,simprocAttr,d3,c4]<;>with_reducible rfl)))
    all_goals first
      |(refine D.R ?_
        refine⟨_,rfl,.aM ?_ rfl,trivial,trivial⟩
        rw[ak]
        simp_all [I.aM]
        done)
      |skip
    clear aG
    replace ak:R=(pD (vp i ⟨xl,xh,xi,xj,xk,true⟩) 0 g.cy&&rest):=by rw[ak]; simp_all
    refine av.c5 (X:=Nat) 0 (fun k=>[(1,.ptr 0 0),(3,.int .i64 (i:Int)),(4,.ptr 1 0),(8,.af 6 (g.cy.map cD.row)),(9,.int .i64 (g.cy.length:Int)),(10,.int .i64 (i:Int)),(32,.af 6 (g.cy.map cD.row)),(33,.int .i64 (g.cy.length:Int)),(34,.int .i64 (k:Int))]) (fun _=>[(0,32,g.cells),(1,76,[.int .i64 xl,.int .i64 xh,.int .i64 xi,.int .i64 xj,.int .i64 xk,.bool true])]) (fun _=>[]) (fun k=>k≤g.cy.length∧R=(pD (vp i ⟨xl,xh,xi,xj,xk,true⟩) k (g.cy.drop k)&&rest)) (fun k=>g.cy.length-k) ⟨Nat.zero_le _,ak⟩ ⟨rfl,rfl,rfl,rfl,rfl,rfl,rfl,rfl,rfl,trivial⟩ ⟨rfl,rfl,trivial⟩ trivial ?_
    clear ak
    rintro k ⟨aw,ak⟩
    try simp only at aw ak ⊢
    simp only[wA]
    cases aG:g.cy[k]? with
    |none=>
     have cg:=List.getElem?_eq_none_iff.1 aG
     have d4: ¬(k:Int)<(g.cy.length:Int):=by omega
     rw[List.drop_eq_nil_of_le cg]at ak
     simp only[pD,Bool.true_and]at ak
     (have ah:=d4;refine bE ?_;clear ah)
     refine av.gi (i+1) ⟨by omega,by rw[nu,ak]⟩ ⟨rfl,rfl,rfl,by simp only[Int.natCast_add]; rfl,trivial⟩ ⟨rfl,trivial⟩ trivial (by show g.cy.length-(i+1)<g.cy.length-i; omega)
    |some y=>
     have zD:=(List.getElem?_eq_some_iff.1 aG).1
     have d4:(k:Int)<(g.cy.length:Int):=by omega
     rw[ID aG]at ak
     generalize ib:pD (vp i ⟨xl,xh,xi,xj,xk,true⟩) (k+1) (g.cy.drop (k+1))=aR6 at ak
     obtain⟨bf8,lk,kY,Fp,bf7,bf9⟩:=y
     simp only[vp]at ak
     rw[show decide (i=k)=decide ((i:Int)=(k:Int)) from decide_eq_decide.2 (by omega)]at ak
     (repeat' first|(apply au.s rfl;(·simp(disch:=omega)only[go_sem,simprocAttr,d4,c4]<;>with_reducible rfl))|(apply av.s true true;(·simp(disch:=omega)only[go_sem,simprocAttr,d4,c4]<;>with_reducible rfl))|apply au.nil|(refine av.dN ?_)|(apply au.gw;(·simp(disch:=omega)only[go_sem,simprocAttr,d4,c4]<;>with_reducible rfl))|(apply au.gx;(·rfl);(·simp(disch:=omega)only[go_sem,simprocAttr,d4,c4]<;>with_reducible rfl))|(apply au.gs;(·simp(disch:=omega)only[go_sem,simprocAttr,d4,c4]<;>with_reducible rfl))|((first|apply au.gz|apply au.gA|apply au.gB);(·simp(disch:=omega)only[go_sem,simprocAttr,d4,c4]<;>with_reducible rfl);(·simp(disch:=omega)only[go_sem,simprocAttr,d4,c4]<;>with_reducible rfl);(·assumption);(·omega))|intro h|(apply av.cond;(·simp(disch:=omega)only[go_sem,simprocAttr,d4,c4]<;>with_reducible rfl)))
     all_goals first
       |(refine D.R ?_
         refine⟨_,rfl,.aM ?_ rfl,trivial,trivial⟩
         rw[ak]
         simp_all [I.aM]
         done)
       |skip
     all_goals (refine av.gi (k+1) ⟨by omega,?_⟩ ⟨rfl,rfl,rfl,rfl,rfl,rfl,rfl,rfl,by simp only[Int.natCast_add]; rfl,trivial⟩ ⟨rfl,rfl,trivial⟩ trivial (by show g.cy.length-(k+1)<g.cy.length-k; omega))
     all_goals (rw[ib,ak]; clear ak ib nu; simp only[*,Bool.not_true,Bool.not_false,Bool.true_and,Bool.and_true,Bool.false_and,Bool.and_false,Bool.or_false,Bool.false_or,Bool.or_true,Bool.true_or])
end
section
attribute [local go_sem] b6 cR eE et er eG ds dw df cH Fd.row dn dz cD.row dr.row bs.row eZ uc tA tF
theorem KR {l:List bs}{i:Nat}{d:bs}(h:l[i]? =some d):qp (l.take (i+1))=qp (l.take i)++d.fields:=by
 unfold qp
 rw[List.take_add_one,h]
 simp
theorem Wg {l:List bs}(hf: ∀d∈l,d.fields.length≤1000000000):(qp l).length≤1000000000*l.length:=by
 unfold qp
 induction l with
 |nil=>simp
 |cons d l bB=>
  have U:=hf d (by simp)
  have aa:=bB fun x ab=>hf x (by simp [ab])
  simp only[List.flatMap_cons,List.length_append,List.length_cons]at aa ⊢
  omega
theorem a83 (l:List bs) (aC:l.length≤40) (hf: ∀d∈l,d.fields.length≤1000000000):Pure Tryz.prog 374 [.af 5 (l.map bs.row)] (.af 4 ((qp l).map Fd.row)):=by
 refine cM bb Tryz.func374 YH (by simp only[b7,I.flat,df,Bool.and_self]) (by simp only[I.flat,et]) ?_
 unfold N2 Ub
 simp(disch:=omega)only[go_sem,simprocAttr]
 refine aj ?_
 refine av.uM 3 4 131 rfl (by decide) ?_
 simp(disch:=omega)only[go_sem,simprocAttr]
 refine av.c5 (X:=Nat) 0 (fun i=>[(3,.own 0 4 ((qp (l.take i)).map Fd.row)),(6,.af 5 (l.map bs.row)),(7,.int .i64 ((l.map bs.row).length:Int)),(8,.int .i64 (i:Int))]) (fun _=>[]) (fun i=>[(0,.bX 131 4 ((qp (l.take i)).map Fd.row).length)]) (fun i=>i≤l.length) (fun i=>l.length-i) (Nat.zero_le _) ⟨rfl,rfl,rfl,rfl,trivial⟩ trivial ⟨rfl,trivial⟩ ?_
 rintro i ad
 try simp only at ad ⊢
 cases aG:l[i]? with
 |none=>
  have cg:=List.getElem?_eq_none_iff.1 aG
  have d1: ¬(i:Int)<((l.map bs.row).length:Int):=by rw[List.length_map]; omega
  (have ah:=d1;refine bE ?_;clear ah)
  refine D.r ?_
  refine⟨_,rfl,.aM ?_ (by simp only[I.flat,et]),trivial,trivial⟩
  rw[List.take_of_length_le cg]
  rfl
 |some d=>
  have cB:=(List.getElem?_eq_some_iff.1 aG).1
  have d1:(i:Int)<((l.map bs.row).length:Int):=by rw[List.length_map]; omega
  have nr:=hf d (List.mem_of_getElem? aG)
  have gP:=Wg (l:=l.take i) fun x ab=>hf x (List.mem_of_mem_take ab)
  rw[List.length_take]at gP
  clear hf
  (have ah:=d1;refine bE ?_;clear ah)
  refine D.hQ ?_
  refine aj ?_
  refine av.gi (i+1) (by show i+1≤l.length; omega) ⟨by rw[KR aG,List.map_append]; rfl,rfl,rfl,by simp only[Int.natCast_add]; rfl,trivial⟩ trivial ⟨by rw[KR aG,List.map_append,List.length_append]; rfl,trivial⟩ (by show l.length-(i+1)<l.length-i; omega)
theorem a86 (d x:bs):aY Tryz.prog 376 [.agg (bs.row x),.ptr 0 0] (aQ.of 1 0 [(0,72,bs.row d)] []) (dR (.bool (decide (x.name=d.name))) [(0,72,bs.row d)] []):=by
 refine aY.intro bb Tryz.func376 YJ ?_
 unfold N4 Ud
 simp(disch:=omega)only[go_sem,simprocAttr]
 refine aj ?_
 refine D.r ?_
 exact⟨rfl,⟨rfl,trivial⟩,trivial⟩
theorem a90 (f x:Fd):aY Tryz.prog 379 [.agg (Fd.row x),.ptr 0 0] (aQ.of 1 0 [(0,131,Fd.row f)] []) (dR (.bool (decide (x.name=f.name))) [(0,131,Fd.row f)] []):=by
 refine aY.intro bb Tryz.func379 YM ?_
 unfold N7 Ug
 simp(disch:=omega)only[go_sem,simprocAttr]
 refine aj ?_
 refine D.r ?_
 exact⟨rfl,⟨rfl,trivial⟩,trivial⟩
theorem ay2:di Tryz.prog 376=true:=by kernel_rfl
theorem ay3:di Tryz.prog 379=true:=by kernel_rfl
end
section
attribute [local go_sem] b6 cR eE et er eG ds dw df cH Fd.row dn dz cD.row dr.row bs.row eZ uc tA tF
theorem a92 (all:List Fd) (d:bs) (aL:all.length≤1000000000) (U:d.ep.length≤1000000000) (aa:d.eqs.length≤1000000000):Pure Tryz.prog 380 [.agg [.af 3 (d.ep.map dn),.af 2 (d.eqs.map dz)],.af 4 (all.map Fd.row)] (.bool (xS all d)):=by
  obtain⟨ja,b2,fst,ep,eqs⟩:=d
  simp only at U aa ⊢
  obtain⟨R,ak⟩: ∃R,R=xS all ⟨ja,b2,fst,ep,eqs⟩:=⟨_,rfl⟩
  rw[←ak]
  simp only[xS]at ak
  refine cM bb Tryz.func380 YN (by simp only[b7,I.flat,er,eG,et,Bool.and_self]) rfl ?_
  unfold N8 Uh
  have lP:((ep.map dn).length:Int)=(ep.length:Int):=by rw[List.length_map]
  have c4:((eqs.map dz).length:Int)=(eqs.length:Int):=by rw[List.length_map]
  have dK:((all.map Fd.row).length:Int)=(all.length:Int):=by rw[List.length_map]
  simp(disch:=omega)only[go_sem,simprocAttr]
  by_cases c1:ep.length≤20
  rotate_left
  ·have d1:(20:Int)<(ep.length:Int):=by omega
   (have ah:=lP;have z2:=d1;refine eM ?_;clear ah z2)
   refine D.r ?_
   exact⟨_,rfl,.aM (by rw[ak]; simp [c1,I.aM]) rfl,trivial,trivial⟩
  have d1: ¬(20:Int)<(ep.length:Int):=by omega
  by_cases ci:eqs.length≤20
  rotate_left
  ·have d2:(20:Int)<(eqs.length:Int):=by omega
   (have ah:=lP;have z2:=c4;have z3:=And.intro d1 d2;refine dE ?_;clear ah z2 z3)
   refine D.r ?_
   exact⟨_,rfl,.aM (by rw[ak]; simp [ci,I.aM]) rfl,trivial,trivial⟩
  have d2: ¬(20:Int)<(eqs.length:Int):=by omega
  simp only[decide_eq_true c1,decide_eq_true ci,Bool.true_and]at ak
  (have ah:=lP;have z2:=c4;have z3:=And.intro d1 d2;refine dE ?_;clear ah z2 z3)
  refine av.c5 (X:=Nat) 0 (fun i=>[(1,.af 4 (all.map Fd.row)),(2,.ptr 0 0),(22,.af 3 (ep.map dn)),(23,.int .i64 (ep.length:Int)),(24,.int .i64 (i:Int))]) (fun _=>[(0,70,[.af 3 (ep.map dn),.af 2 (eqs.map dz)])]) (fun _=>[]) (fun i=>i≤ep.length∧R=((ep.drop i).all (DB all.length)&&eqs.all (A9 all))) (fun i=>ep.length-i) ⟨Nat.zero_le _,ak⟩ ⟨rfl,rfl,rfl,by simp only[Env.get,lP]; rfl,rfl,trivial⟩ ⟨rfl,trivial⟩ trivial ?_
  clear ak
  rintro i ⟨ad,ak⟩
  try simp only at ad ak ⊢
  cases aG:ep[i]? with
  |some y=>
   have cB:=(List.getElem?_eq_some_iff.1 aG).1
   have d3:(i:Int)<(ep.length:Int):=by omega
   rw[fY aG,List.all_cons]at ak
   generalize nu:(ep.drop (i+1)).all (DB all.length)=rest at ak
   obtain⟨lk,kY,Fp⟩:=y
   simp only[DB]at ak
   (repeat' first|(apply au.s rfl;(·simp(disch:=omega)only[go_sem,simprocAttr,d3,dK]<;>with_reducible rfl))|(apply av.s true true;(·simp(disch:=omega)only[go_sem,simprocAttr,d3,dK]<;>with_reducible rfl))|apply au.nil|(refine av.dN ?_)|(apply au.gw;(·simp(disch:=omega)only[go_sem,simprocAttr,d3,dK]<;>with_reducible rfl))|(apply au.gx;(·rfl);(·simp(disch:=omega)only[go_sem,simprocAttr,d3,dK]<;>with_reducible rfl))|(apply au.gs;(·simp(disch:=omega)only[go_sem,simprocAttr,d3,dK]<;>with_reducible rfl))|((first|apply au.gz|apply au.gA|apply au.gB);(·simp(disch:=omega)only[go_sem,simprocAttr,d3,dK]<;>with_reducible rfl);(·simp(disch:=omega)only[go_sem,simprocAttr,d3,dK]<;>with_reducible rfl);(·assumption);(·omega))|intro h|(apply av.cond;(·simp(disch:=omega)only[go_sem,simprocAttr,d3,dK]<;>with_reducible rfl)))
   all_goals first
     |(refine D.R ?_
       refine⟨_,rfl,.aM ?_ rfl,trivial,trivial⟩
       rw[ak]
       simp only[I.aM,I.bool.injEq,@Eq.comm Bool false,Bool.and_eq_false_iff,Bool.not_eq_false',decide_eq_false_iff_not,decide_eq_true_eq]at*
       omega)
     |skip
   refine av.gi (i+1) ⟨by omega,?_⟩ ⟨rfl,rfl,rfl,by simp only[Env.get,lP]; rfl,by simp only[Int.natCast_add]; rfl,trivial⟩ ⟨rfl,trivial⟩ trivial (by show ep.length-(i+1)<ep.length-i; omega)
   rw[nu,ak]
   simp only[decide_eq_false_iff_not]at*
   have c:(decide (-1≤min lk kY)&&(decide (max lk kY<all.length)&&(decide (-20000≤Fp)&&decide (Fp≤20000))))=true:=by
     simp only[Bool.and_eq_true,Bool.not_eq_true',decide_eq_false_iff_not,decide_eq_true_eq]
     omega
   rw[c,Bool.true_and]
  |none=>
  have cg:=List.getElem?_eq_none_iff.1 aG
  have d3: ¬(i:Int)<(ep.length:Int):=by omega
  rw[List.drop_eq_nil_of_le cg]at ak
  simp only[List.all_nil,Bool.true_and]at ak
  (have ah:=d3;have z2:=c4;refine eM ?_;clear ah z2)
  clear d3 cg ad aG
  refine av.c5 (X:=Nat) 0 (fun i=>[(1,.af 4 (all.map Fd.row)),(2,.ptr 0 0),(56,.af 2 (eqs.map dz)),(57,.int .i64 (eqs.length:Int)),(58,.int .i64 (i:Int))]) (fun _=>[(0,70,[.af 3 (ep.map dn),.af 2 (eqs.map dz)])]) (fun _=>[]) (fun i=>i≤eqs.length∧R=(eqs.drop i).all (A9 all)) (fun i=>eqs.length-i) ⟨Nat.zero_le _,ak⟩ ⟨rfl,rfl,rfl,by simp only[Env.get,c4]; rfl,rfl,trivial⟩ ⟨rfl,trivial⟩ trivial ?_
  clear ak
  rintro j ⟨ad,ak⟩
  try simp only at ad ak ⊢
  cases aG:eqs[j]? with
  |none=>
   have cg:=List.getElem?_eq_none_iff.1 aG
   have d3: ¬(j:Int)<(eqs.length:Int):=by omega
   rw[List.drop_eq_nil_of_le cg]at ak
   (have ah:=d3;refine bE ?_;clear ah)
   refine D.r ?_
   exact⟨_,rfl,.aM (by rw[ak]; rfl) rfl,trivial,trivial⟩
  |some y=>
   have cB:=(List.getElem?_eq_some_iff.1 aG).1
   have d3:(j:Int)<(eqs.length:Int):=by omega
   rw[fY aG,List.all_cons]at ak
   generalize nu:(eqs.drop (j+1)).all (A9 all)=rest at ak
   obtain⟨lk,kY⟩:=y
   simp only[A9]at ak
   (have ah:=d3;refine bE ?_;clear ah)
   clear aG
   refine av.c5 (X:=Nat) 0 (fun k=>[(1,.af 4 (all.map Fd.row)),(2,.ptr 0 0),(56,.af 2 (eqs.map dz)),(57,.int .i64 (eqs.length:Int)),(58,.int .i64 (j:Int)),(62,.agg [.int .i64 lk,.int .i64 kY]),(63,.int .i64 (k:Int))]) (fun _=>[(0,70,[.af 3 (ep.map dn),.af 2 (eqs.map dz)])]) (fun _=>[]) (fun k=>k≤2∧R=(([lk,kY].drop k).all (q0 all)&&rest)) (fun k=>2-k) ⟨Nat.zero_le _,by rw[ak]; simp only[List.drop_zero,List.all_cons,List.all_nil,Bool.and_true]⟩ ⟨rfl,rfl,rfl,rfl,rfl,rfl,rfl,trivial⟩ ⟨rfl,trivial⟩ trivial ?_
   clear ak
   rintro k ⟨aw,ak⟩
   try simp only at aw ak ⊢
   have key: ∀(w:Int),k<2→[lk,kY][k]? =some w→R=(q0 all w&&(([lk,kY].drop (k+1)).all (q0 all)&&rest)):=fun w Eg hw=>by
     rw[ak,fY hw,List.all_cons,Bool.and_assoc]
   by_cases Eg:k<2
   rotate_left
   ·have ao3:k=2:=by omega
    subst ao3
    rw[show ([lk,kY].drop 2).all (q0 all)=true from rfl,Bool.true_and]at ak
    (repeat' first|(apply au.s rfl;(·simp(disch:=omega)only[go_sem,simprocAttr,]<;>with_reducible rfl))|(apply av.s true true;(·simp(disch:=omega)only[go_sem,simprocAttr,]<;>with_reducible rfl))|apply au.nil|(refine av.dN ?_)|(apply au.gw;(·simp(disch:=omega)only[go_sem,simprocAttr,]<;>with_reducible rfl))|(apply au.gx;(·rfl);(·simp(disch:=omega)only[go_sem,simprocAttr,]<;>with_reducible rfl))|(apply au.gs;(·simp(disch:=omega)only[go_sem,simprocAttr,]<;>with_reducible rfl))|((first|apply au.gz|apply au.gA|apply au.gB);(·simp(disch:=omega)only[go_sem,simprocAttr,]<;>with_reducible rfl);(·simp(disch:=omega)only[go_sem,simprocAttr,]<;>with_reducible rfl);(·assumption);(·omega))|intro h)
    refine av.gi (j+1) ⟨by omega,?_⟩ ⟨rfl,rfl,rfl,by simp only[Env.get,c4]; rfl,by simp only[Int.natCast_add]; rfl,trivial⟩ ⟨rfl,trivial⟩ trivial (by show eqs.length-(j+1)<eqs.length-j; omega)
    rw[nu,ak]
   ·clear ak
    have fin: ∀(w:Int),R=(q0 all w&&(([lk,kY].drop (k+1)).all (q0 all)&&rest))→¬(0≤w∧w<all.length)→R=false:=fun w e h=>by
      rw[e]
      simp only[q0,Bool.and_eq_false_iff,decide_eq_false_iff_not]
      omega
    rcases (show k=0∨k=1 by omega) with st|st
    ·subst st
     have ak:=key lk (by omega) rfl
     clear key
     by_cases nt:0≤lk∧lk<all.length
     rotate_left
     ·have bH:=fin lk ak nt
      (repeat' first|(apply au.s rfl;(·simp(disch:=omega)only[go_sem,simprocAttr,dK]<;>with_reducible rfl))|(apply av.s true true;(·simp(disch:=omega)only[go_sem,simprocAttr,dK]<;>with_reducible rfl))|apply au.nil|(refine av.dN ?_)|(apply au.gw;(·simp(disch:=omega)only[go_sem,simprocAttr,dK]<;>with_reducible rfl))|(apply au.gx;(·rfl);(·simp(disch:=omega)only[go_sem,simprocAttr,dK]<;>with_reducible rfl))|(apply au.gs;(·simp(disch:=omega)only[go_sem,simprocAttr,dK]<;>with_reducible rfl))|((first|apply au.gz|apply au.gA|apply au.gB);(·simp(disch:=omega)only[go_sem,simprocAttr,dK]<;>with_reducible rfl);(·simp(disch:=omega)only[go_sem,simprocAttr,dK]<;>with_reducible rfl);(·assumption);(·omega))|intro h|(apply av.cond;(·simp(disch:=omega)only[go_sem,simprocAttr,dK]<;>with_reducible rfl)))
      all_goals first
        |(refine D.R ?_
          exact⟨_,rfl,.aM (by rw[bH]; rfl) rfl,trivial,trivial⟩)
        |(exfalso
          simp only[decide_eq_false_iff_not,decide_eq_true_eq]at*
          omega)
     ·obtain⟨f,a8⟩: ∃f,all[(lk).toNat]? =some f:=⟨_,List.getElem?_eq_getElem (by omega)⟩
      have dF:q0 all lk=decide (f.kind=2):=by
        simp only[q0,a8,decide_eq_true nt.1,decide_eq_true nt.2,Bool.true_and]
      rw[dF]at ak
      have d4: ¬lk<0:=by omega
      have d5: ¬(all.length:Int)≤lk:=by omega
      have rz:True∧all[(lk).toNat]? =some f:=⟨trivial,a8⟩
      (repeat' first|(apply au.s rfl;(·simp(disch:=omega)only[go_sem,simprocAttr,dK,d4,d5]<;>with_reducible rfl))|(apply av.s true true;(·simp(disch:=omega)only[go_sem,simprocAttr,dK,d4,d5]<;>with_reducible rfl))|apply au.nil|(refine av.dN ?_)|(apply au.gw;(·simp(disch:=omega)only[go_sem,simprocAttr,dK,d4,d5]<;>with_reducible rfl))|(apply au.gx;(·rfl);(·simp(disch:=omega)only[go_sem,simprocAttr,dK,d4,d5]<;>with_reducible rfl))|(apply au.gs;(·simp(disch:=omega)only[go_sem,simprocAttr,dK,d4,d5]<;>with_reducible rfl))|((first|apply au.gz|apply au.gA|apply au.gB);(·simp(disch:=omega)only[go_sem,simprocAttr,dK,d4,d5]<;>with_reducible rfl);(·simp(disch:=omega)only[go_sem,simprocAttr,dK,d4,d5]<;>with_reducible rfl);(·assumption);(·omega))|intro h|(apply av.cond;(·simp(disch:=omega)only[go_sem,simprocAttr,dK,d4,d5]<;>with_reducible rfl)))
      all_goals first
        |(refine D.R ?_
          refine⟨_,rfl,.aM ?_ rfl,trivial,trivial⟩
          rw[ak]
          simp_all [I.aM]
          done)
        |skip
      refine av.gi (0+1) ⟨by omega,?_⟩ ⟨rfl,rfl,rfl,rfl,rfl,rfl,rfl,trivial⟩ ⟨rfl,trivial⟩ trivial (by show 2-(0+1)<2-0; omega)
      rw[ak]
      simp_all
    ·subst st
     have ak:=key kY (by omega) rfl
     clear key
     by_cases nt:0≤kY∧kY<all.length
     rotate_left
     ·have bH:=fin kY ak nt
      (repeat' first|(apply au.s rfl;(·simp(disch:=omega)only[go_sem,simprocAttr,dK]<;>with_reducible rfl))|(apply av.s true true;(·simp(disch:=omega)only[go_sem,simprocAttr,dK]<;>with_reducible rfl))|apply au.nil|(refine av.dN ?_)|(apply au.gw;(·simp(disch:=omega)only[go_sem,simprocAttr,dK]<;>with_reducible rfl))|(apply au.gx;(·rfl);(·simp(disch:=omega)only[go_sem,simprocAttr,dK]<;>with_reducible rfl))|(apply au.gs;(·simp(disch:=omega)only[go_sem,simprocAttr,dK]<;>with_reducible rfl))|((first|apply au.gz|apply au.gA|apply au.gB);(·simp(disch:=omega)only[go_sem,simprocAttr,dK]<;>with_reducible rfl);(·simp(disch:=omega)only[go_sem,simprocAttr,dK]<;>with_reducible rfl);(·assumption);(·omega))|intro h|(apply av.cond;(·simp(disch:=omega)only[go_sem,simprocAttr,dK]<;>with_reducible rfl)))
      all_goals first
        |(refine D.R ?_
          exact⟨_,rfl,.aM (by rw[bH]; rfl) rfl,trivial,trivial⟩)
        |(exfalso
          simp only[decide_eq_false_iff_not,decide_eq_true_eq]at*
          omega)
     ·obtain⟨f,a8⟩: ∃f,all[(kY).toNat]? =some f:=⟨_,List.getElem?_eq_getElem (by omega)⟩
      have dF:q0 all kY=decide (f.kind=2):=by
        simp only[q0,a8,decide_eq_true nt.1,decide_eq_true nt.2,Bool.true_and]
      rw[dF]at ak
      have d4: ¬kY<0:=by omega
      have d5: ¬(all.length:Int)≤kY:=by omega
      have rz:True∧all[(kY).toNat]? =some f:=⟨trivial,a8⟩
      (repeat' first|(apply au.s rfl;(·simp(disch:=omega)only[go_sem,simprocAttr,dK,d4,d5]<;>with_reducible rfl))|(apply av.s true true;(·simp(disch:=omega)only[go_sem,simprocAttr,dK,d4,d5]<;>with_reducible rfl))|apply au.nil|(refine av.dN ?_)|(apply au.gw;(·simp(disch:=omega)only[go_sem,simprocAttr,dK,d4,d5]<;>with_reducible rfl))|(apply au.gx;(·rfl);(·simp(disch:=omega)only[go_sem,simprocAttr,dK,d4,d5]<;>with_reducible rfl))|(apply au.gs;(·simp(disch:=omega)only[go_sem,simprocAttr,dK,d4,d5]<;>with_reducible rfl))|((first|apply au.gz|apply au.gA|apply au.gB);(·simp(disch:=omega)only[go_sem,simprocAttr,dK,d4,d5]<;>with_reducible rfl);(·simp(disch:=omega)only[go_sem,simprocAttr,dK,d4,d5]<;>with_reducible rfl);(·assumption);(·omega))|intro h|(apply av.cond;(·simp(disch:=omega)only[go_sem,simprocAttr,dK,d4,d5]<;>with_reducible rfl)))
      all_goals first
        |(refine D.R ?_
          refine⟨_,rfl,.aM ?_ rfl,trivial,trivial⟩
          rw[ak]
          simp_all [I.aM]
          done)
        |skip
      refine av.gi (1+1) ⟨by omega,?_⟩ ⟨rfl,rfl,rfl,rfl,rfl,rfl,rfl,trivial⟩ ⟨rfl,trivial⟩ trivial (by show 2-(1+1)<2-1; omega)
      rw[ak]
      simp_all
end
section
attribute [local go_sem] b6 cR eE et er eG ds dw df cH Fd.row dn dz cD.row dr.row bs.row eZ uc tA tF
theorem WV (a:Int) (l:List Fd) (f:Fd): ∀k:Nat,qw a k (l++[f])=qw a k l++[(a+((k+l.length:Nat):Int),-1,f.ad),(-1,a+((k+l.length:Nat):Int),-f.cJ)]:=by
 induction l with
 |nil=>intro k; rfl
 |cons x l bB=>
  intro k
  simp only[List.cons_append,qw,bB (k+1),List.length_cons,show k+1+l.length=k+(l.length+1) by omega]
theorem K9 (a:Int) (l:List Fd): ∀k:Nat,(qw a k l).length=2*l.length:=by
 induction l with
 |nil=>intro k; rfl
 |cons x l bB=>intro k; simp only[qw,List.length_cons,bB (k+1)]; omega
theorem La {a:Int}{l:List Fd}{i:Nat}{f:Fd}(h:l[i]? =some f):qw a 0 (l.take (i+1))=qw a 0 (l.take i)++[(a+(i:Int),-1,f.ad),(-1,a+(i:Int),-f.cJ)]:=by
 have cB:=(List.getElem?_eq_some_iff.1 h).1
 rw[List.take_add_one,h,Option.toList_some,WV,List.length_take,Nat.zero_add,Nat.min_eq_left (by omega)]
theorem WU (l:List (Int×Int)) (e:Int×Int):qv (l++[e])=qv l++[(e.1,e.2,0),(e.2,e.1,0)]:=by
 induction l with
 |nil=>rfl
 |cons x l bB=>simp only[List.cons_append,qv,bB]
theorem WT (l:List (Int×Int)):(qv l).length=2*l.length:=by
 induction l with
 |nil=>rfl
 |cons x l bB=>simp only[qv,List.length_cons,bB]; omega
theorem K8 {l:List (Int×Int)}{i:Nat}{e:Int×Int}(h:l[i]? =some e):qv (l.take (i+1))=qv (l.take i)++[(e.1,e.2,0),(e.2,e.1,0)]:=by
 rw[List.take_add_one,h,Option.toList_some,WU]
theorem a78 (d:bs) (U:d.fields.length≤4) (aa:d.ep.length≤20) (ay:d.eqs.length≤20) (bl:0≤d.first∧d.first≤1000) (bW: ∀f∈d.fields,-1000≤f.cJ∧f.cJ≤1000):Pure Tryz.prog 339 [.agg (bs.row d)] (.af 3 ((Lb d).map dn)):=by
 obtain⟨ja,b2,fst,ep,eqs⟩:=d
 simp only at U aa ay bl bW ⊢
 refine cM bb Tryz.func339 Yz (by simp only[b7,I.flat,bs.row,et,er,eG,Bool.and_self]) (by simp only[I.flat,er]) ?_
 unfold NW T3
 have nO:((b2.map Fd.row).length:Int)=(b2.length:Int):=by rw[List.length_map]
 have lP:(ep.map dn).length=ep.length:=by rw[List.length_map]
 have c4:((eqs.map dz).length:Int)=(eqs.length:Int):=by rw[List.length_map]
 simp(disch:=omega)only[go_sem,simprocAttr]
 refine aj ?_
 refine av.uM 3 3 438 rfl (by decide) ?_
 simp(disch:=omega)only[go_sem,simprocAttr]
 (have ah:=nO;refine bE ?_;clear ah)
 refine av.c5 (X:=Nat) 0 (fun i=>[(1,.ptr 0 0),(3,.own 0 3 ((qw fst 0 (b2.take i)).map dn)),(9,.af 4 (b2.map Fd.row)),(10,.int .i64 (b2.length:Int)),(11,.int .i64 (i:Int))]) (fun _=>[(0,72,bs.row ⟨ja,b2,fst,ep,eqs⟩)]) (fun i=>[(0,.bX 438 3 ((qw fst 0 (b2.take i)).map dn).length)]) (fun i=>i≤b2.length) (fun i=>b2.length-i) (Nat.zero_le _) ⟨rfl,rfl,rfl,by simp only[Env.get,nO]; rfl,rfl,trivial⟩ ⟨rfl,trivial⟩ ⟨rfl,trivial⟩ ?_
 rintro i ad
 try simp only at ad ⊢
 cases aG:b2[i]? with
 |some f=>
  have cB:=(List.getElem?_eq_some_iff.1 aG).1
  have d1:(i:Int)<(b2.length:Int):=by omega
  have nr:=bW f (List.mem_of_getElem? aG)
  have gP:=K9 fst (b2.take i) 0
  rw[List.length_take]at gP
  clear bW
  (have ah:=d1;refine bE ?_;clear ah)
  refine D.hQ ?_
  refine aj ?_
  rw[Int.zero_sub]
  refine av.gi (i+1) (by show i+1≤b2.length; omega) ⟨rfl,by rw[La aG,List.map_append]; rfl,rfl,rfl,by simp only[Int.natCast_add]; rfl,trivial⟩ ⟨rfl,trivial⟩ ⟨by rw[La aG,List.map_append,List.length_append]; rfl,trivial⟩ (by show b2.length-(i+1)<b2.length-i; omega)
 |none=>
  have cg:=List.getElem?_eq_none_iff.1 aG
  have d1: ¬(i:Int)<(b2.length:Int):=by omega
  rw[List.take_of_length_le cg]
  have gP:=K9 fst b2 0
  (have ah:=d1;refine bE ?_;clear ah)
  refine D.hQ ?_
  refine aj ?_
  refine av.c5 (X:=Nat) 0 (fun i=>[(1,.ptr 0 0),(3,.own 0 3 ((qw fst 0 b2++(ep++qv (eqs.take i))).map dn)),(44,.af 2 (eqs.map dz)),(45,.int .i64 (eqs.length:Int)),(46,.int .i64 (i:Int))]) (fun _=>[(0,72,bs.row ⟨ja,b2,fst,ep,eqs⟩)]) (fun i=>[(0,.bX 438 3 ((qw fst 0 b2++(ep++qv (eqs.take i))).map dn).length)]) (fun i=>i≤eqs.length) (fun i=>eqs.length-i) (Nat.zero_le _) ⟨rfl,by simp only[List.take_zero,qv,List.append_nil,List.map_append]; rfl,rfl,by simp only[Env.get,c4]; rfl,rfl,trivial⟩ ⟨rfl,trivial⟩ ⟨by simp only[List.take_zero,qv,List.append_nil,List.map_append,List.length_append]; rfl,trivial⟩ ?_
  rintro j bx
  try simp only at bx ⊢
  cases aV:eqs[j]? with
  |some e=>
   have cB:=(List.getElem?_eq_some_iff.1 aV).1
   have d2:(j:Int)<(eqs.length:Int):=by omega
   have Hp:=WT (eqs.take j)
   rw[List.length_take]at Hp
   clear aG
   (have ah:=d2;refine bE ?_;clear ah)
   refine D.hQ ?_
   refine aj ?_
   refine av.gi (j+1) (by show j+1≤eqs.length; omega) ⟨rfl,by rw[K8 aV]; simp only[List.map_append,List.append_assoc]; rfl,rfl,rfl,by simp only[Int.natCast_add]; rfl,trivial⟩ ⟨rfl,trivial⟩ ⟨by rw[K8 aV]; simp only[List.map_append,List.length_append,Nat.add_assoc]; rfl,trivial⟩ (by show eqs.length-(j+1)<eqs.length-j; omega)
  |none=>
   have cg:=List.getElem?_eq_none_iff.1 aV
   have d2: ¬(j:Int)<(eqs.length:Int):=by omega
   (have ah:=d2;refine bE ?_;clear ah)
   refine D.r ?_
   refine⟨_,rfl,.aM ?_ (by simp only[I.flat,er]),trivial,trivial⟩
   rw[List.take_of_length_le cg]
   rfl
end
section
attribute [local go_sem] b6 cR eE et er eG ds dw df cH Fd.row dn dz cD.row dr.row bs.row eZ uc tA tF
theorem aa4 {all:List Fd}{l:List bs}{a:Int}{i:Nat}{d:bs}(h:l[i]? =some d):uE all (l.take i) a (l.drop i)=(rJ d.name&&(decide (d.fields.length≤4)&&(decide (d.first=a)&&(!(l.take i).any (fun x=>decide (x.name=d.name))&&(tG [] d.fields&&(xS all d&&uE all (l.take (i+1)) (a+d.fields.length) (l.drop (i+1)))))))):=by
 rw[fY h,List.take_add_one,h]
 rfl
theorem af2 {l:List Fd}{i:Nat}{f:Fd}(h:l[i]? =some f):tG (l.take i) (l.drop i)=(io f.name&&(pG f.kind f.cJ f.ad&&(!(l.take i).any (fun x=>decide (x.name=f.name))&&tG (l.take (i+1)) (l.drop (i+1))))):=by
 rw[fY h,List.take_add_one,h]
 rfl
theorem a77 (l:List bs) (aC:l.length≤1000000000) (hf: ∀d∈l,d.fields.length≤1000000000∧d.ep.length≤1000000000∧d.eqs.length≤1000000000):Pure Tryz.prog 338 [.af 5 (l.map bs.row)] (.bool (uf l)):=by
 obtain⟨R,ak⟩: ∃R,R=uf l:=⟨_,rfl⟩
 rw[←ak]
 simp only[uf]at ak
 refine cM bb Tryz.func338 Yy (by simp only[b7,I.flat,df,Bool.and_self]) rfl ?_
 unfold NV T0
 have eb:((l.map bs.row).length:Int)=(l.length:Int):=by rw[List.length_map]
 simp(disch:=omega)only[go_sem,simprocAttr]
 by_cases c1:l.length≤40
 rotate_left
 ·have d1:(40:Int)<(l.length:Int):=by omega
  (have ah:=eb;have z2:=d1;refine eM ?_;clear ah z2)
  refine D.r ?_
  exact⟨_,rfl,.aM (by rw[ak]; simp [c1,I.aM]) rfl,trivial,trivial⟩
 have d1: ¬(40:Int)<(l.length:Int):=by omega
 have ar:=a83 l c1 fun d br=>(hf d br).1
 have dK:(((qp l).map Fd.row).length:Int)=((qp l).length:Int):=by rw[List.length_map]
 generalize qp l=all at ar ak dK
 (have ah:=eb;have z2:=d1;refine eM ?_;clear ah z2)
 refine D.P (ar) ?_
 by_cases ci:all.length≤24
 rotate_left
 ·have d2:(24:Int)<(all.length:Int):=by omega
  (have ah:=dK;have z2:=d2;refine eM ?_;clear ah z2)
  refine D.r ?_
  exact⟨_,rfl,.aM (by rw[ak]; simp [ci,I.aM]) rfl,trivial,trivial⟩
 have d2: ¬(24:Int)<(all.length:Int):=by omega
 simp only[decide_eq_true c1,decide_eq_true ci,Bool.true_and]at ak
 (have ah:=dK;have z2:=eb;have z3:=d2;refine dE ?_;clear ah z2 z3)
 clear ar
 refine av.c5 (X:=Nat×Int) (0,0) (fun q=>[(0,.af 5 (l.map bs.row)),(3,.af 4 (all.map Fd.row)),(4,.int .i64 q.2),(17,.af 5 (l.map bs.row)),(18,.int .i64 (l.length:Int)),(19,.int .i64 (q.1:Int))]) (fun _=>[]) (fun _=>[]) (fun q=>q.1≤l.length∧0≤q.2∧q.2≤4*q.1∧R=uE all (l.take q.1) q.2 (l.drop q.1)) (fun q=>l.length-q.1) ⟨Nat.zero_le _,Int.le_refl _,by decide,ak⟩ ⟨rfl,rfl,rfl,rfl,rfl,rfl,trivial⟩ trivial trivial ?_
 clear ak
 rintro⟨i,a⟩ ⟨ad,aj7,Hl,ak⟩
 try simp only at ad aj7 Hl ak ⊢
 cases aG:l[i]? with
 |none=>
  have cg:=List.getElem?_eq_none_iff.1 aG
  have d3: ¬(i:Int)<(l.length:Int):=by omega
  rw[List.drop_eq_nil_of_le cg]at ak
  (have ah:=d3;refine bE ?_;clear ah)
  refine D.r ?_
  exact⟨_,rfl,.aM (by rw[ak]; rfl) rfl,trivial,trivial⟩
 |some d=>
 have cB:=(List.getElem?_eq_some_iff.1 aG).1
 have d3:(i:Int)<(l.length:Int):=by omega
 rw[aa4 aG]at ak
 have hb:=hf d (List.mem_of_getElem? aG)
 have ax:=IR d.name
 have bU:=a84 (T:=72) (cs:=bs.row d) ay2 (by simp only[bs.row,ed,I.dW,et,er,eG,Bool.and_self]) (by rfl) (fun w=>decide (w.name=d.name)) (l.take i) (by rw[List.length_take]; omega) fun w _=>a86 d w
 rw[List.map_take]at bU
 have dl:=a92 all d (by omega) hb.2.1 hb.2.2
 generalize nu:uE all (l.take (i+1)) (a+d.fields.length) (l.drop (i+1))=rest at ak
 generalize ((l.take i).any fun w=>decide (w.name=d.name))=WH at bU ak
 generalize rJ d.name=WW at ax ak
 generalize xS all d=K5 at dl ak
 clear hf
 obtain⟨ja,b2,fst,ep,eqs⟩:=d
 simp only at ak nu hb ax bU dl ⊢
 have nO:((b2.map Fd.row).length:Int)=(b2.length:Int):=by rw[List.length_map]
 (have ah:=d3;refine bE ?_;clear ah)
 refine D.P (ax) ?_
 cases WW with
 |false=>
  refine aj ?_
  refine D.r ?_
  exact⟨_,rfl,.aM (by rw[ak]; rfl) rfl,trivial,trivial⟩
 |true=>
 by_cases fc:b2.length≤4
 rotate_left
 ·have d4:(4:Int)<(b2.length:Int):=by omega
  (have ah:=nO;have z2:=d4;refine eM ?_;clear ah z2)
  refine D.r ?_
  exact⟨_,rfl,.aM (by rw[ak]; simp [fc,I.aM]) rfl,trivial,trivial⟩
 have d4: ¬(4:Int)<(b2.length:Int):=by omega
 by_cases ha:fst=a
 rotate_left
 ·(have ah:=nO;have z2:=d4;have z3:=ha;refine dE ?_;clear ah z2 z3)
  refine D.r ?_
  exact⟨_,rfl,.aM (by rw[ak]; simp [ha,I.aM]) rfl,trivial,trivial⟩
 simp only[decide_eq_true fc,decide_eq_true ha,Bool.true_and]at ak
 subst fst
 (have ah:=nO;have z2:=d4;refine eM ?_;clear ah z2)
 (apply au.Ah (i);(·simp(disch:=omega)only[go_sem,simprocAttr]<;>with_reducible rfl);(·simp(disch:=omega)only[go_sem,simprocAttr]<;>with_reducible rfl);(·omega);(·(try simp only[List.length_map]);omega))
 refine aj ?_
 refine D.F ⟨[0],[]⟩ (bU) ?_
 cases WH with
 |true=>
  refine aj ?_
  refine D.r ?_
  exact⟨_,rfl,.aM (by rw[ak]; rfl) rfl,trivial,trivial⟩
 |false=>
 (have ah:=nO;refine bE ?_;clear ah)
 simp only[Bool.not_false,Bool.true_and]at ak
 clear ax bU
 refine av.c5 (X:=Nat) 0 (fun k=>[(0,.af 5 (l.map bs.row)),(3,.af 4 (all.map Fd.row)),(4,.int .i64 (a+(b2.length:Int))),(6,.ptr 0 0),(17,.af 5 (l.map bs.row)),(18,.int .i64 (l.length:Int)),(19,.int .i64 (i:Int)),(53,.af 4 (b2.map Fd.row)),(54,.int .i64 (b2.length:Int)),(55,.int .i64 (k:Int))]) (fun _=>[(0,72,bs.row ⟨ja,b2,a,ep,eqs⟩)]) (fun _=>[]) (fun k=>k≤b2.length∧R=(tG (b2.take k) (b2.drop k)&&(K5&&rest))) (fun k=>b2.length-k) ⟨Nat.zero_le _,ak⟩ ⟨rfl,rfl,rfl,rfl,rfl,rfl,rfl,rfl,by simp only[Env.get,nO]; rfl,rfl,trivial⟩ ⟨rfl,trivial⟩ trivial ?_
 clear ak
 rintro k ⟨aw,ak⟩
 try simp only at aw ak ⊢
 cases aV:b2[k]? with
 |none=>
  have cg:=List.getElem?_eq_none_iff.1 aV
  have d5: ¬(k:Int)<(b2.length:Int):=by omega
  rw[List.drop_eq_nil_of_le cg]at ak
  simp only[tG,Bool.true_and]at ak
  clear aG
  (have ah:=d5;refine bE ?_;clear ah)
  refine D.P (dl) ?_
  cases K5 with
  |false=>
   refine aj ?_
   refine D.r ?_
   exact⟨_,rfl,.aM (by rw[ak]; rfl) rfl,trivial,trivial⟩
  |true=>
   simp only[Bool.true_and]at ak
   refine aj ?_
   refine av.gi (i+1,a+b2.length) ⟨by omega,by omega,by omega,by rw[nu,ak]⟩ ⟨rfl,rfl,rfl,rfl,rfl,by simp only[Int.natCast_add]; rfl,trivial⟩ trivial trivial (by show l.length-(i+1)<l.length-i; omega)
 |some f=>
  have bj5:=(List.getElem?_eq_some_iff.1 aV).1
  have d5:(k:Int)<(b2.length:Int):=by omega
  rw[af2 aV]at ak
  have gn:=qS f.name
  have mw:=a88 f.kind f.cJ f.ad
  have xI:=a89 (T:=131) (cs:=Fd.row f) ay3 rfl rfl (fun w=>decide (w.name=f.name)) (b2.take k) (by rw[List.length_take]; omega) fun w _=>a90 f w
  rw[List.map_take]at xI
  generalize ar5:tG (b2.take (k+1)) (b2.drop (k+1))=cL at ak
  generalize io f.name=fz at gn ak
  generalize pG f.kind f.cJ f.ad=iM at mw ak
  generalize ((b2.take k).any fun w=>decide (w.name=f.name))=kL at xI ak
  clear aG dl
  (have ah:=d5;refine bE ?_;clear ah)
  refine D.P (gn) ?_
  cases fz with
  |false=>
   refine aj ?_
   refine D.r ?_
   exact⟨_,rfl,.aM (by rw[ak]; rfl) rfl,trivial,trivial⟩
  |true=>
  refine aj ?_
  refine D.P (mw) ?_
  cases iM with
  |false=>
   refine aj ?_
   refine D.r ?_
   exact⟨_,rfl,.aM (by rw[ak]; rfl) rfl,trivial,trivial⟩
  |true=>
  refine aj ?_
  (apply au.Ah (k);(·simp(disch:=omega)only[go_sem,simprocAttr]<;>with_reducible rfl);(·simp(disch:=omega)only[go_sem,simprocAttr]<;>with_reducible rfl);(·omega);(·(try simp only[List.length_map]);omega))
  refine aj ?_
  refine D.F ⟨[1],[]⟩ (xI) ?_
  cases kL with
  |true=>
   refine aj ?_
   refine D.r ?_
   exact⟨_,rfl,.aM (by rw[ak]; rfl) rfl,trivial,trivial⟩
  |false=>
  refine aj ?_
  refine av.gi (k+1) ⟨by omega,by rw[ar5,ak]; rfl⟩ ⟨rfl,rfl,rfl,rfl,rfl,rfl,rfl,rfl,rfl,by simp only[Int.natCast_add]; rfl,trivial⟩ ⟨rfl,trivial⟩ trivial (by show b2.length-(k+1)<b2.length-k; omega)
end
section
attribute [local go_sem] b6 cR eE et er eG ds dw df cH Fd.row dn dz cD.row dr.row bs.row eZ uc tA tF
theorem aW6 {k cJ ad:Int}(h:pG k cJ ad=true): -1000≤cJ∧cJ≤1000:=by
 unfold pG at h
 split at h
 ·simp only[Bool.and_eq_true,decide_eq_true_eq]at h
  omega
 ·split at h
  ·simp only[Bool.and_eq_true,decide_eq_true_eq]at h
   omega
  ·cases h
theorem OE: ∀(l a:List Fd),tG a l=true→∀f∈l,io f.name=true∧pG f.kind f.cJ f.ad=true
 |[],_,_,f,hf=>absurd hf (by simp)
 |x::l,a,h,f,hf=>by
  simp only[tG,Bool.and_eq_true]at h
  rcases List.mem_cons.1 hf with rfl|aa
  ·exact⟨h.1,h.2.1⟩
  ·exact OE l _ h.2.2.2 f aa
theorem ba4 {d:bs}{t:List bs}(h:uf (d::t)=true):d.fields.length≤4∧d.ep.length≤20∧d.eqs.length≤20∧d.first=0∧∀f∈d.fields,-1000≤f.cJ∧f.cJ≤1000:=by
 simp only[uf,uE,xS,Bool.and_eq_true,decide_eq_true_eq]at h
 obtain⟨_,_,_,U,aa,_,ay,⟨bl,bW,_⟩,_⟩:=h
 exact⟨U,bl,bW,aa,fun f hf=>aW6 (OE _ _ ay f hf).2⟩
def y4 (l:List bs):List (Int×Int×Int)×Int:=if uf l=true then (match l with|[]=>([],1)|d:: _=>(Lb d,0)) else ([],1)
theorem a58 (l:List bs) (aC:l.length≤1000000000) (hf: ∀d∈l,d.fields.length≤1000000000∧d.ep.length≤1000000000∧d.eqs.length≤1000000000):Pure Tryz.prog 258 [.af 5 (l.map bs.row),.int .i64 0] (.cT [.af 3 ((y4 l).1.map dn),.int .i64 (y4 l).2]):=by
 obtain⟨S,ea⟩: ∃S,S=y4 l:=⟨_,rfl⟩
 rw[←ea]
 refine cM bb Tryz.func258 X2 (by simp only[b7,I.flat,df,Bool.and_self]) (by simp only[I.flat,b7,er,Bool.and_self]) ?_
 unfold Nt Tu
 have eb:((l.map bs.row).length:Int)=(l.length:Int):=by rw[List.length_map]
 have ar:=a77 l aC hf
 simp(disch:=omega)only[go_sem,simprocAttr]
 cases l with
 |nil=>
  refine aj ?_
  refine D.r ?_
  refine⟨_,rfl,?_,trivial,trivial⟩
  rw[ea]
  exact .cT (.cons .nil (.cons (.aM rfl rfl) .nil))
 |cons d t=>
  have d1: ¬((t.length:Int)+1)≤0:=by omega
  have kJ:((t.map bs.row).length:Int)=(t.length:Int):=by rw[List.length_map]
  simp only[y4]at ea
  cases ae:uf (d::t) with
  |false=>
   rw[ae]at ar ea
   (have ah:=eb;have z2:=d1;have z3:=And.intro kJ @Int.natCast_add;refine dE ?_;clear ah z2 z3)
   refine D.P (ar) ?_
   refine aj ?_
   refine D.r ?_
   refine⟨_,rfl,?_,trivial,trivial⟩
   rw[ea]
   exact .cT (.cons .nil (.cons (.aM rfl rfl) .nil))
  |true=>
   rw[ae]at ar ea
   obtain⟨U,aa,ay,bl,bW⟩:=ba4 ae
   have ax:=a78 d U aa ay (by omega) bW
   (have ah:=eb;have z2:=d1;have z3:=And.intro kJ @Int.natCast_add;refine dE ?_;clear ah z2 z3)
   refine D.P (ar) ?_
   refine aj ?_
   refine D.P (ax) ?_
   refine aj ?_
   refine D.r ?_
   refine⟨_,rfl,?_,trivial,trivial⟩
   rw[ea]
   exact .aM rfl (by simp only[I.flat,b7,er,Bool.and_self])
theorem a39 (l:List bs) (aC:l.length≤1000000000) (hf: ∀d∈l,d.fields.length≤1000000000∧d.ep.length≤1000000000∧d.eqs.length≤1000000000):Pure Tryz.prog 156 [.af 5 (l.map bs.row)] (.bool (zk l)):=by
 have ar:=a58 l aC hf
 obtain⟨R,ak⟩: ∃R,R=zk l:=⟨_,rfl⟩
 rw[←ak]
 refine cM bb Tryz.func156 Xi (by simp only[b7,I.flat,df,Bool.and_self]) rfl ?_
 unfold MN SJ
 simp(disch:=omega)only[go_sem,simprocAttr]
 cases l with
 |nil=>
  refine aj ?_
  refine D.r ?_
  exact⟨_,rfl,.aM (by rw[ak]; rfl) rfl,trivial,trivial⟩
 |cons d t=>
  have d1: ¬((t.length:Int)+1)=0:=by omega
  have kJ:((t.map bs.row).length:Int)=(t.length:Int):=by rw[List.length_map]
  simp only[zk,List.length_cons]at ak
  cases ae:uf (d::t) with
  |false=>
   rw[ae]at ak
   simp only[y4,ae]at ar
   (have ah:=d1;have z2:=kJ;have z3:=@Int.natCast_add;refine dE ?_;clear ah z2 z3)
   refine D.P (ar) ?_
   refine aj ?_
   refine D.r ?_
   exact⟨_,rfl,.aM (by rw[ak]; simp [I.aM]) rfl,trivial,trivial⟩
  |true=>
   rw[ae]at ak
   simp only[y4,ae]at ar
   (have ah:=d1;have z2:=kJ;have z3:=@Int.natCast_add;refine dE ?_;clear ah z2 z3)
   refine D.P (ar) ?_
   refine aj ?_
   refine D.r ?_
   exact⟨_,rfl,.aM (by rw[ak]; simp [I.aM]) rfl,trivial,trivial⟩
end
section
attribute [local go_sem] b6 cR eE et er eG ds dw df cH Fd.row dn dz cD.row dr.row bs.row eZ uc tA tF
theorem Ih: ∀(l:List Int) (i:Nat){x v:Int},l[i]? =some x→x<0→0≤v→qQ (l.set i v)+1=qQ l
 |[],i,x,v,h,_,_=>by simp at h
 |y::l,0,x,v,h,ab,ae=>by
  simp only[List.getElem?_cons_zero,Option.some.injEq]at h
  subst h
  have d1: ¬v<0:=by omega
  simp only[qQ,List.set_cons_zero,List.countP_cons,ab,d1,decide_true,decide_false,if_true,Bool.false_eq_true,if_false,Nat.add_zero]
 |y::l,i+1,x,v,h,ab,ae=>by
  simp only[List.getElem?_cons_succ]at h
  have bB:=Ih l i h ab ae
  simp only[qQ,List.set_cons_succ,List.countP_cons]at bB ⊢
  omega
theorem aD6: ∀l:List Int,qQ l≤l.length:=fun l=>List.countP_le_length
theorem aD7 (n:Nat):qQ (List.replicate n (-1))=n:=by
 simp [qQ,List.countP_replicate]
structure xq (N:Nat) (out todo:List Int):Prop where
 len:out.length=N
 CJ: ∀x∈todo,0≤x∧x<N∧0≤out.getD x.toNat 0
 val: ∀i:Nat,out.getD i 0+(qQ out:Int)≤N
theorem xq.add {N:Nat}{out todo:List Int}(h:xq N out todo){u w:Int}(hu:u∈todo) (hw:0≤w∧w<N) (aW:out.getD w.toNat 0<0):xq N (out.set w.toNat (out.getD u.toNat 0+1)) (todo++[w])∧qQ (out.set w.toNat (out.getD u.toNat 0+1))+1=qQ out:=by
 obtain⟨yF,Aq,Ar⟩:=h.CJ u hu
 have aC:=h.len
 have a7:out[w.toNat]? =some (out.getD w.toNat 0):=by
  rw[List.getD_eq_getElem?_getD,List.getElem?_eq_getElem (show w.toNat<out.length by omega)]
  rfl
 have ae:=h.val u.toNat
 have u0:=Ih out w.toNat (v:=out.getD u.toNat 0+1) a7 aW (by omega)
 have key: ∀i:Nat,(out.set w.toNat (out.getD u.toNat 0+1)).getD i 0=if i=w.toNat then out.getD u.toNat 0+1 else out.getD i 0:=fun i=>by
  simp only[List.getD_eq_getElem?_getD,List.getElem?_set]
  by_cases e:w.toNat=i
  ·subst e
   rw[if_pos rfl,if_pos (by omega),if_pos rfl]
   rfl
  ·rw[if_neg e,if_neg (Ne.symm e)]
 refine⟨⟨by rw[List.length_set]; exact aC,fun x ab=> ?_,fun i=> ?_⟩,u0⟩
 ·rw[key]
  rcases List.mem_append.1 ab with ab|ab
  ·have:=h.CJ x ab
   refine⟨this.1,this.2.1,?_⟩
   split
   ·omega
   ·exact this.2.2
  ·simp only[List.mem_singleton]at ab
   subst ab
   refine⟨hw.1,hw.2,?_⟩
   rw[if_pos rfl]
   omega
 ·rw[key]
  have:=h.val i
  split<;>omega
theorem a60 (l:List Int) (x:Int) (aC:l.length≤1000000000000):Pure Tryz.prog 259 [.af 1 (l.map cH),.int .i64 x] (.int .i64 (dt (fun v=> !decide (x=v)) l 0)):=by
 refine cM bb Tryz.func259 X3 (by simp only[b7,I.flat,eE,Bool.and_self]) rfl ?_
 unfold Nu Tv
 have eb:((l.map cH).length:Int)=(l.length:Int):=by rw[List.length_map]
 simp(disch:=omega)only[go_sem,simprocAttr]
 (have ah:=eb;refine bE ?_;clear ah)
 refine av.c5 (X:=Nat) 0 (fun i=>[(0,.af 1 (l.map cH)),(1,.int .i64 x),(7,.int .i64 (l.length:Int)),(8,.int .i64 (i:Int))]) (fun _=>[]) (fun _=>[]) (fun i=>i≤l.length∧dt (fun v=> !decide (x=v)) (l.drop i) i=dt (fun v=> !decide (x=v)) l 0) (fun i=>l.length-i) ⟨Nat.zero_le _,rfl⟩ ⟨rfl,rfl,by simp only[Env.get,eb]; rfl,rfl,trivial⟩ trivial trivial ?_
 rintro i ⟨ad,aG⟩
 try simp only at ad aG ⊢
 cases ae:l[i]? with
 |none=>
  have cg:=List.getElem?_eq_none_iff.1 ae
  have d1: ¬(i:Int)<(l.length:Int):=by omega
  rw[List.drop_eq_nil_of_le cg]at aG
  (have ah:=d1;refine bE ?_;clear ah)
  refine D.r ?_
  exact⟨_,rfl,.aM (by rw[←aG]; rfl) rfl,trivial,trivial⟩
 |some v=>
  have cB:=(List.getElem?_eq_some_iff.1 ae).1
  have d1:(i:Int)<(l.length:Int):=by omega
  rw[fY ae]at aG
  simp only[dt]at aG
  by_cases e:x=v
  ·simp only[decide_eq_true e,Bool.not_true]at aG
   (have ah:=d1;have z2:=e;refine eM ?_;clear ah z2)
   refine D.r ?_
   exact⟨_,rfl,.aM (by rw[←aG]; rfl) rfl,trivial,trivial⟩
  ·simp only[decide_eq_false e,Bool.not_false]at aG
   (have ah:=d1;have z2:=e;refine eM ?_;clear ah z2)
   refine av.gi (i+1) ⟨by omega,by rw[←aG]; rfl⟩ ⟨rfl,rfl,rfl,by simp only[Int.natCast_add]; rfl,trivial⟩ trivial trivial (by show l.length-(i+1)<l.length-i; omega)
theorem VE (l:List Int) (x:Int) (aC:l.length≤1000000000000):Pure Tryz.prog 159 [.af 1 (l.map cH),.int .i64 x] (.bool (l.contains x)):=by
 have ar:=a60 l x aC
 have ax:=vt (fun v=>decide (x=v)) l
 have bU:l.contains x=l.any fun v=>decide (x=v):=by
  rw[List.contains_eq_any_beq]
  rfl
 rw[bU,←ax]
 generalize dt (fun v=> !decide (x=v)) l 0=z at ar ⊢
 refine cM bb Tryz.func159 Xl (by simp only[b7,I.flat,eE,Bool.and_self]) rfl ?_
 unfold MQ SM
 simp(disch:=omega)only[go_sem,simprocAttr]
 refine aj ?_
 refine D.P (ar) ?_
 refine aj ?_
 exact D.rx
end
section
attribute [local go_sem] b6 cR eE et er eG ds dw df cH Fd.row dn dz cD.row dr.row bs.row eZ uc tA tF
theorem vb (l:List Int): ∀r∈l.map cH,r.length=1:=fun r ac=>by
 obtain⟨x,_,rfl⟩:=List.mem_map.1 ac
 rfl
theorem zK {l:List Int}{i:Nat}{x:Int}(h:l[i]? =some x):(l.map cH)[i]? =some [.int .i64 x]:=by
 rw[List.getElem?_map,h]
 rfl
theorem H5 (l:List Int) (i:Nat) (x:Int):(l.map cH).set i [.int .i64 x]=(l.set i x).map cH:=by
 rw[List.map_set]
 rfl
theorem av5 (n:Nat):List.replicate n [I.int .i64 (-1)]=(List.replicate n (-1)).map cH:=by
 rw[List.map_replicate]
 rfl
theorem VF (g:cd) (hb:kp g) (aW:wS g=true) (hM:Int) (aU:0≤hM) (U:hM<g.iI) (back:Bool):Pure Tryz.prog 160 [g.cQ,.int .i64 hM,.bool back] (.af 1 ((sT g hM back).map cH)):=by
 have e3:=hb.ne
 simp only[wS,Bool.and_eq_true,decide_eq_true_eq]at aW
 obtain⟨rG,rH,_,_,_,_,QG,n4⟩:=aW
 have dC: ∀e∈g.cy,0≤(rp back e).1∧(rp back e).1<g.iI∧0≤(rp back e).2∧(rp back e).2<g.iI:=fun e he=>by
  have:=List.all_eq_true.1 n4 e he
  simp only[A7,Bool.and_eq_true,decide_eq_true_eq]at this
  unfold rp
  split<;>simp only<;>omega
 clear n4
 obtain⟨N,cW⟩: ∃N:Nat,g.iI=(N:Int):=⟨g.iI.toNat,by omega⟩
 obtain⟨R,ak⟩: ∃R,R=sT g hM back:=⟨_,rfl⟩
 rw[←ak]
 have GR:=lY g
 have mN:=wA g
 simp only[sT]at ak
 rw[cW]at ak U rG rH dC GR mN
 rw[Int.toNat_natCast]at ak
 rw[GR]
 refine Sa bb Tryz.func160 Xm (by simp only[b7,I.flat,cR,df,ds,dw,Bool.and_self]) ?_
 unfold MR SN
 have c4:((g.cy.map cD.row).length:Int)=(g.cy.length:Int):=by rw[List.length_map]
 have pm:=aI3 N (by omega) (by omega)
 rw[av5]at pm
 simp(disch:=omega)only[go_sem,simprocAttr]
 refine aj ?_
 refine D.Wb pm ?_
 refine aj ?_
 have aC:hM.toNat<((List.replicate N (-1)).map cH).length:=by rw[List.length_map,List.length_replicate]; omega
 refine D.tT hM.toNat aC ?_
 have a7:((List.replicate N (-1)).map cH)[hM.toNat]? =some [.int .i64 (-1)]:=zK (by rw[List.getElem?_replicate,if_pos (by omega)])
 refine D.stM (p:=hM.toNat) a7 (vb _) ?_
 rw[show (I.int .i64 0).cells=[.int .i64 0] from rfl,H5]
 have u0:=Ih (List.replicate N (-1)) hM.toNat (x:= -1) (v:=0) (by rw[List.getElem?_replicate,if_pos (by omega)]) (by decide) (Int.le_refl _)
 rw[aD7]at u0
 have PC: ∀i:Nat,((List.replicate N (-1:Int)).set hM.toNat 0).getD i 0≤0∧(i=hM.toNat→0≤((List.replicate N (-1:Int)).set hM.toNat 0).getD i 0):=fun i=>by
  simp only[List.getD_eq_getElem?_getD,List.getElem?_set,List.getElem?_replicate,List.length_replicate]
  by_cases e:hM.toNat=i
  ·rw[if_pos e]
   split<;>simp
  ·rw[if_neg e]
   refine⟨?_,fun h=>absurd h.symm e⟩
   split<;>simp
 have iQ:xq N ((List.replicate N (-1)).set hM.toNat 0) [hM]:=by
  refine⟨by simp,fun x ab=> ?_,fun i=> ?_⟩
  ·simp only[List.mem_singleton]at ab
   subst ab
   exact⟨aU,U,(PC _).2 rfl⟩
  ·have:=(PC i).1
   omega
 have ow:2*qQ ((List.replicate N (-1)).set hM.toNat 0)+[hM].length≤2*N+1:=by
  simp only[List.length_cons,List.length_nil]
  omega
 generalize (List.replicate N (-1)).set hM.toNat 0=aF7 at iQ ow ak ⊢
 refine aj ?_
 refine av.c5 (X:=Nat×List Int×List Int×Nat) (2*N+2,aF7,[hM],0) (fun q=>[(2,.bool back),(3,.ptr 0 0),(7,.c6 0 0),(8,.c6 1 q.2.2.2)]) (fun _=>[(0,32,g.cells)]) (fun q=>[(0,.bA 3 1 0 (q.2.1.map cH)),(1,.bA 3 1 q.2.2.2 (q.2.2.1.map cH))]) (fun q=>xq N q.2.1 q.2.2.1∧2*qQ q.2.1+q.2.2.1.length<q.1∧q.1≤2*N+2∧R=yz g.cy back q.1 q.2.1 q.2.2.1) (fun q=>q.1) ⟨iQ,by simp only; omega,Nat.le_refl _,ak⟩ ⟨rfl,rfl,rfl,rfl,trivial⟩ ⟨by simp only[mN]; rfl,trivial⟩ ⟨rfl,rfl,trivial⟩ ?_
 clear ak ow iQ
 rintro⟨zt,out,todo,ver⟩ ⟨iQ,ow,Bv,ak⟩
 try simp only at iQ ow Bv ak ⊢
 simp only[mN]
 have kJ:(((todo.map cH).length:Nat):Int)=(todo.length:Int):=by rw[List.length_map]
 cases zt with
 |zero=>omega
 |succ zt=>
 cases todo with
 |nil=>
  simp only[yz]at ak
  refine aj ?_
  refine D.mU ?_
  refine aj ?_
  refine D.r ?_
  refine⟨_,rfl,?_⟩
  rw[ak]
  exact .c6 rfl (eE _)
 |cons h cX=>
  simp only[yz]at ak
  have d0:(0:Int)<(cX.length:Int)+1:=by omega
  have eb:(cX.map cH).length=cX.length:=by rw[List.length_map]
  refine aj ?_
  refine D.mU ?_
  generalize bH:ub h back g.cy (out,h::cX)=F at ak
  (have ah:=d0;have z2:=c4;have z3:=And.intro eb (And.intro @Int.natCast_add @Int.cast_ofNat_Int);refine dE ?_;clear ah z2 z3)
  refine av.c5 (X:=Nat×List Int×List Int×Nat) (0,out,h::cX,ver) (fun q=>[(2,.bool back),(3,.ptr 0 0),(7,.c6 0 0),(8,.c6 1 q.2.2.2),(28,.af 6 (g.cy.map cD.row)),(29,.int .i64 (g.cy.length:Int)),(30,.int .i64 (q.1:Int))]) (fun _=>[(0,32,g.cells)]) (fun q=>[(0,.bA 3 1 0 (q.2.1.map cH)),(1,.bA 3 1 q.2.2.2 (q.2.2.1.map cH))]) (fun q=>q.1≤g.cy.length∧xq N q.2.1 q.2.2.1∧2*qQ q.2.1+q.2.2.1.length<zt+1∧q.2.2.1[0]? =some h∧ub h back (g.cy.drop q.1) (q.2.1,q.2.2.1)=F) (fun q=>g.cy.length-q.1) ⟨Nat.zero_le _,iQ,ow,rfl,bH⟩ ⟨rfl,rfl,rfl,rfl,rfl,by simp only[Env.get,c4]; rfl,rfl,trivial⟩ ⟨by simp only[mN]; rfl,trivial⟩ ⟨rfl,rfl,trivial⟩ ?_
  clear bH ow iQ d0 kJ
  rintro⟨j,out,todo,ver⟩ ⟨bx,iQ,ow,ht,bH⟩
  try simp only at bx iQ ow ht bH ⊢
  simp only[mN]
  cases aG:g.cy[j]? with
  |none=>
   have cg:=List.getElem?_eq_none_iff.1 aG
   have d1: ¬(j:Int)<(g.cy.length:Int):=by omega
   rw[List.drop_eq_nil_of_le cg]at bH
   simp only[ub]at bH
   subst bH
   simp only at ak
   cases todo with
   |nil=>simp at ht
   |cons a b=>
   have Ei:((a::b).map cH).length≠0:=by simp
   have xV:xq N out b:=⟨iQ.len,fun x ab=>iQ.CJ x (List.mem_cons_of_mem _ ab),iQ.val⟩
   rw[List.length_cons]at ow
   (have ah:=d1;refine bE ?_;clear ah)
   refine D.aZ2 Ei ?_
   refine aj ?_
   refine av.gi (zt,out,b,ver+1) ⟨xV,by simp only; omega,by simp only; omega,ak⟩ ⟨rfl,rfl,rfl,rfl,trivial⟩ ⟨by simp only[mN]; rfl,trivial⟩ ⟨rfl,rfl,trivial⟩ (by show zt<zt+1; omega)
  |some e=>
   have cB:=(List.getElem?_eq_some_iff.1 aG).1
   have d1:(j:Int)<(g.cy.length:Int):=by omega
   have he:=dC e (List.mem_of_getElem? aG)
   rw[fY aG]at bH
   simp only[ub]at bH
   have qf:0<(todo.map cH).length:=by
    cases todo with
    |nil=>simp at ht
    |cons a b=>simp
   have iS:=zK ht
   have aq1:=aD6 out
   rw[iQ.len]at aq1
   obtain⟨kv,h8,iB,bi2,ku,bi3⟩:=e
   cases back with
   |false=>
    simp only[rp,if_true,Bool.false_eq_true,if_false]at he bH
    (have ah:=d1;refine bE ?_;clear ah)
    refine D.tT 0 qf ?_
    refine D.zN (p:=0) iS (vb _) ?_
    by_cases hu:kv=h
    rotate_left
    ·rw[if_neg (fun aq=>hu aq.1)]at bH
     (have ah:=hu;refine bE ?_;clear ah)
     refine av.gi (j+1,out,todo,ver) ⟨by simp only; omega,iQ,ow,ht,bH⟩ ⟨rfl,rfl,rfl,rfl,rfl,rfl,by simp only[Int.natCast_add]; rfl,trivial⟩ ⟨by simp only[mN]; rfl,trivial⟩ ⟨rfl,rfl,trivial⟩ (by show g.cy.length-(j+1)<g.cy.length-j; omega)
    subst hu
    have x4:out[(ku).toNat]? =some (out.getD (ku).toNat 0):=by
     have:=iQ.len
     rw[List.getD_eq_getElem?_getD,List.getElem?_eq_getElem (show (ku).toNat<out.length by omega)]
     rfl
    have HE:out[(kv).toNat]? =some (out.getD (kv).toNat 0):=by
     have:=iQ.len
     rw[List.getD_eq_getElem?_getD,List.getElem?_eq_getElem (show (kv).toNat<out.length by omega)]
     rfl
    have uY:(ku).toNat<(out.map cH).length:=by rw[List.length_map,iQ.len]; omega
    have HL:(kv).toNat<(out.map cH).length:=by rw[List.length_map,iQ.len]; omega
    have By:=zK x4
    have HF:=zK HE
    refine aj ?_
    refine D.tT (ku).toNat uY ?_
    refine dc ?_
    refine D.zN (p:=(ku).toNat) By (vb _) ?_
    by_cases su:out.getD (ku).toNat 0<0
    rotate_left
    ·rw[if_neg (fun aq=>su aq.2)]at bH
     (have ah:=su;refine bE ?_;clear ah)
     refine av.gi (j+1,out,todo,ver) ⟨by simp only; omega,iQ,ow,ht,bH⟩ ⟨rfl,rfl,rfl,rfl,rfl,rfl,by simp only[Int.natCast_add]; rfl,trivial⟩ ⟨by simp only[mN]; rfl,trivial⟩ ⟨rfl,rfl,trivial⟩ (by show g.cy.length-(j+1)<g.cy.length-j; omega)
    rw[if_pos ⟨rfl,su⟩]at bH
    have BG:kv∈todo:=List.mem_of_getElem? ht
    obtain⟨xV,u0⟩:=iQ.add BG ⟨he.2.2.1,he.2.2.2⟩ su
    have nr:=(iQ.CJ _ BG).2.2
    have gP:=iQ.val (kv).toNat
    have n8:(todo++[ku])[0]? =some kv:=by
     cases todo with
     |nil=>simp at ht
     |cons a b=>exact ht
    have HW:todo.length≤1000000:=by omega
    have x7:=H5 out (ku).toNat (out.getD (kv).toNat 0+1)
    (have ah:=su;refine bE ?_;clear ah)
    refine D.tT (kv).toNat HL ?_
    refine D.zN (p:=(kv).toNat) HF (vb _) ?_
    generalize at6:out.getD (kv).toNat 0=vK at nr gP x7 xV u0 bH ⊢
    have at4:vK≤200:=by omega
    refine aj ?_
    refine D.tT (ku).toNat uY ?_
    refine D.stM (p:=(ku).toNat) By (vb _) ?_
    rw[show (I.int .i64 (vK+1)).cells=[.int .i64 (vK+1)] from rfl,x7]
    refine aj ?_
    refine D.Da ?_
    refine aj ?_
    refine av.gi (j+1,out.set (ku).toNat (vK+1),todo++[ku],ver+1) ⟨by simp only; omega,xV,by simp only[List.length_append,List.length_cons,List.length_nil]; omega,n8,bH⟩ ⟨rfl,rfl,rfl,rfl,rfl,rfl,by simp only[Int.natCast_add]; rfl,trivial⟩ ⟨by simp only[mN]; rfl,trivial⟩ ⟨rfl,by simp only[List.map_append]; rfl,trivial⟩ (by show g.cy.length-(j+1)<g.cy.length-j; omega)
   |true=>
    simp only[rp,if_true,Bool.false_eq_true,if_false]at he bH
    (have ah:=d1;refine bE ?_;clear ah)
    refine D.tT 0 qf ?_
    refine D.zN (p:=0) iS (vb _) ?_
    by_cases hu:ku=h
    rotate_left
    ·rw[if_neg (fun aq=>hu aq.1)]at bH
     (have ah:=hu;refine bE ?_;clear ah)
     refine av.gi (j+1,out,todo,ver) ⟨by simp only; omega,iQ,ow,ht,bH⟩ ⟨rfl,rfl,rfl,rfl,rfl,rfl,by simp only[Int.natCast_add]; rfl,trivial⟩ ⟨by simp only[mN]; rfl,trivial⟩ ⟨rfl,rfl,trivial⟩ (by show g.cy.length-(j+1)<g.cy.length-j; omega)
    subst hu
    have x4:out[(kv).toNat]? =some (out.getD (kv).toNat 0):=by
     have:=iQ.len
     rw[List.getD_eq_getElem?_getD,List.getElem?_eq_getElem (show (kv).toNat<out.length by omega)]
     rfl
    have HE:out[(ku).toNat]? =some (out.getD (ku).toNat 0):=by
     have:=iQ.len
     rw[List.getD_eq_getElem?_getD,List.getElem?_eq_getElem (show (ku).toNat<out.length by omega)]
     rfl
    have uY:(kv).toNat<(out.map cH).length:=by rw[List.length_map,iQ.len]; omega
    have HL:(ku).toNat<(out.map cH).length:=by rw[List.length_map,iQ.len]; omega
    have By:=zK x4
    have HF:=zK HE
    refine aj ?_
    refine D.tT (kv).toNat uY ?_
    refine dc ?_
    refine D.zN (p:=(kv).toNat) By (vb _) ?_
    by_cases su:out.getD (kv).toNat 0<0
    rotate_left
    ·rw[if_neg (fun aq=>su aq.2)]at bH
     (have ah:=su;refine bE ?_;clear ah)
     refine av.gi (j+1,out,todo,ver) ⟨by simp only; omega,iQ,ow,ht,bH⟩ ⟨rfl,rfl,rfl,rfl,rfl,rfl,by simp only[Int.natCast_add]; rfl,trivial⟩ ⟨by simp only[mN]; rfl,trivial⟩ ⟨rfl,rfl,trivial⟩ (by show g.cy.length-(j+1)<g.cy.length-j; omega)
    rw[if_pos ⟨rfl,su⟩]at bH
    have BG:ku∈todo:=List.mem_of_getElem? ht
    obtain⟨xV,u0⟩:=iQ.add BG ⟨he.2.2.1,he.2.2.2⟩ su
    have nr:=(iQ.CJ _ BG).2.2
    have gP:=iQ.val (ku).toNat
    have n8:(todo++[kv])[0]? =some ku:=by
     cases todo with
     |nil=>simp at ht
     |cons a b=>exact ht
    have HW:todo.length≤1000000:=by omega
    have x7:=H5 out (kv).toNat (out.getD (ku).toNat 0+1)
    (have ah:=su;refine bE ?_;clear ah)
    refine D.tT (ku).toNat HL ?_
    refine D.zN (p:=(ku).toNat) HF (vb _) ?_
    generalize at6:out.getD (ku).toNat 0=vK at nr gP x7 xV u0 bH ⊢
    have at4:vK≤200:=by omega
    refine aj ?_
    refine D.tT (kv).toNat uY ?_
    refine D.stM (p:=(kv).toNat) By (vb _) ?_
    rw[show (I.int .i64 (vK+1)).cells=[.int .i64 (vK+1)] from rfl,x7]
    refine aj ?_
    refine D.Da ?_
    refine aj ?_
    refine av.gi (j+1,out.set (kv).toNat (vK+1),todo++[kv],ver+1) ⟨by simp only; omega,xV,by simp only[List.length_append,List.length_cons,List.length_nil]; omega,n8,bH⟩ ⟨rfl,rfl,rfl,rfl,rfl,rfl,by simp only[Int.natCast_add]; rfl,trivial⟩ ⟨by simp only[mN]; rfl,trivial⟩ ⟨rfl,by simp only[List.map_append]; rfl,trivial⟩ (by show g.cy.length-(j+1)<g.cy.length-j; omega)
end
section
attribute [local go_sem] b6 cR eE et er eG ds dw df cH Fd.row dn dz cD.row dr.row bs.row eZ uc tA tF
theorem Jx: ∀(es:List cD) (back:Bool) (n:Nat) (out todo:List Int),(yz es back n out todo).length=out.length
 | _,_,0,_,_=>rfl
 | _,_,_+1,_,[]=>rfl
 |es,back,n+1,out,h::todo=>by
  have key: ∀(es:List cD) (s:List Int×List Int),(ub h back es s).1.length=s.1.length:=fun es=>by
   induction es with
   |nil=>intro s; rfl
   |cons e l bB=>
    intro s
    simp only[ub]
    split
    ·rw[bB]; simp
    ·exact bB s
  simp only[yz]
  rw[Jx es back n,key]
theorem a99 (g:cd) (hb:kp g):Pure Tryz.prog 82 [g.cQ] (.bool (s6 g)):=by
 have ar:=a36 g hb
 have ax:=a38 g hb
 have bU:=a39 g.decls hb.yi hb.nf
 have dl:=a41 g hb
 have gn:=a42 g hb
 obtain⟨R,ak⟩: ∃R,R=s6 g:=⟨_,rfl⟩
 rw[←ak]
 simp only[s6]at ak
 have tL:=lY g
 generalize zA:g.cQ=cQ at*
 subst tL
 refine cM bb Tryz.func82 Y1 (by simp only[b7,I.flat,cR,df,ds,dw,Bool.and_self]) rfl ?_
 unfold zp Uv
 generalize Cc g=fz at ar ak
 generalize zk g.decls=kL at bU ak
 generalize Cl g=qu at dl ak
 generalize CH g=r0 at gn ak
 simp(disch:=omega)only[go_sem,simprocAttr]
 refine aj ?_
 refine D.P (ar) ?_
 cases fz with
 |false=>
  refine aj ?_
  refine D.r ?_
  exact⟨_,rfl,.aM (by rw[ak]; rfl) rfl,trivial,trivial⟩
 |true=>
 cases aa:wS g with
 |false=>
  rw[aa]at ak ax
  refine aj ?_
  refine D.P (ax) ?_
  refine aj ?_
  refine D.r ?_
  exact⟨_,rfl,.aM (by rw[ak]; rfl) rfl,trivial,trivial⟩
 |true=>
 rw[aa]at ak ax
 have aW:=aa
 simp only[wS,Bool.and_eq_true,decide_eq_true_eq]at aW
 obtain⟨rG,rH,QG,n4,aC6,aC7,_,_⟩:=aW
 have mw:=VF g hb aa g.start QG aC6 false
 have xI:=VF g hb aa g.fin n4 aC7 true
 rw[zA]at mw xI
 have az1:(sT g g.start false).length≤1000:=by unfold sT; rw[Jx,List.length_set,List.length_replicate]; omega
 have az2:(sT g g.fin true).length≤1000:=by unfold sT; rw[Jx,List.length_set,List.length_replicate]; omega
 generalize sT g g.start false=UZ at mw az1 ak
 generalize sT g g.fin true=U0 at xI az2 ak
 have Oj:=VE UZ (-1) (by omega)
 have Ok:=VE U0 (-1) (by omega)
 generalize UZ.contains (-1)=Dg at Oj ak
 generalize U0.contains (-1)=Dh at Ok ak
 refine aj ?_
 refine D.P (ax) ?_
 refine aj ?_
 refine D.P (bU) ?_
 cases kL with
 |false=>
  refine aj ?_
  refine D.r ?_
  exact⟨_,rfl,.aM (by rw[ak]; rfl) rfl,trivial,trivial⟩
 |true=>
 refine aj ?_
 refine D.P (dl) ?_
 cases qu with
 |false=>
  refine aj ?_
  refine D.r ?_
  exact⟨_,rfl,.aM (by rw[ak]; rfl) rfl,trivial,trivial⟩
 |true=>
 refine aj ?_
 refine D.P (gn) ?_
 cases r0 with
 |false=>
  refine aj ?_
  refine D.r ?_
  exact⟨_,rfl,.aM (by rw[ak]; rfl) rfl,trivial,trivial⟩
 |true=>
 refine aj ?_
 refine D.P (mw) ?_
 refine aj ?_
 refine D.P (Oj) ?_
 cases Dg with
 |true=>
  refine aj ?_
  refine D.r ?_
  exact⟨_,rfl,.aM (by rw[ak]; rfl) rfl,trivial,trivial⟩
 |false=>
 refine aj ?_
 refine D.P (xI) ?_
 refine aj ?_
 refine D.P (Ok) ?_
 refine aj ?_
 refine D.r ?_
 exact⟨_,rfl,.aM (by rw[ak]; cases Dh<;>rfl) rfl,trivial,trivial⟩
end
section
theorem z6 (x:b3) (g:cd) (hb:jw x) (a7:kp g):Pure Tryz.prog 31 [x.cQ,g.cQ] (za (kf x g)):=a69 x g hb a7.yi a7.Ir a7.ne (a99 g a7)
end
end Go.aO.T.N
namespace Go.aO
open Go Go.aO.T.N
structure jW where
 x:b3
 ps:List (List UInt8)
 aT:List Int
 cw:Bool
 code:List bK
def jW.cx (s:jW):fJ:=⟨s.x.vars,s.ps,s.aT⟩
def jW.add (s:jW) (l:List bK):jW:=⟨s.x,s.ps,s.aT,s.cw,s.code++l⟩
def qO (cx:fJ) (m:List UInt8):Bool:=if 0≤eJ cx.ps m then decide ((eJ cx.ps m).toNat<cx.aT.length) else cx.vars.any fun v=>decide (v.name=m)
mutual
def o3 (cx:fJ):al→Bool
 | .mk k o m t n l=>if k=1∨k=2 then true else if k=3 then qO cx m else if k=4∨k=5 then decide (l.length=1)&&jE cx l else decide (l.length=2)&&jE cx l
def jE (cx:fJ):List al→Bool
 |[]=>true
 |x::l=>o3 cx x&&jE cx l
end
mutual
def wV (cx:fJ):ai→Bool
 | .mk k m x t a b=>o3 cx x&&(if k=1 then cx.vars.any (fun v=>decide (v.name=m)) else pC cx a&&pC cx b)
def pC (cx:fJ):List ai→Bool
 |[]=>true
 |x::l=>wV cx x&&pC cx l
end
end Go.aO
namespace Go.aO
open Go
theorem aV4 {row:List I}{k:Nat}(aw:k<row.length) (v:I) (A B:List I):gj (A++(row++B)) (A.length+k) [v]=gj (A++(row++B)) A.length (row.set k v):=by
 unfold gj
 have ar:(A++(row++B)).take (A.length+k)=A++row.take k:=by
  rw[List.take_length_add_append,List.take_append_of_le_length (by omega)]
 have ax:(A++(row++B)).drop (A.length+k+[v].length)=row.drop (k+1)++B:=by
  rw[show A.length+k+[v].length=A.length+(k+1) by simp [Nat.add_assoc],List.drop_length_add_append,List.drop_append_of_le_length (by omega)]
 have bU:(A++(row++B)).take A.length=A:=by rw[List.take_append_of_le_length (Nat.le_refl _),List.take_length]
 have dl:(A++(row++B)).drop (A.length+(row.set k v).length)=B:=by
  rw[List.length_set,List.drop_length_add_append,List.drop_left]
 rw[ar,ax,bU,dl,List.set_eq_take_append_cons_drop,if_pos aw]
 simp only[List.append_assoc,List.cons_append,List.nil_append]
theorem af6 {rows:List (List I)}{p size k:Nat}{row:List I}{v:I}(hs: ∀r∈rows,r.length=size) (ac:rows[p]? =some row) (aw:k<size):chunks size rows.length (gj rows.flatten (p*size+k) [v])=rows.set p (row.set k v):=by
 obtain⟨U,aa⟩:=Bd hs ac
 have u6:=hs row (List.mem_of_getElem? ac)
 have e:rows.flatten=rows.flatten.take (p*size)++(row++rows.flatten.drop (p*size+size)):=by
  conv=>lhs; rw[←List.take_append_drop (p*size) rows.flatten,←List.take_append_drop size (rows.flatten.drop (p*size)),aa,List.drop_drop]
 have el:(rows.flatten.take (p*size)).length=p*size:=by rw[List.length_take]; omega
 have:=aV4 (row:=row) (k:=k) (by omega) v (rows.flatten.take (p*size)) (rows.flatten.drop (p*size+size))
 rw[←e,el]at this
 rw[this]
 exact G0 hs ac (by rw[List.length_set,u6])
section
variable {dd:Program}{env:Env}{c:aQ}{anns:List I}{l:List bY}{K:Env→aQ→Prop}{Rp:I→aQ→Prop}{x y i:aJ}{T t ver d p size k bi off:Nat}{rows:List (List I)}{row:List I}
theorem D.GX (h:au dd anns l ((d,.mp t ver (k+off))::env) c K Rp) (ab:bp env x= .mp t ver k:=by simp (disch:=omega) only[go_sem,simprocAttr]<;>with_reducible rfl) (ht:c.H.tok t=some (.bA T size ver rows):=by simp (disch:=omega) only[go_sem,simprocAttr]<;>with_reducible rfl):au dd anns (⟨some d,none,.jJ off x⟩::l) env c K Rp:=by
 refine au.u rfl (v:= .mp t ver (k+off)) (c1:=c) ?_ h
 simp only[eU,ms,fN,ab,ht,cb.bA,beq_self_eq_true,cond_true,Option.map_some]
theorem D.Jz {v:I}(ac:rows[p]? =some row) (hs: ∀r∈rows,r.length=size) (aw:k<size) (h:au dd anns l env (c.cj t (.bA T size ver (rows.set p (row.set k v)))) K Rp) (ab:bp env x= .mp t ver (p*size+k):=by simp (disch:=omega) only[go_sem,simprocAttr]<;>with_reducible rfl) (ht:c.H.tok t=some (.bA T size ver rows):=by simp (disch:=omega) only[go_sem,simprocAttr]<;>with_reducible rfl) (aV:bp env y=v:=by simp (disch:=omega) only[go_sem,simprocAttr]<;>with_reducible rfl) (ae:(v.fk&&v.one)=true:=by simp (disch:=omega) only[go_sem,simprocAttr]<;>rfl) (aq:v.cells=[v]:=by rfl):au dd anns (⟨none,none,.store 1 x y⟩::l) env c K Rp:=by
 obtain⟨U,aa⟩:=Bd hs ac
 have aC:rows.flatten.length=rows.length*size:=Cw hs
 simp only[Bool.and_eq_true]at ae
 refine au.JY rfl (v:= .undef) (c1:=c.cj t (.bA T size ver (rows.set p (row.set k v)))) ?_ h
 have ar:p*size+k+1≤rows.length*size:=by omega
 simp only[eU,ms,ab,aV,zi,ht,cb.bA,beq_self_eq_true,ae.1,ae.2,aq,List.length_cons,List.length_nil,Nat.zero_add,List.all_cons,List.all_nil,aC,Bool.and_self,Bool.true_and,Bool.and_true,y2 ar,cond_true]
 rw[af6 hs ac aw]
end
end Go.aO
namespace Go.aO.T.N
open Go Go.aO Go.Proofs Go.RowKit
set_option maxRecDepth 100000
attribute [local irreducible] Go.aO.av Go.aO.au Go.aO.aY
section
attribute [local go_sem] ba.row db eH dp eS of_flat b6 cR eE et er eG ds dw df cH Fd.row dn dz cD.row dr.row bs.row
def gH (s:jW):List I:=[.str s.x.name,.str s.x.bM,.str s.x.gJ,.af 7 (s.x.vars.map ba.row),.af 4 (s.x.hs.map bL.row),.af 4 (s.x.os.map cf.row),.c6 0 s.code.length,.af 1 (s.ps.map b6),.af 1 (s.aT.map cH),.bool s.cw]
def gI (s:jW):fm:=[(0,.bA 64 3 s.code.length (s.code.map bK.row))]
def fF (s:jW):aQ:=aQ.of 1 1 [(0,151,gH s)] (gI s)
def fE (v:I) (s:jW):Out→aQ→Prop:=dR v [(0,151,gH s)] (gI s)
theorem fR (l:List bK):eN (l.map bK.row)=true:=lW (fun _=>rfl) l
attribute [local go_sem] fR bK.row gH gI fF fE jW.add
theorem yG (s:jW) (op n:Int) (aC:s.code.length≤1000000000000):aY Tryz.prog 63 [.ptr 0 0,.int .i64 op,.int .i64 n] (fF s) (fE (.int .i64 (s.code.length:Int)) (s.add [ins op n])):=by
 obtain⟨x,ps,aT,cw,code⟩:=s
 simp only at aC
 simp only[fF,fE,gH,gI,jW.add,List.length_append,List.map_append]
 have eb:(code.map bK.row).length=code.length:=by rw[List.length_map]
 refine aY.intro bb Tryz.func63 YT ?_
 unfold zo Un
 simp(disch:=omega)only[go_sem,simprocAttr]
 refine aj ?_
 refine D.Da ?_
 refine aj ?_
 refine D.mU ?_
 refine aj ?_
 refine D.r ?_
 refine⟨?_,⟨rfl,trivial⟩,⟨rfl,trivial⟩⟩
 simp only[List.length_append,eb,List.length_cons,List.length_nil]
 rw[wrap64 (by omega) (by omega)]
 congr 2
 omega
theorem a55 (s:jW) (i:Nat) (y:bK) (aV:s.code[i]? =some y) (aC:s.code.length≤1000000000000):aY Tryz.prog 254 [.ptr 0 0,.int .i64 (i:Int)] (fF s) (fE (.cT []) ⟨s.x,s.ps,s.aT,s.cw,s.code.set i ⟨y.op,s.code.length,y.s⟩⟩):=by
 obtain⟨x,ps,aT,cw,code⟩:=s
 simp only at aC aV
 simp only[fF,fE,gH,gI,List.length_set,List.map_set]
 have cB:=(List.getElem?_eq_some_iff.1 aV).1
 have eb:(code.map bK.row).length=code.length:=by rw[List.length_map]
 have hp:i<(code.map bK.row).length:=by omega
 refine aY.intro bb Tryz.func254 XZ ?_
 unfold Nq Tr
 simp(disch:=omega)only[go_sem,simprocAttr]
 refine aj ?_
 refine D.mU ?_
 refine aj ?_
 refine D.tT i hp ?_
 refine aj ?_
 refine D.GX ?_
 have au3:(code.map bK.row)[i]? =some (bK.row y):=by rw[List.getElem?_map,aV]; rfl
 have hs: ∀r∈code.map bK.row,r.length=3:=fun r ac=>by
  obtain⟨z,_,rfl⟩:=List.mem_map.1 ac
  rfl
 refine D.Jz (p:=i) (k:=1) au3 hs (by decide) ?_
 rw[eb]
 refine aj ?_
 refine D.r ?_
 exact⟨rfl,⟨rfl,trivial⟩,⟨rfl,trivial⟩⟩
theorem a71 (n:bF) (v:ba):aY Tryz.prog 335 [.agg (ba.row v),.ptr 0 0] (aQ.of 1 0 [(0,9,[.str n])] []) (dR (.bool (decide (v.name=n))) [(0,9,[.str n])] []):=by
 refine aY.intro bb Tryz.func335 Yv ?_
 unfold NU TX
 simp(disch:=omega)only[go_sem,simprocAttr]
 refine aj ?_
 refine D.r ?_
 exact⟨rfl,⟨rfl,trivial⟩,trivial⟩
theorem ay0:di Tryz.prog 335=true:=by kernel_rfl
theorem J3 (s:jW) (n:bF) (aC:s.x.vars.length≤1000000000000):aY Tryz.prog 252 [.ptr 0 0,.str n] (fF s) (fE (.int .i64 (pa s.x.vars n)) s):=by
 obtain⟨x,ps,aT,cw,code⟩:=s
 simp only at aC ⊢
 have e:=J4 (T:=9) (cs:=[.str n]) ay0 rfl rfl (fun v=>decide (v.name=n)) x.vars aC fun v _=>a71 n v
 rw[show dt (fun v=> !(fun v:ba=>decide (v.name=n)) v) x.vars 0=pa x.vars n from rfl]at e
 generalize pa x.vars n=z at e ⊢
 simp only[fF,fE,gH,gI]
 refine aY.intro bb Tryz.func252 XY ?_
 unfold n1 Tq
 simp(disch:=omega)only[go_sem,simprocAttr]
 refine aj ?_
 refine D.F ⟨[1],[]⟩ (e) ?_
 refine aj ?_
 refine D.r ?_
 exact⟨rfl,⟨rfl,trivial⟩,⟨rfl,trivial⟩⟩
theorem a73 (o:bF):Pure Tryz.prog 336 [.str o] (.cT [.int .i64 (lc o).1,.bool (lc o).2.1,.bool (lc o).2.2]):=by
 obtain⟨S,ea⟩: ∃S,S=lc o:=⟨_,rfl⟩
 rw[←ea]
 simp only[lc]at ea
 refine cM bb Tryz.func336 Yw rfl rfl ?_
 unfold zl TY
 simp(disch:=omega)only[go_sem,simprocAttr]
 (repeat' first|refine D.S ?_|refine D.jd true true ?_|refine au.nil ?_|refine av.dN ?_|refine D.W ?_|refine D.Z ?_|refine D.G ?_ ?_|refine D.X ‹_› ?_|refine D.jY ‹_› ?_|refine D.lo ‹_› ?_|intro h|refine D.C ?_ ?_)
 all_goals
  refine D.r ?_
  refine⟨_,rfl,.aM ?_ rfl,trivial,trivial⟩
  simp only[decide_eq_true_eq,decide_eq_false_iff_not]at*
  rw[ea]
  simp_all [I.aM,lj]
end
section
attribute [local go_sem] ba.row db eH dp eS of_flat b6 cR eE et er eG ds dw df cH Fd.row dn dz cD.row dr.row bs.row al.cr ai.cr al.ch ai.ch al.ew ai.ew
theorem uz (T n v:Nat) (rows:List (List I)):(cb.bA T n v rows).lU=some rows:=rfl
attribute [local go_sem] fR bK.row gH gI fF fE jW.add uz
structure vQ (s:jW):Prop where
 kn:s.x.vars.length≤1000000000000
 QS:s.ps.length≤1000000000000
 aD9:s.aT.length≤1000000000000
theorem Iy {cx:fJ}: ∀ {l:List al}{i:Nat}{y:al},jE cx l=true→l[i]? =some y→o3 cx y=true
 |y::l,0,x,h,e=>by simp only[jE,Bool.and_eq_true]at h; simp at e; subst e; exact h.1
 |y::l,i+1,x,h,e=>by simp only[jE,Bool.and_eq_true]at h; exact Iy (l:=l) (i:=i) h.2 (by simpa using e)
 |[],_,_,_,e=>by simp at e
theorem a74 (s:jW) (hb:vQ s): ∀(N:Nat) (x:al),x.bJ≤N→o3 s.cx x=true→aY Tryz.prog 337 [.ptr 0 0,.agg x.row] (fF s) (fE (.bool (vC s.cx x)) s):=by
 obtain⟨bT,ps,aT,cw,code⟩:=s
 have fz:=hb.kn
 have iM:=hb.QS
 have kL:=hb.aD9
 have n1:=fun n=>J3 ⟨bT,ps,aT,cw,code⟩ n fz
 simp only[jW.cx,fF,fE,gH,gI]at fz iM kL n1 ⊢
 intro N
 induction N with
 |zero=>intro x ab; obtain⟨k,o,m,t,n,l⟩:=x; simp only[al.bJ]at ab; omega
 |succ N bB=>
 intro x cW a7
 obtain⟨k,o,m,t,n,l⟩:=x
 obtain⟨R,ak⟩: ∃R,R=vC ⟨bT.vars,ps,aT⟩ (.mk k o m t n l):=⟨_,rfl⟩
 rw[←ak]
 simp only[vC]at ak
 simp only[o3]at a7
 have uI:Pure Tryz.prog 93 [.af 1 (ps.map b6),.str m] (.int .i64 (eJ ps m)):=zZ ps m (by unfold maxLen; omega)
 have n1:=n1 m
 refine aY.intro bb Tryz.func337 Yx ?_
 unfold sd TZ
 simp(disch:=omega)only[go_sem,simprocAttr]
 by_cases bi:k=2
 ·(have ah:=bi;refine bE ?_;clear ah)
  refine D.r ?_
  exact⟨by rw[ak,if_pos bi],⟨rfl,trivial⟩,⟨rfl,trivial⟩⟩
 rw[if_neg bi]at ak
 by_cases cz:k=3
 ·subst cz
  have bf: ¬((3:Int)=1∨(3:Int)=2):=by decide
  rw[if_pos rfl]at ak
  rw[if_neg bf,if_pos rfl]at a7
  simp only[qO]at a7
  generalize eJ ps m=z at uI ak a7
  iterate 4 refine rU ?_
  repeat refine D.jd true true ?_
  refine av.iU (anns:=[.int .i64 z]) ?_
  refine dc ?_
  refine D.fL (uI) ?_
  refine dc ?_
  by_cases aG:0≤z
  ·rw[if_pos aG]at ak a7
   simp only[decide_eq_true_eq]at a7
   obtain⟨j4,aw⟩: ∃j4,aT[z.toNat]? =some j4:=⟨_,List.getElem?_eq_getElem a7⟩
   rw[List.getD_eq_getElem?_getD,aw,Option.getD_some]at ak
   have Eg:True∧aT[z.toNat]? =some j4:=⟨trivial,aw⟩
   have d2:z<(aT.length:Int):=by omega
   (have ah:=aG;refine bE ?_;clear ah)
   refine D.r ?_
   exact⟨by rw[ak],⟨rfl,trivial⟩,⟨rfl,trivial⟩⟩
  ·rw[if_neg aG]at ak a7
   rcases EM (fun v:ba=>decide (v.name=m)) bT.vars 0 with ⟨p,v,U,aa,ay,bl⟩|⟨U,aa⟩
   ·have so:pa bT.vars m=(p:Int):=by rw[Nat.zero_add]at U; exact U
    rw[so]at n1 ak
    rw[Int.toNat_natCast,aa]at ak
    simp only at ak
    have hp:=(List.getElem?_eq_some_iff.1 aa).1
    clear U so ay bl
    (have ah:=aG;refine bE ?_;clear ah)
    refine D.C5 ⟨[0],[0]⟩ n1 ?_
    refine aj ?_
    refine D.r ?_
    exact⟨by rw[ak],⟨rfl,trivial⟩,⟨rfl,trivial⟩⟩
   ·exfalso
    rw[List.find?_eq_none]at aa
    rw[List.any_eq_true]at a7
    obtain⟨v,sw,oX⟩:=a7
    exact aa v sw oX
 rw[if_neg cz]at ak
 by_cases mS:k=6
 ·subst mS
  rw[if_pos rfl]at ak
  rw[if_neg (by decide),if_neg (by decide),if_neg (by decide)]at a7
  simp only[Bool.and_eq_true,decide_eq_true_eq]at a7
  obtain⟨jC,jg⟩:=a7
  match l,jC with
  |[kb,nb],_=>
  have ec:kb.bJ≤N:=by simp only[al.bJ,al.bz]at cW; omega
  simp only[jE,Bool.and_eq_true]at jg
  have sd:=bB kb ec jg.1
  simp only[w8]at ak
  generalize vC ⟨bT.vars,ps,aT⟩ kb=b at sd ak
  by_cases ao:o=[43]
  ·simp only[decide_eq_true ao,Bool.true_and]at ak
   obtain⟨s9,yQ,yP,vM,vL,yO⟩:=kb
   simp(disch:=omega)only[go_sem,simprocAttr]at sd
   (have ah:=ao;refine bE ?_;clear ah)
   refine D.F ⟨[0],[0]⟩ (sd) ?_
   refine aj ?_
   refine D.r ?_
   exact⟨by rw[ak],⟨rfl,trivial⟩,⟨rfl,trivial⟩⟩
  ·simp only[decide_eq_false ao,Bool.false_and]at ak
   (have ah:=ao;refine bE ?_;clear ah)
   refine D.r ?_
   exact⟨by rw[ak],⟨rfl,trivial⟩,⟨rfl,trivial⟩⟩
 ·rw[if_neg mS]at ak
  (have ah:=bi;have z2:=cz;have z3:=mS;refine dE ?_;clear ah z2 z3)
  refine D.r ?_
  exact⟨by rw[ak],⟨rfl,trivial⟩,⟨rfl,trivial⟩⟩
end
section
attribute [local go_sem] ba.row db eH dp eS of_flat b6 cR eE et er eG ds dw df cH Fd.row dn dz cD.row dr.row bs.row al.cr ai.cr al.ch ai.ch al.ew ai.ew
attribute [local go_sem] fR bK.row gH gI fF fE jW.add uz eZ
def Ft (bT:b3) (ps:List bF) (aT:List Int) (cw:Bool) (x:al):Prop:=∀code:List bK,code.length+(c3 ⟨bT.vars,ps,aT⟩ x).length≤1000000000→aY Tryz.prog 142 [.ptr 0 0,.agg x.row] (fF ⟨bT,ps,aT,cw,code⟩) (fE (.cT []) ⟨bT,ps,aT,cw,code++c3 ⟨bT.vars,ps,aT⟩ x⟩)
theorem a56 (bT:b3) (ps:List bF) (aT:List Int) (cw:Bool) (k:Int) (o m t:bF) (n:Int) (kb nb:al) (a b:List bK) (qZ:Bool) (hb: ∀code,vQ ⟨bT,ps,aT,cw,code⟩) (a7:o3 ⟨bT.vars,ps,aT⟩ kb=true)
  (aL:a=c3 ⟨bT.vars,ps,aT⟩ kb) (D4:b=c3 ⟨bT.vars,ps,aT⟩ nb) (ht:qZ=vC ⟨bT.vars,ps,aT⟩ kb) (pU:Ft bT ps aT cw kb) (c1:Ft bT ps aT cw nb) (code:List bK) (aC:code.length+a.length+b.length+1≤1000000000):
  aY Tryz.prog 255 [.ptr 0 0,.agg (al.mk k o m t n [kb,nb]).row] (fF ⟨bT,ps,aT,cw,code⟩) (fE (.cT []) ⟨bT,ps,aT,cw,code++ml o qZ [a,b]⟩):=by
 have zl:=a73 o
 have sd:=a74 ⟨bT,ps,aT,cw,code⟩ (hb code) kb.bJ kb (Nat.le_refl _) a7
 have iO:=pU code (by rw[←aL]; omega)
 have DK:=c1 (code++a) (by rw[←D4,List.length_append]; omega)
 have kP:=c1 code (by rw[←D4]; omega)
 have DL:=pU (code++b) (by rw[←aL,List.length_append]; omega)
 simp only[jW.cx]at sd
 rw[←ht]at sd
 rw[←aL]at iO DL
 rw[←D4]at kP DK
 have f1: ∀(c:List bK) (op:Int),c.length≤1000000001→aY Tryz.prog 63 [.ptr 0 0,.int .i64 op,.int .i64 0] (fF ⟨bT,ps,aT,cw,c⟩) (fE (.int .i64 (c.length:Int)) ⟨bT,ps,aT,cw,c++[ins op 0]⟩):=fun c op aq=>yG ⟨bT,ps,aT,cw,c⟩ op 0 (by simp only; omega)
 obtain⟨kS,wT,m0,t0,c8,qI⟩:=kb
 obtain⟨bf,eF,m1,t1,rG,aH⟩:=nb
 obtain⟨F,bH⟩: ∃F,F=code++ml o qZ [a,b]:=⟨_,rfl⟩
 rw[←bH]
 simp only[ml]at bH
 rcases ea:lc o with ⟨op,ij,bj⟩
 rw[ea]at zl bH
 simp only at zl bH
 clear aL D4 ht pU c1 a7 ea
 simp only[fF,fE,gH,gI]at*
 refine aY.intro bb Tryz.func255 X0 ?_
 unfold Nr Ts
 simp(disch:=omega)only[go_sem,simprocAttr]
 refine aj ?_
 refine D.P (zl) ?_
 by_cases ao:o=[43]
 ·cases qZ with
  |false=>
   rw[if_neg (show ¬(o=[43]∧false=true) by simp)]at bH
   (have ah:=ao;refine bE ?_;clear ah)
   refine D.F ⟨[0],[0]⟩ (sd) ?_
   cases ij
   ·simp only[Bool.false_eq_true,if_false,if_true]at bH
    refine aj ?_
    refine D.F ⟨[0],[0]⟩ (iO) ?_
    refine aj ?_
    refine D.F ⟨[0],[0]⟩ (DK) ?_
    refine aj ?_
    refine D.F ⟨[0],[0]⟩ (f1 (code++a++b) op (by rw[List.length_append,List.length_append]; omega)) ?_
    cases bj
    ·have il:F=code++a++b++[ins op 0]:=by rw[bH]; simp only[List.append_assoc,Bool.false_eq_true,if_false]
     refine aj ?_
     refine D.r ?_
     rw[il]
     exact⟨rfl,⟨rfl,trivial⟩,⟨rfl,trivial⟩⟩
    ·have il:F=code++a++b++[ins op 0]++[ins 14 0]:=by rw[bH]; simp only[List.append_assoc,List.cons_append,List.nil_append,if_true]
     refine aj ?_
     refine D.F ⟨[0],[0]⟩ (f1 (code++a++b++[ins op 0]) 14 (by simp only[List.length_append,List.length_cons,List.length_nil]; omega)) ?_
     refine aj ?_
     refine D.r ?_
     rw[il]
     exact⟨rfl,⟨rfl,trivial⟩,⟨rfl,trivial⟩⟩
   ·simp only[Bool.false_eq_true,if_false,if_true]at bH
    refine aj ?_
    refine D.F ⟨[0],[0]⟩ (kP) ?_
    refine aj ?_
    refine D.F ⟨[0],[0]⟩ (DL) ?_
    refine aj ?_
    refine D.F ⟨[0],[0]⟩ (f1 (code++b++a) op (by rw[List.length_append,List.length_append]; omega)) ?_
    cases bj
    ·have il:F=code++b++a++[ins op 0]:=by rw[bH]; simp only[List.append_assoc,Bool.false_eq_true,if_false]
     refine aj ?_
     refine D.r ?_
     rw[il]
     exact⟨rfl,⟨rfl,trivial⟩,⟨rfl,trivial⟩⟩
    ·have il:F=code++b++a++[ins op 0]++[ins 14 0]:=by rw[bH]; simp only[List.append_assoc,List.cons_append,List.nil_append,if_true]
     refine aj ?_
     refine D.F ⟨[0],[0]⟩ (f1 (code++b++a++[ins op 0]) 14 (by simp only[List.length_append,List.length_cons,List.length_nil]; omega)) ?_
     refine aj ?_
     refine D.r ?_
     rw[il]
     exact⟨rfl,⟨rfl,trivial⟩,⟨rfl,trivial⟩⟩
  |true=>
   rw[if_pos (show o=[43]∧true=true from⟨ao,rfl⟩)]at bH
   (have ah:=ao;refine bE ?_;clear ah)
   refine D.F ⟨[0],[0]⟩ (sd) ?_
   cases ij
   ·simp only[Bool.false_eq_true,if_false,if_true]at bH
    refine aj ?_
    refine D.F ⟨[0],[0]⟩ (iO) ?_
    refine aj ?_
    refine D.F ⟨[0],[0]⟩ (DK) ?_
    refine aj ?_
    refine D.F ⟨[0],[0]⟩ (f1 (code++a++b) 17 (by rw[List.length_append,List.length_append]; omega)) ?_
    cases bj
    ·have il:F=code++a++b++[ins 17 0]:=by rw[bH]; simp only[List.append_assoc,Bool.false_eq_true,if_false]
     refine aj ?_
     refine D.r ?_
     rw[il]
     exact⟨rfl,⟨rfl,trivial⟩,⟨rfl,trivial⟩⟩
    ·have il:F=code++a++b++[ins 17 0]++[ins 14 0]:=by rw[bH]; simp only[List.append_assoc,List.cons_append,List.nil_append,if_true]
     refine aj ?_
     refine D.F ⟨[0],[0]⟩ (f1 (code++a++b++[ins 17 0]) 14 (by simp only[List.length_append,List.length_cons,List.length_nil]; omega)) ?_
     refine aj ?_
     refine D.r ?_
     rw[il]
     exact⟨rfl,⟨rfl,trivial⟩,⟨rfl,trivial⟩⟩
   ·simp only[Bool.false_eq_true,if_false,if_true]at bH
    refine aj ?_
    refine D.F ⟨[0],[0]⟩ (kP) ?_
    refine aj ?_
    refine D.F ⟨[0],[0]⟩ (DL) ?_
    refine aj ?_
    refine D.F ⟨[0],[0]⟩ (f1 (code++b++a) 17 (by rw[List.length_append,List.length_append]; omega)) ?_
    cases bj
    ·have il:F=code++b++a++[ins 17 0]:=by rw[bH]; simp only[List.append_assoc,Bool.false_eq_true,if_false]
     refine aj ?_
     refine D.r ?_
     rw[il]
     exact⟨rfl,⟨rfl,trivial⟩,⟨rfl,trivial⟩⟩
    ·have il:F=code++b++a++[ins 17 0]++[ins 14 0]:=by rw[bH]; simp only[List.append_assoc,List.cons_append,List.nil_append,if_true]
     refine aj ?_
     refine D.F ⟨[0],[0]⟩ (f1 (code++b++a++[ins 17 0]) 14 (by simp only[List.length_append,List.length_cons,List.length_nil]; omega)) ?_
     refine aj ?_
     refine D.r ?_
     rw[il]
     exact⟨rfl,⟨rfl,trivial⟩,⟨rfl,trivial⟩⟩
 ·rw[if_neg (show ¬(o=[43]∧qZ=true) from fun h=>ao h.1)]at bH
  (have ah:=ao;refine bE ?_;clear ah)
  cases ij
  ·simp only[Bool.false_eq_true,if_false,if_true]at bH
   refine aj ?_
   refine D.F ⟨[0],[0]⟩ (iO) ?_
   refine aj ?_
   refine D.F ⟨[0],[0]⟩ (DK) ?_
   refine aj ?_
   refine D.F ⟨[0],[0]⟩ (f1 (code++a++b) op (by rw[List.length_append,List.length_append]; omega)) ?_
   cases bj
   ·have il:F=code++a++b++[ins op 0]:=by rw[bH]; simp only[List.append_assoc,Bool.false_eq_true,if_false]
    refine aj ?_
    refine D.r ?_
    rw[il]
    exact⟨rfl,⟨rfl,trivial⟩,⟨rfl,trivial⟩⟩
   ·have il:F=code++a++b++[ins op 0]++[ins 14 0]:=by rw[bH]; simp only[List.append_assoc,List.cons_append,List.nil_append,if_true]
    refine aj ?_
    refine D.F ⟨[0],[0]⟩ (f1 (code++a++b++[ins op 0]) 14 (by simp only[List.length_append,List.length_cons,List.length_nil]; omega)) ?_
    refine aj ?_
    refine D.r ?_
    rw[il]
    exact⟨rfl,⟨rfl,trivial⟩,⟨rfl,trivial⟩⟩
  ·simp only[Bool.false_eq_true,if_false,if_true]at bH
   refine aj ?_
   refine D.F ⟨[0],[0]⟩ (kP) ?_
   refine aj ?_
   refine D.F ⟨[0],[0]⟩ (DL) ?_
   refine aj ?_
   refine D.F ⟨[0],[0]⟩ (f1 (code++b++a) op (by rw[List.length_append,List.length_append]; omega)) ?_
   cases bj
   ·have il:F=code++b++a++[ins op 0]:=by rw[bH]; simp only[List.append_assoc,Bool.false_eq_true,if_false]
    refine aj ?_
    refine D.r ?_
    rw[il]
    exact⟨rfl,⟨rfl,trivial⟩,⟨rfl,trivial⟩⟩
   ·have il:F=code++b++a++[ins op 0]++[ins 14 0]:=by rw[bH]; simp only[List.append_assoc,List.cons_append,List.nil_append,if_true]
    refine aj ?_
    refine D.F ⟨[0],[0]⟩ (f1 (code++b++a++[ins op 0]) 14 (by simp only[List.length_append,List.length_cons,List.length_nil]; omega)) ?_
    refine aj ?_
    refine D.r ?_
    rw[il]
    exact⟨rfl,⟨rfl,trivial⟩,⟨rfl,trivial⟩⟩
end
section
attribute [local go_sem] ba.row db eH dp eS of_flat b6 cR eE et er eG ds dw df cH Fd.row dn dz cD.row dr.row bs.row al.cr ai.cr al.ch ai.ch al.ew ai.ew
attribute [local go_sem] fR bK.row gH gI fF fE jW.add uz eZ
theorem Ap (bT:b3) (ps:List bF) (aT:List Int) (cw:Bool) (hb: ∀code,vQ ⟨bT,ps,aT,cw,code⟩): ∀(N:Nat) (x:al),x.bJ≤N→o3 ⟨bT.vars,ps,aT⟩ x=true→Ft bT ps aT cw x:=by
 intro N
 induction N with
 |zero=>intro x ab; obtain⟨k,o,m,t,n,l⟩:=x; simp only[al.bJ]at ab; omega
 |succ N bB=>
 intro x cW a7 code aC
 obtain⟨k,o,m,t,n,l⟩:=x
 have iM:=(hb code).QS
 have n1:=J3 ⟨bT,ps,aT,cw,code⟩ m (hb code).kn
 have uI:Pure Tryz.prog 93 [.af 1 (ps.map b6),.str m] (.int .i64 (eJ ps m)):=zZ ps m (by unfold maxLen; simp only at iM; omega)
 have f1: ∀(c:List bK) (op n:Int),c.length≤1000000001→aY Tryz.prog 63 [.ptr 0 0,.int .i64 op,.int .i64 n] (fF ⟨bT,ps,aT,cw,c⟩) (fE (.int .i64 (c.length:Int)) ⟨bT,ps,aT,cw,c++[ins op n]⟩):=fun c op n aq=>yG ⟨bT,ps,aT,cw,c⟩ op n (by simp only; omega)
 obtain⟨C,hC⟩: ∃C,C=c3 ⟨bT.vars,ps,aT⟩ (.mk k o m t n l):=⟨_,rfl⟩
 rw[←hC]at aC ⊢
 simp only[c3]at hC
 simp only[o3]at a7
 have pO:(code.map bK.row).length=code.length:=by rw[List.length_map]
 by_cases bf:k=1
 ·subst bf
  rw[if_pos rfl]at hC
  subst hC
  simp only[fF,fE,gH,gI]at f1 ⊢
  refine aY.intro bb Tryz.func142 y7 ?_
  unfold xF yw
  simp(disch:=omega)only[go_sem,simprocAttr]
  refine aj ?_
  refine D.F ⟨[0],[0]⟩ (f1 code 1 n (by omega)) ?_
  refine aj ?_
  refine D.r ?_
  exact⟨rfl,⟨rfl,trivial⟩,⟨rfl,trivial⟩⟩
 rw[if_neg bf]at hC
 by_cases bi:k=2
 ·subst bi
  rw[if_pos rfl]at hC
  subst hC
  simp only[fF,fE,gH,gI,List.map_append,List.length_append]at f1 ⊢
  refine aY.intro bb Tryz.func142 y7 ?_
  unfold xF yw
  simp(disch:=omega)only[go_sem,simprocAttr]
  refine aj ?_
  refine D.Da ?_
  refine aj ?_
  refine D.r ?_
  exact⟨rfl,⟨rfl,trivial⟩,⟨rfl,trivial⟩⟩
 rw[if_neg bi]at hC
 rw[if_neg (show ¬(k=1∨k=2) by omega)]at a7
 by_cases cz:k=3
 ·subst cz
  rw[if_pos rfl]at hC
  generalize eJ ps m=z at uI hC
  generalize pa bT.vars m=z2 at n1 hC
  simp only[fF,fE,gH,gI]at f1 n1 ⊢
  refine aY.intro bb Tryz.func142 y7 ?_
  unfold xF yw
  simp(disch:=omega)only[go_sem,simprocAttr]
  iterate 5 refine rU ?_
  repeat refine D.jd true true ?_
  refine av.iU (anns:=[.int .i64 z]) ?_
  refine dc ?_
  refine D.fL (uI) ?_
  refine dc ?_
  by_cases aG:0≤z
  ·rw[if_pos aG]at hC
   subst hC
   (have ah:=aG;refine bE ?_;clear ah)
   refine D.F ⟨[0],[0]⟩ (f1 code 4 z (by omega)) ?_
   refine aj ?_
   refine D.r ?_
   exact⟨rfl,⟨rfl,trivial⟩,⟨rfl,trivial⟩⟩
  ·rw[if_neg aG]at hC
   subst hC
   (have ah:=aG;refine bE ?_;clear ah)
   refine D.F ⟨[0],[0]⟩ (n1) ?_
   refine aj ?_
   refine D.F ⟨[0],[0]⟩ (f1 code 3 z2 (by omega)) ?_
   refine aj ?_
   refine D.r ?_
   exact⟨rfl,⟨rfl,trivial⟩,⟨rfl,trivial⟩⟩
 rw[if_neg cz]at hC
 rw[if_neg cz]at a7
 by_cases wP:k=4∨k=5
 ·rw[if_pos wP]at a7
  simp only[Bool.and_eq_true,decide_eq_true_eq]at a7
  obtain⟨jC,jg⟩:=a7
  match l,jC with
  |[kb],_=>
  have ec:kb.bJ≤N:=by simp only[al.bJ,al.bz]at cW; omega
  simp only[jE,Bool.and_eq_true]at jg
  have pU:=bB kb ec jg.1
  simp only[fM,List.headD_cons]at hC
  have iO:=pU code
  generalize c3 ⟨bT.vars,ps,aT⟩ kb=a at iO hC
  obtain⟨kS,wT,m0,t0,c8,qI⟩:=kb
  by_cases eu:k=4
  ·subst eu
   rw[if_pos rfl]at hC
   subst hC
   rw[List.length_append]at aC
   have iO:=iO (by omega)
   rw[←List.append_assoc]
   simp only[fF,fE,gH,gI]at f1 iO ⊢
   refine aY.intro bb Tryz.func142 y7 ?_
   unfold xF yw
   simp(disch:=omega)only[go_sem,simprocAttr]
   refine aj ?_
   refine D.F ⟨[0],[0]⟩ (iO) ?_
   refine aj ?_
   refine D.F ⟨[0],[0]⟩ (f1 (code++a) 18 0 (by rw[List.length_append]; omega)) ?_
   refine aj ?_
   refine D.r ?_
   exact⟨rfl,⟨rfl,trivial⟩,⟨rfl,trivial⟩⟩
  ·have gr:k=5:=by omega
   subst gr
   rw[if_neg (by decide),if_pos rfl]at hC
   subst hC
   rw[List.length_append]at aC
   have iO:=iO (by omega)
   rw[←List.append_assoc]
   simp only[fF,fE,gH,gI]at f1 iO ⊢
   refine aY.intro bb Tryz.func142 y7 ?_
   unfold xF yw
   simp(disch:=omega)only[go_sem,simprocAttr]
   refine aj ?_
   refine D.F ⟨[0],[0]⟩ (iO) ?_
   by_cases ao:o=[45]
   ·rw[if_pos ao]
    (have ah:=ao;refine bE ?_;clear ah)
    refine D.F ⟨[0],[0]⟩ (f1 (code++a) 11 0 (by rw[List.length_append]; omega)) ?_
    refine aj ?_
    refine D.r ?_
    exact⟨rfl,⟨rfl,trivial⟩,⟨rfl,trivial⟩⟩
   ·rw[if_neg ao]
    (have ah:=ao;refine bE ?_;clear ah)
    refine D.F ⟨[0],[0]⟩ (f1 (code++a) 14 0 (by rw[List.length_append]; omega)) ?_
    refine aj ?_
    refine D.r ?_
    exact⟨rfl,⟨rfl,trivial⟩,⟨rfl,trivial⟩⟩
 ·rw[if_neg wP]at a7
  simp only[Bool.and_eq_true,decide_eq_true_eq]at a7
  obtain⟨jC,jg⟩:=a7
  match l,jC with
  |[kb,nb],_=>
  have ec:kb.bJ≤N∧nb.bJ≤N:=by simp only[al.bJ,al.bz]at cW; omega
  simp only[jE,Bool.and_eq_true]at jg
  have pU:=bB kb ec.1 jg.1
  have c1:=bB nb ec.2 jg.2.1
  have eu: ¬k=4:=by omega
  have gr: ¬k=5:=by omega
  rw[if_neg eu,if_neg gr]at hC
  simp only[fM,w8]at hC
  have hlen:code.length+(c3 ⟨bT.vars,ps,aT⟩ kb).length+(c3 ⟨bT.vars,ps,aT⟩ nb).length+1≤1000000000:=by
   rw[hC]at aC
   simp only[ml]at aC
   split at aC<;>simp only[List.length_append,List.length_cons]at aC<;>omega
  have kP:=a56 bT ps aT cw k o m t n kb nb _ _ _ hb jg.1 rfl rfl rfl pU c1 code (by omega)
  rw[←hC]at kP
  obtain⟨kS,wT,m0,t0,c8,qI⟩:=kb
  obtain⟨bk9,eF,m1,t1,rG,aH⟩:=nb
  clear n1 uI f1 pU c1 bB
  simp only[fF,fE,gH,gI]at kP ⊢
  simp(disch:=omega)only[go_sem,simprocAttr]at kP
  refine aY.intro bb Tryz.func142 y7 ?_
  unfold xF yw
  simp(disch:=omega)only[go_sem,simprocAttr]
  (have ah:=bf;have z2:=bi;have z3:=And.intro cz (And.intro eu gr);refine dE ?_;clear ah z2 z3)
  refine D.F ⟨[0],[0]⟩ (kP) ?_
  refine aj ?_
  refine D.r ?_
  exact⟨rfl,⟨rfl,trivial⟩,⟨rfl,trivial⟩⟩
end
section
attribute [local go_sem] ba.row db eH dp eS of_flat b6 cR eE et er eG ds dw df cH Fd.row dn dz cD.row dr.row bs.row al.cr ai.cr al.ch ai.ch al.ew ai.ew
attribute [local go_sem] fR bK.row gH gI fF fE jW.add uz eZ
def Fv (bT:b3) (ps:List bF) (aT:List Int) (N:Nat) (l:List ai):Prop:=∀(cw:Bool) (d:Nat) (code:List bK),d+N≤4000000→code.length+(dS ⟨bT.vars,ps,aT⟩ code.length l).length≤1000000000→aY Tryz.prog 141 [.ptr 0 0,.af 11 (l.map ai.row),.int .i64 (d:Int)] (fF ⟨bT,ps,aT,cw,code⟩) (fE (.cT []) ⟨bT,ps,aT,cw||gO d l,code++dS ⟨bT.vars,ps,aT⟩ code.length l⟩)
theorem aV3 (L R:List bK) (y z:bK):(L++[y]++R).set L.length z=L++[z]++R:=by
 rw[List.append_assoc,List.append_assoc,List.set_append_right _ _ (Nat.le_refl _),Nat.sub_self]
 rfl
theorem D1 (bT:b3) (ps:List bF) (aT:List Int) (cw:Bool) (L R C:List bK) (o:Int) (hC:C=L++[ins o 0]++R) (aC:C.length≤1000000001):aY Tryz.prog 254 [.ptr 0 0,.int .i64 (L.length:Int)] (fF ⟨bT,ps,aT,cw,C⟩) (fE (.cT []) ⟨bT,ps,aT,cw,L++[ins o (C.length:Int)]++R⟩):=by
 have aV:C[L.length]? =some (ins o 0):=by rw[hC]; simp
 have:=a55 ⟨bT,ps,aT,cw,C⟩ L.length (ins o 0) aV (by simp only; omega)
 have e:C.set L.length ⟨(ins o 0).op,C.length,(ins o 0).s⟩=L++[ins o (C.length:Int)]++R:=by
  conv=>lhs; rw[hC]
  rw[aV3,←hC]
  rfl
 simp only at this
 rw[e]at this
 exact this
theorem a54 (bT:b3) (ps:List bF) (aT:List Int) (hb: ∀cw code,vQ ⟨bT,ps,aT,cw,code⟩) (N:Nat) (m:bF) (x:al) (t:Int) (a b:List ai) (ab:o3 ⟨bT.vars,ps,aT⟩ x=true) (uW:a.length≤1000000) (wI:b.length≤1000000) (FX:Fv bT ps aT N a) (F2:Fv bT ps aT N b) (cw:Bool) (d:Nat) (code:List bK) (br:d+N≤4000000)
  (aC:code.length+(hT ⟨bT.vars,ps,aT⟩ code.length (.mk 2 m x t a b)).length≤1000000000):aY Tryz.prog 253 [.ptr 0 0,.agg (ai.row (.mk 2 m x t a b)),.int .i64 (d:Int)] (fF ⟨bT,ps,aT,cw,code⟩) (fE (.cT []) ⟨bT,ps,aT,cw||(gO d a||gO d b),code++hT ⟨bT.vars,ps,aT⟩ code.length (.mk 2 m x t a b)⟩):=by
 obtain⟨F,bH⟩: ∃F,F=hT ⟨bT.vars,ps,aT⟩ code.length (.mk 2 m x t a b):=⟨_,rfl⟩
 rw[←bH]at aC ⊢
 simp only[hT]at bH
 rw[if_pos trivial]at bH
 have jz:=Ap bT ps aT cw (hb cw) x.bJ x (Nat.le_refl _) ab code
 generalize c3 ⟨bT.vars,ps,aT⟩ x=X at jz bH
 have f1: ∀(cw:Bool) (c:List bK) (op n:Int),c.length≤1000000001→aY Tryz.prog 63 [.ptr 0 0,.int .i64 op,.int .i64 n] (fF ⟨bT,ps,aT,cw,c⟩) (fE (.int .i64 (c.length:Int)) ⟨bT,ps,aT,cw,c++[ins op n]⟩):=fun cw c op n aq=>yG ⟨bT,ps,aT,cw,c⟩ op n (by simp only; omega)
 have iO:=FX cw d (code++X++[ins 20 0]) br
 have gF:((b.map ai.row).length:Int)=(b.length:Int):=by rw[List.length_map]
 rw[show (code++X++[ins 20 0]).length=code.length+X.length+1 by simp only[List.length_append,List.length_cons,List.length_nil]<;>omega]at iO
 generalize dS ⟨bT.vars,ps,aT⟩ (code.length+X.length+1) a=A at iO bH
 obtain⟨kS,wT,m0,t0,c8,qI⟩:=x
 cases b with
 |nil=>
  replace bH:F=X++(ins 20 ((code.length+X.length+1+A.length:Nat):Int)::A):=bH
  rw[bH]at aC
  simp only[List.length_append,List.length_cons]at aC
  have iO:=iO (by omega)
  have jz:=jz (by omega)
  have mM:=f1 cw (code++X) 20 0 (by rw[List.length_append]; omega)
  have ot:=D1 bT ps aT (cw||gO d a) (code++X) A (code++X++[ins 20 0]++A) 20 rfl (by simp only[List.length_append,List.length_cons,List.length_nil]; omega)
  have il:code++F=code++X++[ins 20 ((code++X++[ins 20 0]++A).length:Int)]++A:=by
   rw[bH,show (code++X++[ins 20 0]++A).length=code.length+X.length+1+A.length by simp only[List.length_append,List.length_cons,List.length_nil]<;>omega]
   simp only[List.append_assoc,List.cons_append,List.nil_append]
  have j2:(cw||(gO d a||gO d []))=(cw||gO d a):=by simp [gO]
  rw[il,j2]
  clear bH il j2 FX F2 f1
  generalize (code++X++[ins 20 0]++A).length=q at ot ⊢
  simp only[fF,fE,gH,gI]at iO jz mM ot ⊢
  simp(disch:=omega)only[go_sem,simprocAttr]at jz
  refine aY.intro bb Tryz.func253 Lt ?_
  unfold GD I5
  simp(disch:=omega)only[go_sem,simprocAttr]
  refine aj ?_
  refine D.F ⟨[0],[0]⟩ (jz) ?_
  refine aj ?_
  refine D.F ⟨[0],[0]⟩ (mM) ?_
  refine aj ?_
  refine D.F ⟨[0],[0]⟩ (iO) ?_
  refine aj ?_
  refine D.F ⟨[0],[0]⟩ (ot) ?_
  refine aj ?_
  refine D.r ?_
  exact⟨rfl,⟨rfl,trivial⟩,⟨rfl,trivial⟩⟩
 |cons gS k0=>
  replace bH:F=X++(ins 20 ((code.length+X.length+1+A.length+1:Nat):Int)::(A++(ins 19 ((code.length+X.length+1+A.length+1+(dS ⟨bT.vars,ps,aT⟩ (code.length+X.length+1+A.length+1) (gS::k0)).length:Nat):Int)::dS ⟨bT.vars,ps,aT⟩ (code.length+X.length+1+A.length+1) (gS::k0)))):=bH
  have bl5:gS::k0≠[]:=by simp
  have bg4:((k0.map ai.row).length:Int)=(k0.length:Int):=by rw[List.length_map]
  rw[List.length_cons]at wI
  have d0: ¬(k0.length:Int)+1=0:=by omega
  have kP:=F2 (cw||gO d a) d (code++X++[ins 20 ((code++X++[ins 20 0]++A++[ins 19 0]).length:Int)]++A++[ins 19 0]) br
  rw[show (code++X++[ins 20 ((code++X++[ins 20 0]++A++[ins 19 0]).length:Int)]++A++[ins 19 0]).length=code.length+X.length+1+A.length+1 by simp only[List.length_append,List.length_cons,List.length_nil]<;>omega]at kP
  generalize dS ⟨bT.vars,ps,aT⟩ (code.length+X.length+1+A.length+1) (gS::k0)=B at kP bH
  generalize zw:((code++X++[ins 20 0]++A++[ins 19 0]).length:Int)=q at kP
  have bw:q=((code.length+X.length+1+A.length+1:Nat):Int):=by
   rw[←zw]
   simp only[List.length_append,List.length_cons,List.length_nil,Nat.zero_add]
  rw[←bw]at bH
  rw[bH]at aC
  simp only[List.length_append,List.length_cons]at aC
  have iO:=iO (by omega)
  have jz:=jz (by omega)
  have kP:=kP (by omega)
  have mM:=f1 cw (code++X) 20 0 (by rw[List.length_append]; omega)
  have Om:=f1 (cw||gO d a) (code++X++[ins 20 0]++A) 19 0 (by simp only[List.length_append,List.length_cons,List.length_nil]; omega)
  have ot:=D1 bT ps aT (cw||gO d a) (code++X) (A++[ins 19 0]) (code++X++[ins 20 0]++A++[ins 19 0]) 20 (by simp only[List.append_assoc]) (by simp only[List.length_append,List.length_cons,List.length_nil]; omega)
  have A6:=D1 bT ps aT (cw||gO d a||gO d (gS::k0)) (code++X++[ins 20 q]++A) B (code++X++[ins 20 q]++A++[ins 19 0]++B) 19 rfl (by simp only[List.length_append,List.length_cons,List.length_nil]; omega)
  rw[zw,←List.append_assoc]at ot
  have iQ:(((code++X++[ins 20 q]++A).length:Nat):Int)=((code++X++[ins 20 0]++A).length:Int):=by
   simp only[List.length_append,List.length_cons,List.length_nil]
  rw[iQ]at A6
  have il:code++F=code++X++[ins 20 q]++A++[ins 19 ((code++X++[ins 20 q]++A++[ins 19 0]++B).length:Int)]++B:=by
   rw[bH,show (code++X++[ins 20 q]++A++[ins 19 0]++B).length=code.length+X.length+1+A.length+1+B.length by simp only[List.length_append,List.length_cons,List.length_nil]<;>omega]
   simp only[List.append_assoc,List.cons_append,List.nil_append]
  have j2:(cw||(gO d a||gO d (gS::k0)))=(cw||gO d a||gO d (gS::k0)):=by rw[Bool.or_assoc]
  rw[il,j2]
  clear bH il j2 FX F2 f1 iQ bw zw aC
  generalize (code++X++[ins 20 q]++A++[ins 19 0]++B).length=cN at A6 ⊢
  generalize gO d (gS::k0)=bg8 at kP A6 ⊢
  simp only[fF,fE,gH,gI,List.map_cons]at iO jz mM ot kP A6 Om ⊢
  simp(disch:=omega)only[go_sem,simprocAttr]at jz
  obtain⟨eY,bh5,⟨bo0,rR,bo1,kJ,bo2,eb⟩,bh6,bh4,rj⟩:=gS
  simp(disch:=omega)only[go_sem,simprocAttr]at kP
  refine aY.intro bb Tryz.func253 Lt ?_
  unfold GD I5
  simp(disch:=omega)only[go_sem,simprocAttr]
  refine aj ?_
  refine D.F ⟨[0],[0]⟩ (jz) ?_
  refine aj ?_
  refine D.F ⟨[0],[0]⟩ (mM) ?_
  refine aj ?_
  refine D.F ⟨[0],[0]⟩ (iO) ?_
  (have ah:=d0;have z2:=bg4;have z3:=And.intro @Int.natCast_add @Int.cast_ofNat_Int;refine dE ?_;clear ah z2 z3)
  refine D.F ⟨[0],[0]⟩ (Om) ?_
  refine aj ?_
  refine D.F ⟨[0],[0]⟩ (ot) ?_
  refine aj ?_
  refine D.F ⟨[0],[0]⟩ (kP) ?_
  refine aj ?_
  refine D.F ⟨[0],[0]⟩ (A6) ?_
  refine aj ?_
  refine D.r ?_
  exact⟨rfl,⟨rfl,trivial⟩,⟨rfl,trivial⟩⟩
end
section
attribute [local go_sem] ba.row db eH dp eS of_flat b6 cR eE et er eG ds dw df cH Fd.row dn dz cD.row dr.row bs.row al.cr ai.cr al.ch ai.ch al.ew ai.ew
attribute [local go_sem] fR bK.row gH gI fF fE jW.add uz eZ
theorem RN {cx:fJ}: ∀ {l:List ai}{i:Nat}{y:ai},pC cx l=true→l[i]? =some y→wV cx y=true
 |y::l,0,x,h,e=>by simp only[pC,Bool.and_eq_true]at h; simp at e; subst e; exact h.1
 |y::l,i+1,x,h,e=>by simp only[pC,Bool.and_eq_true]at h; exact RN (l:=l) (i:=i) h.2 (by simpa using e)
 |[],_,_,_,e=>by simp at e
theorem a34 (bT:b3) (ps:List bF) (aT:List Int) (hb: ∀cw code,vQ ⟨bT,ps,aT,cw,code⟩): ∀(N:Nat) (l:List ai),ai.bz l≤N→N≤1000000→pC ⟨bT.vars,ps,aT⟩ l=true→Fv bT ps aT N l:=by
 intro N
 induction N with
 |zero=>
  intro l cW aj2 a7 cw d code br aC
  have aW:l=[]:=by have:=ai.fT l; exact List.length_eq_zero_iff.1 (by omega)
  subst aW
  simp only[dS,gO,List.append_nil,Bool.or_false,fF,fE,gH,gI]
  refine aY.intro bb Tryz.func141 Lp ?_
  unfold Gw I1
  simp(disch:=omega)only[go_sem,simprocAttr]
  refine aj ?_
  refine av.c5 (X:=Unit) () (fun _=>[(0,.ptr 0 0),(11,.int .i64 0),(12,.int .i64 0)]) (fun _=>[(0,151,gH ⟨bT,ps,aT,cw,code⟩)]) (fun _=>gI ⟨bT,ps,aT,cw,code⟩) (fun _=>True) (fun _=>0) trivial ⟨rfl,rfl,rfl,trivial⟩ ⟨rfl,trivial⟩ ⟨rfl,trivial⟩ ?_
  rintro _ _
  simp(disch:=omega)only[go_sem,simprocAttr]
  refine aj ?_
  refine D.r ?_
  exact⟨rfl,⟨rfl,trivial⟩,⟨rfl,trivial⟩⟩
 |succ N bB=>
 intro l cW aj2 a7 cw d code br aC
 have n5:l.length≤1000001:=by have:=ai.fT l; omega
 obtain⟨F,bH⟩: ∃F,F=code++dS ⟨bT.vars,ps,aT⟩ code.length l:=⟨_,rfl⟩
 obtain⟨C1,j2⟩: ∃C1,C1=(cw||gO d l):=⟨_,rfl⟩
 rw[←bH,←j2]
 have sq:F.length≤1000000000:=by rw[bH,List.length_append]; exact aC
 have eb:((l.map ai.row).length:Int)=(l.length:Int):=by rw[List.length_map]
 clear aC
 simp only[fF,fE,gH,gI]
 refine aY.intro bb Tryz.func141 Lp ?_
 unfold Gw I1
 simp(disch:=omega)only[go_sem,simprocAttr]
 (have ah:=eb;refine bE ?_;clear ah)
 refine av.c5 (X:=Nat×Bool×List bK) (0,cw,code) (fun q=>[(0,.ptr 0 0),(2,.int .i64 (d:Int)),(10,.af 11 (l.map ai.row)),(11,.int .i64 (l.length:Int)),(12,.int .i64 (q.1:Int))]) (fun q=>[(0,151,gH ⟨bT,ps,aT,q.2.1,q.2.2⟩)]) (fun q=>gI ⟨bT,ps,aT,q.2.1,q.2.2⟩) (fun q=>q.1≤l.length∧C1=(q.2.1||gO d (l.drop q.1))∧F=q.2.2++dS ⟨bT.vars,ps,aT⟩ q.2.2.length (l.drop q.1)) (fun q=>l.length-q.1) ⟨Nat.zero_le _,j2,bH⟩ ⟨rfl,rfl,rfl,by simp only[Env.get,eb]; rfl,rfl,trivial⟩ ⟨rfl,trivial⟩ ⟨rfl,trivial⟩ ?_
 clear bH j2
 rintro⟨i,cw,code⟩ ⟨ad,j2,bH⟩
 try simp only at ad j2 bH ⊢
 simp only[gH,gI]
 cases aG:l[i]? with
 |none=>
  have cg:=List.getElem?_eq_none_iff.1 aG
  have d1: ¬(i:Int)<(l.length:Int):=by omega
  rw[List.drop_eq_nil_of_le cg]at bH j2
  simp only[dS,gO,List.append_nil,Bool.or_false]at bH j2
  subst bH j2
  (have ah:=d1;refine bE ?_;clear ah)
  refine D.r ?_
  exact⟨rfl,⟨rfl,trivial⟩,⟨rfl,trivial⟩⟩
 |some y=>
  have cB:=(List.getElem?_eq_some_iff.1 aG).1
  have d1:(i:Int)<(l.length:Int):=by omega
  rw[fY aG]at bH j2
  simp only[dS,gO]at bH j2
  have PD:=RN a7 aG
  have hm:=ai.nx aG
  obtain⟨k,m,x,t,a,b⟩:=y
  have uW:a.length≤1000000:=by have:=ai.fT a; simp only[ai.bJ]at hm; omega
  have wI:b.length≤1000000:=by have:=ai.fT b; simp only[ai.bJ]at hm; omega
  simp only[wV,Bool.and_eq_true]at PD
  obtain⟨iS,jg⟩:=PD
  have Hl:ai.bz a≤N:=by simp only[ai.bJ]at hm; omega
  have nr:ai.bz b≤N:=by simp only[ai.bJ]at hm; omega
  have h8:=bB a Hl (by omega)
  have iB:=bB b nr (by omega)
  have jz:=Ap bT ps aT cw (hb cw) x.bJ x (Nat.le_refl _) iS
  have GQ:=Ap bT ps aT (cw||decide (d=4)) (hb (cw||decide (d=4))) x.bJ x (Nat.le_refl _) iS
  have f1: ∀(cw:Bool) (c:List bK) (op n:Int),c.length≤1000000001→aY Tryz.prog 63 [.ptr 0 0,.int .i64 op,.int .i64 n] (fF ⟨bT,ps,aT,cw,c⟩) (fE (.int .i64 (c.length:Int)) ⟨bT,ps,aT,cw,c++[ins op n]⟩):=fun cw c op n aq=>yG ⟨bT,ps,aT,cw,c⟩ op n (by simp only; omega)
  clear bB a7
  rw[show code.length+(hT ⟨bT.vars,ps,aT⟩ code.length (.mk k m x t a b)).length=(code++hT ⟨bT.vars,ps,aT⟩ code.length (.mk k m x t a b)).length by rw[List.length_append],←List.append_assoc]at bH
  have ru:(code++hT ⟨bT.vars,ps,aT⟩ code.length (.mk k m x t a b)).length≤1000000000:=by
   rw[bH,List.length_append]at sq
   omega
  have key: ∀(Gs:Bool) (Du:List bK),Gs=(cw||AY d (.mk k m x t a b))→Du=code++hT ⟨bT.vars,ps,aT⟩ code.length (.mk k m x t a b)→i+1≤l.length∧C1=(Gs||gO d (l.drop (i+1)))∧F=Du++dS ⟨bT.vars,ps,aT⟩ Du.length (l.drop (i+1)):=fun Gs Du ar ax=>by
   subst ar ax
   exact⟨by omega,by rw[j2,Bool.or_assoc],bH⟩
  clear bH j2 sq
  have H9:=key
  have Hf:=ru
  simp only[hT,AY]at key ru
  by_cases bf:k=1
  ·subst bf
   simp only[if_true]at key ru jg
   have n1:=J3 ⟨bT,ps,aT,cw,code++c3 ⟨bT.vars,ps,aT⟩ x⟩ m (hb cw code).kn
   have jz:=jz code
   generalize c3 ⟨bT.vars,ps,aT⟩ x=X at jz n1 key ru
   simp only[List.length_append,List.length_cons,List.length_nil]at ru
   have jz:=jz (by omega)
   have key:=key cw (code++X++[ins 5 (pa bT.vars m)]) (by rw[Bool.or_false]) (by rw[List.append_assoc])
   have mM:=f1 cw (code++X) 5 (pa bT.vars m) (by rw[List.length_append]; omega)
   obtain⟨jQ,jU,jS,jV,jT,jR⟩:=x
   simp only[fF,fE,gH,gI]at jz n1 mM
   generalize pa bT.vars m=z at n1 mM key
   clear f1
   simp(disch:=omega)only[go_sem,simprocAttr]at jz
   (have ah:=d1;refine bE ?_;clear ah)
   refine D.F ⟨[0],[0]⟩ (jz) ?_
   refine aj ?_
   refine D.F ⟨[0],[0]⟩ (n1) ?_
   refine aj ?_
   refine D.F ⟨[0],[0]⟩ (mM) ?_
   refine aj ?_
   refine av.gi (i+1,cw,code++X++[ins 5 z]) key ⟨rfl,rfl,rfl,rfl,by simp only[Int.natCast_add]; rfl,trivial⟩ ⟨rfl,trivial⟩ ⟨rfl,trivial⟩ (by show l.length-(i+1)<l.length-i; omega)
  rw[if_neg bf]at jg
  simp only[Bool.and_eq_true]at jg
  have h8:=h8 jg.1
  have iB:=iB jg.2
  by_cases bi:k=2
  ·subst bi
   have A5:=a54 bT ps aT hb N m x t a b iS uW wI h8 iB cw d code (by omega) (by rw[←List.length_append]; exact Hf)
   have j4:=H9 (cw||(gO d a||gO d b)) _ (by simp only[AY]; rfl) rfl
   generalize code++hT ⟨bT.vars,ps,aT⟩ code.length (.mk 2 m x t a b)=ci at A5 j4
   generalize (cw||(gO d a||gO d b))=d2 at A5 j4
   clear H9 Hf ru h8 iB
   obtain⟨jQ,jU,jS,jV,jT,jR⟩:=x
   simp only[fF,fE,gH,gI]at A5
   simp(disch:=omega)only[go_sem,simprocAttr]at A5
   (have ah:=d1;refine bE ?_;clear ah)
   refine D.F ⟨[0],[0]⟩ (A5) ?_
   refine aj ?_
   refine av.gi (i+1,d2,ci) j4 ⟨rfl,rfl,rfl,rfl,by simp only[Int.natCast_add]; rfl,trivial⟩ ⟨rfl,trivial⟩ ⟨rfl,trivial⟩ (by show l.length-(i+1)<l.length-i; omega)
  ·clear H9 Hf
   simp only[bf,bi,if_false]at key ru
   have ZT:decide (d=4)=decide ((d:Int)=4):=by
    by_cases h:d=4
    ·subst h; rfl
    ·have aa: ¬(d:Int)=4:=by omega
     rw[decide_eq_false h,decide_eq_false aa]
   rw[ZT]at GQ key
   have jz:=GQ (code++[ins 21 t])
   generalize c3 ⟨bT.vars,ps,aT⟩ x=X at jz key ru
   have h8:=h8 (cw||decide ((d:Int)=4)) (d+1) (code++[ins 21 t]++X++[ins 20 0]) (by omega)
   rw[show (code++[ins 21 t]++X++[ins 20 0]).length=code.length+1+X.length+1 by simp only[List.length_append,List.length_cons,List.length_nil]]at h8
   generalize dS ⟨bT.vars,ps,aT⟩ (code.length+1+X.length+1) a=A at h8 key ru
   simp only[List.length_append,List.length_cons,List.length_nil]at ru
   have h8:=h8 (by omega)
   have jz:=jz (by simp only[List.length_append,List.length_cons,List.length_nil]; omega)
   generalize gO (d+1) a=Ax at h8 key
   have g1:=f1 (cw||decide ((d:Int)=4)) code 21 t (by omega)
   have g2:=f1 (cw||decide ((d:Int)=4)) (code++[ins 21 t]++X) 20 0 (by simp only[List.length_append,List.length_cons,List.length_nil]; omega)
   have g3:=f1 (cw||decide ((d:Int)=4)||Ax) (code++[ins 21 t]++X++[ins 20 0]++A) 22 ((code.length:Int)+1) (by simp only[List.length_append,List.length_cons,List.length_nil]; omega)
   have ot:=D1 bT ps aT (cw||decide ((d:Int)=4)||Ax) (code++[ins 21 t]++X) (A++[ins 22 ((code.length:Int)+1)]) (code++[ins 21 t]++X++[ins 20 0]++A++[ins 22 ((code.length:Int)+1)]) 20 (by simp only[List.append_assoc]) (by simp only[List.length_append,List.length_cons,List.length_nil]; omega)
   have bw:((code++[ins 21 t]++X++[ins 20 0]++A++[ins 22 ((code.length:Int)+1)]).length:Int)=((code.length+1+X.length+1+A.length+1:Nat):Int):=by
    simp only[List.length_append,List.length_cons,List.length_nil,Nat.zero_add]
   rw[bw,←List.append_assoc]at ot
   generalize ((code.length+1+X.length+1+A.length+1:Nat):Int)=q at ot key
   have g4:=f1 (cw||decide ((d:Int)=4)||Ax) (code++[ins 21 t]++X++[ins 20 q]++A++[ins 22 ((code.length:Int)+1)]) 23 0 (by simp only[List.length_append,List.length_cons,List.length_nil]; omega)
   have key:=key (cw||decide ((d:Int)=4)||Ax) (code++[ins 21 t]++X++[ins 20 q]++A++[ins 22 ((code.length:Int)+1)]++[ins 23 0]) (by rw[Bool.or_assoc]) (by simp only[List.append_assoc,List.cons_append,List.nil_append,Int.natCast_add]; rfl)
   obtain⟨jQ,jU,jS,jV,jT,jR⟩:=x
   simp only[fF,fE,gH,gI]at jz h8 g1 g2 g3 g4 ot
   clear f1 GQ bw
   have ac6:(d:Int)+1=((d+1:Nat):Int):=by simp only[Int.natCast_add]; rfl
   rw[←ac6]at h8
   simp(disch:=omega)only[go_sem,simprocAttr]at jz
   cases cw
   ·simp only[Bool.false_or,Bool.true_or]at jz h8 g1 g2 g3 g4 ot key
    (have ah:=d1;have z2:=bf;have z3:=bi;refine dE ?_;clear ah z2 z3)
    refine D.F ⟨[0],[0]⟩ (g1) ?_
    refine aj ?_
    refine D.F ⟨[0],[0]⟩ (jz) ?_
    refine aj ?_
    refine D.F ⟨[0],[0]⟩ (g2) ?_
    refine aj ?_
    refine D.F ⟨[0],[0]⟩ (h8) ?_
    refine aj ?_
    refine D.F ⟨[0],[0]⟩ (g3) ?_
    refine aj ?_
    refine D.F ⟨[0],[0]⟩ (ot) ?_
    refine aj ?_
    refine D.F ⟨[0],[0]⟩ (g4) ?_
    refine aj ?_
    refine av.gi (i+1,decide ((d:Int)=4)||Ax,_) key ⟨rfl,rfl,rfl,rfl,by simp only[Int.natCast_add]; rfl,trivial⟩ ⟨rfl,trivial⟩ ⟨rfl,trivial⟩ (by show l.length-(i+1)<l.length-i; omega)
   ·simp only[Bool.false_or,Bool.true_or]at jz h8 g1 g2 g3 g4 ot key
    (have ah:=d1;have z2:=bf;have z3:=bi;refine dE ?_;clear ah z2 z3)
    refine D.F ⟨[0],[0]⟩ (g1) ?_
    refine aj ?_
    refine D.F ⟨[0],[0]⟩ (jz) ?_
    refine aj ?_
    refine D.F ⟨[0],[0]⟩ (g2) ?_
    refine aj ?_
    refine D.F ⟨[0],[0]⟩ (h8) ?_
    refine aj ?_
    refine D.F ⟨[0],[0]⟩ (g3) ?_
    refine aj ?_
    refine D.F ⟨[0],[0]⟩ (ot) ?_
    refine aj ?_
    refine D.F ⟨[0],[0]⟩ (g4) ?_
    refine aj ?_
    refine av.gi (i+1,true,_) key ⟨rfl,rfl,rfl,rfl,by simp only[Int.natCast_add]; rfl,trivial⟩ ⟨rfl,trivial⟩ ⟨rfl,trivial⟩ (by show l.length-(i+1)<l.length-i; omega)
end
section
attribute [local go_sem] ba.row db eH dp eS of_flat b6 cR eE et er eG ds dw df cH Fd.row dn dz cD.row dr.row bs.row al.cr ai.cr al.ch ai.ch al.ew ai.ew
attribute [local go_sem] fR bK.row gH gI fF fE jW.add uz eZ
theorem a98 (bT:b3) (ps:List bF) (aT:List Int) (hb: ∀cw code,vQ ⟨bT,ps,aT,cw,code⟩) (o:cf) (ry:jE ⟨bT.vars,ps,aT⟩ o.args=true) (x4:jE ⟨bT.vars,ps,aT⟩ o.dk=true) (uW:o.args.length≤1000000) (uY:o.dk.length≤1000000) (cw:Bool) (code:List bK)
  (aC:code.length+(og ⟨bT.vars,ps,aT⟩ code.length o.dk).2.length+(fM ⟨bT.vars,ps,aT⟩ o.args).flatten.length≤1000000000):aY Tryz.prog 62 [.ptr 0 0,.agg (cf.row o)] (fF ⟨bT,ps,aT,cw,code⟩) (fE (.cT [.int .i64 (og ⟨bT.vars,ps,aT⟩ code.length o.dk).1,.int .i64 ((code.length+(og ⟨bT.vars,ps,aT⟩ code.length o.dk).2.length:Nat):Int)]) ⟨bT,ps,aT,cw,code++(og ⟨bT.vars,ps,aT⟩ code.length o.dk).2++(fM ⟨bT.vars,ps,aT⟩ o.args).flatten++[ins 24 0]⟩):=by
 obtain⟨bl8,bm0,args,dk⟩:=o
 simp only at ry x4 uW uY aC ⊢
 have f1: ∀(c:List bK) (op n:Int),c.length≤1000000001→aY Tryz.prog 63 [.ptr 0 0,.int .i64 op,.int .i64 n] (fF ⟨bT,ps,aT,cw,c⟩) (fE (.int .i64 (c.length:Int)) ⟨bT,ps,aT,cw,c++[ins op n]⟩):=fun c op n aq=>yG ⟨bT,ps,aT,cw,c⟩ op n (by simp only; omega)
 have dK:((args.map al.row).length:Int)=(args.length:Int):=by rw[List.length_map]
 have Ko:((dk.map al.row).length:Int)=(dk.length:Int):=by rw[List.length_map]
 simp only[fF,fE,gH,gI]at f1 ⊢
 have pO: ∀c:List bK,((c.map bK.row).length:Int)=(c.length:Int):=fun c=>by rw[List.length_map]
 have V4:=pO code
 cases dk with
 |nil=>
  simp only[og,List.length_nil,Nat.add_zero,List.append_nil]at aC ⊢
  obtain⟨F,bH⟩: ∃F,F=code++(fM ⟨bT.vars,ps,aT⟩ args).flatten:=⟨_,rfl⟩
  have sq:F.length≤1000000000:=by rw[bH,List.length_append]; exact aC
  rw[←bH]
  refine aY.intro bb Tryz.func62 Lz ?_
  unfold rn Jb
  simp(disch:=omega)only[go_sem,simprocAttr]
  refine aj ?_
  refine D.mU ?_
  (have ah:=dK;have z2:=V4;refine eM ?_;clear ah z2)
  refine av.c5 (X:=Nat×List bK) (0,code) (fun q=>[(0,.ptr 0 0),(4,.int .i64 (-1)),(5,.int .i64 (code.length:Int)),(31,.af 6 (args.map al.row)),(32,.int .i64 (args.length:Int)),(33,.int .i64 (q.1:Int))]) (fun q=>[(0,151,gH ⟨bT,ps,aT,cw,q.2⟩)]) (fun q=>gI ⟨bT,ps,aT,cw,q.2⟩) (fun q=>q.1≤args.length∧F=q.2++(fM ⟨bT.vars,ps,aT⟩ (args.drop q.1)).flatten) (fun q=>args.length-q.1) ⟨Nat.zero_le _,bH⟩ ⟨rfl,rfl,rfl,rfl,by simp only[Env.get,dK]; rfl,rfl,trivial⟩ ⟨rfl,trivial⟩ ⟨rfl,trivial⟩ ?_
  clear bH
  rintro⟨i,c⟩ ⟨ad,bH⟩
  try simp only at ad bH ⊢
  simp only[gH,gI]
  cases aG:args[i]? with
  |none=>
   have cg:=List.getElem?_eq_none_iff.1 aG
   have d1: ¬(i:Int)<(args.length:Int):=by omega
   rw[List.drop_eq_nil_of_le cg]at bH
   simp only[fM,List.flatten_nil,List.append_nil]at bH
   subst bH
   have mM:=f1 F 24 0 (by omega)
   (have ah:=d1;refine bE ?_;clear ah)
   refine D.F ⟨[0],[0]⟩ (mM) ?_
   refine aj ?_
   refine D.r ?_
   exact⟨rfl,⟨rfl,trivial⟩,⟨rfl,trivial⟩⟩
  |some y=>
   have cB:=(List.getElem?_eq_some_iff.1 aG).1
   have d1:(i:Int)<(args.length:Int):=by omega
   rw[fY aG]at bH
   simp only[fM,List.flatten_cons]at bH
   have uJ:=Ap bT ps aT cw (hb cw) y.bJ y (Nat.le_refl _) (Iy ry aG) c (by rw[bH]at sq; simp only[List.length_append]at sq; omega)
   generalize c3 ⟨bT.vars,ps,aT⟩ y=Y at uJ bH
   rw[←List.append_assoc]at bH
   obtain⟨s9,yQ,yP,vM,vL,yO⟩:=y
   simp only[fF,fE,gH,gI]at uJ
   simp(disch:=omega)only[go_sem,simprocAttr]at uJ
   (have ah:=d1;refine bE ?_;clear ah)
   refine D.F ⟨[0],[0]⟩ (uJ) ?_
   refine aj ?_
   refine av.gi (i+1,c++Y) ⟨by omega,bH⟩ ⟨rfl,rfl,rfl,rfl,rfl,by simp only[Int.natCast_add]; rfl,trivial⟩ ⟨rfl,trivial⟩ ⟨rfl,trivial⟩ (by show args.length-(i+1)<args.length-i; omega)
 |cons q2 wt=>
  simp only[og]at aC ⊢
  simp only[jE,Bool.and_eq_true]at x4
  have wl:=Ap bT ps aT cw (hb cw) q2.bJ q2 (Nat.le_refl _) x4.1 code
  generalize c3 ⟨bT.vars,ps,aT⟩ q2=W at wl aC ⊢
  rw[←List.append_assoc]
  simp only[List.length_append,List.length_cons,List.length_nil]at aC
  have wl:=wl (by omega)
  have Ol:=f1 (code++W) 24 0 (by rw[List.length_append]; omega)
  have V5:=pO (code++W++[ins 24 0])
  have wE:((code.length+(W++[ins 24 0]).length:Nat):Int)=((code++W++[ins 24 0]).length:Int):=by
   simp only[List.length_append,List.length_cons,List.length_nil,Nat.add_assoc]
  rw[wE]
  have wF:(code++W++[ins 24 0]).length=code.length+W.length+1:=by
   simp only[List.length_append,List.length_cons,List.length_nil]
  clear wE
  generalize code++W++[ins 24 0]=ci at Ol V5 wF ⊢
  obtain⟨F,bH⟩: ∃F,F=ci++(fM ⟨bT.vars,ps,aT⟩ args).flatten:=⟨_,rfl⟩
  have sq:F.length≤1000000000:=by rw[bH,List.length_append]; omega
  rw[←bH]
  have bg5:((wt.map al.row).length:Int)=(wt.length:Int):=by rw[List.length_map]
  have d0:(0:Int)<(wt.length:Int)+1:=by omega
  obtain⟨aM,bn9,bn8,bn6,wn,bn7⟩:=q2
  simp only[fF,fE,gH,gI]at wl
  simp(disch:=omega)only[go_sem,simprocAttr]at wl
  refine aY.intro bb Tryz.func62 Lz ?_
  unfold rn Jb
  simp(disch:=omega)only[go_sem,simprocAttr]
  (have ah:=d0;have z2:=bg5;have z3:=And.intro @Int.natCast_add @Int.cast_ofNat_Int;refine dE ?_;clear ah z2 z3)
  refine D.mU ?_
  (have ah:=V4;refine bE ?_;clear ah)
  refine D.F ⟨[0],[0]⟩ (wl) ?_
  refine aj ?_
  refine D.F ⟨[0],[0]⟩ (Ol) ?_
  refine aj ?_
  refine D.mU ?_
  (have ah:=dK;have z2:=V5;refine eM ?_;clear ah z2)
  refine av.c5 (X:=Nat×List bK) (0,ci) (fun q=>[(0,.ptr 0 0),(4,.int .i64 (code.length:Int)),(5,.int .i64 (ci.length:Int)),(31,.af 6 (args.map al.row)),(32,.int .i64 (args.length:Int)),(33,.int .i64 (q.1:Int))]) (fun q=>[(0,151,gH ⟨bT,ps,aT,cw,q.2⟩)]) (fun q=>gI ⟨bT,ps,aT,cw,q.2⟩) (fun q=>q.1≤args.length∧F=q.2++(fM ⟨bT.vars,ps,aT⟩ (args.drop q.1)).flatten) (fun q=>args.length-q.1) ⟨Nat.zero_le _,bH⟩ ⟨rfl,rfl,rfl,rfl,by simp only[Env.get,dK]; rfl,rfl,trivial⟩ ⟨rfl,trivial⟩ ⟨rfl,trivial⟩ ?_
  clear bH
  rintro⟨i,c⟩ ⟨ad,bH⟩
  try simp only at ad bH ⊢
  simp only[gH,gI]
  cases aG:args[i]? with
  |none=>
   have cg:=List.getElem?_eq_none_iff.1 aG
   have d1: ¬(i:Int)<(args.length:Int):=by omega
   rw[List.drop_eq_nil_of_le cg]at bH
   simp only[fM,List.flatten_nil,List.append_nil]at bH
   subst bH
   have mM:=f1 F 24 0 (by omega)
   (have ah:=d1;refine bE ?_;clear ah)
   refine D.F ⟨[0],[0]⟩ (mM) ?_
   refine aj ?_
   refine D.r ?_
   exact⟨rfl,⟨rfl,trivial⟩,⟨rfl,trivial⟩⟩
  |some y=>
   have cB:=(List.getElem?_eq_some_iff.1 aG).1
   have d1:(i:Int)<(args.length:Int):=by omega
   rw[fY aG]at bH
   simp only[fM,List.flatten_cons]at bH
   have uJ:=Ap bT ps aT cw (hb cw) y.bJ y (Nat.le_refl _) (Iy ry aG) c (by rw[bH]at sq; simp only[List.length_append]at sq; omega)
   generalize c3 ⟨bT.vars,ps,aT⟩ y=Y at uJ bH
   rw[←List.append_assoc]at bH
   obtain⟨s9,yQ,yP,vM,vL,yO⟩:=y
   simp only[fF,fE,gH,gI]at uJ
   simp(disch:=omega)only[go_sem,simprocAttr]at uJ
   (have ah:=d1;refine bE ?_;clear ah)
   refine D.F ⟨[0],[0]⟩ (uJ) ?_
   refine aj ?_
   refine av.gi (i+1,c++Y) ⟨by omega,bH⟩ ⟨rfl,rfl,rfl,rfl,rfl,by simp only[Int.natCast_add]; rfl,trivial⟩ ⟨rfl,trivial⟩ ⟨rfl,trivial⟩ (by show args.length-(i+1)<args.length-i; omega)
end
end Go.aO.T.N
