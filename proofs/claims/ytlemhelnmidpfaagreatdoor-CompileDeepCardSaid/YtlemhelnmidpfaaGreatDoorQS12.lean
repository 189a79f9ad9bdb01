/- Part of a proof; own work. -/
import Derived.Test.YtlemhelnmidpfaaGreatDoorProg
import Derived.KernelRfl
import Derived.Test.YtlemhelnmidpfaaGreatDoorQS11
set_option linter.unusedVariables false
set_option linter.unusedSimpArgs false
set_option maxHeartbeats 8000000
namespace Go.aO
open Go
section
variable {P:Program}{aS:List bc}{c8 t0:Nat}{k:List gm}{Q:Out→aQ→Prop}{env:Env}{c:aQ}
theorem av.Fo (p o size:Nat){T:TypeId}{cs:List I}(hb:c.H.aZ p=some (T,cs)) (ao:cs[o]? =some .aD) (h:av P aS c8 t0 k Q env (c.cp p T (cs.set o (.af size [])))):av P aS c8 t0 k Q env c:=fun H0 eP s bd H R aW ht hs he ac ak=>by
 obtain⟨x,cE,b0,cN,du⟩:=ac.aZ p T cs hb
 have mC:cE[o]? =some .aD:=by
  obtain⟨v,ar,ax⟩:=du.get o _ ao
  simp only[aN]at ax
  rw[ar,ax]
 refine cF.conv (fun cI aB=>cI=bd∧aB=H.cp x T (cE.set o (.af size []))) ?_ ?_
 ·intro m eO be
  subst eO
  obtain⟨l,qf,jC,uV⟩:=be.aZ x T cE cN
  obtain⟨v,sw,oX⟩:=jC.get o _ mC
  have v1:aP m (.af size []) v:=bh.nil m v oX
  have qg:=jC.set o v1
  rw[zO sw]at qg
  have cL:=b9.ju be (w':=m.w) (b:=x) (T:=T) cN rfl rfl rfl rfl (fun _ _=>rfl) qf qg uV
  have ax:=b8.ju be (w':=m.w) (b:=x) (T:=T) (cs:=cE.set o (.af size [])) cN rfl rfl rfl rfl (fun _ _=>rfl)
  exact⟨bd,_,_,_,⟨rfl,rfl⟩,cL,ax,fun j v ae=>aP.aI ax _ _ ae⟩
 ·rintro cI aB ⟨rfl,rfl⟩
  refine h H0 eP s _ _ R aW ht hs he (ac.cp b0 ?_) ak
  exact bk.E6 du o ((I.lX _ (by simp only[I.flat]; rfl) _).2 rfl)
end
section
variable {P:Program}{anns:List I}{l:List bY}{env:Env}{c:aQ}{K:Env→aQ→Prop}{Rp:I→aQ→Prop}{f:FuncId}{args:List aJ}{eg:List I}{v:I}{others:List Nat}
theorem D.Wa {d b4 bj b tk:Nat}(s:bC){T:TypeId}{cs:List I}{o:cb}{fX kM jZ:fl}{fZ kW lL:fm}{n q:Nat}(h:aY P f eg (aQ.of n q fX fZ) (dR v kM kW)) (aw:au P anns l ((d,v)::env) (aQ.of b4 bj jZ lL) K Rp)
  (hs:(c.cp b T cs).cj tk o=aQ.of b4 bj jZ lL) (j3:(Nat.blt b c.b4&&(Nat.blt tk c.bj&&(ed c.b4 c.bj cs&&kd o.lU)))=true)
  (hu:c.li s kM kW=aQ.of b4 bj jZ lL:=by simp (disch:=omega) only[go_sem,simprocAttr]<;>with_reducible rfl)
  (aq:(s.b.length==n&&(s.t.length==q&&(nodupB s.b&&(nodupB s.t&&(s.b.all (fun x=>Nat.blt x c.b4)&&(s.t.all (fun x=>Nat.blt x c.bj)&&(ed n q eg&&(fA n q fX&&(fB n q fZ&&(fA n q kM&&(fB n q kW&&v.flat)))))))))))=true:=by simp (disch:=omega) only[go_sem,simprocAttr]<;>rfl) (fa:ox c.H.aZ s fX:=by repeat first|exact trivial|refine⟨rfl,?_⟩) (dF:oy c.H.tok s fZ:=by repeat first|exact trivial|refine⟨rfl,?_⟩) (aL:args.map (bp env)=fw s eg:=by simp (disch:=omega) only[go_sem,simprocAttr]<;>rfl)
  (ao:nQ c.H.aZ env jZ others:=by repeat first|exact trivial|refine⟨⟨_,_,_,by simp (disch:=omega) only[go_sem,simprocAttr]<;>with_reducible rfl,rfl,rfl,by simp (disch:=omega) only[go_sem,simprocAttr]<;>rfl⟩,?_⟩):au P anns (⟨some d,none,.gN others f args⟩::l) env c K Rp:=by
 simp only[Bool.and_eq_true,beq_iff_eq]at aq j3
 obtain⟨c1,ci,fc,ha,k6,ls,oo,ph,nl,y6,FO,nk⟩:=aq
 obtain⟨bf,bi,cz,eu⟩:=j3
 have bH:aY P f (args.map (bp env)) c (ng v ((c.cp b T cs).cj tk o)):=by
  rw[aL,hs,←hu]
  have:=aY.p2 (c:=c) s h c1 ci (by rw[fc,ha,k6,ls]; rfl) fa dF (by rw[oo,ph,nl]; rfl) (by rw[y6,FO,tJ _ nk]; rfl) rfl
  rwa [tK _ nk]at this
 refine au.qR rfl rfl (ik.Y8 (others:=others) bH bf bi cz eu nk (fun j bx=> ?_)) fun bI cV ⟨ar,ax⟩=>by rw[ar,ax,hs]; exact aw
 obtain⟨b1,cO,cE,g1,g2,g3,g4⟩:=nQ.get ao j bx
 exact⟨b1,cO,cE,g1,g2,by rw[hs]; exact g3,g4⟩
end
end Go.aO
namespace Go.aO.T.N
open Go Go.aO Go.Proofs Go.RowKit
set_option maxRecDepth 100000
attribute [local irreducible] Go.aO.av Go.aO.au Go.aO.aY
section
attribute [local go_sem] ba.row db eH dp eS of_flat b6 cR eE et er eG ds dw df cH Fd.row dn dz cD.row dr.row bs.row al.cr ai.cr al.ch ai.ch al.ew ai.ew
attribute [local go_sem] fR bK.row gH gI fF fE jW.add uz eZ
theorem ay7 {l:List Fd}{i:Nat}{f:Fd}(h:l[i]? =some f):((l.take (i+1)).map Fd.kind).map cH=((l.take i).map Fd.kind).map cH++[[.int .i64 f.kind]]:=by
 rw[List.take_add_one,h,Option.toList_some,List.map_append,List.map_append]
 rfl
theorem a97 (bT:b3) (ae:bT.vars.length≤1000000000000) (h:bL) (d:bs) (hp:h.ps.length≤1000000000000) (hf:d.fields.length≤1000000) (N:Nat) (cW:ai.bz h.body≤N) (aj1:N≤1000000) (a7:pC ⟨bT.vars,h.ps,d.fields.map Fd.kind⟩ h.body=true) (cw:Bool) (code:List bK) (aC:code.length+(dS ⟨bT.vars,h.ps,d.fields.map Fd.kind⟩ code.length h.body).length≤1000000000):
  aY Tryz.prog 61 [.ptr 0 0,.agg (bL.row h),.agg (bs.row d)] (fF ⟨bT,[],[],cw,code⟩) (fE (.int .i64 (code.length:Int)) ⟨bT,[],[],cw||gO 0 h.body,code++dS ⟨bT.vars,h.ps,d.fields.map Fd.kind⟩ code.length h.body++[ins 24 0]⟩):=by
 have hb: ∀cw code,vQ ⟨bT,h.ps,d.fields.map Fd.kind,cw,code⟩:=fun cw code=>⟨ae,hp,by simp only[List.length_map]; omega⟩
 have kP:=a34 bT h.ps (d.fields.map Fd.kind) hb N h.body cW aj1 a7 cw 0 code (by omega) aC
 have mM:=yG ⟨bT,h.ps,d.fields.map Fd.kind,cw||gO 0 h.body,code++dS ⟨bT.vars,h.ps,d.fields.map Fd.kind⟩ code.length h.body⟩ 24 0 (by simp only[List.length_append]; omega)
 simp only[jW.add]at mM
 generalize dS ⟨bT.vars,h.ps,d.fields.map Fd.kind⟩ code.length h.body=B at kP mM ⊢
 generalize (cw||gO 0 h.body)=Gt at kP mM ⊢
 obtain⟨ap6,ar0,qh,Bq⟩:=h
 obtain⟨ja,b2,fst,ep,eqs⟩:=d
 simp only at hf kP mM ⊢
 have pO:((code.map bK.row).length:Int)=(code.length:Int):=by rw[List.length_map]
 have nO:((b2.map Fd.row).length:Int)=(b2.length:Int):=by rw[List.length_map]
 clear hb aC a7 cW
 simp only[fF,fE,gH,gI]at kP mM ⊢
 refine aY.intro bb Tryz.func61 YS ?_
 unfold wi Um
 simp(disch:=omega)only[go_sem,simprocAttr]
 refine aj ?_
 refine D.mU ?_
 (have ah:=pO;have z2:=nO;refine eM ?_;clear ah z2)
 refine av.ou 0 8 1 3 (T:=151) rfl rfl (by decide) ?_
 simp(disch:=omega)only[go_sem,simprocAttr]
 refine av.c5 (X:=Nat) 0 (fun i=>[(0,.ptr 0 0),(4,.ptr 1 0),(5,.ptr 2 0),(7,.int .i64 (code.length:Int)),(24,.af 4 (b2.map Fd.row)),(25,.int .i64 (b2.length:Int)),(26,.int .i64 (i:Int))]) (fun i=>[(0,151,[.str bT.name,.str bT.bM,.str bT.gJ,.af 7 (bT.vars.map ba.row),.af 4 (bT.hs.map bL.row),.af 4 (bT.os.map cf.row),.c6 0 code.length,.af 1 (qh.map b6),.own 1 1 (((b2.take i).map Fd.kind).map cH),.bool cw]),(1,84,[.str ap6,.str ar0,.af 1 (qh.map b6),.af 11 (Bq.map ai.row)]),(2,72,bs.row ⟨ja,b2,fst,ep,eqs⟩)]) (fun i=>[(0,.bA 64 3 code.length (code.map bK.row)),(1,.bX 3 1 (((b2.take i).map Fd.kind).map cH).length)]) (fun i=>i≤b2.length) (fun i=>b2.length-i) (Nat.zero_le _) ⟨rfl,rfl,rfl,rfl,rfl,by simp only[Env.get,nO]; rfl,rfl,trivial⟩ ⟨rfl,rfl,rfl,trivial⟩ ⟨rfl,rfl,trivial⟩ ?_
 rintro i ad
 try simp only at ad ⊢
 cases aG:b2[i]? with
 |some f=>
  have cB:=(List.getElem?_eq_some_iff.1 aG).1
  have d1:(i:Int)<(b2.length:Int):=by omega
  have gP:(((b2.take i).map Fd.kind).map cH).length≤1000000:=by simp only[List.length_map,List.length_take]; omega
  have aw:=ay7 aG
  generalize ((b2.take i).map Fd.kind).map cH=rows at gP aw ⊢
  (have ah:=d1;refine bE ?_;clear ah)
  refine D.hQ ?_
  refine aj ?_
  refine av.gi (i+1) (by show i+1≤b2.length; omega) ⟨rfl,rfl,rfl,rfl,rfl,rfl,by simp only[Int.natCast_add]; rfl,trivial⟩ ⟨by rw[aw]; rfl,rfl,rfl,trivial⟩ ⟨rfl,by rw[aw,List.length_append]; rfl,trivial⟩ (by show b2.length-(i+1)<b2.length-i; omega)
 |none=>
  have cg:=List.getElem?_eq_none_iff.1 aG
  have d1: ¬(i:Int)<(b2.length:Int):=by omega
  rw[List.take_of_length_le cg]
  refine av.Kj 0 8 1 1 (T:=151) rfl rfl (eE _) ?_
  simp(disch:=omega)only[go_sem,simprocAttr]
  (have ah:=d1;refine bE ?_;clear ah)
  refine D.F ⟨[0],[0]⟩ (kP) ?_
  refine aj ?_
  refine D.F ⟨[0],[0]⟩ (mM) ?_
  refine aj ?_
  refine av.Fo 0 7 1 (T:=151) rfl rfl ?_
  simp(disch:=omega)only[go_sem,simprocAttr]
  refine av.Fo 0 8 1 (T:=151) rfl rfl ?_
  simp(disch:=omega)only[go_sem,simprocAttr]
  refine D.r ?_
  exact⟨rfl,⟨rfl,trivial⟩,⟨rfl,trivial⟩⟩
end
section
attribute [local go_sem] ba.row db eH dp eS of_flat b6 cR eE et er eG ds dw df cH Fd.row dn dz cD.row dr.row bs.row al.cr ai.cr al.ch ai.ch al.ew ai.ew
attribute [local go_sem] fR bK.row gH gI fF fE jW.add uz eZ
theorem a95 (g:cd) (n:bF) (ac:g.cC.length≤1000000000000):Pure Tryz.prog 59 [g.cQ,.str n] (.int .i64 (eJ g.cC n)):=by
 have ax:Pure Tryz.prog 93 [.af 1 (g.cC.map b6),.str n] (.int .i64 (eJ g.cC n)):=zZ g.cC n (by unfold maxLen; omega)
 generalize eJ g.cC n=z at ax ⊢
 simp only[cd.cQ,cd.cells]
 refine cM bb Tryz.func59 YR (by simp only[b7,I.flat,cR,df,ds,dw,Bool.and_self]) rfl ?_
 unfold xG Uk
 simp(disch:=omega)only[go_sem,simprocAttr]
 refine aj ?_
 refine D.P (ax) ?_
 refine aj ?_
 exact D.rx
theorem a33 (n:bF) (d:bs):aY Tryz.prog 140 [.agg (bs.row d),.ptr 0 0] (aQ.of 1 0 [(0,9,[.str n])] []) (dR (.bool (decide (d.name=n))) [(0,9,[.str n])] []):=by
 refine aY.intro bb Tryz.func140 Xc ?_
 unfold MH SD
 simp(disch:=omega)only[go_sem,simprocAttr]
 refine aj ?_
 refine D.r ?_
 exact⟨rfl,⟨rfl,trivial⟩,trivial⟩
theorem ax0:di Tryz.prog 140=true:=by kernel_rfl
theorem a96 (g:cd) (n:bF) (br:g.decls.length≤1000000000000):Pure Tryz.prog 60 [g.cQ,.str n] (.int .i64 (jn g n)):=by
 have e:=JZ (T:=9) (cs:=[.str n]) ax0 rfl rfl (fun d=>decide (d.name=n)) g.decls br fun d _=>a33 n d
 rw[show dt (fun v=> !(fun d:bs=>decide (d.name=n)) v) g.decls 0=jn g n from rfl]at e
 generalize jn g n=z at e ⊢
 simp only[cd.cQ,cd.cells]
 refine cM bb Tryz.func60 FV (by simp only[b7,I.flat,cR,df,ds,dw,Bool.and_self]) rfl ?_
 unfold zn Ul
 simp(disch:=omega)only[go_sem,simprocAttr]
 refine aj ?_
 refine D.F ⟨[1],[]⟩ (e) ?_
 refine aj ?_
 exact D.rx
end
section
attribute [local go_sem] ba.row db eH dp eS of_flat b6 cR eE et er eG ds dw df cH Fd.row dn dz cD.row dr.row bs.row al.cr ai.cr al.ch ai.ch al.ew ai.ew
attribute [local go_sem] fR bK.row uz eZ
structure KA (x:b3) (g:cd):Prop where
 hs: ∀h∈x.hs,(0≤jn g h.c7∧jn g h.c7<g.decls.length)∧pC ⟨x.vars,h.ps,kl g h.c7⟩ h.body=true∧h.ps.length≤1000000∧ai.bz h.body≤1000000
 os: ∀o∈x.os,jE ⟨x.vars,[],[]⟩ o.args=true∧jE ⟨x.vars,[],[]⟩ o.dk=true∧o.args.length≤1000000∧o.dk.length≤1000000
 b2: ∀d∈g.decls,d.fields.length≤1000000
 cl:(iZ x g).length≤1000000000
 kn:x.vars.length≤1000000
 l5:x.hs.length≤1000000
 no:x.os.length≤1000000
def Dl (x:b3) (g:cd) (z7:Int) (af hs os:List (List I)) (code:List bK) (cw:Bool):fl:=[(0,48,[.str x.name,.str x.bM,.str x.gJ,.af 7 (x.vars.map ba.row),.af 4 (x.hs.map bL.row),.af 4 (x.os.map cf.row)]),(1,32,[.str g.name,.af 1 (g.cC.map b6),.af 5 (g.decls.map bs.row),.int .i64 g.iI,.int .i64 g.start,.int .i64 g.fin,.af 6 (g.cy.map cD.row),.af 3 (g.fH.map dr.row)]),(2,40,[.str [],.int .i64 0,.aD,.aD,.aD,.aD]),(3,151,[.str x.name,.str x.bM,.str x.gJ,.af 7 (x.vars.map ba.row),.af 4 (x.hs.map bL.row),.af 4 (x.os.map cf.row),.c6 0 code.length,.af 1 [],.af 1 [],.bool cw]),(4,40,[.str x.name,.int .i64 z7,.own 1 7 af,.own 2 3 hs,.own 3 4 os,.aD])]
def Fc (af hs os:List (List I)) (code:List bK):fm:=[(0,.bA 64 3 code.length (code.map bK.row)),(1,.bX 152 7 af.length),(2,.bX 58 3 hs.length),(3,.bX 62 4 os.length)]
def DP (l:List (Nat×I)):Env:=(2,.ptr 0 0)::(3,.ptr 1 0)::(4,.ptr 2 0)::(8,.ptr 3 0)::(9,.ptr 4 0)::l
theorem hB (l:List (Int×Int×Int)):eN (l.map dI)=true:=lW (fun _=>rfl) l
theorem ie (l:List (Int×Int×Int×Int)):eN (l.map eI)=true:=lW (fun _=>rfl) l
attribute [local go_sem] hB ie dI eI Dl Fc DP
theorem a50 (x:b3) (g:cd) (hb:jw x) (a7:kp g) (ac:(kf x g).2=0→KA x g):Pure Tryz.prog 20 [x.cQ,g.cQ] (.cT [(jy x g).1.cQ,.int .i64 (jy x g).2]):=by
 have ks:=z6 x g hb a7
 have xG:=fun n=>a95 g n (by have:=a7.Ir; omega)
 have zn:=fun n=>a96 g n (by have:=a7.yi; omega)
 obtain⟨S,ea⟩: ∃S,S=jy x g:=⟨_,rfl⟩
 rw[←ea]
 simp only[jy]at ea
 rcases hC:kf x g with ⟨bi0,ce⟩
 rw[hC]at ks ea ac
 simp only[za]at ks
 simp only at ac ea
 rw[lK]at ks ⊢
 simp only[cd.cQ,cd.cells]at ks xG zn ⊢
 refine Sa bb Tryz.func20 Xw (by simp only[b7,I.flat,db,dp,of_flat,cR,df,ds,dw,Bool.and_self]) ?_
 unfold fS SY
 simp(disch:=omega)only[go_sem,simprocAttr]
 refine aj ?_
 refine D.P (ks) ?_
 by_cases aU:ce=0
 rotate_left
 ·rw[if_neg aU]at ea
  (have ah:=aU;refine bE ?_;clear ah)
  refine D.r ?_
  refine⟨_,rfl,?_⟩
  rw[ea]
  exact .cT (.cons (.agg (.cons (.aM rfl rfl) (.cons (.aM rfl rfl) (.cons .nil (.cons .nil (.cons .nil (.cons .nil .nil))))))) (.cons (.aM rfl rfl) .nil))
 ·obtain⟨eO,Hh,ai8,tN,kn,l5,no⟩:=ac aU
  rw[if_pos aU]at ea
  subst aU
  have Oc:=xG x.bM
  generalize u6:eJ g.cC x.bM=z7 at Oc ea
  have kZ:((x.vars.map ba.row).length:Int)=(x.vars.length:Int):=by rw[List.length_map]
  refine dc ?_
  iterate 1 refine rU ?_
  repeat refine D.jd true true ?_
  iterate 1 refine rU ?_
  repeat refine D.jd true true ?_
  refine av.iU (anns:=[.int .i64 z7]) ?_
  refine dc ?_
  refine D.fL (Oc) ?_
  (have ah:=kZ;refine bE ?_;clear ah)
  refine av.ag9 3 6 3 64 (T:=151) rfl rfl (by decide) ?_
  simp(disch:=omega)only[go_sem,simprocAttr]
  refine av.Fo 3 7 1 (T:=151) rfl rfl ?_
  simp(disch:=omega)only[go_sem,simprocAttr]
  refine av.Fo 3 8 1 (T:=151) rfl rfl ?_
  simp(disch:=omega)only[go_sem,simprocAttr]
  refine av.ou 4 2 7 152 (T:=40) rfl rfl (by decide) ?_
  simp(disch:=omega)only[go_sem,simprocAttr]
  refine av.ou 4 3 3 58 (T:=40) rfl rfl (by decide) ?_
  simp(disch:=omega)only[go_sem,simprocAttr]
  refine av.ou 4 4 4 62 (T:=40) rfl rfl (by decide) ?_
  simp(disch:=omega)only[go_sem,simprocAttr]
  refine av.c5 (X:=Nat) 0 (fun i=>DP [(39,.af 7 (x.vars.map ba.row)),(40,.int .i64 (x.vars.length:Int)),(41,.int .i64 (i:Int))]) (fun i=>Dl x g z7 ((x.vars.take i).map ba.row) [] [] [] false) (fun i=>Fc ((x.vars.take i).map ba.row) [] [] []) (fun i=>i≤x.vars.length) (fun i=>x.vars.length-i) (Nat.zero_le _) ⟨rfl,rfl,rfl,rfl,rfl,rfl,by simp only[Env.get,kZ]; rfl,rfl,trivial⟩ ⟨rfl,rfl,rfl,rfl,rfl,trivial⟩ ⟨rfl,rfl,rfl,rfl,trivial⟩ ?_
  rintro i ad
  try simp only at ad ⊢
  cases aG:x.vars[i]? with
  |some v=>
   have cB:=(List.getElem?_eq_some_iff.1 aG).1
   have d1:(i:Int)<(x.vars.length:Int):=by omega
   have gP:((x.vars.take i).map ba.row).length≤1000000:=by simp only[List.length_map,List.length_take]; omega
   have aw:(x.vars.take (i+1)).map ba.row=(x.vars.take i).map ba.row++[ba.row v]:=by
    rw[List.take_add_one,aG,Option.toList_some,List.map_append]
    rfl
   generalize as0:(x.vars.take i).map ba.row=rows at gP aw ⊢
   have PQ:eN rows=true:=by rw[←as0]; exact db _
   simp(disch:=omega)only[go_sem,simprocAttr]
   (have ah:=d1;refine bE ?_;clear ah)
   refine D.hQ ?_
   refine aj ?_
   refine av.gi (i+1) (by show i+1≤x.vars.length; omega) ⟨rfl,rfl,rfl,rfl,rfl,rfl,rfl,by simp only[Int.natCast_add]; rfl,trivial⟩ ⟨rfl,rfl,rfl,rfl,by rw[aw]; rfl,trivial⟩ ⟨rfl,by rw[aw,List.length_append]; rfl,rfl,rfl,trivial⟩ (by show x.vars.length-(i+1)<x.vars.length-i; omega)
  |none=>
   have cg:=List.getElem?_eq_none_iff.1 aG
   have d1: ¬(i:Int)<(x.vars.length:Int):=by omega
   have ta:((x.hs.map bL.row).length:Int)=(x.hs.length:Int):=by rw[List.length_map]
   rw[List.take_of_length_le cg]
   simp(disch:=omega)only[go_sem,simprocAttr]
   (have ah:=d1;have z2:=ta;refine eM ?_;clear ah z2)
   refine av.c5 (X:=Nat×List (Int×Int×Int)×List bK×Bool) (0,[],[],false) (fun q=>DP [(59,.af 4 (x.hs.map bL.row)),(60,.int .i64 (x.hs.length:Int)),(61,.int .i64 (q.1:Int))]) (fun q=>Dl x g z7 (x.vars.map ba.row) (q.2.1.map dI) [] q.2.2.1 q.2.2.2) (fun q=>Fc (x.vars.map ba.row) (q.2.1.map dI) [] q.2.2.1) (fun q=>q.1≤x.hs.length∧q.2.1.length≤q.1∧(dM x g 0 x.hs).1=q.2.1++(dM x g q.2.2.1.length (x.hs.drop q.1)).1∧(dM x g 0 x.hs).2.1=q.2.2.1++(dM x g q.2.2.1.length (x.hs.drop q.1)).2.1∧(dM x g 0 x.hs).2.2=(q.2.2.2||(dM x g q.2.2.1.length (x.hs.drop q.1)).2.2)) (fun q=>x.hs.length-q.1) ⟨Nat.zero_le _,Nat.le_refl _,rfl,rfl,rfl⟩ ⟨rfl,rfl,rfl,rfl,rfl,rfl,by simp only[Env.get,ta]; rfl,rfl,trivial⟩ ⟨rfl,rfl,rfl,rfl,rfl,trivial⟩ ⟨rfl,rfl,rfl,rfl,trivial⟩ ?_
   rintro⟨i,rows,code,cw⟩ ⟨ad,PR,U,aa,ay⟩
   try simp only at ad PR U aa ay ⊢
   cases aG:x.hs[i]? with
   |some h=>
    have cB:=(List.getElem?_eq_some_iff.1 aG).1
    have d1:(i:Int)<(x.hs.length:Int):=by omega
    rw[fY aG]at U aa ay
    simp only[dM,ly]at U aa ay
    obtain⟨nt,iT,qh,ak1⟩:=eO h (List.mem_of_getElem? aG)
    obtain⟨d,br⟩: ∃d,g.decls[(jn g h.c7).toNat]? =some d:=⟨_,List.getElem?_eq_getElem (by omega)⟩
    have PH:kl g h.c7=d.fields.map Fd.kind:=by simp only[kl,br]
    rw[PH]at iT U aa ay
    have Ht:(dM x g 0 x.hs).2.1.length≤1000000000:=by
     have:=tN
     unfold iZ at this
     simp only at this
     split at this
     ·rename_i Bk
      rw[List.length_append]at Bk
      omega
     ·rw[List.length_append]at this
      omega
    have wi:=a97 x (by omega) h d (by omega) (ai8 d (List.mem_of_getElem? br)) 1000000 ak1 (Nat.le_refl _) iT cw code (by rw[aa]at Ht; simp only[List.length_append]at Ht; omega)
    have GM:=zn h.c7
    have GK:=xG h.peer
    generalize jn g h.c7=xE at GM br nt U
    generalize eJ g.cC h.peer=yv at GK U
    generalize dS ⟨x.vars,h.ps,d.fields.map Fd.kind⟩ code.length h.body=B at wi U aa ay
    have key:(dM x g 0 x.hs).1=(rows++[(yv,xE,(code.length:Int))])++(dM x g (code++B++[ins 24 0]).length (x.hs.drop (i+1))).1∧(dM x g 0 x.hs).2.1=(code++B++[ins 24 0])++(dM x g (code++B++[ins 24 0]).length (x.hs.drop (i+1))).2.1∧(dM x g 0 x.hs).2.2=(cw||gO 0 h.body||(dM x g (code++B++[ins 24 0]).length (x.hs.drop (i+1))).2.2):=by
     have e:code.length+(B++[ins 24 0]).length=(code++B++[ins 24 0]).length:=by simp only[List.length_append,Nat.add_assoc]
     rw[e]at U aa ay
     refine⟨?_,?_,?_⟩
     ·rw[U]; simp only[List.append_assoc,List.cons_append,List.nil_append]
     ·rw[aa]; simp only[List.append_assoc]
     ·rw[ay,Bool.or_assoc]
    clear U aa ay PH iT Ht
    generalize (cw||gO 0 h.body)=Gt at wi key
    have ar6:(rows.map dI).length≤1000000:=by rw[List.length_map]; omega
    obtain⟨hm,bk1,bk3,bj0⟩:=h
    obtain⟨ac2,ac0,ac1,aa6,ab1⟩:=d
    simp only at GM GK
    simp only[fF,fE,gH,gI]at wi
    simp(disch:=omega)only[go_sem,simprocAttr]at wi
    simp(disch:=omega)only[go_sem,simprocAttr]
    (have ah:=d1;refine bE ?_;clear ah)
    refine D.P (GM) ?_
    refine dc ?_
    refine av.iU (anns:=[.int .i64 yv]) ?_
    refine dc ?_
    refine D.fL (GK) ?_
    clear aG
    have Hw:True∧(g.decls)[xE.toNat]? =some ⟨ac2,ac0,ac1,aa6,ab1⟩:=⟨trivial,br⟩
    refine dc ?_
    refine D.Wa (b:=3) (tk:=0) (T:=151) (cs:=[.str x.name,.str x.bM,.str x.gJ,.af 7 (x.vars.map ba.row),.af 4 (x.hs.map bL.row),.af 4 (x.os.map cf.row),.c6 0 (code++B++[ins 24 0]).length,.af 1 [],.af 1 [],.bool Gt]) (o:= .bA 64 3 (code++B++[ins 24 0]).length ((code++B++[ins 24 0]).map bK.row)) ⟨[3],[0]⟩ wi ?_ (by simp (disch:=omega) only[go_sem,simprocAttr]<;>rfl) (by simp (disch:=omega) only[go_sem,simprocAttr]<;>rfl)
    refine dc ?_
    refine D.hQ ?_
    refine aj ?_
    refine av.gi (i+1,rows++[(yv,xE,(code.length:Int))],code++B++[ins 24 0],Gt) ⟨by omega,by simp only[List.length_append,List.length_cons,List.length_nil]; omega,key⟩ ⟨rfl,rfl,rfl,rfl,rfl,rfl,rfl,by simp only[Int.natCast_add]; rfl,trivial⟩ ⟨rfl,rfl,rfl,rfl,by simp only[List.map_append]; rfl,trivial⟩ ⟨rfl,rfl,by simp only[List.map_append,List.length_append]; rfl,rfl,trivial⟩ (by show x.hs.length-(i+1)<x.hs.length-i; omega)
   |none=>
    have cg:=List.getElem?_eq_none_iff.1 aG
    have d1: ¬(i:Int)<(x.hs.length:Int):=by omega
    have rR:((x.os.map cf.row).length:Int)=(x.os.length:Int):=by rw[List.length_map]
    rw[List.drop_eq_nil_of_le cg]at U aa ay
    simp only[dM,List.append_nil,Bool.or_false]at U aa ay
    clear PR
    simp(disch:=omega)only[go_sem,simprocAttr]
    (have ah:=d1;have z2:=rR;refine eM ?_;clear ah z2)
    refine av.c5 (X:=Nat×List (Int×Int×Int×Int)×List bK) (0,[],code) (fun q=>DP [(90,.af 4 (x.os.map cf.row)),(91,.int .i64 (x.os.length:Int)),(92,.int .i64 (q.1:Int))]) (fun q=>Dl x g z7 (x.vars.map ba.row) (rows.map dI) (q.2.1.map eI) q.2.2 cw) (fun q=>Fc (x.vars.map ba.row) (rows.map dI) (q.2.1.map eI) q.2.2) (fun q=>q.1≤x.os.length∧q.2.1.length≤q.1∧(hq x g code.length x.os).1=q.2.1++(hq x g q.2.2.length (x.os.drop q.1)).1∧code++(hq x g code.length x.os).2=q.2.2++(hq x g q.2.2.length (x.os.drop q.1)).2) (fun q=>x.os.length-q.1) ⟨Nat.zero_le _,Nat.le_refl _,rfl,rfl⟩ ⟨rfl,rfl,rfl,rfl,rfl,rfl,by simp only[Env.get,rR]; rfl,rfl,trivial⟩ ⟨rfl,rfl,rfl,rfl,rfl,trivial⟩ ⟨rfl,rfl,rfl,rfl,trivial⟩ ?_
    rintro⟨j,IE,oc⟩ ⟨bx,Ek,bl,bW⟩
    try simp only at bx Ek bl bW ⊢
    have D7:(code++(hq x g code.length x.os).2).length≤1000000000:=by
     have:=tN
     unfold iZ at this
     simp only at this
     rw[aa]at this
     split at this
     ·rename_i Bk
      rw[Bk]
      omega
     ·exact this
    cases aV:x.os[j]? with
    |some o=>
     have cB:=(List.getElem?_eq_some_iff.1 aV).1
     have d2:(j:Int)<(x.os.length:Int):=by omega
     rw[fY aV]at bl bW
     simp only[hq]at bl bW
     obtain⟨eF,eR,mW,yl⟩:=Hh o (List.mem_of_getElem? aV)
     have ak8: ∀cw code,vQ ⟨x,[],[],cw,code⟩:=fun cw code=>⟨by simp only; omega,by simp,by simp⟩
     have rn:=a98 x [] [] ak8 o eF eR mW yl cw oc (by rw[bW]at D7; simp only[List.length_append]at D7; omega)
     have GN:=zn o.c7
     have GL:=xG o.peer
     generalize jn g o.c7=xE at GN bl
     generalize eJ g.cC o.peer=yv at GL bl
     generalize (og ⟨x.vars,[],[]⟩ oc.length o.dk).1=s7 at rn bl
     generalize (og ⟨x.vars,[],[]⟩ oc.length o.dk).2=lN at rn bl bW
     generalize (fM ⟨x.vars,[],[]⟩ o.args).flatten=y1 at rn bl bW
     have key:(hq x g code.length x.os).1=(IE++[(yv,xE,s7,((oc.length+lN.length:Nat):Int))])++(hq x g (oc++lN++y1++[ins 24 0]).length (x.os.drop (j+1))).1∧code++(hq x g code.length x.os).2=(oc++lN++y1++[ins 24 0])++(hq x g (oc++lN++y1++[ins 24 0]).length (x.os.drop (j+1))).2:=by
      have e:oc.length+lN.length+(y1++[ins 24 0]).length=(oc++lN++y1++[ins 24 0]).length:=by simp only[List.length_append,Nat.add_assoc]
      rw[e]at bl bW
      exact⟨by rw[bl]; simp only[List.append_assoc,List.cons_append,List.nil_append],by rw[bW]; simp only[List.append_assoc]⟩
     clear U aa ay bl bW aG D7
     generalize ((oc.length+lN.length:Nat):Int)=be3 at rn key
     generalize oc++lN++y1++[ins 24 0]=aD3 at rn key
     have ar6:(IE.map eI).length≤1000000:=by rw[List.length_map]; omega
     obtain⟨bl7,bl9,bl6,RS⟩:=o
     simp only at GN GL
     simp only[fF,fE,gH,gI]at rn
     simp(disch:=omega)only[go_sem,simprocAttr]at rn
     simp(disch:=omega)only[go_sem,simprocAttr]
     (have ah:=d2;refine bE ?_;clear ah)
     refine D.F ⟨[3],[0]⟩ (rn) ?_
     refine dc ?_
     refine av.iU (anns:=[.int .i64 yv,.int .i64 xE]) ?_
     refine dc ?_
     refine D.fL (GL) ?_
     refine dc ?_
     refine D.fL (GN) ?_
     refine dc ?_
     refine D.hQ ?_
     refine aj ?_
     refine av.gi (j+1,IE++[(yv,xE,s7,be3)],aD3) ⟨by omega,by simp only[List.length_append,List.length_cons,List.length_nil]; omega,key⟩ ⟨rfl,rfl,rfl,rfl,rfl,rfl,rfl,by simp only[Int.natCast_add]; rfl,trivial⟩ ⟨rfl,rfl,rfl,rfl,by simp only[List.map_append]; rfl,trivial⟩ ⟨rfl,rfl,rfl,by simp only[List.map_append,List.length_append]; rfl,trivial⟩ (by show x.os.length-(j+1)<x.os.length-j; omega)
    |none=>
     have an3:=List.getElem?_eq_none_iff.1 aV
     have d2: ¬(j:Int)<(x.os.length:Int):=by omega
     rw[List.drop_eq_nil_of_le an3]at bl bW
     simp only[hq,List.append_nil]at bl bW
     have ss:iZ x g=if oc.length=0 then[ins 24 0] else oc:=by
      unfold iZ
      simp only
      rw[aa,bW]
     rw[U,aa,ay,bl]at ea
     rw[bW]at D7
     cases oc with
     |nil=>
      have Hr:iZ x g=[ins 24 0]:=ss
      rw[Hr]at ea
      have zo:=yG ⟨x,[],[],cw,[]⟩ 24 0 (by simp)
      simp only[fF,fE,gH,gI,jW.add]at zo
      cases cw with
      |true=>
       rw[if_pos (.inr rfl)]at ea
       simp(disch:=omega)only[go_sem,simprocAttr]
       (have ah:=d2;refine bE ?_;clear ah)
       refine D.mU ?_
       refine aj ?_
       refine D.F ⟨[3],[0]⟩ (zo) ?_
       refine aj ?_
       refine D.mU ?_
       refine aj ?_
       refine D.r ?_
       refine⟨_,rfl,?_⟩
       rw[ea]
       exact .cT (.cons (.agg (.cons (.aM rfl rfl) (.cons (.aM rfl rfl) (.cons .nil (.cons .nil (.cons .nil (.cons .nil .nil))))))) (.cons (.aM rfl rfl) .nil))
      |false=>
       rw[if_neg (by simp)]at ea
       simp(disch:=omega)only[go_sem,simprocAttr]
       (have ah:=d2;refine bE ?_;clear ah)
       refine D.mU ?_
       refine aj ?_
       refine D.F ⟨[3],[0]⟩ (zo) ?_
       refine aj ?_
       refine D.mU ?_
       refine aj ?_
       refine D.r ?_
       refine⟨_,rfl,?_⟩
       rw[ea]
       exact .cT (.cons (.agg (.cons (.aM rfl rfl) (.cons (.aM rfl rfl) (.cons (.aM rfl (db _)) (.cons (.aM rfl (hB _)) (.cons (.aM rfl (ie _)) (.cons (.c6 rfl (fR _)) .nil))))))) (.cons (.aM rfl rfl) .nil))
     |cons pU wc=>
      have Hr:iZ x g=pU::wc:=ss
      rw[Hr]at ea
      have eb:((wc.map bK.row).length:Int)=(wc.length:Int):=by rw[List.length_map]
      have d4: ¬(wc.length:Int)+1=0:=by omega
      rw[List.length_cons]at ea
      by_cases D5:1000<wc.length+1
      ·rw[if_pos (.inl D5)]at ea
       have d5:(1000:Int)<(wc.length:Int)+1:=by omega
       simp(disch:=omega)only[go_sem,simprocAttr]
       (have ah:=d2;refine bE ?_;clear ah)
       refine D.mU ?_
       (have ah:=eb;have z2:=d4;have z3:=And.intro @Int.natCast_add @Int.cast_ofNat_Int;refine dE ?_;clear ah z2 z3)
       refine D.mU ?_
       (have ah:=eb;have z2:=d5;have z3:=And.intro @Int.natCast_add @Int.cast_ofNat_Int;refine dE ?_;clear ah z2 z3)
       refine D.r ?_
       refine⟨_,rfl,?_⟩
       rw[ea]
       exact .cT (.cons (.agg (.cons (.aM rfl rfl) (.cons (.aM rfl rfl) (.cons .nil (.cons .nil (.cons .nil (.cons .nil .nil))))))) (.cons (.aM rfl rfl) .nil))
      ·have d5: ¬(1000:Int)<(wc.length:Int)+1:=by omega
       cases cw with
       |true=>
        rw[if_pos (.inr rfl)]at ea
        simp(disch:=omega)only[go_sem,simprocAttr]
        (have ah:=d2;refine bE ?_;clear ah)
        refine D.mU ?_
        (have ah:=eb;have z2:=d4;have z3:=And.intro @Int.natCast_add @Int.cast_ofNat_Int;refine dE ?_;clear ah z2 z3)
        refine D.mU ?_
        (have ah:=eb;have z2:=d5;have z3:=And.intro @Int.natCast_add @Int.cast_ofNat_Int;refine dE ?_;clear ah z2 z3)
        refine D.r ?_
        refine⟨_,rfl,?_⟩
        rw[ea]
        exact .cT (.cons (.agg (.cons (.aM rfl rfl) (.cons (.aM rfl rfl) (.cons .nil (.cons .nil (.cons .nil (.cons .nil .nil))))))) (.cons (.aM rfl rfl) .nil))
       |false=>
        rw[if_neg (show ¬(1000<wc.length+1∨false=true) by rintro (h|h); exact D5 h; cases h)]at ea
        simp(disch:=omega)only[go_sem,simprocAttr]
        (have ah:=d2;refine bE ?_;clear ah)
        refine D.mU ?_
        (have ah:=eb;have z2:=d4;have z3:=And.intro @Int.natCast_add @Int.cast_ofNat_Int;refine dE ?_;clear ah z2 z3)
        refine D.mU ?_
        (have ah:=eb;have z2:=d5;have z3:=And.intro @Int.natCast_add @Int.cast_ofNat_Int;refine dE ?_;clear ah z2 z3)
        refine D.r ?_
        refine⟨_,rfl,?_⟩
        rw[ea]
        exact .cT (.cons (.agg (.cons (.aM rfl rfl) (.cons (.aM rfl rfl) (.cons (.aM rfl (db _)) (.cons (.aM rfl (hB _)) (.cons (.aM rfl (ie _)) (.cons (.c6 rfl (fR _)) .nil))))))) (.cons (.aM rfl rfl) .nil))
end
section
theorem cY.iN {α β:Type}{r:cY α}{f:α→cY β}{b:β}(h:r.bind f= .ok b): ∃a,r= .ok a∧f a= .ok b:=by
 cases r with
 |ok a=>exact⟨a,rfl,h⟩
 |err n e=>cases h
def tW (ck:dL) (m:List UInt8):Bool:=(ck.look m).isSome||(varOf ck.x.vars m).isSome
theorem aD1 {ck:dL}{m:List UInt8}{k:Int}(h:qP ck m= .ok k):tW ck m=true:=by
 unfold qP at h
 unfold tW
 cases U:ck.look m with
 |some q=>rfl
 |none=>
  rw[U]at h
  simp only at h
  cases aa:varOf ck.x.vars m with
  |some v=>rfl
  |none=>rw[aa]at h; cases h
theorem Ch {ck:dL}{cx:fJ}(aW: ∀m,tW ck m=true→qO cx m=true): ∀(N:Nat),(∀(x:al) (k:Int),x.bJ≤N→jo x=true→kk ck x= .ok k→o3 cx x=true)∧(∀(l:List al) (aT:List Int),al.bz l≤N→lx l=true→k8 ck l= .ok aT→jE cx l=true):=by
 intro N
 induction N with
 |zero=>
  refine⟨fun x k h=> ?_,fun l aT h=> ?_⟩
  ·obtain⟨k,o,m,t,n,l⟩:=x; simp only[al.bJ]at h; omega
  ·cases l with
   |nil=>intros; rfl
   |cons x l=>obtain⟨k,o,m,t,n,l⟩:=x; simp only[al.bz,al.bJ]at h; omega
 |succ N bB=>
  obtain⟨BN,sA⟩:=bB
  have ab: ∀(x:al) (k:Int),x.bJ≤N+1→jo x=true→kk ck x= .ok k→o3 cx x=true:=fun x q cW a7 aw=>by
   obtain⟨k,o,m,t,n,l⟩:=x
   simp only[jo,Bool.and_eq_true]at a7
   simp only[kk]at aw
   obtain⟨aT,U,aa⟩:=cY.iN aw
   have aC:=sA l aT (by simp only[al.bJ]at cW; omega) a7.2 U
   have a8:=a7.1
   simp only[o3,aC,Bool.and_true]
   by_cases P9:k=1∨k=2
   ·rw[if_pos P9]
   rw[if_neg P9]
   by_cases cz:k=3
   ·rw[if_pos cz]
    subst cz
    refine aW m (aD1 (k:=q) ?_)
    simpa [qm] using aa
   rw[if_neg cz]
   unfold im at a8
   by_cases wP:k=4∨k=5
   ·rw[if_pos wP]
    rcases wP with rfl|rfl<;>simp_all
   ·rw[if_neg wP]
    simp_all
  refine⟨ab,fun l aT cW a7 aw=> ?_⟩
  induction l generalizing aT with
  |nil=>rfl
  |cons x l x8=>
   simp only[lx,Bool.and_eq_true]at a7
   simp only[k8]at aw
   obtain⟨a,U,aa⟩:=cY.iN aw
   obtain⟨bQ,ay,bl⟩:=cY.iN aa
   simp only[al.bz]at cW
   simp only[jE,Bool.and_eq_true]
   exact⟨ab x a (by omega) a7.1 U,x8 bQ (by omega) a7.2 ay⟩
end
section
theorem sG {b:Bool}{n:List UInt8}{e:Int}{u:Unit}(h:gh b n e= .ok u):b=true:=by
 unfold gh at h
 split at h
 ·assumption
 ·cases h
theorem Kc {l:List ba}{m:List UInt8}(h:(varOf l m).isSome=true):l.any (fun v=>decide (v.name=m))=true:=by
 unfold varOf at h
 rw[List.find?_isSome]at h
 rw[List.any_eq_true]
 exact h
theorem aF0 {ck:dL}{cx:fJ}(ae:cx.vars=ck.x.vars) (aW: ∀m,tW ck m=true→qO cx m=true): ∀(N:Nat),(∀(x:ai),x.bJ≤N→ky x=true→o6 ck x= .ok ()→wV cx x=true)∧(∀(l:List ai),ai.bz l≤N→k7 l=true→jN ck l= .ok ()→pC cx l=true):=by
 intro N
 induction N with
 |zero=>
  refine⟨fun x h=> ?_,fun l h=> ?_⟩
  ·obtain⟨k,m,x,t,a,b⟩:=x; simp only[ai.bJ]at h; omega
  ·cases l with
   |nil=>intros; rfl
   |cons x l=>obtain⟨k,m,x,t,a,b⟩:=x; simp only[ai.bz,ai.bJ]at h; omega
 |succ N bB=>
  obtain⟨BN,sA⟩:=bB
  have ab: ∀(x:ai),x.bJ≤N+1→ky x=true→o6 ck x= .ok ()→wV cx x=true:=fun y cW a7 aw=>by
   obtain⟨k,m,x,t,a,b⟩:=y
   simp only[ky,Bool.and_eq_true]at a7
   obtain⟨g1,g2,g3,g4⟩:=a7
   simp only[o6]at aw
   simp only[wV,Bool.and_eq_true]
   by_cases bf:k=1
   ·rw[if_pos bf]at aw ⊢
    unfold rf at aw
    obtain⟨_,U,aa⟩:=cY.iN aw
    obtain⟨_,ay,bl⟩:=cY.iN aa
    obtain⟨q,bW,eL⟩:=cY.iN bl
    refine⟨(Ch aW x.bJ).1 x q (Nat.le_refl _) g2 bW,?_⟩
    have ar:=sG U
    have bU:=sG ay
    rw[ae]
    refine Kc ?_
    cases aC:(ck.look m).isSome with
    |true=>rw[aC]at bU; cases bU
    |false=>rw[aC,Bool.false_or]at ar; exact ar
   ·rw[if_neg bf]at aw ⊢
    obtain⟨_,U,aa⟩:=cY.iN aw
    obtain⟨_,ay,bl⟩:=cY.iN aa
    have aL:=sA a (by simp only[ai.bJ]at cW; omega) g3 (by cases ‹Unit›; exact ay)
    have hb:=sA b (by simp only[ai.bJ]at cW; omega) g4 (by exact bl)
    refine⟨?_,?_⟩
    ·by_cases bi:k=2
     ·rw[if_pos bi]at U
      obtain⟨q,bW,_⟩:=cY.iN U
      exact (Ch aW x.bJ).1 x q (Nat.le_refl _) g2 bW
     ·rw[if_neg bi]at U
      by_cases cz:k=3
      ·rw[if_pos cz]at U
       obtain⟨q,bW,_⟩:=cY.iN U
       exact (Ch aW x.bJ).1 x q (Nat.le_refl _) g2 bW
      ·unfold gp at g1
       rw[if_neg bf,if_neg bi,if_neg cz]at g1
       cases g1
    ·rw[aL,hb]; rfl
  refine⟨ab,fun l cW a7 aw=> ?_⟩
  induction l with
  |nil=>rfl
  |cons x l x8=>
   simp only[k7,Bool.and_eq_true]at a7
   simp only[jN]at aw
   obtain⟨_,U,aa⟩:=cY.iN aw
   simp only[ai.bz]at cW
   simp only[pC,Bool.and_eq_true]
   exact⟨ab x (by omega) a7.1 U,x8 (by omega) a7.2 aa⟩
end
section
theorem P3 (l:List bF) (s:bF): ∀(k i:Nat),i+k=l.length→qG l s k i<l.length
 |0,i,h=>by simp only[qG]; omega
 |k+1,i,h=>by
  have bB:=P3 l s k (i+1) (by omega)
  simp only[qG]
  split<;>omega
theorem R5 (l:List bF) (s:bF):eJ l s<l.length:=P3 l s l.length 0 (by omega)
theorem aI5 {l:List bF}{s:bF}(h:s∈l):0≤eJ l s:=by
 have:=H3 l s l.length 0 (by omega)
 rw[List.drop_zero]at this
 have aa:l.contains s=true:=by simpa using h
 rw[aa,decide_eq_true_eq]at this
 exact this
theorem Qv {n m:bF}{k:Int}: ∀(l:List (bF×Int)),(k9 n (l++[(m,k)])).isSome=true→(k9 n l).isSome=true∨n=m
 |[],h=>by
  simp only[List.nil_append,k9]at h
  split at h
  ·exact .inr (by assumption)
  ·cases h
 |p::l,h=>by
  simp only[List.cons_append,k9]at h ⊢
  split at h
  ·rename_i e
   exact .inl (by rw[if_pos e]; rfl)
  ·rename_i e
   rw[if_neg e]
   exact Qv l h
theorem RV {vars:List ba}{n:bF}: ∀(ps:List bF) (b2:List Fd) (acc m:List (bF×Int)),oE vars acc ps b2= .ok m→(k9 n m).isSome=true→(k9 n acc).isSome=true∨n∈ps
 |[],b2,acc,m,h,hm=>by
  simp only[oE]at h
  cases h
  exact .inl hm
 |p::ps,[],acc,m,h,hm=>by
  simp only[oE]at h
  cases h
  exact .inl hm
 |p::ps,f::b2,acc,m,h,hm=>by
  simp only[oE]at h
  obtain⟨_,U,aa⟩:=cY.iN h
  rcases RV ps b2 _ m aa hm with ay|ay
  ·rcases Qv acc ay with bl|bl
   ·exact .inl bl
   ·exact .inr (by rw[bl]; simp)
  ·exact .inr (List.mem_cons_of_mem _ ay)
theorem ak4 {ck:dL}{ps:List bF}{b2:List Fd}{m:List (bF×Int)}(hp:oE ck.x.vars [] ps b2= .ok m) (aC:ps.length=b2.length): ∀n,tW {ck with ps:=some m} n=true→qO ⟨ck.x.vars,ps,b2.map Fd.kind⟩ n=true:=fun n h=>by
 unfold qO
 simp only
 by_cases aG:0≤eJ ps n
 ·rw[if_pos aG]
  have:=R5 ps n
  simp only[List.length_map,decide_eq_true_eq]
  omega
 ·rw[if_neg aG]
  unfold tW at h
  simp only[Bool.or_eq_true]at h
  rcases h with h|h
  ·exfalso
   rcases RV ps b2 [] m hp (show (k9 n m).isSome=true from h) with aa|aa
   ·cases aa
   ·exact aG (aI5 aa)
  ·exact Kc h
theorem RG {ck:dL}(aU:ck.ps=none): ∀n,tW ck n=true→qO ⟨ck.x.vars,[],[]⟩ n=true:=fun n h=>by
 unfold tW dL.look at h
 rw[aU]at h
 simp only[Option.isSome_none,Bool.false_or]at h
 unfold qO
 rw[if_neg (by have:=R5 ([]:List bF) n; simp only[List.length_nil]at this; simp only; omega)]
 exact Kc h
end
section
theorem Pc {ck:dL}: ∀(l ahead:List bL),mP ck ahead l= .ok ()→∀h∈l,∃a,ki ck a h= .ok ()
 |[],_,_,h,hm=>by cases hm
 |x::l,ahead,e,h,hm=>by
  simp only[mP]at e
  obtain⟨_,U,aa⟩:=cY.iN e
  rcases List.mem_cons.1 hm with rfl|hm
  ·exact⟨ahead,U⟩
  ·exact Pc l _ aa h hm
theorem RI {ck:dL}: ∀(l:List cf),nE ck l= .ok ()→∀o∈l,nD ck o= .ok ()
 |[],_,h,hm=>by cases hm
 |x::l,e,h,hm=>by
  simp only[nE]at e
  obtain⟨_,U,aa⟩:=cY.iN e
  rcases List.mem_cons.1 hm with rfl|hm
  ·exact U
  ·exact RI l aa h hm
theorem aB5 {ck:dL}{path peer:bF}{va:Bool}{d:bs}(h:qL ck path peer va= .ok d):0≤jn ck.g path∧0≤eJ ck.g.cC peer∧ck.g.decls[(jn ck.g path).toNat]? =some d:=by
 unfold qL at h
 obtain⟨_,U,aa⟩:=cY.iN h
 obtain⟨_,ay,bl⟩:=cY.iN aa
 obtain⟨_,bW,eL⟩:=cY.iN bl
 refine⟨by simpa using sG U,by simpa using sG ay,?_⟩
 cases br:ck.g.decls[(jn ck.g path).toNat]? with
 |some e=>rw[br]at eL; cases eL; rfl
 |none=>rw[br]at eL; cases eL
theorem ak6 {ck:dL}{a:List bL}{h:bL}(e:ki ck a h= .ok ()) (a7:k7 h.body=true):(0≤jn ck.g h.c7∧jn ck.g h.c7<ck.g.decls.length)∧pC ⟨ck.x.vars,h.ps,kl ck.g h.c7⟩ h.body=true:=by
 unfold ki at e
 obtain⟨d,U,aa⟩:=cY.iN e
 obtain⟨m1,m2,m3⟩:=aB5 U
 obtain⟨_,ay,bl⟩:=cY.iN aa
 obtain⟨_,bW,eL⟩:=cY.iN bl
 obtain⟨m,uN,rs⟩:=cY.iN eL
 have aC:h.ps.length=d.fields.length:=by simpa using sG bW
 have cB:=(List.getElem?_eq_some_iff.1 m3).1
 refine⟨⟨m1,by omega⟩,?_⟩
 rw[show kl ck.g h.c7=d.fields.map Fd.kind by simp only[kl,m3]]
 exact (aF0 (ck:={ck with ps:=some m}) (cx:=⟨ck.x.vars,h.ps,d.fields.map Fd.kind⟩) rfl (ak4 uN aC) (ai.bz h.body)).2 h.body (Nat.le_refl _) a7 rs
theorem KY {ck:dL}{cx:fJ}{c7:bF}(aW: ∀m,tW ck m=true→qO cx m=true): ∀(l:List al) (b2:List Fd),l.length=b2.length→lx l=true→lT ck c7 l b2= .ok ()→jE cx l=true
 |[],_,_,_,_=>rfl
 |x::l,[],h,_,_=>by cases h
 |x::l,f::b2,h,a7,e=>by
  simp only[lT]at e
  obtain⟨k,U,aa⟩:=cY.iN e
  obtain⟨_,ay,bl⟩:=cY.iN aa
  simp only[lx,Bool.and_eq_true]at a7
  simp only[jE,Bool.and_eq_true]
  exact⟨(Ch aW x.bJ).1 x k (Nat.le_refl _) a7.1 U,KY aW l b2 (by simpa using h) a7.2 bl⟩
theorem VP {ck:dL}{cx:fJ}(aW: ∀m,tW ck m=true→qO cx m=true): ∀(l:List al),lx l=true→nN ck l= .ok ()→jE cx l=true
 |[],_,_=>rfl
 |x::l,a7,e=>by
  simp only[nN]at e
  obtain⟨k,U,aa⟩:=cY.iN e
  obtain⟨_,ay,bl⟩:=cY.iN aa
  simp only[lx,Bool.and_eq_true]at a7
  simp only[jE,Bool.and_eq_true]
  exact⟨(Ch aW x.bJ).1 x k (Nat.le_refl _) a7.1 U,VP aW l a7.2 bl⟩
theorem aE7 {ck:dL}(aU:ck.ps=none){o:cf}(e:nD ck o= .ok ()) (U:lx o.args=true) (aa:lx o.dk=true):jE ⟨ck.x.vars,[],[]⟩ o.args=true∧jE ⟨ck.x.vars,[],[]⟩ o.dk=true:=by
 unfold nD at e
 obtain⟨d,ar,ax⟩:=cY.iN e
 obtain⟨_,bU,dl⟩:=cY.iN ax
 obtain⟨_,gn,mw⟩:=cY.iN dl
 exact⟨KY (RG aU) _ _ (by simpa using sG bU) U gn,VP (RG aU) _ aa mw⟩
end
section
theorem F5 {cx:fJ}: ∀(N:Nat),(∀(x:al),x.bJ≤N→(c3 cx x).length≤3*x.bJ)∧(∀(l:List al),al.bz l≤N→(fM cx l).flatten.length≤3*al.bz l):=by
 intro N
 induction N with
 |zero=>
  refine⟨fun x h=> ?_,fun l h=> ?_⟩
  ·obtain⟨k,o,m,t,n,l⟩:=x; simp only[al.bJ]at h; omega
  ·cases l with
   |nil=>simp [fM]
   |cons x l=>obtain⟨k,o,m,t,n,l⟩:=x; simp only[al.bz,al.bJ]at h; omega
 |succ N bB=>
  obtain⟨BN,sA⟩:=bB
  have ab: ∀(x:al),x.bJ≤N+1→(c3 cx x).length≤3*x.bJ:=fun x cW=>by
   obtain⟨k,o,m,t,n,l⟩:=x
   simp only[al.bJ]at cW ⊢
   have aC:=sA l (by omega)
   have an6:((fM cx l).headD []).length≤3*al.bz l:=by
    cases bw:fM cx l with
    |nil=>simp
    |cons a b=>rw[bw]at aC; simp only[List.flatten_cons,List.length_append]at aC; simp only[List.headD_cons]; omega
   have bi8:(ml o (w8 cx l) (fM cx l)).length≤3*al.bz l+2:=by
    generalize fM cx l=q at aC
    match q,aC with
    |[],_=>simp [ml]
    |[a],_=>simp [ml]
    |a::b::r,aC=>
     simp only[List.flatten_cons,List.length_append]at aC
     simp only[ml,List.length_append,List.length_cons]
     split<;>split<;>simp only[List.length_append,List.length_cons,List.length_nil]<;>omega
   simp only[c3]
   repeat' split
   all_goals first
    |(simp only[List.length_append,List.length_cons,List.length_nil]; omega)
    |omega
  refine⟨ab,fun l cW=> ?_⟩
  induction l with
  |nil=>simp [fM]
  |cons x l x8=>
   simp only[al.bz]at cW ⊢
   have U:=ab x (by omega)
   have aa:=x8 (by omega)
   simp only[fM,List.flatten_cons,List.length_append]
   omega
end
section
theorem ZD {cx:fJ}: ∀(N:Nat),(∀(x:ai) (p:Nat),x.bJ≤N→(hT cx p x).length≤6*x.bJ)∧(∀(l:List ai) (p:Nat),ai.bz l≤N→(dS cx p l).length≤6*ai.bz l):=by
 intro N
 induction N with
 |zero=>
  refine⟨fun x p h=> ?_,fun l p h=> ?_⟩
  ·obtain⟨k,m,x,t,a,b⟩:=x; simp only[ai.bJ]at h; omega
  ·cases l with
   |nil=>simp [dS]
   |cons x l=>obtain⟨k,m,x,t,a,b⟩:=x; simp only[ai.bz,ai.bJ]at h; omega
 |succ N bB=>
  obtain⟨BN,sA⟩:=bB
  have ab: ∀(x:ai) (p:Nat),x.bJ≤N+1→(hT cx p x).length≤6*x.bJ:=fun y p cW=>by
   obtain⟨k,m,x,t,a,b⟩:=y
   simp only[ai.bJ]at cW ⊢
   have Bm:=(F5 (cx:=cx) x.bJ).1 x (Nat.le_refl _)
   have eh:=fun p=>sA a p (by omega)
   have fa:=fun p=>sA b p (by omega)
   simp only[hT]
   generalize c3 cx x=X at Bm ⊢
   split
   ·simp only[List.length_append,List.length_cons,List.length_nil]; omega
   ·split
    ·cases b with
     |nil=>
      have:=eh (p+X.length+1)
      simp only[List.length_append,List.length_cons,List.length_nil]; omega
     |cons gS k0=>
      have:=eh (p+X.length+1)
      simp only[List.length_append,List.length_cons,List.length_nil]
      generalize (dS cx (p+X.length+1) a).length=q at this ⊢
      have:=fa (p+X.length+1+q+1)
      omega
    ·have:=eh (p+1+X.length+1)
     simp only[List.length_append,List.length_cons,List.length_nil]; omega
  refine⟨ab,fun l p cW=> ?_⟩
  induction l generalizing p with
  |nil=>simp [dS]
  |cons x l x8=>
   simp only[ai.bz]at cW ⊢
   have U:=ab x p (by omega)
   have aa:=x8 (p+(hT cx p x).length) (by omega)
   simp only[dS,List.length_append]
   omega
end
section
theorem Pf {x:b3}{g:cd}: ∀(l:List bL) (p:Nat),(∀h∈l,ai.bz h.body≤10000)→(dM x g p l).2.1.length≤60001*l.length
 |[],_,_=>by simp [dM]
 |h::l,p,hb=>by
  have U:=(ZD (cx:=⟨x.vars,h.ps,kl g h.c7⟩) (ai.bz h.body)).2 h.body p (Nat.le_refl _)
  have aa:=hb h (by simp)
  have ay:=Pf (x:=x) (g:=g) l (p+(ly x (kl g h.c7) p h).length) fun y aV=>hb y (by simp [aV])
  simp only[dM,List.length_append,List.length_cons]
  simp only[ly,List.length_append,List.length_cons,List.length_nil]at ay ⊢
  omega
theorem RL {x:b3}{g:cd}: ∀(l:List cf) (p:Nat),(∀o∈l,al.bz o.args≤10000∧al.bz o.dk≤10000)→(hq x g p l).2.length≤60002*l.length
 |[],_,_=>by simp [hq]
 |o::l,p,hb=>by
  have U:=(F5 (cx:=⟨x.vars,[],[]⟩) (al.bz o.args)).2 o.args (Nat.le_refl _)
  have aa:=hb o (by simp)
  have hw:(og ⟨x.vars,[],[]⟩ p o.dk).2.length≤30001:=by
   cases bw:o.dk with
   |nil=>simp [og]
   |cons y r=>
    rw[bw]at aa
    simp only[al.bz]at aa
    have:=(F5 (cx:=⟨x.vars,[],[]⟩) y.bJ).1 y (Nat.le_refl _)
    simp only[og,List.length_append,List.length_cons,List.length_nil]
    omega
  have ay:=RL (x:=x) (g:=g) l (p+(og ⟨x.vars,[],[]⟩ p o.dk).2.length+((fM ⟨x.vars,[],[]⟩ o.args).flatten++[ins 24 0]).length) fun y aV=>hb y (by simp [aV])
  simp only[hq,List.length_append,List.length_cons,List.length_nil]at ay ⊢
  omega
theorem ZA {x:b3}{g:cd}(hb:jw x) (a7:n3 x=true):(iZ x g).length≤1000000000:=by
 simp only[n3,vq,Bool.and_eq_true,decide_eq_true_eq]at a7
 have U:=Pf (x:=x) (g:=g) x.hs 0 hb.aL
 have aa:=RL (x:=x) (g:=g) x.os (dM x g 0 x.hs).2.1.length hb.sH
 unfold iZ
 simp only
 split
 ·simp
 ·simp only[List.length_append]
  omega
end
section
def _root_.Go.aO.cY.mH {α:Type}:cY α→Prop
 | .ok _=>True
 | .err _ e=>e≠0
theorem iG {α β:Type}{r:cY α}{f:α→cY β}(h:r.mH) (hf: ∀a,r= .ok a→(f a).mH):(r.bind f).mH:=by
 cases r with
 |ok a=>exact hf a rfl
 |err n e=>exact h
theorem nA {b:Bool}{n:bF}{e:Int}(h:e≠0):(gh b n e).mH:=by
 unfold gh
 split
 ·trivial
 ·exact h
theorem aD0 (ck:dL) (n:bF):(qP ck n).mH:=by
 unfold qP
 split
 ·trivial
 ·split
  ·trivial
  ·show (10:Int)≠0; decide
theorem ay9 (ck:dL) (k:Int) (o m:bF) (aT:List Int):(qm ck k o m aT).mH:=by
 unfold qm
 repeat' split
 all_goals first
  |trivial
  |exact aD0 _ _
  |exact iG (nA (by decide)) fun _ _=>trivial
mutual
theorem zM (ck:dL): ∀x:al,(kk ck x).mH
 | .mk k o m t n l=>by
  simp only[kk]
  exact iG (Qd ck l) fun aT _=>ay9 ck k o m aT
theorem Qd (ck:dL): ∀l:List al,(k8 ck l).mH
 |[]=>by simp only[k8]; trivial
 |x::l=>by
  simp only[k8]
  exact iG (zM ck x) fun _ _=>iG (Qd ck l) fun _ _=>trivial
end
theorem Wt (ck:dL) (n:bF) (x:al):(rf ck n x).mH:=
 iG (nA (by decide)) fun _ _=>iG (nA (by decide)) fun _ _=>iG (zM ck x) fun _ _=>nA (by decide)
mutual
theorem aX6 (ck:dL): ∀x:ai,(o6 ck x).mH
 | .mk k m x t a b=>by
  simp only[o6]
  split
  ·exact Wt ck m x
  ·refine iG ?_ fun _ _=>iG (Fb ck a) fun _ _=>Fb ck b
   split
   ·exact iG (zM ck x) fun _ _=>nA (by decide)
   ·split
    ·exact iG (zM ck x) fun _ _=>nA (by decide)
    ·trivial
theorem Fb (ck:dL): ∀l:List ai,(jN ck l).mH
 |[]=>by simp only[jN]; trivial
 |x::l=>by
  simp only[jN]
  exact iG (aX6 ck x) fun _ _=>Fb ck l
end
theorem VJ: ∀(l a:List ba),(q1 a l).mH
 |[],a=>by simp only[q1]; trivial
 |v::l,a=>by
  simp only[q1]
  exact iG (nA (by decide)) fun _ _=>iG (nA (by decide)) fun _ _=>VJ l _
theorem IK {α:Type}(f:α→Bool): ∀(l:List α) (i:Nat),dt f l i<(i:Int)+l.length
 |[],i=>by simp only[dt,List.length_nil]; omega
 |x::l,i=>by
  have:=IK f l (i+1)
  simp only[dt,List.length_cons]
  cases f x with
  |true=>simp only[cond_true]; omega
  |false=>simp only[cond_false]; omega
theorem Qn (ck:dL) (p q:bF) (b:Bool):(qL ck p q b).mH:=by
 refine iG (nA (by decide)) fun _ h=>iG (nA (by decide)) fun _ _=>iG (nA (by decide)) fun _ _=> ?_
 have U:0≤jn ck.g p:=by simpa using sG h
 have aa:jn ck.g p<ck.g.decls.length:=by
  have:=IK (fun d:bs=> !decide (d.name=p)) ck.g.decls 0
  unfold jn
  omega
 rw[List.getElem?_eq_getElem (by omega)]
 trivial
theorem RW (vars:List ba): ∀(ps:List bF) (b2:List Fd) (acc:List (bF×Int)),(oE vars acc ps b2).mH
 |[],_,_=>by simp only[oE]; trivial
 | _:: _,[],_=>by simp only[oE]; trivial
 |n::ps,f::b2,acc=>by
  simp only[oE]
  exact iG (nA (by decide)) fun _ _=>RW vars ps b2 _
theorem ak5 (ck:dL) (a:List bL) (h:bL):(ki ck a h).mH:=
 iG (Qn ck h.c7 h.peer true) fun _ _=>iG (nA (by decide)) fun _ _=>iG (nA (by decide)) fun _ _=>iG (RW _ _ _ _) fun _ _=>Fb _ _
theorem KX (ck:dL) (c7:bF): ∀(l:List al) (b2:List Fd),(lT ck c7 l b2).mH
 |[],_=>by simp only[lT]; trivial
 | _:: _,[]=>by simp only[lT]; trivial
 |x::l,f::b2=>by
  simp only[lT]
  exact iG (zM ck x) fun _ _=>iG (nA (by decide)) fun _ _=>KX ck c7 l b2
theorem VO (ck:dL): ∀(l:List al),(nN ck l).mH
 |[]=>by simp only[nN]; trivial
 |x::l=>by
  simp only[nN]
  exact iG (zM ck x) fun _ _=>iG (nA (by decide)) fun _ _=>VO ck l
theorem aE6 (ck:dL) (o:cf):(nD ck o).mH:=
 iG (Qn ck o.c7 o.peer false) fun _ _=>iG (nA (by decide)) fun _ _=>iG (KX _ _ _ _) fun _ _=>VO _ _
theorem Pb (ck:dL): ∀(l a:List bL),(mP ck a l).mH
 |[],_=>by simp only[mP]; trivial
 |h::l,a=>by
  simp only[mP]
  exact iG (ak5 ck a h) fun _ _=>Pb ck l _
theorem RH (ck:dL): ∀(l:List cf),(nE ck l).mH
 |[]=>by simp only[nE]; trivial
 |o::l=>by
  simp only[nE]
  exact iG (aE6 ck o) fun _ _=>RH ck l
theorem aH8 (x:b3) (g:cd):(pE x g).mH:=
 iG (nA (by decide)) fun _ _=>iG (nA (by decide)) fun _ _=>iG (VJ _ _) fun _ _=>iG (Pb _ _ _) fun _ _=>RH _ _
end
section
theorem zb {x:b3}{g:cd}:(kf x g).2=0↔n3 x=true∧s6 g=true∧pE x g= .ok ():=by
 unfold kf
 cases ae:(n3 x&&s6 g) with
 |false=>
  rw[if_neg (by simp)]
  constructor
  ·intro h; exact absurd h (by decide)
  ·rintro⟨U,aa,_⟩
   rw[U,aa]at ae
   cases ae
 |true=>
  rw[if_pos rfl]
  simp only[Bool.and_eq_true]at ae
  have aG:=aH8 x g
  cases hp:pE x g with
  |ok u=>exact⟨fun _=>⟨ae.1,ae.2,rfl⟩,fun _=>rfl⟩
  |err n e=>
   rw[hp]at aG
   constructor
   ·intro h; exact absurd h aG
   ·rintro⟨_,_,h⟩; cases h
theorem Cq {x:b3}{g:cd}(h:pE x g= .ok ()):x.gJ=g.name∧0≤eJ g.cC x.bM∧q1 [] x.vars= .ok ()∧mP ⟨x,g,max (eJ g.cC x.bM) 0,none⟩ [] x.hs= .ok ()∧nE ⟨x,g,max (eJ g.cC x.bM) 0,none⟩ x.os= .ok ():=by
 unfold pE at h
 obtain⟨_,U,h⟩:=cY.iN h
 obtain⟨_,aa,h⟩:=cY.iN h
 obtain⟨_,ay,h⟩:=cY.iN h
 obtain⟨_,bl,bW⟩:=cY.iN h
 exact⟨by simpa using sG U,by simpa using sG aa,ay,bl,bW⟩
theorem IG {x:b3}{g:cd}(U:x.gJ=g.name) (aa:0≤eJ g.cC x.bM) (ay:q1 [] x.vars= .ok ()) (bl:mP ⟨x,g,max (eJ g.cC x.bM) 0,none⟩ [] x.hs= .ok ()) (bW:nE ⟨x,g,max (eJ g.cC x.bM) 0,none⟩ x.os= .ok ()):pE x g= .ok ():=by
 unfold pE gh
 rw[if_pos (by simpa using U),if_pos (by simpa using aa),ay,bl,bW]
 rfl
theorem Mi {all:List Fd}: ∀(l ahead:List bs) (i:Int),uE all ahead i l=true→∀d∈l,d.fields.length≤4
 |[],_,_,_,d,br=>by cases br
 |c::l,ahead,i,h,d,br=>by
  simp only[uE,Bool.and_eq_true,decide_eq_true_eq]at h
  rcases List.mem_cons.1 br with rfl|br
  ·exact h.2.1
  ·exact Mi l _ _ h.2.2.2.2.2.2 d br
theorem ba5 {g:cd}(h:s6 g=true): ∀d∈g.decls,d.fields.length≤4:=by
 simp only[s6,Bool.and_eq_true,zk,Bool.or_eq_true,decide_eq_true_eq]at h
 rcases h.2.2.1 with aU|aU
 ·intro d br
  rw[List.length_eq_zero_iff.1 aU]at br
  cases br
 ·simp only[uf,Bool.and_eq_true]at aU
  exact Mi _ _ _ aU.2.2
theorem UE {x:b3}{g:cd}(hb:jw x) (h:(kf x g).2=0):KA x g:=by
 obtain⟨a7,ae,hp⟩:=zb.1 h
 obtain⟨_,_,_,bl,bW⟩:=Cq hp
 have jg:=a7
 simp only[n3,rX,Bool.and_eq_true]at jg
 obtain⟨_,⟨_,g2,g3⟩,_⟩:=jg
 have bH:=ba5 ae
 refine⟨fun y aV=> ?_,fun o ao=> ?_,fun d br=> ?_,ZA hb a7,hb.kn,hb.l5,hb.no⟩
 ·obtain⟨a,e⟩:=Pc _ _ bl y aV
  have k:=List.all_eq_true.1 g2 y aV
  simp only[pr,Bool.and_eq_true,decide_eq_true_eq]at k
  have bi:=ak6 e (by rw[xP]; exact k.2.2.2.2.1)
  have:=hb.aL y aV
  exact⟨bi.1,bi.2,by omega,by omega⟩
 ·have e:=RI _ bW o ao
  have k:=List.all_eq_true.1 g3 o ao
  simp only[qA,Bool.and_eq_true,decide_eq_true_eq,List.all_append]at k
  have bi:=aE7 rfl e (by rw[zv]; exact k.2.2.2.2.1.1) (by rw[zv]; exact k.2.2.2.2.1.2)
  exact⟨bi.1,bi.2,by omega,by omega⟩
 ·have:=bH d br
  omega
theorem ug (x:b3) (g:cd) (hb:jw x) (a7:kp g):Pure Tryz.prog 20 [x.cQ,g.cQ] (.cT [(jy x g).1.cQ,.int .i64 (jy x g).2]):=a50 x g hb a7 (UE hb)
end
end Go.aO.T.N
set_option maxRecDepth 100000
namespace Go.aO.T.N
open Go Go.aO Go.Proofs Go.ChangeShapes Go.WideShapes Go.RowKit
def kg:List TypeId:=[9,92,113,116,120,178,72,76,131,342,438,439]
theorem Oq:Cx Tryz.prog kg=true:=by kernel_rfl
theorem UM:iV Tryz.prog kg 8 120=some [.dD (.i .i64),.dD .s,.dD .s,.dD .s,.dD (.i .i64),.hJ 120]:=by kernel_rfl
theorem aS2:iV Tryz.prog kg 8 178=some [.dD (.i .i64),.dD .s,.dD (.i .i64),.dD .s,.dD .s,.dD .s,.dD (.i .i64),.hJ 120,.dD (.i .i64),.hJ 178,.hJ 178]:=by kernel_rfl
theorem aT1:iV Tryz.prog kg 8 9=some [.dD .s]:=by kernel_rfl
theorem aT2:iV Tryz.prog kg 8 92=some [.dD .s,.dD (.i .i64),.dD (.i .i64),.dD (.i .i64),.dD (.i .i64),.dD (.i .i64),.dD .s]:=by kernel_rfl
theorem aR9:iV Tryz.prog kg 8 113=some [.dD .s,.dD .s,.hJ 9,.hJ 178]:=by kernel_rfl
theorem aS0:iV Tryz.prog kg 8 116=some [.dD .s,.dD .s,.hJ 120,.hJ 120]:=by kernel_rfl
theorem aS3:iV Tryz.prog kg 8 26=some [.dD .s,.dD .s,.dD .s,.hJ 92,.hJ 113,.hJ 116]:=by kernel_rfl
theorem JG:Tryz.prog.cellsOf 120=6:=by kernel_rfl
theorem Ve:Tryz.prog.cellsOf 178=11:=by kernel_rfl
theorem LK:Tryz.prog.cellsOf 9=1:=by kernel_rfl
theorem Zl:Tryz.prog.cellsOf 92=7:=by kernel_rfl
theorem Zc:Tryz.prog.cellsOf 113=4:=by kernel_rfl
theorem Zd:Tryz.prog.cellsOf 116=4:=by kernel_rfl
theorem FM:Tryz.prog.bytesOf 120=88:=by kernel_rfl
theorem Lh:Tryz.prog.bytesOf 178=168:=by kernel_rfl
theorem Di:Tryz.prog.bytesOf 9=16:=by kernel_rfl
theorem Wy:Tryz.prog.bytesOf 92=72:=by kernel_rfl
theorem Wv:Tryz.prog.bytesOf 113=80:=by kernel_rfl
theorem Ww:Tryz.prog.bytesOf 116=80:=by kernel_rfl
theorem Ze:Tryz.prog.cellsOf 131=4:=by kernel_rfl
theorem Zg:Tryz.prog.cellsOf 438=3:=by kernel_rfl
theorem Zh:Tryz.prog.cellsOf 439=2:=by kernel_rfl
theorem Zf:Tryz.prog.cellsOf 342=3:=by kernel_rfl
theorem Zk:Tryz.prog.cellsOf 76=6:=by kernel_rfl
theorem Zj:Tryz.prog.cellsOf 72=5:=by kernel_rfl
theorem aS1:iV Tryz.prog kg 8 131=some [.dD .s,.dD (.i .i64),.dD (.i .i64),.dD (.i .i64)]:=by kernel_rfl
theorem aS6:iV Tryz.prog kg 8 438=some [.dD (.i .i64),.dD (.i .i64),.dD (.i .i64)]:=by kernel_rfl
theorem aS7:iV Tryz.prog kg 8 439=some [.dD (.i .i64),.dD (.i .i64)]:=by kernel_rfl
theorem aS5:iV Tryz.prog kg 8 342=some [.dD (.i .i64),.dD (.i .i64),.dD (.i .i64)]:=by kernel_rfl
theorem aT0:iV Tryz.prog kg 8 76=some [.dD (.i .i64),.dD (.i .i64),.dD (.i .i64),.dD (.i .i64),.dD (.i .i64),.dD .b]:=by kernel_rfl
theorem aS9:iV Tryz.prog kg 8 72=some [.dD .s,.hJ 131,.dD (.i .i64),.hJ 438,.hJ 439]:=by kernel_rfl
theorem aS4:iV Tryz.prog kg 8 32=some [.dD .s,.hJ 9,.hJ 72,.dD (.i .i64),.dD (.i .i64),.dD (.i .i64),.hJ 76,.hJ 342]:=by kernel_rfl
variable {R:Nat}
theorem af1: ∀(n:Nat) (r:List I),kq Tryz.prog kg R n 131 r→∃v:Fd,r=Fd.row v∧True
 |0,_,h=>h.elim
 |n+1,r,h=>by
  obtain⟨aT,U,aa⟩:=h
  rw[aS1]at U
  cases U
  simp only[h7,gM.ok]at aa
  obtain⟨_,_,rfl,⟨ec,rfl,_⟩,_,_,rfl,⟨a2,rfl,_⟩,_,_,rfl,⟨a3,rfl,_⟩,_,_,rfl,⟨a4,rfl,_⟩,rfl⟩:=aa
  exact⟨⟨ec,a2,a3,a4⟩,rfl,trivial⟩
theorem ab8: ∀(n:Nat) (r:List I),kq Tryz.prog kg R n 438 r→∃v:Int×Int×Int,r=dn v∧True
 |0,_,h=>h.elim
 |n+1,r,h=>by
  obtain⟨aT,U,aa⟩:=h
  rw[aS6]at U
  cases U
  simp only[h7,gM.ok]at aa
  obtain⟨_,_,rfl,⟨ec,rfl,_⟩,_,_,rfl,⟨a2,rfl,_⟩,_,_,rfl,⟨a3,rfl,_⟩,rfl⟩:=aa
  exact⟨(ec,a2,a3),rfl,trivial⟩
theorem ae5: ∀(n:Nat) (r:List I),kq Tryz.prog kg R n 439 r→∃v:Int×Int,r=dz v∧True
 |0,_,h=>h.elim
 |n+1,r,h=>by
  obtain⟨aT,U,aa⟩:=h
  rw[aS7]at U
  cases U
  simp only[h7,gM.ok]at aa
  obtain⟨_,_,rfl,⟨ec,rfl,_⟩,_,_,rfl,⟨a2,rfl,_⟩,rfl⟩:=aa
  exact⟨(ec,a2),rfl,trivial⟩
theorem aZ6: ∀(n:Nat) (r:List I),kq Tryz.prog kg R n 342 r→∃v:dr,r=dr.row v∧True
 |0,_,h=>h.elim
 |n+1,r,h=>by
  obtain⟨aT,U,aa⟩:=h
  rw[aS5]at U
  cases U
  simp only[h7,gM.ok]at aa
  obtain⟨_,_,rfl,⟨ec,rfl,_⟩,_,_,rfl,⟨a2,rfl,_⟩,_,_,rfl,⟨a3,rfl,_⟩,rfl⟩:=aa
  exact⟨⟨ec,a2,a3⟩,rfl,trivial⟩
theorem ad3: ∀(n:Nat) (r:List I),kq Tryz.prog kg R n 76 r→∃v:cD,r=cD.row v∧True
 |0,_,h=>h.elim
 |n+1,r,h=>by
  obtain⟨aT,U,aa⟩:=h
  rw[aT0]at U
  cases U
  simp only[h7,gM.ok]at aa
  obtain⟨_,_,rfl,⟨ec,rfl,_⟩,_,_,rfl,⟨a2,rfl,_⟩,_,_,rfl,⟨a3,rfl,_⟩,_,_,rfl,⟨a4,rfl,_⟩,_,_,rfl,⟨a5,rfl,_⟩,_,_,rfl,⟨yY,rfl⟩,rfl⟩:=aa
  exact⟨⟨ec,a2,a3,a4,a5,yY⟩,rfl,trivial⟩
theorem aa3: ∀(n:Nat) (r:List I),kq Tryz.prog kg R n 72 r→∃v:bs,r=bs.row v∧True
 |0,_,h=>h.elim
 |n+1,r,h=>by
  obtain⟨aT,U,aa⟩:=h
  rw[aS9]at U
  cases U
  simp only[h7,gM.ok,Ze,Zg,Zh]at aa
  obtain⟨_,_,rfl,⟨a,rfl,_⟩,_,_,rfl,⟨cu,rfl,_,bf⟩,_,_,rfl,⟨b,rfl,_⟩,_,_,rfl,⟨cL,rfl,_,bi⟩,_,_,rfl,⟨dv,rfl,_,cz⟩,rfl⟩:=aa
  obtain⟨aH,rfl,_⟩:=mY (f:=Fd.row) (p:=fun _=>True) fun r hm=>af1 n r (bf r hm)
  obtain⟨fG,rfl,_⟩:=mY (f:=dn) (p:=fun _=>True) fun r hm=>ab8 n r (bi r hm)
  obtain⟨nw,rfl,_⟩:=mY (f:=dz) (p:=fun _=>True) fun r hm=>ae5 n r (cz r hm)
  exact⟨⟨a,aH,b,fG,nw⟩,rfl,trivial⟩
theorem OA (n:Nat) (r:List I) (h:kq Tryz.prog kg R n 120 r): ∃x:al,r=x.row∧x.ok R:=GW UM JG FM n r h
theorem Jz (n:Nat) (r:List I) (h:kq Tryz.prog kg R n 178 r): ∃x:ai,r=x.row∧x.ok R:=JC UM JG FM aS2 Ve Lh n r h
theorem Vb: ∀(n:Nat) (r:List I),kq Tryz.prog kg R n 9 r→∃s:List UInt8,r=b6 s∧s.length≤R
 |0,_,h=>h.elim
 |n+1,r,h=>by
  obtain⟨aT,U,aa⟩:=h
  rw[aT1]at U
  cases U
  simp only[h7,gM.ok]at aa
  obtain⟨_,_,rfl,⟨s,rfl,hs⟩,rfl⟩:=aa
  exact⟨s,rfl,hs⟩
theorem ba9: ∀(n:Nat) (r:List I),kq Tryz.prog kg R n 92 r→∃v:ba,r=v.row∧v.ok R
 |0,_,h=>h.elim
 |n+1,r,h=>by
  obtain⟨aT,U,aa⟩:=h
  rw[aT2]at U
  cases U
  simp only[h7,gM.ok]at aa
  obtain⟨_,_,rfl,⟨a,rfl,s7⟩,_,_,rfl,⟨b,rfl,lN⟩,_,_,rfl,⟨c,rfl,q3⟩,_,_,rfl,⟨d,rfl,q4⟩,_,_,rfl,⟨e,rfl,vI⟩,_,_,rfl,⟨f,rfl,yL⟩,_,_,rfl,⟨g,rfl,bd5⟩,rfl⟩:=aa
  exact⟨⟨a,b,c,d,e,f,g⟩,rfl,⟨s7,bd5⟩,lN,q3,q4,vI,yL⟩
theorem aj9: ∀(n:Nat) (r:List I),kq Tryz.prog kg R n 113 r→∃v:bL,r=v.row∧v.ok R
 |0,_,h=>h.elim
 |n+1,r,h=>by
  obtain⟨aT,U,aa⟩:=h
  rw[aR9]at U
  cases U
  simp only[h7,gM.ok,LK,Di,Ve,Lh]at aa
  obtain⟨_,_,rfl,⟨a,rfl,s7⟩,_,_,rfl,⟨b,rfl,lN⟩,_,_,rfl,⟨cu,rfl,q3,bf⟩,_,_,rfl,⟨cL,rfl,q4,bi⟩,rfl⟩:=aa
  obtain⟨ps,rfl,hp⟩:=mY (f:=b6) (p:=fun s=>s.length≤R) fun r hm=>Vb n r (bf r hm)
  obtain⟨l,rfl,aC⟩:=mY (f:=ai.row) (p:=ai.ok R) fun r hm=>Jz n r (bi r hm)
  exact⟨⟨a,b,ps,l⟩,by simp only[bL.row,ai.nG],s7,lN,by simpa using q3,hp,by simpa using q4,ai.tY aC⟩
theorem aE2: ∀(n:Nat) (r:List I),kq Tryz.prog kg R n 116 r→∃v:cf,r=v.row∧v.ok R
 |0,_,h=>h.elim
 |n+1,r,h=>by
  obtain⟨aT,U,aa⟩:=h
  rw[aS0]at U
  cases U
  simp only[h7,gM.ok,JG,FM]at aa
  obtain⟨_,_,rfl,⟨a,rfl,s7⟩,_,_,rfl,⟨b,rfl,lN⟩,_,_,rfl,⟨cu,rfl,q3,bf⟩,_,_,rfl,⟨cL,rfl,q4,bi⟩,rfl⟩:=aa
  obtain⟨aH,rfl,U⟩:=mY (f:=al.row) (p:=al.ok R) fun r hm=>OA n r (bf r hm)
  obtain⟨fG,rfl,aa⟩:=mY (f:=al.row) (p:=al.ok R) fun r hm=>OA n r (bi r hm)
  exact⟨⟨a,b,aH,fG⟩,by simp only[cf.row,al.nG],s7,lN,by simpa using q3,al.tY U,by simpa using q4,al.tY aa⟩
section
variable {H:Type}{enc:TypeId×Value→H}{w:World}{base:Nat}{spare:Nat→Bool}{held:Bool}
theorem EI {v:Value}{x:DataW H}{p:List MemPlace}{r:Reach}{gS:Nat}(aG: ∀n∈DataW.weights Tryz.prog 26 x,n≤R) (ae:Value.okWide Tryz.prog w r gS 26 v) (h:DataW.Trod enc Tryz.prog w base spare held 26 v x p):
  ∃q:b3,(q.ok R∧cG q.cells≤jI x)∧∀m:Mem,m.w=w→m.H=aA.none→aP m q.cQ v:=by
 obtain⟨n,lp,⟨U,aa⟩,ay⟩:=UN Oq Tryz.underlying26 aS3 aG ae h
 simp only[h7,gM.ok,Zl,Zc,Zd,Wy,Wv,Ww]at U
 obtain⟨_,_,rfl,⟨a,rfl,s7⟩,_,_,rfl,⟨b,rfl,lN⟩,_,_,rfl,⟨c,rfl,q3⟩,_,_,rfl,⟨cu,rfl,q4,bf⟩,_,_,rfl,⟨cL,rfl,vI,bi⟩,_,_,rfl,⟨dv,rfl,yL,cz⟩,rfl⟩:=U
 obtain⟨aH,rfl,g1⟩:=mY (f:=ba.row) (p:=ba.ok R) fun r hm=>ba9 n r (bf r hm)
 obtain⟨fG,rfl,g2⟩:=mY (f:=bL.row) (p:=bL.ok R) fun r hm=>aj9 n r (bi r hm)
 obtain⟨nw,rfl,g3⟩:=mY (f:=cf.row) (p:=cf.ok R) fun r hm=>aE2 n r (cz r hm)
 exact⟨⟨a,b,c,aH,fG,nw⟩,⟨⟨s7,lN,q3,by simpa using q4,g1,by simpa using vI,g2,by simpa using yL,g3⟩,aa⟩,ay⟩
theorem EJ {v:Value}{x:DataW H}{p:List MemPlace}{r:Reach}{gS:Nat}(aG: ∀n∈DataW.weights Tryz.prog 32 x,n≤R) (ae:Value.okWide Tryz.prog w r gS 32 v) (h:DataW.Trod enc Tryz.prog w base spare held 32 v x p):
  ∃q:cd,(True∧cG q.cells≤jI x)∧∀m:Mem,m.w=w→m.H=aA.none→aP m q.cQ v:=by
 obtain⟨n,lp,⟨U,aa⟩,ay⟩:=UN Oq Tryz.underlying32 aS4 aG ae h
 simp only[h7,gM.ok,LK,Zj,Zk,Zf]at U
 obtain⟨_,_,rfl,⟨a,rfl,_⟩,_,_,rfl,⟨cu,rfl,_,bf⟩,_,_,rfl,⟨cL,rfl,_,bi⟩,_,_,rfl,⟨b,rfl,_⟩,_,_,rfl,⟨c,rfl,_⟩,_,_,rfl,⟨d,rfl,_⟩,_,_,rfl,⟨dv,rfl,_,cz⟩,_,_,rfl,⟨hE,rfl,_,eu⟩,rfl⟩:=U
 obtain⟨aH,rfl,_⟩:=mY (f:=b6) (p:=fun s=>s.length≤R) fun r hm=>Vb n r (bf r hm)
 obtain⟨fG,rfl,_⟩:=mY (f:=bs.row) (p:=fun _=>True) fun r hm=>aa3 n r (bi r hm)
 obtain⟨nw,rfl,_⟩:=mY (f:=cD.row) (p:=fun _=>True) fun r hm=>ad3 n r (cz r hm)
 obtain⟨ye,rfl,_⟩:=mY (f:=dr.row) (p:=fun _=>True) fun r hm=>aZ6 n r (eu r hm)
 exact⟨⟨a,aH,fG,b,c,d,nw,ye⟩,⟨trivial,aa⟩,ay⟩
end
end Go.aO.T.N
