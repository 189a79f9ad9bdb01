/- Part of a proof; own work. -/
import Derived.Test.YtlemhelnmidpfaaGreatDoorProg
import Derived.KernelRfl
import Derived.Test.YtlemhelnmidpfaaGreatDoorVS10
set_option linter.unusedVariables false
set_option linter.unusedSimpArgs false
set_option maxHeartbeats 16000000
open Bool renaming and_self→aT7,and_eq_true→aT0,and_true→aW0,true_or→bf5,not_false→aZ2,false_or→ba8,false_eq_true→aU6,false_and→ba2,true_and→aU7,and_false→bc4,and_eq_false_iff→ba6,not_eq_false'→bf7,not_eq_true'→aX1,not_true→bc0
open Int renaming natCast_add→aT5
open List renaming all_cons→aV0,all_nil→bf4,filter_cons→bf2,filter_nil→bc5,contains_cons→aZ1,contains_nil→be5,length_map→aT1,length_append→aT2,append_assoc→aU9,cons_append→aU4,nil_append→aV1,map_append→aV4,drop_eq_nil_of_le→aT9,append_nil→aV7,getElem?_eq_getElem→aU0,map_take→bb3,take_add_one→aW8,length_take→aX3,mem_cons→aV8,not_mem_nil→aY4,mem_of_getElem?→aT6,length_cons→aT3,take_of_length_le→aY8,drop_zero→bb0,take_zero→aX5,replicate→aU2,getD_eq_getElem?_getD→aV9,length_set→bl1,length_replicate→aX8,getElem?_replicate→bb5,length_nil→aU1,length_drop→bd3
open Nat renaming blt→aW7,ble→aV2,zero_le→aT8,le_refl→aT4,reduceBEq→bd1,le_of_ble_eq_true→aZ3,reduceAdd→bd2
open Option renaming isSome_some→ba1,isSome_none→aY0,getD_some→aX2,getD_none→aZ4,toList_some→bi2
open Go.Proofs.Tryz renaming prog→aS9,func167→bl0
namespace Go.aX.T.N
open Go Go.aX Go.Proofs Go.RowKit
set_option maxRecDepth 100000
attribute [local irreducible] Go.aX.ay Go.aX.ai Go.aX.aY
section
attribute [local go_sem] bQ.row dZ gz eb ht of_flat ca dB fS fz fy fR e8 fa eI dv Fd.row ep eN cG.row et.row bS.row
def sJ:Option (List (bT×Int))→I
 |none=> .dI (.map none)
 |some _=> .cz 0 0
def kb:Option (List (bT×Int))→eA
 |none=>[]
 |some m=>[(0,.bk 184 0 (m.map kz))]
def gV:Option (List (bT×Int))→Nat
 |none=>0
 |some _=>1
def ir:Option (List (bT×Int))→List Nat
 |none=>[]
 |some _=>[0]
def mY:Option (List (bT×Int))→eA→eA
 |none,cv=>cv
 |some m,cv=>(0,.bk 184 0 (m.map kz))::qF 0 cv
def ee (aS:dT):List I:=[.str aS.x.name,.str aS.x.role,.str aS.x.gh,.ak 7 (aS.x.vars.map bQ.row),.ak 4 (aS.x.an.map bK.row),.ak 4 (aS.x.os.map cC.row),.str aS.g.name,.ak 1 (aS.g.cD.map ca),.ak 5 (aS.g.decls.map bS.row),.int .i64 aS.g.hX,.int .i64 aS.g.start,.int .i64 aS.g.fin,.ak 6 (aS.g.bY.map cG.row),.ak 3 (aS.g.hM.map et.row),.int .i64 aS.role,sJ aS.ps]
def iR (aS:dT):aJ:=aJ.of 1 (gV aS.ps) [(0,186,ee aS)] (kb aS.ps)
theorem tO (m:List (bT×Int)):eD (m.map kz)=true:=lN (fun _=>rfl) m
theorem UG (aS:dT):dE 1 (gV aS.ps) (ee aS)=true:=by
 obtain⟨x,g,role,ps⟩:=aS
 cases ps<;>simp only[ee,sJ,gV,dE,I.dC,dZ,eb,of_flat,dB,eI,e8,fa,aT7]<;>rfl
theorem ax8 (ps:Option (List (bT×Int))):eQ 1 (gV ps) (kb ps)=true:=by
 cases ps<;>simp only[kb,gV,eQ,jg,bB.bk,tO,aT7]<;>rfl
def RK {α:Type}(g:α→I) (aS:dT):c7 α→Out→aJ→Prop
 | .ok a=>c8 (g a) [(0,186,ee aS)] (kb aS.ps)
 | .err n e=>q1 (lf n e)
section
variable {cN:Program}{anns:List I}{l:List bC}{env:Env}{K:Env→aJ→Prop}{Rp:I→aJ→Prop}{f:FuncId}{args:List aH}{dA:List I}{α β:Type}{g:α→I}{ox:c7 α}{R:c7 β}{F:α→c7 β}{aS:dT}{n t d:Nat}{cj jA:ey}{cv lx:eA}{c:aJ}{others:List Nat}
def um {α:Type}(g:α→I):Prop:=∀a,(g a).flat=true
theorem HP (ah:(aW7 0 n&&(aV2 (gV aS.ps) t&&dE 1 (gV aS.ps) dA))=true) (eh:fT cj 0=some (186,ee aS)) (dj: ∀m,aS.ps=some m→hW cv 0=some (.bk 184 0 (m.map kz))):
  (nodupB [0]&&nodupB (ir aS.ps)&&[0].all (fun x=>aW7 x (aJ.of n t cj cv).bN)&&(ir aS.ps).all (fun x=>aW7 x (aJ.of n t cj cv).bf))=true∧mL (aJ.of n t cj cv).H.aV ⟨[0],ir aS.ps⟩ [(0,186,ee aS)]∧mM (aJ.of n t cj cv).H.tok ⟨[0],ir aS.ps⟩ (kb aS.ps)∧(dE 1 (gV aS.ps) dA&&(eP 1 (gV aS.ps) [(0,186,ee aS)]&&eQ 1 (gV aS.ps) (kb aS.ps)))=true∧(ir aS.ps).length=gV aS.ps∧eO ⟨[0],ir aS.ps⟩ (ee aS)=ee aS:=by
 simp only[aT0]at ah
 obtain⟨CC,c1,c2⟩:=ah
 have WC:eP 1 (gV aS.ps) [(0,186,ee aS)]=true:=by simp only[eP,UG,aW0]; rfl
 have ab:eO ⟨[0],ir aS.ps⟩ (ee aS)=ee aS:=by
  obtain⟨x,g,role,ps⟩:=aS
  cases ps<;>rfl
 refine⟨?_,⟨by rw[ab]; exact eh,trivial⟩,?_,by rw[c2,WC,ax8]; rfl,by cases aS.ps<;>rfl,ab⟩
 ·cases hp:aS.ps with
  |none=>simp only[ir,aV0,bf4,show (aJ.of n t cj cv).bN=n from rfl,CC]; rfl
  |some m=>
   rw[hp]at c1
   simp only[gV]at c1
   have Hn:aW7 0 t=true:=c1
   simp only[ir,aV0,bf4,show (aJ.of n t cj cv).bN=n from rfl,show (aJ.of n t cj cv).bf=t from rfl,CC,Hn]; rfl
 ·cases hp:aS.ps with
  |none=>exact trivial
  |some m=>exact⟨dj m hp,trivial⟩
theorem HQ (hb:mW 0 cj=jA) (aE:mY aS.ps cv=lx):(aJ.of n t cj cv).jR ⟨[0],ir aS.ps⟩ [(0,186,ee aS)] (kb aS.ps)=aJ.of n t ((0,186,ee aS)::jA) lx:=by
 have ab:eO ⟨[0],ir aS.ps⟩ (ee aS)=ee aS:=by
  obtain⟨x,g,role,ps⟩:=aS
  cases ps<;>rfl
 rw[mj]
 subst hb aE
 simp only[pK,rv,ab,bf2,bc5,aZ1,be5,beq_self_eq_true,bf5,if_true,oX,oz]
 cases aS.ps with
 |none=>simp only[kb,ir,mY,pL,bc5,pM,oA]
 |some m=>simp only[kb,ir,mY,pL,rv,bf2,bc5,aZ1,be5,beq_self_eq_true,bf5,if_true,pM,oA]
theorem D.kh (bm:um g) (h:aY cN f dA (iR aS) (RK g aS ox)) (ac:R=ox.bind F)
  (hk: ∀a,ox= .ok a→R=F a→ai cN anns l ((d,g a)::env) (aJ.of n t ((0,186,ee aS)::jA) lx) K Rp)
  (ah:(aW7 0 n&&(aV2 (gV aS.ps) t&&dE 1 (gV aS.ps) dA))=true:=by simp (disch:=omega) only[go_sem,simprocAttr,gV]<;>rfl) (eh:fT cj 0=some (186,ee aS):=by rfl)
  (dj: ∀m,aS.ps=some m→hW cv 0=some (.bk 184 0 (m.map kz)):=by intro m hm; first|(cases hm; rfl)|cases hm)
  (aL:args.map (bi env)=eO ⟨[0],ir aS.ps⟩ dA:=by simp (disch:=omega) only[go_sem,simprocAttr]<;>rfl) (fN:mW 0 cj=jA:=by simp (disch:=omega) only[go_sem,simprocAttr]<;>with_reducible rfl) (lO:mY aS.ps cv=lx:=by simp (disch:=omega) only[go_sem,simprocAttr,mY]<;>with_reducible rfl) (hp: ∀n e,R= .err n e→∀cB,Rp (lf n e) cB:=by intro n e h cB; rw[h]; exact rfl):
  ai cN anns (⟨some d,none,.call f args⟩::l) env (aJ.of n t cj cv) K Rp:=by
 obtain⟨br,bA,cy,eR,gT,sA⟩:=HP ah eh dj
 match ox,h,ac,hk with
 | .err n e,h,ac,_=>
  have hA:aY cN f dA (aJ.of 1 (gV aS.ps) [(0,186,ee aS)] (kb aS.ps)) (q1 (lf n e)):=h
  refine ai.x0 rfl (aY.uH ⟨[0],ir aS.ps⟩ hA rfl gT br bA cy eR rfl rfl rfl) aL (fun v c1 q=> ?_) (fun v c1 q=> ?_)
  ·cases q.1
  ·cases q.1
   exact hp n e ac _
 | .ok a,h,ac,hk=>
  have hA:aY cN f dA (aJ.of 1 (gV aS.ps) [(0,186,ee aS)] (kb aS.ps)) (c8 (g a) [(0,186,ee aS)] (kb aS.ps)):=h
  have vh:=eR
  simp only[aT0]at vh
  have e:=aY.oH (c:=aJ.of n t cj cv) ⟨[0],ir aS.ps⟩ hA rfl gT br bA cy eR (by rw[vh.2.1,vh.2.2,sn _ (bm a)]; rfl) rfl
  rw[so _ (bm a),HQ fN lO]at e
  exact ai.re rfl e aL (hk a rfl ac)
theorem D.r1 {a:α}(bm:um g) (h:aY cN f dA (iR aS) (RK g aS (.ok a)))
  (hk:ai cN anns l ((d,g a)::env) (aJ.of n t ((0,186,ee aS)::jA) lx) K Rp)
  (ah:(aW7 0 n&&(aV2 (gV aS.ps) t&&dE 1 (gV aS.ps) dA))=true:=by simp (disch:=omega) only[go_sem,simprocAttr,gV]<;>rfl) (eh:fT cj 0=some (186,ee aS):=by rfl)
  (dj: ∀m,aS.ps=some m→hW cv 0=some (.bk 184 0 (m.map kz)):=by intro m hm; first|(cases hm; rfl)|cases hm)
  (aL:args.map (bi env)=eO ⟨[0],ir aS.ps⟩ dA:=by simp (disch:=omega) only[go_sem,simprocAttr]<;>rfl) (fN:mW 0 cj=jA:=by simp (disch:=omega) only[go_sem,simprocAttr]<;>with_reducible rfl) (lO:mY aS.ps cv=lx:=by simp (disch:=omega) only[go_sem,simprocAttr,mY]<;>with_reducible rfl):
  ai cN anns (⟨some d,none,.call f args⟩::l) env (aJ.of n t cj cv) K Rp:=
 D.kh (β:=Unit) (R:= .ok ()) (F:=fun _=> .ok ()) bm h rfl (fun b e _=>by cases e; exact hk) ah eh dj aL fN lO fun n e h=>nomatch h
theorem yc {P:Program}{aN:List bj}{cF t0:Nat}{k:List e7}{Q:Out→aJ→Prop}{env:Env}{n t:Nat}{cj:ey}{cv:eA}:ay P aN cF t0 k Q env (aJ.of n (t+1) cj ((t,.bP 0 0 0)::cv)):=ay.dead t 0 (by simp only[EP,hW,beq_self_eq_true,cond_true])
theorem D.xD (a0:α) (bm:um g) (h:aY cN f dA (iR aS) (RK g aS ox)) (ac:R=ox.bind F)
  (hk: ∀a,ox= .ok a→R=F a→ai cN anns l ((d,g a)::env) (aJ.of n t ((0,186,ee aS)::jA) lx) K Rp)
  (bw:ai cN anns l ((d,g a0)::env) (aJ.of n (t+1) cj ((t,.bP 0 0 0)::cv)) K Rp)
  (ah:(aW7 0 n&&(aV2 (gV aS.ps) t&&dE 1 (gV aS.ps) dA))=true:=by simp (disch:=omega) only[go_sem,simprocAttr,gV]<;>rfl) (eh:fT cj 0=some (186,ee aS):=by rfl)
  (dj: ∀m,aS.ps=some m→hW cv 0=some (.bk 184 0 (m.map kz)):=by intro m hm; first|(cases hm; rfl)|cases hm)
  (aL:args.map (bi env)=eO ⟨[0],ir aS.ps⟩ dA:=by simp (disch:=omega) only[go_sem,simprocAttr]<;>rfl) (fN:mW 0 cj=jA:=by simp (disch:=omega) only[go_sem,simprocAttr]<;>with_reducible rfl) (lO:mY aS.ps cv=lx:=by simp (disch:=omega) only[go_sem,simprocAttr,mY]<;>with_reducible rfl)
  (hH:jw (aJ.of n t cj cv).H ((0,186,ee aS)::jA):=by repeat first|exact trivial|refine⟨rfl,?_⟩) (WG:jx (aJ.of n t cj cv).H lx:=by repeat first|exact trivial|refine⟨rfl,?_⟩)
  (af:mA (fT cj) env jA others:=by repeat first|exact trivial|refine⟨⟨_,_,_,by simp (disch:=omega) only[go_sem,simprocAttr]<;>with_reducible rfl,rfl,rfl,by simp (disch:=omega) only[go_sem,simprocAttr]<;>rfl⟩,?_⟩)
  (hp: ∀n e,R= .err n e→∀cB,Rp (lf n e) cB:=by intro n e h cB; rw[h]; exact rfl):
  ai cN anns (⟨some d,none,.fQ others f args⟩::l) env (aJ.of n t cj cv) K Rp:=by
 obtain⟨br,bA,cy,eR,gT,sA⟩:=HP ah eh dj
 have ZM: ∀bJ y,fT jA bJ=some y→(0==bJ)=false:=fun bJ y h=>by
  cases bJ with
  |zero=>
   have:=Fw (j:=0) [0] rfl cj
   simp only[oX,fN]at this
   rw[this]at h
   cases h
  |succ n=>rfl
 match ox,h,ac,hk with
 | .err EF e,h,ac,_=>
  have hA:aY cN f dA (aJ.of 1 (gV aS.ps) [(0,186,ee aS)] (kb aS.ps)) (q1 (lf EF e)):=h
  have cM:aY cN f (args.map (bi env)) (aJ.of n t cj cv) (fun o cB=>o= .dW (lf EF e)∧cB=(aJ.of n t cj cv).jR ⟨[0],ir aS.ps⟩ [] []):=by
   rw[aL]
   exact aY.uH ⟨[0],ir aS.ps⟩ hA rfl gT br bA cy eR rfl rfl rfl
  refine ai.pH (S:=fun bp cB=>bp=g a0∧cB=(aJ.of n t cj cv).fw (.bP 0 0 0)) rfl rfl (gP.mono (gP.CJ (others:=others) cM (bm a0) rfl rfl fun s an=> ?_) (fun _ _ h=>h) fun v cB q=> ?_) fun bp cB q=> ?_
  ·obtain⟨bJ,cu,cn,aj,aq,bD,da⟩:=mA.get af s an
   refine⟨bJ,cu,cn,aj,aq,?_,da⟩
   rw[mj]
   simp only[pK,bc5,oz,w4,oX,fN]
   exact bD
  ·rw[q.1]
   exact hp EF e ac _
  ·rw[q.1,q.2,y5]
   exact bw
 | .ok a,h,ac,hk=>
  have hA:aY cN f dA (aJ.of 1 (gV aS.ps) [(0,186,ee aS)] (kb aS.ps)) (c8 (g a) [(0,186,ee aS)] (kb aS.ps)):=h
  have vh:=eR
  simp only[aT0]at vh
  have e:=aY.oH (c:=aJ.of n t cj cv) ⟨[0],ir aS.ps⟩ hA rfl gT br bA cy eR (by rw[vh.2.1,vh.2.2,sn _ (bm a)]; rfl) rfl
  rw[so _ (bm a),HQ fN lO,←aL]at e
  refine ai.pH rfl rfl (gP.Ai (others:=others) e (fun b y h=>jw.get hH b y h) (fun t y h=>jx.get WG t y h) rfl rfl (bm a) fun s an=> ?_) fun bp cB q=> ?_
  ·obtain⟨bJ,cu,cn,aj,aq,bD,da⟩:=mA.get af s an
   exact⟨bJ,cu,cn,aj,aq,by simp only[w4,fT,ZM bJ _ bD,cond_false]; exact bD,da⟩
  ·rw[q.1,q.2]
   exact hk a rfl ac
theorem D.M {b:Bool}{s:bT}{e:Int}{F:Unit→c7 β}{l:List bC}{env:Env}{args:List aH}(ac:R=(e5 b s e).bind F) (hk:b=true→R=F ()→ai aS9 anns l ((d,.cV [])::env) c K Rp)
  (aL:args.map (bi env)=[.bool b,.str s,.int .i64 e]:=by simp (disch:=omega) only[go_sem,simprocAttr]<;>with_reducible rfl) (hp: ∀n e,R= .err n e→∀cB,Rp (lf n e) cB:=by intro n e h cB; rw[h]; exact rfl):
  ai aS9 anns (⟨some d,none,.call 84 args⟩::l) env c K Rp:=by
 cases b with
 |true=>exact ai.EZ (F9 s e) aL rfl rfl rfl (hk rfl (by rw[ac]; rfl))
 |false=>
  refine ai.x0 rfl (aY.uH (c:=c) ⟨[],[]⟩ (F8 s e) rfl rfl rfl trivial trivial rfl rfl rfl rfl) (by rw[aL]; rfl) (fun v c1 q=> ?_) (fun v c1 q=> ?_)
  ·cases q.1
  ·cases q.1
   exact hp s e (by rw[ac]; rfl) _
theorem D.gx {aN:List bj}{cF t0:Nat}{k:List e7}{Q:Out→aJ→Prop}{b:Bool}{s:bT}{e:Int}{F:Unit→c7 β}{env:Env}{args:List aH}(ac:R=(e5 b s e).bind F) (hk:b=true→R=F ()→ay aS9 aN cF t0 k Q ((d,.cV [])::env) (aJ.of n t cj cv))
  (aL:args.map (bi env)=[.bool b,.str s,.int .i64 e]:=by simp (disch:=omega) only[go_sem,simprocAttr]<;>with_reducible rfl)
  (af:mA (fT cj) env cj others:=by repeat first|exact trivial|refine⟨⟨_,_,_,by simp (disch:=omega) only[go_sem,simprocAttr]<;>with_reducible rfl,rfl,rfl,by simp (disch:=omega) only[go_sem,simprocAttr]<;>rfl⟩,?_⟩)
  (hp: ∀n e,R= .err n e→∀cB,Q (.dW (lf n e)) cB:=by intro n e h cB; rw[h]; exact rfl):
  ai aS9 [] [⟨some d,none,.fQ others 84 args⟩] env (aJ.of n t cj cv) (fun e c1=>ay aS9 aN cF t0 k Q e c1) (fun v c1=>Q (.dW v) c1):=by
 cases b with
 |true=>
  refine ai.pH rfl rfl (gP.Ai (others:=others) (aY.EN (F9 s e) rfl rfl (by rw[aL]; rfl)) (fun _ _ h=>h) (fun _ _ h=>h) rfl rfl rfl fun s an=> ?_) fun bp cB q=> ?_
  ·exact mA.get af s an
  ·rw[q.1,q.2]
   exact ai.nil (hk rfl (by rw[ac]; rfl))
 |false=>
  have cM:aY aS9 84 (args.map (bi env)) (aJ.of n t cj cv) (fun o cB=>o= .dW (lf s e)∧cB=(aJ.of n t cj cv).jR ⟨[],[]⟩ [] []):=by
   rw[aL]
   exact aY.uH ⟨[],[]⟩ (F8 s e) rfl rfl rfl trivial trivial rfl rfl rfl rfl
  refine ai.pH (S:=fun bp cB=>bp= .cV []∧cB=(aJ.of n t cj cv).fw (.bP 0 0 0)) rfl rfl (gP.mono (gP.CJ (others:=others) cM rfl rfl rfl fun s an=> ?_) (fun _ _ h=>h) fun v cB q=> ?_) fun bp cB q=> ?_
  ·obtain⟨bJ,cu,cn,aj,aq,_,bD⟩:=mA.get af s an
   refine⟨bJ,cu,cn,aj,aq,?_,bD⟩
   rw[mj]
   exact aq
  ·rw[q.1]
   exact hp s e (by rw[ac]; rfl) _
  ·rw[q.1,q.2,y5]
   exact ai.nil yc
end
end
section
attribute [local go_sem] bQ.row dZ gz eb ht of_flat ca dB fS fz fy fR e8 fa eI dv Fd.row ep eN cG.row et.row bS.row ee sJ kb gV ir mY au.di ao.di au.cQ ao.cQ au.er ao.er tO
theorem aC9 (w v:bQ):aY aS9 161 [.agg (bQ.row w),.ptr 0 0] (aJ.of 1 0 [(0,146,bQ.row v)] []) (c8 (.bool (decide (w.name=v.name))) [(0,146,bQ.row v)] []):=by
 refine aY.intro bk Tryz.func161 SN ?_
 unfold IV Ow
 simp(disch:=omega)only[go_sem,simprocAttr]
 refine ap ?_
 refine D.r ?_
 exact⟨rfl,⟨rfl,trivial⟩,trivial⟩
theorem aE1 (n:bT) (v:bQ):aY aS9 265 [.agg (bQ.row v),.ptr 0 0] (aJ.of 1 0 [(0,9,[.str n])] []) (c8 (.bool (decide (v.name=n))) [(0,9,[.str n])] []):=by
 refine aY.intro bk Tryz.func265 Tq ?_
 unfold Ju O7
 simp(disch:=omega)only[go_sem,simprocAttr]
 refine ap ?_
 refine D.r ?_
 exact⟨rfl,⟨rfl,trivial⟩,trivial⟩
theorem aE9 (n:bT) (d:bS):aY aS9 341 [.agg (bS.row d),.ptr 0 0] (aJ.of 1 0 [(0,9,[.str n])] []) (c8 (.bool (decide (d.name=n))) [(0,9,[.str n])] []):=by
 refine aY.intro bk Tryz.func341 TO ?_
 unfold JQ Pw
 simp(disch:=omega)only[go_sem,simprocAttr]
 refine ap ?_
 refine D.r ?_
 exact⟨rfl,⟨rfl,trivial⟩,trivial⟩
theorem aD1 (h o:bK):aY aS9 165 [.agg (bK.row o),.ptr 0 0] (aJ.of 1 0 [(0,84,bK.row h)] []) (c8 (.bool (decide (o.dw=h.dw)&&decide (o.peer=h.peer))) [(0,84,bK.row h)] []):=by
 refine aY.intro bk Tryz.func165 SQ ?_
 unfold IY Oz
 simp(disch:=omega)only[go_sem,simprocAttr]
 (repeat' first|refine D.S ?_|refine D.iv true true ?_|refine ai.nil ?_|refine ay.dr ?_|refine D.W ?_|refine D.Z ?_|refine D.G ?_ ?_|refine D.X ‹_› ?_|refine D.jU ‹_› ?_|refine D.jV ‹_› ?_|intro h|refine D.C ?_ ?_)
 all_goals
  refine D.r ?_
  refine⟨?_,⟨rfl,trivial⟩,trivial⟩
  simp_all
theorem aE0 (a b c:Int) (e:cG):aY aS9 264 [.agg (cG.row e),.ptr 0 0] (aJ.of 1 0 [(0,74,[.int .i64 a,.int .i64 b,.int .i64 c])] []) (c8 (.bool (decide (e.gZ=a)&&(decide (e.l1=b)&&decide (e.ii=c)))) [(0,74,[.int .i64 a,.int .i64 b,.int .i64 c])] []):=by
 refine aY.intro bk Tryz.func264 Tp ?_
 unfold Jt O6
 simp(disch:=omega)only[go_sem,simprocAttr]
 refine ap ?_
 refine D.r ?_
 refine⟨?_,⟨rfl,trivial⟩,trivial⟩
 simp [gb,nz]
theorem aE4 (k x:Int):aY aS9 269 [.int .i64 x,.ptr 0 0] (aJ.of 1 0 [(0,3,[.int .i64 k])] []) (c8 (.bool (!decide (x=k))) [(0,3,[.int .i64 k])] []):=by
 refine aY.intro bk Tryz.func269 Tt ?_
 unfold Jx Pa
 simp(disch:=omega)only[go_sem,simprocAttr]
 refine ap ?_
 refine D.r ?_
 refine⟨?_,⟨rfl,trivial⟩,trivial⟩
 simp
theorem Y0:cT aS9 161=true:=by kernel_rfl
theorem Y7:cT aS9 265=true:=by kernel_rfl
theorem Y9:cT aS9 341=true:=by kernel_rfl
theorem Y1:cT aS9 165=true:=by kernel_rfl
theorem Y6:cT aS9 264=true:=by kernel_rfl
theorem Y8:cT aS9 269=true:=by kernel_rfl
theorem pC:cT aS9 267=true:=by kernel_rfl
theorem RC (bx:List Int) (k:Int):(!(bx.any fun x=> !decide (x=k)))=ux bx k:=by
 unfold ux
 induction bx with
 |nil=>rfl
 |cons x l b8=>simp only[List.any_cons,aV0,←b8,Bool.not_or,Bool.not_not]
theorem QY (bx:List Int) (k:Int) (aE:bx.length≤1000000000000):aY aS9 267 [.int .i64 k,.ptr 0 0] (aJ.of 1 0 [(0,60,[.ak 1 (bx.map dv)])] []) (c8 (.bool (ux bx k)) [(0,60,[.ak 1 (bx.map dv)])] []):=by
 have e:=aE3 (T:=3) (cs:=[.int .i64 k]) Y8 rfl rfl (fun x=> !decide (x=k)) bx aE fun x _=>aE4 k x
 have eE:=RC bx k
 generalize (bx.any fun x=> !decide (x=k))=b at e eE
 refine aY.intro bk Tryz.func267 Tr ?_
 unfold Jv O8
 simp(disch:=omega)only[go_sem,simprocAttr]
 refine ap ?_
 refine D.F ⟨[1],[]⟩ (e) ?_
 refine ap ?_
 refine D.r ?_
 exact⟨by rw[←eE],⟨rfl,trivial⟩,trivial⟩
theorem Bt {α:Type}(g:α→Bool): ∀(l:List α) (i:Nat),(∃p v,cW (fun v=> !g v) l i=((i+p:Nat):Int)∧l[p]? =some v∧g v=true∧l.find? g=some v)∨(cW (fun v=> !g v) l i= -1∧l.find? g=none)
 |[],_=> .inr ⟨rfl,rfl⟩
 |x::l,i=>by
  simp only[cW,List.find?_cons]
  cases U:g x with
  |true=>exact .inl ⟨0,x,by simp,rfl,U,rfl⟩
  |false=>
   rcases Bt g l (i+1) with ⟨p,v,h1,J,aA,bz⟩|⟨h1,J⟩
   ·exact .inl ⟨p+1,v,by simp only[aZ2,cond_true,h1]; omega,by simpa using J,aA,bz⟩
   ·exact .inr ⟨h1,J⟩
theorem aD8 (aS:dT) (n:bT) (aE:aS.g.decls.length≤1000000000000):aY aS9 262 [.ptr 0 0,.str n] (iR aS) (RK (fun z:Int=> .int .i64 z) aS (.ok (mF aS.g n))):=by
 obtain⟨x,g,role,ps⟩:=aS
 have e:=QT (T:=9) (cs:=[.str n]) Y9 rfl rfl (fun d=>decide (d.name=n)) g.decls aE fun d _=>aE9 n d
 simp only[mF]at e ⊢
 generalize cW (fun v=> !decide (v.name=n)) g.decls 0=z at e ⊢
 simp only[RK,iR]
 cases ps
 all_goals
  refine aY.intro bk Tryz.func262 Tn ?_
  unfold Jr O4
  simp(disch:=omega)only[go_sem,simprocAttr]
  refine ap ?_
  refine D.F ⟨[1],[]⟩ (e) ?_
  refine ap ?_
  refine D.r ?_
  exact⟨rfl,⟨rfl,trivial⟩,by first|exact trivial|exact⟨rfl,trivial⟩⟩
def sq (o:Option bQ):I:= .cV [.agg (bQ.row (o.getD zF)),.bool o.isSome]
theorem tu:um sq:=fun _=>rfl
theorem F4 (aS:dT) (n:bT) (aE:aS.x.vars.length≤1000000000000):aY aS9 166 [.ptr 0 0,.str n] (iR aS) (RK sq aS (.ok (varOf aS.x.vars n))):=by
 obtain⟨x,g,role,ps⟩:=aS
 have e:=QX (T:=9) (cs:=[.str n]) Y7 rfl rfl (fun v=>decide (v.name=n)) x.vars aE fun v _=>aE1 n v
 simp only[RK,iR,varOf,sq]
 have an:=Bt (fun v:bQ=>decide (v.name=n)) x.vars 0
 generalize cW (fun v=> !decide (v.name=n)) x.vars 0=z at e an
 generalize x.vars.find? (fun v=>decide (v.name=n))=o at an ⊢
 rcases an with ⟨p,v,h1,J,_,bz⟩|⟨h1,J⟩
 ·subst bz
  have d1: ¬z<0:=by omega
  have d2:z=(p:Int):=by omega
  cases ps
  all_goals
   refine aY.intro bk Tryz.func166 Hp ?_
   unfold Dd Ff
   simp(disch:=omega)only[go_sem,simprocAttr]
   refine ap ?_
   refine D.F ⟨[1],[]⟩ (e) ?_
   (have ax:=d1;refine bI ?_;clear ax)
   refine ap ?_
   refine D.r ?_
   exact⟨rfl,⟨rfl,trivial⟩,by first|exact trivial|exact⟨rfl,trivial⟩⟩
 ·subst J
  have d1:z<0:=by omega
  cases ps
  all_goals
   refine aY.intro bk Tryz.func166 Hp ?_
   unfold Dd Ff
   simp(disch:=omega)only[go_sem,simprocAttr]
   refine ap ?_
   refine D.F ⟨[1],[]⟩ (e) ?_
   (have ax:=d1;refine bI ?_;clear ax)
   refine D.r ?_
   exact⟨rfl,⟨rfl,trivial⟩,by first|exact trivial|exact⟨rfl,trivial⟩⟩
end
section
attribute [local go_sem] bQ.row dZ gz eb ht of_flat ca dB fS fz fy fR e8 fa eI dv Fd.row ep eN cG.row et.row bS.row ee sJ kb gV ir mY au.di ao.di au.cQ ao.cQ au.er ao.er tO
def nZ:Unit→I:=fun _=> .cV []
def sp:Int→I:=fun z=> .int .i64 z
theorem qk:um nZ:=fun _=>rfl
theorem pr:um sp:=fun _=>rfl
attribute [local go_sem] nZ sp sq
theorem aE5 (aS:dT) (n:bT) (aE:aS.x.vars.length≤1000000000000):aY aS9 270 [.ptr 0 0,.str n] (iR aS) (RK sp aS (rI aS n)):=by
 obtain⟨R,ac⟩: ∃R,R=rI aS n:=⟨_,rfl⟩
 rw[←ac]
 have e:=F4 aS n aE
 obtain⟨x,g,role,ps⟩:=aS
 have DO: ∀k,(dT.mk x g role ps).look n=some k→R= .ok k:=fun k h=>by rw[ac]; simp only[rI,h]
 have uQ:(dT.mk x g role ps).look n=none→R=(e5 (varOf x.vars n).isSome n 10).bind fun _=> .ok ((varOf x.vars n).getD zF).gj:=fun h=>by
  rw[ac]
  simp only[rI,h]
  cases varOf x.vars n<;>rfl
 clear ac
 simp only at e
 generalize varOf x.vars n=o at e uQ
 unfold iR
 cases ps with
 |none=>
  have uQ:=uQ rfl
  refine aY.intro bk Tryz.func270 CF ?_
  unfold rk BE
  simp(disch:=omega)only[go_sem,simprocAttr]
  refine ap ?_
  refine D.Mh ?_
  refine ap ?_
  refine D.r1 tu e ?_
  refine ap ?_
  refine D.M uQ fun J ac=> ?_
  refine ap ?_
  refine D.r ?_
  rw[ac]
  exact⟨rfl,⟨rfl,trivial⟩,trivial⟩
 |some m=>
  cases hm:kD n m with
  |some k=>
   have ac:=DO k hm
   refine aY.intro bk Tryz.func270 CF ?_
   unfold rk BE
   simp(disch:=omega)only[go_sem,simprocAttr]
   refine ap ?_
   refine D.vm (m:=m) ?_
   simp only[hm,ba1,aY0,aX2,aZ4]
   refine ap ?_
   refine D.r ?_
   rw[ac]
   exact⟨rfl,⟨rfl,trivial⟩,⟨rfl,trivial⟩⟩
  |none=>
   have uQ:=uQ hm
   refine aY.intro bk Tryz.func270 CF ?_
   unfold rk BE
   simp(disch:=omega)only[go_sem,simprocAttr]
   refine ap ?_
   refine D.vm (m:=m) ?_
   simp only[hm,ba1,aY0,aX2,aZ4]
   refine ap ?_
   refine D.r1 tu e ?_
   refine ap ?_
   refine D.M uQ fun J ac=> ?_
   refine ap ?_
   refine D.r ?_
   rw[ac]
   exact⟨rfl,⟨rfl,trivial⟩,⟨rfl,trivial⟩⟩
end
section
attribute [local go_sem] bQ.row dZ gz eb ht of_flat ca dB fS fz fy fR e8 fa eI dv Fd.row ep eN cG.row et.row bS.row ee sJ kb gV ir mY au.di ao.di au.cQ ao.cQ au.er ao.er tO
attribute [local go_sem] nZ sp sq
theorem L1 {aS:dT}{l:List au}{i:Nat}{x:au}{α:Type}{F:List Int→c7 α}(h:l[i]? =some x):(mf aS (l.drop i)).bind F=(kT aS x).bind fun a=>(mf aS (l.drop (i+1))).bind fun bU=>F (a::bU):=by
 rw[fe h]
 simp only[mf]
 cases kT aS x<;>simp only[c7.bind]
 cases mf aS (l.drop (i+1))<;>rfl
theorem ye: ∀ {l:List au}{i:Nat}{x:au},nC l=true→l[i]? =some x→iC x=true
 |y::l,0,x,h,e=>by simp only[nC,aT0]at h; simp at e; subst e; exact h.1
 |y::l,i+1,x,h,e=>by simp only[nC,aT0]at h; exact ye (l:=l) (i:=i) h.2 (by simpa using e)
 |[],_,_,_,e=>by simp at e
theorem c7.xQ {α:Type}(r:c7 α):r.bind c7.ok=r:=by cases r<;>rfl
theorem F5 (aS:dT) (aE:aS.x.vars.length≤1000000000000): ∀(N:Nat) (x:au),x.cJ≤N→N≤1000000→iC x=true→aY aS9 168 [.ptr 0 0,.agg x.row] (iR aS) (RK sp aS (kT aS x)):=by
 obtain⟨iM,g,role,ps⟩:=aS
 intro N
 induction N with
 |zero=>intro x U; obtain⟨k,o,m,t,n,l⟩:=x; simp only[au.cJ]at U; omega
 |succ N b8=>
 intro x dl hb bm
 obtain⟨k,o,m,t,n,l⟩:=x
 have li:l.length≤1000000:=by have:=au.iE l; simp only[au.cJ]at dl; omega
 obtain⟨R,ac⟩: ∃R,R=kT ⟨iM,g,role,ps⟩ (.mk k o m t n l):=⟨_,rfl⟩
 rw[←ac]
 simp only[kT]at ac
 simp only[iC,aT0]at bm
 obtain⟨hU,mN⟩:=bm
 have rk:=aE5 ⟨iM,g,role,ps⟩ m aE
 unfold iR at rk ⊢
 cases ps with
 |none=>
  refine aY.intro bk Tryz.func168 Hq ?_
  unfold De Fg
  simp(disch:=omega)only[go_sem,simprocAttr]
  refine ap ?_
  refine ay.tx 2 0 1 3 (T:=60) (cs:=[.bn]) rfl rfl (by decide) ?_
  simp(disch:=omega)only[go_sem,simprocAttr]
  refine ay.dq (X:=Nat×List Int) (0,[]) (fun q=>[(0,.ptr 0 0),(3,.ptr 1 0),(5,.ptr 2 0),(10,.ak 6 (l.map au.row)),(11,.int .i64 ((l.map au.row).length:Int)),(12,.int .i64 (q.1:Int))]) (fun q=>[(0,186,ee ⟨iM,g,role,none⟩),(1,80,[.int .i64 k,.str o,.str m,.str t,.int .i64 n,.ak 6 (l.map au.row)]),(2,60,[.own 0 1 (q.2.map dv)])]) (fun q=>[(0,.bP 3 1 (q.2.map dv).length)]) (fun q=>q.1≤l.length∧q.2.length=q.1∧R=(mf ⟨iM,g,role,none⟩ (l.drop q.1)).bind fun bx=>rF ⟨iM,g,role,none⟩ k o m (q.2++bx)) (fun q=>l.length-q.1) ⟨aT8 _,rfl,ac⟩ ⟨rfl,rfl,rfl,rfl,rfl,rfl,trivial⟩ ⟨rfl,rfl,rfl,trivial⟩ ⟨rfl,trivial⟩ ?_
  clear ac
  rintro⟨i,acc⟩ ⟨ae,aL,ac⟩
  try simp only at ae aL ac ⊢
  cases ad:l[i]? with
  |some y=>
   have cL:=(List.getElem?_eq_some_iff.1 ad).1
   have d1:(i:Int)<((l.map au.row).length:Int):=by rw[aT1]; omega
   have hm:=au.lQ ad
   have nY:=b8 y (by simp only[au.cJ]at dl; omega) (by omega) (ye mN ad)
   rw[L1 ad]at ac
   clear b8 rk
   obtain⟨uk,B7,B6,xz,xy,B5⟩:=y
   simp(disch:=omega)only[go_sem,simprocAttr]at nY
   (have ax:=d1;refine bI ?_;clear ax)
   refine D.xD 0 pr nY ac (fun a h1 ac=> ?_) ?_
   ·refine ap ?_
    refine D.jz ?_
    refine ap ?_
    refine ay.gi (i+1,acc++[a]) ⟨by omega,by rw[aT2,aL]; rfl,by rw[ac]; simp only[aU9,aU4,aV1]⟩ ⟨rfl,rfl,rfl,rfl,rfl,by simp only[aT5]; rfl,trivial⟩ ⟨rfl,rfl,by simp only[aV4]; rfl,trivial⟩ ⟨by simp only[aV4,aT2]; rfl,trivial⟩ (by show l.length-(i+1)<l.length-i; omega)
   ·refine ap ?_
    refine D.jz ?_
    refine ap ?_
    first|exact ay.dead 1 0 rfl|exact ay.dead 2 0 rfl
  |none=>
   have ck:=List.getElem?_eq_none_iff.1 ad
   have ch:i=l.length:=by omega
   have d1: ¬(i:Int)<((l.map au.row).length:Int):=by rw[aT1]; omega
   rw[aT9 ck]at ac
   simp only[mf,c7.bind,aV7]at ac
   subst ch
   clear ad ck b8 ae mN
   have eE:=QY acc
   refine ay.Gj 2 0 1 0 (T:=60) (cs:=[.own 0 1 (acc.map dv)]) (rows:=acc.map dv) rfl rfl (fS acc) ?_
   simp(disch:=omega)only[go_sem,simprocAttr]
   by_cases J:k=2
   ·subst J
    (have ax:=d1;refine bI ?_;clear ax)
    refine D.r ?_
    rw[ac]
    exact⟨rfl,⟨rfl,trivial⟩,trivial⟩
   by_cases aA:k=3
   ·subst aA
    have ac:R=(rI ⟨iM,g,role,none⟩ m).bind c7.ok:=by rw[ac,c7.xQ]; rfl
    (have ax:=d1;refine bI ?_;clear ax)
    refine D.kh pr rk ac fun a h1 ac=> ?_
    refine ap ?_
    refine D.r ?_
    rw[ac]
    exact⟨rfl,⟨rfl,trivial⟩,trivial⟩
   simp only[rF,if_neg J,if_neg aA]at ac
   by_cases bz:k=4
   ·subst bz
    rw[if_pos rfl]at ac
    (have ax:=d1;refine bI ?_;clear ax)
    refine D.r3 ⟨[2],[]⟩ pC (eE 2 (by omega)) ?_
    refine ap ?_
    refine D.M ac fun h1 ac=> ?_
    refine ap ?_
    refine D.r ?_
    rw[ac]
    exact⟨rfl,⟨rfl,trivial⟩,trivial⟩
   rw[if_neg bz]at ac
   by_cases bZ:k=5
   ·subst bZ
    rw[if_pos rfl]at ac
    (have ax:=d1;refine bI ?_;clear ax)
    refine D.qY ⟨[2],[]⟩ pC (eE 1 (by omega)) ?_
    refine ap ?_
    refine D.gx ac fun h1 ac=> ?_
    refine ap ?_
    refine D.r ?_
    rw[ac]
    exact⟨rfl,⟨rfl,trivial⟩,trivial⟩
   rw[if_neg bZ]at ac
   by_cases ef:k=6
   rotate_left
   ·rw[if_neg ef]at ac
    simp only[gA,if_neg J,if_neg aA,if_neg bz,if_neg bZ,if_neg ef]at hU
    by_cases h1:k=1
    ·subst h1
     (have ax:=d1;refine bI ?_;clear ax)
     refine D.r ?_
     rw[ac]
     exact⟨rfl,⟨rfl,trivial⟩,trivial⟩
    ·rw[if_neg h1]at hU
     cases hU
   subst ef
   rw[if_pos rfl]at ac
   have tI:acc.length=2:=by
    simp only[gA,if_neg J,if_neg aA,if_neg bz,if_neg bZ,if_pos]at hU
    rw[if_neg (by decide)]at hU
    simp only[aT0,decide_eq_true_eq]at hU
    exact aL.trans hU.2.1
   clear hU
   obtain⟨nJ,qy,rfl⟩: ∃nJ qy,acc=[nJ,qy]:=by
    match acc,tI with
    |[nJ,qy],_=>exact⟨nJ,qy,rfl⟩
   clear aL tI
   simp only[List.headD_cons]at ac
   by_cases eS:o=[43]
   ·subst eS
    rw[if_neg (by simp),if_pos rfl]at ac
    (have ax:=d1;refine bI ?_;clear ax)
    refine D.qY ⟨[2],[]⟩ pC (eE nJ (by decide:2≤1000000000000)) ?_
    refine ap ?_
    refine D.gx ac fun h1 ac=> ?_
    refine ap ?_
    refine D.r ?_
    rw[ac]
    exact⟨rfl,⟨rfl,trivial⟩,trivial⟩
   rw[if_neg eS]at ac
   by_cases fq:o=[61,61]
   ·subst fq
    rw[if_neg (by simp)]at ac
    (have ax:=d1;have z2:=eS;refine fX ?_;clear ax z2)
    refine D.qY ⟨[2],[]⟩ pC (eE nJ (by decide:2≤1000000000000)) ?_
    refine ap ?_
    refine D.gx ac fun h1 ac=> ?_
    (have ax:=eS;refine bI ?_;clear ax)
    refine D.r ?_
    rw[ac]
    exact⟨rfl,⟨rfl,trivial⟩,trivial⟩
   by_cases lR:o=[33,61]
   ·subst lR
    rw[if_neg (by simp)]at ac
    (have ax:=d1;have z2:=eS;have z3:=fq;refine fY ?_;clear ax z2 z3)
    refine D.qY ⟨[2],[]⟩ pC (eE nJ (by decide:2≤1000000000000)) ?_
    refine ap ?_
    refine D.gx ac fun h1 ac=> ?_
    (have ax:=eS;refine bI ?_;clear ax)
    refine D.r ?_
    rw[ac]
    exact⟨rfl,⟨rfl,trivial⟩,trivial⟩
   rw[if_pos ⟨eS,fq,lR⟩]at ac
   (have ax:=d1;have z2:=eS;have z3:=And.intro fq lR;refine fY ?_;clear ax z2 z3)
   refine D.qY ⟨[2],[]⟩ pC (eE 1 (by decide:2≤1000000000000)) ?_
   refine ap ?_
   refine D.gx ac fun h1 ac=> ?_
   refine ap ?_
   refine D.r ?_
   rw[ac]
   exact⟨rfl,⟨rfl,trivial⟩,trivial⟩
 |some ln=>
  refine aY.intro bk Tryz.func168 Hq ?_
  unfold De Fg
  simp(disch:=omega)only[go_sem,simprocAttr]
  refine ap ?_
  refine ay.tx 2 0 1 3 (T:=60) (cs:=[.bn]) rfl rfl (by decide) ?_
  simp(disch:=omega)only[go_sem,simprocAttr]
  refine ay.dq (X:=Nat×List Int) (0,[]) (fun q=>[(0,.ptr 0 0),(3,.ptr 1 0),(5,.ptr 2 0),(10,.ak 6 (l.map au.row)),(11,.int .i64 ((l.map au.row).length:Int)),(12,.int .i64 (q.1:Int))]) (fun q=>[(0,186,ee ⟨iM,g,role,(some ln)⟩),(1,80,[.int .i64 k,.str o,.str m,.str t,.int .i64 n,.ak 6 (l.map au.row)]),(2,60,[.own 1 1 (q.2.map dv)])]) (fun q=>[(1,.bP 3 1 (q.2.map dv).length),(0,.bk 184 0 (ln.map kz))]) (fun q=>q.1≤l.length∧q.2.length=q.1∧R=(mf ⟨iM,g,role,(some ln)⟩ (l.drop q.1)).bind fun bx=>rF ⟨iM,g,role,(some ln)⟩ k o m (q.2++bx)) (fun q=>l.length-q.1) ⟨aT8 _,rfl,ac⟩ ⟨rfl,rfl,rfl,rfl,rfl,rfl,trivial⟩ ⟨rfl,rfl,rfl,trivial⟩ ⟨rfl,⟨rfl,trivial⟩⟩ ?_
  clear ac
  rintro⟨i,acc⟩ ⟨ae,aL,ac⟩
  try simp only at ae aL ac ⊢
  cases ad:l[i]? with
  |some y=>
   have cL:=(List.getElem?_eq_some_iff.1 ad).1
   have d1:(i:Int)<((l.map au.row).length:Int):=by rw[aT1]; omega
   have hm:=au.lQ ad
   have nY:=b8 y (by simp only[au.cJ]at dl; omega) (by omega) (ye mN ad)
   rw[L1 ad]at ac
   clear b8 rk
   obtain⟨uk,B7,B6,xz,xy,B5⟩:=y
   simp(disch:=omega)only[go_sem,simprocAttr]at nY
   (have ax:=d1;refine bI ?_;clear ax)
   refine D.xD 0 pr nY ac (fun a h1 ac=> ?_) ?_
   ·refine ap ?_
    refine D.jz ?_
    refine ap ?_
    refine ay.gi (i+1,acc++[a]) ⟨by omega,by rw[aT2,aL]; rfl,by rw[ac]; simp only[aU9,aU4,aV1]⟩ ⟨rfl,rfl,rfl,rfl,rfl,by simp only[aT5]; rfl,trivial⟩ ⟨rfl,rfl,by simp only[aV4]; rfl,trivial⟩ ⟨by simp only[aV4,aT2]; rfl,⟨rfl,trivial⟩⟩ (by show l.length-(i+1)<l.length-i; omega)
   ·refine ap ?_
    refine D.jz ?_
    refine ap ?_
    first|exact ay.dead 1 0 rfl|exact ay.dead 2 0 rfl
  |none=>
   have ck:=List.getElem?_eq_none_iff.1 ad
   have ch:i=l.length:=by omega
   have d1: ¬(i:Int)<((l.map au.row).length:Int):=by rw[aT1]; omega
   rw[aT9 ck]at ac
   simp only[mf,c7.bind,aV7]at ac
   subst ch
   clear ad ck b8 ae mN
   have eE:=QY acc
   refine ay.Gj 2 0 1 1 (T:=60) (cs:=[.own 1 1 (acc.map dv)]) (rows:=acc.map dv) rfl rfl (fS acc) ?_
   simp(disch:=omega)only[go_sem,simprocAttr]
   by_cases J:k=2
   ·subst J
    (have ax:=d1;refine bI ?_;clear ax)
    refine D.r ?_
    rw[ac]
    exact⟨rfl,⟨rfl,trivial⟩,⟨rfl,trivial⟩⟩
   by_cases aA:k=3
   ·subst aA
    have ac:R=(rI ⟨iM,g,role,(some ln)⟩ m).bind c7.ok:=by rw[ac,c7.xQ]; rfl
    (have ax:=d1;refine bI ?_;clear ax)
    refine D.kh pr rk ac fun a h1 ac=> ?_
    refine ap ?_
    refine D.r ?_
    rw[ac]
    exact⟨rfl,⟨rfl,trivial⟩,⟨rfl,trivial⟩⟩
   simp only[rF,if_neg J,if_neg aA]at ac
   by_cases bz:k=4
   ·subst bz
    rw[if_pos rfl]at ac
    (have ax:=d1;refine bI ?_;clear ax)
    refine D.r3 ⟨[2],[]⟩ pC (eE 2 (by omega)) ?_
    refine ap ?_
    refine D.M ac fun h1 ac=> ?_
    refine ap ?_
    refine D.r ?_
    rw[ac]
    exact⟨rfl,⟨rfl,trivial⟩,⟨rfl,trivial⟩⟩
   rw[if_neg bz]at ac
   by_cases bZ:k=5
   ·subst bZ
    rw[if_pos rfl]at ac
    (have ax:=d1;refine bI ?_;clear ax)
    refine D.qY ⟨[2],[]⟩ pC (eE 1 (by omega)) ?_
    refine ap ?_
    refine D.gx ac fun h1 ac=> ?_
    refine ap ?_
    refine D.r ?_
    rw[ac]
    exact⟨rfl,⟨rfl,trivial⟩,⟨rfl,trivial⟩⟩
   rw[if_neg bZ]at ac
   by_cases ef:k=6
   rotate_left
   ·rw[if_neg ef]at ac
    simp only[gA,if_neg J,if_neg aA,if_neg bz,if_neg bZ,if_neg ef]at hU
    by_cases h1:k=1
    ·subst h1
     (have ax:=d1;refine bI ?_;clear ax)
     refine D.r ?_
     rw[ac]
     exact⟨rfl,⟨rfl,trivial⟩,⟨rfl,trivial⟩⟩
    ·rw[if_neg h1]at hU
     cases hU
   subst ef
   rw[if_pos rfl]at ac
   have tI:acc.length=2:=by
    simp only[gA,if_neg J,if_neg aA,if_neg bz,if_neg bZ,if_pos]at hU
    rw[if_neg (by decide)]at hU
    simp only[aT0,decide_eq_true_eq]at hU
    exact aL.trans hU.2.1
   clear hU
   obtain⟨nJ,qy,rfl⟩: ∃nJ qy,acc=[nJ,qy]:=by
    match acc,tI with
    |[nJ,qy],_=>exact⟨nJ,qy,rfl⟩
   clear aL tI
   simp only[List.headD_cons]at ac
   by_cases eS:o=[43]
   ·subst eS
    rw[if_neg (by simp),if_pos rfl]at ac
    (have ax:=d1;refine bI ?_;clear ax)
    refine D.qY ⟨[2],[]⟩ pC (eE nJ (by decide:2≤1000000000000)) ?_
    refine ap ?_
    refine D.gx ac fun h1 ac=> ?_
    refine ap ?_
    refine D.r ?_
    rw[ac]
    exact⟨rfl,⟨rfl,trivial⟩,⟨rfl,trivial⟩⟩
   rw[if_neg eS]at ac
   by_cases fq:o=[61,61]
   ·subst fq
    rw[if_neg (by simp)]at ac
    (have ax:=d1;have z2:=eS;refine fX ?_;clear ax z2)
    refine D.qY ⟨[2],[]⟩ pC (eE nJ (by decide:2≤1000000000000)) ?_
    refine ap ?_
    refine D.gx ac fun h1 ac=> ?_
    (have ax:=eS;refine bI ?_;clear ax)
    refine D.r ?_
    rw[ac]
    exact⟨rfl,⟨rfl,trivial⟩,⟨rfl,trivial⟩⟩
   by_cases lR:o=[33,61]
   ·subst lR
    rw[if_neg (by simp)]at ac
    (have ax:=d1;have z2:=eS;have z3:=fq;refine fY ?_;clear ax z2 z3)
    refine D.qY ⟨[2],[]⟩ pC (eE nJ (by decide:2≤1000000000000)) ?_
    refine ap ?_
    refine D.gx ac fun h1 ac=> ?_
    (have ax:=eS;refine bI ?_;clear ax)
    refine D.r ?_
    rw[ac]
    exact⟨rfl,⟨rfl,trivial⟩,⟨rfl,trivial⟩⟩
   rw[if_pos ⟨eS,fq,lR⟩]at ac
   (have ax:=d1;have z2:=eS;have z3:=And.intro fq lR;refine fY ?_;clear ax z2 z3)
   refine D.qY ⟨[2],[]⟩ pC (eE 1 (by decide:2≤1000000000000)) ?_
   refine ap ?_
   refine D.gx ac fun h1 ac=> ?_
   refine ap ?_
   refine D.r ?_
   rw[ac]
   exact⟨rfl,⟨rfl,trivial⟩,⟨rfl,trivial⟩⟩
end
section
attribute [local go_sem] bQ.row dZ gz eb ht of_flat ca dB fS fz fy fR e8 fa eI dv Fd.row ep eN cG.row et.row bS.row ee sJ kb gV ir mY au.di ao.di au.cQ ao.cQ au.er ao.er tO
attribute [local go_sem] nZ sp sq ba1 aY0 aX2 aZ4
theorem aE2 (aS:dT) (aE:aS.x.vars.length≤1000000000000) (k:Int) (m:bT) (x:au) (t:Int) (a b:List ao) (U:x.cJ≤1000000) (bm:iC x=true):aY aS9 266 [.ptr 0 0,.agg (ao.row (.mk k m x t a b))] (iR aS) (RK nZ aS (s5 aS m x)):=by
 obtain⟨R,ac⟩: ∃R,R=s5 aS m x:=⟨_,rfl⟩
 rw[←ac]
 have aj:=F4 aS m aE
 have aq:=F5 aS aE 1000000 x U (by omega) bm
 simp only[s5]at ac
 obtain⟨iM,g,role,ps⟩:=aS
 generalize varOf (dT.mk iM g role ps).x.vars m=o at aj ac
 obtain⟨iY,jc,ja,jd,jb,iZ⟩:=x
 simp(disch:=omega)only[go_sem,simprocAttr]at aq
 unfold iR
 cases ps with
 |none=>
  have dK:(dT.mk iM g role none).look m=none→R=(e5 o.isSome m 10).bind fun _=>(kT (dT.mk iM g role none) (.mk iY jc ja jd jb iZ)).bind fun k=>(e5 (decide (k=(o.getD zF).gj)) m 11).bind c7.ok:=fun h=>by
   rw[ac,h]
   simp only[aY0,ba8,aZ2,c7.xQ]
   rfl
  clear ac
  refine aY.intro bk Tryz.func266 CE ?_
  unfold Ay BD
  simp(disch:=omega)only[go_sem,simprocAttr]
  refine ap ?_
  refine D.Mh ?_
  refine ap ?_
  refine D.r1 tu aj ?_
  refine ap ?_
  refine D.M (dK rfl) fun h1 ac=> ?_
  refine ap ?_
  refine D.M (R:=R) (b:=true) (s:=m) (e:=11) (F:=fun _=>R) rfl fun _ _=> ?_
  refine ap ?_
  refine D.xD 0 pr aq ac (fun a h1 ac=> ?_) ?_
  ·refine ap ?_
   refine D.gx ac fun h1 ac=> ?_
   refine ap ?_
   refine D.r ?_
   rw[ac]
   exact⟨rfl,⟨rfl,trivial⟩,trivial⟩
  ·refine ap ?_
   refine D.Ca (.cV []) 0 0 ?_
   refine ap ?_
   exact yc
 |some ln=>
  have dK:(dT.mk iM g role (some ln)).look m=none→R=(e5 o.isSome m 10).bind fun _=>(kT (dT.mk iM g role (some ln)) (.mk iY jc ja jd jb iZ)).bind fun k=>(e5 (decide (k=(o.getD zF).gj)) m 11).bind c7.ok:=fun h=>by
   rw[ac,h]
   simp only[aY0,ba8,aZ2,c7.xQ]
   rfl
  have kP: ∀z,(dT.mk iM g role (some ln)).look m=some z→R= .err m 11:=fun z h=>by
   rw[ac,h]
   rfl
  clear ac
  cases hm:kD m ln with
  |some z=>
   have ac:=kP z hm
   refine aY.intro bk Tryz.func266 CE ?_
   unfold Ay BD
   simp(disch:=omega)only[go_sem,simprocAttr]
   refine ap ?_
   refine D.vm (m:=ln) ?_
   simp only[hm,ba1,aX2]
   refine ap ?_
   refine D.r1 tu aj ?_
   refine ap ?_
   refine D.M (R:=R) (b:=true) (s:=m) (e:=10) (F:=fun _=>R) rfl fun _ _=> ?_
   refine ap ?_
   refine D.M (R:=R) (b:=false) (s:=m) (e:=11) (F:=fun _=>R) ac fun h=>nomatch h
  |none=>
   refine aY.intro bk Tryz.func266 CE ?_
   unfold Ay BD
   simp(disch:=omega)only[go_sem,simprocAttr]
   refine ap ?_
   refine D.vm (m:=ln) ?_
   simp only[hm,aY0,aZ4]
   refine ap ?_
   refine D.r1 tu aj ?_
   refine ap ?_
   refine D.M (dK hm) fun h1 ac=> ?_
   refine ap ?_
   refine D.M (R:=R) (b:=true) (s:=m) (e:=11) (F:=fun _=>R) rfl fun _ _=> ?_
   refine ap ?_
   refine D.xD 0 pr aq ac (fun a h1 ac=> ?_) ?_
   ·refine ap ?_
    refine D.gx ac fun h1 ac=> ?_
    refine ap ?_
    refine D.r ?_
    rw[ac]
    exact⟨rfl,⟨rfl,trivial⟩,⟨rfl,trivial⟩⟩
   ·refine ap ?_
    refine D.Ca (.cV []) 1 0 ?_
    refine ap ?_
    exact yc
theorem Qu {aS:dT}{l:List ao}{i:Nat}{x:ao}(h:l[i]? =some x):kH aS (l.drop i)=(sQ aS x).bind fun _=>kH aS (l.drop (i+1)):=by
 rw[fe h]
 rfl
theorem DG: ∀ {l:List ao}{i:Nat}{x:ao},lg l=true→l[i]? =some x→ku x=true
 |y::l,0,x,h,e=>by simp only[lg,aT0]at h; simp at e; subst e; exact h.1
 |y::l,i+1,x,h,e=>by simp only[lg,aT0]at h; exact DG (l:=l) (i:=i) h.2 (by simpa using e)
 |[],_,_,_,e=>by simp at e
theorem aD2 (aS:dT) (aE:aS.x.vars.length≤1000000000000): ∀(N:Nat) (l:List ao),ao.cf l≤N→N≤1000000→lg l=true→aY aS9 167 [.ptr 0 0,.ak 11 (l.map ao.row)] (iR aS) (RK nZ aS (kH aS l)):=by
 obtain⟨iM,g,role,ps⟩:=aS
 intro N
 induction N with
 |zero=>
  intro l dl hb bm
  have bb:l=[]:=by have:=ao.iE l; exact List.length_eq_zero_iff.1 (by omega)
  subst bb
  unfold iR
  cases ps with
  |none=>
   refine aY.intro bk bl0 Ah ?_
   unfold x6 zi
   simp(disch:=omega)only[go_sem,simprocAttr]
   refine ap ?_
   refine ay.dq (X:=Unit) () (fun _=>[(0,.ptr 0 0),(7,.int .i64 0),(8,.int .i64 0)]) (fun _=>[(0,186,ee ⟨iM,g,role,none⟩)]) (fun _=>[]) (fun _=>True) (fun _=>0) trivial ⟨rfl,rfl,rfl,trivial⟩ ⟨rfl,trivial⟩ trivial ?_
   rintro _ _
   refine ap ?_
   refine D.r ?_
   exact⟨rfl,⟨rfl,trivial⟩,trivial⟩
  |some ln=>
   refine aY.intro bk bl0 Ah ?_
   unfold x6 zi
   simp(disch:=omega)only[go_sem,simprocAttr]
   refine ap ?_
   refine ay.dq (X:=Unit) () (fun _=>[(0,.ptr 0 0),(7,.int .i64 0),(8,.int .i64 0)]) (fun _=>[(0,186,ee ⟨iM,g,role,(some ln)⟩)]) (fun _=>[(0,.bk 184 0 (ln.map kz))]) (fun _=>True) (fun _=>0) trivial ⟨rfl,rfl,rfl,trivial⟩ ⟨rfl,trivial⟩ ⟨rfl,trivial⟩ ?_
   rintro _ _
   refine ap ?_
   refine D.r ?_
   exact⟨rfl,⟨rfl,trivial⟩,⟨rfl,trivial⟩⟩
 |succ N b8=>
 intro l dl hb bm
 have li:l.length≤1000000:=by have:=ao.iE l; omega
 obtain⟨R,ac⟩: ∃R,R=kH ⟨iM,g,role,ps⟩ l:=⟨_,rfl⟩
 rw[←ac]
 have tn:=aE2 ⟨iM,g,role,ps⟩ aE
 have rl:=F5 ⟨iM,g,role,ps⟩ aE 1000000
 unfold iR
 cases ps with
 |none=>
  refine aY.intro bk bl0 Ah ?_
  unfold x6 zi
  simp(disch:=omega)only[go_sem,simprocAttr]
  refine ap ?_
  refine ay.dq (X:=Nat) 0 (fun i=>[(0,.ptr 0 0),(6,.ak 11 (l.map ao.row)),(7,.int .i64 ((l.map ao.row).length:Int)),(8,.int .i64 (i:Int))]) (fun _=>[(0,186,ee ⟨iM,g,role,none⟩)]) (fun _=>[]) (fun i=>i≤l.length∧R=kH ⟨iM,g,role,none⟩ (l.drop i)) (fun i=>l.length-i) ⟨aT8 _,ac⟩ ⟨rfl,rfl,rfl,rfl,trivial⟩ ⟨rfl,trivial⟩ trivial ?_
  clear ac
  rintro i ⟨ae,ac⟩
  try simp only at ae ac ⊢
  cases ad:l[i]? with
  |none=>
   have ck:=List.getElem?_eq_none_iff.1 ad
   have d1: ¬(i:Int)<((l.map ao.row).length:Int):=by rw[aT1]; omega
   rw[aT9 ck]at ac
   (have ax:=d1;refine bI ?_;clear ax)
   refine D.r ?_
   rw[ac]
   exact⟨rfl,⟨rfl,trivial⟩,trivial⟩
  |some y=>
   have cL:=(List.getElem?_eq_some_iff.1 ad).1
   have d1:(i:Int)<((l.map ao.row).length:Int):=by rw[aT1]; omega
   have hm:=ao.lQ ad
   have bg:=DG bm ad
   rw[Qu ad]at ac
   obtain⟨k,m,x,t,a,b⟩:=y
   have yB:x.cJ≤1000000:=by simp only[ao.cJ]at hm; omega
   simp only[ku,aT0]at bg
   obtain⟨yC,qw,En,Eo⟩:=bg
   have pq:=b8 a (by simp only[ao.cJ]at hm; omega) (by omega) En
   have iN:=b8 b (by simp only[ao.cJ]at hm; omega) (by omega) Eo
   have tn:=tn k m x t a b yB qw
   have rl:=rl x yB (by omega) qw
   clear b8 bm
   obtain⟨iY,jc,ja,jd,jb,iZ⟩:=x
   simp(disch:=omega)only[go_sem,simprocAttr]at tn
   simp(disch:=omega)only[go_sem,simprocAttr]at rl
   simp only[sQ]at ac
   by_cases br:k=1
   ·subst br
    rw[if_pos rfl]at ac
    (have ax:=d1;refine bI ?_;clear ax)
    refine D.kh qk tn ac fun _ h1 ac=> ?_
    refine ap ?_
    refine ay.gi (i+1) ⟨by omega,ac⟩ ⟨rfl,rfl,rfl,by simp only[aT5]; rfl,trivial⟩ ⟨rfl,trivial⟩ trivial (by show l.length-(i+1)<l.length-i; omega)
   rw[if_neg br]at ac
   by_cases bA:k=2
   ·subst bA
    rw[if_pos rfl]at ac
    simp only[c7.bind_assoc]at ac
    (have ax:=d1;refine bI ?_;clear ax)
    refine D.kh pr rl ac fun q h1 ac=> ?_
    refine ap ?_
    refine D.M ac fun h1 ac=> ?_
    refine ap ?_
    refine D.kh qk pq ac fun _ h1 ac=> ?_
    refine ap ?_
    refine D.kh qk iN ac fun _ h1 ac=> ?_
    refine ap ?_
    refine ay.gi (i+1) ⟨by omega,ac⟩ ⟨rfl,rfl,rfl,by simp only[aT5]; rfl,trivial⟩ ⟨rfl,trivial⟩ trivial (by show l.length-(i+1)<l.length-i; omega)
   rw[if_neg bA]at ac
   by_cases cy:k=3
   ·subst cy
    rw[if_pos rfl]at ac
    simp only[c7.bind_assoc]at ac
    (have ax:=d1;refine bI ?_;clear ax)
    refine D.kh pr rl ac fun q h1 ac=> ?_
    refine ap ?_
    refine D.M ac fun h1 ac=> ?_
    refine ap ?_
    refine D.kh qk pq ac fun _ h1 ac=> ?_
    refine ap ?_
    refine D.kh qk iN ac fun _ h1 ac=> ?_
    refine ap ?_
    refine ay.gi (i+1) ⟨by omega,ac⟩ ⟨rfl,rfl,rfl,by simp only[aT5]; rfl,trivial⟩ ⟨rfl,trivial⟩ trivial (by show l.length-(i+1)<l.length-i; omega)
   ·simp only[fk,if_neg br,if_neg bA,if_neg cy]at yC
    cases yC
 |some ln=>
  refine aY.intro bk bl0 Ah ?_
  unfold x6 zi
  simp(disch:=omega)only[go_sem,simprocAttr]
  refine ap ?_
  refine ay.dq (X:=Nat) 0 (fun i=>[(0,.ptr 0 0),(6,.ak 11 (l.map ao.row)),(7,.int .i64 ((l.map ao.row).length:Int)),(8,.int .i64 (i:Int))]) (fun _=>[(0,186,ee ⟨iM,g,role,(some ln)⟩)]) (fun _=>[(0,.bk 184 0 (ln.map kz))]) (fun i=>i≤l.length∧R=kH ⟨iM,g,role,(some ln)⟩ (l.drop i)) (fun i=>l.length-i) ⟨aT8 _,ac⟩ ⟨rfl,rfl,rfl,rfl,trivial⟩ ⟨rfl,trivial⟩ ⟨rfl,trivial⟩ ?_
  clear ac
  rintro i ⟨ae,ac⟩
  try simp only at ae ac ⊢
  cases ad:l[i]? with
  |none=>
   have ck:=List.getElem?_eq_none_iff.1 ad
   have d1: ¬(i:Int)<((l.map ao.row).length:Int):=by rw[aT1]; omega
   rw[aT9 ck]at ac
   (have ax:=d1;refine bI ?_;clear ax)
   refine D.r ?_
   rw[ac]
   exact⟨rfl,⟨rfl,trivial⟩,⟨rfl,trivial⟩⟩
  |some y=>
   have cL:=(List.getElem?_eq_some_iff.1 ad).1
   have d1:(i:Int)<((l.map ao.row).length:Int):=by rw[aT1]; omega
   have hm:=ao.lQ ad
   have bg:=DG bm ad
   rw[Qu ad]at ac
   obtain⟨k,m,x,t,a,b⟩:=y
   have yB:x.cJ≤1000000:=by simp only[ao.cJ]at hm; omega
   simp only[ku,aT0]at bg
   obtain⟨yC,qw,En,Eo⟩:=bg
   have pq:=b8 a (by simp only[ao.cJ]at hm; omega) (by omega) En
   have iN:=b8 b (by simp only[ao.cJ]at hm; omega) (by omega) Eo
   have tn:=tn k m x t a b yB qw
   have rl:=rl x yB (by omega) qw
   clear b8 bm
   obtain⟨iY,jc,ja,jd,jb,iZ⟩:=x
   simp(disch:=omega)only[go_sem,simprocAttr]at tn
   simp(disch:=omega)only[go_sem,simprocAttr]at rl
   simp only[sQ]at ac
   by_cases br:k=1
   ·subst br
    rw[if_pos rfl]at ac
    (have ax:=d1;refine bI ?_;clear ax)
    refine D.kh qk tn ac fun _ h1 ac=> ?_
    refine ap ?_
    refine ay.gi (i+1) ⟨by omega,ac⟩ ⟨rfl,rfl,rfl,by simp only[aT5]; rfl,trivial⟩ ⟨rfl,trivial⟩ ⟨rfl,trivial⟩ (by show l.length-(i+1)<l.length-i; omega)
   rw[if_neg br]at ac
   by_cases bA:k=2
   ·subst bA
    rw[if_pos rfl]at ac
    simp only[c7.bind_assoc]at ac
    (have ax:=d1;refine bI ?_;clear ax)
    refine D.kh pr rl ac fun q h1 ac=> ?_
    refine ap ?_
    refine D.M ac fun h1 ac=> ?_
    refine ap ?_
    refine D.kh qk pq ac fun _ h1 ac=> ?_
    refine ap ?_
    refine D.kh qk iN ac fun _ h1 ac=> ?_
    refine ap ?_
    refine ay.gi (i+1) ⟨by omega,ac⟩ ⟨rfl,rfl,rfl,by simp only[aT5]; rfl,trivial⟩ ⟨rfl,trivial⟩ ⟨rfl,trivial⟩ (by show l.length-(i+1)<l.length-i; omega)
   rw[if_neg bA]at ac
   by_cases cy:k=3
   ·subst cy
    rw[if_pos rfl]at ac
    simp only[c7.bind_assoc]at ac
    (have ax:=d1;refine bI ?_;clear ax)
    refine D.kh pr rl ac fun q h1 ac=> ?_
    refine ap ?_
    refine D.M ac fun h1 ac=> ?_
    refine ap ?_
    refine D.kh qk pq ac fun _ h1 ac=> ?_
    refine ap ?_
    refine D.kh qk iN ac fun _ h1 ac=> ?_
    refine ap ?_
    refine ay.gi (i+1) ⟨by omega,ac⟩ ⟨rfl,rfl,rfl,by simp only[aT5]; rfl,trivial⟩ ⟨rfl,trivial⟩ ⟨rfl,trivial⟩ (by show l.length-(i+1)<l.length-i; omega)
   ·simp only[fk,if_neg br,if_neg bA,if_neg cy]at yC
    cases yC
end
section
attribute [local go_sem] bQ.row dZ gz eb ht of_flat ca dB fS fz fy fR e8 fa eI dv Fd.row ep eN cG.row et.row bS.row ee sJ kb gV ir mY au.di ao.di au.cQ ao.cQ au.er ao.er tO
attribute [local go_sem] nZ sp sq ba1 aY0 aX2 aZ4
theorem ER:I.one (.dI (.map none))=true:=rfl
theorem Dy:I.flat (.dI (.map none))=true:=rfl
theorem EL:(Value.map none).oneCell'=true:=rfl
attribute [local go_sem] ER Dy EL
def AO (d:bS):I:= .agg (bS.row d)
theorem Kr:um AO:=fun d=>by simp only[AO,I.flat,b9,bS.row,fz,fy,fR,aT7]
attribute [local go_sem] AO hQ
theorem F3 (x:c9) (g:cI) (role:Int) (path peer:bT) (vc:Bool) (bw:g.decls.length≤1000000000000) (ab:g.cD.length≤1000000000000) (he:g.bY.length≤1000000000000):aY aS9 164 [.ptr 0 0,.str path,.str peer,.bool vc] (iR ⟨x,g,role,none⟩) (RK AO ⟨x,g,role,none⟩ (sD ⟨x,g,role,none⟩ path peer vc)):=by
 obtain⟨R,ac⟩: ∃R,R=sD ⟨x,g,role,none⟩ path peer vc:=⟨_,rfl⟩
 rw[←ac]
 simp only[sD]at ac
 have aj:=aD8 ⟨x,g,role,none⟩ path bw
 have aq:Pure aS9 93 [.ak 1 (g.cD.map ca),.str peer] (.int .i64 (fF g.cD peer)):=E7 g.cD peer (by unfold maxLen; omega)
 have an:=Bt (fun d:bS=>decide (d.name=path)) g.decls 0
 have aD:mF g path=cW (fun v=> !decide (v.name=path)) g.decls 0:=rfl
 rw[←aD]at an
 clear aD
 simp only at aj
 generalize mF g path=z at aj an ac
 generalize fF g.cD peer=p at aq ac
 have bD:=fun a b c=>aD9 (T:=74) (cs:=[.int .i64 a,.int .i64 b,.int .i64 c]) Y6 rfl rfl (fun e=>decide (e.gZ=a)&&(decide (e.l1=b)&&decide (e.ii=c))) g.bY he fun e _=>aE0 a b c e
 unfold iR
 refine aY.intro bk Tryz.func164 SP ?_
 unfold IX Oy
 simp(disch:=omega)only[go_sem,simprocAttr]
 refine ap ?_
 refine D.r1 (fun _=>rfl) aj ?_
 refine ap ?_
 refine D.M ac fun h1 ac=> ?_
 simp only[decide_eq_true_eq]at h1
 obtain⟨q,d,bs,DY,Lc,aM4⟩: ∃q d,z=((0+q:Nat):Int)∧g.decls[q]? =some d∧decide (d.name=path)=true∧g.decls.find? (fun d=>decide (d.name=path))=some d:=by
  rcases an with h|⟨h,_⟩
  ·exact h
  ·omega
 have Ys:z.toNat=q:=by omega
 rw[Ys,DY]at ac
 simp only at ac
 clear an
 refine ap ?_
 refine D.P (aq) ?_
 refine ap ?_
 refine D.M ac fun J ac=> ?_
 cases vc
 ·simp only[aU6,if_false]at ac
  refine ap ?_
  refine D.F ⟨[2],[]⟩ (bD role p z) ?_
  refine ap ?_
  refine D.M ac fun aA ac=> ?_
  have ae:z=(q:Int):=by omega
  refine ap ?_
  refine D.r ?_
  rw[ac]
  exact⟨rfl,⟨rfl,trivial⟩,trivial⟩
 ·simp only[if_true]at ac
  refine ap ?_
  refine D.F ⟨[2],[]⟩ (bD p role z) ?_
  refine ap ?_
  refine D.M ac fun aA ac=> ?_
  have ae:z=(q:Int):=by omega
  refine ap ?_
  refine D.r ?_
  rw[ac]
  exact⟨rfl,⟨rfl,trivial⟩,trivial⟩
theorem ae7 {vars:List bQ}{acc:List (bT×Int)}{ps:List bT}{b6:List Fd}{i:Nat}{n:bT}{f:Fd}(h1:ps[i]? =some n) (J:b6[i]? =some f):mU vars acc (ps.drop i) (b6.drop i)=(e5 (!(varOf vars n).isSome&& !(kD n acc).isSome) n 9).bind fun _=>mU vars (acc++[(n,f.kind)]) (ps.drop (i+1)) (b6.drop (i+1)):=by
 rw[fe h1,fe J]
 rfl
theorem ae6 {vars:List bQ}{acc:List (bT×Int)}{b6:List Fd}:mU vars acc [] b6= .ok acc:=by cases b6<;>rfl
theorem aG2 (x:c9) (g:cI) (role:Int) (h:bK) (ahead:List bK) (ad:x.vars.length≤1000000000000) (bw:g.decls.length≤1000000000000) (ab:g.cD.length≤1000000000000) (he:g.bY.length≤1000000000000) (WS:ahead.length≤1000000000000) (rC:h.ps.length≤1000000000) (hb:ao.cf h.body≤1000000) (bm:lg h.body=true):
  aY aS9 86 [.ptr 0 0,.agg (bK.row h),.ak 4 (ahead.map bK.row)] (iR ⟨x,g,role,none⟩) (RK nZ ⟨x,g,role,none⟩ (ma ⟨x,g,role,none⟩ ahead h)):=by
 obtain⟨R,ac⟩: ∃R,R=ma ⟨x,g,role,none⟩ ahead h:=⟨_,rfl⟩
 rw[←ac]
 simp only[ma]at ac
 have aj:=F3 x g role h.dw h.peer true bw ab he
 have aq:=aG4 (T:=84) (cs:=bK.row h) Y1 (by simp only[gz,dE,I.dC,dB,ao.cQ,aT7]) (by rfl) (fun o=>decide (o.dw=h.dw)&&decide (o.peer=h.peer)) ahead WS fun o _=>aD1 h o
 have bD:=fun m=>aD2 ⟨x,g,role,some m⟩ ad 1000000 h.body hb (by omega) bm
 have da:=fun m n=>F4 ⟨x,g,role,some m⟩ n ad
 generalize (ahead.any fun o=>decide (o.dw=h.dw)&&decide (o.peer=h.peer))=FV at aq ac
 obtain⟨dw,peer,hp,body⟩:=h
 simp only at rC hb bm
 simp(disch:=omega)only[go_sem,simprocAttr]at aq
 unfold iR
 refine aY.intro bk Tryz.func86 Ue ?_
 unfold tj PS
 simp(disch:=omega)only[go_sem,simprocAttr]
 refine ap ?_
 refine D.kh Kr aj ac fun d h1 ac=> ?_
 simp only at ac
 rw[show decide (hp.length=d.fields.length)=decide (((hp.map ca).length:Int)=((d.fields.map Fd.row).length:Int)) from decide_eq_decide.2 (by simp only[aT1]; omega)]at ac
 refine ap ?_
 refine D.Ce ⟨[1],[]⟩ aq ?_
 refine ap ?_
 refine D.gx ac fun J ac=> ?_
 refine ap ?_
 refine D.M ac fun aA ac=> ?_
 have hlen:hp.length=d.fields.length:=by
  simp only[decide_eq_true_eq,aT1]at aA; omega
 refine ap ?_
 refine D.mk ?_
 refine ap ?_
 have aL4:d.row=[.str d.name,.ak 4 (d.fields.map Fd.row),.int .i64 d.first,.ak 3 (d.eM.map ep),.ak 2 (d.eqs.map eN)]:=rfl
 refine ay.dq (X:=Nat×List (bT×Int)) (0,[]) (fun q=>[(0,.ptr 0 0),(4,.ptr 1 0),(6,.ptr 2 0),(43,.ak 1 (hp.map ca)),(44,.int .i64 ((hp.map ca).length:Int)),(45,.int .i64 (q.1:Int))]) (fun q=>[(0,186,ee ⟨x,g,role,some q.2⟩),(1,84,[.str dw,.str peer,.ak 1 (hp.map ca),.ak 11 (body.map ao.row)]),(2,72,[.str d.name,.ak 4 (d.fields.map Fd.row),.int .i64 d.first,.ak 3 (d.eM.map ep),.ak 2 (d.eqs.map eN)])]) (fun q=>[(0,.bk 184 0 (q.2.map kz))]) (fun q=>q.1≤hp.length∧R=(mU x.vars q.2 (hp.drop q.1) (d.fields.drop q.1)).bind fun m=>kH ⟨x,g,role,some m⟩ body) (fun q=>hp.length-q.1) ⟨aT8 _,ac⟩ ⟨rfl,rfl,rfl,rfl,rfl,rfl,trivial⟩ ⟨rfl,rfl,rfl,trivial⟩ ⟨rfl,trivial⟩ ?_
 clear ac
 rintro⟨i,acc⟩ ⟨ae,ac⟩
 try simp only at ae ac ⊢
 cases hw:hp[i]? with
 |none=>
  have ck:=List.getElem?_eq_none_iff.1 hw
  have d1: ¬(i:Int)<((hp.map ca).length:Int):=by rw[aT1]; omega
  rw[aT9 ck,ae6]at ac
  simp only[c7.bind]at ac
  have bD:=bD acc
  have ac:R=(kH ⟨x,g,role,some acc⟩ body).bind c7.ok:=by rw[ac,c7.xQ]
  clear aj aq da
  (have ax:=d1;refine bI ?_;clear ax)
  refine D.kh qk bD ac fun _ h1 ac=> ?_
  refine ap ?_
  refine D.r ?_
  rw[ac]
  exact⟨rfl,⟨rfl,trivial⟩,trivial⟩
 |some n=>
  have cL:=(List.getElem?_eq_some_iff.1 hw).1
  have d1:(i:Int)<((hp.map ca).length:Int):=by rw[aT1]; omega
  obtain⟨f,aO⟩: ∃f,d.fields[i]? =some f:=⟨_,aU0 (by omega)⟩
  rw[ae7 hw aO,c7.bind_assoc]at ac
  have da:=da acc n
  simp only at da
  generalize varOf x.vars n=o at da ac
  clear aj aq bD
  cases o with
  |some v=>
   have ac:R=(e5 false n 9).bind fun _=>R:=by
    rw[ac]
    rfl
   (have ax:=d1;refine bI ?_;clear ax)
   refine D.r1 tu da ?_
   refine ap ?_
   refine D.vm (m:=acc) ?_
   refine ap ?_
   refine D.M (R:=R) (b:=false) (s:=n) (e:=9) (F:=fun _=>R) ac fun h=>nomatch h
  |none=>
  cases hm:kD n acc with
  |some z=>
   have ac:R=(e5 false n 9).bind fun _=>R:=by
    rw[ac,hm]
    rfl
   (have ax:=d1;refine bI ?_;clear ax)
   refine D.r1 tu da ?_
   refine ap ?_
   refine D.vm (m:=acc) ?_
   simp only[hm,ba1,aX2]
   refine ap ?_
   refine D.M (R:=R) (b:=false) (s:=n) (e:=9) (F:=fun _=>R) ac fun h=>nomatch h
  |none=>
   have ac:R=(mU x.vars (acc++[(n,f.kind)]) (hp.drop (i+1)) (d.fields.drop (i+1))).bind fun m=>kH ⟨x,g,role,some m⟩ body:=by
    rw[ac,hm]
    rfl
   (have ax:=d1;refine bI ?_;clear ax)
   refine D.r1 tu da ?_
   refine ap ?_
   refine D.vm (m:=acc) ?_
   simp only[hm,aY0,aZ4]
   refine ap ?_
   refine D.M (R:=R) (b:=true) (s:=n) (e:=9) (F:=fun _=>R) rfl fun _ _=> ?_
   refine ap ?_
   refine D.mp (m:=acc) hm ?_
   refine ap ?_
   refine ay.gi (i+1,acc++[(n,f.kind)]) ⟨by omega,ac⟩ ⟨rfl,rfl,rfl,rfl,rfl,by simp only[aT5]; rfl,trivial⟩ ⟨rfl,rfl,rfl,trivial⟩ ⟨rfl,trivial⟩ (by show hp.length-(i+1)<hp.length-i; omega)
theorem RP {aS:dT}{dw:bT}{l:List au}{b6:List Fd}{i:Nat}{x:au}{f:Fd}(h1:l[i]? =some x) (J:b6[i]? =some f):nk aS dw (l.drop i) (b6.drop i)=(kT aS x).bind fun k=>(e5 (decide (k=f.kind)) dw 11).bind fun _=>nk aS dw (l.drop (i+1)) (b6.drop (i+1)):=by
 rw[fe h1,fe J]
 rfl
theorem RO {aS:dT}{dw:bT}{b6:List Fd}:nk aS dw [] b6= .ok ():=by cases b6<;>rfl
theorem aI3 {aS:dT}{l:List au}{i:Nat}{x:au}(h1:l[i]? =some x):o9 aS (l.drop i)=(kT aS x).bind fun k=>(e5 (decide (k=1)) [119,104,101,114,101] 11).bind fun _=>o9 aS (l.drop (i+1)):=by
 rw[fe h1]
 rfl
theorem aG3 (x:c9) (g:cI) (role:Int) (o:cC) (ad:x.vars.length≤1000000000000) (bw:g.decls.length≤1000000000000) (ab:g.cD.length≤1000000000000) (he:g.bY.length≤1000000000000) (aL:au.cf o.args≤1000000) (hw:au.cf o.eF≤1000000) (hU:nC o.args=true) (mN:nC o.eF=true):
  aY aS9 87 [.ptr 0 0,.agg (cC.row o)] (iR ⟨x,g,role,none⟩) (RK nZ ⟨x,g,role,none⟩ (pG ⟨x,g,role,none⟩ o)):=by
 obtain⟨R,ac⟩: ∃R,R=pG ⟨x,g,role,none⟩ o:=⟨_,rfl⟩
 rw[←ac]
 simp only[pG]at ac
 have aj:=F3 x g role o.dw o.peer false bw ab he
 have aq:=F5 ⟨x,g,role,none⟩ ad 1000000
 obtain⟨dw,peer,args,eF⟩:=o
 simp only at aL hw hU mN
 have aO3:args.length≤1000000:=by have:=au.iE args; omega
 have lw:eF.length≤1000000:=by have:=au.iE eF; omega
 unfold iR
 refine aY.intro bk Tryz.func87 Uf ?_
 unfold tk PT
 simp(disch:=omega)only[go_sem,simprocAttr]
 refine ap ?_
 refine D.kh Kr aj ac fun d h1 ac=> ?_
 clear aj h1
 simp only at ac
 rw[show decide (args.length=d.fields.length)=decide (((args.map au.row).length:Int)=((d.fields.map Fd.row).length:Int)) from decide_eq_decide.2 (by simp only[aT1]; omega)]at ac
 refine ap ?_
 refine D.M ac fun aA ac=> ?_
 have hlen:args.length=d.fields.length:=by
  simp only[decide_eq_true_eq,aT1]at aA; omega
 clear aA
 refine ap ?_
 refine ay.dq (X:=Nat) 0 (fun i=>[(0,.ptr 0 0),(3,.ptr 1 0),(4,.ptr 2 0),(26,.ak 6 (args.map au.row)),(27,.int .i64 ((args.map au.row).length:Int)),(28,.int .i64 (i:Int))]) (fun _=>[(0,186,ee ⟨x,g,role,none⟩),(1,148,[.str dw,.str peer,.ak 6 (args.map au.row),.ak 6 (eF.map au.row)]),(2,72,[.str d.name,.ak 4 (d.fields.map Fd.row),.int .i64 d.first,.ak 3 (d.eM.map ep),.ak 2 (d.eqs.map eN)])]) (fun _=>[]) (fun i=>i≤args.length∧R=(nk ⟨x,g,role,none⟩ dw (args.drop i) (d.fields.drop i)).bind fun _=>o9 ⟨x,g,role,none⟩ eF) (fun i=>args.length-i) ⟨aT8 _,ac⟩ ⟨rfl,rfl,rfl,rfl,rfl,rfl,trivial⟩ ⟨rfl,rfl,rfl,trivial⟩ trivial ?_
 clear ac
 rintro i ⟨ae,ac⟩
 try simp only at ae ac ⊢
 cases aD:args[i]? with
 |some y=>
  have cL:=(List.getElem?_eq_some_iff.1 aD).1
  have d1:(i:Int)<((args.map au.row).length:Int):=by rw[aT1]; omega
  obtain⟨f,aO⟩: ∃f,d.fields[i]? =some f:=⟨_,aU0 (by omega)⟩
  rw[RP aD aO,c7.bind_assoc]at ac
  simp only[c7.bind_assoc]at ac
  have nY:=aq y (by have:=au.lQ aD; omega) (by omega) (ye hU aD)
  obtain⟨uk,B7,B6,xz,xy,B5⟩:=y
  simp(disch:=omega)only[go_sem,simprocAttr]at nY
  (have ax:=d1;refine bI ?_;clear ax)
  refine D.xD 0 pr nY ac (fun q h1 ac=> ?_) ?_
  all_goals clear aD
  ·refine ap ?_
   refine D.gx ac fun h1 ac=> ?_
   refine ap ?_
   refine ay.gi (i+1) ⟨by omega,ac⟩ ⟨rfl,rfl,rfl,rfl,rfl,by simp only[aT5]; rfl,trivial⟩ ⟨rfl,rfl,rfl,trivial⟩ trivial (by show args.length-(i+1)<args.length-i; omega)
  ·refine ap ?_
   refine D.Ca (.cV []) 0 0 ?_
   refine ap ?_
   exact yc
 |none=>
 have ck:=List.getElem?_eq_none_iff.1 aD
 have ch:i=args.length:=by omega
 subst ch
 have d1: ¬(args.length:Int)<((args.map au.row).length:Int):=by rw[aT1]; omega
 rw[aT9 (aT4 _),RO]at ac
 simp only[c7.bind]at ac
 clear aD ck ae
 (have ax:=d1;refine bI ?_;clear ax)
 refine ay.dq (X:=Nat) 0 (fun i=>[(0,.ptr 0 0),(49,.ak 6 (eF.map au.row)),(50,.int .i64 ((eF.map au.row).length:Int)),(51,.int .i64 (i:Int))]) (fun _=>[(0,186,ee ⟨x,g,role,none⟩)]) (fun _=>[]) (fun i=>i≤eF.length∧R=o9 ⟨x,g,role,none⟩ (eF.drop i)) (fun i=>eF.length-i) ⟨aT8 _,ac⟩ ⟨rfl,rfl,rfl,rfl,trivial⟩ ⟨rfl,trivial⟩ trivial ?_
 clear ac
 rintro i ⟨ae,ac⟩
 try simp only at ae ac ⊢
 cases aD:eF[i]? with
 |some y=>
  have cL:=(List.getElem?_eq_some_iff.1 aD).1
  have d2:(i:Int)<((eF.map au.row).length:Int):=by rw[aT1]; omega
  rw[aI3 aD]at ac
  have nY:=aq y (by have:=au.lQ aD; omega) (by omega) (ye mN aD)
  obtain⟨uk,B7,B6,xz,xy,B5⟩:=y
  simp(disch:=omega)only[go_sem,simprocAttr]at nY
  (have ax:=d2;refine bI ?_;clear ax)
  refine D.kh pr nY ac fun q h1 ac=> ?_
  refine ap ?_
  refine D.M ac fun h1 ac=> ?_
  refine ap ?_
  refine ay.gi (i+1) ⟨by omega,ac⟩ ⟨rfl,rfl,rfl,by simp only[aT5]; rfl,trivial⟩ ⟨rfl,trivial⟩ trivial (by show eF.length-(i+1)<eF.length-i; omega)
 |none=>
  have ck:=List.getElem?_eq_none_iff.1 aD
  have d2: ¬(i:Int)<((eF.map au.row).length:Int):=by rw[aT1]; omega
  rw[aT9 ck]at ac
  (have ax:=d2;refine bI ?_;clear ax)
  refine D.r ?_
  rw[ac]
  exact⟨rfl,⟨rfl,trivial⟩,trivial⟩
end
section
attribute [local go_sem] bQ.row dZ gz eb ht of_flat ca dB fS fz fy fR e8 fa eI dv Fd.row ep eN cG.row et.row bS.row ee sJ kb gV ir mY au.di ao.di au.cQ ao.cQ au.er ao.er tO
attribute [local go_sem] nZ sp sq ba1 aY0 aX2 aZ4 ER Dy EL hQ
theorem Q4 (l:List bQ) (i:Nat):eD ((l.map bQ.row).take i)=true:=by rw[←bb3]; exact dZ _
theorem K6 (l:List bK) (i:Nat):eD ((l.map bK.row).take i)=true:=by rw[←bb3]; exact eb _
attribute [local go_sem] Q4 K6
theorem aG7 {l:List bQ}{i:Nat}{v:bQ}(h:l[i]? =some v):o8 (l.take i) (l.drop i)=(e5 (!(l.take i).any fun w=>decide (w.name=v.name)) v.name 9).bind fun _=>(e5 (nN v.gj v.cm v.ae&&wv v) v.name 11).bind fun _=>o8 (l.take (i+1)) (l.drop (i+1)):=by
 rw[fe h,aW8,h]
 rfl
theorem aG1 (x:c9) (g:cI) (role:Int) (ad:x.vars.length≤1000000000000):aY aS9 85 [.ptr 0 0] (iR ⟨x,g,role,none⟩) (RK nZ ⟨x,g,role,none⟩ (o8 [] x.vars)):=by
 obtain⟨R,ac⟩: ∃R,R=o8 [] x.vars:=⟨_,rfl⟩
 rw[←ac]
 unfold iR
 refine aY.intro bk Tryz.func85 Ud ?_
 unfold nX PR
 simp(disch:=omega)only[go_sem,simprocAttr]
 refine ap ?_
 refine ay.dq (X:=Nat) 0 (fun i=>[(0,.ptr 0 0),(9,.ak 7 (x.vars.map bQ.row)),(10,.int .i64 ((x.vars.map bQ.row).length:Int)),(11,.int .i64 (i:Int))]) (fun _=>[(0,186,ee ⟨x,g,role,none⟩)]) (fun _=>[]) (fun i=>i≤x.vars.length∧R=o8 (x.vars.take i) (x.vars.drop i)) (fun i=>x.vars.length-i) ⟨aT8 _,ac⟩ ⟨rfl,rfl,rfl,rfl,trivial⟩ ⟨rfl,trivial⟩ trivial ?_
 clear ac
 rintro i ⟨ae,ac⟩
 try simp only at ae ac ⊢
 cases aD:x.vars[i]? with
 |none=>
  have ck:=List.getElem?_eq_none_iff.1 aD
  have d1: ¬(i:Int)<((x.vars.map bQ.row).length:Int):=by rw[aT1]; omega
  rw[aT9 ck]at ac
  (have ax:=d1;refine bI ?_;clear ax)
  refine D.r ?_
  rw[ac]
  exact⟨rfl,⟨rfl,trivial⟩,trivial⟩
 |some v=>
  have cL:=(List.getElem?_eq_some_iff.1 aD).1
  have d1:(i:Int)<((x.vars.map bQ.row).length:Int):=by rw[aT1]; omega
  rw[aG7 aD]at ac
  have aj:=aD0 (T:=146) (cs:=bQ.row v) Y0 rfl rfl (fun w=>decide (w.name=v.name)) (x.vars.take i) (by rw[aX3]; omega) fun w _=>aC9 w v
  have aq:=QW v.gj v.cm v.ae
  have bD:=aC3 v
  rw[bb3]at aj
  generalize ((x.vars.take i).any fun w=>decide (w.name=v.name))=FV at aj ac
  generalize nN v.gj v.cm v.ae=ff at aq ac
  generalize wv v=jf at bD ac
  (have ax:=d1;refine bI ?_;clear ax)
  (apply ai.zq (i);(·simp(disch:=omega)only[go_sem,simprocAttr]<;>with_reducible rfl);(·simp(disch:=omega)only[go_sem,simprocAttr]<;>with_reducible rfl);(·omega);(·(try simp only[aT1]);omega))
  refine ap ?_
  refine D.Ce ⟨[1],[]⟩ aj ?_
  refine ap ?_
  refine D.gx ac fun h1 ac=> ?_
  cases ff with
  |false=>
   simp only[ba2]at ac
   refine ay.kG (anns:=[.bool false,.undef]) ?_
   refine dM ?_
   refine D.ig (aq) ?_
   refine dM ?_
   refine D.gx ac fun h1 ac=> ?_
   cases h1
  |true=>
   simp only[aU7]at ac
   refine ay.kG (anns:=[.bool true,.bool jf]) ?_
   refine dM ?_
   refine D.ig (aq) ?_
   refine dM ?_
   refine D.ig (bD) ?_
   refine dM ?_
   refine D.gx ac fun h1 ac=> ?_
   refine ap ?_
   refine ay.gi (i+1) ⟨by omega,ac⟩ ⟨rfl,rfl,rfl,by simp only[aT5]; rfl,trivial⟩ ⟨rfl,trivial⟩ trivial (by show x.vars.length-(i+1)<x.vars.length-i; omega)
theorem F6 (x:c9) (g:cI) (ab:g.cD.length≤1000000000000):Pure aS9 33 [x.eU,g.eU] (.cV [.int .i64 (max (fF g.cD x.role) 0),.bool (decide (0≤fF g.cD x.role))]):=by
 have aq:Pure aS9 93 [.ak 1 (g.cD.map ca),.str x.role] (.int .i64 (fF g.cD x.role)):=E7 g.cD x.role (by unfold maxLen; omega)
 generalize fF g.cD x.role=z at aq ⊢
 rw[nO]
 simp only[cI.eU,cI.cells]
 refine dt bk Tryz.func33 TL (by simp only[b9,I.flat,dZ,eb,of_flat,dB,eI,e8,fa,aT7]) rfl ?_
 unfold jD Pt
 simp(disch:=omega)only[go_sem,simprocAttr]
 refine ap ?_
 refine D.P (aq) ?_
 refine ap ?_
 exact D.rx
end
section
attribute [local go_sem] bQ.row dZ gz eb ht of_flat ca dB fS fz fy fR e8 fa eI dv Fd.row ep eN cG.row et.row bS.row ee sJ kb gV ir mY au.di ao.di au.cQ ao.cQ au.er ao.er tO
attribute [local go_sem] nZ sp sq ba1 aY0 aX2 aZ4 ER Dy EL hQ Q4 K6
section
variable {cN:Program}{anns:List I}{l:List bC}{env:Env}{K:Env→aJ→Prop}{Rp:I→aJ→Prop}{f:FuncId}{args:List aH}{dA:List I}{α β:Type}{g:α→I}{ox:c7 α}{R:c7 β}{d:Nat}{c:aJ}{others:List Nat}
theorem D.Gu {b:Bool}{s:bT}{e:Int}{F:Unit→c7 β}{l:List bC}{env:Env}{args:List aH}(ac:R=(e5 b s e).bind F) (hp:R= .err s e→Rp (lf s e) (c.jR ⟨[],[]⟩ [] [])) (hk:b=true→R=F ()→ai aS9 anns l ((d,.cV [])::env) c K Rp)
  (aL:args.map (bi env)=[.bool b,.str s,.int .i64 e]:=by simp (disch:=omega) only[go_sem,simprocAttr]<;>with_reducible rfl):
  ai aS9 anns (⟨some d,none,.call 84 args⟩::l) env c K Rp:=by
 cases b with
 |true=>exact ai.EZ (F9 s e) aL rfl rfl rfl (hk rfl (by rw[ac]; rfl))
 |false=>
  refine ai.x0 rfl (aY.uH (c:=c) ⟨[],[]⟩ (F8 s e) rfl rfl rfl trivial trivial rfl rfl rfl rfl) (by rw[aL]; rfl) (fun v c1 q=> ?_) (fun v c1 q=> ?_)
  ·cases q.1
  ·obtain⟨b5,cA⟩:=q
   cases b5
   subst cA
   exact hp (by rw[ac]; rfl)
theorem D.Rs {aN:List bj}{cF t0:Nat}{k:List e7}{Q:Out→aJ→Prop}{fU dk:Nat}{cj:ey}{cv:eA}(s:bl){fg:ey}{fr:eA}{n q:Nat}{x:I}(h:aY cN f dA (aJ.of n q fg fr) (q1 x)) (hk:Q (.dW x) ((aJ.of fU dk cj cv).jR s [] []))
  (ah:(s.b.length==n&&(s.t.length==q&&(nodupB s.b&&(nodupB s.t&&(s.b.all (fun x=>aW7 x fU)&&(s.t.all (fun x=>aW7 x dk)&&(dE n q dA&&(eP n q fg&&(eQ n q fr&&x.dC n q)))))))))=true:=by simp (disch:=omega) only[go_sem,simprocAttr]<;>rfl) (eh:mL (aJ.of fU dk cj cv).H.aV s fg:=by repeat first|exact trivial|refine⟨rfl,?_⟩) (dj:mM (aJ.of fU dk cj cv).H.tok s fr:=by repeat first|exact trivial|refine⟨rfl,?_⟩) (aL:args.map (bi env)=eO s dA:=by simp (disch:=omega) only[go_sem,simprocAttr]<;>rfl) (ab:x.ek s=x:=by rfl):
  ai cN [] [⟨some d,none,.fQ [] f args⟩] env (aJ.of fU dk cj cv) (fun e c1=>ay cN aN cF t0 k Q e c1) (fun v c1=>Q (.dW v) c1):=by
 simp only[aT0,beq_iff_eq]at ah
 obtain⟨c1,c2,eV,gn,kL,lG,np,oD,l5,nn⟩:=ah
 have cM:aY cN f (args.map (bi env)) (aJ.of fU dk cj cv) (fun o cB=>o= .dW x∧cB=(aJ.of fU dk cj cv).jR s [] []):=by
  rw[aL]
  exact aY.uH s h c1 c2 (by rw[eV,gn]; simp only[show (aJ.of fU dk cj cv).bN=fU from rfl,show (aJ.of fU dk cj cv).bf=dk from rfl,kL,lG]; rfl) eh dj (by rw[np,oD,l5]; rfl) nn ab rfl
 refine ai.pH (S:=fun bp cB=>bp= .cV []∧cB=(aJ.of fU dk cj cv).fw (.bP 0 0 0)) rfl rfl (gP.mono (gP.CJ (others:=[]) cM rfl rfl rfl fun s an=>by cases an) (fun _ _ h=>h) fun v cB q=> ?_) fun bp cB q=> ?_
 ·rw[q.1,q.2]
  exact hk
 ·rw[q.1,q.2,y5]
  exact ai.nil yc
end
theorem WZ {aS:dT}{l:List bK}{i:Nat}{h:bK}(a8:l[i]? =some h):n5 aS (l.take i) (l.drop i)=(ma aS (l.take i) h).bind fun _=>n5 aS (l.take (i+1)) (l.drop (i+1)):=by
 rw[fe a8,aW8,a8]
 rfl
theorem ab6 {aS:dT}{l:List cC}{i:Nat}{o:cC}(a8:l[i]? =some o):oo aS (l.drop i)=(pG aS o).bind fun _=>oo aS (l.drop (i+1)):=by
 rw[fe a8]
 rfl
def wb (q:bT×Int):I:= .cV [.str q.1,.int .i64 q.2]
theorem aE6 (x:c9) (g:cI) (hb:pV x) (bw:g.decls.length≤1000000000) (ab:g.cD.length≤1000000000) (he:g.bY.length≤1000000000) (wq:Pure aS9 82 [g.eU] (.bool (kJ g))):Pure aS9 31 [x.eU,g.eU] (wb (iz x g)):=by
 have Db:=NV x hb
 have jD:=F6 x g (by omega)
 obtain⟨S,kP⟩: ∃S,S=iz x g:=⟨_,rfl⟩
 rw[←kP]
 have mi:=hb.mi
 have mh:=hb.mh
 have no:=hb.no
 rw[nO]at Db jD ⊢
 simp only[cI.eU,cI.cells]at wq jD ⊢
 refine dt bk Tryz.func31 TI (by simp only[b9,I.flat,dZ,eb,of_flat,dB,eI,e8,fa,aT7]) rfl ?_
 unfold j0 Pq
 simp(disch:=omega)only[go_sem,simprocAttr]
 refine ap ?_
 refine D.P (Db) ?_
 cases hU:sr x with
 |false=>
  refine ap ?_
  refine D.r ?_
  rw[kP]
  simp only[iz,hU,ba2]
  exact⟨_,rfl,.aQ rfl rfl,trivial,trivial⟩
 |true=>
 refine ap ?_
 refine D.P (wq) ?_
 cases mN:kJ g with
 |false=>
  refine ap ?_
  refine D.r ?_
  rw[kP]
  simp only[iz,hU,mN,bc4]
  exact⟨_,rfl,.aQ rfl rfl,trivial,trivial⟩
 |true=>
 obtain⟨R,ac⟩: ∃R,R=rL x g:=⟨_,rfl⟩
 have WI:R= .ok ()→S=([],0):=fun h=>by
  rw[kP]
  simp only[iz,hU,mN,←ac,h]
  rfl
 have WJ: ∀n e,R= .err n e→S=(n,e):=fun n e h=>by
  rw[kP]
  simp only[iz,hU,mN,←ac,h]
  rfl
 clear kP wq Db
 simp only[rL]at ac
 have wE:uw x=true:=by simp only[sr,aT0]at hU; exact hU.2.1
 simp only[uw,aT0,List.all_eq_true]at wE
 obtain⟨_,KH,go⟩:=wE
 have nX:=aG1 x g (max (fF g.cD x.role) 0) (by omega)
 have tj: ∀(h:bK),h∈x.an→∀i,aY aS9 86 [.ptr 0 0,.agg (bK.row h),.ak 4 ((x.an.map bK.row).take i)] (iR ⟨x,g,max (fF g.cD x.role) 0,none⟩) (RK nZ ⟨x,g,max (fF g.cD x.role) 0,none⟩ (ma ⟨x,g,max (fF g.cD x.role) 0,none⟩ (x.an.take i) h)):=fun h hm i=>by
  have bs:=KH h hm
  simp only[pv,aT0,decide_eq_true_eq]at bs
  have:=aG2 x g (max (fF g.cD x.role) 0) h (x.an.take i) (by omega) (by omega) (by omega) (by omega) (by rw[aX3]; omega) (by have:=hb.hp h hm; omega) (by have:=hb.aL h hm; omega) (by rw[yf]; exact bs.2.2.2.2.1)
  rwa [bb3]at this
 have tk: ∀(o:cC),o∈x.os→aY aS9 87 [.ptr 0 0,.agg (cC.row o)] (iR ⟨x,g,max (fF g.cD x.role) 0,none⟩) (RK nZ ⟨x,g,max (fF g.cD x.role) 0,none⟩ (pG ⟨x,g,max (fF g.cD x.role) 0,none⟩ o)):=fun o hm=>by
  have bs:=go o hm
  simp only[pw,aT0,decide_eq_true_eq,List.all_append]at bs
  obtain⟨_,_,_,_,⟨b5,cA⟩,_⟩:=bs
  exact aG3 x g (max (fF g.cD x.role) 0) o (by omega) (by omega) (by omega) (by omega) (by have:=hb.sH o hm; omega) (by have:=hb.sH o hm; omega) (by rw[AQ]; exact b5) (by rw[AQ]; exact cA)
 clear KH go hU mN
 generalize fF g.cD x.role=z at jD ac nX tj tk
 generalize max z 0=role at jD ac nX tj tk
 refine ap ?_
 refine ay.Vw (cap:=[.t 4,.t 5]) (Qp:=fun cE c1=> ∃n e,R= .err n e∧cE=lf n e∧c1.H.aV 2=some (9,[.str []])∧c1.H.aV 3=some (41,[.int .i64 0])) (kt:=[(4,.ptr 2 0),(5,.ptr 3 0)]) ?_ ?_ ?_ ?_ (fun fJ h=>UU fJ h) rfl ?_ ?_
 ·intro q bs
  simp only[aV8,aY4,or_false]at bs
  rcases bs with rfl|rfl<;>rfl
 ·intro q bs
  simp only[aV8,aY4,or_false]at bs
  rcases bs with rfl|rfl<;>decide
 ·intro q bs
  simp only[aV8,aY4,or_false]at bs
  rcases bs with rfl|rfl<;>rfl
 ·kernel_rfl
 ·rintro cE c1 ⟨n,e,h1,rfl,J,aA⟩
  refine vQ.mono (UW (by decide) J aA) ?_
  rintro c2 rfl
  rw[WJ n e h1]
  refine⟨.cV [.str n,.int .i64 e],?_,⟨_,rfl,.aQ rfl rfl,trivial,trivial⟩⟩
  simp [nW,tc,td,Env.get,aJ.cc,aw.cc,nV]
  rfl
 simp(disch:=omega)only[go_sem,simprocAttr]
 refine ap ?_
 refine D.Gu ac (fun h=>⟨_,_,h,rfl,by rw[mj]; rfl,by rw[mj]; rfl⟩) fun h1 ac=> ?_
 refine ap ?_
 refine D.P (jD) ?_
 refine ap ?_
 refine D.Gu ac (fun h=>⟨_,_,h,rfl,by rw[mj]; rfl,by rw[mj]; rfl⟩) fun J ac=> ?_
 refine ap ?_
 cases aA:o8 [] x.vars with
 |err n e=>
  rw[aA]at nX ac
  have nX:aY aS9 85 [.ptr 0 0] (aJ.of 1 0 [(0,186,ee ⟨x,g,role,none⟩)] []) (q1 (lf n e)):=nX
  exact D.Gr ⟨[4],[]⟩ nX ⟨n,e,ac,rfl,by rw[mj]; rfl,by rw[mj]; rfl⟩
 |ok u=>
 rw[aA]at nX ac
 have nX:aY aS9 85 [.ptr 0 0] (aJ.of 1 0 [(0,186,ee ⟨x,g,role,none⟩)] []) (c8 (.cV []) [(0,186,ee ⟨x,g,role,none⟩)] []):=nX
 simp only[c7.bind]at ac
 refine D.F ⟨[4],[]⟩ (nX) ?_
 clear nX jD h1 J aA
 refine ap ?_
 refine ay.dq (X:=Nat) 0 (fun i=>[(2,.ptr 0 0),(3,.ptr 1 0),(4,.ptr 2 0),(5,.ptr 3 0),(8,.ptr 4 0),(48,.ak 4 (x.an.map bK.row)),(49,.int .i64 ((x.an.map bK.row).length:Int)),(50,.int .i64 (i:Int))]) (fun _=>[(0,48,[.str x.name,.str x.role,.str x.gh,.ak 7 (x.vars.map bQ.row),.ak 4 (x.an.map bK.row),.ak 4 (x.os.map cC.row)]),(1,32,g.cells),(2,9,[.str []]),(3,41,[.int .i64 0]),(4,186,ee ⟨x,g,role,none⟩)]) (fun _=>[]) (fun i=>i≤x.an.length∧R=(n5 ⟨x,g,role,none⟩ (x.an.take i) (x.an.drop i)).bind fun _=>oo ⟨x,g,role,none⟩ x.os) (fun i=>x.an.length-i) ⟨aT8 _,ac⟩ ⟨rfl,rfl,rfl,rfl,rfl,rfl,rfl,rfl,trivial⟩ ⟨rfl,rfl,rfl,rfl,rfl,trivial⟩ trivial ?_
 clear ac
 rintro i ⟨ae,ac⟩
 try simp only at ae ac ⊢
 cases aD:x.an[i]? with
 |some h=>
  have cL:=(List.getElem?_eq_some_iff.1 aD).1
  have d1:(i:Int)<((x.an.map bK.row).length:Int):=by rw[aT1]; omega
  have tp:=tj h (aT6 aD) i
  rw[WZ aD]at ac
  clear tj tk
  simp only[cI.cells]
  (have ax:=d1;refine bI ?_;clear ax)
  (apply ai.zq (i);(·simp(disch:=omega)only[go_sem,simprocAttr]<;>with_reducible rfl);(·simp(disch:=omega)only[go_sem,simprocAttr]<;>with_reducible rfl);(·omega);(·(try simp only[aT1]);omega))
  refine ap ?_
  cases a8:ma ⟨x,g,role,none⟩ (x.an.take i) h with
  |err n e=>
   rw[a8]at tp ac
   have tp:aY aS9 86 [.ptr 0 0,.agg (bK.row h),.ak 4 ((x.an.map bK.row).take i)] (aJ.of 1 0 [(0,186,ee ⟨x,g,role,none⟩)] []) (q1 (lf n e)):=tp
   exact D.Rs ⟨[4],[]⟩ tp ⟨n,e,ac,rfl,by rw[mj]; rfl,by rw[mj]; rfl⟩
  |ok u=>
   rw[a8]at tp ac
   have tp:aY aS9 86 [.ptr 0 0,.agg (bK.row h),.ak 4 ((x.an.map bK.row).take i)] (aJ.of 1 0 [(0,186,ee ⟨x,g,role,none⟩)] []) (c8 (.cV []) [(0,186,ee ⟨x,g,role,none⟩)] []):=tp
   refine D.Ce ⟨[4],[]⟩ tp ?_
   refine ap ?_
   refine ay.gi (i+1) ⟨by omega,ac⟩ ⟨rfl,rfl,rfl,rfl,rfl,rfl,rfl,by simp only[aT5]; rfl,trivial⟩ ⟨rfl,rfl,rfl,rfl,rfl,trivial⟩ trivial (by show x.an.length-(i+1)<x.an.length-i; omega)
 |none=>
 have ck:=List.getElem?_eq_none_iff.1 aD
 have d1: ¬(i:Int)<((x.an.map bK.row).length:Int):=by rw[aT1]; omega
 rw[aT9 ck]at ac
 simp only[n5,c7.bind]at ac
 simp only[cI.cells]
 (have ax:=d1;refine bI ?_;clear ax)
 clear d1 ck ae aD tj
 refine ay.dq (X:=Nat) 0 (fun i=>[(2,.ptr 0 0),(3,.ptr 1 0),(4,.ptr 2 0),(5,.ptr 3 0),(8,.ptr 4 0),(64,.ak 4 (x.os.map cC.row)),(65,.int .i64 ((x.os.map cC.row).length:Int)),(66,.int .i64 (i:Int))]) (fun _=>[(0,48,[.str x.name,.str x.role,.str x.gh,.ak 7 (x.vars.map bQ.row),.ak 4 (x.an.map bK.row),.ak 4 (x.os.map cC.row)]),(1,32,g.cells),(2,9,[.str []]),(3,41,[.int .i64 0]),(4,186,ee ⟨x,g,role,none⟩)]) (fun _=>[]) (fun i=>i≤x.os.length∧R=oo ⟨x,g,role,none⟩ (x.os.drop i)) (fun i=>x.os.length-i) ⟨aT8 _,ac⟩ ⟨rfl,rfl,rfl,rfl,rfl,rfl,rfl,rfl,trivial⟩ ⟨rfl,rfl,rfl,rfl,rfl,trivial⟩ trivial ?_
 clear ac i
 rintro i ⟨ae,ac⟩
 try simp only at ae ac ⊢
 cases aD:x.os[i]? with
 |some o=>
  have cL:=(List.getElem?_eq_some_iff.1 aD).1
  have d1:(i:Int)<((x.os.map cC.row).length:Int):=by rw[aT1]; omega
  have nx:=tk o (aT6 aD)
  rw[ab6 aD]at ac
  clear tk
  simp only[cI.cells]
  (have ax:=d1;refine bI ?_;clear ax)
  cases a8:pG ⟨x,g,role,none⟩ o with
  |err n e=>
   rw[a8]at nx ac
   have nx:aY aS9 87 [.ptr 0 0,.agg (cC.row o)] (aJ.of 1 0 [(0,186,ee ⟨x,g,role,none⟩)] []) (q1 (lf n e)):=nx
   exact D.Gr ⟨[4],[]⟩ nx ⟨n,e,ac,rfl,by rw[mj]; rfl,by rw[mj]; rfl⟩
  |ok u=>
   rw[a8]at nx ac
   have nx:aY aS9 87 [.ptr 0 0,.agg (cC.row o)] (aJ.of 1 0 [(0,186,ee ⟨x,g,role,none⟩)] []) (c8 (.cV []) [(0,186,ee ⟨x,g,role,none⟩)] []):=nx
   refine D.F ⟨[4],[]⟩ (nx) ?_
   refine ap ?_
   refine ay.gi (i+1) ⟨by omega,ac⟩ ⟨rfl,rfl,rfl,rfl,rfl,rfl,rfl,by simp only[aT5]; rfl,trivial⟩ ⟨rfl,rfl,rfl,rfl,rfl,trivial⟩ trivial (by show x.os.length-(i+1)<x.os.length-i; omega)
 |none=>
  have ck:=List.getElem?_eq_none_iff.1 aD
  have d1: ¬(i:Int)<((x.os.map cC.row).length:Int):=by rw[aT1]; omega
  rw[aT9 ck]at ac
  simp only[cI.cells]
  (have ax:=d1;refine bI ?_;clear ax)
  refine D.r ?_
  rw[WI ac]
  exact⟨_,rfl,.aQ rfl rfl,trivial,trivial⟩
end
section
attribute [local go_sem] ca dB fS fz fy fR e8 fa eI dv Fd.row ep eN cG.row et.row bS.row hQ
theorem rP (l:List bT) (i:Nat):eD ((l.map ca).take i)=true:=by rw[←bb3]; exact dB _
theorem ri (l:List bS) (i:Nat):eD ((l.map bS.row).take i)=true:=by rw[←bb3]; exact eI _
theorem rn (l:List Fd) (i:Nat):eD ((l.map Fd.row).take i)=true:=by rw[←bb3]; exact fz _
attribute [local go_sem] rP ri rn
theorem ap6 {l:List bT}{i:Nat}{x:bT}(h:l[i]? =some x):vB (l.take i) (l.drop i)=(gC x&&(!(l.take i).contains x&&vB (l.take (i+1)) (l.drop (i+1)))):=by
  rw[fe h,aW8,h]
  rfl
structure pc (g:cI):Prop where
  EK:g.cD.length≤1000000000
  EC:g.decls.length≤1000000000
  ne:g.bY.length≤1000000000
  bf:g.hM.length≤1000000000
  nf: ∀d∈g.decls,d.fields.length≤1000000000∧d.eM.length≤1000000000∧d.eqs.length≤1000000000
theorem oI (g:cI):g.cells=[.str g.name,.ak 1 (g.cD.map ca),.ak 5 (g.decls.map bS.row),.int .i64 g.hX,.int .i64 g.start,.int .i64 g.fin,.ak 6 (g.bY.map cG.row),.ak 3 (g.hM.map et.row)]:=rfl
theorem pu (g:cI):g.eU= .agg [.str g.name,.ak 1 (g.cD.map ca),.ak 5 (g.decls.map bS.row),.int .i64 g.hX,.int .i64 g.start,.int .i64 g.fin,.ak 6 (g.bY.map cG.row),.ak 3 (g.hM.map et.row)]:=rfl
theorem aC4 (g:cI) (hb:pc g):Pure aS9 154 [g.eU] (.bool (wY g)):=by
  have bb:=hb.EK
  have aj:=oT g.name
  obtain⟨R,ac⟩: ∃R,R=wY g:=⟨_,rfl⟩
  rw[←ac]
  simp only[wY]at ac
  rw[pu]
  refine dt bk Tryz.func154 SG (by simp only[b9,I.flat,dB,eI,e8,fa,aT7]) rfl ?_
  unfold IN Om
  simp(disch:=omega)only[go_sem,simprocAttr]
  refine ap ?_
  refine D.P (aj) ?_
  generalize gC g.name=b at ac
  cases b
  ·refine ap ?_
   refine D.r ?_
   exact⟨_,rfl,.aQ (by rw[ac]; rfl) rfl,trivial,trivial⟩
  have jv:((g.cD.map ca).length:Int)=(g.cD.length:Int):=by rw[aT1]
  by_cases h1:1≤g.cD.length
  rotate_left
  ·have d1:(g.cD.length:Int)<1:=by omega
   (have ax:=jv;have z2:=d1;refine fX ?_;clear ax z2)
   refine D.r ?_
   exact⟨_,rfl,.aQ (by rw[ac]; simp [h1,I.aQ]) rfl,trivial,trivial⟩
  by_cases J:g.cD.length≤6
  rotate_left
  ·have d1: ¬(g.cD.length:Int)<1:=by omega
   have d2:(6:Int)<(g.cD.length:Int):=by omega
   (have ax:=jv;have z2:=d1;have z3:=d2;refine fY ?_;clear ax z2 z3)
   refine D.r ?_
   exact⟨_,rfl,.aQ (by rw[ac]; simp [J,I.aQ]) rfl,trivial,trivial⟩
  have d1: ¬(g.cD.length:Int)<1:=by omega
  have d2: ¬(6:Int)<(g.cD.length:Int):=by omega
  simp only[decide_eq_true h1,decide_eq_true J,aU7]at ac
  (have ax:=jv;have z2:=d1;have z3:=d2;refine fY ?_;clear ax z2 z3)
  refine ay.dq (X:=Nat) 0 (fun i=>[(1,.ptr 0 0),(22,.ak 1 (g.cD.map ca)),(23,.int .i64 (g.cD.length:Int)),(24,.int .i64 (i:Int))]) (fun _=>[(0,32,g.cells)]) (fun _=>[]) (fun i=>i≤g.cD.length∧R=vB (g.cD.take i) (g.cD.drop i)) (fun i=>g.cD.length-i) ⟨aT8 _,ac⟩ ⟨rfl,rfl,by simp only[Env.get,jv]; rfl,rfl,trivial⟩ ⟨rfl,trivial⟩ trivial ?_
  clear ac
  rintro i ⟨ae,ac⟩
  try simp only at ae ac ⊢
  cases aD:g.cD[i]? with
  |none=>
   have ck:=List.getElem?_eq_none_iff.1 aD
   have d3: ¬(i:Int)<(g.cD.length:Int):=by omega
   rw[aT9 ck]at ac
   simp only[oI]
   (have ax:=d3;refine bI ?_;clear ax)
   refine D.r ?_
   exact⟨_,rfl,.aQ (by rw[ac]; rfl) rfl,trivial,trivial⟩
  |some x=>
   have cL:=(List.getElem?_eq_some_iff.1 aD).1
   have d3:(i:Int)<(g.cD.length:Int):=by omega
   rw[ap6 aD]at ac
   have aq:=oT x
   have bD:=NS (g.cD.take i) x (by rw[aX3]; unfold maxLen; omega)
   rw[bb3]at bD
   generalize gC x=ff at aq ac
   generalize (g.cD.take i).contains x=jf at bD ac
   simp only[oI]
   (have ax:=d3;refine bI ?_;clear ax)
   refine D.P (aq) ?_
   cases ff
   ·refine ap ?_
    refine D.r ?_
    exact⟨_,rfl,.aQ (by rw[ac]; rfl) rfl,trivial,trivial⟩
   refine ap ?_
   (apply ai.zq (i);(·simp(disch:=omega)only[go_sem,simprocAttr]<;>with_reducible rfl);(·simp(disch:=omega)only[go_sem,simprocAttr]<;>with_reducible rfl);(·omega);(·(try simp only[aT1]);omega))
   refine ap ?_
   refine D.P (bD) ?_
   cases jf
   ·refine ap ?_
    refine ay.fH (i+1) ⟨by omega,ac⟩ ⟨rfl,rfl,rfl,by simp only[aT5]; rfl,trivial⟩ ⟨rfl,trivial⟩ trivial rfl rfl (by show g.cD.length-(i+1)<g.cD.length-i; omega)
   ·refine ap ?_
    refine D.r ?_
    exact⟨_,rfl,.aQ (by rw[ac]; rfl) rfl,trivial,trivial⟩
theorem aC5 (g:cI) (hb:pc g):Pure aS9 155 [g.eU] (.bool (rJ g)):=by
  have bb:=hb.ne
  obtain⟨R,ac⟩: ∃R,R=rJ g:=⟨_,rfl⟩
  rw[←ac]
  simp only[rJ]at ac
  rw[pu]
  refine dt bk Tryz.func155 SH (by simp only[b9,I.flat,dB,eI,e8,fa,aT7]) rfl ?_
  unfold IP On
  have cZ:((g.bY.map cG.row).length:Int)=(g.bY.length:Int):=by rw[aT1]
  have qU:((g.cD.map ca).length:Int)=(g.cD.length:Int):=by rw[aT1]
  have mz:((g.decls.map bS.row).length:Int)=(g.decls.length:Int):=by rw[aT1]
  simp(disch:=omega)only[go_sem,simprocAttr]
  (repeat' first|(apply ai.s rfl;(·simp(disch:=omega)only[go_sem,simprocAttr,cZ]<;>with_reducible rfl))|(apply ay.s true true;(·simp(disch:=omega)only[go_sem,simprocAttr,cZ]<;>with_reducible rfl))|apply ai.nil|(refine ay.dr ?_)|(apply ai.fi;(·simp(disch:=omega)only[go_sem,simprocAttr,cZ]<;>with_reducible rfl))|(apply ai.fj;(·rfl);(·simp(disch:=omega)only[go_sem,simprocAttr,cZ]<;>with_reducible rfl))|(apply ai.gs;(·simp(disch:=omega)only[go_sem,simprocAttr,cZ]<;>with_reducible rfl))|((first|apply ai.fl|apply ai.fm|apply ai.fo);(·simp(disch:=omega)only[go_sem,simprocAttr,cZ]<;>with_reducible rfl);(·simp(disch:=omega)only[go_sem,simprocAttr,cZ]<;>with_reducible rfl);(·assumption);(·omega))|intro h|(apply ay.cond;(·simp(disch:=omega)only[go_sem,simprocAttr,cZ]<;>with_reducible rfl)))
  all_goals first
    |(refine D.R ?_
      refine⟨_,rfl,.aQ ?_ rfl,trivial,trivial⟩
      rw[ac]
      simp only[I.aQ,I.bool.injEq,@Eq.comm Bool false,ba6,decide_eq_false_iff_not,decide_eq_true_eq]at*
      omega)
    |skip
  have c:(decide (1≤g.hX)&&(decide (g.hX≤200)&&(decide (0≤g.start)&&(decide (0≤g.fin)&&(decide (g.start<g.hX)&&(decide (g.fin<g.hX)&&decide (g.bY.length≤400)))))))=true:=by
    simp only[aT0,decide_eq_false_iff_not,decide_eq_true_eq]at*
    omega
  simp only[aT0,decide_eq_true_eq]at c
  obtain⟨c1,c2,eV,gn,kL,lG,np⟩:=c
  simp only[decide_eq_true c1,decide_eq_true c2,decide_eq_true eV,decide_eq_true gn,decide_eq_true kL,decide_eq_true lG,decide_eq_true np,aU7]at ac
  clear c1 c2 eV gn kL lG
  refine ay.dq (X:=Nat) 0 (fun i=>[(1,.ptr 0 0),(39,.ak 6 (g.bY.map cG.row)),(40,.int .i64 ((g.bY.map cG.row).length:Int)),(41,.int .i64 (i:Int))]) (fun _=>[(0,32,g.cells)]) (fun _=>[]) (fun i=>i≤g.bY.length∧R=(g.bY.drop i).all (wu g)) (fun i=>g.bY.length-i) ⟨aT8 _,ac⟩ ⟨rfl,rfl,by simp only[Env.get,cZ]; rfl,rfl,trivial⟩ ⟨rfl,trivial⟩ trivial ?_
  clear ac
  rintro i ⟨ae,ac⟩
  try simp only at ae ac ⊢
  simp only[oI,cZ]
  cases aD:g.bY[i]? with
  |none=>
   have ck:=List.getElem?_eq_none_iff.1 aD
   have d3: ¬(i:Int)<(g.bY.length:Int):=by omega
   rw[aT9 ck]at ac
   (have ax:=d3;refine bI ?_;clear ax)
   refine D.r ?_
   exact⟨_,rfl,.aQ (by rw[ac]; rfl) rfl,trivial,trivial⟩
  |some e=>
   have cL:=(List.getElem?_eq_some_iff.1 aD).1
   have d3:(i:Int)<(g.bY.length:Int):=by omega
   rw[fe aD,aV0]at ac
   simp only[wu]at ac
   generalize lk:(g.bY.drop (i+1)).all (wu g)=rest at ac
   (repeat' first|(apply ai.s rfl;(·simp(disch:=omega)only[go_sem,simprocAttr,d3,qU,mz]<;>with_reducible rfl))|(apply ay.s true true;(·simp(disch:=omega)only[go_sem,simprocAttr,d3,qU,mz]<;>with_reducible rfl))|apply ai.nil|(refine ay.dr ?_)|(apply ai.fi;(·simp(disch:=omega)only[go_sem,simprocAttr,d3,qU,mz]<;>with_reducible rfl))|(apply ai.fj;(·rfl);(·simp(disch:=omega)only[go_sem,simprocAttr,d3,qU,mz]<;>with_reducible rfl))|(apply ai.gs;(·simp(disch:=omega)only[go_sem,simprocAttr,d3,qU,mz]<;>with_reducible rfl))|((first|apply ai.fl|apply ai.fm|apply ai.fo);(·simp(disch:=omega)only[go_sem,simprocAttr,d3,qU,mz]<;>with_reducible rfl);(·simp(disch:=omega)only[go_sem,simprocAttr,d3,qU,mz]<;>with_reducible rfl);(·assumption);(·omega))|intro h|(apply ay.cond;(·simp(disch:=omega)only[go_sem,simprocAttr,d3,qU,mz]<;>with_reducible rfl)))
   all_goals first
     |(refine D.R ?_
       refine⟨_,rfl,.aQ ?_ rfl,trivial,trivial⟩
       rw[ac]
       simp only[I.aQ,I.bool.injEq,@Eq.comm Bool false,ba6,bf7,decide_eq_false_iff_not,decide_eq_true_eq]at*
       omega)
     |skip
   refine ay.gi (i+1) ⟨by omega,?_⟩ ⟨rfl,rfl,by simp only[Env.get,cZ]; rfl,by simp only[aT5]; rfl,trivial⟩ ⟨rfl,trivial⟩ trivial (by show g.bY.length-(i+1)<g.bY.length-i; omega)
   rw[lk,ac]
   simp only[decide_eq_false_iff_not]at*
   have c:(decide (0≤e.fK)&&(decide (0≤e.dst)&&(decide (0≤e.gZ)&&(decide (0≤e.l1)&&(decide (0≤e.ii)&&(decide (e.fK<g.hX)&&(decide (e.dst<g.hX)&&(decide (e.gZ<g.cD.length)&&(decide (e.l1<g.cD.length)&&(!decide (e.gZ=e.l1)&&decide (e.ii<g.decls.length)))))))))))=true:=by
     simp only[aT0,aX1,decide_eq_false_iff_not,decide_eq_true_eq]
     omega
   rw[c,aU7]
end
section
attribute [local go_sem] ca dB fS fz fy fR e8 fa eI dv Fd.row ep eN cG.row et.row bS.row hQ rP ri rn
theorem aC8 (g:cI) (hb:pc g):Pure aS9 158 [g.eU] (.bool (zv g)):=by
  have bb:=hb.bf
  have he:=hb.ne
  obtain⟨R,ac⟩: ∃R,R=zv g:=⟨_,rfl⟩
  rw[←ac]
  simp only[zv]at ac
  rw[pu]
  refine dt bk Tryz.func158 SK (by simp only[b9,I.flat,dB,eI,e8,fa,aT7]) rfl ?_
  unfold IS Ot
  have cZ:((g.bY.map cG.row).length:Int)=(g.bY.length:Int):=by rw[aT1]
  have pa:((g.hM.map et.row).length:Int)=(g.hM.length:Int):=by rw[aT1]
  simp(disch:=omega)only[go_sem,simprocAttr]
  (have ax:=pa;refine bI ?_;clear ax)
  refine ay.dq (X:=Nat×Int) (0,-1) (fun q=>[(1,.ptr 0 0),(3,.int .i64 q.2),(7,.ak 3 (g.hM.map et.row)),(8,.int .i64 (g.hM.length:Int)),(9,.int .i64 (q.1:Int))]) (fun _=>[(0,32,g.cells)]) (fun _=>[]) (fun q=>q.1≤g.hM.length∧R=zw g q.2 (g.hM.drop q.1)) (fun q=>g.hM.length-q.1) ⟨aT8 _,ac⟩ ⟨rfl,rfl,rfl,rfl,rfl,trivial⟩ ⟨rfl,trivial⟩ trivial ?_
  clear ac
  rintro⟨i,last⟩ ⟨ae,ac⟩
  try simp only at ae ac ⊢
  simp only[oI]
  cases aD:g.hM[i]? with
  |none=>
   have ck:=List.getElem?_eq_none_iff.1 aD
   have d3: ¬(i:Int)<(g.hM.length:Int):=by omega
   rw[aT9 ck]at ac
   (have ax:=d3;refine bI ?_;clear ax)
   refine D.r ?_
   exact⟨_,rfl,.aQ (by rw[ac]; rfl) rfl,trivial,trivial⟩
  |some t=>
   have cL:=(List.getElem?_eq_some_iff.1 aD).1
   have d3:(i:Int)<(g.hM.length:Int):=by omega
   rw[fe aD]at ac
   simp only[zw]at ac
   generalize lk:zw g t.state (g.hM.drop (i+1))=rest at ac
   by_cases rz:0≤t.tr∧t.tr<g.bY.length
   rotate_left
   ·(repeat' first|(apply ai.s rfl;(·simp(disch:=omega)only[go_sem,simprocAttr,d3,cZ]<;>with_reducible rfl))|(apply ay.s true true;(·simp(disch:=omega)only[go_sem,simprocAttr,d3,cZ]<;>with_reducible rfl))|apply ai.nil|(refine ay.dr ?_)|(apply ai.fi;(·simp(disch:=omega)only[go_sem,simprocAttr,d3,cZ]<;>with_reducible rfl))|(apply ai.fj;(·rfl);(·simp(disch:=omega)only[go_sem,simprocAttr,d3,cZ]<;>with_reducible rfl))|(apply ai.gs;(·simp(disch:=omega)only[go_sem,simprocAttr,d3,cZ]<;>with_reducible rfl))|((first|apply ai.fl|apply ai.fm|apply ai.fo);(·simp(disch:=omega)only[go_sem,simprocAttr,d3,cZ]<;>with_reducible rfl);(·simp(disch:=omega)only[go_sem,simprocAttr,d3,cZ]<;>with_reducible rfl);(·assumption);(·omega))|intro h|(apply ay.cond;(·simp(disch:=omega)only[go_sem,simprocAttr,d3,cZ]<;>with_reducible rfl)))
    all_goals first
      |(refine D.R ?_
        refine⟨_,rfl,.aQ ?_ rfl,trivial,trivial⟩
        rw[ac]
        simp only[I.aQ,I.bool.injEq,@Eq.comm Bool false,ba6,bf7,decide_eq_false_iff_not,decide_eq_true_eq]at*
        omega)
      |(exfalso
        simp only[decide_eq_false_iff_not,decide_eq_true_eq]at*
        omega)
   ·obtain⟨e,a8⟩: ∃e,True∧g.bY[t.tr.toNat]? =some e:=⟨_,trivial,aU0 (by omega)⟩
    rw[a8.2]at ac
    simp only at ac
    (repeat' first|(apply ai.s rfl;(·simp(disch:=omega)only[go_sem,simprocAttr,d3,cZ]<;>with_reducible rfl))|(apply ay.s true true;(·simp(disch:=omega)only[go_sem,simprocAttr,d3,cZ]<;>with_reducible rfl))|apply ai.nil|(refine ay.dr ?_)|(apply ai.fi;(·simp(disch:=omega)only[go_sem,simprocAttr,d3,cZ]<;>with_reducible rfl))|(apply ai.fj;(·rfl);(·simp(disch:=omega)only[go_sem,simprocAttr,d3,cZ]<;>with_reducible rfl))|(apply ai.gs;(·simp(disch:=omega)only[go_sem,simprocAttr,d3,cZ]<;>with_reducible rfl))|((first|apply ai.fl|apply ai.fm|apply ai.fo);(·simp(disch:=omega)only[go_sem,simprocAttr,d3,cZ]<;>with_reducible rfl);(·simp(disch:=omega)only[go_sem,simprocAttr,d3,cZ]<;>with_reducible rfl);(·assumption);(·omega))|intro h|(apply ay.cond;(·simp(disch:=omega)only[go_sem,simprocAttr,d3,cZ]<;>with_reducible rfl)))
    all_goals first
      |(refine D.R ?_
        refine⟨_,rfl,.aQ ?_ rfl,trivial,trivial⟩
        rw[ac]
        simp only[I.aQ,I.bool.injEq,@Eq.comm Bool false,ba6,bf7,decide_eq_false_iff_not,decide_eq_true_eq]at*
        omega)
      |skip
    have LL:=a8.2
    clear aD a8
    obtain⟨iP,pq,iN,kM,iO,Dq⟩:=e
    simp only at ac
    (repeat' first|(apply ai.s rfl;(·simp(disch:=omega)only[go_sem,simprocAttr,cZ]<;>with_reducible rfl))|(apply ay.s true true;(·simp(disch:=omega)only[go_sem,simprocAttr,cZ]<;>with_reducible rfl))|apply ai.nil|(refine ay.dr ?_)|(apply ai.fi;(·simp(disch:=omega)only[go_sem,simprocAttr,cZ]<;>with_reducible rfl))|(apply ai.fj;(·rfl);(·simp(disch:=omega)only[go_sem,simprocAttr,cZ]<;>with_reducible rfl))|(apply ai.gs;(·simp(disch:=omega)only[go_sem,simprocAttr,cZ]<;>with_reducible rfl))|((first|apply ai.fl|apply ai.fm|apply ai.fo);(·simp(disch:=omega)only[go_sem,simprocAttr,cZ]<;>with_reducible rfl);(·simp(disch:=omega)only[go_sem,simprocAttr,cZ]<;>with_reducible rfl);(·assumption);(·omega))|intro h|(apply ay.cond;(·simp(disch:=omega)only[go_sem,simprocAttr,cZ]<;>with_reducible rfl)))
    all_goals first
      |(refine D.R ?_
        refine⟨_,rfl,.aQ ?_ rfl,trivial,trivial⟩
        rw[ac]
        simp only[I.aQ,I.bool.injEq,@Eq.comm Bool false,ba6,bf7,decide_eq_false_iff_not,decide_eq_true_eq]at*
        first|omega|simp_all)
      |skip
    refine ay.gi (i+1,t.state) ⟨by omega,?_⟩ ⟨rfl,rfl,rfl,rfl,by simp only[aT5]; rfl,trivial⟩ ⟨rfl,trivial⟩ trivial (by show g.hM.length-(i+1)<g.hM.length-i; omega)
    rw[lk,ac]
    simp_all
theorem EV {f:Nat→cG→Bool}{l:List cG}{i:Nat}{e:cG}(h:l[i]? =some e):nL f i (l.drop i)=(f i e&&nL f (i+1) (l.drop (i+1))):=by
  rw[fe h]
  rfl
theorem aC7 (g:cI) (hb:pc g):Pure aS9 157 [g.eU] (.bool (y8 g)):=by
  have bb:=hb.ne
  obtain⟨R,ac⟩: ∃R,R=y8 g:=⟨_,rfl⟩
  rw[←ac]
  simp only[y8]at ac
  rw[pu]
  refine dt bk Tryz.func157 SJ (by simp only[b9,I.flat,dB,eI,e8,fa,aT7]) rfl ?_
  unfold IR Oq
  have cZ:((g.bY.map cG.row).length:Int)=(g.bY.length:Int):=by rw[aT1]
  simp(disch:=omega)only[go_sem,simprocAttr]
  (have ax:=cZ;refine bI ?_;clear ax)
  refine ay.dq (X:=Nat) 0 (fun i=>[(1,.ptr 0 0),(8,.ak 6 (g.bY.map cG.row)),(9,.int .i64 (g.bY.length:Int)),(10,.int .i64 (i:Int))]) (fun _=>[(0,32,g.cells)]) (fun _=>[]) (fun i=>i≤g.bY.length∧R=nL (Br g) i (g.bY.drop i)) (fun i=>g.bY.length-i) ⟨aT8 _,ac⟩ ⟨rfl,rfl,rfl,rfl,trivial⟩ ⟨rfl,trivial⟩ trivial ?_
  clear ac
  rintro i ⟨ae,ac⟩
  try simp only at ae ac ⊢
  simp only[oI]
  cases aD:g.bY[i]? with
  |none=>
   have ck:=List.getElem?_eq_none_iff.1 aD
   have d3: ¬(i:Int)<(g.bY.length:Int):=by omega
   rw[aT9 ck]at ac
   (have ax:=d3;refine bI ?_;clear ax)
   refine D.r ?_
   exact⟨_,rfl,.aQ (by rw[ac]; rfl) rfl,trivial,trivial⟩
  |some x=>
   have cL:=(List.getElem?_eq_some_iff.1 aD).1
   have d3:(i:Int)<(g.bY.length:Int):=by omega
   rw[EV aD]at ac
   generalize lk:nL (Br g) (i+1) (g.bY.drop (i+1))=rest at ac
   simp only[Br]at ac
   obtain⟨uh,ud,ue,uf,ug,aI9⟩:=x
   simp only at ac
   clear ae
   cases aI9 with
   |false=>
    (repeat' first|(apply ai.s rfl;(·simp(disch:=omega)only[go_sem,simprocAttr,d3,cZ]<;>with_reducible rfl))|(apply ay.s true true;(·simp(disch:=omega)only[go_sem,simprocAttr,d3,cZ]<;>with_reducible rfl))|apply ai.nil|(refine ay.dr ?_)|(apply ai.fi;(·simp(disch:=omega)only[go_sem,simprocAttr,d3,cZ]<;>with_reducible rfl))|(apply ai.fj;(·rfl);(·simp(disch:=omega)only[go_sem,simprocAttr,d3,cZ]<;>with_reducible rfl))|(apply ai.gs;(·simp(disch:=omega)only[go_sem,simprocAttr,d3,cZ]<;>with_reducible rfl))|((first|apply ai.fl|apply ai.fm|apply ai.fo);(·simp(disch:=omega)only[go_sem,simprocAttr,d3,cZ]<;>with_reducible rfl);(·simp(disch:=omega)only[go_sem,simprocAttr,d3,cZ]<;>with_reducible rfl);(·assumption);(·omega))|intro h|(apply ay.cond;(·simp(disch:=omega)only[go_sem,simprocAttr,d3,cZ]<;>with_reducible rfl)))
    all_goals first
      |(refine D.R ?_
        refine⟨_,rfl,.aQ ?_ rfl,trivial,trivial⟩
        rw[ac]
        simp_all [I.aQ]
        done)
      |skip
    clear aD
    replace ac:R=(nL (sI i ⟨uh,ud,ue,uf,ug,false⟩) 0 g.bY&&rest):=by rw[ac]; simp_all
    refine ay.dq (X:=Nat) 0 (fun k=>[(1,.ptr 0 0),(3,.int .i64 (i:Int)),(4,.ptr 1 0),(8,.ak 6 (g.bY.map cG.row)),(9,.int .i64 (g.bY.length:Int)),(10,.int .i64 (i:Int)),(32,.ak 6 (g.bY.map cG.row)),(33,.int .i64 (g.bY.length:Int)),(34,.int .i64 (k:Int))]) (fun _=>[(0,32,g.cells),(1,76,[.int .i64 uh,.int .i64 ud,.int .i64 ue,.int .i64 uf,.int .i64 ug,.bool false])]) (fun _=>[]) (fun k=>k≤g.bY.length∧R=(nL (sI i ⟨uh,ud,ue,uf,ug,false⟩) k (g.bY.drop k)&&rest)) (fun k=>g.bY.length-k) ⟨aT8 _,ac⟩ ⟨rfl,rfl,rfl,rfl,rfl,rfl,rfl,rfl,rfl,trivial⟩ ⟨rfl,rfl,trivial⟩ trivial ?_
    clear ac
    rintro k ⟨hk,ac⟩
    try simp only at hk ac ⊢
    simp only[oI]
    cases aD:g.bY[k]? with
    |none=>
     have ck:=List.getElem?_eq_none_iff.1 aD
     have d4: ¬(k:Int)<(g.bY.length:Int):=by omega
     rw[aT9 ck]at ac
     simp only[nL,aU7]at ac
     (have ax:=d4;refine bI ?_;clear ax)
     refine ay.gi (i+1) ⟨by omega,by rw[lk,ac]⟩ ⟨rfl,rfl,rfl,by simp only[aT5]; rfl,trivial⟩ ⟨rfl,trivial⟩ trivial (by show g.bY.length-(i+1)<g.bY.length-i; omega)
    |some y=>
     have wM:=(List.getElem?_eq_some_iff.1 aD).1
     have d4:(k:Int)<(g.bY.length:Int):=by omega
     rw[EV aD]at ac
     generalize gg:nL (sI i ⟨uh,ud,ue,uf,ug,false⟩) (k+1) (g.bY.drop (k+1))=ap4 at ac
     obtain⟨aJ7,ju,jo,B4,aJ6,aJ8⟩:=y
     simp only[sI]at ac
     rw[show decide (i=k)=decide ((i:Int)=(k:Int)) from decide_eq_decide.2 (by omega)]at ac
     (repeat' first|(apply ai.s rfl;(·simp(disch:=omega)only[go_sem,simprocAttr,d4,cZ]<;>with_reducible rfl))|(apply ay.s true true;(·simp(disch:=omega)only[go_sem,simprocAttr,d4,cZ]<;>with_reducible rfl))|apply ai.nil|(refine ay.dr ?_)|(apply ai.fi;(·simp(disch:=omega)only[go_sem,simprocAttr,d4,cZ]<;>with_reducible rfl))|(apply ai.fj;(·rfl);(·simp(disch:=omega)only[go_sem,simprocAttr,d4,cZ]<;>with_reducible rfl))|(apply ai.gs;(·simp(disch:=omega)only[go_sem,simprocAttr,d4,cZ]<;>with_reducible rfl))|((first|apply ai.fl|apply ai.fm|apply ai.fo);(·simp(disch:=omega)only[go_sem,simprocAttr,d4,cZ]<;>with_reducible rfl);(·simp(disch:=omega)only[go_sem,simprocAttr,d4,cZ]<;>with_reducible rfl);(·assumption);(·omega))|intro h|(apply ay.cond;(·simp(disch:=omega)only[go_sem,simprocAttr,d4,cZ]<;>with_reducible rfl)))
     all_goals first
       |(refine D.R ?_
         refine⟨_,rfl,.aQ ?_ rfl,trivial,trivial⟩
         rw[ac]
         simp_all [I.aQ]
         done)
       |skip
     all_goals (refine ay.gi (k+1) ⟨by omega,?_⟩ ⟨rfl,rfl,rfl,rfl,rfl,rfl,rfl,rfl,by simp only[aT5]; rfl,trivial⟩ ⟨rfl,rfl,trivial⟩ trivial (by show g.bY.length-(k+1)<g.bY.length-k; omega))
     all_goals (rw[gg,ac]; clear ac gg lk; simp only[*,bc0,aZ2,aU7,aW0,ba2,bc4,Bool.or_false,ba8,Bool.or_true,bf5])
   |true=>
    (repeat' first|(apply ai.s rfl;(·simp(disch:=omega)only[go_sem,simprocAttr,d3,cZ]<;>with_reducible rfl))|(apply ay.s true true;(·simp(disch:=omega)only[go_sem,simprocAttr,d3,cZ]<;>with_reducible rfl))|apply ai.nil|(refine ay.dr ?_)|(apply ai.fi;(·simp(disch:=omega)only[go_sem,simprocAttr,d3,cZ]<;>with_reducible rfl))|(apply ai.fj;(·rfl);(·simp(disch:=omega)only[go_sem,simprocAttr,d3,cZ]<;>with_reducible rfl))|(apply ai.gs;(·simp(disch:=omega)only[go_sem,simprocAttr,d3,cZ]<;>with_reducible rfl))|((first|apply ai.fl|apply ai.fm|apply ai.fo);(·simp(disch:=omega)only[go_sem,simprocAttr,d3,cZ]<;>with_reducible rfl);(·simp(disch:=omega)only[go_sem,simprocAttr,d3,cZ]<;>with_reducible rfl);(·assumption);(·omega))|intro h|(apply ay.cond;(·simp(disch:=omega)only[go_sem,simprocAttr,d3,cZ]<;>with_reducible rfl)))
    all_goals first
      |(refine D.R ?_
        refine⟨_,rfl,.aQ ?_ rfl,trivial,trivial⟩
        rw[ac]
        simp_all [I.aQ]
        done)
      |skip
    clear aD
    replace ac:R=(nL (sI i ⟨uh,ud,ue,uf,ug,true⟩) 0 g.bY&&rest):=by rw[ac]; simp_all
    refine ay.dq (X:=Nat) 0 (fun k=>[(1,.ptr 0 0),(3,.int .i64 (i:Int)),(4,.ptr 1 0),(8,.ak 6 (g.bY.map cG.row)),(9,.int .i64 (g.bY.length:Int)),(10,.int .i64 (i:Int)),(32,.ak 6 (g.bY.map cG.row)),(33,.int .i64 (g.bY.length:Int)),(34,.int .i64 (k:Int))]) (fun _=>[(0,32,g.cells),(1,76,[.int .i64 uh,.int .i64 ud,.int .i64 ue,.int .i64 uf,.int .i64 ug,.bool true])]) (fun _=>[]) (fun k=>k≤g.bY.length∧R=(nL (sI i ⟨uh,ud,ue,uf,ug,true⟩) k (g.bY.drop k)&&rest)) (fun k=>g.bY.length-k) ⟨aT8 _,ac⟩ ⟨rfl,rfl,rfl,rfl,rfl,rfl,rfl,rfl,rfl,trivial⟩ ⟨rfl,rfl,trivial⟩ trivial ?_
    clear ac
    rintro k ⟨hk,ac⟩
    try simp only at hk ac ⊢
    simp only[oI]
    cases aD:g.bY[k]? with
    |none=>
     have ck:=List.getElem?_eq_none_iff.1 aD
     have d4: ¬(k:Int)<(g.bY.length:Int):=by omega
     rw[aT9 ck]at ac
     simp only[nL,aU7]at ac
     (have ax:=d4;refine bI ?_;clear ax)
     refine ay.gi (i+1) ⟨by omega,by rw[lk,ac]⟩ ⟨rfl,rfl,rfl,by simp only[aT5]; rfl,trivial⟩ ⟨rfl,trivial⟩ trivial (by show g.bY.length-(i+1)<g.bY.length-i; omega)
    |some y=>
     have wM:=(List.getElem?_eq_some_iff.1 aD).1
     have d4:(k:Int)<(g.bY.length:Int):=by omega
     rw[EV aD]at ac
     generalize gg:nL (sI i ⟨uh,ud,ue,uf,ug,true⟩) (k+1) (g.bY.drop (k+1))=ap4 at ac
     obtain⟨aJ7,ju,jo,B4,aJ6,aJ8⟩:=y
     simp only[sI]at ac
     rw[show decide (i=k)=decide ((i:Int)=(k:Int)) from decide_eq_decide.2 (by omega)]at ac
     (repeat' first|(apply ai.s rfl;(·simp(disch:=omega)only[go_sem,simprocAttr,d4,cZ]<;>with_reducible rfl))|(apply ay.s true true;(·simp(disch:=omega)only[go_sem,simprocAttr,d4,cZ]<;>with_reducible rfl))|apply ai.nil|(refine ay.dr ?_)|(apply ai.fi;(·simp(disch:=omega)only[go_sem,simprocAttr,d4,cZ]<;>with_reducible rfl))|(apply ai.fj;(·rfl);(·simp(disch:=omega)only[go_sem,simprocAttr,d4,cZ]<;>with_reducible rfl))|(apply ai.gs;(·simp(disch:=omega)only[go_sem,simprocAttr,d4,cZ]<;>with_reducible rfl))|((first|apply ai.fl|apply ai.fm|apply ai.fo);(·simp(disch:=omega)only[go_sem,simprocAttr,d4,cZ]<;>with_reducible rfl);(·simp(disch:=omega)only[go_sem,simprocAttr,d4,cZ]<;>with_reducible rfl);(·assumption);(·omega))|intro h|(apply ay.cond;(·simp(disch:=omega)only[go_sem,simprocAttr,d4,cZ]<;>with_reducible rfl)))
     all_goals first
       |(refine D.R ?_
         refine⟨_,rfl,.aQ ?_ rfl,trivial,trivial⟩
         rw[ac]
         simp_all [I.aQ]
         done)
       |skip
     all_goals (refine ay.gi (k+1) ⟨by omega,?_⟩ ⟨rfl,rfl,rfl,rfl,rfl,rfl,rfl,rfl,by simp only[aT5]; rfl,trivial⟩ ⟨rfl,rfl,trivial⟩ trivial (by show g.bY.length-(k+1)<g.bY.length-k; omega))
     all_goals (rw[gg,ac]; clear ac gg lk; simp only[*,bc0,aZ2,aU7,aW0,ba2,bc4,Bool.or_false,ba8,Bool.or_true,bf5])
end
section
attribute [local go_sem] ca dB fS fz fy fR e8 fa eI dv Fd.row ep eN cG.row et.row bS.row hQ rP ri rn
theorem GQ {l:List bS}{i:Nat}{d:bS}(h:l[i]? =some d):oy (l.take (i+1))=oy (l.take i)++d.fields:=by
 unfold oy
 rw[aW8,h]
 simp
theorem RB {l:List bS}(aO: ∀d∈l,d.fields.length≤1000000000):(oy l).length≤1000000000*l.length:=by
 unfold oy
 induction l with
 |nil=>simp
 |cons d l b8=>
  have h1:=aO d (by simp)
  have J:=b8 fun x U=>aO x (by simp [U])
  simp only[List.flatMap_cons,aT2,aT3]at J ⊢
  omega
theorem aF2 (l:List bS) (aE:l.length≤40) (aO: ∀d∈l,d.fields.length≤1000000000):Pure aS9 374 [.ak 5 (l.map bS.row)] (.ak 4 ((oy l).map Fd.row)):=by
 refine dt bk Tryz.func374 TV (by simp only[b9,I.flat,eI,aT7]) (by simp only[I.flat,fz]) ?_
 unfold JW PD
 simp(disch:=omega)only[go_sem,simprocAttr]
 refine ap ?_
 refine ay.uJ 3 4 131 rfl (by decide) ?_
 simp(disch:=omega)only[go_sem,simprocAttr]
 refine ay.dq (X:=Nat) 0 (fun i=>[(3,.own 0 4 ((oy (l.take i)).map Fd.row)),(6,.ak 5 (l.map bS.row)),(7,.int .i64 ((l.map bS.row).length:Int)),(8,.int .i64 (i:Int))]) (fun _=>[]) (fun i=>[(0,.bP 131 4 ((oy (l.take i)).map Fd.row).length)]) (fun i=>i≤l.length) (fun i=>l.length-i) (aT8 _) ⟨rfl,rfl,rfl,rfl,trivial⟩ trivial ⟨rfl,trivial⟩ ?_
 rintro i ae
 try simp only at ae ⊢
 cases aD:l[i]? with
 |none=>
  have ck:=List.getElem?_eq_none_iff.1 aD
  have d1: ¬(i:Int)<((l.map bS.row).length:Int):=by rw[aT1]; omega
  (have ax:=d1;refine bI ?_;clear ax)
  refine D.r ?_
  refine⟨_,rfl,.aQ ?_ (by simp only[I.flat,fz]),trivial,trivial⟩
  rw[aY8 ck]
  rfl
 |some d=>
  have cL:=(List.getElem?_eq_some_iff.1 aD).1
  have d1:(i:Int)<((l.map bS.row).length:Int):=by rw[aT1]; omega
  have mb:=aO d (aT6 aD)
  have fN:=RB (l:=l.take i) fun x U=>aO x (List.mem_of_mem_take U)
  rw[aX3]at fN
  clear aO
  (have ax:=d1;refine bI ?_;clear ax)
  refine D.jz ?_
  refine ap ?_
  refine ay.gi (i+1) (by show i+1≤l.length; omega) ⟨by rw[GQ aD,aV4]; rfl,rfl,rfl,by simp only[aT5]; rfl,trivial⟩ trivial ⟨by rw[GQ aD,aV4,aT2]; rfl,trivial⟩ (by show l.length-(i+1)<l.length-i; omega)
theorem aF4 (d x:bS):aY aS9 376 [.agg (bS.row x),.ptr 0 0] (aJ.of 1 0 [(0,72,bS.row d)] []) (c8 (.bool (decide (x.name=d.name))) [(0,72,bS.row d)] []):=by
 refine aY.intro bk Tryz.func376 TX ?_
 unfold JY PF
 simp(disch:=omega)only[go_sem,simprocAttr]
 refine ap ?_
 refine D.r ?_
 exact⟨rfl,⟨rfl,trivial⟩,trivial⟩
theorem aF7 (f x:Fd):aY aS9 379 [.agg (Fd.row x),.ptr 0 0] (aJ.of 1 0 [(0,131,Fd.row f)] []) (c8 (.bool (decide (x.name=f.name))) [(0,131,Fd.row f)] []):=by
 refine aY.intro bk Tryz.func379 T0 ?_
 unfold J1 PI
 simp(disch:=omega)only[go_sem,simprocAttr]
 refine ap ?_
 refine D.r ?_
 exact⟨rfl,⟨rfl,trivial⟩,trivial⟩
theorem Za:cT aS9 376=true:=by kernel_rfl
theorem Zb:cT aS9 379=true:=by kernel_rfl
end
section
attribute [local go_sem] ca dB fS fz fy fR e8 fa eI dv Fd.row ep eN cG.row et.row bS.row hQ rP ri rn
theorem aF8 (all:List Fd) (d:bS) (aL:all.length≤1000000000) (h1:d.eM.length≤1000000000) (J:d.eqs.length≤1000000000):Pure aS9 380 [.agg [.ak 3 (d.eM.map ep),.ak 2 (d.eqs.map eN)],.ak 4 (all.map Fd.row)] (.bool (uM all d)):=by
  obtain⟨hF,b6,fst,eM,eqs⟩:=d
  simp only at h1 J ⊢
  obtain⟨R,ac⟩: ∃R,R=uM all ⟨hF,b6,fst,eM,eqs⟩:=⟨_,rfl⟩
  rw[←ac]
  simp only[uM]at ac
  refine dt bk Tryz.func380 T4 (by simp only[b9,I.flat,fy,fR,fz,aT7]) rfl ?_
  unfold J3 PK
  have mz:((eM.map ep).length:Int)=(eM.length:Int):=by rw[aT1]
  have cZ:((eqs.map eN).length:Int)=(eqs.length:Int):=by rw[aT1]
  have du:((all.map Fd.row).length:Int)=(all.length:Int):=by rw[aT1]
  simp(disch:=omega)only[go_sem,simprocAttr]
  by_cases c1:eM.length≤20
  rotate_left
  ·have d1:(20:Int)<(eM.length:Int):=by omega
   (have ax:=mz;have z2:=d1;refine fX ?_;clear ax z2)
   refine D.r ?_
   exact⟨_,rfl,.aQ (by rw[ac]; simp [c1,I.aQ]) rfl,trivial,trivial⟩
  have d1: ¬(20:Int)<(eM.length:Int):=by omega
  by_cases c2:eqs.length≤20
  rotate_left
  ·have d2:(20:Int)<(eqs.length:Int):=by omega
   (have ax:=mz;have z2:=cZ;have z3:=And.intro d1 d2;refine fY ?_;clear ax z2 z3)
   refine D.r ?_
   exact⟨_,rfl,.aQ (by rw[ac]; simp [c2,I.aQ]) rfl,trivial,trivial⟩
  have d2: ¬(20:Int)<(eqs.length:Int):=by omega
  simp only[decide_eq_true c1,decide_eq_true c2,aU7]at ac
  (have ax:=mz;have z2:=cZ;have z3:=And.intro d1 d2;refine fY ?_;clear ax z2 z3)
  refine ay.dq (X:=Nat) 0 (fun i=>[(1,.ak 4 (all.map Fd.row)),(2,.ptr 0 0),(22,.ak 3 (eM.map ep)),(23,.int .i64 (eM.length:Int)),(24,.int .i64 (i:Int))]) (fun _=>[(0,70,[.ak 3 (eM.map ep),.ak 2 (eqs.map eN)])]) (fun _=>[]) (fun i=>i≤eM.length∧R=((eM.drop i).all (Au all.length)&&eqs.all (x9 all))) (fun i=>eM.length-i) ⟨aT8 _,ac⟩ ⟨rfl,rfl,rfl,by simp only[Env.get,mz]; rfl,rfl,trivial⟩ ⟨rfl,trivial⟩ trivial ?_
  clear ac
  rintro i ⟨ae,ac⟩
  try simp only at ae ac ⊢
  cases aD:eM[i]? with
  |some y=>
   have cL:=(List.getElem?_eq_some_iff.1 aD).1
   have d3:(i:Int)<(eM.length:Int):=by omega
   rw[fe aD,aV0]at ac
   generalize lk:(eM.drop (i+1)).all (Au all.length)=rest at ac
   obtain⟨ju,jo,B4⟩:=y
   simp only[Au]at ac
   (repeat' first|(apply ai.s rfl;(·simp(disch:=omega)only[go_sem,simprocAttr,d3,du]<;>with_reducible rfl))|(apply ay.s true true;(·simp(disch:=omega)only[go_sem,simprocAttr,d3,du]<;>with_reducible rfl))|apply ai.nil|(refine ay.dr ?_)|(apply ai.fi;(·simp(disch:=omega)only[go_sem,simprocAttr,d3,du]<;>with_reducible rfl))|(apply ai.fj;(·rfl);(·simp(disch:=omega)only[go_sem,simprocAttr,d3,du]<;>with_reducible rfl))|(apply ai.gs;(·simp(disch:=omega)only[go_sem,simprocAttr,d3,du]<;>with_reducible rfl))|((first|apply ai.fl|apply ai.fm|apply ai.fo);(·simp(disch:=omega)only[go_sem,simprocAttr,d3,du]<;>with_reducible rfl);(·simp(disch:=omega)only[go_sem,simprocAttr,d3,du]<;>with_reducible rfl);(·assumption);(·omega))|intro h|(apply ay.cond;(·simp(disch:=omega)only[go_sem,simprocAttr,d3,du]<;>with_reducible rfl)))
   all_goals first
     |(refine D.R ?_
       refine⟨_,rfl,.aQ ?_ rfl,trivial,trivial⟩
       rw[ac]
       simp only[I.aQ,I.bool.injEq,@Eq.comm Bool false,ba6,bf7,decide_eq_false_iff_not,decide_eq_true_eq]at*
       omega)
     |skip
   refine ay.gi (i+1) ⟨by omega,?_⟩ ⟨rfl,rfl,rfl,by simp only[Env.get,mz]; rfl,by simp only[aT5]; rfl,trivial⟩ ⟨rfl,trivial⟩ trivial (by show eM.length-(i+1)<eM.length-i; omega)
   rw[lk,ac]
   simp only[decide_eq_false_iff_not]at*
   have c:(decide (-1≤min ju jo)&&(decide (max ju jo<all.length)&&(decide (-20000≤B4)&&decide (B4≤20000))))=true:=by
     simp only[aT0,aX1,decide_eq_false_iff_not,decide_eq_true_eq]
     omega
   rw[c,aU7]
  |none=>
  have ck:=List.getElem?_eq_none_iff.1 aD
  have d3: ¬(i:Int)<(eM.length:Int):=by omega
  rw[aT9 ck]at ac
  simp only[bf4,aU7]at ac
  (have ax:=d3;have z2:=cZ;refine fX ?_;clear ax z2)
  clear d3 ck ae aD
  refine ay.dq (X:=Nat) 0 (fun i=>[(1,.ak 4 (all.map Fd.row)),(2,.ptr 0 0),(56,.ak 2 (eqs.map eN)),(57,.int .i64 (eqs.length:Int)),(58,.int .i64 (i:Int))]) (fun _=>[(0,70,[.ak 3 (eM.map ep),.ak 2 (eqs.map eN)])]) (fun _=>[]) (fun i=>i≤eqs.length∧R=(eqs.drop i).all (x9 all)) (fun i=>eqs.length-i) ⟨aT8 _,ac⟩ ⟨rfl,rfl,rfl,by simp only[Env.get,cZ]; rfl,rfl,trivial⟩ ⟨rfl,trivial⟩ trivial ?_
  clear ac
  rintro j ⟨ae,ac⟩
  try simp only at ae ac ⊢
  cases aD:eqs[j]? with
  |none=>
   have ck:=List.getElem?_eq_none_iff.1 aD
   have d3: ¬(j:Int)<(eqs.length:Int):=by omega
   rw[aT9 ck]at ac
   (have ax:=d3;refine bI ?_;clear ax)
   refine D.r ?_
   exact⟨_,rfl,.aQ (by rw[ac]; rfl) rfl,trivial,trivial⟩
  |some y=>
   have cL:=(List.getElem?_eq_some_iff.1 aD).1
   have d3:(j:Int)<(eqs.length:Int):=by omega
   rw[fe aD,aV0]at ac
   generalize lk:(eqs.drop (j+1)).all (x9 all)=rest at ac
   obtain⟨ju,jo⟩:=y
   simp only[x9]at ac
   (have ax:=d3;refine bI ?_;clear ax)
   clear aD
   refine ay.dq (X:=Nat) 0 (fun k=>[(1,.ak 4 (all.map Fd.row)),(2,.ptr 0 0),(56,.ak 2 (eqs.map eN)),(57,.int .i64 (eqs.length:Int)),(58,.int .i64 (j:Int)),(62,.agg [.int .i64 ju,.int .i64 jo]),(63,.int .i64 (k:Int))]) (fun _=>[(0,70,[.ak 3 (eM.map ep),.ak 2 (eqs.map eN)])]) (fun _=>[]) (fun k=>k≤2∧R=(([ju,jo].drop k).all (o4 all)&&rest)) (fun k=>2-k) ⟨aT8 _,by rw[ac]; simp only[bb0,aV0,bf4,aW0]⟩ ⟨rfl,rfl,rfl,rfl,rfl,rfl,rfl,trivial⟩ ⟨rfl,trivial⟩ trivial ?_
   clear ac
   rintro k ⟨hk,ac⟩
   try simp only at hk ac ⊢
   have key: ∀(w:Int),k<2→[ju,jo][k]? =some w→R=(o4 all w&&(([ju,jo].drop (k+1)).all (o4 all)&&rest)):=fun w Xw hw=>by
     rw[ac,fe hw,aV0,Bool.and_assoc]
   by_cases Xw:k<2
   rotate_left
   ·have Xx:k=2:=by omega
    subst Xx
    rw[show ([ju,jo].drop 2).all (o4 all)=true from rfl,aU7]at ac
    (repeat' first|(apply ai.s rfl;(·simp(disch:=omega)only[go_sem,simprocAttr,]<;>with_reducible rfl))|(apply ay.s true true;(·simp(disch:=omega)only[go_sem,simprocAttr,]<;>with_reducible rfl))|apply ai.nil|(refine ay.dr ?_)|(apply ai.fi;(·simp(disch:=omega)only[go_sem,simprocAttr,]<;>with_reducible rfl))|(apply ai.fj;(·rfl);(·simp(disch:=omega)only[go_sem,simprocAttr,]<;>with_reducible rfl))|(apply ai.gs;(·simp(disch:=omega)only[go_sem,simprocAttr,]<;>with_reducible rfl))|((first|apply ai.fl|apply ai.fm|apply ai.fo);(·simp(disch:=omega)only[go_sem,simprocAttr,]<;>with_reducible rfl);(·simp(disch:=omega)only[go_sem,simprocAttr,]<;>with_reducible rfl);(·assumption);(·omega))|intro h)
    refine ay.gi (j+1) ⟨by omega,?_⟩ ⟨rfl,rfl,rfl,by simp only[Env.get,cZ]; rfl,by simp only[aT5]; rfl,trivial⟩ ⟨rfl,trivial⟩ trivial (by show eqs.length-(j+1)<eqs.length-j; omega)
    rw[lk,ac]
   ·clear ac
    have fin: ∀(w:Int),R=(o4 all w&&(([ju,jo].drop (k+1)).all (o4 all)&&rest))→¬(0≤w∧w<all.length)→R=false:=fun w e h=>by
      rw[e]
      simp only[o4,ba6,decide_eq_false_iff_not]
      omega
    rcases (show k=0∨k=1 by omega) with qo|qo
    ·subst qo
     have ac:=key ju (by omega) rfl
     clear key
     by_cases rz:0≤ju∧ju<all.length
     rotate_left
     ·have cM:=fin ju ac rz
      (repeat' first|(apply ai.s rfl;(·simp(disch:=omega)only[go_sem,simprocAttr,du]<;>with_reducible rfl))|(apply ay.s true true;(·simp(disch:=omega)only[go_sem,simprocAttr,du]<;>with_reducible rfl))|apply ai.nil|(refine ay.dr ?_)|(apply ai.fi;(·simp(disch:=omega)only[go_sem,simprocAttr,du]<;>with_reducible rfl))|(apply ai.fj;(·rfl);(·simp(disch:=omega)only[go_sem,simprocAttr,du]<;>with_reducible rfl))|(apply ai.gs;(·simp(disch:=omega)only[go_sem,simprocAttr,du]<;>with_reducible rfl))|((first|apply ai.fl|apply ai.fm|apply ai.fo);(·simp(disch:=omega)only[go_sem,simprocAttr,du]<;>with_reducible rfl);(·simp(disch:=omega)only[go_sem,simprocAttr,du]<;>with_reducible rfl);(·assumption);(·omega))|intro h|(apply ay.cond;(·simp(disch:=omega)only[go_sem,simprocAttr,du]<;>with_reducible rfl)))
      all_goals first
        |(refine D.R ?_
          exact⟨_,rfl,.aQ (by rw[cM]; rfl) rfl,trivial,trivial⟩)
        |(exfalso
          simp only[decide_eq_false_iff_not,decide_eq_true_eq]at*
          omega)
     ·obtain⟨f,a8⟩: ∃f,all[(ju).toNat]? =some f:=⟨_,aU0 (by omega)⟩
      have dj:o4 all ju=decide (f.kind=2):=by
        simp only[o4,a8,decide_eq_true rz.1,decide_eq_true rz.2,aU7]
      rw[dj]at ac
      have d4: ¬ju<0:=by omega
      have d5: ¬(all.length:Int)≤ju:=by omega
      have pz:True∧all[(ju).toNat]? =some f:=⟨trivial,a8⟩
      (repeat' first|(apply ai.s rfl;(·simp(disch:=omega)only[go_sem,simprocAttr,du,d4,d5]<;>with_reducible rfl))|(apply ay.s true true;(·simp(disch:=omega)only[go_sem,simprocAttr,du,d4,d5]<;>with_reducible rfl))|apply ai.nil|(refine ay.dr ?_)|(apply ai.fi;(·simp(disch:=omega)only[go_sem,simprocAttr,du,d4,d5]<;>with_reducible rfl))|(apply ai.fj;(·rfl);(·simp(disch:=omega)only[go_sem,simprocAttr,du,d4,d5]<;>with_reducible rfl))|(apply ai.gs;(·simp(disch:=omega)only[go_sem,simprocAttr,du,d4,d5]<;>with_reducible rfl))|((first|apply ai.fl|apply ai.fm|apply ai.fo);(·simp(disch:=omega)only[go_sem,simprocAttr,du,d4,d5]<;>with_reducible rfl);(·simp(disch:=omega)only[go_sem,simprocAttr,du,d4,d5]<;>with_reducible rfl);(·assumption);(·omega))|intro h|(apply ay.cond;(·simp(disch:=omega)only[go_sem,simprocAttr,du,d4,d5]<;>with_reducible rfl)))
      all_goals first
        |(refine D.R ?_
          refine⟨_,rfl,.aQ ?_ rfl,trivial,trivial⟩
          rw[ac]
          simp_all [I.aQ]
          done)
        |skip
      refine ay.gi (0+1) ⟨by omega,?_⟩ ⟨rfl,rfl,rfl,rfl,rfl,rfl,rfl,trivial⟩ ⟨rfl,trivial⟩ trivial (by show 2-(0+1)<2-0; omega)
      rw[ac]
      simp_all
    ·subst qo
     have ac:=key jo (by omega) rfl
     clear key
     by_cases rz:0≤jo∧jo<all.length
     rotate_left
     ·have cM:=fin jo ac rz
      (repeat' first|(apply ai.s rfl;(·simp(disch:=omega)only[go_sem,simprocAttr,du]<;>with_reducible rfl))|(apply ay.s true true;(·simp(disch:=omega)only[go_sem,simprocAttr,du]<;>with_reducible rfl))|apply ai.nil|(refine ay.dr ?_)|(apply ai.fi;(·simp(disch:=omega)only[go_sem,simprocAttr,du]<;>with_reducible rfl))|(apply ai.fj;(·rfl);(·simp(disch:=omega)only[go_sem,simprocAttr,du]<;>with_reducible rfl))|(apply ai.gs;(·simp(disch:=omega)only[go_sem,simprocAttr,du]<;>with_reducible rfl))|((first|apply ai.fl|apply ai.fm|apply ai.fo);(·simp(disch:=omega)only[go_sem,simprocAttr,du]<;>with_reducible rfl);(·simp(disch:=omega)only[go_sem,simprocAttr,du]<;>with_reducible rfl);(·assumption);(·omega))|intro h|(apply ay.cond;(·simp(disch:=omega)only[go_sem,simprocAttr,du]<;>with_reducible rfl)))
      all_goals first
        |(refine D.R ?_
          exact⟨_,rfl,.aQ (by rw[cM]; rfl) rfl,trivial,trivial⟩)
        |(exfalso
          simp only[decide_eq_false_iff_not,decide_eq_true_eq]at*
          omega)
     ·obtain⟨f,a8⟩: ∃f,all[(jo).toNat]? =some f:=⟨_,aU0 (by omega)⟩
      have dj:o4 all jo=decide (f.kind=2):=by
        simp only[o4,a8,decide_eq_true rz.1,decide_eq_true rz.2,aU7]
      rw[dj]at ac
      have d4: ¬jo<0:=by omega
      have d5: ¬(all.length:Int)≤jo:=by omega
      have pz:True∧all[(jo).toNat]? =some f:=⟨trivial,a8⟩
      (repeat' first|(apply ai.s rfl;(·simp(disch:=omega)only[go_sem,simprocAttr,du,d4,d5]<;>with_reducible rfl))|(apply ay.s true true;(·simp(disch:=omega)only[go_sem,simprocAttr,du,d4,d5]<;>with_reducible rfl))|apply ai.nil|(refine ay.dr ?_)|(apply ai.fi;(·simp(disch:=omega)only[go_sem,simprocAttr,du,d4,d5]<;>with_reducible rfl))|(apply ai.fj;(·rfl);(·simp(disch:=omega)only[go_sem,simprocAttr,du,d4,d5]<;>with_reducible rfl))|(apply ai.gs;(·simp(disch:=omega)only[go_sem,simprocAttr,du,d4,d5]<;>with_reducible rfl))|((first|apply ai.fl|apply ai.fm|apply ai.fo);(·simp(disch:=omega)only[go_sem,simprocAttr,du,d4,d5]<;>with_reducible rfl);(·simp(disch:=omega)only[go_sem,simprocAttr,du,d4,d5]<;>with_reducible rfl);(·assumption);(·omega))|intro h|(apply ay.cond;(·simp(disch:=omega)only[go_sem,simprocAttr,du,d4,d5]<;>with_reducible rfl)))
      all_goals first
        |(refine D.R ?_
          refine⟨_,rfl,.aQ ?_ rfl,trivial,trivial⟩
          rw[ac]
          simp_all [I.aQ]
          done)
        |skip
      refine ay.gi (1+1) ⟨by omega,?_⟩ ⟨rfl,rfl,rfl,rfl,rfl,rfl,rfl,trivial⟩ ⟨rfl,trivial⟩ trivial (by show 2-(1+1)<2-1; omega)
      rw[ac]
      simp_all
end
section
attribute [local go_sem] ca dB fS fz fy fR e8 fa eI dv Fd.row ep eN cG.row et.row bS.row hQ rP ri rn
theorem Si (a:Int) (l:List Fd) (f:Fd): ∀k:Nat,oC a k (l++[f])=oC a k l++[(a+((k+l.length:Nat):Int),-1,f.ae),(-1,a+((k+l.length:Nat):Int),-f.cm)]:=by
 induction l with
 |nil=>intro k; rfl
 |cons x l b8=>
  intro k
  simp only[aU4,oC,b8 (k+1),aT3,show k+1+l.length=k+(l.length+1) by omega]
theorem Hb (a:Int) (l:List Fd): ∀k:Nat,(oC a k l).length=2*l.length:=by
 induction l with
 |nil=>intro k; rfl
 |cons x l b8=>intro k; simp only[oC,aT3,b8 (k+1)]; omega
theorem Hc {a:Int}{l:List Fd}{i:Nat}{f:Fd}(h:l[i]? =some f):oC a 0 (l.take (i+1))=oC a 0 (l.take i)++[(a+(i:Int),-1,f.ae),(-1,a+(i:Int),-f.cm)]:=by
 have cL:=(List.getElem?_eq_some_iff.1 h).1
 rw[aW8,h,bi2,Si,aX3,Nat.zero_add,Nat.min_eq_left (by omega)]
theorem Sh (l:List (Int×Int)) (e:Int×Int):oB (l++[e])=oB l++[(e.1,e.2,0),(e.2,e.1,0)]:=by
 induction l with
 |nil=>rfl
 |cons x l b8=>simp only[aU4,oB,b8]
theorem Sg (l:List (Int×Int)):(oB l).length=2*l.length:=by
 induction l with
 |nil=>rfl
 |cons x l b8=>simp only[oB,aT3,b8]; omega
theorem Ha {l:List (Int×Int)}{i:Nat}{e:Int×Int}(h:l[i]? =some e):oB (l.take (i+1))=oB (l.take i)++[(e.1,e.2,0),(e.2,e.1,0)]:=by
 rw[aW8,h,bi2,Sh]
theorem aE8 (d:bS) (h1:d.fields.length≤4) (J:d.eM.length≤20) (aA:d.eqs.length≤20) (bz:0≤d.first∧d.first≤1000) (bZ: ∀f∈d.fields,-1000≤f.cm∧f.cm≤1000):Pure aS9 339 [.agg (bS.row d)] (.ak 3 ((Hd d).map ep)):=by
 obtain⟨hF,b6,fst,eM,eqs⟩:=d
 simp only at h1 J aA bz bZ ⊢
 refine dt bk Tryz.func339 TN (by simp only[b9,I.flat,bS.row,fz,fy,fR,aT7]) (by simp only[I.flat,fy]) ?_
 unfold JP Pv
 have rZ:((b6.map Fd.row).length:Int)=(b6.length:Int):=by rw[aT1]
 have mz:(eM.map ep).length=eM.length:=by rw[aT1]
 have cZ:((eqs.map eN).length:Int)=(eqs.length:Int):=by rw[aT1]
 simp(disch:=omega)only[go_sem,simprocAttr]
 refine ap ?_
 refine ay.uJ 3 3 438 rfl (by decide) ?_
 simp(disch:=omega)only[go_sem,simprocAttr]
 (have ax:=rZ;refine bI ?_;clear ax)
 refine ay.dq (X:=Nat) 0 (fun i=>[(1,.ptr 0 0),(3,.own 0 3 ((oC fst 0 (b6.take i)).map ep)),(9,.ak 4 (b6.map Fd.row)),(10,.int .i64 (b6.length:Int)),(11,.int .i64 (i:Int))]) (fun _=>[(0,72,bS.row ⟨hF,b6,fst,eM,eqs⟩)]) (fun i=>[(0,.bP 438 3 ((oC fst 0 (b6.take i)).map ep).length)]) (fun i=>i≤b6.length) (fun i=>b6.length-i) (aT8 _) ⟨rfl,rfl,rfl,by simp only[Env.get,rZ]; rfl,rfl,trivial⟩ ⟨rfl,trivial⟩ ⟨rfl,trivial⟩ ?_
 rintro i ae
 try simp only at ae ⊢
 cases aD:b6[i]? with
 |some f=>
  have cL:=(List.getElem?_eq_some_iff.1 aD).1
  have d1:(i:Int)<(b6.length:Int):=by omega
  have mb:=bZ f (aT6 aD)
  have fN:=Hb fst (b6.take i) 0
  rw[aX3]at fN
  clear bZ
  (have ax:=d1;refine bI ?_;clear ax)
  refine D.jz ?_
  refine ap ?_
  rw[Int.zero_sub]
  refine ay.gi (i+1) (by show i+1≤b6.length; omega) ⟨rfl,by rw[Hc aD,aV4]; rfl,rfl,rfl,by simp only[aT5]; rfl,trivial⟩ ⟨rfl,trivial⟩ ⟨by rw[Hc aD,aV4,aT2]; rfl,trivial⟩ (by show b6.length-(i+1)<b6.length-i; omega)
 |none=>
  have ck:=List.getElem?_eq_none_iff.1 aD
  have d1: ¬(i:Int)<(b6.length:Int):=by omega
  rw[aY8 ck]
  have fN:=Hb fst b6 0
  (have ax:=d1;refine bI ?_;clear ax)
  refine D.jz ?_
  refine ap ?_
  refine ay.dq (X:=Nat) 0 (fun i=>[(1,.ptr 0 0),(3,.own 0 3 ((oC fst 0 b6++(eM++oB (eqs.take i))).map ep)),(44,.ak 2 (eqs.map eN)),(45,.int .i64 (eqs.length:Int)),(46,.int .i64 (i:Int))]) (fun _=>[(0,72,bS.row ⟨hF,b6,fst,eM,eqs⟩)]) (fun i=>[(0,.bP 438 3 ((oC fst 0 b6++(eM++oB (eqs.take i))).map ep).length)]) (fun i=>i≤eqs.length) (fun i=>eqs.length-i) (aT8 _) ⟨rfl,by simp only[aX5,oB,aV7,aV4]; rfl,rfl,by simp only[Env.get,cZ]; rfl,rfl,trivial⟩ ⟨rfl,trivial⟩ ⟨by simp only[aX5,oB,aV7,aV4,aT2]; rfl,trivial⟩ ?_
  rintro j bq
  try simp only at bq ⊢
  cases bg:eqs[j]? with
  |some e=>
   have cL:=(List.getElem?_eq_some_iff.1 bg).1
   have d2:(j:Int)<(eqs.length:Int):=by omega
   have DV:=Sg (eqs.take j)
   rw[aX3]at DV
   clear aD
   (have ax:=d2;refine bI ?_;clear ax)
   refine D.jz ?_
   refine ap ?_
   refine ay.gi (j+1) (by show j+1≤eqs.length; omega) ⟨rfl,by rw[Ha bg]; simp only[aV4,aU9]; rfl,rfl,rfl,by simp only[aT5]; rfl,trivial⟩ ⟨rfl,trivial⟩ ⟨by rw[Ha bg]; simp only[aV4,aT2,Nat.add_assoc]; rfl,trivial⟩ (by show eqs.length-(j+1)<eqs.length-j; omega)
  |none=>
   have ck:=List.getElem?_eq_none_iff.1 bg
   have d2: ¬(j:Int)<(eqs.length:Int):=by omega
   (have ax:=d2;refine bI ?_;clear ax)
   refine D.r ?_
   refine⟨_,rfl,.aQ ?_ (by simp only[I.flat,fy]),trivial,trivial⟩
   rw[aY8 ck]
   rfl
end
section
attribute [local go_sem] ca dB fS fz fy fR e8 fa eI dv Fd.row ep eN cG.row et.row bS.row hQ rP ri rn
theorem Vh {all:List Fd}{l:List bS}{a:Int}{i:Nat}{d:bS}(h:l[i]? =some d):qg all (l.take i) a (l.drop i)=(qC d.name&&(decide (d.fields.length≤4)&&(decide (d.first=a)&&(!(l.take i).any (fun x=>decide (x.name=d.name))&&(rq [] d.fields&&(uM all d&&qg all (l.take (i+1)) (a+d.fields.length) (l.drop (i+1)))))))):=by
 rw[fe h,aW8,h]
 rfl
theorem V5 {l:List Fd}{i:Nat}{f:Fd}(h:l[i]? =some f):rq (l.take i) (l.drop i)=(gC f.name&&(nN f.kind f.cm f.ae&&(!(l.take i).any (fun x=>decide (x.name=f.name))&&rq (l.take (i+1)) (l.drop (i+1))))):=by
 rw[fe h,aW8,h]
 rfl
theorem aE7 (l:List bS) (aE:l.length≤1000000000) (aO: ∀d∈l,d.fields.length≤1000000000∧d.eM.length≤1000000000∧d.eqs.length≤1000000000):Pure aS9 338 [.ak 5 (l.map bS.row)] (.bool (qS l)):=by
 obtain⟨R,ac⟩: ∃R,R=qS l:=⟨_,rfl⟩
 rw[←ac]
 simp only[qS]at ac
 refine dt bk Tryz.func338 TM (by simp only[b9,I.flat,eI,aT7]) rfl ?_
 unfold JO Pu
 have jv:((l.map bS.row).length:Int)=(l.length:Int):=by rw[aT1]
 simp(disch:=omega)only[go_sem,simprocAttr]
 by_cases c1:l.length≤40
 rotate_left
 ·have d1:(40:Int)<(l.length:Int):=by omega
  (have ax:=jv;have z2:=d1;refine fX ?_;clear ax z2)
  refine D.r ?_
  exact⟨_,rfl,.aQ (by rw[ac]; simp [c1,I.aQ]) rfl,trivial,trivial⟩
 have d1: ¬(40:Int)<(l.length:Int):=by omega
 have aj:=aF2 l c1 fun d bw=>(aO d bw).1
 have du:(((oy l).map Fd.row).length:Int)=((oy l).length:Int):=by rw[aT1]
 generalize oy l=all at aj ac du
 (have ax:=jv;have z2:=d1;refine fX ?_;clear ax z2)
 refine D.P (aj) ?_
 by_cases c2:all.length≤24
 rotate_left
 ·have d2:(24:Int)<(all.length:Int):=by omega
  (have ax:=du;have z2:=d2;refine fX ?_;clear ax z2)
  refine D.r ?_
  exact⟨_,rfl,.aQ (by rw[ac]; simp [c2,I.aQ]) rfl,trivial,trivial⟩
 have d2: ¬(24:Int)<(all.length:Int):=by omega
 simp only[decide_eq_true c1,decide_eq_true c2,aU7]at ac
 (have ax:=du;have z2:=jv;have z3:=d2;refine fY ?_;clear ax z2 z3)
 clear aj
 refine ay.dq (X:=Nat×Int) (0,0) (fun q=>[(0,.ak 5 (l.map bS.row)),(3,.ak 4 (all.map Fd.row)),(4,.int .i64 q.2),(17,.ak 5 (l.map bS.row)),(18,.int .i64 (l.length:Int)),(19,.int .i64 (q.1:Int))]) (fun _=>[]) (fun _=>[]) (fun q=>q.1≤l.length∧0≤q.2∧q.2≤4*q.1∧R=qg all (l.take q.1) q.2 (l.drop q.1)) (fun q=>l.length-q.1) ⟨aT8 _,Int.le_refl _,by decide,ac⟩ ⟨rfl,rfl,rfl,rfl,rfl,rfl,trivial⟩ trivial trivial ?_
 clear ac
 rintro⟨i,a⟩ ⟨ae,WN,WO,ac⟩
 try simp only at ae WN WO ac ⊢
 cases aD:l[i]? with
 |none=>
  have ck:=List.getElem?_eq_none_iff.1 aD
  have d3: ¬(i:Int)<(l.length:Int):=by omega
  rw[aT9 ck]at ac
  (have ax:=d3;refine bI ?_;clear ax)
  refine D.r ?_
  exact⟨_,rfl,.aQ (by rw[ac]; rfl) rfl,trivial,trivial⟩
 |some d=>
 have cL:=(List.getElem?_eq_some_iff.1 aD).1
 have d3:(i:Int)<(l.length:Int):=by omega
 rw[Vh aD]at ac
 have hb:=aO d (aT6 aD)
 have aq:=E2 d.name
 have bD:=aF3 (T:=72) (cs:=bS.row d) Za (by simp only[bS.row,dE,I.dC,fz,fy,fR,aT7]) (by rfl) (fun w=>decide (w.name=d.name)) (l.take i) (by rw[aX3]; omega) fun w _=>aF4 d w
 rw[bb3]at bD
 have da:=aF8 all d (by omega) hb.2.1 hb.2.2
 generalize lk:qg all (l.take (i+1)) (a+d.fields.length) (l.drop (i+1))=rest at ac
 generalize ((l.take i).any fun w=>decide (w.name=d.name))=R4 at bD ac
 generalize qC d.name=Sj at aq ac
 generalize uM all d=G5 at da ac
 clear aO
 obtain⟨hF,b6,fst,eM,eqs⟩:=d
 simp only at ac lk hb aq bD da ⊢
 have rZ:((b6.map Fd.row).length:Int)=(b6.length:Int):=by rw[aT1]
 (have ax:=d3;refine bI ?_;clear ax)
 refine D.P (aq) ?_
 cases Sj with
 |false=>
  refine ap ?_
  refine D.r ?_
  exact⟨_,rfl,.aQ (by rw[ac]; rfl) rfl,trivial,trivial⟩
 |true=>
 by_cases eV:b6.length≤4
 rotate_left
 ·have d4:(4:Int)<(b6.length:Int):=by omega
  (have ax:=rZ;have z2:=d4;refine fX ?_;clear ax z2)
  refine D.r ?_
  exact⟨_,rfl,.aQ (by rw[ac]; simp [eV,I.aQ]) rfl,trivial,trivial⟩
 have d4: ¬(4:Int)<(b6.length:Int):=by omega
 by_cases gn:fst=a
 rotate_left
 ·(have ax:=rZ;have z2:=d4;have z3:=gn;refine fY ?_;clear ax z2 z3)
  refine D.r ?_
  exact⟨_,rfl,.aQ (by rw[ac]; simp [gn,I.aQ]) rfl,trivial,trivial⟩
 simp only[decide_eq_true eV,decide_eq_true gn,aU7]at ac
 subst fst
 (have ax:=rZ;have z2:=d4;refine fX ?_;clear ax z2)
 (apply ai.zq (i);(·simp(disch:=omega)only[go_sem,simprocAttr]<;>with_reducible rfl);(·simp(disch:=omega)only[go_sem,simprocAttr]<;>with_reducible rfl);(·omega);(·(try simp only[aT1]);omega))
 refine ap ?_
 refine D.F ⟨[0],[]⟩ (bD) ?_
 cases R4 with
 |true=>
  refine ap ?_
  refine D.r ?_
  exact⟨_,rfl,.aQ (by rw[ac]; rfl) rfl,trivial,trivial⟩
 |false=>
 (have ax:=rZ;refine bI ?_;clear ax)
 simp only[aZ2,aU7]at ac
 clear aq bD
 refine ay.dq (X:=Nat) 0 (fun k=>[(0,.ak 5 (l.map bS.row)),(3,.ak 4 (all.map Fd.row)),(4,.int .i64 (a+(b6.length:Int))),(6,.ptr 0 0),(17,.ak 5 (l.map bS.row)),(18,.int .i64 (l.length:Int)),(19,.int .i64 (i:Int)),(53,.ak 4 (b6.map Fd.row)),(54,.int .i64 (b6.length:Int)),(55,.int .i64 (k:Int))]) (fun _=>[(0,72,bS.row ⟨hF,b6,a,eM,eqs⟩)]) (fun _=>[]) (fun k=>k≤b6.length∧R=(rq (b6.take k) (b6.drop k)&&(G5&&rest))) (fun k=>b6.length-k) ⟨aT8 _,ac⟩ ⟨rfl,rfl,rfl,rfl,rfl,rfl,rfl,rfl,by simp only[Env.get,rZ]; rfl,rfl,trivial⟩ ⟨rfl,trivial⟩ trivial ?_
 clear ac
 rintro k ⟨hk,ac⟩
 try simp only at hk ac ⊢
 cases bg:b6[k]? with
 |none=>
  have ck:=List.getElem?_eq_none_iff.1 bg
  have d5: ¬(k:Int)<(b6.length:Int):=by omega
  rw[aT9 ck]at ac
  simp only[rq,aU7]at ac
  clear aD
  (have ax:=d5;refine bI ?_;clear ax)
  refine D.P (da) ?_
  cases G5 with
  |false=>
   refine ap ?_
   refine D.r ?_
   exact⟨_,rfl,.aQ (by rw[ac]; rfl) rfl,trivial,trivial⟩
  |true=>
   simp only[aU7]at ac
   refine ap ?_
   refine ay.gi (i+1,a+b6.length) ⟨by omega,by omega,by omega,by rw[lk,ac]⟩ ⟨rfl,rfl,rfl,rfl,rfl,by simp only[aT5]; rfl,trivial⟩ trivial trivial (by show l.length-(i+1)<l.length-i; omega)
 |some f=>
  have XG:=(List.getElem?_eq_some_iff.1 bg).1
  have d5:(k:Int)<(b6.length:Int):=by omega
  rw[V5 bg]at ac
  have fh:=oT f.name
  have l6:=aF5 f.kind f.cm f.ae
  have uF:=aF6 (T:=131) (cs:=Fd.row f) Zb rfl rfl (fun w=>decide (w.name=f.name)) (b6.take k) (by rw[aX3]; omega) fun w _=>aF7 f w
  rw[bb3]at uF
  generalize X0:rq (b6.take (k+1)) (b6.drop (k+1))=cp at ac
  generalize gC f.name=ff at fh ac
  generalize nN f.kind f.cm f.ae=jf at l6 ac
  generalize ((b6.take k).any fun w=>decide (w.name=f.name))=lE at uF ac
  clear aD da
  (have ax:=d5;refine bI ?_;clear ax)
  refine D.P (fh) ?_
  cases ff with
  |false=>
   refine ap ?_
   refine D.r ?_
   exact⟨_,rfl,.aQ (by rw[ac]; rfl) rfl,trivial,trivial⟩
  |true=>
  refine ap ?_
  refine D.P (l6) ?_
  cases jf with
  |false=>
   refine ap ?_
   refine D.r ?_
   exact⟨_,rfl,.aQ (by rw[ac]; rfl) rfl,trivial,trivial⟩
  |true=>
  refine ap ?_
  (apply ai.zq (k);(·simp(disch:=omega)only[go_sem,simprocAttr]<;>with_reducible rfl);(·simp(disch:=omega)only[go_sem,simprocAttr]<;>with_reducible rfl);(·omega);(·(try simp only[aT1]);omega))
  refine ap ?_
  refine D.F ⟨[1],[]⟩ (uF) ?_
  cases lE with
  |true=>
   refine ap ?_
   refine D.r ?_
   exact⟨_,rfl,.aQ (by rw[ac]; rfl) rfl,trivial,trivial⟩
  |false=>
  refine ap ?_
  refine ay.gi (k+1) ⟨by omega,by rw[X0,ac]; rfl⟩ ⟨rfl,rfl,rfl,rfl,rfl,rfl,rfl,rfl,rfl,by simp only[aT5]; rfl,trivial⟩ ⟨rfl,trivial⟩ trivial (by show b6.length-(k+1)<b6.length-k; omega)
end
section
attribute [local go_sem] ca dB fS fz fy fR e8 fa eI dv Fd.row ep eN cG.row et.row bS.row hQ rP ri rn
theorem au5 {k cm ae:Int}(h:nN k cm ae=true): -1000≤cm∧cm≤1000:=by
 unfold nN at h
 split at h
 ·simp only[aT0,decide_eq_true_eq]at h
  omega
 ·split at h
  ·simp only[aT0,decide_eq_true_eq]at h
   omega
  ·cases h
theorem Ku: ∀(l a:List Fd),rq a l=true→∀f∈l,gC f.name=true∧nN f.kind f.cm f.ae=true
 |[],_,_,f,aO=>absurd aO (by simp)
 |x::l,a,h,f,aO=>by
  simp only[rq,aT0]at h
  rcases List.mem_cons.1 aO with rfl|J
  ·exact⟨h.1,h.2.1⟩
  ·exact Ku l _ h.2.2.2 f J
theorem aG5 {d:bS}{t:List bS}(h:qS (d::t)=true):d.fields.length≤4∧d.eM.length≤20∧d.eqs.length≤20∧d.first=0∧∀f∈d.fields,-1000≤f.cm∧f.cm≤1000:=by
 simp only[qS,qg,uM,aT0,decide_eq_true_eq]at h
 obtain⟨_,_,_,h1,J,_,aA,⟨bz,bZ,_⟩,_⟩:=h
 exact⟨h1,bz,bZ,J,fun f aO=>au5 (Ku _ _ aA f aO).2⟩
def vZ (l:List bS):List (Int×Int×Int)×Int:=if qS l=true then (match l with|[]=>([],1)|d:: _=>(Hd d,0)) else ([],1)
theorem aD6 (l:List bS) (aE:l.length≤1000000000) (aO: ∀d∈l,d.fields.length≤1000000000∧d.eM.length≤1000000000∧d.eqs.length≤1000000000):Pure aS9 258 [.ak 5 (l.map bS.row),.int .i64 0] (.cV [.ak 3 ((vZ l).1.map ep),.int .i64 (vZ l).2]):=by
 obtain⟨S,kP⟩: ∃S,S=vZ l:=⟨_,rfl⟩
 rw[←kP]
 refine dt bk Tryz.func258 Tl (by simp only[b9,I.flat,eI,aT7]) (by simp only[I.flat,b9,fy,aT7]) ?_
 unfold Jp O2
 have jv:((l.map bS.row).length:Int)=(l.length:Int):=by rw[aT1]
 have aj:=aE7 l aE aO
 simp(disch:=omega)only[go_sem,simprocAttr]
 cases l with
 |nil=>
  refine ap ?_
  refine D.r ?_
  refine⟨_,rfl,?_,trivial,trivial⟩
  rw[kP]
  exact .cV (.cons .nil (.cons (.aQ rfl rfl) .nil))
 |cons d t=>
  have d1: ¬((t.length:Int)+1)≤0:=by omega
  have pa:((t.map bS.row).length:Int)=(t.length:Int):=by rw[aT1]
  simp only[vZ]at kP
  cases ad:qS (d::t) with
  |false=>
   rw[ad]at aj kP
   (have ax:=jv;have z2:=d1;have z3:=And.intro pa @aT5;refine fY ?_;clear ax z2 z3)
   refine D.P (aj) ?_
   refine ap ?_
   refine D.r ?_
   refine⟨_,rfl,?_,trivial,trivial⟩
   rw[kP]
   exact .cV (.cons .nil (.cons (.aQ rfl rfl) .nil))
  |true=>
   rw[ad]at aj kP
   obtain⟨h1,J,aA,bz,bZ⟩:=aG5 ad
   have aq:=aE8 d h1 J aA (by omega) bZ
   (have ax:=jv;have z2:=d1;have z3:=And.intro pa @aT5;refine fY ?_;clear ax z2 z3)
   refine D.P (aj) ?_
   refine ap ?_
   refine D.P (aq) ?_
   refine ap ?_
   refine D.r ?_
   refine⟨_,rfl,?_,trivial,trivial⟩
   rw[kP]
   exact .aQ rfl (by simp only[I.flat,b9,fy,aT7])
theorem aC6 (l:List bS) (aE:l.length≤1000000000) (aO: ∀d∈l,d.fields.length≤1000000000∧d.eM.length≤1000000000∧d.eqs.length≤1000000000):Pure aS9 156 [.ak 5 (l.map bS.row)] (.bool (uD l)):=by
 have aj:=aD6 l aE aO
 obtain⟨R,ac⟩: ∃R,R=uD l:=⟨_,rfl⟩
 rw[←ac]
 refine dt bk Tryz.func156 SI (by simp only[b9,I.flat,eI,aT7]) rfl ?_
 unfold IQ Oo
 simp(disch:=omega)only[go_sem,simprocAttr]
 cases l with
 |nil=>
  refine ap ?_
  refine D.r ?_
  exact⟨_,rfl,.aQ (by rw[ac]; rfl) rfl,trivial,trivial⟩
 |cons d t=>
  have d1: ¬((t.length:Int)+1)=0:=by omega
  have pa:((t.map bS.row).length:Int)=(t.length:Int):=by rw[aT1]
  simp only[uD,aT3]at ac
  cases ad:qS (d::t) with
  |false=>
   rw[ad]at ac
   simp only[vZ,ad]at aj
   (have ax:=d1;have z2:=pa;have z3:=@aT5;refine fY ?_;clear ax z2 z3)
   refine D.P (aj) ?_
   refine ap ?_
   refine D.r ?_
   exact⟨_,rfl,.aQ (by rw[ac]; simp [I.aQ]) rfl,trivial,trivial⟩
  |true=>
   rw[ad]at ac
   simp only[vZ,ad]at aj
   (have ax:=d1;have z2:=pa;have z3:=@aT5;refine fY ?_;clear ax z2 z3)
   refine D.P (aj) ?_
   refine ap ?_
   refine D.r ?_
   exact⟨_,rfl,.aQ (by rw[ac]; simp [I.aQ]) rfl,trivial,trivial⟩
end
section
attribute [local go_sem] ca dB fS fz fy fR e8 fa eI dv Fd.row ep eN cG.row et.row bS.row hQ rP ri rn
theorem ED: ∀(l:List Int) (i:Nat){x v:Int},l[i]? =some x→x<0→0≤v→oS (l.set i v)+1=oS l
 |[],i,x,v,h,_,_=>by simp at h
 |y::l,0,x,v,h,U,ad=>by
  simp only[List.getElem?_cons_zero,Option.some.injEq]at h
  subst h
  have d1: ¬v<0:=by omega
  simp only[oS,List.set_cons_zero,List.countP_cons,U,d1,decide_true,decide_false,if_true,aU6,if_false,Nat.add_zero]
 |y::l,i+1,x,v,h,U,ad=>by
  simp only[List.getElem?_cons_succ]at h
  have b8:=ED l i h U ad
  simp only[oS,List.set_cons_succ,List.countP_cons]at b8 ⊢
  omega
theorem aa6: ∀l:List Int,oS l≤l.length:=fun l=>List.countP_le_length
theorem aa7 (n:Nat):oS (aU2 n (-1))=n:=by
 simp [oS,List.countP_replicate]
structure uu (N:Nat) (out todo:List Int):Prop where
 len:out.length=N
 zx: ∀x∈todo,0≤x∧x<N∧0≤out.getD x.toNat 0
 val: ∀i:Nat,out.getD i 0+(oS out:Int)≤N
theorem uu.add {N:Nat}{out todo:List Int}(h:uu N out todo){u w:Int}(hu:u∈todo) (hw:0≤w∧w<N) (bb:out.getD w.toNat 0<0):uu N (out.set w.toNat (out.getD u.toNat 0+1)) (todo++[w])∧oS (out.set w.toNat (out.getD u.toNat 0+1))+1=oS out:=by
 obtain⟨vK,xu,xv⟩:=h.zx u hu
 have aE:=h.len
 have bm:out[w.toNat]? =some (out.getD w.toNat 0):=by
  rw[aV9,aU0 (show w.toNat<out.length by omega)]
  rfl
 have ad:=h.val u.toNat
 have sw:=ED out w.toNat (v:=out.getD u.toNat 0+1) bm bb (by omega)
 have key: ∀i:Nat,(out.set w.toNat (out.getD u.toNat 0+1)).getD i 0=if i=w.toNat then out.getD u.toNat 0+1 else out.getD i 0:=fun i=>by
  simp only[aV9,List.getElem?_set]
  by_cases e:w.toNat=i
  ·subst e
   rw[if_pos rfl,if_pos (by omega),if_pos rfl]
   rfl
  ·rw[if_neg e,if_neg (Ne.symm e)]
 refine⟨⟨by rw[bl1]; exact aE,fun x U=> ?_,fun i=> ?_⟩,sw⟩
 ·rw[key]
  rcases List.mem_append.1 U with U|U
  ·have:=h.zx x U
   refine⟨this.1,this.2.1,?_⟩
   split
   ·omega
   ·exact this.2.2
  ·simp only[List.mem_singleton]at U
   subst U
   refine⟨hw.1,hw.2,?_⟩
   rw[if_pos rfl]
   omega
 ·rw[key]
  have:=h.val i
  split<;>omega
theorem aD7 (l:List Int) (x:Int) (aE:l.length≤1000000000000):Pure aS9 259 [.ak 1 (l.map dv),.int .i64 x] (.int .i64 (cW (fun v=> !decide (x=v)) l 0)):=by
 refine dt bk Tryz.func259 Tm (by simp only[b9,I.flat,fS,aT7]) rfl ?_
 unfold Jq O3
 have jv:((l.map dv).length:Int)=(l.length:Int):=by rw[aT1]
 simp(disch:=omega)only[go_sem,simprocAttr]
 (have ax:=jv;refine bI ?_;clear ax)
 refine ay.dq (X:=Nat) 0 (fun i=>[(0,.ak 1 (l.map dv)),(1,.int .i64 x),(7,.int .i64 (l.length:Int)),(8,.int .i64 (i:Int))]) (fun _=>[]) (fun _=>[]) (fun i=>i≤l.length∧cW (fun v=> !decide (x=v)) (l.drop i) i=cW (fun v=> !decide (x=v)) l 0) (fun i=>l.length-i) ⟨aT8 _,rfl⟩ ⟨rfl,rfl,by simp only[Env.get,jv]; rfl,rfl,trivial⟩ trivial trivial ?_
 rintro i ⟨ae,aD⟩
 try simp only at ae aD ⊢
 cases ad:l[i]? with
 |none=>
  have ck:=List.getElem?_eq_none_iff.1 ad
  have d1: ¬(i:Int)<(l.length:Int):=by omega
  rw[aT9 ck]at aD
  (have ax:=d1;refine bI ?_;clear ax)
  refine D.r ?_
  exact⟨_,rfl,.aQ (by rw[←aD]; rfl) rfl,trivial,trivial⟩
 |some v=>
  have cL:=(List.getElem?_eq_some_iff.1 ad).1
  have d1:(i:Int)<(l.length:Int):=by omega
  rw[fe ad]at aD
  simp only[cW]at aD
  by_cases e:x=v
  ·simp only[decide_eq_true e,bc0]at aD
   (have ax:=d1;have z2:=e;refine fX ?_;clear ax z2)
   refine D.r ?_
   exact⟨_,rfl,.aQ (by rw[←aD]; rfl) rfl,trivial,trivial⟩
  ·simp only[decide_eq_false e,aZ2]at aD
   (have ax:=d1;have z2:=e;refine fX ?_;clear ax z2)
   refine ay.gi (i+1) ⟨by omega,by rw[←aD]; rfl⟩ ⟨rfl,rfl,rfl,by simp only[aT5]; rfl,trivial⟩ trivial trivial (by show l.length-(i+1)<l.length-i; omega)
theorem QU (l:List Int) (x:Int) (aE:l.length≤1000000000000):Pure aS9 159 [.ak 1 (l.map dv),.int .i64 x] (.bool (l.contains x)):=by
 have aj:=aD7 l x aE
 have aq:=sK (fun v=>decide (x=v)) l
 have bD:l.contains x=l.any fun v=>decide (x=v):=by
  rw[List.contains_eq_any_beq]
  rfl
 rw[bD,←aq]
 generalize cW (fun v=> !decide (x=v)) l 0=z at aj ⊢
 refine dt bk Tryz.func159 SL (by simp only[b9,I.flat,fS,aT7]) rfl ?_
 unfold IT Ou
 simp(disch:=omega)only[go_sem,simprocAttr]
 refine ap ?_
 refine D.P (aj) ?_
 refine ap ?_
 exact D.rx
end
section
attribute [local go_sem] ca dB fS fz fy fR e8 fa eI dv Fd.row ep eN cG.row et.row bS.row hQ rP ri rn
theorem sy (l:List Int): ∀r∈l.map dv,r.length=1:=fun r ab=>by
 obtain⟨x,_,rfl⟩:=List.mem_map.1 ab
 rfl
theorem wV {l:List Int}{i:Nat}{x:Int}(h:l[i]? =some x):(l.map dv)[i]? =some [.int .i64 x]:=by
 rw[List.getElem?_map,h]
 rfl
theorem Er (l:List Int) (i:Nat) (x:Int):(l.map dv).set i [.int .i64 x]=(l.set i x).map dv:=by
 rw[List.map_set]
 rfl
theorem YE (n:Nat):aU2 n [I.int .i64 (-1)]=(aU2 n (-1)).map dv:=by
 rw[List.map_replicate]
 rfl
theorem QV (g:cI) (hb:pc g) (bb:rJ g=true) (fK:Int) (aW:0≤fK) (h1:fK<g.hX) (back:Bool):Pure aS9 160 [g.eU,.int .i64 fK,.bool back] (.ak 1 ((qI g fK back).map dv)):=by
 have dP:=hb.ne
 simp only[rJ,aT0,decide_eq_true_eq]at bb
 obtain⟨tQ,rH,_,_,_,_,My,n4⟩:=bb
 have dp: ∀e∈g.bY,0≤(po back e).1∧(po back e).1<g.hX∧0≤(po back e).2∧(po back e).2<g.hX:=fun e he=>by
  have:=List.all_eq_true.1 n4 e he
  simp only[wu,aT0,decide_eq_true_eq]at this
  unfold po
  split<;>simp only<;>omega
 clear n4
 obtain⟨N,dl⟩: ∃N:Nat,g.hX=(N:Int):=⟨g.hX.toNat,by omega⟩
 obtain⟨R,ac⟩: ∃R,R=qI g fK back:=⟨_,rfl⟩
 rw[←ac]
 have Dq:=pu g
 have kM:=oI g
 simp only[qI]at ac
 rw[dl]at ac h1 tQ rH dp Dq kM
 rw[Int.toNat_natCast]at ac
 rw[Dq]
 refine NQ bk Tryz.func160 SM (by simp only[b9,I.flat,dB,eI,e8,fa,aT7]) ?_
 unfold IU Ov
 have cZ:((g.bY.map cG.row).length:Int)=(g.bY.length:Int):=by rw[aT1]
 have pm:=af7 N (by omega) (by omega)
 rw[YE]at pm
 simp(disch:=omega)only[go_sem,simprocAttr]
 refine ap ?_
 refine D.Rw pm ?_
 refine ap ?_
 have aE:fK.toNat<((aU2 N (-1)).map dv).length:=by rw[aT1,aX8]; omega
 refine D.qx fK.toNat aE ?_
 have bm:((aU2 N (-1)).map dv)[fK.toNat]? =some [.int .i64 (-1)]:=wV (by rw[bb5,if_pos (by omega)])
 refine D.stM (p:=fK.toNat) bm (sy _) ?_
 rw[show (I.int .i64 0).cells=[.int .i64 0] from rfl,Er]
 have sw:=ED (aU2 N (-1)) fK.toNat (x:= -1) (v:=0) (by rw[bb5,if_pos (by omega)]) (by decide) (Int.le_refl _)
 rw[aa7]at sw
 have Lo: ∀i:Nat,((aU2 N (-1:Int)).set fK.toNat 0).getD i 0≤0∧(i=fK.toNat→0≤((aU2 N (-1:Int)).set fK.toNat 0).getD i 0):=fun i=>by
  simp only[aV9,List.getElem?_set,bb5,aX8]
  by_cases e:fK.toNat=i
  ·rw[if_pos e]
   split<;>simp
  ·rw[if_neg e]
   refine⟨?_,fun h=>absurd h.symm e⟩
   split<;>simp
 have hB:uu N ((aU2 N (-1)).set fK.toNat 0) [fK]:=by
  refine⟨by simp,fun x U=> ?_,fun i=> ?_⟩
  ·simp only[List.mem_singleton]at U
   subst U
   exact⟨aW,h1,(Lo _).2 rfl⟩
  ·have:=(Lo i).1
   omega
 have l9:2*oS ((aU2 N (-1)).set fK.toNat 0)+[fK].length≤2*N+1:=by
  simp only[aT3,aU1]
  omega
 generalize (aU2 N (-1)).set fK.toNat 0=ac6 at hB l9 ac ⊢
 refine ap ?_
 refine ay.dq (X:=Nat×List Int×List Int×Nat) (2*N+2,ac6,[fK],0) (fun q=>[(2,.bool back),(3,.ptr 0 0),(7,.cz 0 0),(8,.cz 1 q.2.2.2)]) (fun _=>[(0,32,g.cells)]) (fun q=>[(0,.bc 3 1 0 (q.2.1.map dv)),(1,.bc 3 1 q.2.2.2 (q.2.2.1.map dv))]) (fun q=>uu N q.2.1 q.2.2.1∧2*oS q.2.1+q.2.2.1.length<q.1∧q.1≤2*N+2∧R=vE g.bY back q.1 q.2.1 q.2.2.1) (fun q=>q.1) ⟨hB,by simp only; omega,aT4 _,ac⟩ ⟨rfl,rfl,rfl,rfl,trivial⟩ ⟨by simp only[kM]; rfl,trivial⟩ ⟨rfl,rfl,trivial⟩ ?_
 clear ac l9 hB
 rintro⟨wy,out,todo,ver⟩ ⟨hB,l9,yp,ac⟩
 try simp only at hB l9 yp ac ⊢
 simp only[kM]
 have pa:(((todo.map dv).length:Nat):Int)=(todo.length:Int):=by rw[aT1]
 cases wy with
 |zero=>omega
 |succ wy=>
 cases todo with
 |nil=>
  simp only[vE]at ac
  refine ap ?_
  refine D.yS ?_
  refine ap ?_
  refine D.r ?_
  refine⟨_,rfl,?_⟩
  rw[ac]
  exact .cz rfl (fS _)
 |cons h cv=>
  simp only[vE]at ac
  have d0:(0:Int)<(cv.length:Int)+1:=by omega
  have jv:(cv.map dv).length=cv.length:=by rw[aT1]
  refine ap ?_
  refine D.yS ?_
  generalize cM:rO h back g.bY (out,h::cv)=F at ac
  (have ax:=d0;have z2:=cZ;have z3:=And.intro jv (And.intro @aT5 @Int.cast_ofNat_Int);refine fY ?_;clear ax z2 z3)
  refine ay.dq (X:=Nat×List Int×List Int×Nat) (0,out,h::cv,ver) (fun q=>[(2,.bool back),(3,.ptr 0 0),(7,.cz 0 0),(8,.cz 1 q.2.2.2),(28,.ak 6 (g.bY.map cG.row)),(29,.int .i64 (g.bY.length:Int)),(30,.int .i64 (q.1:Int))]) (fun _=>[(0,32,g.cells)]) (fun q=>[(0,.bc 3 1 0 (q.2.1.map dv)),(1,.bc 3 1 q.2.2.2 (q.2.2.1.map dv))]) (fun q=>q.1≤g.bY.length∧uu N q.2.1 q.2.2.1∧2*oS q.2.1+q.2.2.1.length<wy+1∧q.2.2.1[0]? =some h∧rO h back (g.bY.drop q.1) (q.2.1,q.2.2.1)=F) (fun q=>g.bY.length-q.1) ⟨aT8 _,hB,l9,rfl,cM⟩ ⟨rfl,rfl,rfl,rfl,rfl,by simp only[Env.get,cZ]; rfl,rfl,trivial⟩ ⟨by simp only[kM]; rfl,trivial⟩ ⟨rfl,rfl,trivial⟩ ?_
  clear cM l9 hB d0 pa
  rintro⟨j,out,todo,ver⟩ ⟨bq,hB,l9,aF,cM⟩
  try simp only at bq hB l9 aF cM ⊢
  simp only[kM]
  cases aD:g.bY[j]? with
  |none=>
   have ck:=List.getElem?_eq_none_iff.1 aD
   have d1: ¬(j:Int)<(g.bY.length:Int):=by omega
   rw[aT9 ck]at cM
   simp only[rO]at cM
   subst cM
   simp only at ac
   cases todo with
   |nil=>simp at aF
   |cons a b=>
   have A0:((a::b).map dv).length≠0:=by simp
   have uP:uu N out b:=⟨hB.len,fun x U=>hB.zx x (List.mem_cons_of_mem _ U),hB.val⟩
   rw[aT3]at l9
   (have ax:=d1;refine bI ?_;clear ax)
   refine D.ax7 A0 ?_
   refine ap ?_
   refine ay.gi (wy,out,b,ver+1) ⟨uP,by simp only; omega,by simp only; omega,ac⟩ ⟨rfl,rfl,rfl,rfl,trivial⟩ ⟨by simp only[kM]; rfl,trivial⟩ ⟨rfl,rfl,trivial⟩ (by show wy<wy+1; omega)
  |some e=>
   have cL:=(List.getElem?_eq_some_iff.1 aD).1
   have d1:(j:Int)<(g.bY.length:Int):=by omega
   have he:=dp e (aT6 aD)
   rw[fe aD]at cM
   simp only[rO]at cM
   have pA:0<(todo.map dv).length:=by
    cases todo with
    |nil=>simp at aF
    |cons a b=>simp
   have hU:=wV aF
   have XO:=aa6 out
   rw[hB.len]at XO
   obtain⟨iP,pq,iN,aL7,iO,aL8⟩:=e
   cases back with
   |false=>
    simp only[po,if_true,aU6,if_false]at he cM
    (have ax:=d1;refine bI ?_;clear ax)
    refine D.qx 0 pA ?_
    refine D.tM (p:=0) hU (sy _) ?_
    by_cases hu:iP=h
    rotate_left
    ·rw[if_neg (fun ah=>hu ah.1)]at cM
     (have ax:=hu;refine bI ?_;clear ax)
     refine ay.gi (j+1,out,todo,ver) ⟨by simp only; omega,hB,l9,aF,cM⟩ ⟨rfl,rfl,rfl,rfl,rfl,rfl,by simp only[aT5]; rfl,trivial⟩ ⟨by simp only[kM]; rfl,trivial⟩ ⟨rfl,rfl,trivial⟩ (by show g.bY.length-(j+1)<g.bY.length-j; omega)
    subst hu
    have D6:out[(iO).toNat]? =some (out.getD (iO).toNat 0):=by
     have:=hB.len
     rw[aV9,aU0 (show (iO).toNat<out.length by omega)]
     rfl
    have D4:out[(iP).toNat]? =some (out.getD (iP).toNat 0):=by
     have:=hB.len
     rw[aV9,aU0 (show (iP).toNat<out.length by omega)]
     rfl
    have u0:(iO).toNat<(out.map dv).length:=by rw[aT1,hB.len]; omega
    have D9:(iP).toNat<(out.map dv).length:=by rw[aT1,hB.len]; omega
    have ys:=wV D6
    have D5:=wV D4
    refine ap ?_
    refine D.qx (iO).toNat u0 ?_
    refine dM ?_
    refine D.tM (p:=(iO).toNat) ys (sy _) ?_
    by_cases qq:out.getD (iO).toNat 0<0
    rotate_left
    ·rw[if_neg (fun ah=>qq ah.2)]at cM
     (have ax:=qq;refine bI ?_;clear ax)
     refine ay.gi (j+1,out,todo,ver) ⟨by simp only; omega,hB,l9,aF,cM⟩ ⟨rfl,rfl,rfl,rfl,rfl,rfl,by simp only[aT5]; rfl,trivial⟩ ⟨by simp only[kM]; rfl,trivial⟩ ⟨rfl,rfl,trivial⟩ (by show g.bY.length-(j+1)<g.bY.length-j; omega)
    rw[if_pos ⟨rfl,qq⟩]at cM
    have yy:iP∈todo:=aT6 aF
    obtain⟨uP,sw⟩:=hB.add yy ⟨he.2.2.1,he.2.2.2⟩ qq
    have mb:=(hB.zx _ yy).2.2
    have fN:=hB.val (iP).toNat
    have lO:(todo++[iO])[0]? =some iP:=by
     cases todo with
     |nil=>simp at aF
     |cons a b=>exact aF
    have Ej:todo.length≤1000000:=by omega
    have u7:=Er out (iO).toNat (out.getD (iP).toNat 0+1)
    (have ax:=qq;refine bI ?_;clear ax)
    refine D.qx (iP).toNat D9 ?_
    refine D.tM (p:=(iP).toNat) D5 (sy _) ?_
    generalize Yl:out.getD (iP).toNat 0=sU at mb fN u7 uP sw cM ⊢
    have Yj:sU≤200:=by omega
    refine ap ?_
    refine D.qx (iO).toNat u0 ?_
    refine D.stM (p:=(iO).toNat) ys (sy _) ?_
    rw[show (I.int .i64 (sU+1)).cells=[.int .i64 (sU+1)] from rfl,u7]
    refine ap ?_
    refine D.Cm ?_
    refine ap ?_
    refine ay.gi (j+1,out.set (iO).toNat (sU+1),todo++[iO],ver+1) ⟨by simp only; omega,uP,by simp only[aT2,aT3,aU1]; omega,lO,cM⟩ ⟨rfl,rfl,rfl,rfl,rfl,rfl,by simp only[aT5]; rfl,trivial⟩ ⟨by simp only[kM]; rfl,trivial⟩ ⟨rfl,by simp only[aV4]; rfl,trivial⟩ (by show g.bY.length-(j+1)<g.bY.length-j; omega)
   |true=>
    simp only[po,if_true,aU6,if_false]at he cM
    (have ax:=d1;refine bI ?_;clear ax)
    refine D.qx 0 pA ?_
    refine D.tM (p:=0) hU (sy _) ?_
    by_cases hu:iO=h
    rotate_left
    ·rw[if_neg (fun ah=>hu ah.1)]at cM
     (have ax:=hu;refine bI ?_;clear ax)
     refine ay.gi (j+1,out,todo,ver) ⟨by simp only; omega,hB,l9,aF,cM⟩ ⟨rfl,rfl,rfl,rfl,rfl,rfl,by simp only[aT5]; rfl,trivial⟩ ⟨by simp only[kM]; rfl,trivial⟩ ⟨rfl,rfl,trivial⟩ (by show g.bY.length-(j+1)<g.bY.length-j; omega)
    subst hu
    have D6:out[(iP).toNat]? =some (out.getD (iP).toNat 0):=by
     have:=hB.len
     rw[aV9,aU0 (show (iP).toNat<out.length by omega)]
     rfl
    have D4:out[(iO).toNat]? =some (out.getD (iO).toNat 0):=by
     have:=hB.len
     rw[aV9,aU0 (show (iO).toNat<out.length by omega)]
     rfl
    have u0:(iP).toNat<(out.map dv).length:=by rw[aT1,hB.len]; omega
    have D9:(iO).toNat<(out.map dv).length:=by rw[aT1,hB.len]; omega
    have ys:=wV D6
    have D5:=wV D4
    refine ap ?_
    refine D.qx (iP).toNat u0 ?_
    refine dM ?_
    refine D.tM (p:=(iP).toNat) ys (sy _) ?_
    by_cases qq:out.getD (iP).toNat 0<0
    rotate_left
    ·rw[if_neg (fun ah=>qq ah.2)]at cM
     (have ax:=qq;refine bI ?_;clear ax)
     refine ay.gi (j+1,out,todo,ver) ⟨by simp only; omega,hB,l9,aF,cM⟩ ⟨rfl,rfl,rfl,rfl,rfl,rfl,by simp only[aT5]; rfl,trivial⟩ ⟨by simp only[kM]; rfl,trivial⟩ ⟨rfl,rfl,trivial⟩ (by show g.bY.length-(j+1)<g.bY.length-j; omega)
    rw[if_pos ⟨rfl,qq⟩]at cM
    have yy:iO∈todo:=aT6 aF
    obtain⟨uP,sw⟩:=hB.add yy ⟨he.2.2.1,he.2.2.2⟩ qq
    have mb:=(hB.zx _ yy).2.2
    have fN:=hB.val (iO).toNat
    have lO:(todo++[iP])[0]? =some iO:=by
     cases todo with
     |nil=>simp at aF
     |cons a b=>exact aF
    have Ej:todo.length≤1000000:=by omega
    have u7:=Er out (iP).toNat (out.getD (iO).toNat 0+1)
    (have ax:=qq;refine bI ?_;clear ax)
    refine D.qx (iO).toNat D9 ?_
    refine D.tM (p:=(iO).toNat) D5 (sy _) ?_
    generalize Yl:out.getD (iO).toNat 0=sU at mb fN u7 uP sw cM ⊢
    have Yj:sU≤200:=by omega
    refine ap ?_
    refine D.qx (iP).toNat u0 ?_
    refine D.stM (p:=(iP).toNat) ys (sy _) ?_
    rw[show (I.int .i64 (sU+1)).cells=[.int .i64 (sU+1)] from rfl,u7]
    refine ap ?_
    refine D.Cm ?_
    refine ap ?_
    refine ay.gi (j+1,out.set (iP).toNat (sU+1),todo++[iP],ver+1) ⟨by simp only; omega,uP,by simp only[aT2,aT3,aU1]; omega,lO,cM⟩ ⟨rfl,rfl,rfl,rfl,rfl,rfl,by simp only[aT5]; rfl,trivial⟩ ⟨by simp only[kM]; rfl,trivial⟩ ⟨rfl,by simp only[aV4]; rfl,trivial⟩ (by show g.bY.length-(j+1)<g.bY.length-j; omega)
end
section
attribute [local go_sem] ca dB fS fz fy fR e8 fa eI dv Fd.row ep eN cG.row et.row bS.row hQ rP ri rn
theorem FM: ∀(es:List cG) (back:Bool) (n:Nat) (out todo:List Int),(vE es back n out todo).length=out.length
 | _,_,0,_,_=>rfl
 | _,_,_+1,_,[]=>rfl
 |es,back,n+1,out,h::todo=>by
  have key: ∀(es:List cG) (s:List Int×List Int),(rO h back es s).1.length=s.1.length:=fun es=>by
   induction es with
   |nil=>intro s; rfl
   |cons e l b8=>
    intro s
    simp only[rO]
    split
    ·rw[b8]; simp
    ·exact b8 s
  simp only[vE]
  rw[FM es back n,key]
theorem aG0 (g:cI) (hb:pc g):Pure aS9 82 [g.eU] (.bool (kJ g)):=by
 have aj:=aC4 g hb
 have aq:=aC5 g hb
 have bD:=aC6 g.decls hb.EC hb.nf
 have da:=aC7 g hb
 have fh:=aC8 g hb
 obtain⟨R,ac⟩: ∃R,R=kJ g:=⟨_,rfl⟩
 rw[←ac]
 simp only[kJ]at ac
 have ru:=pu g
 generalize wF:g.eU=eU at*
 subst ru
 refine dt bk Tryz.func82 Uc (by simp only[b9,I.flat,dB,eI,e8,fa,aT7]) rfl ?_
 unfold wq PQ
 generalize wY g=ff at aj ac
 generalize uD g.decls=lE at bD ac
 generalize y8 g=pj at da ac
 generalize zv g=xP at fh ac
 simp(disch:=omega)only[go_sem,simprocAttr]
 refine ap ?_
 refine D.P (aj) ?_
 cases ff with
 |false=>
  refine ap ?_
  refine D.r ?_
  exact⟨_,rfl,.aQ (by rw[ac]; rfl) rfl,trivial,trivial⟩
 |true=>
 cases J:rJ g with
 |false=>
  rw[J]at ac aq
  refine ap ?_
  refine D.P (aq) ?_
  refine ap ?_
  refine D.r ?_
  exact⟨_,rfl,.aQ (by rw[ac]; rfl) rfl,trivial,trivial⟩
 |true=>
 rw[J]at ac aq
 have bb:=J
 simp only[rJ,aT0,decide_eq_true_eq]at bb
 obtain⟨tQ,rH,My,n4,Z8,n6,_,_⟩:=bb
 have l6:=QV g hb J g.start My Z8 false
 have uF:=QV g hb J g.fin n4 n6 true
 rw[wF]at l6 uF
 have Zv:(qI g g.start false).length≤1000:=by unfold qI; rw[FM,bl1,aX8]; omega
 have Zw:(qI g g.fin true).length≤1000:=by unfold qI; rw[FM,bl1,aX8]; omega
 generalize qI g g.start false=Qi at l6 Zv ac
 generalize qI g g.fin true=Qj at uF Zw ac
 have Ka:=QU Qi (-1) (by omega)
 have Kb:=QU Qj (-1) (by omega)
 generalize Qi.contains (-1)=z8 at Ka ac
 generalize Qj.contains (-1)=Aa at Kb ac
 refine ap ?_
 refine D.P (aq) ?_
 refine ap ?_
 refine D.P (bD) ?_
 cases lE with
 |false=>
  refine ap ?_
  refine D.r ?_
  exact⟨_,rfl,.aQ (by rw[ac]; rfl) rfl,trivial,trivial⟩
 |true=>
 refine ap ?_
 refine D.P (da) ?_
 cases pj with
 |false=>
  refine ap ?_
  refine D.r ?_
  exact⟨_,rfl,.aQ (by rw[ac]; rfl) rfl,trivial,trivial⟩
 |true=>
 refine ap ?_
 refine D.P (fh) ?_
 cases xP with
 |false=>
  refine ap ?_
  refine D.r ?_
  exact⟨_,rfl,.aQ (by rw[ac]; rfl) rfl,trivial,trivial⟩
 |true=>
 refine ap ?_
 refine D.P (l6) ?_
 refine ap ?_
 refine D.P (Ka) ?_
 cases z8 with
 |true=>
  refine ap ?_
  refine D.r ?_
  exact⟨_,rfl,.aQ (by rw[ac]; rfl) rfl,trivial,trivial⟩
 |false=>
 refine ap ?_
 refine D.P (uF) ?_
 refine ap ?_
 refine D.P (Kb) ?_
 refine ap ?_
 refine D.r ?_
 exact⟨_,rfl,.aQ (by rw[ac]; cases Aa<;>rfl) rfl,trivial,trivial⟩
end
section
theorem ze (x:c9) (g:cI) (hb:pV x) (bm:pc g):Pure aS9 31 [x.eU,g.eU] (wb (iz x g)):=aE6 x g hb bm.EC bm.EK bm.ne (aG0 g bm)
end
end Go.aX.T.N
namespace Go.aX
open Go Go.aX.T.N
structure qW where
 x:c9
 ps:List (List UInt8)
 bx:List Int
 Av:Bool
 code:List gw
def qW.add (s:qW) (l:List gw):qW:=⟨s.x,s.ps,s.bx,s.Av,s.code++l⟩
def aa1 (dn:pb) (m:List UInt8):Bool:=if 0≤fF dn.ps m then decide ((fF dn.ps m).toNat<dn.bx.length) else dn.vars.any fun v=>decide (v.name=m)
mutual
def Nv (dn:pb):au→Bool
 | .mk k o m t n l=>if k=1∨k=2 then true else if k=3 then aa1 dn m else if k=4∨k=5 then decide (l.length=1)&&y6 dn l else decide (l.length=2)&&y6 dn l
def y6 (dn:pb):List au→Bool
 |[]=>true
 |x::l=>Nv dn x&&y6 dn l
end
mutual
def ab8 (dn:pb):ao→Bool
 | .mk k m x t a b=>Nv dn x&&(if k=1 then dn.vars.any (fun v=>decide (v.name=m)) else Bq dn a&&Bq dn b)
def Bq (dn:pb):List ao→Bool
 |[]=>true
 |x::l=>ab8 dn x&&Bq dn l
end
end Go.aX
namespace Go.aX.T.N
open Go Go.aX Go.Proofs Go.RowKit
set_option maxRecDepth 100000
attribute [local irreducible] Go.aX.ay Go.aX.ai Go.aX.aY
section
attribute [local go_sem] bQ.row dZ gz eb ht of_flat ca dB fS fz fy fR e8 fa eI dv Fd.row ep eN cG.row et.row bS.row
def Ak (s:qW):List I:=[.str s.x.name,.str s.x.role,.str s.x.gh,.ak 7 (s.x.vars.map bQ.row),.ak 4 (s.x.an.map bK.row),.ak 4 (s.x.os.map cC.row),.cz 0 s.code.length,.ak 1 (s.ps.map ca),.ak 1 (s.bx.map dv),.bool s.Av]
def Al (s:qW):eA:=[(0,.bc 64 3 s.code.length (s.code.map gw.row))]
def yI (s:qW):aJ:=aJ.of 1 1 [(0,151,Ak s)] (Al s)
def Gx (v:I) (s:qW):Out→aJ→Prop:=c8 v [(0,151,Ak s)] (Al s)
theorem tb (l:List gw):eD (l.map gw.row)=true:=lN (fun _=>rfl) l
attribute [local go_sem] tb gw.row Ak Al yI Gx qW.add
end
section
attribute [local go_sem] bQ.row dZ gz eb ht of_flat ca dB fS fz fy fR e8 fa eI dv Fd.row ep eN cG.row et.row bS.row au.di ao.di au.cQ ao.cQ au.er ao.er
theorem HT (T n v:Nat) (rows:List (List I)):(bB.bc T n v rows).kq=some rows:=rfl
attribute [local go_sem] tb gw.row Ak Al yI Gx qW.add HT
structure aK2 (s:qW):Prop where
 mi:s.x.vars.length≤1000000000000
 aO7:s.ps.length≤1000000000000
 aO6:s.bx.length≤1000000000000
end
end Go.aX.T.N
namespace Go.aX
open Go
section
variable {P:Program}{aN:List bj}{cF t0:Nat}{k:List e7}{Q:Out→aJ→Prop}{env:Env}{c:aJ}
theorem ay.aI6 (p o size:Nat){T:TypeId}{cs:List I}(hb:c.H.aV p=some (T,cs)) (af:cs[o]? =some .bn) (h:ay P aN cF t0 k Q env (c.cc p T (cs.set o (.ak size [])))):ay P aN cF t0 k Q env c:=fun H0 dN s a7 H R bb aF an he ab ac=>by
 obtain⟨x,cn,b5,cA,dh⟩:=ab.aV p T cs hb
 have lj:cn[o]? =some .bn:=by
  obtain⟨v,aj,aq⟩:=dh.get o _ af
  simp only[aI]at aq
  rw[aj,aq]
 refine ci.conv (fun cd av=>cd=a7∧av=H.cc x T (cn.set o (.ak size []))) ?_ ?_
 ·intro m hH aZ
  subst hH
  obtain⟨l,pA,kv,uZ⟩:=aZ.aV x T cn cA
  obtain⟨v,va,qu⟩:=kv.get o _ lj
  have v1:aK m (.ak size []) v:=cR.nil m v qu
  have qp:=kv.set o v1
  rw[yP va]at qp
  have cp:=bG.ic aZ (w':=m.w) (b:=x) (T:=T) cA rfl rfl rfl rfl (fun _ _=>rfl) pA qp uZ
  have aq:=bH.ic aZ (w':=m.w) (b:=x) (T:=T) (cs:=cn.set o (.ak size [])) cA rfl rfl rfl rfl (fun _ _=>rfl)
  exact⟨a7,_,_,_,⟨rfl,rfl⟩,cp,aq,fun j v ad=>aK.aC aq _ _ ad⟩
 ·rintro cd av ⟨rfl,rfl⟩
  refine h H0 dN s _ _ R bb aF an he (ab.cc b5 ?_) ac
  exact bd.FE dh o ((I.j1 _ (by simp only[I.flat]; rfl) _).2 rfl)
end
end Go.aX
namespace Go.aX.T.N
open Go Go.aX Go.Proofs Go.RowKit
set_option maxRecDepth 100000
attribute [local irreducible] Go.aX.ay Go.aX.ai Go.aX.aY
section
attribute [local go_sem] bQ.row dZ gz eb ht of_flat ca dB fS fz fy fR e8 fa eI dv Fd.row ep eN cG.row et.row bS.row au.di ao.di au.cQ ao.cQ au.er ao.er
attribute [local go_sem] tb gw.row HT hQ
structure aK6 (x:c9) (g:cI):Prop where
 an: ∀h∈x.an,(0≤mF g h.dw∧mF g h.dw<g.decls.length)∧Bq ⟨x.vars,h.ps,L4 g h.dw⟩ h.body=true∧h.ps.length≤1000000∧ao.cf h.body≤1000000
 os: ∀o∈x.os,y6 ⟨x.vars,[],[]⟩ o.args=true∧y6 ⟨x.vars,[],[]⟩ o.eF=true∧o.args.length≤1000000∧o.eF.length≤1000000
 b6: ∀d∈g.decls,d.fields.length≤1000000
 cl:(UH x g).length≤1000000000
 mi:x.vars.length≤1000000
 mh:x.an.length≤1000000
 no:x.os.length≤1000000
def Sc (x:c9) (g:cI) (ap5:Int) (ak an os:List (List I)) (code:List gw) (Av:Bool):ey:=[(0,48,[.str x.name,.str x.role,.str x.gh,.ak 7 (x.vars.map bQ.row),.ak 4 (x.an.map bK.row),.ak 4 (x.os.map cC.row)]),(1,32,[.str g.name,.ak 1 (g.cD.map ca),.ak 5 (g.decls.map bS.row),.int .i64 g.hX,.int .i64 g.start,.int .i64 g.fin,.ak 6 (g.bY.map cG.row),.ak 3 (g.hM.map et.row)]),(2,40,[.str [],.int .i64 0,.bn,.bn,.bn,.bn]),(3,151,[.str x.name,.str x.role,.str x.gh,.ak 7 (x.vars.map bQ.row),.ak 4 (x.an.map bK.row),.ak 4 (x.os.map cC.row),.cz 0 code.length,.ak 1 [],.ak 1 [],.bool Av]),(4,40,[.str x.name,.int .i64 ap5,.own 1 7 ak,.own 2 3 an,.own 3 4 os,.bn])]
def ax6 (ak an os:List (List I)) (code:List gw):eA:=[(0,.bc 64 3 code.length (code.map gw.row)),(1,.bP 152 7 ak.length),(2,.bP 58 3 an.length),(3,.bP 62 4 os.length)]
def VM (l:List (Nat×I)):Env:=(2,.ptr 0 0)::(3,.ptr 1 0)::(4,.ptr 2 0)::(8,.ptr 3 0)::(9,.ptr 4 0)::l
theorem uR (l:List (Int×Int×Int)):eD (l.map px)=true:=lN (fun _=>rfl) l
theorem w0 (l:List (Int×Int×Int×Int)):eD (l.map vq)=true:=lN (fun _=>rfl) l
attribute [local go_sem] uR w0 px vq Sc ax6 VM
end
section
theorem c7.xR {α β:Type}{r:c7 α}{f:α→c7 β}{b:β}(h:r.bind f= .ok b): ∃a,r= .ok a∧f a= .ok b:=by
 cases r with
 |ok a=>exact⟨a,rfl,h⟩
 |err n e=>cases h
end
section
theorem Bj {b:Bool}{n:List UInt8}{e:Int}{u:Unit}(h:e5 b n e= .ok u):b=true:=by
 unfold e5 at h
 split at h
 ·assumption
 ·cases h
end
section
theorem ag1 {l:List bT}{s:bT}(h:s∈l):0≤fF l s:=by
 have:=Ep l s l.length 0 (by omega)
 rw[bb0]at this
 have J:l.contains s=true:=by simpa using h
 rw[J,decide_eq_true_eq]at this
 exact this
end
section
def _root_.Go.aX.c7.kF {α:Type}:c7 α→Prop
 | .ok _=>True
 | .err _ e=>e≠0
theorem gE {α β:Type}{r:c7 α}{f:α→c7 β}(h:r.kF) (aO: ∀a,r= .ok a→(f a).kF):(r.bind f).kF:=by
 cases r with
 |ok a=>exact aO a rfl
 |err n e=>exact h
theorem lo {b:Bool}{n:bT}{e:Int}(h:e≠0):(e5 b n e).kF:=by
 unfold e5
 split
 ·trivial
 ·exact h
theorem aa2 (aS:dT) (n:bT):(rI aS n).kF:=by
 unfold rI
 split
 ·trivial
 ·split
  ·trivial
  ·show (10:Int)≠0; decide
theorem Zr (aS:dT) (k:Int) (o m:bT) (bx:List Int):(rF aS k o m bx).kF:=by
 unfold rF
 repeat' split
 all_goals first
  |trivial
  |exact aa2 _ _
  |exact gE (lo (by decide)) fun _ _=>trivial
mutual
theorem wX (aS:dT): ∀x:au,(kT aS x).kF
 | .mk k o m t n l=>by
  simp only[kT]
  exact gE (L2 aS l) fun bx _=>Zr aS k o m bx
theorem L2 (aS:dT): ∀l:List au,(mf aS l).kF
 |[]=>by simp only[mf]; trivial
 |x::l=>by
  simp only[mf]
  exact gE (wX aS x) fun _ _=>gE (L2 aS l) fun _ _=>trivial
end
theorem RQ (aS:dT) (n:bT) (x:au):(s5 aS n x).kF:=
 gE (lo (by decide)) fun _ _=>gE (lo (by decide)) fun _ _=>gE (wX aS x) fun _ _=>lo (by decide)
mutual
theorem av6 (aS:dT): ∀x:ao,(sQ aS x).kF
 | .mk k m x t a b=>by
  simp only[sQ]
  split
  ·exact RQ aS m x
  ·refine gE ?_ fun _ _=>gE (BW aS a) fun _ _=>BW aS b
   split
   ·exact gE (wX aS x) fun _ _=>lo (by decide)
   ·split
    ·exact gE (wX aS x) fun _ _=>lo (by decide)
    ·trivial
theorem BW (aS:dT): ∀l:List ao,(kH aS l).kF
 |[]=>by simp only[kH]; trivial
 |x::l=>by
  simp only[kH]
  exact gE (av6 aS x) fun _ _=>BW aS l
end
theorem Q3: ∀(l a:List bQ),(o8 a l).kF
 |[],a=>by simp only[o8]; trivial
 |v::l,a=>by
  simp only[o8]
  exact gE (lo (by decide)) fun _ _=>gE (lo (by decide)) fun _ _=>Q3 l _
theorem NL {α:Type}(f:α→Bool): ∀(l:List α) (i:Nat),cW f l i<(i:Int)+l.length
 |[],i=>by simp only[cW,aU1]; omega
 |x::l,i=>by
  have:=NL f l (i+1)
  simp only[cW,aT3]
  cases f x with
  |true=>simp only[cond_true]; omega
  |false=>simp only[cond_false]; omega
theorem Me (aS:dT) (p q:bT) (b:Bool):(sD aS p q b).kF:=by
 refine gE (lo (by decide)) fun _ h=>gE (lo (by decide)) fun _ _=>gE (lo (by decide)) fun _ _=> ?_
 have h1:0≤mF aS.g p:=by simpa using Bj h
 have J:mF aS.g p<aS.g.decls.length:=by
  have:=NL (fun d:bS=> !decide (d.name=p)) aS.g.decls 0
  unfold mF
  omega
 rw[aU0 (by omega)]
 trivial
theorem ND (vars:List bQ): ∀(ps:List bT) (b6:List Fd) (acc:List (bT×Int)),(mU vars acc ps b6).kF
 |[],_,_=>by simp only[mU]; trivial
 | _:: _,[],_=>by simp only[mU]; trivial
 |n::ps,f::b6,acc=>by
  simp only[mU]
  exact gE (lo (by decide)) fun _ _=>ND vars ps b6 _
theorem WX (aS:dT) (a:List bK) (h:bK):(ma aS a h).kF:=
 gE (Me aS h.dw h.peer true) fun _ _=>gE (lo (by decide)) fun _ _=>gE (lo (by decide)) fun _ _=>gE (ND _ _ _ _) fun _ _=>BW _ _
theorem GX (aS:dT) (dw:bT): ∀(l:List au) (b6:List Fd),(nk aS dw l b6).kF
 |[],_=>by simp only[nk]; trivial
 | _:: _,[]=>by simp only[nk]; trivial
 |x::l,f::b6=>by
  simp only[nk]
  exact gE (wX aS x) fun _ _=>gE (lo (by decide)) fun _ _=>GX aS dw l b6
theorem Q7 (aS:dT): ∀(l:List au),(o9 aS l).kF
 |[]=>by simp only[o9]; trivial
 |x::l=>by
  simp only[o9]
  exact gE (wX aS x) fun _ _=>gE (lo (by decide)) fun _ _=>Q7 aS l
theorem ab4 (aS:dT) (o:cC):(pG aS o).kF:=
 gE (Me aS o.dw o.peer false) fun _ _=>gE (lo (by decide)) fun _ _=>gE (GX _ _ _ _) fun _ _=>Q7 _ _
theorem K5 (aS:dT): ∀(l a:List bK),(n5 aS a l).kF
 |[],_=>by simp only[n5]; trivial
 |h::l,a=>by
  simp only[n5]
  exact gE (WX aS a h) fun _ _=>K5 aS l _
theorem Nt (aS:dT): ∀(l:List cC),(oo aS l).kF
 |[]=>by simp only[oo]; trivial
 |o::l=>by
  simp only[oo]
  exact gE (ab4 aS o) fun _ _=>Nt aS l
theorem ae9 (x:c9) (g:cI):(rL x g).kF:=
 gE (lo (by decide)) fun _ _=>gE (lo (by decide)) fun _ _=>gE (Q3 _ _) fun _ _=>gE (K5 _ _ _) fun _ _=>Nt _ _
end
section
theorem se {x:c9}{g:cI}:(iz x g).2=0↔sr x=true∧kJ g=true∧rL x g= .ok ():=by
 unfold iz
 cases ad:(sr x&&kJ g) with
 |false=>
  rw[if_neg (by simp)]
  constructor
  ·intro h; exact absurd h (by decide)
  ·rintro⟨h1,J,_⟩
   rw[h1,J]at ad
   cases ad
 |true=>
  rw[if_pos rfl]
  simp only[aT0]at ad
  have aD:=ae9 x g
  cases hp:rL x g with
  |ok u=>exact⟨fun _=>⟨ad.1,ad.2,rfl⟩,fun _=>rfl⟩
  |err n e=>
   rw[hp]at aD
   constructor
   ·intro h; exact absurd h aD
   ·rintro⟨_,_,h⟩; cases h
theorem af1 {x:c9}{g:cI}(h:rL x g= .ok ()):x.gh=g.name∧0≤fF g.cD x.role∧o8 [] x.vars= .ok ()∧n5 ⟨x,g,max (fF g.cD x.role) 0,none⟩ [] x.an= .ok ()∧oo ⟨x,g,max (fF g.cD x.role) 0,none⟩ x.os= .ok ():=by
 unfold rL at h
 obtain⟨_,h1,h⟩:=c7.xR h
 obtain⟨_,J,h⟩:=c7.xR h
 obtain⟨_,aA,h⟩:=c7.xR h
 obtain⟨_,bz,bZ⟩:=c7.xR h
 exact⟨by simpa using Bj h1,by simpa using Bj J,aA,bz,bZ⟩
theorem af0 {x:c9}{g:cI}(h1:x.gh=g.name) (J:0≤fF g.cD x.role) (aA:o8 [] x.vars= .ok ()) (bz:n5 ⟨x,g,max (fF g.cD x.role) 0,none⟩ [] x.an= .ok ()) (bZ:oo ⟨x,g,max (fF g.cD x.role) 0,none⟩ x.os= .ok ()):rL x g= .ok ():=by
 unfold rL e5
 rw[if_pos (by simpa using h1),if_pos (by simpa using J),aA,bz,bZ]
 rfl
theorem Ii {all:List Fd}: ∀(l ahead:List bS) (i:Int),qg all ahead i l=true→∀d∈l,d.fields.length≤4
 |[],_,_,_,d,bw=>by cases bw
 |c::l,ahead,i,h,d,bw=>by
  simp only[qg,aT0,decide_eq_true_eq]at h
  rcases List.mem_cons.1 bw with rfl|bw
  ·exact h.2.1
  ·exact Ii l _ _ h.2.2.2.2.2.2 d bw
theorem Gc {g:cI}(h:kJ g=true): ∀d∈g.decls,d.fields.length≤4:=by
 simp only[kJ,aT0,uD,Bool.or_eq_true,decide_eq_true_eq]at h
 rcases h.2.2.1 with aW|aW
 ·intro d bw
  rw[List.length_eq_zero_iff.1 aW]at bw
  cases bw
 ·simp only[qS,aT0]at aW
  exact Ii _ _ _ aW.2.2
end
end Go.aX.T.N
set_option maxRecDepth 100000
namespace Go.aX.T.N
open Go Go.aX Go.Proofs Go.ChangeShapes Go.WideShapes Go.RowKit
def iA:List TypeId:=[9,92,113,116,120,178,72,76,131,342,438,439]
theorem Kf:Fz aS9 iA=true:=by kernel_rfl
theorem P6:iH aS9 iA 8 120=some [.de (.i .i64),.de .s,.de .s,.de .s,.de (.i .i64),.fV 120]:=by kernel_rfl
theorem aq2:iH aS9 iA 8 178=some [.de (.i .i64),.de .s,.de (.i .i64),.de .s,.de .s,.de .s,.de (.i .i64),.fV 120,.de (.i .i64),.fV 178,.fV 178]:=by kernel_rfl
theorem ar0:iH aS9 iA 8 9=some [.de .s]:=by kernel_rfl
theorem ar1:iH aS9 iA 8 92=some [.de .s,.de (.i .i64),.de (.i .i64),.de (.i .i64),.de (.i .i64),.de (.i .i64),.de .s]:=by kernel_rfl
theorem ap9:iH aS9 iA 8 113=some [.de .s,.de .s,.fV 9,.fV 178]:=by kernel_rfl
theorem aq0:iH aS9 iA 8 116=some [.de .s,.de .s,.fV 120,.fV 120]:=by kernel_rfl
theorem aq3:iH aS9 iA 8 26=some [.de .s,.de .s,.de .s,.fV 92,.fV 113,.fV 116]:=by kernel_rfl
theorem FR:Tryz.prog.cellsOf 120=6:=by kernel_rfl
theorem QC:Tryz.prog.cellsOf 178=11:=by kernel_rfl
theorem HF:Tryz.prog.cellsOf 9=1:=by kernel_rfl
theorem Uu:Tryz.prog.cellsOf 92=7:=by kernel_rfl
theorem Um:Tryz.prog.cellsOf 113=4:=by kernel_rfl
theorem Un:Tryz.prog.cellsOf 116=4:=by kernel_rfl
theorem CA:Tryz.prog.bytesOf 120=88:=by kernel_rfl
theorem Hg:Tryz.prog.bytesOf 178=168:=by kernel_rfl
theorem Ab:Tryz.prog.bytesOf 9=16:=by kernel_rfl
theorem RW:Tryz.prog.bytesOf 92=72:=by kernel_rfl
theorem RT:Tryz.prog.bytesOf 113=80:=by kernel_rfl
theorem RU:Tryz.prog.bytesOf 116=80:=by kernel_rfl
theorem Uo:Tryz.prog.cellsOf 131=4:=by kernel_rfl
theorem Uq:Tryz.prog.cellsOf 438=3:=by kernel_rfl
theorem Ur:Tryz.prog.cellsOf 439=2:=by kernel_rfl
theorem Up:Tryz.prog.cellsOf 342=3:=by kernel_rfl
theorem Ut:Tryz.prog.cellsOf 76=6:=by kernel_rfl
theorem Us:Tryz.prog.cellsOf 72=5:=by kernel_rfl
theorem aq1:iH aS9 iA 8 131=some [.de .s,.de (.i .i64),.de (.i .i64),.de (.i .i64)]:=by kernel_rfl
theorem aq6:iH aS9 iA 8 438=some [.de (.i .i64),.de (.i .i64),.de (.i .i64)]:=by kernel_rfl
theorem aq7:iH aS9 iA 8 439=some [.de (.i .i64),.de (.i .i64)]:=by kernel_rfl
theorem aq5:iH aS9 iA 8 342=some [.de (.i .i64),.de (.i .i64),.de (.i .i64)]:=by kernel_rfl
theorem aq9:iH aS9 iA 8 76=some [.de (.i .i64),.de (.i .i64),.de (.i .i64),.de (.i .i64),.de (.i .i64),.de .b]:=by kernel_rfl
theorem aq8:iH aS9 iA 8 72=some [.de .s,.fV 131,.de (.i .i64),.fV 438,.fV 439]:=by kernel_rfl
theorem aq4:iH aS9 iA 8 32=some [.de .s,.fV 9,.fV 72,.de (.i .i64),.de (.i .i64),.de (.i .i64),.fV 76,.fV 342]:=by kernel_rfl
variable {R:Nat}
theorem V2: ∀(n:Nat) (r:List I),kK aS9 iA R n 131 r→∃v:Fd,r=Fd.row v∧True
 |0,_,h=>h.elim
 |n+1,r,h=>by
  obtain⟨bx,h1,J⟩:=h
  rw[aq1]at h1
  cases h1
  simp only[hz,ga.ok]at J
  obtain⟨_,_,rfl,⟨eG,rfl,_⟩,_,_,rfl,⟨a2,rfl,_⟩,_,_,rfl,⟨a3,rfl,_⟩,_,_,rfl,⟨a4,rfl,_⟩,rfl⟩:=J
  exact⟨⟨eG,a2,a3,a4⟩,rfl,trivial⟩
theorem Vv: ∀(n:Nat) (r:List I),kK aS9 iA R n 438 r→∃v:Int×Int×Int,r=ep v∧True
 |0,_,h=>h.elim
 |n+1,r,h=>by
  obtain⟨bx,h1,J⟩:=h
  rw[aq6]at h1
  cases h1
  simp only[hz,ga.ok]at J
  obtain⟨_,_,rfl,⟨eG,rfl,_⟩,_,_,rfl,⟨a2,rfl,_⟩,_,_,rfl,⟨a3,rfl,_⟩,rfl⟩:=J
  exact⟨(eG,a2,a3),rfl,trivial⟩
theorem VV: ∀(n:Nat) (r:List I),kK aS9 iA R n 439 r→∃v:Int×Int,r=eN v∧True
 |0,_,h=>h.elim
 |n+1,r,h=>by
  obtain⟨bx,h1,J⟩:=h
  rw[aq7]at h1
  cases h1
  simp only[hz,ga.ok]at J
  obtain⟨_,_,rfl,⟨eG,rfl,_⟩,_,_,rfl,⟨a2,rfl,_⟩,rfl⟩:=J
  exact⟨(eG,a2),rfl,trivial⟩
theorem ay1: ∀(n:Nat) (r:List I),kK aS9 iA R n 342 r→∃v:et,r=et.row v∧True
 |0,_,h=>h.elim
 |n+1,r,h=>by
  obtain⟨bx,h1,J⟩:=h
  rw[aq5]at h1
  cases h1
  simp only[hz,ga.ok]at J
  obtain⟨_,_,rfl,⟨eG,rfl,_⟩,_,_,rfl,⟨a2,rfl,_⟩,_,_,rfl,⟨a3,rfl,_⟩,rfl⟩:=J
  exact⟨⟨eG,a2,a3⟩,rfl,trivial⟩
theorem VK: ∀(n:Nat) (r:List I),kK aS9 iA R n 76 r→∃v:cG,r=cG.row v∧True
 |0,_,h=>h.elim
 |n+1,r,h=>by
  obtain⟨bx,h1,J⟩:=h
  rw[aq9]at h1
  cases h1
  simp only[hz,ga.ok]at J
  obtain⟨_,_,rfl,⟨eG,rfl,_⟩,_,_,rfl,⟨a2,rfl,_⟩,_,_,rfl,⟨a3,rfl,_⟩,_,_,rfl,⟨a4,rfl,_⟩,_,_,rfl,⟨a5,rfl,_⟩,_,_,rfl,⟨zW,rfl⟩,rfl⟩:=J
  exact⟨⟨eG,a2,a3,a4,a5,zW⟩,rfl,trivial⟩
theorem Vg: ∀(n:Nat) (r:List I),kK aS9 iA R n 72 r→∃v:bS,r=bS.row v∧True
 |0,_,h=>h.elim
 |n+1,r,h=>by
  obtain⟨bx,h1,J⟩:=h
  rw[aq8]at h1
  cases h1
  simp only[hz,ga.ok,Uo,Uq,Ur]at J
  obtain⟨_,_,rfl,⟨a,rfl,_⟩,_,_,rfl,⟨cb,rfl,_,br⟩,_,_,rfl,⟨b,rfl,_⟩,_,_,rfl,⟨cp,rfl,_,bA⟩,_,_,rfl,⟨c5,rfl,_,cy⟩,rfl⟩:=J
  obtain⟨aR,rfl,_⟩:=ls (f:=Fd.row) (p:=fun _=>True) fun r hm=>V2 n r (br r hm)
  obtain⟨fp,rfl,_⟩:=ls (f:=ep) (p:=fun _=>True) fun r hm=>Vv n r (bA r hm)
  obtain⟨pD,rfl,_⟩:=ls (f:=eN) (p:=fun _=>True) fun r hm=>VV n r (cy r hm)
  exact⟨⟨a,aR,b,fp,pD⟩,rfl,trivial⟩
theorem Ko (n:Nat) (r:List I) (h:kK aS9 iA R n 120 r): ∃x:au,r=x.row∧x.ok R:=Dv P6 FR CA n r h
theorem av3 (n:Nat) (r:List I) (h:kK aS9 iA R n 178 r): ∃x:ao,r=x.row∧x.ok R:=FQ P6 FR CA aq2 QC Hg n r h
theorem Qv: ∀(n:Nat) (r:List I),kK aS9 iA R n 9 r→∃s:List UInt8,r=ca s∧s.length≤R
 |0,_,h=>h.elim
 |n+1,r,h=>by
  obtain⟨bx,h1,J⟩:=h
  rw[ar0]at h1
  cases h1
  simp only[hz,ga.ok]at J
  obtain⟨_,_,rfl,⟨s,rfl,an⟩,rfl⟩:=J
  exact⟨s,rfl,an⟩
theorem aG9: ∀(n:Nat) (r:List I),kK aS9 iA R n 92 r→∃v:bQ,r=v.row∧v.ok R
 |0,_,h=>h.elim
 |n+1,r,h=>by
  obtain⟨bx,h1,J⟩:=h
  rw[ar1]at h1
  cases h1
  simp only[hz,ga.ok]at J
  obtain⟨_,_,rfl,⟨a,rfl,rW⟩,_,_,rfl,⟨b,rfl,nh⟩,_,_,rfl,⟨c,rfl,vM⟩,_,_,rfl,⟨d,rfl,qT⟩,_,_,rfl,⟨e,rfl,Gf⟩,_,_,rfl,⟨f,rfl,zG⟩,_,_,rfl,⟨g,rfl,aI0⟩,rfl⟩:=J
  exact⟨⟨a,b,c,d,e,f,g⟩,rfl,⟨rW,aI0⟩,nh,vM,qT,Gf,zG⟩
theorem WR: ∀(n:Nat) (r:List I),kK aS9 iA R n 113 r→∃v:bK,r=v.row∧v.ok R
 |0,_,h=>h.elim
 |n+1,r,h=>by
  obtain⟨bx,h1,J⟩:=h
  rw[ap9]at h1
  cases h1
  simp only[hz,ga.ok,HF,Ab,QC,Hg]at J
  obtain⟨_,_,rfl,⟨a,rfl,rW⟩,_,_,rfl,⟨b,rfl,nh⟩,_,_,rfl,⟨cb,rfl,vM,br⟩,_,_,rfl,⟨cp,rfl,qT,bA⟩,rfl⟩:=J
  obtain⟨ps,rfl,hp⟩:=ls (f:=ca) (p:=fun s=>s.length≤R) fun r hm=>Qv n r (br r hm)
  obtain⟨l,rfl,aE⟩:=ls (f:=ao.row) (p:=ao.ok R) fun r hm=>av3 n r (bA r hm)
  exact⟨⟨a,b,ps,l⟩,by simp only[bK.row,ao.lr],rW,nh,by simpa using vM,hp,by simpa using qT,ao.rK aE⟩
theorem EM: ∀(n:Nat) (r:List I),kK aS9 iA R n 116 r→∃v:cC,r=v.row∧v.ok R
 |0,_,h=>h.elim
 |n+1,r,h=>by
  obtain⟨bx,h1,J⟩:=h
  rw[aq0]at h1
  cases h1
  simp only[hz,ga.ok,FR,CA]at J
  obtain⟨_,_,rfl,⟨a,rfl,rW⟩,_,_,rfl,⟨b,rfl,nh⟩,_,_,rfl,⟨cb,rfl,vM,br⟩,_,_,rfl,⟨cp,rfl,qT,bA⟩,rfl⟩:=J
  obtain⟨aR,rfl,h1⟩:=ls (f:=au.row) (p:=au.ok R) fun r hm=>Ko n r (br r hm)
  obtain⟨fp,rfl,J⟩:=ls (f:=au.row) (p:=au.ok R) fun r hm=>Ko n r (bA r hm)
  exact⟨⟨a,b,aR,fp⟩,by simp only[cC.row,au.lr],rW,nh,by simpa using vM,au.rK h1,by simpa using qT,au.rK J⟩
section
variable {H:Type}{enc:TypeId×Value→H}{w:World}{base:Nat}{spare:Nat→Bool}{held:Bool}
theorem ac2 {v:Value}{x:DataW H}{p:List MemPlace}{r:Reach}{ix:Nat}(aD: ∀n∈DataW.weights aS9 26 x,n≤R) (ad:Value.okWide aS9 w r ix 26 v) (h:DataW.Trod enc aS9 w base spare held 26 v x p):
  ∃q:c9,(q.ok R∧e6 q.cells≤ik x)∧∀m:Mem,m.w=w→m.H=aw.none→aK m q.eU v:=by
 obtain⟨n,jW,⟨h1,J⟩,aA⟩:=P7 Kf Tryz.underlying26 aq3 aD ad h
 simp only[hz,ga.ok,Uu,Um,Un,RW,RT,RU]at h1
 obtain⟨_,_,rfl,⟨a,rfl,rW⟩,_,_,rfl,⟨b,rfl,nh⟩,_,_,rfl,⟨c,rfl,vM⟩,_,_,rfl,⟨cb,rfl,qT,br⟩,_,_,rfl,⟨cp,rfl,Gf,bA⟩,_,_,rfl,⟨c5,rfl,zG,cy⟩,rfl⟩:=h1
 obtain⟨aR,rfl,g1⟩:=ls (f:=bQ.row) (p:=bQ.ok R) fun r hm=>aG9 n r (br r hm)
 obtain⟨fp,rfl,g2⟩:=ls (f:=bK.row) (p:=bK.ok R) fun r hm=>WR n r (bA r hm)
 obtain⟨pD,rfl,g3⟩:=ls (f:=cC.row) (p:=cC.ok R) fun r hm=>EM n r (cy r hm)
 exact⟨⟨a,b,c,aR,fp,pD⟩,⟨⟨rW,nh,vM,by simpa using qT,g1,by simpa using Gf,g2,by simpa using zG,g3⟩,J⟩,aA⟩
theorem ac3 {v:Value}{x:DataW H}{p:List MemPlace}{r:Reach}{ix:Nat}(aD: ∀n∈DataW.weights aS9 32 x,n≤R) (ad:Value.okWide aS9 w r ix 32 v) (h:DataW.Trod enc aS9 w base spare held 32 v x p):
  ∃q:cI,(True∧e6 q.cells≤ik x)∧∀m:Mem,m.w=w→m.H=aw.none→aK m q.eU v:=by
 obtain⟨n,jW,⟨h1,J⟩,aA⟩:=P7 Kf Tryz.underlying32 aq4 aD ad h
 simp only[hz,ga.ok,HF,Us,Ut,Up]at h1
 obtain⟨_,_,rfl,⟨a,rfl,_⟩,_,_,rfl,⟨cb,rfl,_,br⟩,_,_,rfl,⟨cp,rfl,_,bA⟩,_,_,rfl,⟨b,rfl,_⟩,_,_,rfl,⟨c,rfl,_⟩,_,_,rfl,⟨d,rfl,_⟩,_,_,rfl,⟨c5,rfl,_,cy⟩,_,_,rfl,⟨gu,rfl,_,eR⟩,rfl⟩:=h1
 obtain⟨aR,rfl,_⟩:=ls (f:=ca) (p:=fun s=>s.length≤R) fun r hm=>Qv n r (br r hm)
 obtain⟨fp,rfl,_⟩:=ls (f:=bS.row) (p:=fun _=>True) fun r hm=>Vg n r (bA r hm)
 obtain⟨pD,rfl,_⟩:=ls (f:=cG.row) (p:=fun _=>True) fun r hm=>VK n r (cy r hm)
 obtain⟨Zu,rfl,_⟩:=ls (f:=et.row) (p:=fun _=>True) fun r hm=>ay1 n r (eR r hm)
 exact⟨⟨a,aR,fp,b,c,d,pD,Zu⟩,⟨trivial,J⟩,aA⟩
end
end Go.aX.T.N
