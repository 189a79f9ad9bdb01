/- Part of a proof; own work. -/
import Derived.Test.YtlemhelnmidpfaaGreatDoorProg
import Derived.KernelRfl
import Derived.Test.YtlemhelnmidpfaaGreatDoorRS10
set_option linter.unusedVariables false
set_option linter.unusedSimpArgs false
set_option maxHeartbeats 16000000
open Bool renaming and_self→bc0,and_eq_true→bb6,and_true→be0,true_or→bk4,not_false→bk1,false_or→bh3,false_eq_true→bd5,false_and→bc5,true_and→bc7,and_false→bd7,and_eq_false_iff→bi7,not_eq_false'→bn6,not_eq_true'→bg6,not_true→bn7
open Int renaming natCast_add→bb8
open List renaming all_cons→bd3,all_nil→bk2,filter_cons→bn1,filter_nil→bk7,contains_cons→bg3,contains_nil→bk8,length_map→bb5,length_append→bb7,append_assoc→bc8,cons_append→bd2,nil_append→bd6,map_append→be5,drop_eq_nil_of_le→bc6,append_nil→bd8,getElem?_eq_getElem→bd1,map_take→bj3,take_add_one→bf5,length_take→be9,mem_cons→be4,not_mem_nil→bh8,mem_of_getElem?→bc2,length_cons→bb9,take_of_length_le→bg8,take_zero→bg2,replicate→bc9,getD_eq_getElem?_getD→be7,length_set→bt4,length_replicate→bg7,getElem?_replicate→bk0,length_nil→bc4,length_drop→bl7
open Nat renaming blt→bf8,ble→be1,zero_le→bc3,le_refl→bc1,le_of_ble_eq_true→bh6,reduceBEq→bl3,reduceAdd→bl4
open Option renaming isSome_some→bi3,isSome_none→bg9,getD_some→bh1,getD_none→bh7,toList_some→bp8
open Go.Proofs.Tryz renaming prog→bb4,func167→bt1
namespace Go.ba.T.N
open Go Go.ba Go.Proofs Go.RowKit
set_option maxRecDepth 100000
attribute [local irreducible] Go.ba.ar Go.ba.al Go.ba.bg
section
attribute [local go_sem] bJ.row dW fo dF gv of_flat cf dn hE gz gy hB fK fZ e9 dM Fd.row eX fi df.row fc.row cj.row
def sU:Option (List (bw×Int))→I
 |none=> .dV (.map none)
 |some _=> .cV 0 0
def kH:Option (List (bw×Int))→eK
 |none=>[]
 |some m=>[(0,.be 184 0 (m.map lg))]
def ij:Option (List (bw×Int))→Nat
 |none=>0
 |some _=>1
def jl:Option (List (bw×Int))→List Nat
 |none=>[]
 |some _=>[0]
def nJ:Option (List (bw×Int))→eK→eK
 |none,cH=>cH
 |some m,cH=>(0,.be 184 0 (m.map lg))::qX 0 cH
def eM (aV:ef):List I:=[.str aV.x.name,.str aV.x.bO,.str aV.x.fM,.aq 7 (aV.x.vars.map bJ.row),.aq 4 (aV.x.ao.map bS.row),.aq 4 (aV.x.os.map cn.row),.str aV.g.name,.aq 1 (aV.g.dl.map cf),.aq 5 (aV.g.decls.map cj.row),.int .i64 aV.g.jA,.int .i64 aV.g.start,.int .i64 aV.g.fin,.aq 6 (aV.g.cD.map df.row),.aq 3 (aV.g.jm.map fc.row),.int .i64 aV.bO,sU aV.ps]
def jI (aV:ef):aN:=aN.of 1 (ij aV.ps) [(0,186,eM aV)] (kH aV.ps)
theorem ui (m:List (bw×Int)):eY (m.map lg)=true:=ml (fun _=>rfl) m
theorem XD (aV:ef):dw 1 (ij aV.ps) (eM aV)=true:=by
 obtain⟨x,g,bO,ps⟩:=aV
 cases ps<;>simp only[eM,sU,ij,dw,I.du,dW,dF,of_flat,dn,e9,fK,fZ,bc0]<;>rfl
theorem aP8 (ps:Option (List (bw×Int))):eB 1 (ij ps) (kH ps)=true:=by
 cases ps<;>simp only[kH,ij,eB,ia,bM.be,ui,bc0]<;>rfl
def RK {α:Type}(g:α→I) (aV:ef):dz α→Out→aN→Prop
 | .ok a=>dA (g a) [(0,186,eM aV)] (kH aV.ps)
 | .err n e=>rj (lQ n e)
section
variable {cY:Program}{anns:List I}{l:List bK}{env:Env}{K:Env→aN→Prop}{Rp:I→aN→Prop}{f:FuncId}{args:List aJ}{dS:List I}{α β:Type}{g:α→I}{oW:dz α}{R:dz β}{F:α→dz β}{aV:ef}{n t d:Nat}{cq j6:eJ}{cH l5:eK}{c:aN}{others:List Nat}
def uQ {α:Type}(g:α→I):Prop:=∀a,(g a).flat=true
theorem Jl (an:(bf8 0 n&&(be1 (ij aV.ps) t&&dw 1 (ij aV.ps) dS))=true) (dD:gS cq 0=some (186,eM aV)) (c4: ∀m,aV.ps=some m→iK cH 0=some (.be 184 0 (m.map lg))):
  (nodupB [0]&&nodupB (jl aV.ps)&&[0].all (fun x=>bf8 x (aN.of n t cq cH).bP)&&(jl aV.ps).all (fun x=>bf8 x (aN.of n t cq cH).bh))=true∧nw (aN.of n t cq cH).H.aY ⟨[0],jl aV.ps⟩ [(0,186,eM aV)]∧nx (aN.of n t cq cH).H.tok ⟨[0],jl aV.ps⟩ (kH aV.ps)∧(dw 1 (ij aV.ps) dS&&(eA 1 (ij aV.ps) [(0,186,eM aV)]&&eB 1 (ij aV.ps) (kH aV.ps)))=true∧(jl aV.ps).length=ij aV.ps∧e7 ⟨[0],jl aV.ps⟩ (eM aV)=eM aV:=by
 simp only[bb6]at an
 obtain⟨Dx,c1,cb⟩:=an
 have ZA:eA 1 (ij aV.ps) [(0,186,eM aV)]=true:=by simp only[eA,XD,be0]; rfl
 have ac:e7 ⟨[0],jl aV.ps⟩ (eM aV)=eM aV:=by
  obtain⟨x,g,bO,ps⟩:=aV
  cases ps<;>rfl
 refine⟨?_,⟨by rw[ac]; exact dD,trivial⟩,?_,by rw[cb,ZA,aP8]; rfl,by cases aV.ps<;>rfl,ac⟩
 ·cases hp:aV.ps with
  |none=>simp only[jl,bd3,bk2,show (aN.of n t cq cH).bP=n from rfl,Dx]; rfl
  |some m=>
   rw[hp]at c1
   simp only[ij]at c1
   have IQ:bf8 0 t=true:=c1
   simp only[jl,bd3,bk2,show (aN.of n t cq cH).bP=n from rfl,show (aN.of n t cq cH).bh=t from rfl,Dx,IQ]; rfl
 ·cases hp:aV.ps with
  |none=>exact trivial
  |some m=>exact⟨c4 m hp,trivial⟩
theorem Jm (hb:nH 0 cq=j6) (aG:nJ aV.ps cH=l5):(aN.of n t cq cH).kk ⟨[0],jl aV.ps⟩ [(0,186,eM aV)] (kH aV.ps)=aN.of n t ((0,186,eM aV)::j6) l5:=by
 have ac:e7 ⟨[0],jl aV.ps⟩ (eM aV)=eM aV:=by
  obtain⟨x,g,bO,ps⟩:=aV
  cases ps<;>rfl
 rw[mV]
 subst hb aG
 simp only[p8,rH,ac,bn1,bk7,bg3,bk8,beq_self_eq_true,bk4,if_true,pu,oZ]
 cases aV.ps with
 |none=>simp only[kH,jl,nJ,p9,bk7,qa,o0]
 |some m=>simp only[kH,jl,nJ,p9,rH,bn1,bk7,bg3,bk8,beq_self_eq_true,bk4,if_true,qa,o0]
theorem D.kN (bo:uQ g) (h:bg cY f dS (jI aV) (RK g aV oW)) (ag:R=oW.bind F)
  (av: ∀a,oW= .ok a→R=F a→al cY anns l ((d,g a)::env) (aN.of n t ((0,186,eM aV)::j6) l5) K Rp)
  (an:(bf8 0 n&&(be1 (ij aV.ps) t&&dw 1 (ij aV.ps) dS))=true:=by simp (disch:=omega) only[go_sem,simprocAttr,ij]<;>rfl) (dD:gS cq 0=some (186,eM aV):=by rfl)
  (c4: ∀m,aV.ps=some m→iK cH 0=some (.be 184 0 (m.map lg)):=by intro m hm; first|(cases hm; rfl)|cases hm)
  (aS:args.map (bl env)=e7 ⟨[0],jl aV.ps⟩ dS:=by simp (disch:=omega) only[go_sem,simprocAttr]<;>rfl) (gH:nH 0 cq=j6:=by simp (disch:=omega) only[go_sem,simprocAttr]<;>with_reducible rfl) (ms:nJ aV.ps cH=l5:=by simp (disch:=omega) only[go_sem,simprocAttr,nJ]<;>with_reducible rfl) (hp: ∀n e,R= .err n e→∀cJ,Rp (lQ n e) cJ:=by intro n e h cJ; rw[h]; exact rfl):
  al cY anns (⟨some d,none,.call f args⟩::l) env (aN.of n t cq cH) K Rp:=by
 obtain⟨br,bB,cu,eO,hs,pe⟩:=Jl an dD c4
 match oW,h,ag,av with
 | .err n e,h,ag,_=>
  have hU:bg cY f dS (aN.of 1 (ij aV.ps) [(0,186,eM aV)] (kH aV.ps)) (rj (lQ n e)):=h
  refine al.yv rfl (bg.vg ⟨[0],jl aV.ps⟩ hU rfl hs br bB cu eO rfl rfl rfl) aS (fun v c1 q=> ?_) (fun v c1 q=> ?_)
  ·cases q.1
  ·cases q.1
   exact hp n e ag _
 | .ok a,h,ag,av=>
  have hU:bg cY f dS (aN.of 1 (ij aV.ps) [(0,186,eM aV)] (kH aV.ps)) (dA (g a) [(0,186,eM aV)] (kH aV.ps)):=h
  have vG:=eO
  simp only[bb6]at vG
  have e:=bg.o6 (c:=aN.of n t cq cH) ⟨[0],jl aV.ps⟩ hU rfl hs br bB cu eO (by rw[vG.2.1,vG.2.2,sx _ (bo a)]; rfl) rfl
  rw[sy _ (bo a),Jm gH ms]at e
  exact al.st rfl e aS (av a rfl ag)
theorem D.sg {a:α}(bo:uQ g) (h:bg cY f dS (jI aV) (RK g aV (.ok a)))
  (av:al cY anns l ((d,g a)::env) (aN.of n t ((0,186,eM aV)::j6) l5) K Rp)
  (an:(bf8 0 n&&(be1 (ij aV.ps) t&&dw 1 (ij aV.ps) dS))=true:=by simp (disch:=omega) only[go_sem,simprocAttr,ij]<;>rfl) (dD:gS cq 0=some (186,eM aV):=by rfl)
  (c4: ∀m,aV.ps=some m→iK cH 0=some (.be 184 0 (m.map lg)):=by intro m hm; first|(cases hm; rfl)|cases hm)
  (aS:args.map (bl env)=e7 ⟨[0],jl aV.ps⟩ dS:=by simp (disch:=omega) only[go_sem,simprocAttr]<;>rfl) (gH:nH 0 cq=j6:=by simp (disch:=omega) only[go_sem,simprocAttr]<;>with_reducible rfl) (ms:nJ aV.ps cH=l5:=by simp (disch:=omega) only[go_sem,simprocAttr,nJ]<;>with_reducible rfl):
  al cY anns (⟨some d,none,.call f args⟩::l) env (aN.of n t cq cH) K Rp:=
 D.kN (β:=Unit) (R:= .ok ()) (F:=fun _=> .ok ()) bo h rfl (fun b e _=>by cases e; exact av) an dD c4 aS gH ms fun n e h=>nomatch h
theorem yJ {P:Program}{aQ:List bf}{cL t0:Nat}{k:List fs}{Q:Out→aN→Prop}{env:Env}{n t:Nat}{cq:eJ}{cH:eK}:ar P aQ cL t0 k Q env (aN.of n (t+1) cq ((t,.bY 0 0 0)::cH)):=ar.dead t 0 (by simp only[FV,iK,beq_self_eq_true,cond_true])
theorem D.x8 (a0:α) (bo:uQ g) (h:bg cY f dS (jI aV) (RK g aV oW)) (ag:R=oW.bind F)
  (av: ∀a,oW= .ok a→R=F a→al cY anns l ((d,g a)::env) (aN.of n t ((0,186,eM aV)::j6) l5) K Rp)
  (bG:al cY anns l ((d,g a0)::env) (aN.of n (t+1) cq ((t,.bY 0 0 0)::cH)) K Rp)
  (an:(bf8 0 n&&(be1 (ij aV.ps) t&&dw 1 (ij aV.ps) dS))=true:=by simp (disch:=omega) only[go_sem,simprocAttr,ij]<;>rfl) (dD:gS cq 0=some (186,eM aV):=by rfl)
  (c4: ∀m,aV.ps=some m→iK cH 0=some (.be 184 0 (m.map lg)):=by intro m hm; first|(cases hm; rfl)|cases hm)
  (aS:args.map (bl env)=e7 ⟨[0],jl aV.ps⟩ dS:=by simp (disch:=omega) only[go_sem,simprocAttr]<;>rfl) (gH:nH 0 cq=j6:=by simp (disch:=omega) only[go_sem,simprocAttr]<;>with_reducible rfl) (ms:nJ aV.ps cH=l5:=by simp (disch:=omega) only[go_sem,simprocAttr,nJ]<;>with_reducible rfl)
  (fL:jX (aN.of n t cq cH).H ((0,186,eM aV)::j6):=by repeat first|exact trivial|refine⟨rfl,?_⟩) (ZD:jY (aN.of n t cq cH).H l5:=by repeat first|exact trivial|refine⟨rfl,?_⟩)
  (aj:nl (gS cq) env j6 others:=by repeat first|exact trivial|refine⟨⟨_,_,_,by simp (disch:=omega) only[go_sem,simprocAttr]<;>with_reducible rfl,rfl,rfl,by simp (disch:=omega) only[go_sem,simprocAttr]<;>rfl⟩,?_⟩)
  (hp: ∀n e,R= .err n e→∀cJ,Rp (lQ n e) cJ:=by intro n e h cJ; rw[h]; exact rfl):
  al cY anns (⟨some d,none,.gP others f args⟩::l) env (aN.of n t cq cH) K Rp:=by
 obtain⟨br,bB,cu,eO,hs,pe⟩:=Jl an dD c4
 have aq0: ∀bT y,gS j6 bT=some y→(0==bT)=false:=fun bT y h=>by
  cases bT with
  |zero=>
   have:=GM (j:=0) [0] rfl cq
   simp only[pu,gH]at this
   rw[this]at h
   cases h
  |succ n=>rfl
 match oW,h,ag,av with
 | .err FM e,h,ag,_=>
  have hU:bg cY f dS (aN.of 1 (ij aV.ps) [(0,186,eM aV)] (kH aV.ps)) (rj (lQ FM e)):=h
  have cR:bg cY f (args.map (bl env)) (aN.of n t cq cH) (fun o cJ=>o= .ey (lQ FM e)∧cJ=(aN.of n t cq cH).kk ⟨[0],jl aV.ps⟩ [] []):=by
   rw[aS]
   exact bg.vg ⟨[0],jl aV.ps⟩ hU rfl hs br bB cu eO rfl rfl rfl
  refine al.p5 (S:=fun bD cJ=>bD=g a0∧cJ=(aN.of n t cq cH).gO (.bY 0 0 0)) rfl rfl (h7.mono (h7.DF (others:=others) cR (bo a0) rfl rfl fun s ao=> ?_) (fun _ _ h=>h) fun v cJ q=> ?_) fun bD cJ q=> ?_
  ·obtain⟨bT,cG,cC,ap,ay,b1,dC⟩:=nl.get aj s ao
   refine⟨bT,cG,cC,ap,ay,?_,dC⟩
   rw[mV]
   simp only[p8,bk7,oZ,xC,pu,gH]
   exact b1
  ·rw[q.1]
   exact hp FM e ag _
  ·rw[q.1,q.2,zF]
   exact bG
 | .ok a,h,ag,av=>
  have hU:bg cY f dS (aN.of 1 (ij aV.ps) [(0,186,eM aV)] (kH aV.ps)) (dA (g a) [(0,186,eM aV)] (kH aV.ps)):=h
  have vG:=eO
  simp only[bb6]at vG
  have e:=bg.o6 (c:=aN.of n t cq cH) ⟨[0],jl aV.ps⟩ hU rfl hs br bB cu eO (by rw[vG.2.1,vG.2.2,sx _ (bo a)]; rfl) rfl
  rw[sy _ (bo a),Jm gH ms,←aS]at e
  refine al.p5 rfl rfl (h7.AX (others:=others) e (fun b y h=>jX.get fL b y h) (fun t y h=>jY.get ZD t y h) rfl rfl (bo a) fun s ao=> ?_) fun bD cJ q=> ?_
  ·obtain⟨bT,cG,cC,ap,ay,b1,dC⟩:=nl.get aj s ao
   exact⟨bT,cG,cC,ap,ay,by simp only[xC,gS,aq0 bT _ b1,cond_false]; exact b1,dC⟩
  ·rw[q.1,q.2]
   exact av a rfl ag
theorem D.M {b:Bool}{s:bw}{e:Int}{F:Unit→dz β}{l:List bK}{env:Env}{args:List aJ}(ag:R=(fS b s e).bind F) (av:b=true→R=F ()→al bb4 anns l ((d,.c3 [])::env) c K Rp)
  (aS:args.map (bl env)=[.bool b,.str s,.int .i64 e]:=by simp (disch:=omega) only[go_sem,simprocAttr]<;>with_reducible rfl) (hp: ∀n e,R= .err n e→∀cJ,Rp (lQ n e) cJ:=by intro n e h cJ; rw[h]; exact rfl):
  al bb4 anns (⟨some d,none,.call 84 args⟩::l) env c K Rp:=by
 cases b with
 |true=>exact al.Gb (Hz s e) aS rfl rfl rfl (av rfl (by rw[ag]; rfl))
 |false=>
  refine al.yv rfl (bg.vg (c:=c) ⟨[],[]⟩ (Hy s e) rfl rfl rfl trivial trivial rfl rfl rfl rfl) (by rw[aS]; rfl) (fun v c1 q=> ?_) (fun v c1 q=> ?_)
  ·cases q.1
  ·cases q.1
   exact hp s e (by rw[ag]; rfl) _
theorem D.hO {aQ:List bf}{cL t0:Nat}{k:List fs}{Q:Out→aN→Prop}{b:Bool}{s:bw}{e:Int}{F:Unit→dz β}{env:Env}{args:List aJ}(ag:R=(fS b s e).bind F) (av:b=true→R=F ()→ar bb4 aQ cL t0 k Q ((d,.c3 [])::env) (aN.of n t cq cH))
  (aS:args.map (bl env)=[.bool b,.str s,.int .i64 e]:=by simp (disch:=omega) only[go_sem,simprocAttr]<;>with_reducible rfl)
  (aj:nl (gS cq) env cq others:=by repeat first|exact trivial|refine⟨⟨_,_,_,by simp (disch:=omega) only[go_sem,simprocAttr]<;>with_reducible rfl,rfl,rfl,by simp (disch:=omega) only[go_sem,simprocAttr]<;>rfl⟩,?_⟩)
  (hp: ∀n e,R= .err n e→∀cJ,Q (.ey (lQ n e)) cJ:=by intro n e h cJ; rw[h]; exact rfl):
  al bb4 [] [⟨some d,none,.gP others 84 args⟩] env (aN.of n t cq cH) (fun e c1=>ar bb4 aQ cL t0 k Q e c1) (fun v c1=>Q (.ey v) c1):=by
 cases b with
 |true=>
  refine al.p5 rfl rfl (h7.AX (others:=others) (bg.FT (Hz s e) rfl rfl (by rw[aS]; rfl)) (fun _ _ h=>h) (fun _ _ h=>h) rfl rfl rfl fun s ao=> ?_) fun bD cJ q=> ?_
  ·exact nl.get aj s ao
  ·rw[q.1,q.2]
   exact al.nil (av rfl (by rw[ag]; rfl))
 |false=>
  have cR:bg bb4 84 (args.map (bl env)) (aN.of n t cq cH) (fun o cJ=>o= .ey (lQ s e)∧cJ=(aN.of n t cq cH).kk ⟨[],[]⟩ [] []):=by
   rw[aS]
   exact bg.vg ⟨[],[]⟩ (Hy s e) rfl rfl rfl trivial trivial rfl rfl rfl rfl
  refine al.p5 (S:=fun bD cJ=>bD= .c3 []∧cJ=(aN.of n t cq cH).gO (.bY 0 0 0)) rfl rfl (h7.mono (h7.DF (others:=others) cR rfl rfl rfl fun s ao=> ?_) (fun _ _ h=>h) fun v cJ q=> ?_) fun bD cJ q=> ?_
  ·obtain⟨bT,cG,cC,ap,ay,_,b1⟩:=nl.get aj s ao
   refine⟨bT,cG,cC,ap,ay,?_,b1⟩
   rw[mV]
   exact ay
  ·rw[q.1]
   exact hp s e (by rw[ag]; rfl) _
  ·rw[q.1,q.2,zF]
   exact al.nil yJ
end
end
section
attribute [local go_sem] bJ.row dW fo dF gv of_flat cf dn hE gz gy hB fK fZ e9 dM Fd.row eX fi df.row fc.row cj.row eM sU kH ij jl nJ au.cO ai.cO au.cx ai.cx au.dd ai.dd ui
theorem aS7 (w v:bJ):bg bb4 161 [.agg (bJ.row w),.ptr 0 0] (aN.of 1 0 [(0,146,bJ.row v)] []) (dA (.bool (decide (w.name=v.name))) [(0,146,bJ.row v)] []):=by
 refine bg.intro be Tryz.func161 Vq ?_
 unfold Kq Qw
 simp(disch:=omega)only[go_sem,simprocAttr]
 refine ak ?_
 refine D.r ?_
 exact⟨rfl,⟨rfl,trivial⟩,trivial⟩
theorem aT9 (n:bw) (v:bJ):bg bb4 265 [.agg (bJ.row v),.ptr 0 0] (aN.of 1 0 [(0,9,[.str n])] []) (dA (.bool (decide (v.name=n))) [(0,9,[.str n])] []):=by
 refine bg.intro be Tryz.func265 Wd ?_
 unfold Lb Rj
 simp(disch:=omega)only[go_sem,simprocAttr]
 refine ak ?_
 refine D.r ?_
 exact⟨rfl,⟨rfl,trivial⟩,trivial⟩
theorem aU7 (n:bw) (d:cj):bg bb4 341 [.agg (cj.row d),.ptr 0 0] (aN.of 1 0 [(0,9,[.str n])] []) (dA (.bool (decide (d.name=n))) [(0,9,[.str n])] []):=by
 refine bg.intro be Tryz.func341 WI ?_
 unfold LD RP
 simp(disch:=omega)only[go_sem,simprocAttr]
 refine ak ?_
 refine D.r ?_
 exact⟨rfl,⟨rfl,trivial⟩,trivial⟩
theorem aS9 (h o:bS):bg bb4 165 [.agg (bS.row o),.ptr 0 0] (aN.of 1 0 [(0,84,bS.row h)] []) (dA (.bool (decide (o.da=h.da)&&decide (o.peer=h.peer))) [(0,84,bS.row h)] []):=by
 refine bg.intro be Tryz.func165 Vt ?_
 unfold Kt Qz
 simp(disch:=omega)only[go_sem,simprocAttr]
 (repeat' first|refine D.S ?_|refine D.fg true true ?_|refine al.nil ?_|refine ar.c9 ?_|refine D.W ?_|refine D.Z ?_|refine D.G ?_ ?_|refine D.X ‹_› ?_|refine D.ja ‹_› ?_|refine D.jb ‹_› ?_|intro h|refine D.C ?_ ?_)
 all_goals
  refine D.r ?_
  refine⟨?_,⟨rfl,trivial⟩,trivial⟩
  simp_all
theorem aT8 (a b c:Int) (e:df):bg bb4 264 [.agg (df.row e),.ptr 0 0] (aN.of 1 0 [(0,74,[.int .i64 a,.int .i64 b,.int .i64 c])] []) (dA (.bool (decide (e.nq=a)&&(decide (e.pM=b)&&decide (e.pK=c)))) [(0,74,[.int .i64 a,.int .i64 b,.int .i64 c])] []):=by
 refine bg.intro be Tryz.func264 Wc ?_
 unfold La Ri
 simp(disch:=omega)only[go_sem,simprocAttr]
 refine ak ?_
 refine D.r ?_
 refine⟨?_,⟨rfl,trivial⟩,trivial⟩
 simp [ha,nY]
theorem aU2 (k x:Int):bg bb4 269 [.int .i64 x,.ptr 0 0] (aN.of 1 0 [(0,3,[.int .i64 k])] []) (dA (.bool (!decide (x=k))) [(0,3,[.int .i64 k])] []):=by
 refine bg.intro be Tryz.func269 Wg ?_
 unfold Le Rm
 simp(disch:=omega)only[go_sem,simprocAttr]
 refine ak ?_
 refine D.r ?_
 refine⟨?_,⟨rfl,trivial⟩,trivial⟩
 simp
theorem al2:c6 bb4 161=true:=by kernel_rfl
theorem al9:c6 bb4 265=true:=by kernel_rfl
theorem am1:c6 bb4 341=true:=by kernel_rfl
theorem al3:c6 bb4 165=true:=by kernel_rfl
theorem al8:c6 bb4 264=true:=by kernel_rfl
theorem am0:c6 bb4 269=true:=by kernel_rfl
theorem p0:c6 bb4 267=true:=by kernel_rfl
theorem T8 (bH:List Int) (k:Int):(!(bH.any fun x=> !decide (x=k)))=uW bH k:=by
 unfold uW
 induction bH with
 |nil=>rfl
 |cons x l b7=>simp only[List.any_cons,bd3,←b7,Bool.not_or,Bool.not_not]
theorem Tr (bH:List Int) (k:Int) (aG:bH.length≤1000000000000):bg bb4 267 [.int .i64 k,.ptr 0 0] (aN.of 1 0 [(0,60,[.aq 1 (bH.map dM)])] []) (dA (.bool (uW bH k)) [(0,60,[.aq 1 (bH.map dM)])] []):=by
 have e:=aU1 (T:=3) (cs:=[.int .i64 k]) am0 rfl rfl (fun x=> !decide (x=k)) bH aG fun x _=>aU2 k x
 have dJ:=T8 bH k
 generalize (bH.any fun x=> !decide (x=k))=b at e dJ
 refine bg.intro be Tryz.func267 We ?_
 unfold Lc Rk
 simp(disch:=omega)only[go_sem,simprocAttr]
 refine ak ?_
 refine D.F ⟨[1],[]⟩ (e) ?_
 refine ak ?_
 refine D.r ?_
 exact⟨by rw[←dJ],⟨rfl,trivial⟩,trivial⟩
theorem F5 {α:Type}(g:α→Bool): ∀(l:List α) (i:Nat),(∃p v,dj (fun v=> !g v) l i=((i+p:Nat):Int)∧l[p]? =some v∧g v=true∧l.find? g=some v)∨(dj (fun v=> !g v) l i= -1∧l.find? g=none)
 |[],_=> .inr ⟨rfl,rfl⟩
 |x::l,i=>by
  simp only[dj,List.find?_cons]
  cases ab:g x with
  |true=>exact .inl ⟨0,x,by simp,rfl,ab,rfl⟩
  |false=>
   rcases F5 g l (i+1) with ⟨p,v,U,aa,aD,bA⟩|⟨U,aa⟩
   ·exact .inl ⟨p+1,v,by simp only[bk1,cond_true,U]; omega,by simpa using aa,aD,bA⟩
   ·exact .inr ⟨U,aa⟩
theorem aT6 (aV:ef) (n:bw) (aG:aV.g.decls.length≤1000000000000):bg bb4 262 [.ptr 0 0,.str n] (jI aV) (RK (fun z:Int=> .int .i64 z) aV (.ok (nV aV.g n))):=by
 obtain⟨x,g,bO,ps⟩:=aV
 have e:=Tm (T:=9) (cs:=[.str n]) am1 rfl rfl (fun d=>decide (d.name=n)) g.decls aG fun d _=>aU7 n d
 simp only[nV]at e ⊢
 generalize dj (fun v=> !decide (v.name=n)) g.decls 0=z at e ⊢
 simp only[RK,jI]
 cases ps
 all_goals
  refine bg.intro be Tryz.func262 Wa ?_
  unfold K8 Rg
  simp(disch:=omega)only[go_sem,simprocAttr]
  refine ak ?_
  refine D.F ⟨[1],[]⟩ (e) ?_
  refine ak ?_
  refine D.r ?_
  exact⟨rfl,⟨rfl,trivial⟩,by first|exact trivial|exact⟨rfl,trivial⟩⟩
def sA (o:Option bJ):I:= .c3 [.agg (bJ.row (o.getD Ao)),.bool o.isSome]
theorem tG:uQ sA:=fun _=>rfl
theorem Hu (aV:ef) (n:bw) (aG:aV.x.vars.length≤1000000000000):bg bb4 166 [.ptr 0 0,.str n] (jI aV) (RK sA aV (.ok (varOf aV.x.vars n))):=by
 obtain⟨x,g,bO,ps⟩:=aV
 have e:=Tq (T:=9) (cs:=[.str n]) al9 rfl rfl (fun v=>decide (v.name=n)) x.vars aG fun v _=>aT9 n v
 simp only[RK,jI,varOf,sA]
 have ao:=F5 (fun v:bJ=>decide (v.name=n)) x.vars 0
 generalize dj (fun v=> !decide (v.name=n)) x.vars 0=z at e ao
 generalize x.vars.find? (fun v=>decide (v.name=n))=o at ao ⊢
 rcases ao with ⟨p,v,U,aa,_,bA⟩|⟨U,aa⟩
 ·subst bA
  have d1: ¬z<0:=by omega
  have d2:z=(p:Int):=by omega
  cases ps
  all_goals
   refine bg.intro be Tryz.func166 IS ?_
   unfold D8 Gw
   simp(disch:=omega)only[go_sem,simprocAttr]
   refine ak ?_
   refine D.F ⟨[1],[]⟩ (e) ?_
   (have ae:=d1;refine bt ?_;clear ae)
   refine ak ?_
   refine D.r ?_
   exact⟨rfl,⟨rfl,trivial⟩,by first|exact trivial|exact⟨rfl,trivial⟩⟩
 ·subst aa
  have d1:z<0:=by omega
  cases ps
  all_goals
   refine bg.intro be Tryz.func166 IS ?_
   unfold D8 Gw
   simp(disch:=omega)only[go_sem,simprocAttr]
   refine ak ?_
   refine D.F ⟨[1],[]⟩ (e) ?_
   (have ae:=d1;refine bt ?_;clear ae)
   refine D.r ?_
   exact⟨rfl,⟨rfl,trivial⟩,by first|exact trivial|exact⟨rfl,trivial⟩⟩
end
section
attribute [local go_sem] bJ.row dW fo dF gv of_flat cf dn hE gz gy hB fK fZ e9 dM Fd.row eX fi df.row fc.row cj.row eM sU kH ij jl nJ au.cO ai.cO au.cx ai.cx au.dd ai.dd ui
def oz:Unit→I:=fun _=> .c3 []
def sz:Int→I:=fun z=> .int .i64 z
theorem qA:uQ oz:=fun _=>rfl
theorem pT:uQ sz:=fun _=>rfl
attribute [local go_sem] oz sz sA
theorem aU3 (aV:ef) (n:bw) (aG:aV.x.vars.length≤1000000000000):bg bb4 270 [.ptr 0 0,.str n] (jI aV) (RK sz aV (pk aV n)):=by
 obtain⟨R,ag⟩: ∃R,R=pk aV n:=⟨_,rfl⟩
 rw[←ag]
 have e:=Hu aV n aG
 obtain⟨x,g,bO,ps⟩:=aV
 have EP: ∀k,(ef.mk x g bO ps).look n=some k→R= .ok k:=fun k h=>by rw[ag]; simp only[pk,h]
 have vo:(ef.mk x g bO ps).look n=none→R=(fS (varOf x.vars n).isSome n 10).bind fun _=> .ok ((varOf x.vars n).getD Ao).fB:=fun h=>by
  rw[ag]
  simp only[pk,h]
  cases varOf x.vars n<;>rfl
 clear ag
 simp only at e
 generalize varOf x.vars n=o at e vo
 unfold jI
 cases ps with
 |none=>
  have vo:=vo rfl
  refine bg.intro be Tryz.func270 DA ?_
  unfold ry Cw
  simp(disch:=omega)only[go_sem,simprocAttr]
  refine ak ?_
  refine D.N9 ?_
  refine ak ?_
  refine D.sg tG e ?_
  refine ak ?_
  refine D.M vo fun aa ag=> ?_
  refine ak ?_
  refine D.r ?_
  rw[ag]
  exact⟨rfl,⟨rfl,trivial⟩,trivial⟩
 |some m=>
  cases hm:mU n m with
  |some k=>
   have ag:=EP k hm
   refine bg.intro be Tryz.func270 DA ?_
   unfold ry Cw
   simp(disch:=omega)only[go_sem,simprocAttr]
   refine ak ?_
   refine D.vM (m:=m) ?_
   simp only[hm,bi3,bg9,bh1,bh7]
   refine ak ?_
   refine D.r ?_
   rw[ag]
   exact⟨rfl,⟨rfl,trivial⟩,⟨rfl,trivial⟩⟩
  |none=>
   have vo:=vo hm
   refine bg.intro be Tryz.func270 DA ?_
   unfold ry Cw
   simp(disch:=omega)only[go_sem,simprocAttr]
   refine ak ?_
   refine D.vM (m:=m) ?_
   simp only[hm,bi3,bg9,bh1,bh7]
   refine ak ?_
   refine D.sg tG e ?_
   refine ak ?_
   refine D.M vo fun aa ag=> ?_
   refine ak ?_
   refine D.r ?_
   rw[ag]
   exact⟨rfl,⟨rfl,trivial⟩,⟨rfl,trivial⟩⟩
end
section
attribute [local go_sem] bJ.row dW fo dF gv of_flat cf dn hE gz gy hB fK fZ e9 dM Fd.row eX fi df.row fc.row cj.row eM sU kH ij jl nJ au.cO ai.cO au.cx ai.cx au.dd ai.dd ui
attribute [local go_sem] oz sz sA
theorem NS {aV:ef}{l:List au}{i:Nat}{x:au}{α:Type}{F:List Int→dz α}(h:l[i]? =some x):(lf aV (l.drop i)).bind F=(kd aV x).bind fun a=>(lf aV (l.drop (i+1))).bind fun ca=>F (a::ca):=by
 rw[eN h]
 simp only[lf]
 cases kd aV x<;>simp only[dz.bind]
 cases lf aV (l.drop (i+1))<;>rfl
theorem yO: ∀ {l:List au}{i:Nat}{x:au},mm l=true→l[i]? =some x→fb x=true
 |y::l,0,x,h,e=>by simp only[mm,bb6]at h; simp at e; subst e; exact h.1
 |y::l,i+1,x,h,e=>by simp only[mm,bb6]at h; exact yO (l:=l) (i:=i) h.2 (by simpa using e)
 |[],_,_,_,e=>by simp at e
theorem dz.ym {α:Type}(r:dz α):r.bind dz.ok=r:=by cases r<;>rfl
theorem Hv (aV:ef) (aG:aV.x.vars.length≤1000000000000): ∀(N:Nat) (x:au),x.cv≤N→N≤1000000→fb x=true→bg bb4 168 [.ptr 0 0,.agg x.row] (jI aV) (RK sz aV (kd aV x)):=by
 obtain⟨jC,g,bO,ps⟩:=aV
 intro N
 induction N with
 |zero=>intro x ab; obtain⟨k,o,m,t,n,l⟩:=x; simp only[au.cv]at ab; omega
 |succ N b7=>
 intro x cP hb bo
 obtain⟨k,o,m,t,n,l⟩:=x
 have j2:l.length≤1000000:=by have:=au.ic l; simp only[au.cv]at cP; omega
 obtain⟨R,ag⟩: ∃R,R=kd ⟨jC,g,bO,ps⟩ (.mk k o m t n l):=⟨_,rfl⟩
 rw[←ag]
 simp only[kd]at ag
 simp only[fb,bb6]at bo
 obtain⟨iI,pV⟩:=bo
 have ry:=aU3 ⟨jC,g,bO,ps⟩ m aG
 unfold jI at ry ⊢
 cases ps with
 |none=>
  refine bg.intro be Tryz.func168 IT ?_
  unfold D9 Gx
  simp(disch:=omega)only[go_sem,simprocAttr]
  refine ak ?_
  refine ar.vi 2 0 1 3 (T:=60) (cs:=[.bi]) rfl rfl (by decide) ?_
  simp(disch:=omega)only[go_sem,simprocAttr]
  refine ar.cU (X:=Nat×List Int) (0,[]) (fun q=>[(0,.ptr 0 0),(3,.ptr 1 0),(5,.ptr 2 0),(10,.aq 6 (l.map au.row)),(11,.int .i64 ((l.map au.row).length:Int)),(12,.int .i64 (q.1:Int))]) (fun q=>[(0,186,eM ⟨jC,g,bO,none⟩),(1,80,[.int .i64 k,.str o,.str m,.str t,.int .i64 n,.aq 6 (l.map au.row)]),(2,60,[.own 0 1 (q.2.map dM)])]) (fun q=>[(0,.bY 3 1 (q.2.map dM).length)]) (fun q=>q.1≤l.length∧q.2.length=q.1∧R=(lf ⟨jC,g,bO,none⟩ (l.drop q.1)).bind fun bH=>pf ⟨jC,g,bO,none⟩ k o m (q.2++bH)) (fun q=>l.length-q.1) ⟨bc3 _,rfl,ag⟩ ⟨rfl,rfl,rfl,rfl,rfl,rfl,trivial⟩ ⟨rfl,rfl,rfl,trivial⟩ ⟨rfl,trivial⟩ ?_
  clear ag
  rintro⟨i,acc⟩ ⟨af,aS,ag⟩
  try simp only at af aS ag ⊢
  cases ad:l[i]? with
  |some y=>
   have cz:=(List.getElem?_eq_some_iff.1 ad).1
   have d1:(i:Int)<((l.map au.row).length:Int):=by rw[bb5]; omega
   have hm:=au.lI ad
   have ky:=b7 y (by simp only[au.cv]at cP; omega) (by omega) (yO pV ad)
   rw[NS ad]at ag
   clear b7 ry
   obtain⟨q5,Au,wo,tb,wq,At⟩:=y
   simp(disch:=omega)only[go_sem,simprocAttr]at ky
   (have ae:=d1;refine bt ?_;clear ae)
   refine D.x8 0 pT ky ag (fun a U ag=> ?_) ?_
   ·refine ak ?_
    refine D.iE ?_
    refine ak ?_
    refine ar.hz (i+1,acc++[a]) ⟨by omega,by rw[bb7,aS]; rfl,by rw[ag]; simp only[bc8,bd2,bd6]⟩ ⟨rfl,rfl,rfl,rfl,rfl,by simp only[bb8]; rfl,trivial⟩ ⟨rfl,rfl,by simp only[be5]; rfl,trivial⟩ ⟨by simp only[be5,bb7]; rfl,trivial⟩ (by show l.length-(i+1)<l.length-i; omega)
   ·refine ak ?_
    refine D.iE ?_
    refine ak ?_
    first|exact ar.dead 1 0 rfl|exact ar.dead 2 0 rfl
  |none=>
   have b4:=List.getElem?_eq_none_iff.1 ad
   have bN:i=l.length:=by omega
   have d1: ¬(i:Int)<((l.map au.row).length:Int):=by rw[bb5]; omega
   rw[bc6 b4]at ag
   simp only[lf,dz.bind,bd8]at ag
   subst bN
   clear ad b4 b7 af pV
   have dJ:=Tr acc
   refine ar.x5 2 0 1 0 (T:=60) (cs:=[.own 0 1 (acc.map dM)]) (rows:=acc.map dM) rfl rfl (hE acc) ?_
   simp(disch:=omega)only[go_sem,simprocAttr]
   by_cases aa:k=2
   ·subst aa
    (have ae:=d1;refine bt ?_;clear ae)
    refine D.r ?_
    rw[ag]
    exact⟨rfl,⟨rfl,trivial⟩,trivial⟩
   by_cases aD:k=3
   ·subst aD
    have ag:R=(pk ⟨jC,g,bO,none⟩ m).bind dz.ok:=by rw[ag,dz.ym]; rfl
    (have ae:=d1;refine bt ?_;clear ae)
    refine D.kN pT ry ag fun a U ag=> ?_
    refine ak ?_
    refine D.r ?_
    rw[ag]
    exact⟨rfl,⟨rfl,trivial⟩,trivial⟩
   simp only[pf,if_neg aa,if_neg aD]at ag
   by_cases bA:k=4
   ·subst bA
    rw[if_pos rfl]at ag
    (have ae:=d1;refine bt ?_;clear ae)
    refine D.tg ⟨[2],[]⟩ p0 (dJ 2 (by omega)) ?_
    refine ak ?_
    refine D.M ag fun U ag=> ?_
    refine ak ?_
    refine D.r ?_
    rw[ag]
    exact⟨rfl,⟨rfl,trivial⟩,trivial⟩
   rw[if_neg bA]at ag
   by_cases b6:k=5
   ·subst b6
    rw[if_pos rfl]at ag
    (have ae:=d1;refine bt ?_;clear ae)
    refine D.re ⟨[2],[]⟩ p0 (dJ 1 (by omega)) ?_
    refine ak ?_
    refine D.hO ag fun U ag=> ?_
    refine ak ?_
    refine D.r ?_
    rw[ag]
    exact⟨rfl,⟨rfl,trivial⟩,trivial⟩
   rw[if_neg b6]at ag
   by_cases dx:k=6
   rotate_left
   ·rw[if_neg dx]at ag
    simp only[fp,if_neg aa,if_neg aD,if_neg bA,if_neg b6,if_neg dx]at iI
    by_cases U:k=1
    ·subst U
     (have ae:=d1;refine bt ?_;clear ae)
     refine D.r ?_
     rw[ag]
     exact⟨rfl,⟨rfl,trivial⟩,trivial⟩
    ·rw[if_neg U]at iI
     cases iI
   subst dx
   rw[if_pos rfl]at ag
   have tU:acc.length=2:=by
    simp only[fp,if_neg aa,if_neg aD,if_neg bA,if_neg b6,if_pos]at iI
    rw[if_neg (by decide)]at iI
    simp only[bb6,decide_eq_true_eq]at iI
    exact aS.trans iI.2.1
   clear iI
   obtain⟨n6,qN,rfl⟩: ∃n6 qN,acc=[n6,qN]:=by
    match acc,tU with
    |[n6,qN],_=>exact⟨n6,qN,rfl⟩
   clear aS tU
   simp only[List.headD_cons]at ag
   by_cases e4:o=[43]
   ·subst e4
    rw[if_neg (by simp),if_pos rfl]at ag
    (have ae:=d1;refine bt ?_;clear ae)
    refine D.re ⟨[2],[]⟩ p0 (dJ n6 (by decide:2≤1000000000000)) ?_
    refine ak ?_
    refine D.hO ag fun U ag=> ?_
    refine ak ?_
    refine D.r ?_
    rw[ag]
    exact⟨rfl,⟨rfl,trivial⟩,trivial⟩
   rw[if_neg e4]at ag
   by_cases fT:o=[61,61]
   ·subst fT
    rw[if_neg (by simp)]at ag
    (have ae:=d1;have z2:=e4;refine dQ ?_;clear ae z2)
    refine D.re ⟨[2],[]⟩ p0 (dJ n6 (by decide:2≤1000000000000)) ?_
    refine ak ?_
    refine D.hO ag fun U ag=> ?_
    (have ae:=e4;refine bt ?_;clear ae)
    refine D.r ?_
    rw[ag]
    exact⟨rfl,⟨rfl,trivial⟩,trivial⟩
   by_cases my:o=[33,61]
   ·subst my
    rw[if_neg (by simp)]at ag
    (have ae:=d1;have z2:=e4;have z3:=fT;refine ep ?_;clear ae z2 z3)
    refine D.re ⟨[2],[]⟩ p0 (dJ n6 (by decide:2≤1000000000000)) ?_
    refine ak ?_
    refine D.hO ag fun U ag=> ?_
    (have ae:=e4;refine bt ?_;clear ae)
    refine D.r ?_
    rw[ag]
    exact⟨rfl,⟨rfl,trivial⟩,trivial⟩
   rw[if_pos ⟨e4,fT,my⟩]at ag
   (have ae:=d1;have z2:=e4;have z3:=And.intro fT my;refine ep ?_;clear ae z2 z3)
   refine D.re ⟨[2],[]⟩ p0 (dJ 1 (by decide:2≤1000000000000)) ?_
   refine ak ?_
   refine D.hO ag fun U ag=> ?_
   refine ak ?_
   refine D.r ?_
   rw[ag]
   exact⟨rfl,⟨rfl,trivial⟩,trivial⟩
 |some li=>
  refine bg.intro be Tryz.func168 IT ?_
  unfold D9 Gx
  simp(disch:=omega)only[go_sem,simprocAttr]
  refine ak ?_
  refine ar.vi 2 0 1 3 (T:=60) (cs:=[.bi]) rfl rfl (by decide) ?_
  simp(disch:=omega)only[go_sem,simprocAttr]
  refine ar.cU (X:=Nat×List Int) (0,[]) (fun q=>[(0,.ptr 0 0),(3,.ptr 1 0),(5,.ptr 2 0),(10,.aq 6 (l.map au.row)),(11,.int .i64 ((l.map au.row).length:Int)),(12,.int .i64 (q.1:Int))]) (fun q=>[(0,186,eM ⟨jC,g,bO,(some li)⟩),(1,80,[.int .i64 k,.str o,.str m,.str t,.int .i64 n,.aq 6 (l.map au.row)]),(2,60,[.own 1 1 (q.2.map dM)])]) (fun q=>[(1,.bY 3 1 (q.2.map dM).length),(0,.be 184 0 (li.map lg))]) (fun q=>q.1≤l.length∧q.2.length=q.1∧R=(lf ⟨jC,g,bO,(some li)⟩ (l.drop q.1)).bind fun bH=>pf ⟨jC,g,bO,(some li)⟩ k o m (q.2++bH)) (fun q=>l.length-q.1) ⟨bc3 _,rfl,ag⟩ ⟨rfl,rfl,rfl,rfl,rfl,rfl,trivial⟩ ⟨rfl,rfl,rfl,trivial⟩ ⟨rfl,⟨rfl,trivial⟩⟩ ?_
  clear ag
  rintro⟨i,acc⟩ ⟨af,aS,ag⟩
  try simp only at af aS ag ⊢
  cases ad:l[i]? with
  |some y=>
   have cz:=(List.getElem?_eq_some_iff.1 ad).1
   have d1:(i:Int)<((l.map au.row).length:Int):=by rw[bb5]; omega
   have hm:=au.lI ad
   have ky:=b7 y (by simp only[au.cv]at cP; omega) (by omega) (yO pV ad)
   rw[NS ad]at ag
   clear b7 ry
   obtain⟨q5,Au,wo,tb,wq,At⟩:=y
   simp(disch:=omega)only[go_sem,simprocAttr]at ky
   (have ae:=d1;refine bt ?_;clear ae)
   refine D.x8 0 pT ky ag (fun a U ag=> ?_) ?_
   ·refine ak ?_
    refine D.iE ?_
    refine ak ?_
    refine ar.hz (i+1,acc++[a]) ⟨by omega,by rw[bb7,aS]; rfl,by rw[ag]; simp only[bc8,bd2,bd6]⟩ ⟨rfl,rfl,rfl,rfl,rfl,by simp only[bb8]; rfl,trivial⟩ ⟨rfl,rfl,by simp only[be5]; rfl,trivial⟩ ⟨by simp only[be5,bb7]; rfl,⟨rfl,trivial⟩⟩ (by show l.length-(i+1)<l.length-i; omega)
   ·refine ak ?_
    refine D.iE ?_
    refine ak ?_
    first|exact ar.dead 1 0 rfl|exact ar.dead 2 0 rfl
  |none=>
   have b4:=List.getElem?_eq_none_iff.1 ad
   have bN:i=l.length:=by omega
   have d1: ¬(i:Int)<((l.map au.row).length:Int):=by rw[bb5]; omega
   rw[bc6 b4]at ag
   simp only[lf,dz.bind,bd8]at ag
   subst bN
   clear ad b4 b7 af pV
   have dJ:=Tr acc
   refine ar.x5 2 0 1 1 (T:=60) (cs:=[.own 1 1 (acc.map dM)]) (rows:=acc.map dM) rfl rfl (hE acc) ?_
   simp(disch:=omega)only[go_sem,simprocAttr]
   by_cases aa:k=2
   ·subst aa
    (have ae:=d1;refine bt ?_;clear ae)
    refine D.r ?_
    rw[ag]
    exact⟨rfl,⟨rfl,trivial⟩,⟨rfl,trivial⟩⟩
   by_cases aD:k=3
   ·subst aD
    have ag:R=(pk ⟨jC,g,bO,(some li)⟩ m).bind dz.ok:=by rw[ag,dz.ym]; rfl
    (have ae:=d1;refine bt ?_;clear ae)
    refine D.kN pT ry ag fun a U ag=> ?_
    refine ak ?_
    refine D.r ?_
    rw[ag]
    exact⟨rfl,⟨rfl,trivial⟩,⟨rfl,trivial⟩⟩
   simp only[pf,if_neg aa,if_neg aD]at ag
   by_cases bA:k=4
   ·subst bA
    rw[if_pos rfl]at ag
    (have ae:=d1;refine bt ?_;clear ae)
    refine D.tg ⟨[2],[]⟩ p0 (dJ 2 (by omega)) ?_
    refine ak ?_
    refine D.M ag fun U ag=> ?_
    refine ak ?_
    refine D.r ?_
    rw[ag]
    exact⟨rfl,⟨rfl,trivial⟩,⟨rfl,trivial⟩⟩
   rw[if_neg bA]at ag
   by_cases b6:k=5
   ·subst b6
    rw[if_pos rfl]at ag
    (have ae:=d1;refine bt ?_;clear ae)
    refine D.re ⟨[2],[]⟩ p0 (dJ 1 (by omega)) ?_
    refine ak ?_
    refine D.hO ag fun U ag=> ?_
    refine ak ?_
    refine D.r ?_
    rw[ag]
    exact⟨rfl,⟨rfl,trivial⟩,⟨rfl,trivial⟩⟩
   rw[if_neg b6]at ag
   by_cases dx:k=6
   rotate_left
   ·rw[if_neg dx]at ag
    simp only[fp,if_neg aa,if_neg aD,if_neg bA,if_neg b6,if_neg dx]at iI
    by_cases U:k=1
    ·subst U
     (have ae:=d1;refine bt ?_;clear ae)
     refine D.r ?_
     rw[ag]
     exact⟨rfl,⟨rfl,trivial⟩,⟨rfl,trivial⟩⟩
    ·rw[if_neg U]at iI
     cases iI
   subst dx
   rw[if_pos rfl]at ag
   have tU:acc.length=2:=by
    simp only[fp,if_neg aa,if_neg aD,if_neg bA,if_neg b6,if_pos]at iI
    rw[if_neg (by decide)]at iI
    simp only[bb6,decide_eq_true_eq]at iI
    exact aS.trans iI.2.1
   clear iI
   obtain⟨n6,qN,rfl⟩: ∃n6 qN,acc=[n6,qN]:=by
    match acc,tU with
    |[n6,qN],_=>exact⟨n6,qN,rfl⟩
   clear aS tU
   simp only[List.headD_cons]at ag
   by_cases e4:o=[43]
   ·subst e4
    rw[if_neg (by simp),if_pos rfl]at ag
    (have ae:=d1;refine bt ?_;clear ae)
    refine D.re ⟨[2],[]⟩ p0 (dJ n6 (by decide:2≤1000000000000)) ?_
    refine ak ?_
    refine D.hO ag fun U ag=> ?_
    refine ak ?_
    refine D.r ?_
    rw[ag]
    exact⟨rfl,⟨rfl,trivial⟩,⟨rfl,trivial⟩⟩
   rw[if_neg e4]at ag
   by_cases fT:o=[61,61]
   ·subst fT
    rw[if_neg (by simp)]at ag
    (have ae:=d1;have z2:=e4;refine dQ ?_;clear ae z2)
    refine D.re ⟨[2],[]⟩ p0 (dJ n6 (by decide:2≤1000000000000)) ?_
    refine ak ?_
    refine D.hO ag fun U ag=> ?_
    (have ae:=e4;refine bt ?_;clear ae)
    refine D.r ?_
    rw[ag]
    exact⟨rfl,⟨rfl,trivial⟩,⟨rfl,trivial⟩⟩
   by_cases my:o=[33,61]
   ·subst my
    rw[if_neg (by simp)]at ag
    (have ae:=d1;have z2:=e4;have z3:=fT;refine ep ?_;clear ae z2 z3)
    refine D.re ⟨[2],[]⟩ p0 (dJ n6 (by decide:2≤1000000000000)) ?_
    refine ak ?_
    refine D.hO ag fun U ag=> ?_
    (have ae:=e4;refine bt ?_;clear ae)
    refine D.r ?_
    rw[ag]
    exact⟨rfl,⟨rfl,trivial⟩,⟨rfl,trivial⟩⟩
   rw[if_pos ⟨e4,fT,my⟩]at ag
   (have ae:=d1;have z2:=e4;have z3:=And.intro fT my;refine ep ?_;clear ae z2 z3)
   refine D.re ⟨[2],[]⟩ p0 (dJ 1 (by decide:2≤1000000000000)) ?_
   refine ak ?_
   refine D.hO ag fun U ag=> ?_
   refine ak ?_
   refine D.r ?_
   rw[ag]
   exact⟨rfl,⟨rfl,trivial⟩,⟨rfl,trivial⟩⟩
end
section
attribute [local go_sem] bJ.row dW fo dF gv of_flat cf dn hE gz gy hB fK fZ e9 dM Fd.row eX fi df.row fc.row cj.row eM sU kH ij jl nJ au.cO ai.cO au.cx ai.cx au.dd ai.dd ui
attribute [local go_sem] oz sz sA bi3 bg9 bh1 bh7
theorem aU0 (aV:ef) (aG:aV.x.vars.length≤1000000000000) (k:Int) (m:bw) (x:au) (t:Int) (a b:List ai) (ab:x.cv≤1000000) (bo:fb x=true):bg bb4 266 [.ptr 0 0,.agg (ai.row (.mk k m x t a b))] (jI aV) (RK oz aV (qn aV m x)):=by
 obtain⟨R,ag⟩: ∃R,R=qn aV m x:=⟨_,rfl⟩
 rw[←ag]
 have ap:=Hu aV m aG
 have ay:=Hv aV aG 1000000 x ab (by omega) bo
 simp only[qn]at ag
 obtain⟨jC,g,bO,ps⟩:=aV
 generalize varOf (ef.mk jC g bO ps).x.vars m=o at ap ag
 obtain⟨fD,fH,fF,fI,fG,fE⟩:=x
 simp(disch:=omega)only[go_sem,simprocAttr]at ay
 unfold jI
 cases ps with
 |none=>
  have ec:(ef.mk jC g bO none).look m=none→R=(fS o.isSome m 10).bind fun _=>(kd (ef.mk jC g bO none) (.mk fD fH fF fI fG fE)).bind fun k=>(fS (decide (k=(o.getD Ao).fB)) m 11).bind dz.ok:=fun h=>by
   rw[ag,h]
   simp only[bg9,bh3,bk1,dz.ym]
   rfl
  clear ag
  refine bg.intro be Tryz.func266 Dz ?_
  unfold Bf Cv
  simp(disch:=omega)only[go_sem,simprocAttr]
  refine ak ?_
  refine D.N9 ?_
  refine ak ?_
  refine D.sg tG ap ?_
  refine ak ?_
  refine D.M (ec rfl) fun U ag=> ?_
  refine ak ?_
  refine D.M (R:=R) (b:=true) (s:=m) (e:=11) (F:=fun _=>R) rfl fun _ _=> ?_
  refine ak ?_
  refine D.x8 0 pT ay ag (fun a U ag=> ?_) ?_
  ·refine ak ?_
   refine D.hO ag fun U ag=> ?_
   refine ak ?_
   refine D.r ?_
   rw[ag]
   exact⟨rfl,⟨rfl,trivial⟩,trivial⟩
  ·refine ak ?_
   refine D.C4 (.c3 []) 0 0 ?_
   refine ak ?_
   exact yJ
 |some li=>
  have ec:(ef.mk jC g bO (some li)).look m=none→R=(fS o.isSome m 10).bind fun _=>(kd (ef.mk jC g bO (some li)) (.mk fD fH fF fI fG fE)).bind fun k=>(fS (decide (k=(o.getD Ao).fB)) m 11).bind dz.ok:=fun h=>by
   rw[ag,h]
   simp only[bg9,bh3,bk1,dz.ym]
   rfl
  have j1: ∀z,(ef.mk jC g bO (some li)).look m=some z→R= .err m 11:=fun z h=>by
   rw[ag,h]
   rfl
  clear ag
  cases hm:mU m li with
  |some z=>
   have ag:=j1 z hm
   refine bg.intro be Tryz.func266 Dz ?_
   unfold Bf Cv
   simp(disch:=omega)only[go_sem,simprocAttr]
   refine ak ?_
   refine D.vM (m:=li) ?_
   simp only[hm,bi3,bh1]
   refine ak ?_
   refine D.sg tG ap ?_
   refine ak ?_
   refine D.M (R:=R) (b:=true) (s:=m) (e:=10) (F:=fun _=>R) rfl fun _ _=> ?_
   refine ak ?_
   refine D.M (R:=R) (b:=false) (s:=m) (e:=11) (F:=fun _=>R) ag fun h=>nomatch h
  |none=>
   refine bg.intro be Tryz.func266 Dz ?_
   unfold Bf Cv
   simp(disch:=omega)only[go_sem,simprocAttr]
   refine ak ?_
   refine D.vM (m:=li) ?_
   simp only[hm,bg9,bh7]
   refine ak ?_
   refine D.sg tG ap ?_
   refine ak ?_
   refine D.M (ec hm) fun U ag=> ?_
   refine ak ?_
   refine D.M (R:=R) (b:=true) (s:=m) (e:=11) (F:=fun _=>R) rfl fun _ _=> ?_
   refine ak ?_
   refine D.x8 0 pT ay ag (fun a U ag=> ?_) ?_
   ·refine ak ?_
    refine D.hO ag fun U ag=> ?_
    refine ak ?_
    refine D.r ?_
    rw[ag]
    exact⟨rfl,⟨rfl,trivial⟩,⟨rfl,trivial⟩⟩
   ·refine ak ?_
    refine D.C4 (.c3 []) 1 0 ?_
    refine ak ?_
    exact yJ
theorem SS {aV:ef}{l:List ai}{i:Nat}{x:ai}(h:l[i]? =some x):j4 aV (l.drop i)=(qc aV x).bind fun _=>j4 aV (l.drop (i+1)):=by
 rw[eN h]
 rfl
theorem EG: ∀ {l:List ai}{i:Nat}{x:ai},jt l=true→l[i]? =some x→iH x=true
 |y::l,0,x,h,e=>by simp only[jt,bb6]at h; simp at e; subst e; exact h.1
 |y::l,i+1,x,h,e=>by simp only[jt,bb6]at h; exact EG (l:=l) (i:=i) h.2 (by simpa using e)
 |[],_,_,_,e=>by simp at e
theorem aT0 (aV:ef) (aG:aV.x.vars.length≤1000000000000): ∀(N:Nat) (l:List ai),ai.ch l≤N→N≤1000000→jt l=true→bg bb4 167 [.ptr 0 0,.aq 11 (l.map ai.row)] (jI aV) (RK oz aV (j4 aV l)):=by
 obtain⟨jC,g,bO,ps⟩:=aV
 intro N
 induction N with
 |zero=>
  intro l cP hb bo
  have a1:l=[]:=by have:=ai.ic l; exact List.length_eq_zero_iff.1 (by omega)
  subst a1
  unfold jI
  cases ps with
  |none=>
   refine bg.intro be bt1 AW ?_
   unfold yD zQ
   simp(disch:=omega)only[go_sem,simprocAttr]
   refine ak ?_
   refine ar.cU (X:=Unit) () (fun _=>[(0,.ptr 0 0),(7,.int .i64 0),(8,.int .i64 0)]) (fun _=>[(0,186,eM ⟨jC,g,bO,none⟩)]) (fun _=>[]) (fun _=>True) (fun _=>0) trivial ⟨rfl,rfl,rfl,trivial⟩ ⟨rfl,trivial⟩ trivial ?_
   rintro _ _
   refine ak ?_
   refine D.r ?_
   exact⟨rfl,⟨rfl,trivial⟩,trivial⟩
  |some li=>
   refine bg.intro be bt1 AW ?_
   unfold yD zQ
   simp(disch:=omega)only[go_sem,simprocAttr]
   refine ak ?_
   refine ar.cU (X:=Unit) () (fun _=>[(0,.ptr 0 0),(7,.int .i64 0),(8,.int .i64 0)]) (fun _=>[(0,186,eM ⟨jC,g,bO,(some li)⟩)]) (fun _=>[(0,.be 184 0 (li.map lg))]) (fun _=>True) (fun _=>0) trivial ⟨rfl,rfl,rfl,trivial⟩ ⟨rfl,trivial⟩ ⟨rfl,trivial⟩ ?_
   rintro _ _
   refine ak ?_
   refine D.r ?_
   exact⟨rfl,⟨rfl,trivial⟩,⟨rfl,trivial⟩⟩
 |succ N b7=>
 intro l cP hb bo
 have j2:l.length≤1000000:=by have:=ai.ic l; omega
 obtain⟨R,ag⟩: ∃R,R=j4 ⟨jC,g,bO,ps⟩ l:=⟨_,rfl⟩
 rw[←ag]
 have tB:=aU0 ⟨jC,g,bO,ps⟩ aG
 have rz:=Hv ⟨jC,g,bO,ps⟩ aG 1000000
 unfold jI
 cases ps with
 |none=>
  refine bg.intro be bt1 AW ?_
  unfold yD zQ
  simp(disch:=omega)only[go_sem,simprocAttr]
  refine ak ?_
  refine ar.cU (X:=Nat) 0 (fun i=>[(0,.ptr 0 0),(6,.aq 11 (l.map ai.row)),(7,.int .i64 ((l.map ai.row).length:Int)),(8,.int .i64 (i:Int))]) (fun _=>[(0,186,eM ⟨jC,g,bO,none⟩)]) (fun _=>[]) (fun i=>i≤l.length∧R=j4 ⟨jC,g,bO,none⟩ (l.drop i)) (fun i=>l.length-i) ⟨bc3 _,ag⟩ ⟨rfl,rfl,rfl,rfl,trivial⟩ ⟨rfl,trivial⟩ trivial ?_
  clear ag
  rintro i ⟨af,ag⟩
  try simp only at af ag ⊢
  cases ad:l[i]? with
  |none=>
   have b4:=List.getElem?_eq_none_iff.1 ad
   have d1: ¬(i:Int)<((l.map ai.row).length:Int):=by rw[bb5]; omega
   rw[bc6 b4]at ag
   (have ae:=d1;refine bt ?_;clear ae)
   refine D.r ?_
   rw[ag]
   exact⟨rfl,⟨rfl,trivial⟩,trivial⟩
  |some y=>
   have cz:=(List.getElem?_eq_some_iff.1 ad).1
   have d1:(i:Int)<((l.map ai.row).length:Int):=by rw[bb5]; omega
   have hm:=ai.lI ad
   have a8:=EG bo ad
   rw[SS ad]at ag
   obtain⟨k,m,x,t,a,b⟩:=y
   have zh:x.cv≤1000000:=by simp only[ai.cv]at hm; omega
   simp only[iH,bb6]at a8
   obtain⟨zi,qK,Fy,Fz⟩:=a8
   have kw:=b7 a (by simp only[ai.cv]at hm; omega) (by omega) Fy
   have je:=b7 b (by simp only[ai.cv]at hm; omega) (by omega) Fz
   have tB:=tB k m x t a b zh qK
   have rz:=rz x zh (by omega) qK
   clear b7 bo
   obtain⟨fD,fH,fF,fI,fG,fE⟩:=x
   simp(disch:=omega)only[go_sem,simprocAttr]at tB
   simp(disch:=omega)only[go_sem,simprocAttr]at rz
   simp only[qc]at ag
   by_cases br:k=1
   ·subst br
    rw[if_pos rfl]at ag
    (have ae:=d1;refine bt ?_;clear ae)
    refine D.kN qA tB ag fun _ U ag=> ?_
    refine ak ?_
    refine ar.hz (i+1) ⟨by omega,ag⟩ ⟨rfl,rfl,rfl,by simp only[bb8]; rfl,trivial⟩ ⟨rfl,trivial⟩ trivial (by show l.length-(i+1)<l.length-i; omega)
   rw[if_neg br]at ag
   by_cases bB:k=2
   ·subst bB
    rw[if_pos rfl]at ag
    simp only[dz.bind_assoc]at ag
    (have ae:=d1;refine bt ?_;clear ae)
    refine D.kN pT rz ag fun q U ag=> ?_
    refine ak ?_
    refine D.M ag fun U ag=> ?_
    refine ak ?_
    refine D.kN qA kw ag fun _ U ag=> ?_
    refine ak ?_
    refine D.kN qA je ag fun _ U ag=> ?_
    refine ak ?_
    refine ar.hz (i+1) ⟨by omega,ag⟩ ⟨rfl,rfl,rfl,by simp only[bb8]; rfl,trivial⟩ ⟨rfl,trivial⟩ trivial (by show l.length-(i+1)<l.length-i; omega)
   rw[if_neg bB]at ag
   by_cases cu:k=3
   ·subst cu
    rw[if_pos rfl]at ag
    simp only[dz.bind_assoc]at ag
    (have ae:=d1;refine bt ?_;clear ae)
    refine D.kN pT rz ag fun q U ag=> ?_
    refine ak ?_
    refine D.M ag fun U ag=> ?_
    refine ak ?_
    refine D.kN qA kw ag fun _ U ag=> ?_
    refine ak ?_
    refine D.kN qA je ag fun _ U ag=> ?_
    refine ak ?_
    refine ar.hz (i+1) ⟨by omega,ag⟩ ⟨rfl,rfl,rfl,by simp only[bb8]; rfl,trivial⟩ ⟨rfl,trivial⟩ trivial (by show l.length-(i+1)<l.length-i; omega)
   ·simp only[en,if_neg br,if_neg bB,if_neg cu]at zi
    cases zi
 |some li=>
  refine bg.intro be bt1 AW ?_
  unfold yD zQ
  simp(disch:=omega)only[go_sem,simprocAttr]
  refine ak ?_
  refine ar.cU (X:=Nat) 0 (fun i=>[(0,.ptr 0 0),(6,.aq 11 (l.map ai.row)),(7,.int .i64 ((l.map ai.row).length:Int)),(8,.int .i64 (i:Int))]) (fun _=>[(0,186,eM ⟨jC,g,bO,(some li)⟩)]) (fun _=>[(0,.be 184 0 (li.map lg))]) (fun i=>i≤l.length∧R=j4 ⟨jC,g,bO,(some li)⟩ (l.drop i)) (fun i=>l.length-i) ⟨bc3 _,ag⟩ ⟨rfl,rfl,rfl,rfl,trivial⟩ ⟨rfl,trivial⟩ ⟨rfl,trivial⟩ ?_
  clear ag
  rintro i ⟨af,ag⟩
  try simp only at af ag ⊢
  cases ad:l[i]? with
  |none=>
   have b4:=List.getElem?_eq_none_iff.1 ad
   have d1: ¬(i:Int)<((l.map ai.row).length:Int):=by rw[bb5]; omega
   rw[bc6 b4]at ag
   (have ae:=d1;refine bt ?_;clear ae)
   refine D.r ?_
   rw[ag]
   exact⟨rfl,⟨rfl,trivial⟩,⟨rfl,trivial⟩⟩
  |some y=>
   have cz:=(List.getElem?_eq_some_iff.1 ad).1
   have d1:(i:Int)<((l.map ai.row).length:Int):=by rw[bb5]; omega
   have hm:=ai.lI ad
   have a8:=EG bo ad
   rw[SS ad]at ag
   obtain⟨k,m,x,t,a,b⟩:=y
   have zh:x.cv≤1000000:=by simp only[ai.cv]at hm; omega
   simp only[iH,bb6]at a8
   obtain⟨zi,qK,Fy,Fz⟩:=a8
   have kw:=b7 a (by simp only[ai.cv]at hm; omega) (by omega) Fy
   have je:=b7 b (by simp only[ai.cv]at hm; omega) (by omega) Fz
   have tB:=tB k m x t a b zh qK
   have rz:=rz x zh (by omega) qK
   clear b7 bo
   obtain⟨fD,fH,fF,fI,fG,fE⟩:=x
   simp(disch:=omega)only[go_sem,simprocAttr]at tB
   simp(disch:=omega)only[go_sem,simprocAttr]at rz
   simp only[qc]at ag
   by_cases br:k=1
   ·subst br
    rw[if_pos rfl]at ag
    (have ae:=d1;refine bt ?_;clear ae)
    refine D.kN qA tB ag fun _ U ag=> ?_
    refine ak ?_
    refine ar.hz (i+1) ⟨by omega,ag⟩ ⟨rfl,rfl,rfl,by simp only[bb8]; rfl,trivial⟩ ⟨rfl,trivial⟩ ⟨rfl,trivial⟩ (by show l.length-(i+1)<l.length-i; omega)
   rw[if_neg br]at ag
   by_cases bB:k=2
   ·subst bB
    rw[if_pos rfl]at ag
    simp only[dz.bind_assoc]at ag
    (have ae:=d1;refine bt ?_;clear ae)
    refine D.kN pT rz ag fun q U ag=> ?_
    refine ak ?_
    refine D.M ag fun U ag=> ?_
    refine ak ?_
    refine D.kN qA kw ag fun _ U ag=> ?_
    refine ak ?_
    refine D.kN qA je ag fun _ U ag=> ?_
    refine ak ?_
    refine ar.hz (i+1) ⟨by omega,ag⟩ ⟨rfl,rfl,rfl,by simp only[bb8]; rfl,trivial⟩ ⟨rfl,trivial⟩ ⟨rfl,trivial⟩ (by show l.length-(i+1)<l.length-i; omega)
   rw[if_neg bB]at ag
   by_cases cu:k=3
   ·subst cu
    rw[if_pos rfl]at ag
    simp only[dz.bind_assoc]at ag
    (have ae:=d1;refine bt ?_;clear ae)
    refine D.kN pT rz ag fun q U ag=> ?_
    refine ak ?_
    refine D.M ag fun U ag=> ?_
    refine ak ?_
    refine D.kN qA kw ag fun _ U ag=> ?_
    refine ak ?_
    refine D.kN qA je ag fun _ U ag=> ?_
    refine ak ?_
    refine ar.hz (i+1) ⟨by omega,ag⟩ ⟨rfl,rfl,rfl,by simp only[bb8]; rfl,trivial⟩ ⟨rfl,trivial⟩ ⟨rfl,trivial⟩ (by show l.length-(i+1)<l.length-i; omega)
   ·simp only[en,if_neg br,if_neg bB,if_neg cu]at zi
    cases zi
end
section
attribute [local go_sem] bJ.row dW fo dF gv of_flat cf dn hE gz gy hB fK fZ e9 dM Fd.row eX fi df.row fc.row cj.row eM sU kH ij jl nJ au.cO ai.cO au.cx ai.cx au.dd ai.dd ui
attribute [local go_sem] oz sz sA bi3 bg9 bh1 bh7
theorem FW:I.one (.dV (.map none))=true:=rfl
theorem Ew:I.flat (.dV (.map none))=true:=rfl
theorem FR:(Value.map none).oneCell'=true:=rfl
attribute [local go_sem] FW Ew FR
def By (d:cj):I:= .agg (cj.row d)
theorem Mh:uQ By:=fun d=>by simp only[By,I.flat,b2,cj.row,gz,gy,hB,bc0]
attribute [local go_sem] By io
theorem Ht (x:cQ) (g:di) (bO:Int) (path peer:bw) (vB:Bool) (bG:g.decls.length≤1000000000000) (ac:g.dl.length≤1000000000000) (he:g.cD.length≤1000000000000):bg bb4 164 [.ptr 0 0,.str path,.str peer,.bool vB] (jI ⟨x,g,bO,none⟩) (RK By ⟨x,g,bO,none⟩ (uh ⟨x,g,bO,none⟩ path peer vB)):=by
 obtain⟨R,ag⟩: ∃R,R=uh ⟨x,g,bO,none⟩ path peer vB:=⟨_,rfl⟩
 rw[←ag]
 simp only[uh]at ag
 have ap:=aT6 ⟨x,g,bO,none⟩ path bG
 have ay:Pure bb4 93 [.aq 1 (g.dl.map cf),.str peer] (.int .i64 (ht g.dl peer)):=Gl g.dl peer (by unfold maxLen; omega)
 have ao:=F5 (fun d:cj=>decide (d.name=path)) g.decls 0
 have aw:nV g path=dj (fun v=> !decide (v.name=path)) g.decls 0:=rfl
 rw[←aw]at ao
 clear aw
 simp only at ap
 generalize nV g path=z at ap ao ag
 generalize ht g.dl peer=p at ay ag
 have b1:=fun a b c=>aT7 (T:=74) (cs:=[.int .i64 a,.int .i64 b,.int .i64 c]) al8 rfl rfl (fun e=>decide (e.nq=a)&&(decide (e.pM=b)&&decide (e.pK=c))) g.cD he fun e _=>aT8 a b c e
 unfold jI
 refine bg.intro be Tryz.func164 Vs ?_
 unfold Ks Qy
 simp(disch:=omega)only[go_sem,simprocAttr]
 refine ak ?_
 refine D.sg (fun _=>rfl) ap ?_
 refine ak ?_
 refine D.M ag fun U ag=> ?_
 simp only[decide_eq_true_eq]at U
 obtain⟨q,d,bu,EY,M3,a45⟩: ∃q d,z=((0+q:Nat):Int)∧g.decls[q]? =some d∧decide (d.name=path)=true∧g.decls.find? (fun d=>decide (d.name=path))=some d:=by
  rcases ao with h|⟨h,_⟩
  ·exact h
  ·omega
 have ah7:z.toNat=q:=by omega
 rw[ah7,EY]at ag
 simp only at ag
 clear ao
 refine ak ?_
 refine D.P (ay) ?_
 refine ak ?_
 refine D.M ag fun aa ag=> ?_
 cases vB
 ·simp only[bd5,if_false]at ag
  refine ak ?_
  refine D.F ⟨[2],[]⟩ (b1 bO p z) ?_
  refine ak ?_
  refine D.M ag fun aD ag=> ?_
  have af:z=(q:Int):=by omega
  refine ak ?_
  refine D.r ?_
  rw[ag]
  exact⟨rfl,⟨rfl,trivial⟩,trivial⟩
 ·simp only[if_true]at ag
  refine ak ?_
  refine D.F ⟨[2],[]⟩ (b1 p bO z) ?_
  refine ak ?_
  refine D.M ag fun aD ag=> ?_
  have af:z=(q:Int):=by omega
  refine ak ?_
  refine D.r ?_
  rw[ag]
  exact⟨rfl,⟨rfl,trivial⟩,trivial⟩
theorem aw8 {vars:List bJ}{acc:List (bw×Int)}{ps:List bw}{cg:List Fd}{i:Nat}{n:bw}{f:Fd}(U:ps[i]? =some n) (aa:cg[i]? =some f):nF vars acc (ps.drop i) (cg.drop i)=(fS (!(varOf vars n).isSome&& !(mU n acc).isSome) n 9).bind fun _=>nF vars (acc++[(n,f.kind)]) (ps.drop (i+1)) (cg.drop (i+1)):=by
 rw[eN U,eN aa]
 rfl
theorem aw7 {vars:List bJ}{acc:List (bw×Int)}{cg:List Fd}:nF vars acc [] cg= .ok acc:=by cases cg<;>rfl
theorem aW0 (x:cQ) (g:di) (bO:Int) (h:bS) (ahead:List bS) (ad:x.vars.length≤1000000000000) (bG:g.decls.length≤1000000000000) (ac:g.dl.length≤1000000000000) (he:g.cD.length≤1000000000000) (ZQ:ahead.length≤1000000000000) (rP:h.ps.length≤1000000000) (hb:ai.ch h.body≤1000000) (bo:jt h.body=true):
  bg bb4 86 [.ptr 0 0,.agg (bS.row h),.aq 4 (ahead.map bS.row)] (jI ⟨x,g,bO,none⟩) (RK oz ⟨x,g,bO,none⟩ (mo ⟨x,g,bO,none⟩ ahead h)):=by
 obtain⟨R,ag⟩: ∃R,R=mo ⟨x,g,bO,none⟩ ahead h:=⟨_,rfl⟩
 rw[←ag]
 simp only[mo]at ag
 have ap:=Ht x g bO h.da h.peer true bG ac he
 have ay:=aW2 (T:=84) (cs:=bS.row h) al3 (by simp only[fo,dw,I.du,dn,ai.cx,bc0]) (by rfl) (fun o=>decide (o.da=h.da)&&decide (o.peer=h.peer)) ahead ZQ fun o _=>aS9 h o
 have b1:=fun m=>aT0 ⟨x,g,bO,some m⟩ ad 1000000 h.body hb (by omega) bo
 have dC:=fun m n=>Hu ⟨x,g,bO,some m⟩ n ad
 generalize (ahead.any fun o=>decide (o.da=h.da)&&decide (o.peer=h.peer))=He at ay ag
 obtain⟨da,peer,hp,body⟩:=h
 simp only at rP hb bo
 simp(disch:=omega)only[go_sem,simprocAttr]at ay
 unfold jI
 refine bg.intro be Tryz.func86 W9 ?_
 unfold tz Sd
 simp(disch:=omega)only[go_sem,simprocAttr]
 refine ak ?_
 refine D.kN Mh ap ag fun d U ag=> ?_
 simp only at ag
 rw[show decide (hp.length=d.fields.length)=decide (((hp.map cf).length:Int)=((d.fields.map Fd.row).length:Int)) from decide_eq_decide.2 (by simp only[bb5]; omega)]at ag
 refine ak ?_
 refine D.C7 ⟨[1],[]⟩ ay ?_
 refine ak ?_
 refine D.hO ag fun aa ag=> ?_
 refine ak ?_
 refine D.M ag fun aD ag=> ?_
 have hlen:hp.length=d.fields.length:=by
  simp only[decide_eq_true_eq,bb5]at aD; omega
 refine ak ?_
 refine D.mk ?_
 refine ak ?_
 have a27:d.row=[.str d.name,.aq 4 (d.fields.map Fd.row),.int .i64 d.first,.aq 3 (d.fa.map eX),.aq 2 (d.eqs.map fi)]:=rfl
 refine ar.cU (X:=Nat×List (bw×Int)) (0,[]) (fun q=>[(0,.ptr 0 0),(4,.ptr 1 0),(6,.ptr 2 0),(43,.aq 1 (hp.map cf)),(44,.int .i64 ((hp.map cf).length:Int)),(45,.int .i64 (q.1:Int))]) (fun q=>[(0,186,eM ⟨x,g,bO,some q.2⟩),(1,84,[.str da,.str peer,.aq 1 (hp.map cf),.aq 11 (body.map ai.row)]),(2,72,[.str d.name,.aq 4 (d.fields.map Fd.row),.int .i64 d.first,.aq 3 (d.fa.map eX),.aq 2 (d.eqs.map fi)])]) (fun q=>[(0,.be 184 0 (q.2.map lg))]) (fun q=>q.1≤hp.length∧R=(nF x.vars q.2 (hp.drop q.1) (d.fields.drop q.1)).bind fun m=>j4 ⟨x,g,bO,some m⟩ body) (fun q=>hp.length-q.1) ⟨bc3 _,ag⟩ ⟨rfl,rfl,rfl,rfl,rfl,rfl,trivial⟩ ⟨rfl,rfl,rfl,trivial⟩ ⟨rfl,trivial⟩ ?_
 clear ag
 rintro⟨i,acc⟩ ⟨af,ag⟩
 try simp only at af ag ⊢
 cases hw:hp[i]? with
 |none=>
  have b4:=List.getElem?_eq_none_iff.1 hw
  have d1: ¬(i:Int)<((hp.map cf).length:Int):=by rw[bb5]; omega
  rw[bc6 b4,aw7]at ag
  simp only[dz.bind]at ag
  have b1:=b1 acc
  have ag:R=(j4 ⟨x,g,bO,some acc⟩ body).bind dz.ok:=by rw[ag,dz.ym]
  clear ap ay dC
  (have ae:=d1;refine bt ?_;clear ae)
  refine D.kN qA b1 ag fun _ U ag=> ?_
  refine ak ?_
  refine D.r ?_
  rw[ag]
  exact⟨rfl,⟨rfl,trivial⟩,trivial⟩
 |some n=>
  have cz:=(List.getElem?_eq_some_iff.1 hw).1
  have d1:(i:Int)<((hp.map cf).length:Int):=by rw[bb5]; omega
  obtain⟨f,aT⟩: ∃f,d.fields[i]? =some f:=⟨_,bd1 (by omega)⟩
  rw[aw8 hw aT,dz.bind_assoc]at ag
  have dC:=dC acc n
  simp only at dC
  generalize varOf x.vars n=o at dC ag
  clear ap ay b1
  cases o with
  |some v=>
   have ag:R=(fS false n 9).bind fun _=>R:=by
    rw[ag]
    rfl
   (have ae:=d1;refine bt ?_;clear ae)
   refine D.sg tG dC ?_
   refine ak ?_
   refine D.vM (m:=acc) ?_
   refine ak ?_
   refine D.M (R:=R) (b:=false) (s:=n) (e:=9) (F:=fun _=>R) ag fun h=>nomatch h
  |none=>
  cases hm:mU n acc with
  |some z=>
   have ag:R=(fS false n 9).bind fun _=>R:=by
    rw[ag,hm]
    rfl
   (have ae:=d1;refine bt ?_;clear ae)
   refine D.sg tG dC ?_
   refine ak ?_
   refine D.vM (m:=acc) ?_
   simp only[hm,bi3,bh1]
   refine ak ?_
   refine D.M (R:=R) (b:=false) (s:=n) (e:=9) (F:=fun _=>R) ag fun h=>nomatch h
  |none=>
   have ag:R=(nF x.vars (acc++[(n,f.kind)]) (hp.drop (i+1)) (d.fields.drop (i+1))).bind fun m=>j4 ⟨x,g,bO,some m⟩ body:=by
    rw[ag,hm]
    rfl
   (have ae:=d1;refine bt ?_;clear ae)
   refine D.sg tG dC ?_
   refine ak ?_
   refine D.vM (m:=acc) ?_
   simp only[hm,bg9,bh7]
   refine ak ?_
   refine D.M (R:=R) (b:=true) (s:=n) (e:=9) (F:=fun _=>R) rfl fun _ _=> ?_
   refine ak ?_
   refine D.mp (m:=acc) hm ?_
   refine ak ?_
   refine ar.hz (i+1,acc++[(n,f.kind)]) ⟨by omega,ag⟩ ⟨rfl,rfl,rfl,rfl,rfl,by simp only[bb8]; rfl,trivial⟩ ⟨rfl,rfl,rfl,trivial⟩ ⟨rfl,trivial⟩ (by show hp.length-(i+1)<hp.length-i; omega)
theorem Uj {aV:ef}{da:bw}{l:List au}{cg:List Fd}{i:Nat}{x:au}{f:Fd}(U:l[i]? =some x) (aa:cg[i]? =some f):lq aV da (l.drop i) (cg.drop i)=(kd aV x).bind fun k=>(fS (decide (k=f.kind)) da 11).bind fun _=>lq aV da (l.drop (i+1)) (cg.drop (i+1)):=by
 rw[eN U,eN aa]
 rfl
theorem Ui {aV:ef}{da:bw}{cg:List Fd}:lq aV da [] cg= .ok ():=by cases cg<;>rfl
theorem aZ4 {aV:ef}{l:List au}{i:Nat}{x:au}(U:l[i]? =some x):ni aV (l.drop i)=(kd aV x).bind fun k=>(fS (decide (k=1)) [119,104,101,114,101] 11).bind fun _=>ni aV (l.drop (i+1)):=by
 rw[eN U]
 rfl
theorem aW1 (x:cQ) (g:di) (bO:Int) (o:cn) (ad:x.vars.length≤1000000000000) (bG:g.decls.length≤1000000000000) (ac:g.dl.length≤1000000000000) (he:g.cD.length≤1000000000000) (aS:au.ch o.args≤1000000) (hw:au.ch o.eb≤1000000) (iI:mm o.args=true) (pV:mm o.eb=true):
  bg bb4 87 [.ptr 0 0,.agg (cn.row o)] (jI ⟨x,g,bO,none⟩) (RK oz ⟨x,g,bO,none⟩ (n7 ⟨x,g,bO,none⟩ o)):=by
 obtain⟨R,ag⟩: ∃R,R=n7 ⟨x,g,bO,none⟩ o:=⟨_,rfl⟩
 rw[←ag]
 simp only[n7]at ag
 have ap:=Ht x g bO o.da o.peer false bG ac he
 have ay:=Hv ⟨x,g,bO,none⟩ ad 1000000
 obtain⟨da,peer,args,eb⟩:=o
 simp only at aS hw iI pV
 have rV:args.length≤1000000:=by have:=au.ic args; omega
 have lw:eb.length≤1000000:=by have:=au.ic eb; omega
 unfold jI
 refine bg.intro be Tryz.func87 Xa ?_
 unfold tA Se
 simp(disch:=omega)only[go_sem,simprocAttr]
 refine ak ?_
 refine D.kN Mh ap ag fun d U ag=> ?_
 clear ap U
 simp only at ag
 rw[show decide (args.length=d.fields.length)=decide (((args.map au.row).length:Int)=((d.fields.map Fd.row).length:Int)) from decide_eq_decide.2 (by simp only[bb5]; omega)]at ag
 refine ak ?_
 refine D.M ag fun aD ag=> ?_
 have hlen:args.length=d.fields.length:=by
  simp only[decide_eq_true_eq,bb5]at aD; omega
 clear aD
 refine ak ?_
 refine ar.cU (X:=Nat) 0 (fun i=>[(0,.ptr 0 0),(3,.ptr 1 0),(4,.ptr 2 0),(26,.aq 6 (args.map au.row)),(27,.int .i64 ((args.map au.row).length:Int)),(28,.int .i64 (i:Int))]) (fun _=>[(0,186,eM ⟨x,g,bO,none⟩),(1,148,[.str da,.str peer,.aq 6 (args.map au.row),.aq 6 (eb.map au.row)]),(2,72,[.str d.name,.aq 4 (d.fields.map Fd.row),.int .i64 d.first,.aq 3 (d.fa.map eX),.aq 2 (d.eqs.map fi)])]) (fun _=>[]) (fun i=>i≤args.length∧R=(lq ⟨x,g,bO,none⟩ da (args.drop i) (d.fields.drop i)).bind fun _=>ni ⟨x,g,bO,none⟩ eb) (fun i=>args.length-i) ⟨bc3 _,ag⟩ ⟨rfl,rfl,rfl,rfl,rfl,rfl,trivial⟩ ⟨rfl,rfl,rfl,trivial⟩ trivial ?_
 clear ag
 rintro i ⟨af,ag⟩
 try simp only at af ag ⊢
 cases aw:args[i]? with
 |some y=>
  have cz:=(List.getElem?_eq_some_iff.1 aw).1
  have d1:(i:Int)<((args.map au.row).length:Int):=by rw[bb5]; omega
  obtain⟨f,aT⟩: ∃f,d.fields[i]? =some f:=⟨_,bd1 (by omega)⟩
  rw[Uj aw aT,dz.bind_assoc]at ag
  simp only[dz.bind_assoc]at ag
  have ky:=ay y (by have:=au.lI aw; omega) (by omega) (yO iI aw)
  obtain⟨q5,Au,wo,tb,wq,At⟩:=y
  simp(disch:=omega)only[go_sem,simprocAttr]at ky
  (have ae:=d1;refine bt ?_;clear ae)
  refine D.x8 0 pT ky ag (fun q U ag=> ?_) ?_
  all_goals clear aw
  ·refine ak ?_
   refine D.hO ag fun U ag=> ?_
   refine ak ?_
   refine ar.hz (i+1) ⟨by omega,ag⟩ ⟨rfl,rfl,rfl,rfl,rfl,by simp only[bb8]; rfl,trivial⟩ ⟨rfl,rfl,rfl,trivial⟩ trivial (by show args.length-(i+1)<args.length-i; omega)
  ·refine ak ?_
   refine D.C4 (.c3 []) 0 0 ?_
   refine ak ?_
   exact yJ
 |none=>
 have b4:=List.getElem?_eq_none_iff.1 aw
 have bN:i=args.length:=by omega
 subst bN
 have d1: ¬(args.length:Int)<((args.map au.row).length:Int):=by rw[bb5]; omega
 rw[bc6 (bc1 _),Ui]at ag
 simp only[dz.bind]at ag
 clear aw b4 af
 (have ae:=d1;refine bt ?_;clear ae)
 refine ar.cU (X:=Nat) 0 (fun i=>[(0,.ptr 0 0),(49,.aq 6 (eb.map au.row)),(50,.int .i64 ((eb.map au.row).length:Int)),(51,.int .i64 (i:Int))]) (fun _=>[(0,186,eM ⟨x,g,bO,none⟩)]) (fun _=>[]) (fun i=>i≤eb.length∧R=ni ⟨x,g,bO,none⟩ (eb.drop i)) (fun i=>eb.length-i) ⟨bc3 _,ag⟩ ⟨rfl,rfl,rfl,rfl,trivial⟩ ⟨rfl,trivial⟩ trivial ?_
 clear ag
 rintro i ⟨af,ag⟩
 try simp only at af ag ⊢
 cases aw:eb[i]? with
 |some y=>
  have cz:=(List.getElem?_eq_some_iff.1 aw).1
  have d2:(i:Int)<((eb.map au.row).length:Int):=by rw[bb5]; omega
  rw[aZ4 aw]at ag
  have ky:=ay y (by have:=au.lI aw; omega) (by omega) (yO pV aw)
  obtain⟨q5,Au,wo,tb,wq,At⟩:=y
  simp(disch:=omega)only[go_sem,simprocAttr]at ky
  (have ae:=d2;refine bt ?_;clear ae)
  refine D.kN pT ky ag fun q U ag=> ?_
  refine ak ?_
  refine D.M ag fun U ag=> ?_
  refine ak ?_
  refine ar.hz (i+1) ⟨by omega,ag⟩ ⟨rfl,rfl,rfl,by simp only[bb8]; rfl,trivial⟩ ⟨rfl,trivial⟩ trivial (by show eb.length-(i+1)<eb.length-i; omega)
 |none=>
  have b4:=List.getElem?_eq_none_iff.1 aw
  have d2: ¬(i:Int)<((eb.map au.row).length:Int):=by rw[bb5]; omega
  rw[bc6 b4]at ag
  (have ae:=d2;refine bt ?_;clear ae)
  refine D.r ?_
  rw[ag]
  exact⟨rfl,⟨rfl,trivial⟩,trivial⟩
end
section
attribute [local go_sem] bJ.row dW fo dF gv of_flat cf dn hE gz gy hB fK fZ e9 dM Fd.row eX fi df.row fc.row cj.row eM sU kH ij jl nJ au.cO ai.cO au.cx ai.cx au.dd ai.dd ui
attribute [local go_sem] oz sz sA bi3 bg9 bh1 bh7 FW Ew FR io
theorem Ty (l:List bJ) (i:Nat):eY ((l.map bJ.row).take i)=true:=by rw[←bj3]; exact dW _
theorem MX (l:List bS) (i:Nat):eY ((l.map bS.row).take i)=true:=by rw[←bj3]; exact dF _
attribute [local go_sem] Ty MX
theorem aW6 {l:List bJ}{i:Nat}{v:bJ}(h:l[i]? =some v):nh (l.take i) (l.drop i)=(fS (!(l.take i).any fun w=>decide (w.name=v.name)) v.name 9).bind fun _=>(fS (nI v.fB v.b3 v.af&&ve v) v.name 11).bind fun _=>nh (l.take (i+1)) (l.drop (i+1)):=by
 rw[eN h,bf5,h]
 rfl
theorem aV9 (x:cQ) (g:di) (bO:Int) (ad:x.vars.length≤1000000000000):bg bb4 85 [.ptr 0 0] (jI ⟨x,g,bO,none⟩) (RK oz ⟨x,g,bO,none⟩ (nh [] x.vars)):=by
 obtain⟨R,ag⟩: ∃R,R=nh [] x.vars:=⟨_,rfl⟩
 rw[←ag]
 unfold jI
 refine bg.intro be Tryz.func85 W8 ?_
 unfold ox Sc
 simp(disch:=omega)only[go_sem,simprocAttr]
 refine ak ?_
 refine ar.cU (X:=Nat) 0 (fun i=>[(0,.ptr 0 0),(9,.aq 7 (x.vars.map bJ.row)),(10,.int .i64 ((x.vars.map bJ.row).length:Int)),(11,.int .i64 (i:Int))]) (fun _=>[(0,186,eM ⟨x,g,bO,none⟩)]) (fun _=>[]) (fun i=>i≤x.vars.length∧R=nh (x.vars.take i) (x.vars.drop i)) (fun i=>x.vars.length-i) ⟨bc3 _,ag⟩ ⟨rfl,rfl,rfl,rfl,trivial⟩ ⟨rfl,trivial⟩ trivial ?_
 clear ag
 rintro i ⟨af,ag⟩
 try simp only at af ag ⊢
 cases aw:x.vars[i]? with
 |none=>
  have b4:=List.getElem?_eq_none_iff.1 aw
  have d1: ¬(i:Int)<((x.vars.map bJ.row).length:Int):=by rw[bb5]; omega
  rw[bc6 b4]at ag
  (have ae:=d1;refine bt ?_;clear ae)
  refine D.r ?_
  rw[ag]
  exact⟨rfl,⟨rfl,trivial⟩,trivial⟩
 |some v=>
  have cz:=(List.getElem?_eq_some_iff.1 aw).1
  have d1:(i:Int)<((x.vars.map bJ.row).length:Int):=by rw[bb5]; omega
  rw[aW6 aw]at ag
  have ap:=aS8 (T:=146) (cs:=bJ.row v) al2 rfl rfl (fun w=>decide (w.name=v.name)) (x.vars.take i) (by rw[be9]; omega) fun w _=>aS7 w v
  have ay:=Tp v.fB v.b3 v.af
  have b1:=aS1 v
  rw[bj3]at ap
  generalize ((x.vars.take i).any fun w=>decide (w.name=v.name))=He at ap ag
  generalize nI v.fB v.b3 v.af=e5 at ay ag
  generalize ve v=il at b1 ag
  (have ae:=d1;refine bt ?_;clear ae)
  (apply al.uw (i);(·simp(disch:=omega)only[go_sem,simprocAttr]<;>with_reducible rfl);(·simp(disch:=omega)only[go_sem,simprocAttr]<;>with_reducible rfl);(·omega);(·(try simp only[bb5]);omega))
  refine ak ?_
  refine D.C7 ⟨[1],[]⟩ ap ?_
  refine ak ?_
  refine D.hO ag fun U ag=> ?_
  cases e5 with
  |false=>
   simp only[bc5]at ag
   refine ar.gC (anns:=[.bool false,.undef]) ?_
   refine b0 ?_
   refine D.ei (ay) ?_
   refine b0 ?_
   refine D.hO ag fun U ag=> ?_
   cases U
  |true=>
   simp only[bc7]at ag
   refine ar.gC (anns:=[.bool true,.bool il]) ?_
   refine b0 ?_
   refine D.ei (ay) ?_
   refine b0 ?_
   refine D.ei (b1) ?_
   refine b0 ?_
   refine D.hO ag fun U ag=> ?_
   refine ak ?_
   refine ar.hz (i+1) ⟨by omega,ag⟩ ⟨rfl,rfl,rfl,by simp only[bb8]; rfl,trivial⟩ ⟨rfl,trivial⟩ trivial (by show x.vars.length-(i+1)<x.vars.length-i; omega)
theorem Hw (x:cQ) (g:di) (ac:g.dl.length≤1000000000000):Pure bb4 33 [x.eL,g.eL] (.c3 [.int .i64 (max (ht g.dl x.bO) 0),.bool (decide (0≤ht g.dl x.bO))]):=by
 have ay:Pure bb4 93 [.aq 1 (g.dl.map cf),.str x.bO] (.int .i64 (ht g.dl x.bO)):=Gl g.dl x.bO (by unfold maxLen; omega)
 generalize ht g.dl x.bO=z at ay ⊢
 rw[oa]
 simp only[di.eL,di.cells]
 refine cw be Tryz.func33 WE (by simp only[b2,I.flat,dW,dF,of_flat,dn,e9,fK,fZ,bc0]) rfl ?_
 unfold kY RM
 simp(disch:=omega)only[go_sem,simprocAttr]
 refine ak ?_
 refine D.P (ay) ?_
 refine ak ?_
 exact D.rx
end
section
attribute [local go_sem] bJ.row dW fo dF gv of_flat cf dn hE gz gy hB fK fZ e9 dM Fd.row eX fi df.row fc.row cj.row eM sU kH ij jl nJ au.cO ai.cO au.cx ai.cx au.dd ai.dd ui
attribute [local go_sem] oz sz sA bi3 bg9 bh1 bh7 FW Ew FR io Ty MX
section
variable {cY:Program}{anns:List I}{l:List bK}{env:Env}{K:Env→aN→Prop}{Rp:I→aN→Prop}{f:FuncId}{args:List aJ}{dS:List I}{α β:Type}{g:α→I}{oW:dz α}{R:dz β}{d:Nat}{c:aN}{others:List Nat}
theorem D.HS {b:Bool}{s:bw}{e:Int}{F:Unit→dz β}{l:List bK}{env:Env}{args:List aJ}(ag:R=(fS b s e).bind F) (hp:R= .err s e→Rp (lQ s e) (c.kk ⟨[],[]⟩ [] [])) (av:b=true→R=F ()→al bb4 anns l ((d,.c3 [])::env) c K Rp)
  (aS:args.map (bl env)=[.bool b,.str s,.int .i64 e]:=by simp (disch:=omega) only[go_sem,simprocAttr]<;>with_reducible rfl):
  al bb4 anns (⟨some d,none,.call 84 args⟩::l) env c K Rp:=by
 cases b with
 |true=>exact al.Gb (Hz s e) aS rfl rfl rfl (av rfl (by rw[ag]; rfl))
 |false=>
  refine al.yv rfl (bg.vg (c:=c) ⟨[],[]⟩ (Hy s e) rfl rfl rfl trivial trivial rfl rfl rfl rfl) (by rw[aS]; rfl) (fun v c1 q=> ?_) (fun v c1 q=> ?_)
  ·cases q.1
  ·obtain⟨ci,cM⟩:=q
   cases ci
   subst cM
   exact hp (by rw[ag]; rfl)
theorem D.TX {aQ:List bf}{cL t0:Nat}{k:List fs}{Q:Out→aN→Prop}{gT dv:Nat}{cq:eJ}{cH:eK}(s:bx){fP:eJ}{fY:eK}{n q:Nat}{x:I}(h:bg cY f dS (aN.of n q fP fY) (rj x)) (av:Q (.ey x) ((aN.of gT dv cq cH).kk s [] []))
  (an:(s.b.length==n&&(s.t.length==q&&(nodupB s.b&&(nodupB s.t&&(s.b.all (fun x=>bf8 x gT)&&(s.t.all (fun x=>bf8 x dv)&&(dw n q dS&&(eA n q fP&&(eB n q fY&&x.du n q)))))))))=true:=by simp (disch:=omega) only[go_sem,simprocAttr]<;>rfl) (dD:nw (aN.of gT dv cq cH).H.aY s fP:=by repeat first|exact trivial|refine⟨rfl,?_⟩) (c4:nx (aN.of gT dv cq cH).H.tok s fY:=by repeat first|exact trivial|refine⟨rfl,?_⟩) (aS:args.map (bl env)=e7 s dS:=by simp (disch:=omega) only[go_sem,simprocAttr]<;>rfl) (ac:x.eP s=x:=by rfl):
  al cY [] [⟨some d,none,.gP [] f args⟩] env (aN.of gT dv cq cH) (fun e c1=>ar cY aQ cL t0 k Q e c1) (fun v c1=>Q (.ey v) c1):=by
 simp only[bb6,beq_iff_eq]at an
 obtain⟨c1,cb,eW,gE,ls,me,nP,o3,mK,mc⟩:=an
 have cR:bg cY f (args.map (bl env)) (aN.of gT dv cq cH) (fun o cJ=>o= .ey x∧cJ=(aN.of gT dv cq cH).kk s [] []):=by
  rw[aS]
  exact bg.vg s h c1 cb (by rw[eW,gE]; simp only[show (aN.of gT dv cq cH).bP=gT from rfl,show (aN.of gT dv cq cH).bh=dv from rfl,ls,me]; rfl) dD c4 (by rw[nP,o3,mK]; rfl) mc ac rfl
 refine al.p5 (S:=fun bD cJ=>bD= .c3 []∧cJ=(aN.of gT dv cq cH).gO (.bY 0 0 0)) rfl rfl (h7.mono (h7.DF (others:=[]) cR rfl rfl rfl fun s ao=>by cases ao) (fun _ _ h=>h) fun v cJ q=> ?_) fun bD cJ q=> ?_
 ·rw[q.1,q.2]
  exact av
 ·rw[q.1,q.2,zF]
  exact al.nil yJ
end
theorem ZY {aV:ef}{l:List bS}{i:Nat}{h:bS}(a6:l[i]? =some h):oE aV (l.take i) (l.drop i)=(mo aV (l.take i) h).bind fun _=>oE aV (l.take (i+1)) (l.drop (i+1)):=by
 rw[eN a6,bf5,a6]
 rfl
theorem au0 {aV:ef}{l:List cn}{i:Nat}{o:cn}(a6:l[i]? =some o):oK aV (l.drop i)=(n7 aV o).bind fun _=>oK aV (l.drop (i+1)):=by
 rw[eN a6]
 rfl
def tr (q:bw×Int):I:= .c3 [.str q.1,.int .i64 q.2]
theorem aU4 (x:cQ) (g:di) (hb:oX x) (bG:g.decls.length≤1000000000) (ac:g.dl.length≤1000000000) (he:g.cD.length≤1000000000) (wV:Pure bb4 82 [g.eL] (.bool (uH g))):Pure bb4 31 [x.eL,g.eL] (tr (j9 x g)):=by
 have D6:=aA8 x hb
 have kY:=Hw x g (by omega)
 obtain⟨S,j1⟩: ∃S,S=j9 x g:=⟨_,rfl⟩
 rw[←j1]
 have lZ:=hb.lZ
 have lY:=hb.lY
 have no:=hb.no
 rw[oa]at D6 kY ⊢
 simp only[di.eL,di.cells]at wV kY ⊢
 refine cw be Tryz.func31 WB (by simp only[b2,I.flat,dW,dF,of_flat,dn,e9,fK,fZ,bc0]) rfl ?_
 unfold kX RI
 simp(disch:=omega)only[go_sem,simprocAttr]
 refine ak ?_
 refine D.P (D6) ?_
 cases iI:n0 x with
 |false=>
  refine ak ?_
  refine D.r ?_
  rw[j1]
  simp only[j9,iI,bc5]
  exact⟨_,rfl,.aF rfl rfl,trivial,trivial⟩
 |true=>
 refine ak ?_
 refine D.P (wV) ?_
 cases pV:uH g with
 |false=>
  refine ak ?_
  refine D.r ?_
  rw[j1]
  simp only[j9,iI,pV,bd7]
  exact⟨_,rfl,.aF rfl rfl,trivial,trivial⟩
 |true=>
 obtain⟨R,ag⟩: ∃R,R=p6 x g:=⟨_,rfl⟩
 have yQ:R= .ok ()→S=([],0):=fun h=>by
  rw[j1]
  simp only[j9,iI,pV,←ag,h]
  rfl
 have yR: ∀n e,R= .err n e→S=(n,e):=fun n e h=>by
  rw[j1]
  simp only[j9,iI,pV,←ag,h]
  rfl
 clear j1 wV D6
 simp only[p6]at ag
 have xc:pL x=true:=by simp only[n0,bb6]at iI; exact iI.2.1
 simp only[pL,bb6,List.all_eq_true]at xc
 obtain⟨_,Mv,go⟩:=xc
 have ox:=aV9 x g (max (ht g.dl x.bO) 0) (by omega)
 have tz: ∀(h:bS),h∈x.ao→∀i,bg bb4 86 [.ptr 0 0,.agg (bS.row h),.aq 4 ((x.ao.map bS.row).take i)] (jI ⟨x,g,max (ht g.dl x.bO) 0,none⟩) (RK oz ⟨x,g,max (ht g.dl x.bO) 0,none⟩ (mo ⟨x,g,max (ht g.dl x.bO) 0,none⟩ (x.ao.take i) h)):=fun h hm i=>by
  have bu:=Mv h hm
  simp only[lR,bb6,decide_eq_true_eq]at bu
  have:=aW0 x g (max (ht g.dl x.bO) 0) h (x.ao.take i) (by omega) (by omega) (by omega) (by omega) (by rw[be9]; omega) (by have:=hb.hp h hm; omega) (by have:=hb.aS h hm; omega) (by rw[w4]; exact bu.2.2.2.2.1)
  rwa [bj3]at this
 have tA: ∀(o:cn),o∈x.os→bg bb4 87 [.ptr 0 0,.agg (cn.row o)] (jI ⟨x,g,max (ht g.dl x.bO) 0,none⟩) (RK oz ⟨x,g,max (ht g.dl x.bO) 0,none⟩ (n7 ⟨x,g,max (ht g.dl x.bO) 0,none⟩ o)):=fun o hm=>by
  have bu:=go o hm
  simp only[mn,bb6,decide_eq_true_eq,List.all_append]at bu
  obtain⟨_,_,_,_,⟨ci,cM⟩,_⟩:=bu
  exact aW1 x g (max (ht g.dl x.bO) 0) o (by omega) (by omega) (by omega) (by omega) (by have:=hb.qT o hm; omega) (by have:=hb.qT o hm; omega) (by rw[yN]; exact ci) (by rw[yN]; exact cM)
 clear Mv go iI pV
 generalize ht g.dl x.bO=z at kY ag ox tz tA
 generalize max z 0=bO at kY ag ox tz tA
 refine ak ?_
 refine ar.Ym (cap:=[.t 4,.t 5]) (Qp:=fun cN c1=> ∃n e,R= .err n e∧cN=lQ n e∧c1.H.aY 2=some (9,[.str []])∧c1.H.aY 3=some (41,[.int .i64 0])) (kt:=[(4,.ptr 2 0),(5,.ptr 3 0)]) ?_ ?_ ?_ ?_ (fun gx h=>XO gx h) rfl ?_ ?_
 ·intro q bu
  simp only[be4,bh8,or_false]at bu
  rcases bu with rfl|rfl<;>rfl
 ·intro q bu
  simp only[be4,bh8,or_false]at bu
  rcases bu with rfl|rfl<;>decide
 ·intro q bu
  simp only[be4,bh8,or_false]at bu
  rcases bu with rfl|rfl<;>rfl
 ·kernel_rfl
 ·rintro cN c1 ⟨n,e,U,rfl,aa,aD⟩
  refine wv.mono (XP (by decide) aa aD) ?_
  rintro cb rfl
  rw[yR n e U]
  refine⟨.c3 [.str n,.int .i64 e],?_,⟨_,rfl,.aF rfl rfl,trivial,trivial⟩⟩
  simp [ov,tu,tv,Env.get,aN.cp,aA.cp,ou]
  rfl
 simp(disch:=omega)only[go_sem,simprocAttr]
 refine ak ?_
 refine D.HS ag (fun h=>⟨_,_,h,rfl,by rw[mV]; rfl,by rw[mV]; rfl⟩) fun U ag=> ?_
 refine ak ?_
 refine D.P (kY) ?_
 refine ak ?_
 refine D.HS ag (fun h=>⟨_,_,h,rfl,by rw[mV]; rfl,by rw[mV]; rfl⟩) fun aa ag=> ?_
 refine ak ?_
 cases aD:nh [] x.vars with
 |err n e=>
  rw[aD]at ox ag
  have ox:bg bb4 85 [.ptr 0 0] (aN.of 1 0 [(0,186,eM ⟨x,g,bO,none⟩)] []) (rj (lQ n e)):=ox
  exact D.HN ⟨[4],[]⟩ ox ⟨n,e,ag,rfl,by rw[mV]; rfl,by rw[mV]; rfl⟩
 |ok u=>
 rw[aD]at ox ag
 have ox:bg bb4 85 [.ptr 0 0] (aN.of 1 0 [(0,186,eM ⟨x,g,bO,none⟩)] []) (dA (.c3 []) [(0,186,eM ⟨x,g,bO,none⟩)] []):=ox
 simp only[dz.bind]at ag
 refine D.F ⟨[4],[]⟩ (ox) ?_
 clear ox kY U aa aD
 refine ak ?_
 refine ar.cU (X:=Nat) 0 (fun i=>[(2,.ptr 0 0),(3,.ptr 1 0),(4,.ptr 2 0),(5,.ptr 3 0),(8,.ptr 4 0),(48,.aq 4 (x.ao.map bS.row)),(49,.int .i64 ((x.ao.map bS.row).length:Int)),(50,.int .i64 (i:Int))]) (fun _=>[(0,48,[.str x.name,.str x.bO,.str x.fM,.aq 7 (x.vars.map bJ.row),.aq 4 (x.ao.map bS.row),.aq 4 (x.os.map cn.row)]),(1,32,g.cells),(2,9,[.str []]),(3,41,[.int .i64 0]),(4,186,eM ⟨x,g,bO,none⟩)]) (fun _=>[]) (fun i=>i≤x.ao.length∧R=(oE ⟨x,g,bO,none⟩ (x.ao.take i) (x.ao.drop i)).bind fun _=>oK ⟨x,g,bO,none⟩ x.os) (fun i=>x.ao.length-i) ⟨bc3 _,ag⟩ ⟨rfl,rfl,rfl,rfl,rfl,rfl,rfl,rfl,trivial⟩ ⟨rfl,rfl,rfl,rfl,rfl,trivial⟩ trivial ?_
 clear ag
 rintro i ⟨af,ag⟩
 try simp only at af ag ⊢
 cases aw:x.ao[i]? with
 |some h=>
  have cz:=(List.getElem?_eq_some_iff.1 aw).1
  have d1:(i:Int)<((x.ao.map bS.row).length:Int):=by rw[bb5]; omega
  have tC:=tz h (bc2 aw) i
  rw[ZY aw]at ag
  clear tz tA
  simp only[di.cells]
  (have ae:=d1;refine bt ?_;clear ae)
  (apply al.uw (i);(·simp(disch:=omega)only[go_sem,simprocAttr]<;>with_reducible rfl);(·simp(disch:=omega)only[go_sem,simprocAttr]<;>with_reducible rfl);(·omega);(·(try simp only[bb5]);omega))
  refine ak ?_
  cases a6:mo ⟨x,g,bO,none⟩ (x.ao.take i) h with
  |err n e=>
   rw[a6]at tC ag
   have tC:bg bb4 86 [.ptr 0 0,.agg (bS.row h),.aq 4 ((x.ao.map bS.row).take i)] (aN.of 1 0 [(0,186,eM ⟨x,g,bO,none⟩)] []) (rj (lQ n e)):=tC
   exact D.TX ⟨[4],[]⟩ tC ⟨n,e,ag,rfl,by rw[mV]; rfl,by rw[mV]; rfl⟩
  |ok u=>
   rw[a6]at tC ag
   have tC:bg bb4 86 [.ptr 0 0,.agg (bS.row h),.aq 4 ((x.ao.map bS.row).take i)] (aN.of 1 0 [(0,186,eM ⟨x,g,bO,none⟩)] []) (dA (.c3 []) [(0,186,eM ⟨x,g,bO,none⟩)] []):=tC
   refine D.C7 ⟨[4],[]⟩ tC ?_
   refine ak ?_
   refine ar.hz (i+1) ⟨by omega,ag⟩ ⟨rfl,rfl,rfl,rfl,rfl,rfl,rfl,by simp only[bb8]; rfl,trivial⟩ ⟨rfl,rfl,rfl,rfl,rfl,trivial⟩ trivial (by show x.ao.length-(i+1)<x.ao.length-i; omega)
 |none=>
 have b4:=List.getElem?_eq_none_iff.1 aw
 have d1: ¬(i:Int)<((x.ao.map bS.row).length:Int):=by rw[bb5]; omega
 rw[bc6 b4]at ag
 simp only[oE,dz.bind]at ag
 simp only[di.cells]
 (have ae:=d1;refine bt ?_;clear ae)
 clear d1 b4 af aw tz
 refine ar.cU (X:=Nat) 0 (fun i=>[(2,.ptr 0 0),(3,.ptr 1 0),(4,.ptr 2 0),(5,.ptr 3 0),(8,.ptr 4 0),(64,.aq 4 (x.os.map cn.row)),(65,.int .i64 ((x.os.map cn.row).length:Int)),(66,.int .i64 (i:Int))]) (fun _=>[(0,48,[.str x.name,.str x.bO,.str x.fM,.aq 7 (x.vars.map bJ.row),.aq 4 (x.ao.map bS.row),.aq 4 (x.os.map cn.row)]),(1,32,g.cells),(2,9,[.str []]),(3,41,[.int .i64 0]),(4,186,eM ⟨x,g,bO,none⟩)]) (fun _=>[]) (fun i=>i≤x.os.length∧R=oK ⟨x,g,bO,none⟩ (x.os.drop i)) (fun i=>x.os.length-i) ⟨bc3 _,ag⟩ ⟨rfl,rfl,rfl,rfl,rfl,rfl,rfl,rfl,trivial⟩ ⟨rfl,rfl,rfl,rfl,rfl,trivial⟩ trivial ?_
 clear ag i
 rintro i ⟨af,ag⟩
 try simp only at af ag ⊢
 cases aw:x.os[i]? with
 |some o=>
  have cz:=(List.getElem?_eq_some_iff.1 aw).1
  have d1:(i:Int)<((x.os.map cn.row).length:Int):=by rw[bb5]; omega
  have kx:=tA o (bc2 aw)
  rw[au0 aw]at ag
  clear tA
  simp only[di.cells]
  (have ae:=d1;refine bt ?_;clear ae)
  cases a6:n7 ⟨x,g,bO,none⟩ o with
  |err n e=>
   rw[a6]at kx ag
   have kx:bg bb4 87 [.ptr 0 0,.agg (cn.row o)] (aN.of 1 0 [(0,186,eM ⟨x,g,bO,none⟩)] []) (rj (lQ n e)):=kx
   exact D.HN ⟨[4],[]⟩ kx ⟨n,e,ag,rfl,by rw[mV]; rfl,by rw[mV]; rfl⟩
  |ok u=>
   rw[a6]at kx ag
   have kx:bg bb4 87 [.ptr 0 0,.agg (cn.row o)] (aN.of 1 0 [(0,186,eM ⟨x,g,bO,none⟩)] []) (dA (.c3 []) [(0,186,eM ⟨x,g,bO,none⟩)] []):=kx
   refine D.F ⟨[4],[]⟩ (kx) ?_
   refine ak ?_
   refine ar.hz (i+1) ⟨by omega,ag⟩ ⟨rfl,rfl,rfl,rfl,rfl,rfl,rfl,by simp only[bb8]; rfl,trivial⟩ ⟨rfl,rfl,rfl,rfl,rfl,trivial⟩ trivial (by show x.os.length-(i+1)<x.os.length-i; omega)
 |none=>
  have b4:=List.getElem?_eq_none_iff.1 aw
  have d1: ¬(i:Int)<((x.os.map cn.row).length:Int):=by rw[bb5]; omega
  rw[bc6 b4]at ag
  simp only[di.cells]
  (have ae:=d1;refine bt ?_;clear ae)
  refine D.r ?_
  rw[yQ ag]
  exact⟨_,rfl,.aF rfl rfl,trivial,trivial⟩
end
section
attribute [local go_sem] cf dn hE gz gy hB fK fZ e9 dM Fd.row eX fi df.row fc.row cj.row io
theorem r1 (l:List bw) (i:Nat):eY ((l.map cf).take i)=true:=by rw[←bj3]; exact dn _
theorem ru (l:List cj) (i:Nat):eY ((l.map cj.row).take i)=true:=by rw[←bj3]; exact e9 _
theorem rB (l:List Fd) (i:Nat):eY ((l.map Fd.row).take i)=true:=by rw[←bj3]; exact gz _
attribute [local go_sem] r1 ru rB
theorem aI0 {l:List bw}{i:Nat}{x:bw}(h:l[i]? =some x):zR (l.take i) (l.drop i)=(ev x&&(!(l.take i).contains x&&zR (l.take (i+1)) (l.drop (i+1)))):=by
  rw[eN h,bf5,h]
  rfl
structure qi (g:di):Prop where
  Ox:g.dl.length≤1000000000
  FJ:g.decls.length≤1000000000
  ne:g.cD.length≤1000000000
  bh:g.jm.length≤1000000000
  nf: ∀d∈g.decls,d.fields.length≤1000000000∧d.fa.length≤1000000000∧d.eqs.length≤1000000000
theorem tL (g:di):g.cells=[.str g.name,.aq 1 (g.dl.map cf),.aq 5 (g.decls.map cj.row),.int .i64 g.jA,.int .i64 g.start,.int .i64 g.fin,.aq 6 (g.cD.map df.row),.aq 3 (g.jm.map fc.row)]:=rfl
theorem rI (g:di):g.eL= .agg [.str g.name,.aq 1 (g.dl.map cf),.aq 5 (g.decls.map cj.row),.int .i64 g.jA,.int .i64 g.start,.int .i64 g.fin,.aq 6 (g.cD.map df.row),.aq 3 (g.jm.map fc.row)]:=rfl
theorem aS2 (g:di) (hb:qi g):Pure bb4 154 [g.eL] (.bool (zA g)):=by
  have a1:=hb.Ox
  have ap:=po g.name
  obtain⟨R,ag⟩: ∃R,R=zA g:=⟨_,rfl⟩
  rw[←ag]
  simp only[zA]at ag
  rw[rI]
  refine cw be Tryz.func154 Vj (by simp only[b2,I.flat,dn,e9,fK,fZ,bc0]) rfl ?_
  unfold Kj Qo
  simp(disch:=omega)only[go_sem,simprocAttr]
  refine ak ?_
  refine D.P (ap) ?_
  generalize ev g.name=b at ag
  cases b
  ·refine ak ?_
   refine D.r ?_
   exact⟨_,rfl,.aF (by rw[ag]; rfl) rfl,trivial,trivial⟩
  have iD:((g.dl.map cf).length:Int)=(g.dl.length:Int):=by rw[bb5]
  by_cases U:1≤g.dl.length
  rotate_left
  ·have d1:(g.dl.length:Int)<1:=by omega
   (have ae:=iD;have z2:=d1;refine dQ ?_;clear ae z2)
   refine D.r ?_
   exact⟨_,rfl,.aF (by rw[ag]; simp [U,I.aF]) rfl,trivial,trivial⟩
  by_cases aa:g.dl.length≤6
  rotate_left
  ·have d1: ¬(g.dl.length:Int)<1:=by omega
   have d2:(6:Int)<(g.dl.length:Int):=by omega
   (have ae:=iD;have z2:=d1;have z3:=d2;refine ep ?_;clear ae z2 z3)
   refine D.r ?_
   exact⟨_,rfl,.aF (by rw[ag]; simp [aa,I.aF]) rfl,trivial,trivial⟩
  have d1: ¬(g.dl.length:Int)<1:=by omega
  have d2: ¬(6:Int)<(g.dl.length:Int):=by omega
  simp only[decide_eq_true U,decide_eq_true aa,bc7]at ag
  (have ae:=iD;have z2:=d1;have z3:=d2;refine ep ?_;clear ae z2 z3)
  refine ar.cU (X:=Nat) 0 (fun i=>[(1,.ptr 0 0),(22,.aq 1 (g.dl.map cf)),(23,.int .i64 (g.dl.length:Int)),(24,.int .i64 (i:Int))]) (fun _=>[(0,32,g.cells)]) (fun _=>[]) (fun i=>i≤g.dl.length∧R=zR (g.dl.take i) (g.dl.drop i)) (fun i=>g.dl.length-i) ⟨bc3 _,ag⟩ ⟨rfl,rfl,by simp only[Env.get,iD]; rfl,rfl,trivial⟩ ⟨rfl,trivial⟩ trivial ?_
  clear ag
  rintro i ⟨af,ag⟩
  try simp only at af ag ⊢
  cases aw:g.dl[i]? with
  |none=>
   have b4:=List.getElem?_eq_none_iff.1 aw
   have d3: ¬(i:Int)<(g.dl.length:Int):=by omega
   rw[bc6 b4]at ag
   simp only[tL]
   (have ae:=d3;refine bt ?_;clear ae)
   refine D.r ?_
   exact⟨_,rfl,.aF (by rw[ag]; rfl) rfl,trivial,trivial⟩
  |some x=>
   have cz:=(List.getElem?_eq_some_iff.1 aw).1
   have d3:(i:Int)<(g.dl.length:Int):=by omega
   rw[aI0 aw]at ag
   have ay:=po x
   have b1:=PL (g.dl.take i) x (by rw[be9]; unfold maxLen; omega)
   rw[bj3]at b1
   generalize ev x=e5 at ay ag
   generalize (g.dl.take i).contains x=il at b1 ag
   simp only[tL]
   (have ae:=d3;refine bt ?_;clear ae)
   refine D.P (ay) ?_
   cases e5
   ·refine ak ?_
    refine D.r ?_
    exact⟨_,rfl,.aF (by rw[ag]; rfl) rfl,trivial,trivial⟩
   refine ak ?_
   (apply al.uw (i);(·simp(disch:=omega)only[go_sem,simprocAttr]<;>with_reducible rfl);(·simp(disch:=omega)only[go_sem,simprocAttr]<;>with_reducible rfl);(·omega);(·(try simp only[bb5]);omega))
   refine ak ?_
   refine D.P (b1) ?_
   cases il
   ·refine ak ?_
    refine ar.eC (i+1) ⟨by omega,ag⟩ ⟨rfl,rfl,rfl,by simp only[bb8]; rfl,trivial⟩ ⟨rfl,trivial⟩ trivial rfl rfl (by show g.dl.length-(i+1)<g.dl.length-i; omega)
   ·refine ak ?_
    refine D.r ?_
    exact⟨_,rfl,.aF (by rw[ag]; rfl) rfl,trivial,trivial⟩
theorem aS3 (g:di) (hb:qi g):Pure bb4 155 [g.eL] (.bool (uj g)):=by
  have a1:=hb.ne
  obtain⟨R,ag⟩: ∃R,R=uj g:=⟨_,rfl⟩
  rw[←ag]
  simp only[uj]at ag
  rw[rI]
  refine cw be Tryz.func155 Vk (by simp only[b2,I.flat,dn,e9,fK,fZ,bc0]) rfl ?_
  unfold Kk Qq
  have de:((g.cD.map df.row).length:Int)=(g.cD.length:Int):=by rw[bb5]
  have q7:((g.dl.map cf).length:Int)=(g.dl.length:Int):=by rw[bb5]
  have nk:((g.decls.map cj.row).length:Int)=(g.decls.length:Int):=by rw[bb5]
  simp(disch:=omega)only[go_sem,simprocAttr]
  (repeat' first|(apply al.s rfl;(·simp(disch:=omega)only[go_sem,simprocAttr,de]<;>with_reducible rfl))|(apply ar.s true true;(·simp(disch:=omega)only[go_sem,simprocAttr,de]<;>with_reducible rfl))|apply al.nil|(refine ar.c9 ?_)|(apply al.ft;(·simp(disch:=omega)only[go_sem,simprocAttr,de]<;>with_reducible rfl))|(apply al.fu;(·rfl);(·simp(disch:=omega)only[go_sem,simprocAttr,de]<;>with_reducible rfl))|(apply al.gs;(·simp(disch:=omega)only[go_sem,simprocAttr,de]<;>with_reducible rfl))|((first|apply al.fw|apply al.fx|apply al.fy);(·simp(disch:=omega)only[go_sem,simprocAttr,de]<;>with_reducible rfl);(·simp(disch:=omega)only[go_sem,simprocAttr,de]<;>with_reducible rfl);(·assumption);(·omega))|intro h|(apply ar.cond;(·simp(disch:=omega)only[go_sem,simprocAttr,de]<;>with_reducible rfl)))
  all_goals first
    |(refine D.R ?_
      refine⟨_,rfl,.aF ?_ rfl,trivial,trivial⟩
      rw[ag]
      simp only[I.aF,I.bool.injEq,@Eq.comm Bool false,bi7,decide_eq_false_iff_not,decide_eq_true_eq]at*
      omega)
    |skip
  have c:(decide (1≤g.jA)&&(decide (g.jA≤200)&&(decide (0≤g.start)&&(decide (0≤g.fin)&&(decide (g.start<g.jA)&&(decide (g.fin<g.jA)&&decide (g.cD.length≤400)))))))=true:=by
    simp only[bb6,decide_eq_false_iff_not,decide_eq_true_eq]at*
    omega
  simp only[bb6,decide_eq_true_eq]at c
  obtain⟨c1,cb,eW,gE,ls,me,nP⟩:=c
  simp only[decide_eq_true c1,decide_eq_true cb,decide_eq_true eW,decide_eq_true gE,decide_eq_true ls,decide_eq_true me,decide_eq_true nP,bc7]at ag
  clear c1 cb eW gE ls me
  refine ar.cU (X:=Nat) 0 (fun i=>[(1,.ptr 0 0),(39,.aq 6 (g.cD.map df.row)),(40,.int .i64 ((g.cD.map df.row).length:Int)),(41,.int .i64 (i:Int))]) (fun _=>[(0,32,g.cells)]) (fun _=>[]) (fun i=>i≤g.cD.length∧R=(g.cD.drop i).all (yF g)) (fun i=>g.cD.length-i) ⟨bc3 _,ag⟩ ⟨rfl,rfl,by simp only[Env.get,de]; rfl,rfl,trivial⟩ ⟨rfl,trivial⟩ trivial ?_
  clear ag
  rintro i ⟨af,ag⟩
  try simp only at af ag ⊢
  simp only[tL,de]
  cases aw:g.cD[i]? with
  |none=>
   have b4:=List.getElem?_eq_none_iff.1 aw
   have d3: ¬(i:Int)<(g.cD.length:Int):=by omega
   rw[bc6 b4]at ag
   (have ae:=d3;refine bt ?_;clear ae)
   refine D.r ?_
   exact⟨_,rfl,.aF (by rw[ag]; rfl) rfl,trivial,trivial⟩
  |some e=>
   have cz:=(List.getElem?_eq_some_iff.1 aw).1
   have d3:(i:Int)<(g.cD.length:Int):=by omega
   rw[eN aw,bd3]at ag
   simp only[yF]at ag
   generalize lT:(g.cD.drop (i+1)).all (yF g)=rest at ag
   (repeat' first|(apply al.s rfl;(·simp(disch:=omega)only[go_sem,simprocAttr,d3,q7,nk]<;>with_reducible rfl))|(apply ar.s true true;(·simp(disch:=omega)only[go_sem,simprocAttr,d3,q7,nk]<;>with_reducible rfl))|apply al.nil|(refine ar.c9 ?_)|(apply al.ft;(·simp(disch:=omega)only[go_sem,simprocAttr,d3,q7,nk]<;>with_reducible rfl))|(apply al.fu;(·rfl);(·simp(disch:=omega)only[go_sem,simprocAttr,d3,q7,nk]<;>with_reducible rfl))|(apply al.gs;(·simp(disch:=omega)only[go_sem,simprocAttr,d3,q7,nk]<;>with_reducible rfl))|((first|apply al.fw|apply al.fx|apply al.fy);(·simp(disch:=omega)only[go_sem,simprocAttr,d3,q7,nk]<;>with_reducible rfl);(·simp(disch:=omega)only[go_sem,simprocAttr,d3,q7,nk]<;>with_reducible rfl);(·assumption);(·omega))|intro h|(apply ar.cond;(·simp(disch:=omega)only[go_sem,simprocAttr,d3,q7,nk]<;>with_reducible rfl)))
   all_goals first
     |(refine D.R ?_
       refine⟨_,rfl,.aF ?_ rfl,trivial,trivial⟩
       rw[ag]
       simp only[I.aF,I.bool.injEq,@Eq.comm Bool false,bi7,bn6,decide_eq_false_iff_not,decide_eq_true_eq]at*
       omega)
     |skip
   refine ar.hz (i+1) ⟨by omega,?_⟩ ⟨rfl,rfl,by simp only[Env.get,de]; rfl,by simp only[bb8]; rfl,trivial⟩ ⟨rfl,trivial⟩ trivial (by show g.cD.length-(i+1)<g.cD.length-i; omega)
   rw[lT,ag]
   simp only[decide_eq_false_iff_not]at*
   have c:(decide (0≤e.gG)&&(decide (0≤e.dst)&&(decide (0≤e.nq)&&(decide (0≤e.pM)&&(decide (0≤e.pK)&&(decide (e.gG<g.jA)&&(decide (e.dst<g.jA)&&(decide (e.nq<g.dl.length)&&(decide (e.pM<g.dl.length)&&(!decide (e.nq=e.pM)&&decide (e.pK<g.decls.length)))))))))))=true:=by
     simp only[bb6,bg6,decide_eq_false_iff_not,decide_eq_true_eq]
     omega
   rw[c,bc7]
end
section
attribute [local go_sem] cf dn hE gz gy hB fK fZ e9 dM Fd.row eX fi df.row fc.row cj.row io r1 ru rB
theorem aS6 (g:di) (hb:qi g):Pure bb4 158 [g.eL] (.bool (z7 g)):=by
  have a1:=hb.bh
  have he:=hb.ne
  obtain⟨R,ag⟩: ∃R,R=z7 g:=⟨_,rfl⟩
  rw[←ag]
  simp only[z7]at ag
  rw[rI]
  refine cw be Tryz.func158 Vn (by simp only[b2,I.flat,dn,e9,fK,fZ,bc0]) rfl ?_
  unfold Kn Qt
  have de:((g.cD.map df.row).length:Int)=(g.cD.length:Int):=by rw[bb5]
  have nM:((g.jm.map fc.row).length:Int)=(g.jm.length:Int):=by rw[bb5]
  simp(disch:=omega)only[go_sem,simprocAttr]
  (have ae:=nM;refine bt ?_;clear ae)
  refine ar.cU (X:=Nat×Int) (0,-1) (fun q=>[(1,.ptr 0 0),(3,.int .i64 q.2),(7,.aq 3 (g.jm.map fc.row)),(8,.int .i64 (g.jm.length:Int)),(9,.int .i64 (q.1:Int))]) (fun _=>[(0,32,g.cells)]) (fun _=>[]) (fun q=>q.1≤g.jm.length∧R=z8 g q.2 (g.jm.drop q.1)) (fun q=>g.jm.length-q.1) ⟨bc3 _,ag⟩ ⟨rfl,rfl,rfl,rfl,rfl,trivial⟩ ⟨rfl,trivial⟩ trivial ?_
  clear ag
  rintro⟨i,last⟩ ⟨af,ag⟩
  try simp only at af ag ⊢
  simp only[tL]
  cases aw:g.jm[i]? with
  |none=>
   have b4:=List.getElem?_eq_none_iff.1 aw
   have d3: ¬(i:Int)<(g.jm.length:Int):=by omega
   rw[bc6 b4]at ag
   (have ae:=d3;refine bt ?_;clear ae)
   refine D.r ?_
   exact⟨_,rfl,.aF (by rw[ag]; rfl) rfl,trivial,trivial⟩
  |some t=>
   have cz:=(List.getElem?_eq_some_iff.1 aw).1
   have d3:(i:Int)<(g.jm.length:Int):=by omega
   rw[eN aw]at ag
   simp only[z8]at ag
   generalize lT:z8 g t.state (g.jm.drop (i+1))=rest at ag
   by_cases qF:0≤t.tE∧t.tE<g.cD.length
   rotate_left
   ·(repeat' first|(apply al.s rfl;(·simp(disch:=omega)only[go_sem,simprocAttr,d3,de]<;>with_reducible rfl))|(apply ar.s true true;(·simp(disch:=omega)only[go_sem,simprocAttr,d3,de]<;>with_reducible rfl))|apply al.nil|(refine ar.c9 ?_)|(apply al.ft;(·simp(disch:=omega)only[go_sem,simprocAttr,d3,de]<;>with_reducible rfl))|(apply al.fu;(·rfl);(·simp(disch:=omega)only[go_sem,simprocAttr,d3,de]<;>with_reducible rfl))|(apply al.gs;(·simp(disch:=omega)only[go_sem,simprocAttr,d3,de]<;>with_reducible rfl))|((first|apply al.fw|apply al.fx|apply al.fy);(·simp(disch:=omega)only[go_sem,simprocAttr,d3,de]<;>with_reducible rfl);(·simp(disch:=omega)only[go_sem,simprocAttr,d3,de]<;>with_reducible rfl);(·assumption);(·omega))|intro h|(apply ar.cond;(·simp(disch:=omega)only[go_sem,simprocAttr,d3,de]<;>with_reducible rfl)))
    all_goals first
      |(refine D.R ?_
        refine⟨_,rfl,.aF ?_ rfl,trivial,trivial⟩
        rw[ag]
        simp only[I.aF,I.bool.injEq,@Eq.comm Bool false,bi7,bn6,decide_eq_false_iff_not,decide_eq_true_eq]at*
        omega)
      |(exfalso
        simp only[decide_eq_false_iff_not,decide_eq_true_eq]at*
        omega)
   ·obtain⟨e,a6⟩: ∃e,True∧g.cD[t.tE.toNat]? =some e:=⟨_,trivial,bd1 (by omega)⟩
    rw[a6.2]at ag
    simp only at ag
    (repeat' first|(apply al.s rfl;(·simp(disch:=omega)only[go_sem,simprocAttr,d3,de]<;>with_reducible rfl))|(apply ar.s true true;(·simp(disch:=omega)only[go_sem,simprocAttr,d3,de]<;>with_reducible rfl))|apply al.nil|(refine ar.c9 ?_)|(apply al.ft;(·simp(disch:=omega)only[go_sem,simprocAttr,d3,de]<;>with_reducible rfl))|(apply al.fu;(·rfl);(·simp(disch:=omega)only[go_sem,simprocAttr,d3,de]<;>with_reducible rfl))|(apply al.gs;(·simp(disch:=omega)only[go_sem,simprocAttr,d3,de]<;>with_reducible rfl))|((first|apply al.fw|apply al.fx|apply al.fy);(·simp(disch:=omega)only[go_sem,simprocAttr,d3,de]<;>with_reducible rfl);(·simp(disch:=omega)only[go_sem,simprocAttr,d3,de]<;>with_reducible rfl);(·assumption);(·omega))|intro h|(apply ar.cond;(·simp(disch:=omega)only[go_sem,simprocAttr,d3,de]<;>with_reducible rfl)))
    all_goals first
      |(refine D.R ?_
        refine⟨_,rfl,.aF ?_ rfl,trivial,trivial⟩
        rw[ag]
        simp only[I.aF,I.bool.injEq,@Eq.comm Bool false,bi7,bn6,decide_eq_false_iff_not,decide_eq_true_eq]at*
        omega)
      |skip
    have mu:=a6.2
    clear aw a6
    obtain⟨jG,kw,je,ly,jF,En⟩:=e
    simp only at ag
    (repeat' first|(apply al.s rfl;(·simp(disch:=omega)only[go_sem,simprocAttr,de]<;>with_reducible rfl))|(apply ar.s true true;(·simp(disch:=omega)only[go_sem,simprocAttr,de]<;>with_reducible rfl))|apply al.nil|(refine ar.c9 ?_)|(apply al.ft;(·simp(disch:=omega)only[go_sem,simprocAttr,de]<;>with_reducible rfl))|(apply al.fu;(·rfl);(·simp(disch:=omega)only[go_sem,simprocAttr,de]<;>with_reducible rfl))|(apply al.gs;(·simp(disch:=omega)only[go_sem,simprocAttr,de]<;>with_reducible rfl))|((first|apply al.fw|apply al.fx|apply al.fy);(·simp(disch:=omega)only[go_sem,simprocAttr,de]<;>with_reducible rfl);(·simp(disch:=omega)only[go_sem,simprocAttr,de]<;>with_reducible rfl);(·assumption);(·omega))|intro h|(apply ar.cond;(·simp(disch:=omega)only[go_sem,simprocAttr,de]<;>with_reducible rfl)))
    all_goals first
      |(refine D.R ?_
        refine⟨_,rfl,.aF ?_ rfl,trivial,trivial⟩
        rw[ag]
        simp only[I.aF,I.bool.injEq,@Eq.comm Bool false,bi7,bn6,decide_eq_false_iff_not,decide_eq_true_eq]at*
        first|omega|simp_all)
      |skip
    refine ar.hz (i+1,t.state) ⟨by omega,?_⟩ ⟨rfl,rfl,rfl,rfl,by simp only[bb8]; rfl,trivial⟩ ⟨rfl,trivial⟩ trivial (by show g.jm.length-(i+1)<g.jm.length-i; omega)
    rw[lT,ag]
    simp_all
theorem F0 {f:Nat→df→Bool}{l:List df}{i:Nat}{e:df}(h:l[i]? =some e):n8 f i (l.drop i)=(f i e&&n8 f (i+1) (l.drop (i+1))):=by
  rw[eN h]
  rfl
theorem aS5 (g:di) (hb:qi g):Pure bb4 157 [g.eL] (.bool (zJ g)):=by
  have a1:=hb.ne
  obtain⟨R,ag⟩: ∃R,R=zJ g:=⟨_,rfl⟩
  rw[←ag]
  simp only[zJ]at ag
  rw[rI]
  refine cw be Tryz.func157 Vm (by simp only[b2,I.flat,dn,e9,fK,fZ,bc0]) rfl ?_
  unfold Km Qs
  have de:((g.cD.map df.row).length:Int)=(g.cD.length:Int):=by rw[bb5]
  simp(disch:=omega)only[go_sem,simprocAttr]
  (have ae:=de;refine bt ?_;clear ae)
  refine ar.cU (X:=Nat) 0 (fun i=>[(1,.ptr 0 0),(8,.aq 6 (g.cD.map df.row)),(9,.int .i64 (g.cD.length:Int)),(10,.int .i64 (i:Int))]) (fun _=>[(0,32,g.cells)]) (fun _=>[]) (fun i=>i≤g.cD.length∧R=n8 (Ck g) i (g.cD.drop i)) (fun i=>g.cD.length-i) ⟨bc3 _,ag⟩ ⟨rfl,rfl,rfl,rfl,trivial⟩ ⟨rfl,trivial⟩ trivial ?_
  clear ag
  rintro i ⟨af,ag⟩
  try simp only at af ag ⊢
  simp only[tL]
  cases aw:g.cD[i]? with
  |none=>
   have b4:=List.getElem?_eq_none_iff.1 aw
   have d3: ¬(i:Int)<(g.cD.length:Int):=by omega
   rw[bc6 b4]at ag
   (have ae:=d3;refine bt ?_;clear ae)
   refine D.r ?_
   exact⟨_,rfl,.aF (by rw[ag]; rfl) rfl,trivial,trivial⟩
  |some x=>
   have cz:=(List.getElem?_eq_some_iff.1 aw).1
   have d3:(i:Int)<(g.cD.length:Int):=by omega
   rw[F0 aw]at ag
   generalize lT:n8 (Ck g) (i+1) (g.cD.drop (i+1))=rest at ag
   simp only[Ck]at ag
   obtain⟨uO,uK,uL,uM,uN,aZ9⟩:=x
   simp only at ag
   clear af
   cases aZ9 with
   |false=>
    (repeat' first|(apply al.s rfl;(·simp(disch:=omega)only[go_sem,simprocAttr,d3,de]<;>with_reducible rfl))|(apply ar.s true true;(·simp(disch:=omega)only[go_sem,simprocAttr,d3,de]<;>with_reducible rfl))|apply al.nil|(refine ar.c9 ?_)|(apply al.ft;(·simp(disch:=omega)only[go_sem,simprocAttr,d3,de]<;>with_reducible rfl))|(apply al.fu;(·rfl);(·simp(disch:=omega)only[go_sem,simprocAttr,d3,de]<;>with_reducible rfl))|(apply al.gs;(·simp(disch:=omega)only[go_sem,simprocAttr,d3,de]<;>with_reducible rfl))|((first|apply al.fw|apply al.fx|apply al.fy);(·simp(disch:=omega)only[go_sem,simprocAttr,d3,de]<;>with_reducible rfl);(·simp(disch:=omega)only[go_sem,simprocAttr,d3,de]<;>with_reducible rfl);(·assumption);(·omega))|intro h|(apply ar.cond;(·simp(disch:=omega)only[go_sem,simprocAttr,d3,de]<;>with_reducible rfl)))
    all_goals first
      |(refine D.R ?_
        refine⟨_,rfl,.aF ?_ rfl,trivial,trivial⟩
        rw[ag]
        simp_all [I.aF]
        done)
      |skip
    clear aw
    replace ag:R=(n8 (sS i ⟨uO,uK,uL,uM,uN,false⟩) 0 g.cD&&rest):=by rw[ag]; simp_all
    refine ar.cU (X:=Nat) 0 (fun k=>[(1,.ptr 0 0),(3,.int .i64 (i:Int)),(4,.ptr 1 0),(8,.aq 6 (g.cD.map df.row)),(9,.int .i64 (g.cD.length:Int)),(10,.int .i64 (i:Int)),(32,.aq 6 (g.cD.map df.row)),(33,.int .i64 (g.cD.length:Int)),(34,.int .i64 (k:Int))]) (fun _=>[(0,32,g.cells),(1,76,[.int .i64 uO,.int .i64 uK,.int .i64 uL,.int .i64 uM,.int .i64 uN,.bool false])]) (fun _=>[]) (fun k=>k≤g.cD.length∧R=(n8 (sS i ⟨uO,uK,uL,uM,uN,false⟩) k (g.cD.drop k)&&rest)) (fun k=>g.cD.length-k) ⟨bc3 _,ag⟩ ⟨rfl,rfl,rfl,rfl,rfl,rfl,rfl,rfl,rfl,trivial⟩ ⟨rfl,rfl,trivial⟩ trivial ?_
    clear ag
    rintro k ⟨av,ag⟩
    try simp only at av ag ⊢
    simp only[tL]
    cases aw:g.cD[k]? with
    |none=>
     have b4:=List.getElem?_eq_none_iff.1 aw
     have d4: ¬(k:Int)<(g.cD.length:Int):=by omega
     rw[bc6 b4]at ag
     simp only[n8,bc7]at ag
     (have ae:=d4;refine bt ?_;clear ae)
     refine ar.hz (i+1) ⟨by omega,by rw[lT,ag]⟩ ⟨rfl,rfl,rfl,by simp only[bb8]; rfl,trivial⟩ ⟨rfl,trivial⟩ trivial (by show g.cD.length-(i+1)<g.cD.length-i; omega)
    |some y=>
     have vv:=(List.getElem?_eq_some_iff.1 aw).1
     have d4:(k:Int)<(g.cD.length:Int):=by omega
     rw[F0 aw]at ag
     generalize hr:n8 (sS i ⟨uO,uK,uL,uM,uN,false⟩) (k+1) (g.cD.drop (k+1))=aH8 at ag
     obtain⟨a07,jN,jD,C1,a06,a08⟩:=y
     simp only[sS]at ag
     rw[show decide (i=k)=decide ((i:Int)=(k:Int)) from decide_eq_decide.2 (by omega)]at ag
     (repeat' first|(apply al.s rfl;(·simp(disch:=omega)only[go_sem,simprocAttr,d4,de]<;>with_reducible rfl))|(apply ar.s true true;(·simp(disch:=omega)only[go_sem,simprocAttr,d4,de]<;>with_reducible rfl))|apply al.nil|(refine ar.c9 ?_)|(apply al.ft;(·simp(disch:=omega)only[go_sem,simprocAttr,d4,de]<;>with_reducible rfl))|(apply al.fu;(·rfl);(·simp(disch:=omega)only[go_sem,simprocAttr,d4,de]<;>with_reducible rfl))|(apply al.gs;(·simp(disch:=omega)only[go_sem,simprocAttr,d4,de]<;>with_reducible rfl))|((first|apply al.fw|apply al.fx|apply al.fy);(·simp(disch:=omega)only[go_sem,simprocAttr,d4,de]<;>with_reducible rfl);(·simp(disch:=omega)only[go_sem,simprocAttr,d4,de]<;>with_reducible rfl);(·assumption);(·omega))|intro h|(apply ar.cond;(·simp(disch:=omega)only[go_sem,simprocAttr,d4,de]<;>with_reducible rfl)))
     all_goals first
       |(refine D.R ?_
         refine⟨_,rfl,.aF ?_ rfl,trivial,trivial⟩
         rw[ag]
         simp_all [I.aF]
         done)
       |skip
     all_goals (refine ar.hz (k+1) ⟨by omega,?_⟩ ⟨rfl,rfl,rfl,rfl,rfl,rfl,rfl,rfl,by simp only[bb8]; rfl,trivial⟩ ⟨rfl,rfl,trivial⟩ trivial (by show g.cD.length-(k+1)<g.cD.length-k; omega))
     all_goals (rw[hr,ag]; clear ag hr lT; simp only[*,bn7,bk1,bc7,be0,bc5,bd7,Bool.or_false,bh3,Bool.or_true,bk4])
   |true=>
    (repeat' first|(apply al.s rfl;(·simp(disch:=omega)only[go_sem,simprocAttr,d3,de]<;>with_reducible rfl))|(apply ar.s true true;(·simp(disch:=omega)only[go_sem,simprocAttr,d3,de]<;>with_reducible rfl))|apply al.nil|(refine ar.c9 ?_)|(apply al.ft;(·simp(disch:=omega)only[go_sem,simprocAttr,d3,de]<;>with_reducible rfl))|(apply al.fu;(·rfl);(·simp(disch:=omega)only[go_sem,simprocAttr,d3,de]<;>with_reducible rfl))|(apply al.gs;(·simp(disch:=omega)only[go_sem,simprocAttr,d3,de]<;>with_reducible rfl))|((first|apply al.fw|apply al.fx|apply al.fy);(·simp(disch:=omega)only[go_sem,simprocAttr,d3,de]<;>with_reducible rfl);(·simp(disch:=omega)only[go_sem,simprocAttr,d3,de]<;>with_reducible rfl);(·assumption);(·omega))|intro h|(apply ar.cond;(·simp(disch:=omega)only[go_sem,simprocAttr,d3,de]<;>with_reducible rfl)))
    all_goals first
      |(refine D.R ?_
        refine⟨_,rfl,.aF ?_ rfl,trivial,trivial⟩
        rw[ag]
        simp_all [I.aF]
        done)
      |skip
    clear aw
    replace ag:R=(n8 (sS i ⟨uO,uK,uL,uM,uN,true⟩) 0 g.cD&&rest):=by rw[ag]; simp_all
    refine ar.cU (X:=Nat) 0 (fun k=>[(1,.ptr 0 0),(3,.int .i64 (i:Int)),(4,.ptr 1 0),(8,.aq 6 (g.cD.map df.row)),(9,.int .i64 (g.cD.length:Int)),(10,.int .i64 (i:Int)),(32,.aq 6 (g.cD.map df.row)),(33,.int .i64 (g.cD.length:Int)),(34,.int .i64 (k:Int))]) (fun _=>[(0,32,g.cells),(1,76,[.int .i64 uO,.int .i64 uK,.int .i64 uL,.int .i64 uM,.int .i64 uN,.bool true])]) (fun _=>[]) (fun k=>k≤g.cD.length∧R=(n8 (sS i ⟨uO,uK,uL,uM,uN,true⟩) k (g.cD.drop k)&&rest)) (fun k=>g.cD.length-k) ⟨bc3 _,ag⟩ ⟨rfl,rfl,rfl,rfl,rfl,rfl,rfl,rfl,rfl,trivial⟩ ⟨rfl,rfl,trivial⟩ trivial ?_
    clear ag
    rintro k ⟨av,ag⟩
    try simp only at av ag ⊢
    simp only[tL]
    cases aw:g.cD[k]? with
    |none=>
     have b4:=List.getElem?_eq_none_iff.1 aw
     have d4: ¬(k:Int)<(g.cD.length:Int):=by omega
     rw[bc6 b4]at ag
     simp only[n8,bc7]at ag
     (have ae:=d4;refine bt ?_;clear ae)
     refine ar.hz (i+1) ⟨by omega,by rw[lT,ag]⟩ ⟨rfl,rfl,rfl,by simp only[bb8]; rfl,trivial⟩ ⟨rfl,trivial⟩ trivial (by show g.cD.length-(i+1)<g.cD.length-i; omega)
    |some y=>
     have vv:=(List.getElem?_eq_some_iff.1 aw).1
     have d4:(k:Int)<(g.cD.length:Int):=by omega
     rw[F0 aw]at ag
     generalize hr:n8 (sS i ⟨uO,uK,uL,uM,uN,true⟩) (k+1) (g.cD.drop (k+1))=aH8 at ag
     obtain⟨a07,jN,jD,C1,a06,a08⟩:=y
     simp only[sS]at ag
     rw[show decide (i=k)=decide ((i:Int)=(k:Int)) from decide_eq_decide.2 (by omega)]at ag
     (repeat' first|(apply al.s rfl;(·simp(disch:=omega)only[go_sem,simprocAttr,d4,de]<;>with_reducible rfl))|(apply ar.s true true;(·simp(disch:=omega)only[go_sem,simprocAttr,d4,de]<;>with_reducible rfl))|apply al.nil|(refine ar.c9 ?_)|(apply al.ft;(·simp(disch:=omega)only[go_sem,simprocAttr,d4,de]<;>with_reducible rfl))|(apply al.fu;(·rfl);(·simp(disch:=omega)only[go_sem,simprocAttr,d4,de]<;>with_reducible rfl))|(apply al.gs;(·simp(disch:=omega)only[go_sem,simprocAttr,d4,de]<;>with_reducible rfl))|((first|apply al.fw|apply al.fx|apply al.fy);(·simp(disch:=omega)only[go_sem,simprocAttr,d4,de]<;>with_reducible rfl);(·simp(disch:=omega)only[go_sem,simprocAttr,d4,de]<;>with_reducible rfl);(·assumption);(·omega))|intro h|(apply ar.cond;(·simp(disch:=omega)only[go_sem,simprocAttr,d4,de]<;>with_reducible rfl)))
     all_goals first
       |(refine D.R ?_
         refine⟨_,rfl,.aF ?_ rfl,trivial,trivial⟩
         rw[ag]
         simp_all [I.aF]
         done)
       |skip
     all_goals (refine ar.hz (k+1) ⟨by omega,?_⟩ ⟨rfl,rfl,rfl,rfl,rfl,rfl,rfl,rfl,by simp only[bb8]; rfl,trivial⟩ ⟨rfl,rfl,trivial⟩ trivial (by show g.cD.length-(k+1)<g.cD.length-k; omega))
     all_goals (rw[hr,ag]; clear ag hr lT; simp only[*,bn7,bk1,bc7,be0,bc5,bd7,Bool.or_false,bh3,Bool.or_true,bk4])
end
section
attribute [local go_sem] cf dn hE gz gy hB fK fZ e9 dM Fd.row eX fi df.row fc.row cj.row io r1 ru rB
theorem Ig {l:List cj}{i:Nat}{d:cj}(h:l[i]? =some d):oY (l.take (i+1))=oY (l.take i)++d.fields:=by
 unfold oY
 rw[bf5,h]
 simp
theorem T7 {l:List cj}(aT: ∀d∈l,d.fields.length≤1000000000):(oY l).length≤1000000000*l.length:=by
 unfold oY
 induction l with
 |nil=>simp
 |cons d l b7=>
  have U:=aT d (by simp)
  have aa:=b7 fun x ab=>aT x (by simp [ab])
  simp only[List.flatMap_cons,bb7,bb9]at aa ⊢
  omega
theorem aV0 (l:List cj) (aG:l.length≤40) (aT: ∀d∈l,d.fields.length≤1000000000):Pure bb4 374 [.aq 5 (l.map cj.row)] (.aq 4 ((oY l).map Fd.row)):=by
 refine cw be Tryz.func374 WR (by simp only[b2,I.flat,e9,bc0]) (by simp only[I.flat,gz]) ?_
 unfold LK RX
 simp(disch:=omega)only[go_sem,simprocAttr]
 refine ak ?_
 refine ar.tK 3 4 131 rfl (by decide) ?_
 simp(disch:=omega)only[go_sem,simprocAttr]
 refine ar.cU (X:=Nat) 0 (fun i=>[(3,.own 0 4 ((oY (l.take i)).map Fd.row)),(6,.aq 5 (l.map cj.row)),(7,.int .i64 ((l.map cj.row).length:Int)),(8,.int .i64 (i:Int))]) (fun _=>[]) (fun i=>[(0,.bY 131 4 ((oY (l.take i)).map Fd.row).length)]) (fun i=>i≤l.length) (fun i=>l.length-i) (bc3 _) ⟨rfl,rfl,rfl,rfl,trivial⟩ trivial ⟨rfl,trivial⟩ ?_
 rintro i af
 try simp only at af ⊢
 cases aw:l[i]? with
 |none=>
  have b4:=List.getElem?_eq_none_iff.1 aw
  have d1: ¬(i:Int)<((l.map cj.row).length:Int):=by rw[bb5]; omega
  (have ae:=d1;refine bt ?_;clear ae)
  refine D.r ?_
  refine⟨_,rfl,.aF ?_ (by simp only[I.flat,gz]),trivial,trivial⟩
  rw[bg8 b4]
  rfl
 |some d=>
  have cz:=(List.getElem?_eq_some_iff.1 aw).1
  have d1:(i:Int)<((l.map cj.row).length:Int):=by rw[bb5]; omega
  have mP:=aT d (bc2 aw)
  have gH:=T7 (l:=l.take i) fun x ab=>aT x (List.mem_of_mem_take ab)
  rw[be9]at gH
  clear aT
  (have ae:=d1;refine bt ?_;clear ae)
  refine D.iE ?_
  refine ak ?_
  refine ar.hz (i+1) (by show i+1≤l.length; omega) ⟨by rw[Ig aw,be5]; rfl,rfl,rfl,by simp only[bb8]; rfl,trivial⟩ trivial ⟨by rw[Ig aw,be5,bb7]; rfl,trivial⟩ (by show l.length-(i+1)<l.length-i; omega)
theorem aV2 (d x:cj):bg bb4 376 [.agg (cj.row x),.ptr 0 0] (aN.of 1 0 [(0,72,cj.row d)] []) (dA (.bool (decide (x.name=d.name))) [(0,72,cj.row d)] []):=by
 refine bg.intro be Tryz.func376 WT ?_
 unfold LM RZ
 simp(disch:=omega)only[go_sem,simprocAttr]
 refine ak ?_
 refine D.r ?_
 exact⟨rfl,⟨rfl,trivial⟩,trivial⟩
theorem aV5 (f x:Fd):bg bb4 379 [.agg (Fd.row x),.ptr 0 0] (aN.of 1 0 [(0,131,Fd.row f)] []) (dA (.bool (decide (x.name=f.name))) [(0,131,Fd.row f)] []):=by
 refine bg.intro be Tryz.func379 WW ?_
 unfold LP R2
 simp(disch:=omega)only[go_sem,simprocAttr]
 refine ak ?_
 refine D.r ?_
 exact⟨rfl,⟨rfl,trivial⟩,trivial⟩
theorem am2:c6 bb4 376=true:=by kernel_rfl
theorem am3:c6 bb4 379=true:=by kernel_rfl
end
section
attribute [local go_sem] cf dn hE gz gy hB fK fZ e9 dM Fd.row eX fi df.row fc.row cj.row io r1 ru rB
theorem aV6 (all:List Fd) (d:cj) (aS:all.length≤1000000000) (U:d.fa.length≤1000000000) (aa:d.eqs.length≤1000000000):Pure bb4 380 [.agg [.aq 3 (d.fa.map eX),.aq 2 (d.eqs.map fi)],.aq 4 (all.map Fd.row)] (.bool (vl all d)):=by
  obtain⟨gp,cg,fst,fa,eqs⟩:=d
  simp only at U aa ⊢
  obtain⟨R,ag⟩: ∃R,R=vl all ⟨gp,cg,fst,fa,eqs⟩:=⟨_,rfl⟩
  rw[←ag]
  simp only[vl]at ag
  refine cw be Tryz.func380 WY (by simp only[b2,I.flat,gy,hB,gz,bc0]) rfl ?_
  unfold LR R4
  have nk:((fa.map eX).length:Int)=(fa.length:Int):=by rw[bb5]
  have de:((eqs.map fi).length:Int)=(eqs.length:Int):=by rw[bb5]
  have dI:((all.map Fd.row).length:Int)=(all.length:Int):=by rw[bb5]
  simp(disch:=omega)only[go_sem,simprocAttr]
  by_cases c1:fa.length≤20
  rotate_left
  ·have d1:(20:Int)<(fa.length:Int):=by omega
   (have ae:=nk;have z2:=d1;refine dQ ?_;clear ae z2)
   refine D.r ?_
   exact⟨_,rfl,.aF (by rw[ag]; simp [c1,I.aF]) rfl,trivial,trivial⟩
  have d1: ¬(20:Int)<(fa.length:Int):=by omega
  by_cases cb:eqs.length≤20
  rotate_left
  ·have d2:(20:Int)<(eqs.length:Int):=by omega
   (have ae:=nk;have z2:=de;have z3:=And.intro d1 d2;refine ep ?_;clear ae z2 z3)
   refine D.r ?_
   exact⟨_,rfl,.aF (by rw[ag]; simp [cb,I.aF]) rfl,trivial,trivial⟩
  have d2: ¬(20:Int)<(eqs.length:Int):=by omega
  simp only[decide_eq_true c1,decide_eq_true cb,bc7]at ag
  (have ae:=nk;have z2:=de;have z3:=And.intro d1 d2;refine ep ?_;clear ae z2 z3)
  refine ar.cU (X:=Nat) 0 (fun i=>[(1,.aq 4 (all.map Fd.row)),(2,.ptr 0 0),(22,.aq 3 (fa.map eX)),(23,.int .i64 (fa.length:Int)),(24,.int .i64 (i:Int))]) (fun _=>[(0,70,[.aq 3 (fa.map eX),.aq 2 (eqs.map fi)])]) (fun _=>[]) (fun i=>i≤fa.length∧R=((fa.drop i).all (Bb all.length)&&eqs.all (yG all))) (fun i=>fa.length-i) ⟨bc3 _,ag⟩ ⟨rfl,rfl,rfl,by simp only[Env.get,nk]; rfl,rfl,trivial⟩ ⟨rfl,trivial⟩ trivial ?_
  clear ag
  rintro i ⟨af,ag⟩
  try simp only at af ag ⊢
  cases aw:fa[i]? with
  |some y=>
   have cz:=(List.getElem?_eq_some_iff.1 aw).1
   have d3:(i:Int)<(fa.length:Int):=by omega
   rw[eN aw,bd3]at ag
   generalize lT:(fa.drop (i+1)).all (Bb all.length)=rest at ag
   obtain⟨jN,jD,C1⟩:=y
   simp only[Bb]at ag
   (repeat' first|(apply al.s rfl;(·simp(disch:=omega)only[go_sem,simprocAttr,d3,dI]<;>with_reducible rfl))|(apply ar.s true true;(·simp(disch:=omega)only[go_sem,simprocAttr,d3,dI]<;>with_reducible rfl))|apply al.nil|(refine ar.c9 ?_)|(apply al.ft;(·simp(disch:=omega)only[go_sem,simprocAttr,d3,dI]<;>with_reducible rfl))|(apply al.fu;(·rfl);(·simp(disch:=omega)only[go_sem,simprocAttr,d3,dI]<;>with_reducible rfl))|(apply al.gs;(·simp(disch:=omega)only[go_sem,simprocAttr,d3,dI]<;>with_reducible rfl))|((first|apply al.fw|apply al.fx|apply al.fy);(·simp(disch:=omega)only[go_sem,simprocAttr,d3,dI]<;>with_reducible rfl);(·simp(disch:=omega)only[go_sem,simprocAttr,d3,dI]<;>with_reducible rfl);(·assumption);(·omega))|intro h|(apply ar.cond;(·simp(disch:=omega)only[go_sem,simprocAttr,d3,dI]<;>with_reducible rfl)))
   all_goals first
     |(refine D.R ?_
       refine⟨_,rfl,.aF ?_ rfl,trivial,trivial⟩
       rw[ag]
       simp only[I.aF,I.bool.injEq,@Eq.comm Bool false,bi7,bn6,decide_eq_false_iff_not,decide_eq_true_eq]at*
       omega)
     |skip
   refine ar.hz (i+1) ⟨by omega,?_⟩ ⟨rfl,rfl,rfl,by simp only[Env.get,nk]; rfl,by simp only[bb8]; rfl,trivial⟩ ⟨rfl,trivial⟩ trivial (by show fa.length-(i+1)<fa.length-i; omega)
   rw[lT,ag]
   simp only[decide_eq_false_iff_not]at*
   have c:(decide (-1≤min jN jD)&&(decide (max jN jD<all.length)&&(decide (-20000≤C1)&&decide (C1≤20000))))=true:=by
     simp only[bb6,bg6,decide_eq_false_iff_not,decide_eq_true_eq]
     omega
   rw[c,bc7]
  |none=>
  have b4:=List.getElem?_eq_none_iff.1 aw
  have d3: ¬(i:Int)<(fa.length:Int):=by omega
  rw[bc6 b4]at ag
  simp only[bk2,bc7]at ag
  (have ae:=d3;have z2:=de;refine dQ ?_;clear ae z2)
  clear d3 b4 af aw
  refine ar.cU (X:=Nat) 0 (fun i=>[(1,.aq 4 (all.map Fd.row)),(2,.ptr 0 0),(56,.aq 2 (eqs.map fi)),(57,.int .i64 (eqs.length:Int)),(58,.int .i64 (i:Int))]) (fun _=>[(0,70,[.aq 3 (fa.map eX),.aq 2 (eqs.map fi)])]) (fun _=>[]) (fun i=>i≤eqs.length∧R=(eqs.drop i).all (yG all)) (fun i=>eqs.length-i) ⟨bc3 _,ag⟩ ⟨rfl,rfl,rfl,by simp only[Env.get,de]; rfl,rfl,trivial⟩ ⟨rfl,trivial⟩ trivial ?_
  clear ag
  rintro j ⟨af,ag⟩
  try simp only at af ag ⊢
  cases aw:eqs[j]? with
  |none=>
   have b4:=List.getElem?_eq_none_iff.1 aw
   have d3: ¬(j:Int)<(eqs.length:Int):=by omega
   rw[bc6 b4]at ag
   (have ae:=d3;refine bt ?_;clear ae)
   refine D.r ?_
   exact⟨_,rfl,.aF (by rw[ag]; rfl) rfl,trivial,trivial⟩
  |some y=>
   have cz:=(List.getElem?_eq_some_iff.1 aw).1
   have d3:(j:Int)<(eqs.length:Int):=by omega
   rw[eN aw,bd3]at ag
   generalize lT:(eqs.drop (j+1)).all (yG all)=rest at ag
   obtain⟨jN,jD⟩:=y
   simp only[yG]at ag
   (have ae:=d3;refine bt ?_;clear ae)
   clear aw
   refine ar.cU (X:=Nat) 0 (fun k=>[(1,.aq 4 (all.map Fd.row)),(2,.ptr 0 0),(56,.aq 2 (eqs.map fi)),(57,.int .i64 (eqs.length:Int)),(58,.int .i64 (j:Int)),(62,.agg [.int .i64 jN,.int .i64 jD]),(63,.int .i64 (k:Int))]) (fun _=>[(0,70,[.aq 3 (fa.map eX),.aq 2 (eqs.map fi)])]) (fun _=>[]) (fun k=>k≤2∧R=(([jN,jD].drop k).all (pz all)&&rest)) (fun k=>2-k) ⟨bc3 _,by rw[ag]; simp only[List.drop_zero,bd3,bk2,be0]⟩ ⟨rfl,rfl,rfl,rfl,rfl,rfl,rfl,trivial⟩ ⟨rfl,trivial⟩ trivial ?_
   clear ag
   rintro k ⟨av,ag⟩
   try simp only at av ag ⊢
   have key: ∀(w:Int),k<2→[jN,jD][k]? =some w→R=(pz all w&&(([jN,jD].drop (k+1)).all (pz all)&&rest)):=fun w ac3 hw=>by
     rw[ag,eN hw,bd3,Bool.and_assoc]
   by_cases ac3:k<2
   rotate_left
   ·have ac4:k=2:=by omega
    subst ac4
    rw[show ([jN,jD].drop 2).all (pz all)=true from rfl,bc7]at ag
    (repeat' first|(apply al.s rfl;(·simp(disch:=omega)only[go_sem,simprocAttr,]<;>with_reducible rfl))|(apply ar.s true true;(·simp(disch:=omega)only[go_sem,simprocAttr,]<;>with_reducible rfl))|apply al.nil|(refine ar.c9 ?_)|(apply al.ft;(·simp(disch:=omega)only[go_sem,simprocAttr,]<;>with_reducible rfl))|(apply al.fu;(·rfl);(·simp(disch:=omega)only[go_sem,simprocAttr,]<;>with_reducible rfl))|(apply al.gs;(·simp(disch:=omega)only[go_sem,simprocAttr,]<;>with_reducible rfl))|((first|apply al.fw|apply al.fx|apply al.fy);(·simp(disch:=omega)only[go_sem,simprocAttr,]<;>with_reducible rfl);(·simp(disch:=omega)only[go_sem,simprocAttr,]<;>with_reducible rfl);(·assumption);(·omega))|intro h)
    refine ar.hz (j+1) ⟨by omega,?_⟩ ⟨rfl,rfl,rfl,by simp only[Env.get,de]; rfl,by simp only[bb8]; rfl,trivial⟩ ⟨rfl,trivial⟩ trivial (by show eqs.length-(j+1)<eqs.length-j; omega)
    rw[lT,ag]
   ·clear ag
    have fin: ∀(w:Int),R=(pz all w&&(([jN,jD].drop (k+1)).all (pz all)&&rest))→¬(0≤w∧w<all.length)→R=false:=fun w e h=>by
      rw[e]
      simp only[pz,bi7,decide_eq_false_iff_not]
      omega
    rcases (show k=0∨k=1 by omega) with qG|qG
    ·subst qG
     have ag:=key jN (by omega) rfl
     clear key
     by_cases qF:0≤jN∧jN<all.length
     rotate_left
     ·have cR:=fin jN ag qF
      (repeat' first|(apply al.s rfl;(·simp(disch:=omega)only[go_sem,simprocAttr,dI]<;>with_reducible rfl))|(apply ar.s true true;(·simp(disch:=omega)only[go_sem,simprocAttr,dI]<;>with_reducible rfl))|apply al.nil|(refine ar.c9 ?_)|(apply al.ft;(·simp(disch:=omega)only[go_sem,simprocAttr,dI]<;>with_reducible rfl))|(apply al.fu;(·rfl);(·simp(disch:=omega)only[go_sem,simprocAttr,dI]<;>with_reducible rfl))|(apply al.gs;(·simp(disch:=omega)only[go_sem,simprocAttr,dI]<;>with_reducible rfl))|((first|apply al.fw|apply al.fx|apply al.fy);(·simp(disch:=omega)only[go_sem,simprocAttr,dI]<;>with_reducible rfl);(·simp(disch:=omega)only[go_sem,simprocAttr,dI]<;>with_reducible rfl);(·assumption);(·omega))|intro h|(apply ar.cond;(·simp(disch:=omega)only[go_sem,simprocAttr,dI]<;>with_reducible rfl)))
      all_goals first
        |(refine D.R ?_
          exact⟨_,rfl,.aF (by rw[cR]; rfl) rfl,trivial,trivial⟩)
        |(exfalso
          simp only[decide_eq_false_iff_not,decide_eq_true_eq]at*
          omega)
     ·obtain⟨f,a6⟩: ∃f,all[(jN).toNat]? =some f:=⟨_,bd1 (by omega)⟩
      have c4:pz all jN=decide (f.kind=2):=by
        simp only[pz,a6,decide_eq_true qF.1,decide_eq_true qF.2,bc7]
      rw[c4]at ag
      have d4: ¬jN<0:=by omega
      have d5: ¬(all.length:Int)≤jN:=by omega
      have pY:True∧all[(jN).toNat]? =some f:=⟨trivial,a6⟩
      (repeat' first|(apply al.s rfl;(·simp(disch:=omega)only[go_sem,simprocAttr,dI,d4,d5]<;>with_reducible rfl))|(apply ar.s true true;(·simp(disch:=omega)only[go_sem,simprocAttr,dI,d4,d5]<;>with_reducible rfl))|apply al.nil|(refine ar.c9 ?_)|(apply al.ft;(·simp(disch:=omega)only[go_sem,simprocAttr,dI,d4,d5]<;>with_reducible rfl))|(apply al.fu;(·rfl);(·simp(disch:=omega)only[go_sem,simprocAttr,dI,d4,d5]<;>with_reducible rfl))|(apply al.gs;(·simp(disch:=omega)only[go_sem,simprocAttr,dI,d4,d5]<;>with_reducible rfl))|((first|apply al.fw|apply al.fx|apply al.fy);(·simp(disch:=omega)only[go_sem,simprocAttr,dI,d4,d5]<;>with_reducible rfl);(·simp(disch:=omega)only[go_sem,simprocAttr,dI,d4,d5]<;>with_reducible rfl);(·assumption);(·omega))|intro h|(apply ar.cond;(·simp(disch:=omega)only[go_sem,simprocAttr,dI,d4,d5]<;>with_reducible rfl)))
      all_goals first
        |(refine D.R ?_
          refine⟨_,rfl,.aF ?_ rfl,trivial,trivial⟩
          rw[ag]
          simp_all [I.aF]
          done)
        |skip
      refine ar.hz (0+1) ⟨by omega,?_⟩ ⟨rfl,rfl,rfl,rfl,rfl,rfl,rfl,trivial⟩ ⟨rfl,trivial⟩ trivial (by show 2-(0+1)<2-0; omega)
      rw[ag]
      simp_all
    ·subst qG
     have ag:=key jD (by omega) rfl
     clear key
     by_cases qF:0≤jD∧jD<all.length
     rotate_left
     ·have cR:=fin jD ag qF
      (repeat' first|(apply al.s rfl;(·simp(disch:=omega)only[go_sem,simprocAttr,dI]<;>with_reducible rfl))|(apply ar.s true true;(·simp(disch:=omega)only[go_sem,simprocAttr,dI]<;>with_reducible rfl))|apply al.nil|(refine ar.c9 ?_)|(apply al.ft;(·simp(disch:=omega)only[go_sem,simprocAttr,dI]<;>with_reducible rfl))|(apply al.fu;(·rfl);(·simp(disch:=omega)only[go_sem,simprocAttr,dI]<;>with_reducible rfl))|(apply al.gs;(·simp(disch:=omega)only[go_sem,simprocAttr,dI]<;>with_reducible rfl))|((first|apply al.fw|apply al.fx|apply al.fy);(·simp(disch:=omega)only[go_sem,simprocAttr,dI]<;>with_reducible rfl);(·simp(disch:=omega)only[go_sem,simprocAttr,dI]<;>with_reducible rfl);(·assumption);(·omega))|intro h|(apply ar.cond;(·simp(disch:=omega)only[go_sem,simprocAttr,dI]<;>with_reducible rfl)))
      all_goals first
        |(refine D.R ?_
          exact⟨_,rfl,.aF (by rw[cR]; rfl) rfl,trivial,trivial⟩)
        |(exfalso
          simp only[decide_eq_false_iff_not,decide_eq_true_eq]at*
          omega)
     ·obtain⟨f,a6⟩: ∃f,all[(jD).toNat]? =some f:=⟨_,bd1 (by omega)⟩
      have c4:pz all jD=decide (f.kind=2):=by
        simp only[pz,a6,decide_eq_true qF.1,decide_eq_true qF.2,bc7]
      rw[c4]at ag
      have d4: ¬jD<0:=by omega
      have d5: ¬(all.length:Int)≤jD:=by omega
      have pY:True∧all[(jD).toNat]? =some f:=⟨trivial,a6⟩
      (repeat' first|(apply al.s rfl;(·simp(disch:=omega)only[go_sem,simprocAttr,dI,d4,d5]<;>with_reducible rfl))|(apply ar.s true true;(·simp(disch:=omega)only[go_sem,simprocAttr,dI,d4,d5]<;>with_reducible rfl))|apply al.nil|(refine ar.c9 ?_)|(apply al.ft;(·simp(disch:=omega)only[go_sem,simprocAttr,dI,d4,d5]<;>with_reducible rfl))|(apply al.fu;(·rfl);(·simp(disch:=omega)only[go_sem,simprocAttr,dI,d4,d5]<;>with_reducible rfl))|(apply al.gs;(·simp(disch:=omega)only[go_sem,simprocAttr,dI,d4,d5]<;>with_reducible rfl))|((first|apply al.fw|apply al.fx|apply al.fy);(·simp(disch:=omega)only[go_sem,simprocAttr,dI,d4,d5]<;>with_reducible rfl);(·simp(disch:=omega)only[go_sem,simprocAttr,dI,d4,d5]<;>with_reducible rfl);(·assumption);(·omega))|intro h|(apply ar.cond;(·simp(disch:=omega)only[go_sem,simprocAttr,dI,d4,d5]<;>with_reducible rfl)))
      all_goals first
        |(refine D.R ?_
          refine⟨_,rfl,.aF ?_ rfl,trivial,trivial⟩
          rw[ag]
          simp_all [I.aF]
          done)
        |skip
      refine ar.hz (1+1) ⟨by omega,?_⟩ ⟨rfl,rfl,rfl,rfl,rfl,rfl,rfl,trivial⟩ ⟨rfl,trivial⟩ trivial (by show 2-(1+1)<2-1; omega)
      rw[ag]
      simp_all
end
section
attribute [local go_sem] cf dn hE gz gy hB fK fZ e9 dM Fd.row eX fi df.row fc.row cj.row io r1 ru rB
theorem UN (a:Int) (l:List Fd) (f:Fd): ∀k:Nat,o2 a k (l++[f])=o2 a k l++[(a+((k+l.length:Nat):Int),-1,f.af),(-1,a+((k+l.length:Nat):Int),-f.b3)]:=by
 induction l with
 |nil=>intro k; rfl
 |cons x l b7=>
  intro k
  simp only[bd2,o2,b7 (k+1),bb9,show k+1+l.length=k+(l.length+1) by omega]
theorem ID (a:Int) (l:List Fd): ∀k:Nat,(o2 a k l).length=2*l.length:=by
 induction l with
 |nil=>intro k; rfl
 |cons x l b7=>intro k; simp only[o2,bb9,b7 (k+1)]; omega
theorem IE {a:Int}{l:List Fd}{i:Nat}{f:Fd}(h:l[i]? =some f):o2 a 0 (l.take (i+1))=o2 a 0 (l.take i)++[(a+(i:Int),-1,f.af),(-1,a+(i:Int),-f.b3)]:=by
 have cz:=(List.getElem?_eq_some_iff.1 h).1
 rw[bf5,h,bp8,UN,be9,Nat.zero_add,Nat.min_eq_left (by omega)]
theorem UM (l:List (Int×Int)) (e:Int×Int):o1 (l++[e])=o1 l++[(e.1,e.2,0),(e.2,e.1,0)]:=by
 induction l with
 |nil=>rfl
 |cons x l b7=>simp only[bd2,o1,b7]
theorem UL (l:List (Int×Int)):(o1 l).length=2*l.length:=by
 induction l with
 |nil=>rfl
 |cons x l b7=>simp only[o1,bb9,b7]; omega
theorem IC {l:List (Int×Int)}{i:Nat}{e:Int×Int}(h:l[i]? =some e):o1 (l.take (i+1))=o1 (l.take i)++[(e.1,e.2,0),(e.2,e.1,0)]:=by
 rw[bf5,h,bp8,UM]
theorem aU6 (d:cj) (U:d.fields.length≤4) (aa:d.fa.length≤20) (aD:d.eqs.length≤20) (bA:0≤d.first∧d.first≤1000) (b6: ∀f∈d.fields,-1000≤f.b3∧f.b3≤1000):Pure bb4 339 [.agg (cj.row d)] (.aq 3 ((IF d).map eX)):=by
 obtain⟨gp,cg,fst,fa,eqs⟩:=d
 simp only at U aa aD bA b6 ⊢
 refine cw be Tryz.func339 WH (by simp only[b2,I.flat,cj.row,gz,gy,hB,bc0]) (by simp only[I.flat,gy]) ?_
 unfold LC RO
 have se:((cg.map Fd.row).length:Int)=(cg.length:Int):=by rw[bb5]
 have nk:(fa.map eX).length=fa.length:=by rw[bb5]
 have de:((eqs.map fi).length:Int)=(eqs.length:Int):=by rw[bb5]
 simp(disch:=omega)only[go_sem,simprocAttr]
 refine ak ?_
 refine ar.tK 3 3 438 rfl (by decide) ?_
 simp(disch:=omega)only[go_sem,simprocAttr]
 (have ae:=se;refine bt ?_;clear ae)
 refine ar.cU (X:=Nat) 0 (fun i=>[(1,.ptr 0 0),(3,.own 0 3 ((o2 fst 0 (cg.take i)).map eX)),(9,.aq 4 (cg.map Fd.row)),(10,.int .i64 (cg.length:Int)),(11,.int .i64 (i:Int))]) (fun _=>[(0,72,cj.row ⟨gp,cg,fst,fa,eqs⟩)]) (fun i=>[(0,.bY 438 3 ((o2 fst 0 (cg.take i)).map eX).length)]) (fun i=>i≤cg.length) (fun i=>cg.length-i) (bc3 _) ⟨rfl,rfl,rfl,by simp only[Env.get,se]; rfl,rfl,trivial⟩ ⟨rfl,trivial⟩ ⟨rfl,trivial⟩ ?_
 rintro i af
 try simp only at af ⊢
 cases aw:cg[i]? with
 |some f=>
  have cz:=(List.getElem?_eq_some_iff.1 aw).1
  have d1:(i:Int)<(cg.length:Int):=by omega
  have mP:=b6 f (bc2 aw)
  have gH:=ID fst (cg.take i) 0
  rw[be9]at gH
  clear b6
  (have ae:=d1;refine bt ?_;clear ae)
  refine D.iE ?_
  refine ak ?_
  rw[Int.zero_sub]
  refine ar.hz (i+1) (by show i+1≤cg.length; omega) ⟨rfl,by rw[IE aw,be5]; rfl,rfl,rfl,by simp only[bb8]; rfl,trivial⟩ ⟨rfl,trivial⟩ ⟨by rw[IE aw,be5,bb7]; rfl,trivial⟩ (by show cg.length-(i+1)<cg.length-i; omega)
 |none=>
  have b4:=List.getElem?_eq_none_iff.1 aw
  have d1: ¬(i:Int)<(cg.length:Int):=by omega
  rw[bg8 b4]
  have gH:=ID fst cg 0
  (have ae:=d1;refine bt ?_;clear ae)
  refine D.iE ?_
  refine ak ?_
  refine ar.cU (X:=Nat) 0 (fun i=>[(1,.ptr 0 0),(3,.own 0 3 ((o2 fst 0 cg++(fa++o1 (eqs.take i))).map eX)),(44,.aq 2 (eqs.map fi)),(45,.int .i64 (eqs.length:Int)),(46,.int .i64 (i:Int))]) (fun _=>[(0,72,cj.row ⟨gp,cg,fst,fa,eqs⟩)]) (fun i=>[(0,.bY 438 3 ((o2 fst 0 cg++(fa++o1 (eqs.take i))).map eX).length)]) (fun i=>i≤eqs.length) (fun i=>eqs.length-i) (bc3 _) ⟨rfl,by simp only[bg2,o1,bd8,be5]; rfl,rfl,by simp only[Env.get,de]; rfl,rfl,trivial⟩ ⟨rfl,trivial⟩ ⟨by simp only[bg2,o1,bd8,be5,bb7]; rfl,trivial⟩ ?_
  rintro j bm
  try simp only at bm ⊢
  cases a8:eqs[j]? with
  |some e=>
   have cz:=(List.getElem?_eq_some_iff.1 a8).1
   have d2:(j:Int)<(eqs.length:Int):=by omega
   have EU:=UL (eqs.take j)
   rw[be9]at EU
   clear aw
   (have ae:=d2;refine bt ?_;clear ae)
   refine D.iE ?_
   refine ak ?_
   refine ar.hz (j+1) (by show j+1≤eqs.length; omega) ⟨rfl,by rw[IC a8]; simp only[be5,bc8]; rfl,rfl,rfl,by simp only[bb8]; rfl,trivial⟩ ⟨rfl,trivial⟩ ⟨by rw[IC a8]; simp only[be5,bb7,Nat.add_assoc]; rfl,trivial⟩ (by show eqs.length-(j+1)<eqs.length-j; omega)
  |none=>
   have b4:=List.getElem?_eq_none_iff.1 a8
   have d2: ¬(j:Int)<(eqs.length:Int):=by omega
   (have ae:=d2;refine bt ?_;clear ae)
   refine D.r ?_
   refine⟨_,rfl,.aF ?_ (by simp only[I.flat,gy]),trivial,trivial⟩
   rw[bg8 b4]
   rfl
end
section
attribute [local go_sem] cf dn hE gz gy hB fK fZ e9 dM Fd.row eX fi df.row fc.row cj.row io r1 ru rB
theorem Ya {all:List Fd}{l:List cj}{a:Int}{i:Nat}{d:cj}(h:l[i]? =some d):u1 all (l.take i) a (l.drop i)=(lK d.name&&(decide (d.fields.length≤4)&&(decide (d.first=a)&&(!(l.take i).any (fun x=>decide (x.name=d.name))&&(rD [] d.fields&&(vl all d&&u1 all (l.take (i+1)) (a+d.fields.length) (l.drop (i+1)))))))):=by
 rw[eN h,bf5,h]
 rfl
theorem YZ {l:List Fd}{i:Nat}{f:Fd}(h:l[i]? =some f):rD (l.take i) (l.drop i)=(ev f.name&&(nI f.kind f.b3 f.af&&(!(l.take i).any (fun x=>decide (x.name=f.name))&&rD (l.take (i+1)) (l.drop (i+1))))):=by
 rw[eN h,bf5,h]
 rfl
theorem aU5 (l:List cj) (aG:l.length≤1000000000) (aT: ∀d∈l,d.fields.length≤1000000000∧d.fa.length≤1000000000∧d.eqs.length≤1000000000):Pure bb4 338 [.aq 5 (l.map cj.row)] (.bool (s7 l)):=by
 obtain⟨R,ag⟩: ∃R,R=s7 l:=⟨_,rfl⟩
 rw[←ag]
 simp only[s7]at ag
 refine cw be Tryz.func338 WG (by simp only[b2,I.flat,e9,bc0]) rfl ?_
 unfold LB RN
 have iD:((l.map cj.row).length:Int)=(l.length:Int):=by rw[bb5]
 simp(disch:=omega)only[go_sem,simprocAttr]
 by_cases c1:l.length≤40
 rotate_left
 ·have d1:(40:Int)<(l.length:Int):=by omega
  (have ae:=iD;have z2:=d1;refine dQ ?_;clear ae z2)
  refine D.r ?_
  exact⟨_,rfl,.aF (by rw[ag]; simp [c1,I.aF]) rfl,trivial,trivial⟩
 have d1: ¬(40:Int)<(l.length:Int):=by omega
 have ap:=aV0 l c1 fun d bG=>(aT d bG).1
 have dI:(((oY l).map Fd.row).length:Int)=((oY l).length:Int):=by rw[bb5]
 generalize oY l=all at ap ag dI
 (have ae:=iD;have z2:=d1;refine dQ ?_;clear ae z2)
 refine D.P (ap) ?_
 by_cases cb:all.length≤24
 rotate_left
 ·have d2:(24:Int)<(all.length:Int):=by omega
  (have ae:=dI;have z2:=d2;refine dQ ?_;clear ae z2)
  refine D.r ?_
  exact⟨_,rfl,.aF (by rw[ag]; simp [cb,I.aF]) rfl,trivial,trivial⟩
 have d2: ¬(24:Int)<(all.length:Int):=by omega
 simp only[decide_eq_true c1,decide_eq_true cb,bc7]at ag
 (have ae:=dI;have z2:=iD;have z3:=d2;refine ep ?_;clear ae z2 z3)
 clear ap
 refine ar.cU (X:=Nat×Int) (0,0) (fun q=>[(0,.aq 5 (l.map cj.row)),(3,.aq 4 (all.map Fd.row)),(4,.int .i64 q.2),(17,.aq 5 (l.map cj.row)),(18,.int .i64 (l.length:Int)),(19,.int .i64 (q.1:Int))]) (fun _=>[]) (fun _=>[]) (fun q=>q.1≤l.length∧0≤q.2∧q.2≤4*q.1∧R=u1 all (l.take q.1) q.2 (l.drop q.1)) (fun q=>l.length-q.1) ⟨bc3 _,Int.le_refl _,by decide,ag⟩ ⟨rfl,rfl,rfl,rfl,rfl,rfl,trivial⟩ trivial trivial ?_
 clear ag
 rintro⟨i,a⟩ ⟨af,BE,MT,ag⟩
 try simp only at af BE MT ag ⊢
 cases aw:l[i]? with
 |none=>
  have b4:=List.getElem?_eq_none_iff.1 aw
  have d3: ¬(i:Int)<(l.length:Int):=by omega
  rw[bc6 b4]at ag
  (have ae:=d3;refine bt ?_;clear ae)
  refine D.r ?_
  exact⟨_,rfl,.aF (by rw[ag]; rfl) rfl,trivial,trivial⟩
 |some d=>
 have cz:=(List.getElem?_eq_some_iff.1 aw).1
 have d3:(i:Int)<(l.length:Int):=by omega
 rw[Ya aw]at ag
 have hb:=aT d (bc2 aw)
 have ay:=Ge d.name
 have b1:=aV1 (T:=72) (cs:=cj.row d) am2 (by simp only[cj.row,dw,I.du,gz,gy,hB,bc0]) (by rfl) (fun w=>decide (w.name=d.name)) (l.take i) (by rw[be9]; omega) fun w _=>aV2 d w
 rw[bj3]at b1
 have dC:=aV6 all d (by omega) hb.2.1 hb.2.2
 generalize lT:u1 all (l.take (i+1)) (a+d.fields.length) (l.drop (i+1))=rest at ag
 generalize ((l.take i).any fun w=>decide (w.name=d.name))=Uz at b1 ag
 generalize lK d.name=UO at ay ag
 generalize vl all d=Iw at dC ag
 clear aT
 obtain⟨gp,cg,fst,fa,eqs⟩:=d
 simp only at ag lT hb ay b1 dC ⊢
 have se:((cg.map Fd.row).length:Int)=(cg.length:Int):=by rw[bb5]
 (have ae:=d3;refine bt ?_;clear ae)
 refine D.P (ay) ?_
 cases UO with
 |false=>
  refine ak ?_
  refine D.r ?_
  exact⟨_,rfl,.aF (by rw[ag]; rfl) rfl,trivial,trivial⟩
 |true=>
 by_cases eW:cg.length≤4
 rotate_left
 ·have d4:(4:Int)<(cg.length:Int):=by omega
  (have ae:=se;have z2:=d4;refine dQ ?_;clear ae z2)
  refine D.r ?_
  exact⟨_,rfl,.aF (by rw[ag]; simp [eW,I.aF]) rfl,trivial,trivial⟩
 have d4: ¬(4:Int)<(cg.length:Int):=by omega
 by_cases gE:fst=a
 rotate_left
 ·(have ae:=se;have z2:=d4;have z3:=gE;refine ep ?_;clear ae z2 z3)
  refine D.r ?_
  exact⟨_,rfl,.aF (by rw[ag]; simp [gE,I.aF]) rfl,trivial,trivial⟩
 simp only[decide_eq_true eW,decide_eq_true gE,bc7]at ag
 subst fst
 (have ae:=se;have z2:=d4;refine dQ ?_;clear ae z2)
 (apply al.uw (i);(·simp(disch:=omega)only[go_sem,simprocAttr]<;>with_reducible rfl);(·simp(disch:=omega)only[go_sem,simprocAttr]<;>with_reducible rfl);(·omega);(·(try simp only[bb5]);omega))
 refine ak ?_
 refine D.F ⟨[0],[]⟩ (b1) ?_
 cases Uz with
 |true=>
  refine ak ?_
  refine D.r ?_
  exact⟨_,rfl,.aF (by rw[ag]; rfl) rfl,trivial,trivial⟩
 |false=>
 (have ae:=se;refine bt ?_;clear ae)
 simp only[bk1,bc7]at ag
 clear ay b1
 refine ar.cU (X:=Nat) 0 (fun k=>[(0,.aq 5 (l.map cj.row)),(3,.aq 4 (all.map Fd.row)),(4,.int .i64 (a+(cg.length:Int))),(6,.ptr 0 0),(17,.aq 5 (l.map cj.row)),(18,.int .i64 (l.length:Int)),(19,.int .i64 (i:Int)),(53,.aq 4 (cg.map Fd.row)),(54,.int .i64 (cg.length:Int)),(55,.int .i64 (k:Int))]) (fun _=>[(0,72,cj.row ⟨gp,cg,a,fa,eqs⟩)]) (fun _=>[]) (fun k=>k≤cg.length∧R=(rD (cg.take k) (cg.drop k)&&(Iw&&rest))) (fun k=>cg.length-k) ⟨bc3 _,ag⟩ ⟨rfl,rfl,rfl,rfl,rfl,rfl,rfl,rfl,by simp only[Env.get,se]; rfl,rfl,trivial⟩ ⟨rfl,trivial⟩ trivial ?_
 clear ag
 rintro k ⟨av,ag⟩
 try simp only at av ag ⊢
 cases a8:cg[k]? with
 |none=>
  have b4:=List.getElem?_eq_none_iff.1 a8
  have d5: ¬(k:Int)<(cg.length:Int):=by omega
  rw[bc6 b4]at ag
  simp only[rD,bc7]at ag
  clear aw
  (have ae:=d5;refine bt ?_;clear ae)
  refine D.P (dC) ?_
  cases Iw with
  |false=>
   refine ak ?_
   refine D.r ?_
   exact⟨_,rfl,.aF (by rw[ag]; rfl) rfl,trivial,trivial⟩
  |true=>
   simp only[bc7]at ag
   refine ak ?_
   refine ar.hz (i+1,a+cg.length) ⟨by omega,by omega,by omega,by rw[lT,ag]⟩ ⟨rfl,rfl,rfl,rfl,rfl,by simp only[bb8]; rfl,trivial⟩ trivial trivial (by show l.length-(i+1)<l.length-i; omega)
 |some f=>
  have Fb:=(List.getElem?_eq_some_iff.1 a8).1
  have d5:(k:Int)<(cg.length:Int):=by omega
  rw[YZ a8]at ag
  have gF:=po f.name
  have nW:=aV3 f.kind f.b3 f.af
  have va:=aV4 (T:=131) (cs:=Fd.row f) am3 rfl rfl (fun w=>decide (w.name=f.name)) (cg.take k) (by rw[be9]; omega) fun w _=>aV5 f w
  rw[bj3]at va
  generalize af0:rD (cg.take (k+1)) (cg.drop (k+1))=cA at ag
  generalize ev f.name=e5 at gF ag
  generalize nI f.kind f.b3 f.af=il at nW ag
  generalize ((cg.take k).any fun w=>decide (w.name=f.name))=jZ at va ag
  clear aw dC
  (have ae:=d5;refine bt ?_;clear ae)
  refine D.P (gF) ?_
  cases e5 with
  |false=>
   refine ak ?_
   refine D.r ?_
   exact⟨_,rfl,.aF (by rw[ag]; rfl) rfl,trivial,trivial⟩
  |true=>
  refine ak ?_
  refine D.P (nW) ?_
  cases il with
  |false=>
   refine ak ?_
   refine D.r ?_
   exact⟨_,rfl,.aF (by rw[ag]; rfl) rfl,trivial,trivial⟩
  |true=>
  refine ak ?_
  (apply al.uw (k);(·simp(disch:=omega)only[go_sem,simprocAttr]<;>with_reducible rfl);(·simp(disch:=omega)only[go_sem,simprocAttr]<;>with_reducible rfl);(·omega);(·(try simp only[bb5]);omega))
  refine ak ?_
  refine D.F ⟨[1],[]⟩ (va) ?_
  cases jZ with
  |true=>
   refine ak ?_
   refine D.r ?_
   exact⟨_,rfl,.aF (by rw[ag]; rfl) rfl,trivial,trivial⟩
  |false=>
  refine ak ?_
  refine ar.hz (k+1) ⟨by omega,by rw[af0,ag]; rfl⟩ ⟨rfl,rfl,rfl,rfl,rfl,rfl,rfl,rfl,rfl,by simp only[bb8]; rfl,trivial⟩ ⟨rfl,trivial⟩ trivial (by show cg.length-(k+1)<cg.length-k; omega)
end
section
attribute [local go_sem] cf dn hE gz gy hB fK fZ e9 dM Fd.row eX fi df.row fc.row cj.row io r1 ru rB
theorem aM3 {k b3 af:Int}(h:nI k b3 af=true): -1000≤b3∧b3≤1000:=by
 unfold nI at h
 split at h
 ·simp only[bb6,decide_eq_true_eq]at h
  omega
 ·split at h
  ·simp only[bb6,decide_eq_true_eq]at h
   omega
  ·cases h
theorem Mk: ∀(l a:List Fd),rD a l=true→∀f∈l,ev f.name=true∧nI f.kind f.b3 f.af=true
 |[],_,_,f,aT=>absurd aT (by simp)
 |x::l,a,h,f,aT=>by
  simp only[rD,bb6]at h
  rcases List.mem_cons.1 aT with rfl|aa
  ·exact⟨h.1,h.2.1⟩
  ·exact Mk l _ h.2.2.2 f aa
theorem aW3 {d:cj}{t:List cj}(h:s7 (d::t)=true):d.fields.length≤4∧d.fa.length≤20∧d.eqs.length≤20∧d.first=0∧∀f∈d.fields,-1000≤f.b3∧f.b3≤1000:=by
 simp only[s7,u1,vl,bb6,decide_eq_true_eq]at h
 obtain⟨_,_,_,U,aa,_,aD,⟨bA,b6,_⟩,_⟩:=h
 exact⟨U,bA,b6,aa,fun f aT=>aM3 (Mk _ _ aD f aT).2⟩
def wG (l:List cj):List (Int×Int×Int)×Int:=if s7 l=true then (match l with|[]=>([],1)|d:: _=>(IF d,0)) else ([],1)
theorem aT4 (l:List cj) (aG:l.length≤1000000000) (aT: ∀d∈l,d.fields.length≤1000000000∧d.fa.length≤1000000000∧d.eqs.length≤1000000000):Pure bb4 258 [.aq 5 (l.map cj.row),.int .i64 0] (.c3 [.aq 3 ((wG l).1.map eX),.int .i64 (wG l).2]):=by
 obtain⟨S,j1⟩: ∃S,S=wG l:=⟨_,rfl⟩
 rw[←j1]
 refine cw be Tryz.func258 V8 (by simp only[b2,I.flat,e9,bc0]) (by simp only[I.flat,b2,gy,bc0]) ?_
 unfold K6 Re
 have iD:((l.map cj.row).length:Int)=(l.length:Int):=by rw[bb5]
 have ap:=aU5 l aG aT
 simp(disch:=omega)only[go_sem,simprocAttr]
 cases l with
 |nil=>
  refine ak ?_
  refine D.r ?_
  refine⟨_,rfl,?_,trivial,trivial⟩
  rw[j1]
  exact .c3 (.cons .nil (.cons (.aF rfl rfl) .nil))
 |cons d t=>
  have d1: ¬((t.length:Int)+1)≤0:=by omega
  have nM:((t.map cj.row).length:Int)=(t.length:Int):=by rw[bb5]
  simp only[wG]at j1
  cases ad:s7 (d::t) with
  |false=>
   rw[ad]at ap j1
   (have ae:=iD;have z2:=d1;have z3:=And.intro nM @bb8;refine ep ?_;clear ae z2 z3)
   refine D.P (ap) ?_
   refine ak ?_
   refine D.r ?_
   refine⟨_,rfl,?_,trivial,trivial⟩
   rw[j1]
   exact .c3 (.cons .nil (.cons (.aF rfl rfl) .nil))
  |true=>
   rw[ad]at ap j1
   obtain⟨U,aa,aD,bA,b6⟩:=aW3 ad
   have ay:=aU6 d U aa aD (by omega) b6
   (have ae:=iD;have z2:=d1;have z3:=And.intro nM @bb8;refine ep ?_;clear ae z2 z3)
   refine D.P (ap) ?_
   refine ak ?_
   refine D.P (ay) ?_
   refine ak ?_
   refine D.r ?_
   refine⟨_,rfl,?_,trivial,trivial⟩
   rw[j1]
   exact .aF rfl (by simp only[I.flat,b2,gy,bc0])
theorem aS4 (l:List cj) (aG:l.length≤1000000000) (aT: ∀d∈l,d.fields.length≤1000000000∧d.fa.length≤1000000000∧d.eqs.length≤1000000000):Pure bb4 156 [.aq 5 (l.map cj.row)] (.bool (yz l)):=by
 have ap:=aT4 l aG aT
 obtain⟨R,ag⟩: ∃R,R=yz l:=⟨_,rfl⟩
 rw[←ag]
 refine cw be Tryz.func156 Vl (by simp only[b2,I.flat,e9,bc0]) rfl ?_
 unfold Kl Qr
 simp(disch:=omega)only[go_sem,simprocAttr]
 cases l with
 |nil=>
  refine ak ?_
  refine D.r ?_
  exact⟨_,rfl,.aF (by rw[ag]; rfl) rfl,trivial,trivial⟩
 |cons d t=>
  have d1: ¬((t.length:Int)+1)=0:=by omega
  have nM:((t.map cj.row).length:Int)=(t.length:Int):=by rw[bb5]
  simp only[yz,bb9]at ag
  cases ad:s7 (d::t) with
  |false=>
   rw[ad]at ag
   simp only[wG,ad]at ap
   (have ae:=d1;have z2:=nM;have z3:=@bb8;refine ep ?_;clear ae z2 z3)
   refine D.P (ap) ?_
   refine ak ?_
   refine D.r ?_
   exact⟨_,rfl,.aF (by rw[ag]; simp [I.aF]) rfl,trivial,trivial⟩
  |true=>
   rw[ad]at ag
   simp only[wG,ad]at ap
   (have ae:=d1;have z2:=nM;have z3:=@bb8;refine ep ?_;clear ae z2 z3)
   refine D.P (ap) ?_
   refine ak ?_
   refine D.r ?_
   exact⟨_,rfl,.aF (by rw[ag]; simp [I.aF]) rfl,trivial,trivial⟩
end
section
attribute [local go_sem] cf dn hE gz gy hB fK fZ e9 dM Fd.row eX fi df.row fc.row cj.row io r1 ru rB
theorem FK: ∀(l:List Int) (i:Nat){x v:Int},l[i]? =some x→x<0→0≤v→pn (l.set i v)+1=pn l
 |[],i,x,v,h,_,_=>by simp at h
 |y::l,0,x,v,h,ab,ad=>by
  simp only[List.getElem?_cons_zero,Option.some.injEq]at h
  subst h
  have d1: ¬v<0:=by omega
  simp only[pn,List.set_cons_zero,List.countP_cons,ab,d1,decide_true,decide_false,if_true,bd5,if_false,Nat.add_zero]
 |y::l,i+1,x,v,h,ab,ad=>by
  simp only[List.getElem?_cons_succ]at h
  have b7:=FK l i h ab ad
  simp only[pn,List.set_cons_succ,List.countP_cons]at b7 ⊢
  omega
theorem as4: ∀l:List Int,pn l≤l.length:=fun l=>List.countP_le_length
theorem as5 (n:Nat):pn (bc9 n (-1))=n:=by
 simp [pn,List.countP_replicate]
structure uU (N:Nat) (out todo:List Int):Prop where
 len:out.length=N
 Aa: ∀x∈todo,0≤x∧x<N∧0≤out.getD x.toNat 0
 val: ∀i:Nat,out.getD i 0+(pn out:Int)≤N
theorem uU.add {N:Nat}{out todo:List Int}(h:uU N out todo){u w:Int}(hu:u∈todo) (hw:0≤w∧w<N) (a1:out.getD w.toNat 0<0):uU N (out.set w.toNat (out.getD u.toNat 0+1)) (todo++[w])∧pn (out.set w.toNat (out.getD u.toNat 0+1))+1=pn out:=by
 obtain⟨s6,uF,x3⟩:=h.Aa u hu
 have aG:=h.len
 have bo:out[w.toNat]? =some (out.getD w.toNat 0):=by
  rw[be7,bd1 (show w.toNat<out.length by omega)]
  rfl
 have ad:=h.val u.toNat
 have sG:=FK out w.toNat (v:=out.getD u.toNat 0+1) bo a1 (by omega)
 have key: ∀i:Nat,(out.set w.toNat (out.getD u.toNat 0+1)).getD i 0=if i=w.toNat then out.getD u.toNat 0+1 else out.getD i 0:=fun i=>by
  simp only[be7,List.getElem?_set]
  by_cases e:w.toNat=i
  ·subst e
   rw[if_pos rfl,if_pos (by omega),if_pos rfl]
   rfl
  ·rw[if_neg e,if_neg (Ne.symm e)]
 refine⟨⟨by rw[bt4]; exact aG,fun x ab=> ?_,fun i=> ?_⟩,sG⟩
 ·rw[key]
  rcases List.mem_append.1 ab with ab|ab
  ·have:=h.Aa x ab
   refine⟨this.1,this.2.1,?_⟩
   split
   ·omega
   ·exact this.2.2
  ·simp only[List.mem_singleton]at ab
   subst ab
   refine⟨hw.1,hw.2,?_⟩
   rw[if_pos rfl]
   omega
 ·rw[key]
  have:=h.val i
  split<;>omega
theorem aT5 (l:List Int) (x:Int) (aG:l.length≤1000000000000):Pure bb4 259 [.aq 1 (l.map dM),.int .i64 x] (.int .i64 (dj (fun v=> !decide (x=v)) l 0)):=by
 refine cw be Tryz.func259 V9 (by simp only[b2,I.flat,hE,bc0]) rfl ?_
 unfold K7 Rf
 have iD:((l.map dM).length:Int)=(l.length:Int):=by rw[bb5]
 simp(disch:=omega)only[go_sem,simprocAttr]
 (have ae:=iD;refine bt ?_;clear ae)
 refine ar.cU (X:=Nat) 0 (fun i=>[(0,.aq 1 (l.map dM)),(1,.int .i64 x),(7,.int .i64 (l.length:Int)),(8,.int .i64 (i:Int))]) (fun _=>[]) (fun _=>[]) (fun i=>i≤l.length∧dj (fun v=> !decide (x=v)) (l.drop i) i=dj (fun v=> !decide (x=v)) l 0) (fun i=>l.length-i) ⟨bc3 _,rfl⟩ ⟨rfl,rfl,by simp only[Env.get,iD]; rfl,rfl,trivial⟩ trivial trivial ?_
 rintro i ⟨af,aw⟩
 try simp only at af aw ⊢
 cases ad:l[i]? with
 |none=>
  have b4:=List.getElem?_eq_none_iff.1 ad
  have d1: ¬(i:Int)<(l.length:Int):=by omega
  rw[bc6 b4]at aw
  (have ae:=d1;refine bt ?_;clear ae)
  refine D.r ?_
  exact⟨_,rfl,.aF (by rw[←aw]; rfl) rfl,trivial,trivial⟩
 |some v=>
  have cz:=(List.getElem?_eq_some_iff.1 ad).1
  have d1:(i:Int)<(l.length:Int):=by omega
  rw[eN ad]at aw
  simp only[dj]at aw
  by_cases e:x=v
  ·simp only[decide_eq_true e,bn7]at aw
   (have ae:=d1;have z2:=e;refine dQ ?_;clear ae z2)
   refine D.r ?_
   exact⟨_,rfl,.aF (by rw[←aw]; rfl) rfl,trivial,trivial⟩
  ·simp only[decide_eq_false e,bk1]at aw
   (have ae:=d1;have z2:=e;refine dQ ?_;clear ae z2)
   refine ar.hz (i+1) ⟨by omega,by rw[←aw]; rfl⟩ ⟨rfl,rfl,rfl,by simp only[bb8]; rfl,trivial⟩ trivial trivial (by show l.length-(i+1)<l.length-i; omega)
theorem Tn (l:List Int) (x:Int) (aG:l.length≤1000000000000):Pure bb4 159 [.aq 1 (l.map dM),.int .i64 x] (.bool (l.contains x)):=by
 have ap:=aT5 l x aG
 have ay:=uq (fun v=>decide (x=v)) l
 have b1:l.contains x=l.any fun v=>decide (x=v):=by
  rw[List.contains_eq_any_beq]
  rfl
 rw[b1,←ay]
 generalize dj (fun v=> !decide (x=v)) l 0=z at ap ⊢
 refine cw be Tryz.func159 Vo (by simp only[b2,I.flat,hE,bc0]) rfl ?_
 unfold Ko Qu
 simp(disch:=omega)only[go_sem,simprocAttr]
 refine ak ?_
 refine D.P (ap) ?_
 refine ak ?_
 exact D.rx
end
section
attribute [local go_sem] cf dn hE gz gy hB fK fZ e9 dM Fd.row eX fi df.row fc.row cj.row io r1 ru rB
theorem sK (l:List Int): ∀r∈l.map dM,r.length=1:=fun r ac=>by
 obtain⟨x,_,rfl⟩:=List.mem_map.1 ac
 rfl
theorem xu {l:List Int}{i:Nat}{x:Int}(h:l[i]? =some x):(l.map dM)[i]? =some [.int .i64 x]:=by
 rw[List.getElem?_map,h]
 rfl
theorem FC (l:List Int) (i:Nat) (x:Int):(l.map dM).set i [.int .i64 x]=(l.set i x).map dM:=by
 rw[List.map_set]
 rfl
theorem ai8 (n:Nat):bc9 n [I.int .i64 (-1)]=(bc9 n (-1)).map dM:=by
 rw[List.map_replicate]
 rfl
theorem To (g:di) (hb:qi g) (a1:uj g=true) (gG:Int) (aW:0≤gG) (U:gG<g.jA) (back:Bool):Pure bb4 160 [g.eL,.int .i64 gG,.bool back] (.aq 1 ((q0 g gG back).map dM)):=by
 have eg:=hb.ne
 simp only[uj,bb6,decide_eq_true_eq]at a1
 obtain⟨qS,p4,_,_,_,_,Cb,n4⟩:=a1
 have dc: ∀e∈g.cD,0≤(pS back e).1∧(pS back e).1<g.jA∧0≤(pS back e).2∧(pS back e).2<g.jA:=fun e he=>by
  have:=List.all_eq_true.1 n4 e he
  simp only[yF,bb6,decide_eq_true_eq]at this
  unfold pS
  split<;>simp only<;>omega
 clear n4
 obtain⟨N,cP⟩: ∃N:Nat,g.jA=(N:Int):=⟨g.jA.toNat,by omega⟩
 obtain⟨R,ag⟩: ∃R,R=q0 g gG back:=⟨_,rfl⟩
 rw[←ag]
 have En:=rI g
 have ly:=tL g
 simp only[q0]at ag
 rw[cP]at ag U qS p4 dc En ly
 rw[Int.toNat_natCast]at ag
 rw[En]
 refine ay4 be Tryz.func160 Vp (by simp only[b2,I.flat,dn,e9,fK,fZ,bc0]) ?_
 unfold Kp Qv
 have de:((g.cD.map df.row).length:Int)=(g.cD.length:Int):=by rw[bb5]
 have pm:=ax6 N (by omega) (by omega)
 rw[ai8]at pm
 simp(disch:=omega)only[go_sem,simprocAttr]
 refine ak ?_
 refine D.T0 pm ?_
 refine ak ?_
 have aG:gG.toNat<((bc9 N (-1)).map dM).length:=by rw[bb5,bg7]; omega
 refine D.sL gG.toNat aG ?_
 have bo:((bc9 N (-1)).map dM)[gG.toNat]? =some [.int .i64 (-1)]:=xu (by rw[bk0,if_pos (by omega)])
 refine D.stM (p:=gG.toNat) bo (sK _) ?_
 rw[show (I.int .i64 0).cells=[.int .i64 0] from rfl,FC]
 have sG:=FK (bc9 N (-1)) gG.toNat (x:= -1) (v:=0) (by rw[bk0,if_pos (by omega)]) (by decide) (Int.le_refl _)
 rw[as5]at sG
 have Nc: ∀i:Nat,((bc9 N (-1:Int)).set gG.toNat 0).getD i 0≤0∧(i=gG.toNat→0≤((bc9 N (-1:Int)).set gG.toNat 0).getD i 0):=fun i=>by
  simp only[be7,List.getElem?_set,bk0,bg7]
  by_cases e:gG.toNat=i
  ·rw[if_pos e]
   split<;>simp
  ·rw[if_neg e]
   refine⟨?_,fun h=>absurd h.symm e⟩
   split<;>simp
 have gQ:uU N ((bc9 N (-1)).set gG.toNat 0) [gG]:=by
  refine⟨by simp,fun x ab=> ?_,fun i=> ?_⟩
  ·simp only[List.mem_singleton]at ab
   subst ab
   exact⟨aW,U,(Nc _).2 rfl⟩
  ·have:=(Nc i).1
   omega
 have lC:2*pn ((bc9 N (-1)).set gG.toNat 0)+[gG].length≤2*N+1:=by
  simp only[bb9,bc4]
  omega
 generalize (bc9 N (-1)).set gG.toNat 0=au9 at gQ lC ag ⊢
 refine ak ?_
 refine ar.cU (X:=Nat×List Int×List Int×Nat) (2*N+2,au9,[gG],0) (fun q=>[(2,.bool back),(3,.ptr 0 0),(7,.cV 0 0),(8,.cV 1 q.2.2.2)]) (fun _=>[(0,32,g.cells)]) (fun q=>[(0,.bC 3 1 0 (q.2.1.map dM)),(1,.bC 3 1 q.2.2.2 (q.2.2.1.map dM))]) (fun q=>uU N q.2.1 q.2.2.1∧2*pn q.2.1+q.2.2.1.length<q.1∧q.1≤2*N+2∧R=wb g.cD back q.1 q.2.1 q.2.2.1) (fun q=>q.1) ⟨gQ,by simp only; omega,bc1 _,ag⟩ ⟨rfl,rfl,rfl,rfl,trivial⟩ ⟨by simp only[ly]; rfl,trivial⟩ ⟨rfl,rfl,trivial⟩ ?_
 clear ag lC gQ
 rintro⟨w0,out,todo,aU⟩ ⟨gQ,lC,y3,ag⟩
 try simp only at gQ lC y3 ag ⊢
 simp only[ly]
 have nM:(((todo.map dM).length:Nat):Int)=(todo.length:Int):=by rw[bb5]
 cases w0 with
 |zero=>omega
 |succ w0=>
 cases todo with
 |nil=>
  simp only[wb]at ag
  refine ak ?_
  refine D.B6 ?_
  refine ak ?_
  refine D.r ?_
  refine⟨_,rfl,?_⟩
  rw[ag]
  exact .cV rfl (hE _)
 |cons h cH=>
  simp only[wb]at ag
  have d0:(0:Int)<(cH.length:Int)+1:=by omega
  have iD:(cH.map dM).length=cH.length:=by rw[bb5]
  refine ak ?_
  refine D.B6 ?_
  generalize cR:r0 h back g.cD (out,h::cH)=F at ag
  (have ae:=d0;have z2:=de;have z3:=And.intro iD (And.intro @bb8 @Int.cast_ofNat_Int);refine ep ?_;clear ae z2 z3)
  refine ar.cU (X:=Nat×List Int×List Int×Nat) (0,out,h::cH,aU) (fun q=>[(2,.bool back),(3,.ptr 0 0),(7,.cV 0 0),(8,.cV 1 q.2.2.2),(28,.aq 6 (g.cD.map df.row)),(29,.int .i64 (g.cD.length:Int)),(30,.int .i64 (q.1:Int))]) (fun _=>[(0,32,g.cells)]) (fun q=>[(0,.bC 3 1 0 (q.2.1.map dM)),(1,.bC 3 1 q.2.2.2 (q.2.2.1.map dM))]) (fun q=>q.1≤g.cD.length∧uU N q.2.1 q.2.2.1∧2*pn q.2.1+q.2.2.1.length<w0+1∧q.2.2.1[0]? =some h∧r0 h back (g.cD.drop q.1) (q.2.1,q.2.2.1)=F) (fun q=>g.cD.length-q.1) ⟨bc3 _,gQ,lC,rfl,cR⟩ ⟨rfl,rfl,rfl,rfl,rfl,by simp only[Env.get,de]; rfl,rfl,trivial⟩ ⟨by simp only[ly]; rfl,trivial⟩ ⟨rfl,rfl,trivial⟩ ?_
  clear cR lC gQ d0 nM
  rintro⟨j,out,todo,aU⟩ ⟨bm,gQ,lC,aL,cR⟩
  try simp only at bm gQ lC aL cR ⊢
  simp only[ly]
  cases aw:g.cD[j]? with
  |none=>
   have b4:=List.getElem?_eq_none_iff.1 aw
   have d1: ¬(j:Int)<(g.cD.length:Int):=by omega
   rw[bc6 b4]at cR
   simp only[r0]at cR
   subst cR
   simp only at ag
   cases todo with
   |nil=>simp at aL
   |cons a b=>
   have tS:((a::b).map dM).length≠0:=by simp
   have vn:uU N out b:=⟨gQ.len,fun x ab=>gQ.Aa x (List.mem_cons_of_mem _ ab),gQ.val⟩
   rw[bb9]at lC
   (have ae:=d1;refine bt ?_;clear ae)
   refine D.aP7 tS ?_
   refine ak ?_
   refine ar.hz (w0,out,b,aU+1) ⟨vn,by simp only; omega,by simp only; omega,ag⟩ ⟨rfl,rfl,rfl,rfl,trivial⟩ ⟨by simp only[ly]; rfl,trivial⟩ ⟨rfl,rfl,trivial⟩ (by show w0<w0+1; omega)
  |some e=>
   have cz:=(List.getElem?_eq_some_iff.1 aw).1
   have d1:(j:Int)<(g.cD.length:Int):=by omega
   have he:=dc e (bc2 aw)
   rw[eN aw]at cR
   simp only[r0]at cR
   have rN:0<(todo.map dM).length:=by
    cases todo with
    |nil=>simp at aL
    |cons a b=>simp
   have iI:=xu aL
   have ae1:=as4 out
   rw[gQ.len]at ae1
   obtain⟨jG,kw,je,a33,jF,a34⟩:=e
   cases back with
   |false=>
    simp only[pS,if_true,bd5,if_false]at he cR
    (have ae:=d1;refine bt ?_;clear ae)
    refine D.sL 0 rN ?_
    refine D.xx (p:=0) iI (sK _) ?_
    by_cases hu:jG=h
    rotate_left
    ·rw[if_neg (fun an=>hu an.1)]at cR
     (have ae:=hu;refine bt ?_;clear ae)
     refine ar.hz (j+1,out,todo,aU) ⟨by simp only; omega,gQ,lC,aL,cR⟩ ⟨rfl,rfl,rfl,rfl,rfl,rfl,by simp only[bb8]; rfl,trivial⟩ ⟨by simp only[ly]; rfl,trivial⟩ ⟨rfl,rfl,trivial⟩ (by show g.cD.length-(j+1)<g.cD.length-j; omega)
    subst hu
    have E8:out[(jF).toNat]? =some (out.getD (jF).toNat 0):=by
     have:=gQ.len
     rw[be7,bd1 (show (jF).toNat<out.length by omega)]
     rfl
    have E6:out[(jG).toNat]? =some (out.getD (jG).toNat 0):=by
     have:=gQ.len
     rw[be7,bd1 (show (jG).toNat<out.length by omega)]
     rfl
    have vw:(jF).toNat<(out.map dM).length:=by rw[bb5,gQ.len]; omega
    have Fc:(jG).toNat<(out.map dM).length:=by rw[bb5,gQ.len]; omega
    have y6:=xu E8
    have E7:=xu E6
    refine ak ?_
    refine D.sL (jF).toNat vw ?_
    refine b0 ?_
    refine D.xx (p:=(jF).toNat) y6 (sK _) ?_
    by_cases qH:out.getD (jF).toNat 0<0
    rotate_left
    ·rw[if_neg (fun an=>qH an.2)]at cR
     (have ae:=qH;refine bt ?_;clear ae)
     refine ar.hz (j+1,out,todo,aU) ⟨by simp only; omega,gQ,lC,aL,cR⟩ ⟨rfl,rfl,rfl,rfl,rfl,rfl,by simp only[bb8]; rfl,trivial⟩ ⟨by simp only[ly]; rfl,trivial⟩ ⟨rfl,rfl,trivial⟩ (by show g.cD.length-(j+1)<g.cD.length-j; omega)
    rw[if_pos ⟨rfl,qH⟩]at cR
    have zf:jG∈todo:=bc2 aL
    obtain⟨vn,sG⟩:=gQ.add zf ⟨he.2.2.1,he.2.2.2⟩ qH
    have mP:=(gQ.Aa _ zf).2.2
    have gH:=gQ.val (jG).toNat
    have ms:(todo++[jF])[0]? =some jG:=by
     cases todo with
     |nil=>simp at aL
     |cons a b=>exact aL
    have BY:todo.length≤1000000:=by omega
    have vz:=FC out (jF).toNat (out.getD (jG).toNat 0+1)
    (have ae:=qH;refine bt ?_;clear ae)
    refine D.sL (jG).toNat Fc ?_
    refine D.xx (p:=(jG).toNat) E7 (sK _) ?_
    generalize ah0:out.getD (jG).toNat 0=ta at mP gH vz vn sG cR ⊢
    have ag8:ta≤200:=by omega
    refine ak ?_
    refine D.sL (jF).toNat vw ?_
    refine D.stM (p:=(jF).toNat) y6 (sK _) ?_
    rw[show (I.int .i64 (ta+1)).cells=[.int .i64 (ta+1)] from rfl,vz]
    refine ak ?_
    refine D.Ib ?_
    refine ak ?_
    refine ar.hz (j+1,out.set (jF).toNat (ta+1),todo++[jF],aU+1) ⟨by simp only; omega,vn,by simp only[bb7,bb9,bc4]; omega,ms,cR⟩ ⟨rfl,rfl,rfl,rfl,rfl,rfl,by simp only[bb8]; rfl,trivial⟩ ⟨by simp only[ly]; rfl,trivial⟩ ⟨rfl,by simp only[be5]; rfl,trivial⟩ (by show g.cD.length-(j+1)<g.cD.length-j; omega)
   |true=>
    simp only[pS,if_true,bd5,if_false]at he cR
    (have ae:=d1;refine bt ?_;clear ae)
    refine D.sL 0 rN ?_
    refine D.xx (p:=0) iI (sK _) ?_
    by_cases hu:jF=h
    rotate_left
    ·rw[if_neg (fun an=>hu an.1)]at cR
     (have ae:=hu;refine bt ?_;clear ae)
     refine ar.hz (j+1,out,todo,aU) ⟨by simp only; omega,gQ,lC,aL,cR⟩ ⟨rfl,rfl,rfl,rfl,rfl,rfl,by simp only[bb8]; rfl,trivial⟩ ⟨by simp only[ly]; rfl,trivial⟩ ⟨rfl,rfl,trivial⟩ (by show g.cD.length-(j+1)<g.cD.length-j; omega)
    subst hu
    have E8:out[(jG).toNat]? =some (out.getD (jG).toNat 0):=by
     have:=gQ.len
     rw[be7,bd1 (show (jG).toNat<out.length by omega)]
     rfl
    have E6:out[(jF).toNat]? =some (out.getD (jF).toNat 0):=by
     have:=gQ.len
     rw[be7,bd1 (show (jF).toNat<out.length by omega)]
     rfl
    have vw:(jG).toNat<(out.map dM).length:=by rw[bb5,gQ.len]; omega
    have Fc:(jF).toNat<(out.map dM).length:=by rw[bb5,gQ.len]; omega
    have y6:=xu E8
    have E7:=xu E6
    refine ak ?_
    refine D.sL (jG).toNat vw ?_
    refine b0 ?_
    refine D.xx (p:=(jG).toNat) y6 (sK _) ?_
    by_cases qH:out.getD (jG).toNat 0<0
    rotate_left
    ·rw[if_neg (fun an=>qH an.2)]at cR
     (have ae:=qH;refine bt ?_;clear ae)
     refine ar.hz (j+1,out,todo,aU) ⟨by simp only; omega,gQ,lC,aL,cR⟩ ⟨rfl,rfl,rfl,rfl,rfl,rfl,by simp only[bb8]; rfl,trivial⟩ ⟨by simp only[ly]; rfl,trivial⟩ ⟨rfl,rfl,trivial⟩ (by show g.cD.length-(j+1)<g.cD.length-j; omega)
    rw[if_pos ⟨rfl,qH⟩]at cR
    have zf:jF∈todo:=bc2 aL
    obtain⟨vn,sG⟩:=gQ.add zf ⟨he.2.2.1,he.2.2.2⟩ qH
    have mP:=(gQ.Aa _ zf).2.2
    have gH:=gQ.val (jF).toNat
    have ms:(todo++[jG])[0]? =some jF:=by
     cases todo with
     |nil=>simp at aL
     |cons a b=>exact aL
    have BY:todo.length≤1000000:=by omega
    have vz:=FC out (jG).toNat (out.getD (jF).toNat 0+1)
    (have ae:=qH;refine bt ?_;clear ae)
    refine D.sL (jF).toNat Fc ?_
    refine D.xx (p:=(jF).toNat) E7 (sK _) ?_
    generalize ah0:out.getD (jF).toNat 0=ta at mP gH vz vn sG cR ⊢
    have ag8:ta≤200:=by omega
    refine ak ?_
    refine D.sL (jG).toNat vw ?_
    refine D.stM (p:=(jG).toNat) y6 (sK _) ?_
    rw[show (I.int .i64 (ta+1)).cells=[.int .i64 (ta+1)] from rfl,vz]
    refine ak ?_
    refine D.Ib ?_
    refine ak ?_
    refine ar.hz (j+1,out.set (jG).toNat (ta+1),todo++[jG],aU+1) ⟨by simp only; omega,vn,by simp only[bb7,bb9,bc4]; omega,ms,cR⟩ ⟨rfl,rfl,rfl,rfl,rfl,rfl,by simp only[bb8]; rfl,trivial⟩ ⟨by simp only[ly]; rfl,trivial⟩ ⟨rfl,by simp only[be5]; rfl,trivial⟩ (by show g.cD.length-(j+1)<g.cD.length-j; omega)
end
section
attribute [local go_sem] cf dn hE gz gy hB fK fZ e9 dM Fd.row eX fi df.row fc.row cj.row io r1 ru rB
theorem G5: ∀(es:List df) (back:Bool) (n:Nat) (out todo:List Int),(wb es back n out todo).length=out.length
 | _,_,0,_,_=>rfl
 | _,_,_+1,_,[]=>rfl
 |es,back,n+1,out,h::todo=>by
  have key: ∀(es:List df) (s:List Int×List Int),(r0 h back es s).1.length=s.1.length:=fun es=>by
   induction es with
   |nil=>intro s; rfl
   |cons e l b7=>
    intro s
    simp only[r0]
    split
    ·rw[b7]; simp
    ·exact b7 s
  simp only[wb]
  rw[G5 es back n,key]
theorem aV8 (g:di) (hb:qi g):Pure bb4 82 [g.eL] (.bool (uH g)):=by
 have ap:=aS2 g hb
 have ay:=aS3 g hb
 have b1:=aS4 g.decls hb.FJ hb.nf
 have dC:=aS5 g hb
 have gF:=aS6 g hb
 obtain⟨R,ag⟩: ∃R,R=uH g:=⟨_,rfl⟩
 rw[←ag]
 simp only[uH]at ag
 have rG:=rI g
 generalize xe:g.eL=eL at*
 subst rG
 refine cw be Tryz.func82 W7 (by simp only[b2,I.flat,dn,e9,fK,fZ,bc0]) rfl ?_
 unfold wV Sb
 generalize zA g=e5 at ap ag
 generalize yz g.decls=jZ at b1 ag
 generalize zJ g=om at dC ag
 generalize z7 g=yl at gF ag
 simp(disch:=omega)only[go_sem,simprocAttr]
 refine ak ?_
 refine D.P (ap) ?_
 cases e5 with
 |false=>
  refine ak ?_
  refine D.r ?_
  exact⟨_,rfl,.aF (by rw[ag]; rfl) rfl,trivial,trivial⟩
 |true=>
 cases aa:uj g with
 |false=>
  rw[aa]at ag ay
  refine ak ?_
  refine D.P (ay) ?_
  refine ak ?_
  refine D.r ?_
  exact⟨_,rfl,.aF (by rw[ag]; rfl) rfl,trivial,trivial⟩
 |true=>
 rw[aa]at ag ay
 have a1:=aa
 simp only[uj,bb6,decide_eq_true_eq]at a1
 obtain⟨qS,p4,Cb,n4,ar4,ar5,_,_⟩:=a1
 have nW:=To g hb aa g.start Cb ar4 false
 have va:=To g hb aa g.fin n4 ar5 true
 rw[xe]at nW va
 have ao2:(q0 g g.start false).length≤1000:=by unfold q0; rw[G5,bt4,bg7]; omega
 have ao3:(q0 g g.fin true).length≤1000:=by unfold q0; rw[G5,bt4,bg7]; omega
 generalize q0 g g.start false=SC at nW ao2 ag
 generalize q0 g g.fin true=SD at va ao3 ag
 have L0:=Tn SC (-1) (by omega)
 have L1:=Tn SD (-1) (by omega)
 generalize SC.contains (-1)=AP at L0 ag
 generalize SD.contains (-1)=AQ at L1 ag
 refine ak ?_
 refine D.P (ay) ?_
 refine ak ?_
 refine D.P (b1) ?_
 cases jZ with
 |false=>
  refine ak ?_
  refine D.r ?_
  exact⟨_,rfl,.aF (by rw[ag]; rfl) rfl,trivial,trivial⟩
 |true=>
 refine ak ?_
 refine D.P (dC) ?_
 cases om with
 |false=>
  refine ak ?_
  refine D.r ?_
  exact⟨_,rfl,.aF (by rw[ag]; rfl) rfl,trivial,trivial⟩
 |true=>
 refine ak ?_
 refine D.P (gF) ?_
 cases yl with
 |false=>
  refine ak ?_
  refine D.r ?_
  exact⟨_,rfl,.aF (by rw[ag]; rfl) rfl,trivial,trivial⟩
 |true=>
 refine ak ?_
 refine D.P (nW) ?_
 refine ak ?_
 refine D.P (L0) ?_
 cases AP with
 |true=>
  refine ak ?_
  refine D.r ?_
  exact⟨_,rfl,.aF (by rw[ag]; rfl) rfl,trivial,trivial⟩
 |false=>
 refine ak ?_
 refine D.P (va) ?_
 refine ak ?_
 refine D.P (L1) ?_
 refine ak ?_
 refine D.r ?_
 exact⟨_,rfl,.aF (by rw[ag]; cases AQ<;>rfl) rfl,trivial,trivial⟩
end
section
theorem xL (x:cQ) (g:di) (hb:oX x) (bo:qi g):Pure bb4 31 [x.eL,g.eL] (tr (j9 x g)):=aU4 x g hb bo.FJ bo.Ox bo.ne (aV8 g bo)
end
end Go.ba.T.N
namespace Go.ba
open Go Go.ba.T.N
structure q9 where
 x:cQ
 ps:List (List UInt8)
 bH:List Int
 Bc:Bool
 code:List hM
def q9.add (s:q9) (l:List hM):q9:=⟨s.x,s.ps,s.bH,s.Bc,s.code++l⟩
def ar8 (dB:pD) (m:List UInt8):Bool:=if 0≤ht dB.ps m then decide ((ht dB.ps m).toNat<dB.bH.length) else dB.vars.any fun v=>decide (v.name=m)
mutual
def Pm (dB:pD):au→Bool
 | .mk k o m t n l=>if k=1∨k=2 then true else if k=3 then ar8 dB m else if k=4∨k=5 then decide (l.length=1)&&zH dB l else decide (l.length=2)&&zH dB l
def zH (dB:pD):List au→Bool
 |[]=>true
 |x::l=>Pm dB x&&zH dB l
end
mutual
def au2 (dB:pD):ai→Bool
 | .mk k m x t a b=>Pm dB x&&(if k=1 then dB.vars.any (fun v=>decide (v.name=m)) else Ci dB a&&Ci dB b)
def Ci (dB:pD):List ai→Bool
 |[]=>true
 |x::l=>au2 dB x&&Ci dB l
end
end Go.ba
namespace Go.ba.T.N
open Go Go.ba Go.Proofs Go.RowKit
set_option maxRecDepth 100000
attribute [local irreducible] Go.ba.ar Go.ba.al Go.ba.bg
section
attribute [local go_sem] bJ.row dW fo dF gv of_flat cf dn hE gz gy hB fK fZ e9 dM Fd.row eX fi df.row fc.row cj.row
def AZ (s:q9):List I:=[.str s.x.name,.str s.x.bO,.str s.x.fM,.aq 7 (s.x.vars.map bJ.row),.aq 4 (s.x.ao.map bS.row),.aq 4 (s.x.os.map cn.row),.cV 0 s.code.length,.aq 1 (s.ps.map cf),.aq 1 (s.bH.map dM),.bool s.Bc]
def A0 (s:q9):eK:=[(0,.bC 64 3 s.code.length (s.code.map hM.row))]
def NQ (s:q9):aN:=aN.of 1 1 [(0,151,AZ s)] (A0 s)
def HV (v:I) (s:q9):Out→aN→Prop:=dA v [(0,151,AZ s)] (A0 s)
theorem tt (l:List hM):eY (l.map hM.row)=true:=ml (fun _=>rfl) l
attribute [local go_sem] tt hM.row AZ A0 NQ HV q9.add
end
section
attribute [local go_sem] bJ.row dW fo dF gv of_flat cf dn hE gz gy hB fK fZ e9 dM Fd.row eX fi df.row fc.row cj.row au.cO ai.cO au.cx ai.cx au.dd ai.dd
theorem Jo (T n v:Nat) (rows:List (List I)):(bM.bC T n v rows).lu=some rows:=rfl
attribute [local go_sem] tt hM.row AZ A0 NQ HV q9.add Jo
structure a11 (s:q9):Prop where
 lZ:s.x.vars.length≤1000000000000
 a73:s.ps.length≤1000000000000
 a71:s.bH.length≤1000000000000
end
section
attribute [local go_sem] bJ.row dW fo dF gv of_flat cf dn hE gz gy hB fK fZ e9 dM Fd.row eX fi df.row fc.row cj.row au.cO ai.cO au.cx ai.cx au.dd ai.dd
attribute [local go_sem] tt hM.row Jo io
structure a16 (x:cQ) (g:di):Prop where
 ao: ∀h∈x.ao,(0≤nV g h.da∧nV g h.da<g.decls.length)∧Ci ⟨x.vars,h.ps,NW g h.da⟩ h.body=true∧h.ps.length≤1000000∧ai.ch h.body≤1000000
 os: ∀o∈x.os,zH ⟨x.vars,[],[]⟩ o.args=true∧zH ⟨x.vars,[],[]⟩ o.eb=true∧o.args.length≤1000000∧o.eb.length≤1000000
 cg: ∀d∈g.decls,d.fields.length≤1000000
 cl:(XE x g).length≤1000000000
 lZ:x.vars.length≤1000000
 lY:x.ao.length≤1000000
 no:x.os.length≤1000000
def UH (x:cQ) (g:di) (aH9:Int) (aq ao os:List (List I)) (code:List hM) (Bc:Bool):eJ:=[(0,48,[.str x.name,.str x.bO,.str x.fM,.aq 7 (x.vars.map bJ.row),.aq 4 (x.ao.map bS.row),.aq 4 (x.os.map cn.row)]),(1,32,[.str g.name,.aq 1 (g.dl.map cf),.aq 5 (g.decls.map cj.row),.int .i64 g.jA,.int .i64 g.start,.int .i64 g.fin,.aq 6 (g.cD.map df.row),.aq 3 (g.jm.map fc.row)]),(2,40,[.str [],.int .i64 0,.bi,.bi,.bi,.bi]),(3,151,[.str x.name,.str x.bO,.str x.fM,.aq 7 (x.vars.map bJ.row),.aq 4 (x.ao.map bS.row),.aq 4 (x.os.map cn.row),.cV 0 code.length,.aq 1 [],.aq 1 [],.bool Bc]),(4,40,[.str x.name,.int .i64 aH9,.own 1 7 aq,.own 2 3 ao,.own 3 4 os,.bi])]
def aP6 (aq ao os:List (List I)) (code:List hM):eK:=[(0,.bC 64 3 code.length (code.map hM.row)),(1,.bY 152 7 aq.length),(2,.bY 58 3 ao.length),(3,.bY 62 4 os.length)]
def YB (l:List (Nat×I)):Env:=(2,.ptr 0 0)::(3,.ptr 1 0)::(4,.ptr 2 0)::(8,.ptr 3 0)::(9,.ptr 4 0)::l
theorem sC (l:List (Int×Int×Int)):eY (l.map k7)=true:=ml (fun _=>rfl) l
theorem xB (l:List (Int×Int×Int×Int)):eY (l.map vQ)=true:=ml (fun _=>rfl) l
attribute [local go_sem] sC xB k7 vQ UH aP6 YB
end
section
theorem dz.yn {α β:Type}{r:dz α}{f:α→dz β}{b:β}(h:r.bind f= .ok b): ∃a,r= .ok a∧f a= .ok b:=by
 cases r with
 |ok a=>exact⟨a,rfl,h⟩
 |err n e=>cases h
end
section
theorem Ca {b:Bool}{n:List UInt8}{e:Int}{u:Unit}(h:fS b n e= .ok u):b=true:=by
 unfold fS at h
 split at h
 ·assumption
 ·cases h
end
section
def _root_.Go.ba.dz.lk {α:Type}:dz α→Prop
 | .ok _=>True
 | .err _ e=>e≠0
theorem hQ {α β:Type}{r:dz α}{f:α→dz β}(h:r.lk) (aT: ∀a,r= .ok a→(f a).lk):(r.bind f).lk:=by
 cases r with
 |ok a=>exact aT a rfl
 |err n e=>exact h
theorem lW {b:Bool}{n:bw}{e:Int}(h:e≠0):(fS b n e).lk:=by
 unfold fS
 split
 ·trivial
 ·exact h
theorem as0 (aV:ef) (n:bw):(pk aV n).lk:=by
 unfold pk
 split
 ·trivial
 ·split
  ·trivial
  ·show (10:Int)≠0; decide
theorem an9 (aV:ef) (k:Int) (o m:bw) (bH:List Int):(pf aV k o m bH).lk:=by
 unfold pf
 repeat' split
 all_goals first
  |trivial
  |exact as0 _ _
  |exact hQ (lW (by decide)) fun _ _=>trivial
mutual
theorem xw (aV:ef): ∀x:au,(kd aV x).lk
 | .mk k o m t n l=>by
  simp only[kd]
  exact hQ (NU aV l) fun bH _=>an9 aV k o m bH
theorem NU (aV:ef): ∀l:List au,(lf aV l).lk
 |[]=>by simp only[lf]; trivial
 |x::l=>by
  simp only[lf]
  exact hQ (xw aV x) fun _ _=>hQ (NU aV l) fun _ _=>trivial
end
theorem Ul (aV:ef) (n:bw) (x:au):(qn aV n x).lk:=
 hQ (lW (by decide)) fun _ _=>hQ (lW (by decide)) fun _ _=>hQ (xw aV x) fun _ _=>lW (by decide)
mutual
theorem aN7 (aV:ef): ∀x:ai,(qc aV x).lk
 | .mk k m x t a b=>by
  simp only[qc]
  split
  ·exact Ul aV m x
  ·refine hQ ?_ fun _ _=>hQ (CO aV a) fun _ _=>CO aV b
   split
   ·exact hQ (xw aV x) fun _ _=>lW (by decide)
   ·split
    ·exact hQ (xw aV x) fun _ _=>lW (by decide)
    ·trivial
theorem CO (aV:ef): ∀l:List ai,(j4 aV l).lk
 |[]=>by simp only[j4]; trivial
 |x::l=>by
  simp only[j4]
  exact hQ (aN7 aV x) fun _ _=>CO aV l
end
theorem Tw: ∀(l a:List bJ),(nh a l).lk
 |[],a=>by simp only[nh]; trivial
 |v::l,a=>by
  simp only[nh]
  exact hQ (lW (by decide)) fun _ _=>hQ (lW (by decide)) fun _ _=>Tw l _
theorem PE {α:Type}(f:α→Bool): ∀(l:List α) (i:Nat),dj f l i<(i:Int)+l.length
 |[],i=>by simp only[dj,bc4]; omega
 |x::l,i=>by
  have:=PE f l (i+1)
  simp only[dj,bb9]
  cases f x with
  |true=>simp only[cond_true]; omega
  |false=>simp only[cond_false]; omega
theorem N6 (aV:ef) (p q:bw) (b:Bool):(uh aV p q b).lk:=by
 refine hQ (lW (by decide)) fun _ h=>hQ (lW (by decide)) fun _ _=>hQ (lW (by decide)) fun _ _=> ?_
 have U:0≤nV aV.g p:=by simpa using Ca h
 have aa:nV aV.g p<aV.g.decls.length:=by
  have:=PE (fun d:cj=> !decide (d.name=p)) aV.g.decls 0
  unfold nV
  omega
 rw[bd1 (by omega)]
 trivial
theorem Pu (vars:List bJ): ∀(ps:List bw) (cg:List Fd) (acc:List (bw×Int)),(nF vars acc ps cg).lk
 |[],_,_=>by simp only[nF]; trivial
 | _:: _,[],_=>by simp only[nF]; trivial
 |n::ps,f::cg,acc=>by
  simp only[nF]
  exact hQ (lW (by decide)) fun _ _=>Pu vars ps cg _
theorem ZW (aV:ef) (a:List bS) (h:bS):(mo aV a h).lk:=
 hQ (N6 aV h.da h.peer true) fun _ _=>hQ (lW (by decide)) fun _ _=>hQ (lW (by decide)) fun _ _=>hQ (Pu _ _ _ _) fun _ _=>CO _ _
theorem Io (aV:ef) (da:bw): ∀(l:List au) (cg:List Fd),(lq aV da l cg).lk
 |[],_=>by simp only[lq]; trivial
 | _:: _,[]=>by simp only[lq]; trivial
 |x::l,f::cg=>by
  simp only[lq]
  exact hQ (xw aV x) fun _ _=>hQ (lW (by decide)) fun _ _=>Io aV da l cg
theorem TC (aV:ef): ∀(l:List au),(ni aV l).lk
 |[]=>by simp only[ni]; trivial
 |x::l=>by
  simp only[ni]
  exact hQ (xw aV x) fun _ _=>hQ (lW (by decide)) fun _ _=>TC aV l
theorem at6 (aV:ef) (o:cn):(n7 aV o).lk:=
 hQ (N6 aV o.da o.peer false) fun _ _=>hQ (lW (by decide)) fun _ _=>hQ (Io _ _ _ _) fun _ _=>TC _ _
theorem MW (aV:ef): ∀(l a:List bS),(oE aV a l).lk
 |[],_=>by simp only[oE]; trivial
 |h::l,a=>by
  simp only[oE]
  exact hQ (ZW aV a h) fun _ _=>MW aV l _
theorem Pk (aV:ef): ∀(l:List cn),(oK aV l).lk
 |[]=>by simp only[oK]; trivial
 |o::l=>by
  simp only[oK]
  exact hQ (at6 aV o) fun _ _=>Pk aV l
theorem aw9 (x:cQ) (g:di):(p6 x g).lk:=
 hQ (lW (by decide)) fun _ _=>hQ (lW (by decide)) fun _ _=>hQ (Tw _ _) fun _ _=>hQ (MW _ _ _) fun _ _=>Pk _ _
end
section
theorem A2 {x:cQ}{g:di}:(j9 x g).2=0↔n0 x=true∧uH g=true∧p6 x g= .ok ():=by
 unfold j9
 cases ad:(n0 x&&uH g) with
 |false=>
  rw[if_neg (by simp)]
  constructor
  ·intro h; exact absurd h (by decide)
  ·rintro⟨U,aa,_⟩
   rw[U,aa]at ad
   cases ad
 |true=>
  rw[if_pos rfl]
  simp only[bb6]at ad
  have aw:=aw9 x g
  cases hp:p6 x g with
  |ok u=>exact⟨fun _=>⟨ad.1,ad.2,rfl⟩,fun _=>rfl⟩
  |err n e=>
   rw[hp]at aw
   constructor
   ·intro h; exact absurd h aw
   ·rintro⟨_,_,h⟩; cases h
theorem F2 {x:cQ}{g:di}(h:p6 x g= .ok ()):x.fM=g.name∧0≤ht g.dl x.bO∧nh [] x.vars= .ok ()∧oE ⟨x,g,max (ht g.dl x.bO) 0,none⟩ [] x.ao= .ok ()∧oK ⟨x,g,max (ht g.dl x.bO) 0,none⟩ x.os= .ok ():=by
 unfold p6 at h
 obtain⟨_,U,h⟩:=dz.yn h
 obtain⟨_,aa,h⟩:=dz.yn h
 obtain⟨_,aD,h⟩:=dz.yn h
 obtain⟨_,bA,b6⟩:=dz.yn h
 exact⟨by simpa using Ca U,by simpa using Ca aa,aD,bA,b6⟩
theorem Pw {x:cQ}{g:di}(U:x.fM=g.name) (aa:0≤ht g.dl x.bO) (aD:nh [] x.vars= .ok ()) (bA:oE ⟨x,g,max (ht g.dl x.bO) 0,none⟩ [] x.ao= .ok ()) (b6:oK ⟨x,g,max (ht g.dl x.bO) 0,none⟩ x.os= .ok ()):p6 x g= .ok ():=by
 unfold p6 fS
 rw[if_pos (by simpa using U),if_pos (by simpa using aa),aD,bA,b6]
 rfl
end
end Go.ba.T.N
set_option maxRecDepth 100000
namespace Go.ba.T.N
open Go Go.ba Go.Proofs Go.ChangeShapes Go.WideShapes Go.RowKit
def jr:List TypeId:=[9,92,113,116,120,178,72,76,131,342,438,439]
theorem L5:GP bb4 jr=true:=by kernel_rfl
theorem Sq:jz bb4 jr 8 120=some [.dr (.i .i64),.dr .s,.dr .s,.dr .s,.dr (.i .i64),.gW 120]:=by kernel_rfl
theorem aI5:jz bb4 jr 8 178=some [.dr (.i .i64),.dr .s,.dr (.i .i64),.dr .s,.dr .s,.dr .s,.dr (.i .i64),.gW 120,.dr (.i .i64),.gW 178,.gW 178]:=by kernel_rfl
theorem aJ3:jz bb4 jr 8 9=some [.dr .s]:=by kernel_rfl
theorem aJ4:jz bb4 jr 8 92=some [.dr .s,.dr (.i .i64),.dr (.i .i64),.dr (.i .i64),.dr (.i .i64),.dr (.i .i64),.dr .s]:=by kernel_rfl
theorem aI2:jz bb4 jr 8 113=some [.dr .s,.dr .s,.gW 9,.gW 178]:=by kernel_rfl
theorem aI3:jz bb4 jr 8 116=some [.dr .s,.dr .s,.gW 120,.gW 120]:=by kernel_rfl
theorem aI6:jz bb4 jr 8 26=some [.dr .s,.dr .s,.dr .s,.gW 92,.gW 113,.gW 116]:=by kernel_rfl
theorem Hb:Tryz.prog.cellsOf 120=6:=by kernel_rfl
theorem S1:Tryz.prog.cellsOf 178=11:=by kernel_rfl
theorem Ja:Tryz.prog.cellsOf 9=1:=by kernel_rfl
theorem Xq:Tryz.prog.cellsOf 92=7:=by kernel_rfl
theorem Xi:Tryz.prog.cellsOf 113=4:=by kernel_rfl
theorem Xj:Tryz.prog.cellsOf 116=4:=by kernel_rfl
theorem Dv:Tryz.prog.bytesOf 120=88:=by kernel_rfl
theorem II:Tryz.prog.bytesOf 178=168:=by kernel_rfl
theorem AR:Tryz.prog.bytesOf 9=16:=by kernel_rfl
theorem Ur:Tryz.prog.bytesOf 92=72:=by kernel_rfl
theorem Uo:Tryz.prog.bytesOf 113=80:=by kernel_rfl
theorem Up:Tryz.prog.bytesOf 116=80:=by kernel_rfl
theorem Xk:Tryz.prog.cellsOf 131=4:=by kernel_rfl
theorem Xm:Tryz.prog.cellsOf 438=3:=by kernel_rfl
theorem Xn:Tryz.prog.cellsOf 439=2:=by kernel_rfl
theorem Xl:Tryz.prog.cellsOf 342=3:=by kernel_rfl
theorem Xp:Tryz.prog.cellsOf 76=6:=by kernel_rfl
theorem Xo:Tryz.prog.cellsOf 72=5:=by kernel_rfl
theorem aI4:jz bb4 jr 8 131=some [.dr .s,.dr (.i .i64),.dr (.i .i64),.dr (.i .i64)]:=by kernel_rfl
theorem aI9:jz bb4 jr 8 438=some [.dr (.i .i64),.dr (.i .i64),.dr (.i .i64)]:=by kernel_rfl
theorem aJ0:jz bb4 jr 8 439=some [.dr (.i .i64),.dr (.i .i64)]:=by kernel_rfl
theorem aI8:jz bb4 jr 8 342=some [.dr (.i .i64),.dr (.i .i64),.dr (.i .i64)]:=by kernel_rfl
theorem aJ2:jz bb4 jr 8 76=some [.dr (.i .i64),.dr (.i .i64),.dr (.i .i64),.dr (.i .i64),.dr (.i .i64),.dr .b]:=by kernel_rfl
theorem aJ1:jz bb4 jr 8 72=some [.dr .s,.gW 131,.dr (.i .i64),.gW 438,.gW 439]:=by kernel_rfl
theorem aI7:jz bb4 jr 8 32=some [.dr .s,.gW 9,.gW 72,.dr (.i .i64),.dr (.i .i64),.dr (.i .i64),.gW 76,.gW 342]:=by kernel_rfl
variable {R:Nat}
theorem YW: ∀(n:Nat) (r:List I),lp bb4 jr R n 131 r→∃v:Fd,r=Fd.row v∧True
 |0,_,h=>h.elim
 |n+1,r,h=>by
  obtain⟨bH,U,aa⟩:=h
  rw[aI4]at U
  cases U
  simp only[ix,gZ.ok]at aa
  obtain⟨_,_,rfl,⟨er,rfl,_⟩,_,_,rfl,⟨a2,rfl,_⟩,_,_,rfl,⟨a3,rfl,_⟩,_,_,rfl,⟨a4,rfl,_⟩,rfl⟩:=aa
  exact⟨⟨er,a2,a3,a4⟩,rfl,trivial⟩
theorem Yl: ∀(n:Nat) (r:List I),lp bb4 jr R n 438 r→∃v:Int×Int×Int,r=eX v∧True
 |0,_,h=>h.elim
 |n+1,r,h=>by
  obtain⟨bH,U,aa⟩:=h
  rw[aI9]at U
  cases U
  simp only[ix,gZ.ok]at aa
  obtain⟨_,_,rfl,⟨er,rfl,_⟩,_,_,rfl,⟨a2,rfl,_⟩,_,_,rfl,⟨a3,rfl,_⟩,rfl⟩:=aa
  exact⟨(er,a2,a3),rfl,trivial⟩
theorem YN: ∀(n:Nat) (r:List I),lp bb4 jr R n 439 r→∃v:Int×Int,r=fi v∧True
 |0,_,h=>h.elim
 |n+1,r,h=>by
  obtain⟨bH,U,aa⟩:=h
  rw[aJ0]at U
  cases U
  simp only[ix,gZ.ok]at aa
  obtain⟨_,_,rfl,⟨er,rfl,_⟩,_,_,rfl,⟨a2,rfl,_⟩,rfl⟩:=aa
  exact⟨(er,a2),rfl,trivial⟩
theorem aQ1: ∀(n:Nat) (r:List I),lp bb4 jr R n 342 r→∃v:fc,r=fc.row v∧True
 |0,_,h=>h.elim
 |n+1,r,h=>by
  obtain⟨bH,U,aa⟩:=h
  rw[aI8]at U
  cases U
  simp only[ix,gZ.ok]at aa
  obtain⟨_,_,rfl,⟨er,rfl,_⟩,_,_,rfl,⟨a2,rfl,_⟩,_,_,rfl,⟨a3,rfl,_⟩,rfl⟩:=aa
  exact⟨⟨er,a2,a3⟩,rfl,trivial⟩
theorem Yy: ∀(n:Nat) (r:List I),lp bb4 jr R n 76 r→∃v:df,r=df.row v∧True
 |0,_,h=>h.elim
 |n+1,r,h=>by
  obtain⟨bH,U,aa⟩:=h
  rw[aJ2]at U
  cases U
  simp only[ix,gZ.ok]at aa
  obtain⟨_,_,rfl,⟨er,rfl,_⟩,_,_,rfl,⟨a2,rfl,_⟩,_,_,rfl,⟨a3,rfl,_⟩,_,_,rfl,⟨a4,rfl,_⟩,_,_,rfl,⟨a5,rfl,_⟩,_,_,rfl,⟨yh,rfl⟩,rfl⟩:=aa
  exact⟨⟨er,a2,a3,a4,a5,yh⟩,rfl,trivial⟩
theorem X9: ∀(n:Nat) (r:List I),lp bb4 jr R n 72 r→∃v:cj,r=cj.row v∧True
 |0,_,h=>h.elim
 |n+1,r,h=>by
  obtain⟨bH,U,aa⟩:=h
  rw[aJ1]at U
  cases U
  simp only[ix,gZ.ok,Xk,Xm,Xn]at aa
  obtain⟨_,_,rfl,⟨a,rfl,_⟩,_,_,rfl,⟨cm,rfl,_,br⟩,_,_,rfl,⟨b,rfl,_⟩,_,_,rfl,⟨cA,rfl,_,bB⟩,_,_,rfl,⟨dk,rfl,_,cu⟩,rfl⟩:=aa
  obtain⟨aK,rfl,_⟩:=l1 (f:=Fd.row) (p:=fun _=>True) fun r hm=>YW n r (br r hm)
  obtain⟨fR,rfl,_⟩:=l1 (f:=eX) (p:=fun _=>True) fun r hm=>Yl n r (bB r hm)
  obtain⟨pg,rfl,_⟩:=l1 (f:=fi) (p:=fun _=>True) fun r hm=>YN n r (cu r hm)
  exact⟨⟨a,aK,b,fR,pg⟩,rfl,trivial⟩
theorem Me (n:Nat) (r:List I) (h:lp bb4 jr R n 120 r): ∃x:au,r=x.row∧x.ok R:=Es Sq Hb Dv n r h
theorem aN3 (n:Nat) (r:List I) (h:lp bb4 jr R n 178 r): ∃x:ai,r=x.row∧x.ok R:=G9 Sq Hb Dv aI5 S1 II n r h
theorem SU: ∀(n:Nat) (r:List I),lp bb4 jr R n 9 r→∃s:List UInt8,r=cf s∧s.length≤R
 |0,_,h=>h.elim
 |n+1,r,h=>by
  obtain⟨bH,U,aa⟩:=h
  rw[aJ3]at U
  cases U
  simp only[ix,gZ.ok]at aa
  obtain⟨_,_,rfl,⟨s,rfl,ao⟩,rfl⟩:=aa
  exact⟨s,rfl,ao⟩
theorem aW8: ∀(n:Nat) (r:List I),lp bb4 jr R n 92 r→∃v:bJ,r=v.row∧v.ok R
 |0,_,h=>h.elim
 |n+1,r,h=>by
  obtain⟨bH,U,aa⟩:=h
  rw[aJ4]at U
  cases U
  simp only[ix,gZ.ok]at aa
  obtain⟨_,_,rfl,⟨a,rfl,pC⟩,_,_,rfl,⟨b,rfl,km⟩,_,_,rfl,⟨c,rfl,oU⟩,_,_,rfl,⟨d,rfl,q4⟩,_,_,rfl,⟨e,rfl,wl⟩,_,_,rfl,⟨f,rfl,Ap⟩,_,_,rfl,⟨g,rfl,aY8⟩,rfl⟩:=aa
  exact⟨⟨a,b,c,d,e,f,g⟩,rfl,⟨pC,aY8⟩,km,oU,q4,wl,Ap⟩
theorem ZO: ∀(n:Nat) (r:List I),lp bb4 jr R n 113 r→∃v:bS,r=v.row∧v.ok R
 |0,_,h=>h.elim
 |n+1,r,h=>by
  obtain⟨bH,U,aa⟩:=h
  rw[aI2]at U
  cases U
  simp only[ix,gZ.ok,Ja,AR,S1,II]at aa
  obtain⟨_,_,rfl,⟨a,rfl,pC⟩,_,_,rfl,⟨b,rfl,km⟩,_,_,rfl,⟨cm,rfl,oU,br⟩,_,_,rfl,⟨cA,rfl,q4,bB⟩,rfl⟩:=aa
  obtain⟨ps,rfl,hp⟩:=l1 (f:=cf) (p:=fun s=>s.length≤R) fun r hm=>SU n r (br r hm)
  obtain⟨l,rfl,aG⟩:=l1 (f:=ai.row) (p:=ai.ok R) fun r hm=>aN3 n r (bB r hm)
  exact⟨⟨a,b,ps,l⟩,by simp only[bS.row,ai.l0],pC,km,by simpa using oU,hp,by simpa using q4,ai.rW aG⟩
theorem at1: ∀(n:Nat) (r:List I),lp bb4 jr R n 116 r→∃v:cn,r=v.row∧v.ok R
 |0,_,h=>h.elim
 |n+1,r,h=>by
  obtain⟨bH,U,aa⟩:=h
  rw[aI3]at U
  cases U
  simp only[ix,gZ.ok,Hb,Dv]at aa
  obtain⟨_,_,rfl,⟨a,rfl,pC⟩,_,_,rfl,⟨b,rfl,km⟩,_,_,rfl,⟨cm,rfl,oU,br⟩,_,_,rfl,⟨cA,rfl,q4,bB⟩,rfl⟩:=aa
  obtain⟨aK,rfl,U⟩:=l1 (f:=au.row) (p:=au.ok R) fun r hm=>Me n r (br r hm)
  obtain⟨fR,rfl,aa⟩:=l1 (f:=au.row) (p:=au.ok R) fun r hm=>Me n r (bB r hm)
  exact⟨⟨a,b,aK,fR⟩,by simp only[cn.row,au.l0],pC,km,by simpa using oU,au.rW U,by simpa using q4,au.rW aa⟩
section
variable {H:Type}{enc:TypeId×Value→H}{w:World}{base:Nat}{spare:Nat→Bool}{held:Bool}
theorem au6 {v:Value}{x:DataW H}{p:List MemPlace}{r:Reach}{h9:Nat}(aw: ∀n∈DataW.weights bb4 26 x,n≤R) (ad:Value.okWide bb4 w r h9 26 v) (h:DataW.Trod enc bb4 w base spare held 26 v x p):
  ∃q:cQ,(q.ok R∧fk q.cells≤jc x)∧∀m:Mem,m.w=w→m.H=aA.none→aP m q.eL v:=by
 obtain⟨n,kr,⟨U,aa⟩,aD⟩:=Sr L5 Tryz.underlying26 aI6 aw ad h
 simp only[ix,gZ.ok,Xq,Xi,Xj,Ur,Uo,Up]at U
 obtain⟨_,_,rfl,⟨a,rfl,pC⟩,_,_,rfl,⟨b,rfl,km⟩,_,_,rfl,⟨c,rfl,oU⟩,_,_,rfl,⟨cm,rfl,q4,br⟩,_,_,rfl,⟨cA,rfl,wl,bB⟩,_,_,rfl,⟨dk,rfl,Ap,cu⟩,rfl⟩:=U
 obtain⟨aK,rfl,g1⟩:=l1 (f:=bJ.row) (p:=bJ.ok R) fun r hm=>aW8 n r (br r hm)
 obtain⟨fR,rfl,g2⟩:=l1 (f:=bS.row) (p:=bS.ok R) fun r hm=>ZO n r (bB r hm)
 obtain⟨pg,rfl,g3⟩:=l1 (f:=cn.row) (p:=cn.ok R) fun r hm=>at1 n r (cu r hm)
 exact⟨⟨a,b,c,aK,fR,pg⟩,⟨⟨pC,km,oU,by simpa using q4,g1,by simpa using wl,g2,by simpa using Ap,g3⟩,aa⟩,aD⟩
theorem au7 {v:Value}{x:DataW H}{p:List MemPlace}{r:Reach}{h9:Nat}(aw: ∀n∈DataW.weights bb4 32 x,n≤R) (ad:Value.okWide bb4 w r h9 32 v) (h:DataW.Trod enc bb4 w base spare held 32 v x p):
  ∃q:di,(True∧fk q.cells≤jc x)∧∀m:Mem,m.w=w→m.H=aA.none→aP m q.eL v:=by
 obtain⟨n,kr,⟨U,aa⟩,aD⟩:=Sr L5 Tryz.underlying32 aI7 aw ad h
 simp only[ix,gZ.ok,Ja,Xo,Xp,Xl]at U
 obtain⟨_,_,rfl,⟨a,rfl,_⟩,_,_,rfl,⟨cm,rfl,_,br⟩,_,_,rfl,⟨cA,rfl,_,bB⟩,_,_,rfl,⟨b,rfl,_⟩,_,_,rfl,⟨c,rfl,_⟩,_,_,rfl,⟨d,rfl,_⟩,_,_,rfl,⟨dk,rfl,_,cu⟩,_,_,rfl,⟨hF,rfl,_,eO⟩,rfl⟩:=U
 obtain⟨aK,rfl,_⟩:=l1 (f:=cf) (p:=fun s=>s.length≤R) fun r hm=>SU n r (br r hm)
 obtain⟨fR,rfl,_⟩:=l1 (f:=cj.row) (p:=fun _=>True) fun r hm=>X9 n r (bB r hm)
 obtain⟨pg,rfl,_⟩:=l1 (f:=df.row) (p:=fun _=>True) fun r hm=>Yy n r (cu r hm)
 obtain⟨zp,rfl,_⟩:=l1 (f:=fc.row) (p:=fun _=>True) fun r hm=>aQ1 n r (eO r hm)
 exact⟨⟨a,aK,fR,b,c,d,pg,zp⟩,⟨trivial,aa⟩,aD⟩
end
end Go.ba.T.N
