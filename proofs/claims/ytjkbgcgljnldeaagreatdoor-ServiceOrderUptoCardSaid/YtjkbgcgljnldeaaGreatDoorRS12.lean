/- Part of a proof; own work. -/
import Derived.Lib.ItoaLen
import Derived.Test.YtjkbgcgljnldeaaGreatDoorRows
import Derived.ProofKit
import Derived.LaidMore
import Derived.OpenShut
import Derived.Stop.Joined
import Derived.LaidLaws
import Derived.Lay
import Derived.MakeChecks
import Derived.Lib.ItoaNum
import Derived.Lib.LaidTab
import Derived.Stop.LaidErr
import Derived.HandedShaped
import Derived.SizedLaws
import Derived.Test.YtjkbgcgljnldeaaGreatDoorRS11
set_option linter.unusedVariables false
set_option linter.unusedSimpArgs false
set_option maxHeartbeats 16000000
namespace Go.bc.T.N
open Go Go.bc Go.Proofs Go.RowKit
set_option maxRecDepth 100000
attribute [local irreducible] Go.bc.aj Go.bc.ae Go.bc.bz
section
attribute [local go_sem] ad.ct ad.b9 ad.de ac.ct ac.b9 ac.de cj eN cb.row dG
def eu (k:Int) (m:a7) (t:Int) (kk b7:Nat):Bool:=
  if k=1 then db m&&(decide (t=0)&&(decide (kk=0)&&decide (b7=0)))
  else if k=2 then decide (m=[])&&decide (t=0)
  else if k=3 then decide (m=[])&&(decide (1≤t)&&(decide (t≤50)&&decide (b7=0)))
  else false
mutual
def hX:ac→Bool
  | .mk k m x t a b=>eu k m t a.length b.length&&(dB x&&(ho a&&ho b))
def ho:List ac→Bool
  |[]=>true
  |x::l=>hX x&&ho l
end
theorem yK: ∀l,ho l=l.all hX
  |[]=>rfl
  |x::l=>by simp only[ho,List.all_cons,yK l]
theorem EG:c9 Tryz.prog 114=true:=by kernel_rfl
theorem Fl: ∀(N:Nat) (x:ac),x.bI≤N→N≤1000000000→Pure Tryz.prog 114 [.agg x.row] (.bool (hX x))
  |0,.mk k h7 x t a b,h,_=>by simp only[ac.bI]at h; omega
  |N+1,.mk k h7 x t hU gD,bW,rO=>by
   simp only[ac.bI]at bW
   have Bm:=ac.hZ hU
   have Bn:=ac.hZ gD
   have ex:=Fq N x (by omega) (by omega)
   have mm:=B3 EG hX hU (by omega) fun v af=>by
     obtain⟨i,ai⟩:=List.getElem?_of_mem af
     exact Fl N v (by have:=ac.lh ai; omega) (by omega)
   have kG:=B3 EG hX gD (by omega) fun v af=>by
     obtain⟨i,ai⟩:=List.getElem?_of_mem af
     exact Fl N v (by have:=ac.lh ai; omega) (by omega)
   have iF:((hU.map ac.row).length:Int)=(hU.length:Int):=by rw[List.length_map]
   have iG:((gD.map ac.row).length:Int)=(gD.length:Int):=by rw[List.length_map]
   simp only[hX,yK]
   generalize hU.all hX=ue at mm
   generalize gD.all hX=DR at kG
   generalize dB x=wZ at ex
   clear Bm Bn bW
   generalize hU.length=kk at iF ⊢
   generalize gD.length=b7 at iG ⊢
   rcases x with ⟨eb,ef,ed,eg,ee,ec⟩
   simp(disch:=omega)only[go_sem,simprocAttr]at ex
   refine cF bN Tryz.func114 T5 (by simp only[b3,I.flat,ac.de,Bool.and_self]) rfl ?_
   unfold IW Pw
   simp(disch:=omega)only[go_sem,simprocAttr]
   by_cases J:k=1
   ·subst J
    (have al:=iF;have z2:=iG;refine e8 ?_;clear al z2)
    refine D.P (qV h7) ?_
    cases aO:db h7
    ·refine ao ?_
     refine D.r ?_
     refine⟨_,rfl,.av ?_ rfl,trivial,trivial⟩
     simp_all [eu,I.av]
    (repeat' first|(apply ae.s rfl;(·simp(disch:=omega)only[go_sem,simprocAttr,iF,iG]<;>with_reducible rfl))|(apply aj.s true true;(·simp(disch:=omega)only[go_sem,simprocAttr,iF,iG]<;>with_reducible rfl))|apply ae.nil|(refine aj.b6 ?_)|(apply ae.eX;(·simp(disch:=omega)only[go_sem,simprocAttr,iF,iG]<;>with_reducible rfl))|(apply ae.eY;(·rfl);(·simp(disch:=omega)only[go_sem,simprocAttr,iF,iG]<;>with_reducible rfl))|(apply ae.gs;(·simp(disch:=omega)only[go_sem,simprocAttr,iF,iG]<;>with_reducible rfl))|((first|apply ae.e3|apply ae.e4|apply ae.e5);(·simp(disch:=omega)only[go_sem,simprocAttr,iF,iG]<;>with_reducible rfl);(·simp(disch:=omega)only[go_sem,simprocAttr,iF,iG]<;>with_reducible rfl);(·assumption);(·omega))|intro h|(apply aj.cond;(·simp(disch:=omega)only[go_sem,simprocAttr,iF,iG]<;>with_reducible rfl)))
    all_goals first
      |(refine D.R ?_
        refine⟨_,rfl,.av ?_ rfl,trivial,trivial⟩
        first
        |(simp_all [eu,I.av]; done)
        |(simp_all [eu,I.av]; intros; omega)
        |(simp_all [eu,I.av]; omega))
      |skip
    refine D.P (ex) ?_
    cases wZ
    ·refine ao ?_
     refine D.r ?_
     refine⟨_,rfl,.av ?_ rfl,trivial,trivial⟩
     first
     |(simp_all [eu,I.av]; done)
     |(simp_all [eu,I.av]; intros; omega)
     |(simp_all [eu,I.av]; omega)
    refine ao ?_
    refine D.P (mm) ?_
    cases ue
    ·refine ao ?_
     refine D.r ?_
     refine⟨_,rfl,.av ?_ rfl,trivial,trivial⟩
     first
     |(simp_all [eu,I.av]; done)
     |(simp_all [eu,I.av]; intros; omega)
     |(simp_all [eu,I.av]; omega)
    refine ao ?_
    refine D.P (kG) ?_
    refine ao ?_
    refine D.r ?_
    refine⟨_,rfl,.av ?_ rfl,trivial,trivial⟩
    first
    |(simp_all [eu,I.av]; done)
    |(simp_all [eu,I.av]; intros; omega)
    |(simp_all [eu,I.av]; omega)
   by_cases aa:k=2
   ·subst aa
    (repeat' first|(apply ae.s rfl;(·simp(disch:=omega)only[go_sem,simprocAttr,iF,iG]<;>with_reducible rfl))|(apply aj.s true true;(·simp(disch:=omega)only[go_sem,simprocAttr,iF,iG]<;>with_reducible rfl))|apply ae.nil|(refine aj.b6 ?_)|(apply ae.eX;(·simp(disch:=omega)only[go_sem,simprocAttr,iF,iG]<;>with_reducible rfl))|(apply ae.eY;(·rfl);(·simp(disch:=omega)only[go_sem,simprocAttr,iF,iG]<;>with_reducible rfl))|(apply ae.gs;(·simp(disch:=omega)only[go_sem,simprocAttr,iF,iG]<;>with_reducible rfl))|((first|apply ae.e3|apply ae.e4|apply ae.e5);(·simp(disch:=omega)only[go_sem,simprocAttr,iF,iG]<;>with_reducible rfl);(·simp(disch:=omega)only[go_sem,simprocAttr,iF,iG]<;>with_reducible rfl);(·assumption);(·omega))|intro h|(apply aj.cond;(·simp(disch:=omega)only[go_sem,simprocAttr,iF,iG]<;>with_reducible rfl)))
    all_goals first
      |(refine D.R ?_
        refine⟨_,rfl,.av ?_ rfl,trivial,trivial⟩
        first
        |(simp_all [eu,I.av]; done)
        |(simp_all [eu,I.av]; intros; omega)
        |(simp_all [eu,I.av]; omega))
      |skip
    refine D.P (ex) ?_
    cases wZ
    ·refine ao ?_
     refine D.r ?_
     refine⟨_,rfl,.av ?_ rfl,trivial,trivial⟩
     first
     |(simp_all [eu,I.av]; done)
     |(simp_all [eu,I.av]; intros; omega)
     |(simp_all [eu,I.av]; omega)
    refine ao ?_
    refine D.P (mm) ?_
    cases ue
    ·refine ao ?_
     refine D.r ?_
     refine⟨_,rfl,.av ?_ rfl,trivial,trivial⟩
     first
     |(simp_all [eu,I.av]; done)
     |(simp_all [eu,I.av]; intros; omega)
     |(simp_all [eu,I.av]; omega)
    refine ao ?_
    refine D.P (kG) ?_
    refine ao ?_
    refine D.r ?_
    refine⟨_,rfl,.av ?_ rfl,trivial,trivial⟩
    first
    |(simp_all [eu,I.av]; done)
    |(simp_all [eu,I.av]; intros; omega)
    |(simp_all [eu,I.av]; omega)
   by_cases au:k=3
   ·subst au
    (repeat' first|(apply ae.s rfl;(·simp(disch:=omega)only[go_sem,simprocAttr,iF,iG]<;>with_reducible rfl))|(apply aj.s true true;(·simp(disch:=omega)only[go_sem,simprocAttr,iF,iG]<;>with_reducible rfl))|apply ae.nil|(refine aj.b6 ?_)|(apply ae.eX;(·simp(disch:=omega)only[go_sem,simprocAttr,iF,iG]<;>with_reducible rfl))|(apply ae.eY;(·rfl);(·simp(disch:=omega)only[go_sem,simprocAttr,iF,iG]<;>with_reducible rfl))|(apply ae.gs;(·simp(disch:=omega)only[go_sem,simprocAttr,iF,iG]<;>with_reducible rfl))|((first|apply ae.e3|apply ae.e4|apply ae.e5);(·simp(disch:=omega)only[go_sem,simprocAttr,iF,iG]<;>with_reducible rfl);(·simp(disch:=omega)only[go_sem,simprocAttr,iF,iG]<;>with_reducible rfl);(·assumption);(·omega))|intro h|(apply aj.cond;(·simp(disch:=omega)only[go_sem,simprocAttr,iF,iG]<;>with_reducible rfl)))
    all_goals first
      |(refine D.R ?_
        refine⟨_,rfl,.av ?_ rfl,trivial,trivial⟩
        first
        |(simp_all [eu,I.av]; done)
        |(simp_all [eu,I.av]; intros; omega)
        |(simp_all [eu,I.av]; omega))
      |skip
    refine D.P (ex) ?_
    cases wZ
    ·refine ao ?_
     refine D.r ?_
     refine⟨_,rfl,.av ?_ rfl,trivial,trivial⟩
     first
     |(simp_all [eu,I.av]; done)
     |(simp_all [eu,I.av]; intros; omega)
     |(simp_all [eu,I.av]; omega)
    refine ao ?_
    refine D.P (mm) ?_
    cases ue
    ·refine ao ?_
     refine D.r ?_
     refine⟨_,rfl,.av ?_ rfl,trivial,trivial⟩
     first
     |(simp_all [eu,I.av]; done)
     |(simp_all [eu,I.av]; intros; omega)
     |(simp_all [eu,I.av]; omega)
    refine ao ?_
    refine D.P (kG) ?_
    refine ao ?_
    refine D.r ?_
    refine⟨_,rfl,.av ?_ rfl,trivial,trivial⟩
    first
    |(simp_all [eu,I.av]; done)
    |(simp_all [eu,I.av]; intros; omega)
    |(simp_all [eu,I.av]; omega)
   (have al:=J;have z2:=aa;have z3:=au;refine ji ?_;clear al z2 z3)
   refine D.r ?_
   refine⟨_,rfl,.av ?_ rfl,trivial,trivial⟩
   simp [eu,J,aa,au,I.av]
def iN (v:cb):Bool:=db v.name&&(iX v.cz&&(iX v.ai&&((decide (v.hV=1)||(decide (v.hV=2)&&(decide (0≤v.cz)&&decide (0≤v.ai))))&&
  (if v.ik=1 then iX v.n&&decide (v.s=[]) else if v.ik=2 then decide (v.n=0)&&lM v.s else false))))
theorem ad9:c9 Tryz.prog 47=true:=by kernel_rfl
theorem ax2 (v:cb):Pure Tryz.prog 47 [.agg v.row] (.bool (iN v)):=by
  obtain⟨h7,hV,cz,ai,ik,n,s⟩:=v
  have Xl:=qV h7
  have yz:=Fk cz
  have Xi:=Fk ai
  have AT:=Fk n
  have KD:=ON s
  simp only[iN]
  generalize db h7=Tx at*
  generalize iX cz=Tt at*
  generalize iX ai=C1 at*
  generalize iX n=As at*
  generalize lM s=Hp at*
  refine cF bN Tryz.func47 Vm rfl rfl ?_
  unfold J4 QN
  simp(disch:=omega)only[go_sem,simprocAttr]
  refine ao ?_
  refine D.P (Xl) ?_
  cases Tx
  ·refine ao ?_
   exact D.rx
  refine ao ?_
  refine D.P (yz) ?_
  cases Tt
  ·refine ao ?_
   exact D.rx
  refine ao ?_
  refine D.P (Xi) ?_
  cases C1
  ·refine ao ?_
   exact D.rx
  by_cases bC:hV=1
  focus
    subst bC
    (repeat' first|refine D.S ?_|refine D.cN true true ?_|refine ae.nil ?_|refine aj.b6 ?_|refine D.W ?_|refine D.Z ?_|refine D.G ?_ ?_|refine D.X ‹_› ?_|refine D.eh ‹_› ?_|refine D.ei ‹_› ?_|intro h)
  rotate_left
  focus
    by_cases bA:hV=2
    ·subst bA
     by_cases jd:cz<0
     ·(have al:=jd;refine bQ ?_;clear al)
      refine D.r ?_
      refine⟨_,rfl,.av ?_ rfl,trivial,trivial⟩
      simp [I.av,show ¬ 0≤cz by omega]
     by_cases aM:ai<0
     ·(have al:=jd;have z2:=aM;refine e8 ?_;clear al z2)
      refine D.r ?_
      refine⟨_,rfl,.av ?_ rfl,trivial,trivial⟩
      simp [I.av,show ¬ 0≤ai by omega]
     (have al:=jd;have z2:=aM;refine e8 ?_;clear al z2)
     have dZ:0≤cz:=by omega
     have o2:0≤ai:=by omega
     rw[show (decide ((2:Int)=1)||(decide ((2:Int)=2)&&(decide (0≤cz)&&decide (0≤ai))))=true by simp [dZ,o2]]
     clear jd aM dZ o2
     by_cases vC:ik=1
     ·subst vC
      refine ao ?_
      refine D.P (AT) ?_
      cases As
      ·refine ao ?_
       exact D.rx
      refine ao ?_
      exact D.rx
     by_cases vD:ik=2
     ·subst vD
      by_cases cD:n=0
      ·(have al:=cD;refine bQ ?_;clear al)
       refine D.P (KD) ?_
       refine ao ?_
       refine D.r ?_
       refine⟨_,rfl,.av ?_ rfl,trivial,trivial⟩
       simp [I.av,cD]
      ·(have al:=cD;refine bQ ?_;clear al)
       refine D.r ?_
       refine⟨_,rfl,.av ?_ rfl,trivial,trivial⟩
       simp [I.av,cD]
     (have al:=vC;have z2:=vD;refine e8 ?_;clear al z2)
     refine D.r ?_
     refine⟨_,rfl,.av ?_ rfl,trivial,trivial⟩
     simp [I.av,vC,vD]
    ·(have al:=bC;have z2:=bA;refine e8 ?_;clear al z2)
     refine D.r ?_
     refine⟨_,rfl,.av ?_ rfl,trivial,trivial⟩
     simp [I.av,bC,bA]
  rw[show (decide ((1:Int)=1)||(decide ((1:Int)=2)&&(decide (0≤cz)&&decide (0≤ai))))=true by simp]
  by_cases vC:ik=1
  ·subst vC
   refine ao ?_
   refine D.P (AT) ?_
   cases As
   ·refine ao ?_
    exact D.rx
   refine ao ?_
   exact D.rx
  by_cases vD:ik=2
  ·subst vD
   by_cases cD:n=0
   ·(have al:=cD;refine bQ ?_;clear al)
    refine D.P (KD) ?_
    refine ao ?_
    refine D.r ?_
    refine⟨_,rfl,.av ?_ rfl,trivial,trivial⟩
    simp [I.av,cD]
   ·(have al:=cD;refine bQ ?_;clear al)
    refine D.r ?_
    refine⟨_,rfl,.av ?_ rfl,trivial,trivial⟩
    simp [I.av,cD]
  (have al:=vC;have z2:=vD;refine e8 ?_;clear al z2)
  refine D.r ?_
  refine⟨_,rfl,.av ?_ rfl,trivial,trivial⟩
  simp [I.av,vC,vD]
end
section
attribute [local go_sem] ad.ct ad.b9 ad.de ac.ct ac.b9 ac.de cj eN fZ gJ dp of_flat
theorem aG7 (s:a7):(sf s).length≤s.length+1:=by
 have hlen:=Lib.splitB_all pG (Nat.le_refl _) 0 _ ⟨⟨s⟩⟩ rfl
 have hle:=Lib.countB_le pG (Nat.le_refl _) s.length ⟨⟨s⟩⟩ (Nat.le_refl _)
 rw[sf,List.length_map,hlen]
 exact Nat.succ_le_succ hle
theorem ad4:c9 Tryz.prog 167=true:=by kernel_rfl
theorem av1 (s:a7):Pure Tryz.prog 167 [.str s] (.bool (!(db s))):=by
 refine cF bN Tryz.func167 UM rfl rfl ?_
 unfold JA Qd
 simp(disch:=omega)only[go_sem,simprocAttr]
 refine ao ?_
 refine D.P (qV s) ?_
 refine ao ?_
 exact D.rx
theorem aw3 {f:FuncId}(aW:c9 Tryz.prog f=true) (g:a7→Bool) (l:List a7) (aH:l.length≤1000000000000) (h: ∀v∈l,Pure Tryz.prog f [.str v] (.bool (!(g v)))):Pure Tryz.prog 195 [.ay 1 (l.map cj),.fn f []] (.int .i64 (hT g l 0)):=by
 refine cF bN Tryz.func195 HI (by simp only[b3,I.flat,eN,Bool.and_self]) rfl ?_
 unfold DC FJ
 simp(disch:=omega)only[go_sem,simprocAttr]
 refine ao ?_
 refine aj.dd (X:=Nat) 0 (fun i=>[(0,.ay 1 (l.map cj)),(1,.fn f []),(7,.int .i64 ((l.map cj).length:Int)),(8,.int .i64 (i:Int))]) (fun _=>[]) (fun _=>[]) (fun i=>i≤l.length∧hT g (l.drop i) i=hT g l 0) (fun i=>l.length-i) ⟨Nat.zero_le _,rfl⟩ ⟨rfl,rfl,rfl,rfl,trivial⟩ trivial trivial ?_
 rintro i ⟨ai,aB⟩
 try simp only at ai aB ⊢
 cases af:l[i]? with
 |some v=>
  have cK:=(List.getElem?_eq_some_iff.1 af).1
  rw[iM af]at aB
  simp only[hT]at aB
  have d1:(i:Int)<((l.map cj).length:Int):=by rw[List.length_map]; omega
  have e:=h v (List.mem_of_getElem? af)
  generalize g v=b at e aB
  clear h
  (have al:=d1;refine bQ ?_;clear al)
  refine D.V (aW) (e) ?_
  cases b
  ·refine ao ?_
   refine D.r ?_
   exact⟨_,rfl,.av (by rw[←aB]; rfl) rfl,trivial,trivial⟩
  ·refine ao ?_
   refine aj.dK (i+1) ⟨by omega,aB⟩ ⟨rfl,rfl,rfl,by simp only[Int.natCast_add]; rfl,trivial⟩ trivial trivial rfl rfl (by show l.length-(i+1)<l.length-i; omega)
 |none=>
  have cM:=List.getElem?_eq_none_iff.1 af
  have bE:i=l.length:=by omega
  subst bE
  have d1: ¬(l.length:Int)<((l.map cj).length:Int):=by rw[List.length_map]; omega
  rw[List.drop_length]at aB
  (have al:=d1;refine bQ ?_;clear al)
  refine D.r ?_
  exact⟨_,rfl,.av (by rw[←aB]; rfl) rfl,trivial,trivial⟩
theorem av0 {f:FuncId}(aW:c9 Tryz.prog f=true) (g:a7→Bool) (l:List a7) (aH:l.length≤1000000000000) (h: ∀v∈l,Pure Tryz.prog f [.str v] (.bool (!(g v)))):Pure Tryz.prog 165 [.ay 1 (l.map cj),.fn f []] (.bool (!(l.all g))):=by
 have e:=aw3 aW g l aH h
 refine cF bN Tryz.func165 HH (by simp only[b3,I.flat,eN,Bool.and_self]) rfl ?_
 unfold DB FI
 simp(disch:=omega)only[go_sem,simprocAttr]
 refine ao ?_
 refine D.P (e) ?_
 refine ao ?_
 refine D.r ?_
 exact⟨_,rfl,.av (by rw[←vU g l 0]; rfl) rfl,trivial,trivial⟩
def kR (s:a7):Bool:=decide (s.length≤50)&&(sf s).all db
theorem OP (s:a7):Pure Tryz.prog 111 [.str s] (.bool (kR s)):=by
 unfold kR
 refine cF bN Tryz.func111 T1 rfl rfl ?_
 unfold IT Pt
 simp(disch:=omega)only[go_sem,simprocAttr]
 by_cases h:s.length≤50
 ·have d:(s.length:Int)≤50:=by omega
  have aH:=aG7 s
  have e:=av0 ad4 db (sf s) (by omega) fun v _=>av1 v
  (have al:=d;refine bQ ?_;clear al)
  refine D.P (al6 s (by omega)) ?_
  refine ao ?_
  refine D.P (e) ?_
  refine ao ?_
  refine D.r ?_
  refine⟨_,rfl,.av ?_ rfl,trivial,trivial⟩
  simp [I.av,h]
 ·have d: ¬(s.length:Int)≤50:=by omega
  (have al:=d;refine bQ ?_;clear al)
  refine D.r ?_
  refine⟨_,rfl,.av ?_ rfl,trivial,trivial⟩
  simp [I.av,h]
theorem ad8:c9 Tryz.prog 45=true:=by kernel_rfl
theorem ae0:c9 Tryz.prog 49=true:=by kernel_rfl
theorem ae1:c9 Tryz.prog 51=true:=by kernel_rfl
def jZ (h:cd):Bool:=kR h.eK&&(db h.peer&&(decide (h.ps.length≤4)&&(h.ps.all db&&(h.body.all hX&&h.body.all (fun x=>decide (kh x≤10))))))
def j6 (o:ca):Bool:=kR o.eK&&(db o.peer&&(decide (o.args.length≤4)&&(decide (o.dT.length≤1)&&((o.args++o.dT).all dB&&(o.args++o.dT).all (fun x=>decide (iL x≤10))))))
theorem ac.pW {l:List ac}{v:ac}(h:v∈l):v.bI≤ac.bB l:=by
 obtain⟨i,ai⟩:=List.getElem?_of_mem h
 exact ac.lh ai
theorem ad.pW {l:List ad}{v:ad}(h:v∈l):v.bI≤ad.bB l:=by
 obtain⟨i,ai⟩:=List.getElem?_of_mem h
 exact ad.lh ai
theorem ax4 (h:cd) (hb:ac.bB h.body≤1000000000) (hp:h.ps.length≤1000000000):Pure Tryz.prog 49 [.agg h.row] (.bool (jZ h)):=by
 obtain⟨eK,peer,ps,body⟩:=h
 simp only at hb hp
 have aP6:=ac.hZ body
 have ar:=OP eK
 have ax:=qV peer
 have cw:=as7 ad8 db ps (by omega) fun v _=>qV v
 have fq:=B3 EG hX body (by omega) fun v af=>Fl 1000000000 v (by have:=ac.pW af; omega) (Nat.le_refl _)
 have lB:=B3 ad1 (fun x=>decide (kh x≤10)) body (by omega) fun v af=>as5 v (by have:=ac.pW af; omega)
 have me:((ps.map cj).length:Int)=(ps.length:Int):=by rw[List.length_map]
 simp only[jZ]
 generalize kR eK=eB at*
 generalize db peer=dU at*
 generalize ps.all db=jj at*
 generalize body.all hX=kD at*
 generalize (body.all fun x=>decide (kh x≤10))=qm at*
 refine cF bN Tryz.func49 Vo (by simp only[b3,I.flat,fZ,eN,ac.b9,Bool.and_self]) rfl ?_
 unfold J5 QP
 simp(disch:=omega)only[go_sem,simprocAttr]
 refine ao ?_
 refine D.P (ar) ?_
 cases eB
 ·refine ao ?_
  exact D.rx
 refine ao ?_
 refine D.P (ax) ?_
 cases dU
 ·refine ao ?_
  exact D.rx
 by_cases bn:ps.length≤4
 rotate_left
 ·have d: ¬(ps.length:Int)≤4:=by omega
  (have al:=me;have z2:=d;refine e8 ?_;clear al z2)
  refine D.r ?_
  refine⟨_,rfl,.av ?_ rfl,trivial,trivial⟩
  simp [I.av,bn]
 have d:(ps.length:Int)≤4:=by omega
 simp only[decide_eq_true bn,Bool.true_and]
 (have al:=me;have z2:=d;refine e8 ?_;clear al z2)
 refine D.P (cw) ?_
 cases jj
 ·refine ao ?_
  exact D.rx
 refine ao ?_
 refine D.P (fq) ?_
 cases kD
 ·refine ao ?_
  exact D.rx
 refine ao ?_
 refine D.P (lB) ?_
 refine ao ?_
 exact D.rx
end
section
attribute [local go_sem] ad.ct ad.b9 ad.de ac.ct ac.b9 ac.de cj eN fZ gJ dp of_flat
theorem ad.u1: ∀a b:List ad,ad.bB (a++b)=ad.bB a+ad.bB b
 |[],b=>by simp [ad.bB]
 |x::a,b=>by simp only[List.cons_append,ad.bB,ad.u1 a b]; omega
theorem ax7 (o:ca) (hb:ad.bB o.args+ad.bB o.dT≤1000000000):Pure Tryz.prog 51 [.agg o.row] (.bool (j6 o)):=by
 obtain⟨eK,peer,n3,wn⟩:=o
 simp only at hb
 have Bm:=ad.hZ n3
 have Zw:=ad.hZ wn
 have D5:=ad.u1 n3 wn
 have oX:=ad.hZ (n3++wn)
 have ar:=OP eK
 have ax:=qV peer
 have bE:=at1 n3 wn (by omega) (by omega)
 have fq:=Fp MA dB (n3++wn) (by omega) fun v af=>Fq 1000000000 v (by have:=ad.pW af; omega) (Nat.le_refl _)
 have lB:=Fp ad3 (fun x=>decide (iL x≤10)) (n3++wn) (by omega) fun v af=>at0 v (by have:=ad.pW af; omega)
 have me:((n3.map ad.row).length:Int)=(n3.length:Int):=by rw[List.length_map]
 have oG:((wn.map ad.row).length:Int)=(wn.length:Int):=by rw[List.length_map]
 simp only[j6]
 generalize kR eK=eB at*
 generalize db peer=dU at*
 generalize (n3++wn).all dB=kD at*
 generalize ((n3++wn).all fun x=>decide (iL x≤10))=qm at*
 generalize n3++wn=aO8 at*
 clear D5 oX hb Bm Zw
 refine cF bN Tryz.func51 Vq (by simp only[b3,I.flat,gJ,ad.b9,Bool.and_self]) rfl ?_
 unfold J6 QR
 simp(disch:=omega)only[go_sem,simprocAttr]
 refine ao ?_
 refine D.P (bE) ?_
 refine ao ?_
 refine D.P (ar) ?_
 cases eB
 ·refine ao ?_
  exact D.rx
 refine ao ?_
 refine D.P (ax) ?_
 cases dU
 ·refine ao ?_
  exact D.rx
 by_cases bn:n3.length≤4
 rotate_left
 ·have d: ¬(n3.length:Int)≤4:=by omega
  (have al:=me;have z2:=d;refine e8 ?_;clear al z2)
  refine D.r ?_
  refine⟨_,rfl,.av ?_ rfl,trivial,trivial⟩
  simp [I.av,bn]
 have d:(n3.length:Int)≤4:=by omega
 simp only[decide_eq_true bn,Bool.true_and]
 by_cases J:wn.length≤1
 rotate_left
 ·have d1: ¬(wn.length:Int)≤1:=by omega
  (repeat' first|(apply ae.s rfl;(·simp(disch:=omega)only[go_sem,simprocAttr,me,d,oG,d1]<;>with_reducible rfl))|(apply aj.s true true;(·simp(disch:=omega)only[go_sem,simprocAttr,me,d,oG,d1]<;>with_reducible rfl))|apply ae.nil|(refine aj.b6 ?_)|(apply ae.eX;(·simp(disch:=omega)only[go_sem,simprocAttr,me,d,oG,d1]<;>with_reducible rfl))|(apply ae.eY;(·rfl);(·simp(disch:=omega)only[go_sem,simprocAttr,me,d,oG,d1]<;>with_reducible rfl))|(apply ae.gs;(·simp(disch:=omega)only[go_sem,simprocAttr,me,d,oG,d1]<;>with_reducible rfl))|((first|apply ae.e3|apply ae.e4|apply ae.e5);(·simp(disch:=omega)only[go_sem,simprocAttr,me,d,oG,d1]<;>with_reducible rfl);(·simp(disch:=omega)only[go_sem,simprocAttr,me,d,oG,d1]<;>with_reducible rfl);(·assumption);(·omega))|intro h)
  refine D.r ?_
  refine⟨_,rfl,.av ?_ rfl,trivial,trivial⟩
  simp [I.av,J]
 have d1:(wn.length:Int)≤1:=by omega
 simp only[decide_eq_true J,Bool.true_and]
 (repeat' first|(apply ae.s rfl;(·simp(disch:=omega)only[go_sem,simprocAttr,me,d,oG,d1]<;>with_reducible rfl))|(apply aj.s true true;(·simp(disch:=omega)only[go_sem,simprocAttr,me,d,oG,d1]<;>with_reducible rfl))|apply ae.nil|(refine aj.b6 ?_)|(apply ae.eX;(·simp(disch:=omega)only[go_sem,simprocAttr,me,d,oG,d1]<;>with_reducible rfl))|(apply ae.eY;(·rfl);(·simp(disch:=omega)only[go_sem,simprocAttr,me,d,oG,d1]<;>with_reducible rfl))|(apply ae.gs;(·simp(disch:=omega)only[go_sem,simprocAttr,me,d,oG,d1]<;>with_reducible rfl))|((first|apply ae.e3|apply ae.e4|apply ae.e5);(·simp(disch:=omega)only[go_sem,simprocAttr,me,d,oG,d1]<;>with_reducible rfl);(·simp(disch:=omega)only[go_sem,simprocAttr,me,d,oG,d1]<;>with_reducible rfl);(·assumption);(·omega))|intro h)
 refine D.P (fq) ?_
 cases kD
 ·refine ao ?_
  exact D.rx
 refine ao ?_
 refine D.P (lB) ?_
 refine ao ?_
 exact D.rx
theorem Ec {k:Int}{o m t:a7}{n:Int}{kk:Nat}(h:fL k o m t n kk=true):(k=1∧0≤n∧n≤1000∧kk=0)∨(k=2∧t.length≤40∧kk=0)∨(k=3∧kk=0)∨(k=4∧kk=1)∨(k=5∧kk=1)∨(k=6∧kk=2):=by
 unfold fL at h
 by_cases J:k=1
 ·simp [J]at h; simp [J,h.1,h.2.1,h.2.2.1]
 by_cases aa:k=2
 ·simp [aa,lM]at h; simp [aa,h.1.1,h.2.1]
 by_cases au:k=3
 ·simp [au]at h; simp [au,h.2.1]
 by_cases bn:k=4
 ·simp [bn]at h; simp [bn,h.1]
 by_cases bL:k=5
 ·simp [bL]at h; simp [bL,h.2.1]
 by_cases cq:k=6
 ·simp [cq]at h; simp [cq,h.2.1]
 simp [J,aa,au,bn,bL,cq]at h
theorem tf: ∀(N:Nat),(∀x:ad,x.bI≤N→dB x=true→(cm x).length≤1000000000→Pure Tryz.prog 127 [.agg x.row] (.str (cm x)))∧(∀(x:ad) (k:Int),x.bI≤N→dB x=true→(fX x (cm x) k).length≤1000000000→Pure Tryz.prog 183 [.agg x.row,.int .i64 k] (.str (fX x (cm x) k)))
 |0=>⟨fun x h=>by cases x; simp only[ad.bI]at h; omega,fun x k h=>by cases x; simp only[ad.bI]at h; omega⟩
 |N+1=>by
  have key: ∀x:ad,x.bI≤N+1→dB x=true→(cm x).length≤1000000000→Pure Tryz.prog 127 [.agg x.row] (.str (cm x)):=by
   rintro⟨k,o,m,t,n,l⟩ bW aY ap
   simp only[ad.bI]at bW
   simp only[dB,Bool.and_eq_true]at aY
   obtain⟨bh,hq⟩:=aY
   simp only[cm,Cn]at ap ⊢
   have qL:=ap
   unfold A4 at ap ⊢
   refine cF bN Tryz.func127 Ug (by simp only[b3,I.flat,ad.de,Bool.and_self]) rfl ?_
   unfold I7 PH
   simp(disch:=omega)only[go_sem,simprocAttr]
   rcases Ec bh with ⟨rfl,aw,J,aa⟩|⟨rfl,aw,J⟩|⟨rfl,aw⟩|⟨rfl,aw⟩|⟨rfl,aw⟩|⟨rfl,aw⟩
   ·refine ao ?_
    refine D.P (zq n (by omega) (by omega)) ?_
    refine ao ?_
    exact D.rx
   ·refine ao ?_
    refine D.P (OZ t (by omega)) ?_
    refine ao ?_
    exact D.rx
   ·refine ao ?_
    exact D.rx
   ·match l,aw with
    |[x],_=>
    simp only[mY,Bool.and_true]at hq
    simp only[ad.bB]at bW
    have hY:([108,101,110,40]++cm x++[41]).length≤1000000000:=ap
    simp only[List.length_append,List.length_cons,List.length_nil]at hY
    have e:=(tf N).1 x (by omega) hq (by omega)
    rcases x with ⟨eb,ef,ed,eg,ee,ec⟩
    simp(disch:=omega)only[go_sem,simprocAttr]at e
    refine ao ?_
    refine D.P (e) ?_
    refine D.bR ?_
    refine D.bR ?_
    refine ao ?_
    exact D.rx
   ·match l,aw with
    |[x],_=>
    simp only[mY,Bool.and_true]at hq
    simp only[ad.bB]at bW
    have hY:(o++fX x (cm x) 7).length≤1000000000:=ap
    simp only[List.length_append]at hY
    have e:=(tf N).2 x 7 (by omega) hq (by omega)
    show aj Tryz.prog _ _ _ _ (tJ (.str (o++fX x (cm x) 7)) [] []) _ _
    generalize fX x (cm x) 7=iD at e hY ⊢
    clear ap qL
    rcases x with ⟨eb,ef,ed,eg,ee,ec⟩
    simp(disch:=omega)only[go_sem,simprocAttr]at e
    iterate 7 refine iT ?_
    repeat refine D.cN true true ?_
    refine aj.fs (anns:=[.str iD]) ?_
    refine bK ?_
    refine D.df (e) ?_
    refine D.bR ?_ (hb:=by simp only[maxLen]; omega)
    refine ao ?_
    exact D.rx
   ·match l,aw with
    |[x,y],_=>
    simp only[mY,Bool.and_true,Bool.and_eq_true]at hq
    simp only[ad.bB]at bW
    have hY:(fX x (cm x) (cV o)++[32]++o++[32]++fX y (cm y) (cV o+1)).length≤1000000000:=ap
    simp only[List.length_append,List.length_cons,List.length_nil]at hY
    have e:=(tf N).2 x (cV o) (by omega) hq.1 (by omega)
    have ax:=(tf N).2 y (cV o+1) (by omega) hq.2 (by omega)
    show aj Tryz.prog _ _ _ _ (tJ (.str (fX x (cm x) (cV o)++[32]++o++[32]++fX y (cm y) (cV o+1))) [] []) _ _
    generalize fX x (cm x) (cV o)=iD at e hY ⊢
    generalize fX y (cm y) (cV o+1)=Ge at ax hY ⊢
    have hp:=uG o
    have oR:=B6 o
    generalize cV o=gS at*
    clear ap qL
    rcases x with ⟨eb,ef,ed,eg,ee,ec⟩
    rcases y with ⟨sv,CK,x7,uU,x8,CJ⟩
    simp(disch:=omega)only[go_sem,simprocAttr]at e
    simp(disch:=omega)only[go_sem,simprocAttr]at ax
    iterate 7 refine iT ?_
    repeat refine D.cN true true ?_
    refine aj.b6 ?_
    refine bK ?_
    refine D.P (oR) ?_
    refine bK ?_
    repeat refine D.cN true true ?_
    refine aj.fs (anns:=[.str iD,.str Ge]) ?_
    refine bK ?_
    refine D.df (e) ?_
    refine D.bR ?_
    refine bK ?_
    refine D.bR ?_
    refine D.bR ?_
    refine bK ?_
    refine D.df (ax) ?_
    refine D.bR ?_
    refine ao ?_
    exact D.rx
  refine⟨key,fun x k bW aY ap=> ?_⟩
  have oR:=B6 x.op
  by_cases cq:x.kind=6
  ·by_cases aC:cV x.op<k
   ·have jG:fX x (cm x) k=[40]++cm x++[41]:=if_pos ⟨cq,aC⟩
    rw[jG]at ap ⊢
    simp only[List.length_append,List.length_cons,List.length_nil]at ap
    have e:=key x bW aY (by omega)
    generalize cm x=iD at*
    rcases x with ⟨eb,ef,ed,eg,ee,ec⟩
    simp only[ad.kind,ad.op]at cq aC oR
    subst cq
    simp(disch:=omega)only[go_sem,simprocAttr]at e
    refine cF bN Tryz.func183 De (by simp only[b3,I.flat,ad.de,Bool.and_self]) rfl ?_
    unfold AM Ce
    simp(disch:=omega)only[go_sem,simprocAttr]
    refine ao ?_
    refine D.P (oR) ?_
    (have al:=aC;refine bQ ?_;clear al)
    refine D.P (e) ?_
    refine D.bR ?_
    refine D.bR ?_
    refine ao ?_
    exact D.rx
   ·have jG:fX x (cm x) k=cm x:=if_neg fun h=>aC h.2
    rw[jG]at ap ⊢
    have e:=key x bW aY (by omega)
    generalize cm x=iD at*
    rcases x with ⟨eb,ef,ed,eg,ee,ec⟩
    simp only[ad.kind,ad.op]at cq aC oR
    subst cq
    simp(disch:=omega)only[go_sem,simprocAttr]at e
    refine cF bN Tryz.func183 De (by simp only[b3,I.flat,ad.de,Bool.and_self]) rfl ?_
    unfold AM Ce
    simp(disch:=omega)only[go_sem,simprocAttr]
    refine ao ?_
    refine D.P (oR) ?_
    (have al:=aC;refine bQ ?_;clear al)
    refine D.P (e) ?_
    refine ao ?_
    exact D.rx
  ·have jG:fX x (cm x) k=cm x:=if_neg fun h=>cq h.1
   rw[jG]at ap ⊢
   have e:=key x bW aY (by omega)
   generalize cm x=iD at*
   rcases x with ⟨eb,ef,ed,eg,ee,ec⟩
   simp only[ad.kind]at cq
   simp(disch:=omega)only[go_sem,simprocAttr]at e
   refine cF bN Tryz.func183 De (by simp only[b3,I.flat,ad.de,Bool.and_self]) rfl ?_
   unfold AM Ce
   simp(disch:=omega)only[go_sem,simprocAttr]
   (have al:=cq;refine bQ ?_;clear al)
   refine D.P (e) ?_
   refine ao ?_
   exact D.rx
end
section
attribute [local go_sem] hL lT ad.ct ad.b9 ad.de ac.ct ac.b9 ac.de cj eN
theorem at2 (k n:Int) (s:a7) (a6:k≠2→ -1000000000≤n∧n≤1000000000) (ap:s.length≤100000000):Pure Tryz.prog 124 [.agg [.int .i64 k,.int .i64 n,.str s]] (.str (qM k n s)):=by
 refine cF bN Tryz.func124 Ue rfl rfl ?_
 unfold I5 PF
 unfold qM
 simp(disch:=omega)only[go_sem,simprocAttr]
 by_cases h:k=2
 ·rw[if_pos h]
  (have al:=h;refine bQ ?_;clear al)
  refine D.P (OZ s ap) ?_
  refine ao ?_
  exact D.rx
 ·rw[if_neg h]
  (have al:=h;refine bQ ?_;clear al)
  refine D.P (zq n (a6 h).1 (a6 h).2) ?_
  refine ao ?_
  exact D.rx
theorem Mx {xs:List a7}{sep s:a7}(h:s∈xs):s.length≤(Lib.join xs sep).length:=by
 unfold Lib.join
 induction xs with
 |nil=>cases h
 |cons x l cv=>
  cases l with
  |nil=>simp at h; subst h; simp
  |cons y l=>
   rw[List.intercalate_cons_cons]
   rcases List.mem_cons.1 h with rfl|h
   ·simp only[List.length_append]; omega
   ·have:=cv h
    simp only[List.length_append]; omega
theorem at3 (l:List ad) (aP:ad.bB l≤1000000) (aY:l.all dB=true) (ap:(Lib.join (l.map cm) [44,32]).length≤1000000000):Pure Tryz.prog 128 [.ay 6 (l.map ad.row)] (.str (Lib.join (l.map cm) [44,32])):=by
 have j9:=ad.hZ l
 have rB:=NX (l.map cm) [44,32] (by rw[List.length_map]; omega) ap
 refine cF bN Tryz.func128 Uh (by simp only[b3,I.flat,ad.b9,Bool.and_self]) rfl ?_
 unfold I8 PI
 simp(disch:=omega)only[go_sem,simprocAttr]
 iterate 2 refine iT ?_
 refine aj.rL 3 1 9 rfl (by decide) ?_
 simp(disch:=omega)only[go_sem,simprocAttr]
 refine ao ?_
 refine aj.dd (X:=Nat) 0 (fun i=>[(6,.ay 6 (l.map ad.row)),(7,.int .i64 ((l.map ad.row).length:Int)),(8,.int .i64 (i:Int)),(3,.own 0 1 (((l.take i).map cm).map cj))]) (fun _=>[]) (fun i=>[(0,.bJ 9 1 (((l.take i).map cm).map cj).length)]) (fun i=>i≤l.length) (fun i=>l.length-i) (Nat.zero_le _) ⟨rfl,rfl,rfl,rfl,trivial⟩ trivial ⟨rfl,trivial⟩ ?_
 intro i ai
 try simp only at ai ⊢
 cases af:l[i]? with
 |some v=>
  have cK:=(List.getElem?_eq_some_iff.1 af).1
  have gN:=List.mem_of_getElem? af
  have ev:((l.take (i+1)).map cm).map cj=((l.take i).map cm).map cj++[cj (cm v)]:=by
   rw[List.take_add_one,af]; simp
  have hlen:(((l.take i).map cm).map cj).length=i:=by simp; omega
  have d1:(i:Int)<((l.map ad.row).length:Int):=by rw[List.length_map]; omega
  have e:=(tf 1000000).1 v (by have:=ad.pW gN; omega) (by simpa using List.all_eq_true.1 aY v gN) (Nat.le_trans (Mx (List.mem_map_of_mem gN)) ap)
  obtain⟨tp,ZX⟩: ∃tp,tp=cm v:=⟨_,rfl⟩
  rw[←ZX]at e ev
  generalize ((l.take i).map cm).map cj=rows at ev hlen ⊢
  rcases v with ⟨eb,ef,ed,eg,ee,ec⟩
  simp(disch:=omega)only[go_sem,simprocAttr]at e
  (have al:=d1;refine bQ ?_;clear al)
  refine D.P (e) ?_
  refine ao ?_
  refine D.gL ?_
  refine ao ?_
  refine aj.gT (i+1) (by omega) ⟨rfl,rfl,by simp only[Int.natCast_add]; rfl,by simp only[ev]; rfl,trivial⟩ trivial ⟨by simp only[ev,List.length_append]; rfl,trivial⟩ rfl (by simp only[fY,dr,dP,dV,fO,I.cR,b2.bJ,eN,go_sem]<;>rfl) (by show l.length-(i+1)<l.length-i; omega)
 |none=>
  have cM:=List.getElem?_eq_none_iff.1 af
  have bE:i=l.length:=by omega
  subst bE
  have d1: ¬(l.length:Int)<((l.map ad.row).length:Int):=by rw[List.length_map]; omega
  rw[List.take_length]
  (have al:=d1;refine bQ ?_;clear al)
  refine D.P (rB) ?_
  refine ao ?_
  exact D.rx
end
section
attribute [local go_sem] hL lT ad.ct ad.b9 ad.de ac.ct ac.b9 ac.de cj eN
theorem C8 (d:Nat):BT 182 [.int .i64 (d:Int)]:= .inr ⟨rfl,_,rfl⟩
theorem XT {ps:List a7}{i:Nat}{v:a7}(h:ps[i]? =some v):(ps.take (i+1)).flatten=(ps.take i).flatten++v:=by
 rw[List.take_add_one,h]; simp
theorem KZ (ps:List a7) (i:Nat):(ps.take i).flatten.length≤ps.flatten.length:=by
 conv=>rhs; rw[←List.take_append_drop i ps]
 rw[List.flatten_append,List.length_append]
 omega
theorem oy (d:Nat) (bw:d≤1000000){A:I}(fa:z8 A) (out:a7) (ps:List a7) (a6:ps.length≤1000) (aH:out.length+(eE d ps).length≤1000000000):bz Tryz.prog 122 [.ptr 0 0,.ay 1 (ps.map cj)] (pC 182 A out [.int .i64 (d:Int)]) (fJ (.di []) (lA 182 (.ptr 0 0) (out++eE d ps) [.int .i64 (d:Int)]) (qo (out++eE d ps))):=by
 have oX:out.length+(d+ps.flatten.length+1)≤1000000000:=by
  simp only[eE,List.length_append,List.length_replicate,List.length_cons,List.length_nil]at aH
  omega
 have bE:=OX (C8 d) fa out (List.replicate d 9) (by rw[List.length_replicate]; omega)
 have Xv:=al7 d bw
 have uq:(List.replicate d (9:UInt8)).length=d:=List.length_replicate
 unfold eE
 generalize List.replicate d (9:UInt8)=pj at*
 rcases fa with rfl|rfl
 all_goals
  have bG:=oX
  refine bz.intro bN Tryz.func122 Ud ?_
  unfold I4 PE
  simp(disch:=omega)only[go_sem,simprocAttr]
  repeat refine D.cN true true ?_
  refine aj.fs (anns:=[.str pj]) ?_
  refine bK ?_
  refine D.df (Xv) ?_
  refine bK ?_
  refine D.F ⟨[0],[0]⟩ (bE) ?_
  refine ao ?_
  refine aj.dd (X:=Nat) 0 (fun i=>[(0,.ptr 0 0),(15,.ay 1 (ps.map cj)),(16,.int .i64 ((ps.map cj).length:Int)),(17,.int .i64 (i:Int))]) (fun i=>[(0,182,[.ptr 0 0,.own 0 1 ((out++pj++(ps.take i).flatten).map hL),.int .i64 (d:Int)])]) (fun i=>[(0,.bJ 5 1 ((out++pj++(ps.take i).flatten).map hL).length)]) (fun i=>i≤ps.length) (fun i=>ps.length-i) (Nat.zero_le _) ⟨rfl,rfl,rfl,rfl,trivial⟩ ⟨by simp only[List.take_zero,List.flatten_nil,List.append_nil]; rfl,trivial⟩ ⟨by simp only[List.take_zero,List.flatten_nil,List.append_nil]; rfl,trivial⟩ ?_
  intro i ai
  try simp only at ai ⊢
  have yU:=KZ ps i
  cases af:ps[i]? with
  |some v=>
   have cK:=(List.getElem?_eq_some_iff.1 af).1
   have ev:=XT af
   have LD:=KZ ps (i+1)
   rw[ev,List.length_append]at LD
   have d1:(i:Int)<((ps.map cj).length:Int):=by rw[List.length_map]; omega
   have fV:(out++pj++(ps.take i).flatten).length+v.length≤1000000000:=by simp only[List.length_append]; omega
   have fy:out++pj++(ps.take (i+1)).flatten=(out++pj++(ps.take i).flatten)++v:=by rw[ev,List.append_assoc,List.append_assoc,List.append_assoc]
   generalize out++pj++(ps.take i).flatten=Y at fV fy ⊢
   (have al:=d1;refine bQ ?_;clear al)
   refine D.F ⟨[0],[0]⟩ (OX (C8 d) (.inr rfl) Y v fV) ?_
   refine ao ?_
   refine aj.dK (i+1) (by omega) ⟨rfl,rfl,rfl,by simp only[Int.natCast_add]; rfl,trivial⟩ (by simp only[fy]; exact⟨rfl,trivial⟩) (by simp only[fy]; exact⟨rfl,trivial⟩) rfl rfl (by show ps.length-(i+1)<ps.length-i; omega)
  |none=>
   have cM:=List.getElem?_eq_none_iff.1 af
   have bE:i=ps.length:=by omega
   subst bE
   have d1: ¬(ps.length:Int)<((ps.map cj).length:Int):=by rw[List.length_map]; omega
   rw[List.take_length]
   have fV:(out++pj++ps.flatten).length+1≤1000000000:=by simp only[List.length_append]; omega
   rw[show out++(pj++ps.flatten++[10])=(out++pj++ps.flatten)++[10] by simp only[List.append_assoc]]
   generalize out++pj++ps.flatten=Y at fV ⊢
   (have al:=d1;refine bQ ?_;clear al)
   refine D.F ⟨[0],[0]⟩ (xF (C8 d) (.inr rfl) Y 10 10 rfl fV) ?_
   refine ao ?_
   refine D.r ?_
   exact⟨rfl,⟨rfl,trivial⟩,rfl,trivial⟩
end
section
attribute [local go_sem] hL lT ad.ct ad.b9 ad.de ac.ct ac.b9 ac.de cj eN
abbrev vR (out:a7) (d:Nat):fe:=lA 182 (.ptr 0 0) out [.int .i64 (d:Int)]
theorem Fi (d:Nat){l:List ac}{i:Nat}{v:ac}(h:l[i]? =some v):ac.fF d (l.take (i+1))=ac.fF d (l.take i)++ac.gS d [105,102,32] v:=by
 have dM: ∀a b:List ac,ac.fF d (a++b)=ac.fF d a++ac.fF d b:=by
  intro a
  induction a with
  |nil=>intro b; rfl
  |cons x a cv=>intro b; simp only[List.cons_append,ac.fF,cv b,List.append_assoc]
 rw[List.take_add_one,h,dM]
 simp only[Option.toList_some,ac.fF,List.append_nil]
theorem Fh (d:Nat) (l:List ac) (i:Nat):(ac.fF d (l.take i)).length≤(ac.fF d l).length:=by
 induction l generalizing i with
 |nil=>simp
 |cons x l cv=>
  cases i with
  |zero=>simp [ac.fF]
  |succ i=>
   simp only[List.take_succ_cons,ac.fF,List.length_append]
   have:=cv i
   omega
theorem OJ (d:Nat){l:List ac}{i:Nat}{v:ac}(h:l[i]? =some v):(ac.fF d (l.take i)).length+(ac.gS d [105,102,32] v).length≤(ac.fF d l).length:=by
 have:=Fh d l (i+1)
 rw[Fi d h,List.length_append]at this
 exact this
def mP (N:Nat):Prop:=∀(x:ac) (d:Nat) (out:a7),x.bI≤N→hX x=true→d+x.bI≤1000000→out.length+(ac.gS d [105,102,32] x).length≤1000000000→bz Tryz.prog 182 [.ptr 0 0,.agg x.row] (pC 182 (.ptr 0 0) out [.int .i64 (d:Int)]) (fJ (.di []) (vR (out++ac.gS d [105,102,32] x) d) (qo (out++ac.gS d [105,102,32] x)))
def oH (N:Nat):Prop:=∀(l:List ac) (d:Nat) (out:a7),ac.bB l≤N→ho l=true→d+1+ac.bB l≤1000000→out.length+(ac.fF (d+1) l).length≤1000000000→bz Tryz.prog 126 [.ptr 0 0,.ay 11 (l.map ac.row)] (pC 182 (.ptr 0 0) out [.int .i64 (d:Int)]) (fJ (.di []) (vR (out++ac.fF (d+1) l) d) (qo (out++ac.fF (d+1) l)))
theorem OC {N:Nat}(mo:mP N):oH N:=by
 intro l d out bW aY bw aH
 have j9:=ac.hZ l
 rw[yK]at aY
 refine bz.intro bN Tryz.func126 Uf ?_
 unfold I6 PG
 simp(disch:=omega)only[go_sem,simprocAttr]
 refine ao ?_
 refine aj.dd (X:=Nat) 0 (fun i=>[(0,.ptr 0 0),(13,.ay 11 (l.map ac.row)),(14,.int .i64 ((l.map ac.row).length:Int)),(15,.int .i64 (i:Int))]) (fun i=>vR (out++ac.fF (d+1) (l.take i)) (d+1)) (fun i=>qo (out++ac.fF (d+1) (l.take i))) (fun i=>i≤l.length) (fun i=>l.length-i) (Nat.zero_le _) ⟨rfl,rfl,rfl,rfl,trivial⟩ ⟨by simp only[List.take_zero,ac.fF,List.append_nil,Int.natCast_add]; rfl,trivial⟩ ⟨by simp only[List.take_zero,ac.fF,List.append_nil]; rfl,trivial⟩ ?_
 intro i ai
 try simp only at ai ⊢
 have yU:=Fh (d+1) l i
 cases af:l[i]? with
 |some v=>
  have cK:=(List.getElem?_eq_some_iff.1 af).1
  have gN:=List.mem_of_getElem? af
  have aR0:=ac.pW gN
  have mZ:hX v=true:=by simpa using List.all_eq_true.1 aY v gN
  have LD:=OJ (d+1) af
  have fy:out++ac.fF (d+1) (l.take (i+1))=(out++ac.fF (d+1) (l.take i))++ac.gS (d+1) [105,102,32] v:=by rw[Fi _ af,List.append_assoc]
  have d1:(i:Int)<((l.map ac.row).length:Int):=by rw[List.length_map]; omega
  have fV:(out++ac.fF (d+1) (l.take i)).length+(ac.gS (d+1) [105,102,32] v).length≤1000000000:=by simp only[List.length_append]; omega
  generalize out++ac.fF (d+1) (l.take i)=Y at fV fy ⊢
  have e:=mo v (d+1) Y (by omega) mZ (by omega) fV
  generalize ac.gS (d+1) [105,102,32] v=mE at e fy
  rcases v with ⟨dY,aj0,⟨aN2,aN6,aN4,aN7,aN5,aN3⟩,aJ2,aE4,aE6⟩
  simp(disch:=omega)only[go_sem,simprocAttr]at e
  (have al:=d1;refine bQ ?_;clear al)
  refine D.F ⟨[0],[0]⟩ (e) ?_
  refine ao ?_
  refine aj.gT (i+1) (by omega) ⟨rfl,rfl,rfl,by simp only[Int.natCast_add]; rfl,trivial⟩ (by simp only[fy,vR,lA,Int.natCast_add]; exact⟨rfl,trivial⟩) (by simp only[fy]; exact⟨rfl,trivial⟩) rfl (by simp only[fY,dr,dP,dV,fO,I.cR,b2.bJ,vR,lA,lT,ac.b9,go_sem]<;>rfl) (by show l.length-(i+1)<l.length-i; omega)
 |none=>
  have cM:=List.getElem?_eq_none_iff.1 af
  have bE:i=l.length:=by omega
  subst bE
  have d1: ¬(l.length:Int)<((l.map ac.row).length:Int):=by rw[List.length_map]; omega
  rw[List.take_length]
  (have al:=d1;refine bQ ?_;clear al)
  refine D.r ?_
  refine⟨rfl,⟨?_,trivial⟩,rfl,trivial⟩
  simp only[vR,lA]
  rw[show ((d+1:Nat):Int)-1=(d:Int) by omega]
  rfl
theorem Bi {k:Int}{m:a7}{t:Int}{kk b7:Nat}(h:eu k m t kk b7=true):(k=1∧t=0∧kk=0∧b7=0)∨(k=2∧m=[]∧t=0)∨(k=3∧m=[]∧1≤t∧t≤50∧b7=0):=by
 unfold eu at h
 by_cases J:k=1
 ·simp [J]at h; simp [J,h.2.1,h.2.2.1,h.2.2.2]
 by_cases aa:k=2
 ·simp [aa]at h; simp [aa,h.1,h.2]
 by_cases au:k=3
 ·simp [au]at h; simp [au,h.1,h.2.1,h.2.2.1,h.2.2.2]
 simp [J,aa,au]at h
theorem xO {d:Nat}{s:a7}{ps:List a7}(h:s∈ps):s.length≤(eE d ps).length:=by
 have: ∀(l:List a7),s∈l→s.length≤l.flatten.length:=by
  intro l
  induction l with
  |nil=>intro h; cases h
  |cons x l cv=>
   intro h
   rw[List.flatten_cons,List.length_append]
   rcases List.mem_cons.1 h with rfl|h
   ·omega
   ·have:=cv h; omega
 have:=this ps h
 simp only[eE,List.length_append]
 omega
theorem ar5 {N:Nat}(dX:oH N):mP (N+1):=by
 rintro⟨k,h7,x,t,hU,gD⟩ d out bW aY bw aH
 simp only[ac.bI]at bW bw
 simp only[hX,Bool.and_eq_true]at aY
 obtain⟨bh,pQ,pP,lY⟩:=aY
 have xa:x.bI≤1000000:=by omega
 rcases Bi bh with ⟨rfl,rfl,aa,au⟩|⟨rfl,rfl,rfl⟩|⟨rfl,rfl,J,aa,au⟩
 ·have bE:ac.gS d [105,102,32] (.mk 1 h7 x 0 hU gD)=eE d [h7,[32,61,32],cm x,[59]]:=by simp only[ac.gS,if_true]
  rw[bE]at aH ⊢
  have ap:(cm x).length≤1000000000:=by have:=xO (d:=d) (s:=cm x) (ps:=[h7,[32,61,32],cm x,[59]]) (by simp); omega
  have e:=(tf 1000000).1 x xa pQ ap
  have el:=oy d (by omega) (.inr rfl) out [h7,[32,61,32],cm x,[59]] (by simp) aH
  generalize eE d [h7,[32,61,32],cm x,[59]]=L at*
  generalize cm x=iD at*
  rcases x with ⟨eb,ef,ed,eg,ee,ec⟩
  simp(disch:=omega)only[go_sem,simprocAttr]at e
  refine bz.intro bN Tryz.func182 Dd ?_
  unfold AL Cd
  simp(disch:=omega)only[go_sem,simprocAttr]
  iterate 3 refine iT ?_
  repeat refine D.cN true true ?_
  refine aj.fs (anns:=[.str iD]) ?_
  refine bK ?_
  refine D.df (e) ?_
  refine bK ?_
  refine D.F ⟨[0],[0]⟩ (el) ?_
  refine ao ?_
  refine D.r ?_
  exact⟨rfl,⟨rfl,trivial⟩,rfl,trivial⟩
 ·have eC: ∃F,F=out++ac.gS d [105,102,32] (.mk 2 [] x 0 hU gD):=⟨_,rfl⟩
  obtain⟨F,eC⟩:=eC
  have Be:F.length≤1000000000:=by rw[eC,List.length_append]; omega
  rw[←eC]
  rcases x with ⟨eb,ef,ed,eg,ee,ec⟩
  refine bz.intro bN Tryz.func182 Dd ?_
  unfold AL Cd
  simp(disch:=omega)only[go_sem,simprocAttr]
  iterate 4 refine iT ?_
  refine ao ?_
  refine aj.dd (X:=a7×ad×List ac×List ac×a7) ([105,102,32],.mk eb ef ed eg ee ec,hU,gD,out) (fun y=>[(0,.ptr 0 0),(3,.ptr 1 0),(4,.str y.1)]) (fun y=>[(0,182,[.ptr 0 0,.own 0 1 (y.2.2.2.2.map hL),.int .i64 (d:Int)]),(1,133,(ac.mk 2 [] y.2.1 0 y.2.2.1 y.2.2.2.1).row)]) (fun y=>[(0,.bJ 5 1 (y.2.2.2.2.map hL).length)]) (fun y=>dB y.2.1=true∧ho y.2.2.1=true∧ho y.2.2.2.1=true∧y.2.1.bI+ac.bB y.2.2.1+ac.bB y.2.2.2.1≤N∧d+(1+y.2.1.bI+ac.bB y.2.2.1+ac.bB y.2.2.2.1)≤1000000∧F=y.2.2.2.2++ac.gS d y.1 (.mk 2 [] y.2.1 0 y.2.2.1 y.2.2.2.1)) (fun y=>ac.bB y.2.2.2.1) ⟨pQ,pP,lY,by simp only; omega,by simp only; omega,eC⟩ ⟨rfl,rfl,rfl,trivial⟩ ⟨rfl,by simp only[ac.ct,ad.ct]; rfl,trivial⟩ ⟨rfl,trivial⟩ ?_
  rintro⟨D8,x,a,b,O⟩ ⟨pQ,pP,lY,bW,bw,eC⟩
  simp only at pQ pP lY bW bw eC ⊢
  have qC:=congrArg List.length eC
  simp only[ac.gS,show ¬(2:Int)=1 by decide,show ¬(2:Int)=3 by decide,if_false]at eC
  obtain⟨L,ek⟩: ∃L,L=eE d [D8,cm x,[32,123]]:=⟨_,rfl⟩
  obtain⟨re,sV⟩: ∃re,re=ac.fF (d+1) a:=⟨_,rfl⟩
  obtain⟨T,c4⟩: ∃T,T=(if jH b=true then ac.rC d b else (if b.isEmpty=true then[] else eE d [[125,32,101,108,115,101,32,123]]++ac.fF (d+1) b)++eE d [[125]]):=⟨_,rfl⟩
  rw[←ek,←sV,←c4]at eC
  have Yp:O.length+L.length+re.length+T.length=F.length:=by rw[eC]; simp only[List.length_append]; omega
  have ap:(cm x).length≤1000000000:=by have:=xO (d:=d) (s:=cm x) (ps:=[D8,cm x,[32,123]]) (by simp); rw[←ek]at this; omega
  have e:=(tf 1000000).1 x (by omega) pQ ap
  have el:=oy d (by omega) (.inr rfl) O [D8,cm x,[32,123]] (by simp) (by rw[←ek]; omega)
  rw[←ek]at el
  have kG:=dX a d (O++L) (by omega) pP (by omega) (by rw[←sV,List.length_append]; omega)
  rw[←sV]at kG
  clear ek sV qC
  generalize cm x=iD at*
  rcases x with ⟨eb,ef,ed,eg,ee,ec⟩
  simp only[ac.ct,ad.ct]
  simp(disch:=omega)only[go_sem,simprocAttr]at e
  refine ao ?_
  refine D.P (e) ?_
  refine ao ?_
  refine D.F ⟨[0],[0]⟩ (el) ?_
  refine ao ?_
  refine D.F ⟨[0],[0]⟩ (kG) ?_
  have w0:F=(O++L++re)++T:=by rw[eC]; simp only[List.append_assoc]
  have Ln:(O++L++re).length+T.length≤1000000000:=by simp only[List.length_append]; omega
  generalize O++L++re=Y at w0 Ln ⊢
  clear eC Yp el kG e
  by_cases oo:b=[]
  ·subst oo
   simp only[jH,List.isEmpty_nil,Bool.false_eq_true,if_false,if_true,List.nil_append]at c4
   have qt:=oy d (by omega) (.inr rfl) Y [[125]] (by simp) (by rw[←c4]; exact Ln)
   rw[←c4,←w0]at qt
   refine ao ?_
   refine D.F ⟨[0],[0]⟩ (qt) ?_
   refine ao ?_
   refine D.r ?_
   exact⟨rfl,⟨rfl,trivial⟩,rfl,trivial⟩
  cases eU:jH b with
  |true=>
   rw[eU,if_pos rfl]at c4
   match b,eU,lY,bW,bw,c4 with
   |[.mk sv x8 SL uU tB su],eU,lY,bW,bw,c4=>
   have eU:sv=2:=of_decide_eq_true eU
   subst eU
   simp only[ho,hX,Bool.and_true,Bool.and_eq_true]at lY
   obtain⟨Z9,aa0,Z7,Z8⟩:=lY
   rcases Bi Z9 with ⟨h,_⟩|⟨_,rfl,rfl⟩|⟨h,_⟩
   ·cases h
   rotate_left
   ·cases h
   simp only[ac.bB,ac.bI]at bW bw
   simp only[ac.rC]at c4
   rw[c4]at w0
   have Me:ac.bB su<ac.bB [ac.mk 2 [] SL 0 tB su]:=by simp only[ac.bB,ac.bI]; omega
   rcases SL with ⟨SM,SQ,SO,SR,SP,SN⟩
   refine ao ?_
   refine aj.dK ([125,32,101,108,115,101,32,105,102,32],.mk SM SQ SO SR SP SN,tB,su,Y) ⟨aa0,Z7,Z8,by simp only; omega,by simp only; omega,w0⟩ ⟨rfl,rfl,rfl,trivial⟩ ⟨rfl,by simp only[ac.ct,ad.ct]; rfl,trivial⟩ ⟨rfl,trivial⟩ rfl rfl Me
  |false=>
   have xf:b.isEmpty=false:=by cases b with|nil=>exact absurd rfl oo|cons _ _=>rfl
   rw[eU,xf]at c4
   simp only[Bool.false_eq_true,if_false]at c4
   obtain⟨yg,Bf⟩: ∃yg,yg=eE d [[125,32,101,108,115,101,32,123]]:=⟨_,rfl⟩
   obtain⟨Aa,Bd⟩: ∃Aa,Aa=ac.fF (d+1) b:=⟨_,rfl⟩
   obtain⟨E,dc⟩: ∃E,E=eE d [[125]]:=⟨_,rfl⟩
   rw[←Bf,←Bd,←dc]at c4
   have Lo:=congrArg List.length c4
   simp only[List.length_append]at Lo
   have ar:=oy d (by omega) (.inr rfl) Y [[125,32,101,108,115,101,32,123]] (by simp) (by rw[←Bf]; omega)
   rw[←Bf]at ar
   have ax:=dX b d (Y++yg) (by omega) lY (by omega) (by rw[←Bd,List.length_append]; omega)
   rw[←Bd]at ax
   have cw:=oy d (by omega) (.inr rfl) (Y++yg++Aa) [[125]] (by simp) (by rw[←dc]; simp only[List.length_append]; omega)
   rw[←dc]at cw
   have Lm:F=Y++yg++Aa++E:=by rw[w0,c4]; simp only[List.append_assoc]
   clear c4 Bf Bd dc w0 Lo
   by_cases hlen:b.length=1
   focus
    match b,hlen,eU with
    |[.mk sv x8 ⟨SM,SQ,SO,SR,SP,SN⟩ uU tB su],_,eU=>
    have eU: ¬sv=2:=of_decide_eq_false eU
    simp(disch:=omega)only[go_sem,simprocAttr]at ax
    (have al:=eU;refine bQ ?_;clear al)
    refine D.F ⟨[0],[0]⟩ (ar) ?_
    refine ao ?_
    refine D.F ⟨[0],[0]⟩ (ax) ?_
    refine ao ?_
    refine D.F ⟨[0],[0]⟩ (cw) ?_
    refine ao ?_
    refine D.r ?_
    rw[Lm]
    exact⟨rfl,⟨rfl,trivial⟩,rfl,trivial⟩
   have qF:0<b.length:=by cases b with|nil=>exact absurd rfl oo|cons _ _=>simp
   have d5: ¬((b.map ac.row).length:Int)=1:=by rw[List.length_map]; omega
   have d6:(0:Int)<((b.map ac.row).length:Int):=by rw[List.length_map]; omega
   (have al:=d5;have z2:=d6;refine e8 ?_;clear al z2)
   refine D.F ⟨[0],[0]⟩ (ar) ?_
   refine ao ?_
   refine D.F ⟨[0],[0]⟩ (ax) ?_
   refine ao ?_
   refine D.F ⟨[0],[0]⟩ (cw) ?_
   refine ao ?_
   refine D.r ?_
   rw[Lm]
   exact⟨rfl,⟨rfl,trivial⟩,rfl,trivial⟩
 ·have bE:ac.gS d [105,102,32] (.mk 3 [] x t hU gD)=eE d [[119,104,105,108,101,32],cm x,[32,116,105,109,101,115,32],Lib.itoa t,[32,123]]++ac.fF (d+1) hU++eE d [[125]]:=by simp only[ac.gS,show ¬(3:Int)=1 by decide,if_false,if_true]
  rw[bE]at aH ⊢
  obtain⟨L,ek⟩: ∃L,L=eE d [[119,104,105,108,101,32],cm x,[32,116,105,109,101,115,32],Lib.itoa t,[32,123]]:=⟨_,rfl⟩
  obtain⟨re,sV⟩: ∃re,re=ac.fF (d+1) hU:=⟨_,rfl⟩
  obtain⟨E,dc⟩: ∃E,E=eE d [[125]]:=⟨_,rfl⟩
  rw[←ek,←sV,←dc]at aH ⊢
  simp only[List.length_append]at aH
  have ap:(cm x).length≤1000000000:=by have:=xO (d:=d) (s:=cm x) (ps:=[[119,104,105,108,101,32],cm x,[32,116,105,109,101,115,32],Lib.itoa t,[32,123]]) (by simp); rw[←ek]at this; omega
  have e:=(tf 1000000).1 x xa pQ ap
  have tZ:=zq t (by omega) (by omega)
  have el:=oy d (by omega) (.inr rfl) out [[119,104,105,108,101,32],cm x,[32,116,105,109,101,115,32],Lib.itoa t,[32,123]] (by simp) (by rw[←ek]; omega)
  rw[←ek]at el
  have kG:=dX hU d (out++L) (by omega) pP (by omega) (by rw[←sV,List.length_append]; omega)
  rw[←sV]at kG
  have qt:=oy d (by omega) (.inr rfl) (out++L++re) [[125]] (by simp) (by rw[←dc]; simp only[List.length_append]; omega)
  rw[←dc]at qt
  clear ek sV dc
  generalize cm x=iD at*
  generalize Lib.itoa t=aF8 at*
  rcases x with ⟨eb,ef,ed,eg,ee,ec⟩
  simp(disch:=omega)only[go_sem,simprocAttr]at e
  refine bz.intro bN Tryz.func182 Dd ?_
  unfold AL Cd
  simp(disch:=omega)only[go_sem,simprocAttr]
  iterate 4 refine iT ?_
  repeat refine D.cN true true ?_
  refine aj.fs (anns:=[.str iD,.str aF8]) ?_
  refine bK ?_
  refine D.df (e) ?_
  refine bK ?_
  refine D.df (tZ) ?_
  refine bK ?_
  refine D.F ⟨[0],[0]⟩ (el) ?_
  refine ao ?_
  refine D.F ⟨[0],[0]⟩ (kG) ?_
  refine ao ?_
  refine D.F ⟨[0],[0]⟩ (qt) ?_
  refine ao ?_
  refine D.r ?_
  refine⟨rfl,⟨?_,trivial⟩,?_,trivial⟩
  ·simp only[vR,lA,List.append_assoc]; rfl
  ·simp only[qo,List.append_assoc]; rfl
theorem OL: ∀N,mP N∧oH N
 |0=>by
  have h:mP 0:=fun x d out h=>by cases x; simp only[ac.bI]at h; omega
  exact⟨h,OC h⟩
 |N+1=>by
  have h:=ar5 (OL N).2
  exact⟨h,OC h⟩
end
section
attribute [local go_sem] ad.ct ac.ct ad.b9 ac.b9 cj eN fZ gJ dp of_flat
attribute [local go_sem] cb.row dG
theorem O7 {R:Nat}(an:R≤140737488355328): ∀(N:Nat) (x y:ac),x.bI≤N→x.ok R→Pure Tryz.prog 68 [.agg x.row,.agg y.row] (.bool (q3 x y))
 |N,.mk k m x t a b,.mk bA m2 rc t2 a2 dU,bW,ab=>by
  have key: ∀(l dZ:List ac),ac.bB l+1≤N→l.length*168≤R→ac.lk R l→Pure Tryz.prog 67 [.ay 11 (l.map ac.row),.ay 11 (dZ.map ac.row),.fn 68 []] (.bool (mH l dZ)):=fun l dZ aH hlen aC=>by
   rw[Ct]
   refine O6 q3 68 (by kernel_rfl) l dZ (r3 an (by decide) hlen) fun i u v hu af=> ?_
   have hm:=ac.lh hu
   match N,aH with
   |0,aH=>omega
   |N+1,aH=>exact O7 an N u v (by omega) (ac.qU aC hu)
  simp only[ac.bI]at bW
  have mm:=key a a2 (by omega) ab.2.2.2.2.1 ab.2.2.2.2.2.2.1
  have kG:=key b dU (by omega) ab.2.2.2.2.2.1 ab.2.2.2.2.2.2.2
  have ex:=FA an x.bI x rc (Nat.le_refl _) ab.2.2.1
  clear ab key
  obtain⟨cO,pX,m3,t3,MV,o2⟩:=x
  obtain⟨fC,vM,m4,t4,n4,BF⟩:=rc
  simp(disch:=omega)only[go_sem,simprocAttr]at ex
  refine cF bN Tryz.func68 VG (by simp only[ac.ct,ad.ct,List.cons_append,List.nil_append,b3,I.flat,ad.b9,ac.b9,Bool.and_self]) rfl ?_
  unfold Kl Q8
  simp only[q3]
  generalize nF (ad.mk cO pX m3 t3 MV o2) (ad.mk fC vM m4 t4 n4 BF)=Hr at ex
  generalize mH a a2=aO4 at mm
  generalize mH b dU=lA at kG
  simp(disch:=omega)only[go_sem,simprocAttr]
  (repeat' first|refine D.S ?_|refine D.cN true true ?_|refine ae.nil ?_|refine aj.b6 ?_|refine D.W ?_|refine D.Z ?_|refine D.G ?_ ?_|refine D.X ‹_› ?_|refine D.eh ‹_› ?_|refine D.ei ‹_› ?_|intro h)
  ·refine D.P (ex) ?_
   (repeat' first|refine D.S ?_|refine D.cN true true ?_|refine ae.nil ?_|refine aj.b6 ?_|refine D.W ?_|refine D.Z ?_|refine D.G ?_ ?_|refine D.X ‹_› ?_|refine D.eh ‹_› ?_|refine D.ei ‹_› ?_|intro h)
   ·refine D.P (mm) ?_
    (repeat' first|refine D.S ?_|refine D.cN true true ?_|refine ae.nil ?_|refine aj.b6 ?_|refine D.W ?_|refine D.Z ?_|refine D.G ?_ ?_|refine D.X ‹_› ?_|refine D.eh ‹_› ?_|refine D.ei ‹_› ?_|intro h)
    ·refine D.P (kG) ?_
     refine ao ?_
     refine D.r ?_
     refine⟨_,rfl,.av ?_ rfl,trivial,trivial⟩
     simp_all [I.av]
    all_goals
     refine D.R ?_
     refine⟨_,rfl,.av ?_ rfl,trivial,trivial⟩
     simp_all [I.av]
   all_goals
    refine D.R ?_
    refine⟨_,rfl,.av ?_ rfl,trivial,trivial⟩
    simp_all [I.av]
  all_goals
   refine D.R ?_
   refine⟨_,rfl,.av ?_ rfl,trivial,trivial⟩
   simp_all [I.av]
theorem aH6 {R:Nat}(an:R≤140737488355328) (l dZ:List ac) (hlen:l.length*168≤R) (aC:ac.lk R l):Pure Tryz.prog 67 [.ay 11 (l.map ac.row),.ay 11 (dZ.map ac.row),.fn 68 []] (.bool (mH l dZ)):=by
 rw[Ct]
 exact O6 q3 68 (by kernel_rfl) l dZ (r3 an (by decide) hlen) fun i u v hu af=>O7 an u.bI u v (Nat.le_refl _) (ac.qU aC hu)
theorem KQ {R:Nat}(an:R≤140737488355328) (l dZ:List ad) (hlen:l.length*88≤R) (aC:ad.lk R l):Pure Tryz.prog 71 [.ay 6 (l.map ad.row),.ay 6 (dZ.map ad.row),.fn 72 []] (.bool (lW l dZ)):=by
 rw[AY]
 exact O8 nF 72 (by kernel_rfl) l dZ (r3 an (by decide) hlen) fun i u v hu af=>FA an u.bI u v (Nat.le_refl _) (ad.qU aC hu)
theorem ay1 {R:Nat}(an:R≤140737488355328) (a b:cd) (aP:a.ok R):Pure Tryz.prog 65 [.agg a.row,.agg b.row] (.bool (qE a b)):=by
 have ar:=ay2 a.ps b.ps (r3 an (by decide) aP.2.2.1)
 have ax:=aH6 an a.body b.body aP.2.2.2.2.1 aP.2.2.2.2.2
 refine cF bN Tryz.func65 VD (by simp only[fZ,b3,I.flat,eN,ac.b9,Bool.and_self]) rfl ?_
 unfold Ki Q5
 simp only[qE]
 generalize decide (a.ps=b.ps)=eB at ar
 generalize mH a.body b.body=dU at ax
 simp(disch:=omega)only[go_sem,simprocAttr]
 (repeat' first|refine D.S ?_|refine D.cN true true ?_|refine ae.nil ?_|refine aj.b6 ?_|refine D.W ?_|refine D.Z ?_|refine D.G ?_ ?_|refine D.X ‹_› ?_|refine D.eh ‹_› ?_|refine D.ei ‹_› ?_|intro h)
 ·refine D.P (ar) ?_
  (repeat' first|refine D.S ?_|refine D.cN true true ?_|refine ae.nil ?_|refine aj.b6 ?_|refine D.W ?_|refine D.Z ?_|refine D.G ?_ ?_|refine D.X ‹_› ?_|refine D.eh ‹_› ?_|refine D.ei ‹_› ?_|intro h)
  ·refine D.P (ax) ?_
   refine ao ?_
   refine D.r ?_
   refine⟨_,rfl,.av ?_ rfl,trivial,trivial⟩
   simp_all [I.av]
  all_goals
   refine D.R ?_
   refine⟨_,rfl,.av ?_ rfl,trivial,trivial⟩
   simp_all [I.av]
 all_goals
  refine D.R ?_
  refine⟨_,rfl,.av ?_ rfl,trivial,trivial⟩
  simp_all [I.av]
theorem ay4 {R:Nat}(an:R≤140737488355328) (a b:ca) (aP:a.ok R):Pure Tryz.prog 70 [.agg a.row,.agg b.row] (.bool (qT a b)):=by
 have ar:=KQ an a.args b.args aP.2.2.1 aP.2.2.2.1
 have ax:=KQ an a.dT b.dT aP.2.2.2.2.1 aP.2.2.2.2.2
 refine cF bN Tryz.func70 VI (by simp only[gJ,b3,I.flat,ad.b9,Bool.and_self]) rfl ?_
 unfold Kn Rb
 simp only[qT]
 generalize lW a.args b.args=eB at ar
 generalize lW a.dT b.dT=dU at ax
 simp(disch:=omega)only[go_sem,simprocAttr]
 (repeat' first|refine D.S ?_|refine D.cN true true ?_|refine ae.nil ?_|refine aj.b6 ?_|refine D.W ?_|refine D.Z ?_|refine D.G ?_ ?_|refine D.X ‹_› ?_|refine D.eh ‹_› ?_|refine D.ei ‹_› ?_|intro h)
 ·refine D.P (ar) ?_
  (repeat' first|refine D.S ?_|refine D.cN true true ?_|refine ae.nil ?_|refine aj.b6 ?_|refine D.W ?_|refine D.Z ?_|refine D.G ?_ ?_|refine D.X ‹_› ?_|refine D.eh ‹_› ?_|refine D.ei ‹_› ?_|intro h)
  ·refine D.P (ax) ?_
   refine ao ?_
   refine D.r ?_
   refine⟨_,rfl,.av ?_ rfl,trivial,trivial⟩
   simp_all [I.av]
  all_goals
   refine D.R ?_
   refine⟨_,rfl,.av ?_ rfl,trivial,trivial⟩
   simp_all [I.av]
 all_goals
  refine D.R ?_
  refine⟨_,rfl,.av ?_ rfl,trivial,trivial⟩
  simp_all [I.av]
theorem lq (x:e9):x.ir= .agg [.str x.name,.str x.hD,.str x.hA,.ay 7 (x.vars.map cb.row),.ay 4 (x.ap.map cd.row),.ay 4 (x.os.map ca.row)]:=rfl
theorem aw7 {R:Nat}(an:R≤140737488355328) (x y:e9) (ab:x.ok R):Pure Tryz.prog 22 [x.ir,y.ir] (.bool (xR x y)):=by
 have ar:=ax9 x.vars y.vars (r3 an (by decide) ab.nS)
 have ax:=ay0 qE 65 (by kernel_rfl) x.ap y.ap (r3 an (by decide) ab.nh) fun i u v hu af=>ay1 an u v (ab.ap u (List.mem_of_getElem? hu))
 have cw:=ay3 qT 70 (by kernel_rfl) x.os y.os (r3 an (by decide) ab.no) fun i u v hu af=>ay4 an u v (ab.os u (List.mem_of_getElem? hu))
 rw[lq,lq]
 refine cF bN Tryz.func22 Va (by simp only[b3,I.flat,dG,dp,of_flat,Bool.and_self]) rfl ?_
 unfold JV QB
 simp only[xR]
 generalize decide (x.vars=y.vars)=eB at ar
 generalize eL qE x.ap y.ap=dU at ax
 generalize eL qT x.os y.os=jj at cw
 simp(disch:=omega)only[go_sem,simprocAttr]
 (repeat' first|refine D.S ?_|refine D.cN true true ?_|refine ae.nil ?_|refine aj.b6 ?_|refine D.W ?_|refine D.Z ?_|refine D.G ?_ ?_|refine D.X ‹_› ?_|refine D.eh ‹_› ?_|refine D.ei ‹_› ?_|intro h)
 ·refine D.P (ar) ?_
  (repeat' first|refine D.S ?_|refine D.cN true true ?_|refine ae.nil ?_|refine aj.b6 ?_|refine D.W ?_|refine D.Z ?_|refine D.G ?_ ?_|refine D.X ‹_› ?_|refine D.eh ‹_› ?_|refine D.ei ‹_› ?_|intro h)
  ·refine D.P (ax) ?_
   (repeat' first|refine D.S ?_|refine D.cN true true ?_|refine ae.nil ?_|refine aj.b6 ?_|refine D.W ?_|refine D.Z ?_|refine D.G ?_ ?_|refine D.X ‹_› ?_|refine D.eh ‹_› ?_|refine D.ei ‹_› ?_|intro h)
   ·refine D.P (cw) ?_
    refine ao ?_
    refine D.r ?_
    refine⟨_,rfl,.av ?_ rfl,trivial,trivial⟩
    simp_all [I.av]
   all_goals
    refine D.R ?_
    refine⟨_,rfl,.av ?_ rfl,trivial,trivial⟩
    simp_all [I.av]
  all_goals
   refine D.R ?_
   refine⟨_,rfl,.av ?_ rfl,trivial,trivial⟩
   simp_all [I.av]
 all_goals
  refine D.R ?_
  refine⟨_,rfl,.av ?_ rfl,trivial,trivial⟩
  simp_all [I.av]
end
section
attribute [local go_sem] ad.ct ac.ct ad.b9 ac.b9 cj eN fZ gJ dp of_flat
attribute [local go_sem] cb.row dG
theorem fG (x:e9):x.cells=[.str x.name,.str x.hD,.str x.hA,.ay 7 (x.vars.map cb.row),.ay 4 (x.ap.map cd.row),.ay 4 (x.os.map ca.row)]:=rfl
attribute [local go_sem] fG mV
end
section
attribute [local go_sem] ad.ct ac.ct ad.b9 ac.b9 cj eN fZ gJ dp of_flat
attribute [local go_sem] cb.row dG fG mV
set_option maxHeartbeats 1000000 in
theorem at7 {R:Nat}(an:R≤140737488355328) (x:e9) (ab:x.ok R):Pure Tryz.prog 17 [x.ir] (.bool (ti x)):=by
 have dZ:=r3 an (by decide) ab.nh
 have o2:=r3 an (by decide) ab.no
 replace dZ:x.ap.length≤9223372036854775807:=by unfold maxLen at dZ; omega
 replace o2:x.os.length≤9223372036854775807:=by unfold maxLen at o2; omega
 rw[lq]
 refine cF bN Tryz.func17 U2 (by simp only[b3,I.flat,dG,dp,of_flat,Bool.and_self]) rfl ?_
 unfold JY Qt
 simp(disch:=omega)only[go_sem,simprocAttr]
 refine ao ?_
 refine aj.dd (X:=Nat×Int) (0,0) (fun p=>[(1,.ptr 0 0),(3,.int .i64 p.2),(4,.int .i64 (p.1:Int))]) (fun _=>[(0,35,x.cells)]) (fun _=>[]) (fun p=>p.1≤x.ap.length∧rF (x.ap.drop p.1) p.2=rF x.ap 0) (fun p=>x.ap.length-p.1) ⟨Nat.zero_le _,rfl⟩ ⟨rfl,rfl,rfl,trivial⟩ ⟨rfl,trivial⟩ trivial ?_
 rintro⟨i,z⟩ ⟨ai,aB⟩
 try simp only at ai aB ⊢
 cases af:x.ap[i]? with
 |some v=>
  have cK:=(List.getElem?_eq_some_iff.1 af).1
  have iy:=ab.ap v (List.mem_of_getElem? af)
  have d1:(i:Int)<((x.ap.map cd.row).length:Int):=by rw[List.length_map]; omega
  have ar:=Fz an (ac.bB v.body) v.body (Nat.le_refl _) iy.2.2.2.2.1 iy.2.2.2.2.2
  rw[iM af]at aB
  simp only[rF]at aB
  have r6:((v.ps.map cj).length:Int)=(v.ps.length:Int):=by rw[List.length_map]
  (repeat' first|(apply ae.s rfl;(·simp(disch:=omega)only[go_sem,simprocAttr,d1,r6]<;>with_reducible rfl))|(apply aj.s true true;(·simp(disch:=omega)only[go_sem,simprocAttr,d1,r6]<;>with_reducible rfl))|apply ae.nil|(refine aj.b6 ?_)|(apply ae.eX;(·simp(disch:=omega)only[go_sem,simprocAttr,d1,r6]<;>with_reducible rfl))|(apply ae.eY;(·rfl);(·simp(disch:=omega)only[go_sem,simprocAttr,d1,r6]<;>with_reducible rfl))|(apply ae.gs;(·simp(disch:=omega)only[go_sem,simprocAttr,d1,r6]<;>with_reducible rfl))|((first|apply ae.e3|apply ae.e4|apply ae.e5);(·simp(disch:=omega)only[go_sem,simprocAttr,d1,r6]<;>with_reducible rfl);(·simp(disch:=omega)only[go_sem,simprocAttr,d1,r6]<;>with_reducible rfl);(·assumption);(·omega))|intro h|(apply aj.cond;(·simp(disch:=omega)only[go_sem,simprocAttr,d1,r6]<;>with_reducible rfl)))
  ·simp only[decide_eq_true_eq]at h
   rw[if_pos (by omega)]at aB
   refine D.r ?_
   refine⟨_,rfl,.av ?_ rfl,trivial,trivial⟩
   simp only[ti,←aB,I.av]
  ·simp only[decide_eq_false_iff_not]at h
   rw[if_neg (by omega)]at aB
   refine D.P (ar) ?_
   refine ao ?_
   refine aj.dK (i+1,_) ⟨by omega,aB⟩ ⟨rfl,rfl,rfl,trivial⟩ ⟨rfl,trivial⟩ trivial rfl rfl (by show x.ap.length-(i+1)<x.ap.length-i; omega)
 |none=>
 have cM:=List.getElem?_eq_none_iff.1 af
 have bE:i=x.ap.length:=by omega
 subst bE
 have d1: ¬(x.ap.length:Int)<((x.ap.map cd.row).length:Int):=by rw[List.length_map]; omega
 rw[List.drop_length]at aB
 simp only[rF]at aB
 have nE:ti x=(decide (rR x.os z≤500)&&(decide (x.vars.length≤60)&&(decide (x.ap.length≤60)&&decide (x.os.length≤60)))):=by simp only[ti,←aB]
 rw[nE]
 clear ai af cM aB nE
 (have al:=d1;refine bQ ?_;clear al)
 refine aj.dd (X:=Nat×Int) (0,z) (fun p=>[(1,.ptr 0 0),(3,.int .i64 p.2),(5,.int .i64 (p.1:Int))]) (fun _=>[(0,35,x.cells)]) (fun _=>[]) (fun p=>p.1≤x.os.length∧rR (x.os.drop p.1) p.2=rR x.os z) (fun p=>x.os.length-p.1) ⟨Nat.zero_le _,rfl⟩ ⟨rfl,rfl,rfl,trivial⟩ ⟨rfl,trivial⟩ trivial ?_
 rintro⟨i,y⟩ ⟨ai,aB⟩
 try simp only at ai aB ⊢
 cases af:x.os[i]? with
 |some v=>
  have cK:=(List.getElem?_eq_some_iff.1 af).1
  have iy:=ab.os v (List.mem_of_getElem? af)
  have d1:(i:Int)<((x.os.map ca.row).length:Int):=by rw[List.length_map]; omega
  have ar:=BR an (ad.bB v.args) v.args (Nat.le_refl _) (Nat.le_trans iy.2.2.1 an) iy.2.2.2.1
  have ax:=BR an (ad.bB v.dT) v.dT (Nat.le_refl _) (Nat.le_trans iy.2.2.2.2.1 an) iy.2.2.2.2.2
  rw[iM af]at aB
  simp only[rR]at aB
  (have al:=d1;refine pu ?_;clear al)
  refine aj.block ?_
  refine aj.fs (anns:=[.int .i64 (ad.iH v.args (v.args.length:Int)),.int .i64 (ad.iH v.dT (v.dT.length:Int))]) ?_
  refine bK ?_
  refine D.df ar ?_
  refine bK ?_
  refine D.df ax ?_
  refine ao ?_
  refine aj.dK (i+1,_) ⟨by omega,aB⟩ ⟨rfl,rfl,rfl,trivial⟩ ⟨rfl,trivial⟩ trivial rfl rfl (by show x.os.length-(i+1)<x.os.length-i; omega)
 |none=>
 have cM:=List.getElem?_eq_none_iff.1 af
 have bE:i=x.os.length:=by omega
 subst bE
 have d1: ¬(x.os.length:Int)<((x.os.map ca.row).length:Int):=by rw[List.length_map]; omega
 rw[List.drop_length]at aB
 simp only[rR]at aB
 subst aB
 (repeat' first|(apply ae.s rfl;(·simp(disch:=omega)only[go_sem,simprocAttr,d1]<;>with_reducible rfl))|(apply aj.s true true;(·simp(disch:=omega)only[go_sem,simprocAttr,d1]<;>with_reducible rfl))|apply ae.nil|(refine aj.b6 ?_)|(apply ae.eX;(·simp(disch:=omega)only[go_sem,simprocAttr,d1]<;>with_reducible rfl))|(apply ae.eY;(·rfl);(·simp(disch:=omega)only[go_sem,simprocAttr,d1]<;>with_reducible rfl))|(apply ae.gs;(·simp(disch:=omega)only[go_sem,simprocAttr,d1]<;>with_reducible rfl))|((first|apply ae.e3|apply ae.e4|apply ae.e5);(·simp(disch:=omega)only[go_sem,simprocAttr,d1]<;>with_reducible rfl);(·simp(disch:=omega)only[go_sem,simprocAttr,d1]<;>with_reducible rfl);(·assumption);(·omega))|intro h)
 all_goals
  refine D.R ?_
  refine⟨_,rfl,.av ?_ rfl,trivial,trivial⟩
  have DA: ∀n:Nat,((n:Int)≤60)=(n≤60):=fun n=>propext (by omega)
  simp only[List.length_map,DA]at*
  simp_all [I.av]<;>omega
end
section
attribute [local go_sem] hL lT ad.ct ad.b9 ad.de ac.ct ac.b9 ac.de cj eN fZ gJ dp of_flat cb.row dG fG
theorem vI {α:Type}(f:α→a7){l:List α}{i:Nat}{v:α}(h:l[i]? =some v):((l.take (i+1)).map f).flatten=((l.take i).map f).flatten++f v:=by
 rw[List.take_add_one,h]; simp
theorem BJ {α:Type}(f:α→a7) (l:List α) (i:Nat):((l.take i).map f).flatten.length≤(l.map f).flatten.length:=by
 conv=>rhs; rw[←List.take_append_drop i l]
 rw[List.map_append,List.flatten_append,List.length_append]
 omega
theorem zj {α:Type}(f:α→a7){l:List α}{i:Nat}{v:α}(h:l[i]? =some v):((l.take i).map f).flatten.length+(f v).length≤(l.map f).flatten.length:=by
 have:=BJ f l (i+1)
 rw[vI f h,List.length_append]at this
 exact this
theorem DW {v:cb}(h:iN v=true): -1000000000≤v.cz∧v.cz≤1000000000∧ -1000000000≤v.ai∧v.ai≤1000000000∧(v.ik≠2→ -1000000000≤v.n∧v.n≤1000000000)∧v.s.length≤40:=by
 simp only[iN,Bool.and_eq_true,iX,decide_eq_true_eq]at h
 obtain⟨_,J,aa,_,au⟩:=h
 by_cases bC:v.ik=1
 ·rw[if_pos bC]at au
  simp only[Bool.and_eq_true,decide_eq_true_eq]at au
  exact⟨by omega,by omega,by omega,by omega,fun _=>by omega,by rw[au.2]; decide⟩
 rw[if_neg bC]at au
 by_cases bA:v.ik=2
 ·rw[if_pos bA]at au
  simp only[Bool.and_eq_true,decide_eq_true_eq,lM]at au
  exact⟨by omega,by omega,by omega,by omega,fun h=>absurd bA h,au.2.1⟩
 ·rw[if_neg bA]at au
  cases au
theorem yI {h:cd}(aY:jZ h=true):ho h.body=true∧h.ps.length≤4:=by
 simp only[jZ,Bool.and_eq_true,decide_eq_true_eq]at aY
 rw[yK]
 exact⟨aY.2.2.2.2.1,aY.2.2.1⟩
theorem yJ {o:ca}(aY:j6 o=true):o.args.all dB=true∧o.dT.all dB=true∧o.dT.length≤1:=by
 simp only[j6,Bool.and_eq_true,decide_eq_true_eq,List.all_append]at aY
 exact⟨aY.2.2.2.2.1.1,aY.2.2.2.2.1.2,aY.2.2.2.1⟩
structure CU (x:e9):Prop where
 ay:x.vars.all iN=true
 ap:x.ap.all jZ=true
 os:x.os.all j6=true
 aP: ∀h∈x.ap,ac.bB h.body≤900000
 o6: ∀o∈x.os,ad.bB o.args≤900000∧ad.bB o.dT≤900000
 nS:x.vars.length≤1000000
 nh:x.ap.length≤1000000
 no:x.os.length≤1000000
 len:(iK x).length≤900000000
theorem O1 (x:e9) (ab:CU x):Pure Tryz.prog 52 [x.ir] (.str (iK x)):=by
 have eC:=ab.len
 have Em:=ab.nS
 have Ek:=ab.nh
 have ck:=ab.no
 obtain⟨F,oV⟩: ∃F,F=iK x:=⟨_,rfl⟩
 rw[←oV]at eC ⊢
 unfold iK at oV
 obtain⟨H0,w7⟩: ∃H0,H0=eE 0 [[115,101,114,118,105,99,101,32],x.name,[32,112,108,97,121,115,32],x.hD,[32,111,102,32],x.hA,[32,123]]:=⟨_,rfl⟩
 obtain⟨E,dc⟩: ∃E,E=eE 0 [[125]]:=⟨_,rfl⟩
 rw[←w7,←dc]at oV
 have Be:=congrArg List.length oV
 simp only[List.length_append]at Be
 have ar:=oy 0 (by decide) (.inl rfl) [] [[115,101,114,118,105,99,101,32],x.name,[32,112,108,97,121,115,32],x.hD,[32,111,102,32],x.hA,[32,123]] (by simp) (by rw[←w7,List.length_nil]; omega)
 rw[←w7,List.nil_append]at ar
 rw[lq]
 refine cF bN Tryz.func52 Vr (by simp only[b3,I.flat,dG,dp,of_flat,Bool.and_self]) rfl ?_
 unfold rA QS
 simp(disch:=omega)only[go_sem,simprocAttr]
 iterate 2 refine iT ?_
 refine aj.oU 1 1 1 5 rfl rfl (by decide) ?_
 simp(disch:=omega)only[go_sem,simprocAttr]
 refine ao ?_
 refine D.F ⟨[1],[0]⟩ (ar) ?_
 refine ao ?_
 clear ar
 obtain⟨V,ol⟩: ∃V,V=H0++(x.vars.map jT).flatten:=⟨_,rfl⟩
 have Lp:V.length=H0.length+(x.vars.map jT).flatten.length:=by rw[ol,List.length_append]
 refine aj.dd (X:=Nat) 0 (fun i=>[(1,.ptr 0 0),(3,.ptr 1 0),(27,.ay 7 (x.vars.map cb.row)),(28,.int .i64 ((x.vars.map cb.row).length:Int)),(29,.int .i64 (i:Int))]) (fun i=>[(0,27,x.cells),(1,182,[.ptr 1 0,.own 0 1 ((H0++((x.vars.take i).map jT).flatten).map hL),.int .i64 1])]) (fun i=>[(0,.bJ 5 1 ((H0++((x.vars.take i).map jT).flatten).map hL).length)]) (fun i=>i≤x.vars.length) (fun i=>x.vars.length-i) (Nat.zero_le _) ⟨rfl,rfl,rfl,rfl,rfl,trivial⟩ ⟨rfl,by simp only[List.take_zero,List.map_nil,List.flatten_nil,List.append_nil]; rfl,trivial⟩ ⟨by simp only[List.take_zero,List.map_nil,List.flatten_nil,List.append_nil]; rfl,trivial⟩ ?_
 intro i ai
 try simp only at ai ⊢
 cases af:x.vars[i]? with
 |some v=>
  have cK:=(List.getElem?_eq_some_iff.1 af).1
  have gN:=List.mem_of_getElem? af
  have mZ:iN v=true:=by simpa using List.all_eq_true.1 ab.ay v gN
  have ev:=vI jT af
  have hle:=zj jT af
  have d1:(i:Int)<((x.vars.map cb.row).length:Int):=by rw[List.length_map]; omega
  obtain⟨Y,fV⟩: ∃Y,Y=H0++((x.vars.take i).map jT).flatten:=⟨_,rfl⟩
  have fy:H0++((x.vars.take (i+1)).map jT).flatten=Y++jT v:=by rw[ev,fV,List.append_assoc]
  have uk:Y.length+(jT v).length≤900000000:=by rw[fV,List.length_append]; omega
  obtain⟨g1,g2,g3,g4,g5,g6⟩:=DW mZ
  obtain⟨s1,o0⟩: ∃s1,s1=Lib.itoa v.cz:=⟨_,rfl⟩
  obtain⟨s2,nL⟩: ∃s2,s2=Lib.itoa v.ai:=⟨_,rfl⟩
  obtain⟨oA,Eu⟩: ∃oA,oA=qM v.ik v.n v.s:=⟨_,rfl⟩
  have fR:=zq v.cz g1 g2
  have il:=zq v.ai g3 g4
  have gl:=at2 v.ik v.n v.s g5 (by omega)
  have xo:jT v=eE 1 [[118,97,114,32],v.name,[58,32],if v.hV=2 then[116,101,120,116,32] else[105,110,116,32],s1,[32,46,46,32],s2,[32,61,32],oA,[59]]:=by rw[o0,nL,Eu]; rfl
  rw[←o0]at fR
  rw[←nL]at il
  rw[←Eu]at gl
  rw[←fV]
  generalize jT v=L at*
  clear ev hle fV o0 nL Eu
  by_cases aa:v.hV=2
  focus
   rw[if_pos aa]at xo
   have e:=oy 1 (by decide) (.inr rfl) Y [[118,97,114,32],v.name,[58,32],[116,101,120,116,32],s1,[32,46,46,32],s2,[32,61,32],oA,[59]] (by simp) (by rw[←xo]; omega)
   rw[←xo]at e
   (have al:=d1;have z2:=aa;refine fo ?_;refine fo ?_;refine fo ?_;refine fo ?_;refine fo ?_;clear al z2)
   (have al:=d1;have z2:=aa;refine ye ?_;clear al z2)
  rotate_left
  focus
   rw[if_neg aa]at xo
   have e:=oy 1 (by decide) (.inr rfl) Y [[118,97,114,32],v.name,[58,32],[105,110,116,32],s1,[32,46,46,32],s2,[32,61,32],oA,[59]] (by simp) (by rw[←xo]; omega)
   rw[←xo]at e
   (have al:=d1;have z2:=aa;refine fo ?_;refine fo ?_;refine fo ?_;refine fo ?_;clear al z2)
   (have al:=d1;have z2:=aa;refine ye ?_;clear al z2)
  all_goals
   refine aj.fs (anns:=[.str s1,.str s2,.str oA]) ?_
   (have al:=aa;refine rj ?_;clear al)
   refine D.df (fR) ?_
   refine bK ?_
   refine D.df (il) ?_
   refine bK ?_
   refine D.df (gl) ?_
   refine bK ?_
   refine D.F ⟨[1],[0]⟩ (e) ?_
   refine ao ?_
   refine aj.gT (i+1) (by omega) ⟨rfl,rfl,rfl,rfl,by simp only[Int.natCast_add]; rfl,trivial⟩ (by simp only[fy]; exact⟨rfl,rfl,trivial⟩) (by simp only[fy]; exact⟨rfl,trivial⟩) rfl (by simp only[fY,dr,dP,dV,fO,I.cR,b2.bJ,fG,lT,dG,dp,of_flat,go_sem]<;>rfl) (by show x.vars.length-(i+1)<x.vars.length-i; omega)
 |none=>
 have cM:=List.getElem?_eq_none_iff.1 af
 have bE:i=x.vars.length:=by omega
 subst bE
 have d1: ¬(x.vars.length:Int)<((x.vars.map cb.row).length:Int):=by rw[List.length_map]; omega
 rw[List.take_length,←ol]
 rw[←ol]at oV
 clear ai af cM
 obtain⟨pv,D3⟩: ∃pv,pv=V++(x.ap.map jb).flatten:=⟨_,rfl⟩
 have aP3:pv.length=V.length+(x.ap.map jb).flatten.length:=by rw[D3,List.length_append]
 (have al:=d1;refine bQ ?_;clear al)
 refine aj.dd (X:=Nat) 0 (fun i=>[(1,.ptr 0 0),(3,.ptr 1 0),(56,.ay 4 (x.ap.map cd.row)),(57,.int .i64 ((x.ap.map cd.row).length:Int)),(58,.int .i64 (i:Int))]) (fun i=>[(0,27,x.cells),(1,182,[.ptr 1 0,.own 0 1 ((V++((x.ap.take i).map jb).flatten).map hL),.int .i64 1])]) (fun i=>[(0,.bJ 5 1 ((V++((x.ap.take i).map jb).flatten).map hL).length)]) (fun i=>i≤x.ap.length) (fun i=>x.ap.length-i) (Nat.zero_le _) ⟨rfl,rfl,rfl,rfl,rfl,trivial⟩ ⟨rfl,by simp only[List.take_zero,List.map_nil,List.flatten_nil,List.append_nil]; rfl,trivial⟩ ⟨by simp only[List.take_zero,List.map_nil,List.flatten_nil,List.append_nil]; rfl,trivial⟩ ?_
 intro i ai
 try simp only at ai ⊢
 cases af:x.ap[i]? with
 |some v=>
  have cK:=(List.getElem?_eq_some_iff.1 af).1
  have gN:=List.mem_of_getElem? af
  have mZ:jZ v=true:=by simpa using List.all_eq_true.1 ab.ap v gN
  have YH:=ab.aP v gN
  have ev:=vI jb af
  have hle:=zj jb af
  have d1:(i:Int)<((x.ap.map cd.row).length:Int):=by rw[List.length_map]; omega
  obtain⟨Y,fV⟩: ∃Y,Y=V++((x.ap.take i).map jb).flatten:=⟨_,rfl⟩
  have fy:V++((x.ap.take (i+1)).map jb).flatten=Y++jb v:=by rw[ev,fV,List.append_assoc]
  have uk:Y.length+(jb v).length≤900000000:=by rw[fV,List.length_append]; omega
  obtain⟨g1,g2⟩:=yI mZ
  obtain⟨s1,o0⟩: ∃s1,s1=Lib.join v.ps [44,32]:=⟨_,rfl⟩
  obtain⟨L,ek⟩: ∃L,L=eE 1 [[111,110,32],v.eK,[40],s1,[41,32,102,114,111,109,32],v.peer,[32,123]]:=⟨_,rfl⟩
  obtain⟨B,dX⟩: ∃B,B=ac.fF (1+1) v.body:=⟨_,rfl⟩
  obtain⟨Z,w9⟩: ∃Z,Z=eE 1 [[125]]:=⟨_,rfl⟩
  have yY:jb v=L++B++Z:=by rw[ek,dX,w9,o0]; rfl
  rw[yY]at uk fy
  simp only[List.length_append]at uk
  have ZR:s1.length≤L.length:=by rw[ek]; exact xO (by simp)
  have fR:=NX v.ps [44,32] (by omega) (by rw[←o0]; omega)
  have e:=oy 1 (by decide) (.inr rfl) Y [[111,110,32],v.eK,[40],s1,[41,32,102,114,111,109,32],v.peer,[32,123]] (by simp) (by rw[←ek]; omega)
  have kG:=(OL 1000000).2 v.body 1 (Y++L) (by omega) g1 (by omega) (by rw[←dX,List.length_append]; omega)
  have qt:=oy 1 (by decide) (.inr rfl) (Y++L++B) [[125]] (by simp) (by rw[←w9,List.length_append,List.length_append]; omega)
  rw[←o0]at fR
  rw[←ek]at e
  rw[←dX]at kG
  rw[←w9]at qt
  have Bw:V++((x.ap.take (i+1)).map jb).flatten=Y++L++B++Z:=by rw[fy]; simp only[List.append_assoc]
  rw[←fV]
  clear ev fy hle fV o0 ek dX w9 yY
  (have al:=d1;refine gA ?_;refine gA ?_;clear al)
  (have al:=d1;refine yd ?_;clear al)
  refine aj.fs (anns:=[.str s1]) ?_
  refine bK ?_
  refine D.df (fR) ?_
  refine bK ?_
  refine D.F ⟨[1],[0]⟩ (e) ?_
  refine ao ?_
  refine D.F ⟨[1],[0]⟩ (kG) ?_
  refine ao ?_
  refine D.F ⟨[1],[0]⟩ (qt) ?_
  refine ao ?_
  refine aj.gT (i+1) (by omega) ⟨rfl,rfl,rfl,rfl,by simp only[Int.natCast_add]; rfl,trivial⟩ (by simp only[Bw]; exact⟨rfl,rfl,trivial⟩) (by simp only[Bw]; exact⟨rfl,trivial⟩) rfl (by simp only[fY,dr,dP,dV,fO,I.cR,b2.bJ,fG,lT,dG,dp,of_flat,go_sem]<;>rfl) (by show x.ap.length-(i+1)<x.ap.length-i; omega)
 |none=>
 have cM:=List.getElem?_eq_none_iff.1 af
 have bE:i=x.ap.length:=by omega
 subst bE
 have d1: ¬(x.ap.length:Int)<((x.ap.map cd.row).length:Int):=by rw[List.length_map]; omega
 rw[List.take_length,←D3]
 rw[←D3]at oV
 clear ai af cM
 (have al:=d1;refine bQ ?_;clear al)
 refine aj.dd (X:=Nat) 0 (fun i=>[(1,.ptr 0 0),(3,.ptr 1 0),(81,.ay 4 (x.os.map ca.row)),(82,.int .i64 ((x.os.map ca.row).length:Int)),(83,.int .i64 (i:Int))]) (fun i=>[(1,182,[.ptr 1 0,.own 0 1 ((pv++((x.os.take i).map jJ).flatten).map hL),.int .i64 1])]) (fun i=>[(0,.bJ 5 1 ((pv++((x.os.take i).map jJ).flatten).map hL).length)]) (fun i=>i≤x.os.length) (fun i=>x.os.length-i) (Nat.zero_le _) ⟨rfl,rfl,rfl,rfl,rfl,trivial⟩ ⟨by simp only[List.take_zero,List.map_nil,List.flatten_nil,List.append_nil]; rfl,trivial⟩ ⟨by simp only[List.take_zero,List.map_nil,List.flatten_nil,List.append_nil]; rfl,trivial⟩ ?_
 intro i ai
 try simp only at ai ⊢
 cases af:x.os[i]? with
 |some v=>
  have cK:=(List.getElem?_eq_some_iff.1 af).1
  have gN:=List.mem_of_getElem? af
  have mZ:j6 v=true:=by simpa using List.all_eq_true.1 ab.os v gN
  obtain⟨YH,Lt⟩:=ab.o6 v gN
  have ev:=vI jJ af
  have hle:=zj jJ af
  have d1:(i:Int)<((x.os.map ca.row).length:Int):=by rw[List.length_map]; omega
  obtain⟨Y,fV⟩: ∃Y,Y=pv++((x.os.take i).map jJ).flatten:=⟨_,rfl⟩
  have fy:pv++((x.os.take (i+1)).map jJ).flatten=Y++jJ v:=by rw[ev,fV,List.append_assoc]
  have uk:Y.length+(jJ v).length≤900000000:=by rw[fV,List.length_append]; omega
  obtain⟨g1,g2,g3⟩:=yJ mZ
  obtain⟨s1,o0⟩: ∃s1,s1=Lib.join (v.args.map cm) [44,32]:=⟨_,rfl⟩
  obtain⟨s2,nL⟩: ∃s2,s2=p9 v.dT:=⟨_,rfl⟩
  obtain⟨L,ek⟩: ∃L,L=eE 1 [[111,102,102,101,114,32],v.eK,[40],s1,[41,32,116,111,32],v.peer,s2,[59]]:=⟨_,rfl⟩
  have yY:jJ v=L:=by rw[ek,o0,nL]; rfl
  rw[yY]at uk fy
  have ZR:s1.length≤L.length:=by rw[ek]; exact xO (by simp)
  have aQ5:s2.length≤L.length:=by rw[ek]; exact xO (by simp)
  have fR:=at3 v.args (by omega) g1 (by rw[←o0]; omega)
  have e:=oy 1 (by decide) (.inr rfl) Y [[111,102,102,101,114,32],v.eK,[40],s1,[41,32,116,111,32],v.peer,s2,[59]] (by simp) (by rw[←ek]; omega)
  rw[←o0]at fR
  rw[←ek]at e
  rw[←fV]
  clear ev hle fV o0 ek yY
  cases hw:v.dT with
  |nil=>
   rw[hw]at nL
   simp only[p9]at nL
   (have al:=d1;have z2:=hw;refine fo ?_;refine fo ?_;refine fo ?_;refine fo ?_;clear al z2)
   (have al:=d1;have z2:=hw;refine ye ?_;clear al z2)
   refine aj.fs (anns:=[.str s1]) ?_
   (have al:=hw;refine rj ?_;clear al)
   refine D.df (fR) ?_
   refine bK ?_
   subst nL
   refine D.F ⟨[1],[0]⟩ (e) ?_
   refine ao ?_
   refine aj.gT (i+1) (by omega) ⟨rfl,rfl,rfl,rfl,by simp only[Int.natCast_add]; rfl,trivial⟩ (by simp only[fy]; exact⟨rfl,trivial⟩) (by simp only[fy]; exact⟨rfl,trivial⟩) rfl (by simp only[fY,dr,dP,dV,fO,I.cR,b2.bJ,fG,lT,dG,dp,of_flat,go_sem]<;>rfl) (by show x.os.length-(i+1)<x.os.length-i; omega)
  |cons w ws=>
   rw[hw]at nL g2 Lt
   simp only[p9]at nL
   have Z4:ws=[]:=by
    rw[hw]at g3
    simp only[List.length_cons]at g3
    exact List.length_eq_zero_iff.1 (by omega)
   subst Z4
   have Z3:dB w=true:=by simpa using g2
   simp only[ad.bB]at Lt
   have L6:=congrArg List.length nL
   simp only[List.length_append]at L6
   have DI:=(tf 1000000).1 w (by omega) Z3 (by omega)
   generalize cm w=ia at nL L6 DI
   rcases w with ⟨eb,ef,ed,eg,ee,ec⟩
   simp(disch:=omega)only[go_sem,simprocAttr]at DI
   (have al:=d1;have z2:=hw;refine fo ?_;refine fo ?_;refine fo ?_;refine fo ?_;clear al z2)
   (have al:=d1;have z2:=hw;refine ye ?_;clear al z2)
   refine aj.b6 ?_
   (have al:=hw;refine rj ?_;clear al)
   refine D.P (DI) ?_
   refine D.bR ?_
   refine bK ?_
   (have al:=hw;refine yd ?_;clear al)
   refine aj.fs (anns:=[.str s1]) ?_
   (have al:=hw;refine rj ?_;clear al)
   refine D.df (fR) ?_
   refine bK ?_
   subst nL
   refine D.F ⟨[1],[0]⟩ (e) ?_
   refine ao ?_
   refine aj.gT (i+1) (by omega) ⟨rfl,rfl,rfl,rfl,by simp only[Int.natCast_add]; rfl,trivial⟩ (by simp only[fy]; exact⟨rfl,trivial⟩) (by simp only[fy]; exact⟨rfl,trivial⟩) rfl (by simp only[fY,dr,dP,dV,fO,I.cR,b2.bJ,fG,lT,dG,dp,of_flat,go_sem]<;>rfl) (by show x.os.length-(i+1)<x.os.length-i; omega)
 |none=>
 have cM:=List.getElem?_eq_none_iff.1 af
 have bE:i=x.os.length:=by omega
 subst bE
 have d1: ¬(x.os.length:Int)<((x.os.map ca.row).length:Int):=by rw[List.length_map]; omega
 rw[List.take_length]
 have fV:(pv++(x.os.map jJ).flatten).length+E.length≤900000000:=by rw[List.length_append]; omega
 rw[oV]
 generalize pv++(x.os.map jJ).flatten=Y at fV ⊢
 have qt:=oy 0 (by decide) (.inr rfl) Y [[125]] (by simp) (by rw[←dc]; omega)
 rw[←dc]at qt
 have dw:Y++E≠[]:=by rw[dc]; simp [eE]
 (have al:=d1;refine bQ ?_;clear al)
 refine D.F ⟨[1],[0]⟩ (qt) ?_
 refine ao ?_
 refine D.F ⟨[1],[0]⟩ (t129 (T:=182) (A:= .ptr 0 0) (cs:=[.int .i64 0]) trivial (Y++E) dw) ?_
 refine ao ?_
 exact D.rx
end
end Go.bc.T.N
namespace Go.bc
open Go Go.bc.T.N
theorem xG: ∀s:a7,(iC s).length≤2*s.length
 |[]=>Nat.le_refl _
 |c::s=>by
  have:=xG s
  simp only[iC,List.length_append,List.length_cons]
  split<;>simp<;>omega
theorem Ph (s:a7):(p4 s).length≤2*s.length+2:=by
 have:=xG s
 simp only[p4,List.length_append,List.length_cons,List.length_nil]
 omega
theorem vB {n:Int}(aw: -1000000000≤n) (J:n≤1000000000):(Lib.itoa n).length≤21:=Lib.itoa_length_le n (by omega) (by omega)
theorem tz {s:a7}(h:db s=true):s.length≤16:=by
 cases s with
 |nil=>simp
 |cons c s=>
  simp only[db,mx,Bool.and_eq_true,decide_eq_true_eq]at h
  exact h.1.1
theorem EU (x:ad) (s:a7) (k:Int):(fX x s k).length≤s.length+2:=by
 unfold fX
 split
 ·simp
 ·omega
theorem ar2 {s:a7}(h:cV s≠0):s.length≤2:=by
 by_cases aa:s.length≤2
 ·exact aa
 ·exfalso
  apply h
  unfold cV
  repeat rw[if_neg (by intro e; subst e; simp at aa)]
theorem zE: ∀(N:Nat) (x:ad),x.bI≤N→dB x=true→(cm x).length≤90*x.bI
 |0,x,h,_=>by cases x; simp only[ad.bI]at h; omega
 |N+1,⟨k,o,m,t,n,l⟩,bW,aY=>by
  simp only[ad.bI]at bW ⊢
  simp only[dB,Bool.and_eq_true]at aY
  obtain⟨bh,hq⟩:=aY
  have rS:=bh
  simp only[cm,Cn]
  unfold A4
  rcases Ec bh with ⟨rfl,aw,J,aa⟩|⟨rfl,aw,J⟩|⟨rfl,aw⟩|⟨rfl,aw⟩|⟨rfl,aw⟩|⟨rfl,aw⟩
  ·have:=vB (n:=n) (by omega) (by omega)
   simp only[if_true]
   omega
  ·have:=Ph t
   simp only[show ¬(2:Int)=1 by decide,if_false,if_true]
   omega
  ·have:m.length≤16:=by
    simp [fL]at rS
    exact tz rS.1
   simp only[show ¬(3:Int)=1 by decide,show ¬(3:Int)=2 by decide,if_false,if_true]
   omega
  ·match l,aw with
   |[x],_=>
   simp only[mY,Bool.and_true]at hq
   simp only[ad.bB]at bW ⊢
   have:=zE N x (by omega) hq
   simp only[show ¬(4:Int)=1 by decide,show ¬(4:Int)=2 by decide,show ¬(4:Int)=3 by decide,if_false,if_true,List.map_cons,MG,List.length_append,List.length_cons,List.length_nil]
   omega
  ·match l,aw with
   |[x],_=>
   simp only[mY,Bool.and_true]at hq
   simp only[ad.bB]at bW ⊢
   have J:=zE N x (by omega) hq
   have aa:=EU x (cm x) 7
   have au:o.length=1:=by
    simp [fL]at rS
    rcases rS.1 with rfl|rfl<;>rfl
   simp only[show ¬(5:Int)=1 by decide,show ¬(5:Int)=2 by decide,show ¬(5:Int)=3 by decide,show ¬(5:Int)=4 by decide,if_false,if_true,List.map_cons,Sx,List.length_append]
   omega
  ·match l,aw with
   |[x,y],_=>
   simp only[mY,Bool.and_true,Bool.and_eq_true]at hq
   simp only[ad.bB]at bW ⊢
   have J:=zE N x (by omega) hq.1
   have uh:=zE N y (by omega) hq.2
   have aa:=EU x (cm x) (cV o)
   have Le:=EU y (cm y) (cV o+1)
   have au:o.length≤2:=by
    simp [fL]at rS
    exact ar2 rS.1
   simp only[show ¬(6:Int)=1 by decide,show ¬(6:Int)=2 by decide,show ¬(6:Int)=3 by decide,show ¬(6:Int)=4 by decide,show ¬(6:Int)=5 by decide,if_false,List.map_cons,Ht,List.length_append,List.length_cons,List.length_nil]
   omega
theorem s5 (d:Nat) (ps:List a7):(eE d ps).length=d+ps.flatten.length+1:=by simp only[eE,List.length_append,List.length_replicate,List.length_cons,List.length_nil]
theorem F4 {x:ad}(h:dB x=true):(cm x).length≤90*x.bI:=zE _ x (Nat.le_refl _) h
theorem OI: ∀(N:Nat),(∀(x:ac) (d:Nat) (bw:a7),x.bI≤N→hX x=true→d+kh x≤20→bw.length≤10→(ac.gS d bw x).length≤250*x.bI)∧(∀(l:List ac) (d:Nat),ac.bB l≤N→ho l=true→d+iv l≤20→(ac.fF d l).length≤250*ac.bB l)
 |0=>⟨fun x d bw h=>by cases x; simp only[ac.bI]at h; omega,fun l d h aY bw=>by
  cases l with
  |nil=>simp [ac.fF]
  |cons x l=>cases x; simp only[ac.bB,ac.bI]at h; omega⟩
 |N+1=>by
  obtain⟨i1,i2⟩:=OI N
  have key: ∀(x:ac) (d:Nat) (bw:a7),x.bI≤N+1→hX x=true→d+kh x≤20→bw.length≤10→(ac.gS d bw x).length≤250*x.bI:=by
   rintro⟨k,m,x,t,a,b⟩ d bw bW aY xe aQ1
   simp only[ac.bI]at bW ⊢
   simp only[hX,Bool.and_eq_true]at aY
   obtain⟨bh,pQ,pP,lY⟩:=aY
   simp only[kh]at xe
   have ab:=F4 pQ
   have Ea:1≤iL x:=by cases x; simp only[iL]; omega
   rcases Bi bh with ⟨rfl,rfl,aa,au⟩|⟨rfl,rfl,rfl⟩|⟨rfl,rfl,J,aa,au⟩
   ·have hm:m.length≤16:=by
     simp [eu]at bh
     exact tz bh.1
    simp only[ac.gS,if_true,s5,List.flatten_cons,List.flatten_nil,List.length_append,List.length_cons,List.length_nil]
    omega
   ·have aP:=i2 a (d+1) (by omega) pP (by omega)
    simp only[ac.gS,show ¬(2:Int)=1 by decide,show ¬(2:Int)=3 by decide,if_false,s5,List.flatten_cons,List.flatten_nil,List.length_append,List.length_cons,List.length_nil]
    have hb:(if jH b=true then ac.rC d b else (if b.isEmpty=true then[] else eE d [[125,32,101,108,115,101,32,123]]++ac.fF (d+1) b)++eE d [[125]]).length≤250*ac.bB b+60:=by
     cases eU:jH b with
     |true=>
      match b,eU,lY,bW,xe with
      |[y],eU,lY,bW,xe=>
      simp only[ho,Bool.and_true]at lY
      simp only[ac.bB]at bW ⊢
      simp only[iv]at xe
      simp only[if_true,ac.rC]
      have:=i1 y d [125,32,101,108,115,101,32,105,102,32] (by omega) lY (by omega) (by decide)
      omega
     |false=>
      simp only[Bool.false_eq_true,if_false]
      cases xf:b.isEmpty with
      |true=>
       simp only[if_true,List.nil_append,s5,List.flatten_cons,List.flatten_nil,List.length_append,List.length_cons,List.length_nil]
       omega
      |false=>
       have hP:=i2 b (d+1) (by omega) lY (by omega)
       simp only[Bool.false_eq_true,if_false,s5,List.flatten_cons,List.flatten_nil,List.length_append,List.length_cons,List.length_nil]
       omega
    omega
   ·have aP:=i2 a (d+1) (by omega) pP (by omega)
    have ai:=vB (n:=t) (by omega) (by omega)
    simp only[ac.gS,show ¬(3:Int)=1 by decide,if_false,if_true,s5,List.flatten_cons,List.flatten_nil,List.length_append,List.length_cons,List.length_nil]
    omega
  have ae5: ∀(l:List ac) (d:Nat),ac.bB l≤N+1→ho l=true→d+iv l≤20→(ac.fF d l).length≤250*ac.bB l:=by
   intro l
   induction l with
   |nil=>intro d _ _ _; simp [ac.fF]
   |cons x l cv=>
    intro d bW aY xe
    simp only[ac.bB]at bW ⊢
    simp only[ho,Bool.and_eq_true]at aY
    simp only[iv]at xe
    have J:=key x d [105,102,32] (by omega) aY.1 (by omega) (by decide)
    have aa:=cv d (by omega) aY.2 (by omega)
    simp only[ac.fF,List.length_append]
    omega
  exact⟨key,ae5⟩
theorem A3 {α:Type}(f:α→a7) (B:Nat): ∀l:List α,(∀x∈l,(f x).length≤B)→((l.map f).flatten).length≤B*l.length
 |[],_=>by simp
 |x::l,h=>by
  have J:=h x (by simp)
  have aa:=A3 f B l fun y aZ=>h y (List.mem_cons_of_mem _ aZ)
  simp only[List.map_cons,List.flatten_cons,List.length_append,List.length_cons,Nat.mul_add]
  omega
theorem Mw (sep:a7) (B:Nat) (l:List a7) (h: ∀x∈l,x.length≤B):(Lib.join l sep).length≤(B+sep.length)*l.length:=by
 cases l with
 |nil=>simp [Lib.join_nil]
 |cons x r=>
  rw[Lib.join_length]
  have: ∀l:List a7,(∀x∈l,x.length≤B)→Lib.lens l≤B*l.length:=by
   intro l
   induction l with
   |nil=>intro _; simp [Lib.lens]
   |cons y l cv=>
    intro h
    have J:=h y (by simp)
    have aa:=cv fun z aB=>h z (List.mem_cons_of_mem _ aB)
    simp only[Lib.lens,List.length_cons,Nat.mul_add,List.map_cons,List.sum_cons]at aa ⊢
    omega
  have J:=this (x::r) h
  have aa:sep.length*r.length≤sep.length*(x::r).length:=Nat.mul_le_mul_left _ (by simp)
  rw[Nat.add_mul]
  omega
theorem WY {l:List ac}{k:Nat}(h:l.all (fun x=>decide (kh x≤k))=true):iv l≤k:=by
 induction l with
 |nil=>simp [iv]
 |cons x l cv=>
  simp only[List.all_cons,Bool.and_eq_true,decide_eq_true_eq]at h
  simp only[iv]
  have:=cv h.2
  omega
theorem OB {s:a7}(h:kR s=true):s.length≤50:=by
 simp only[kR,Bool.and_eq_true,decide_eq_true_eq]at h
 exact h.1
theorem YE {h:cd}(aY:jZ h=true) (aP:ac.bB h.body≤10000):(jb h).length≤3000000:=by
 obtain⟨g1,g2⟩:=yI aY
 simp only[jZ,Bool.and_eq_true]at aY
 obtain⟨bC,bA,_,cO,_,fC⟩:=aY
 have J:=OB bC
 have aa:=tz bA
 have au:=Mw [44,32] 16 h.ps fun x ab=>tz (List.all_eq_true.1 cO x ab)
 have vo:(16+([44,32]:a7).length)*h.ps.length≤18*4:=Nat.mul_le_mul_left 18 g2
 have bn:=(OI 10000).2 h.body 2 aP g1 (by have:=WY fC; omega)
 simp only[jb,s5,List.flatten_cons,List.flatten_nil,List.length_append,List.length_cons,List.length_nil]at*
 omega
theorem aj9 {o:ca}(aY:j6 o=true) (aP:ad.bB o.args≤10000∧ad.bB o.dT≤10000):(jJ o).length≤5000000:=by
 obtain⟨g1,g2,g3⟩:=yJ aY
 simp only[j6,Bool.and_eq_true,decide_eq_true_eq]at aY
 obtain⟨bC,bA,cO,_⟩:=aY
 have J:=OB bC
 have aa:=tz bA
 have au:=Mw [44,32] 900000 (o.args.map cm) fun x ab=>by
  obtain⟨y,aZ,rfl⟩:=List.mem_map.1 ab
  have:=F4 (List.all_eq_true.1 g1 y aZ)
  have:=ad.pW aZ
  omega
 have vo:(900000+([44,32]:a7).length)*(o.args.map cm).length≤900002*4:=Nat.mul_le_mul_left 900002 (by rw[List.length_map]; exact cO)
 have bn:(p9 o.dT).length≤900010:=by
  cases hw:o.dT with
  |nil=>simp [p9]
  |cons w ws=>
   rw[hw]at g2 aP
   simp only[List.all_cons,Bool.and_eq_true]at g2
   simp only[ad.bB]at aP
   have:=F4 g2.1
   simp only[p9,List.length_append,List.length_cons,List.length_nil]
   omega
 simp only[jJ,s5,List.flatten_cons,List.flatten_nil,List.length_append,List.length_cons,List.length_nil]at*
 omega
theorem SA {v:cb}(aY:iN v=true):(jT v).length≤1000:=by
 obtain⟨g1,g2,g3,g4,g5,g6⟩:=DW aY
 have J:=vB g1 g2
 have aa:=vB g3 g4
 have au:v.name.length≤16:=by
  simp only[iN,Bool.and_eq_true]at aY
  exact tz aY.1
 have bn:(qM v.ik v.n v.s).length≤100:=by
  unfold qM
  split
  ·have:=Ph v.s; omega
  ·have:=vB (g5 ‹_›).1 (g5 ‹_›).2; omega
 have bL:(if v.hV=2 then ([116,101,120,116,32]:a7) else[105,110,116,32]).length≤5:=by split<;>simp
 simp only[jT,s5,List.flatten_cons,List.flatten_nil,List.length_append,List.length_cons,List.length_nil]at*
 omega
def qX (x:e9):Bool:=db x.name&&(db x.hD&&(db x.hA&&(decide (x.vars.length≤12)&&(decide (x.ap.length≤40)&&decide (x.os.length≤40)))))
def py (x:e9):Bool:=x.vars.all iN&&(x.ap.all jZ&&x.os.all j6)
def kJ (x:e9):Bool:=qX x&&(py x&&decide ((iK x).length≤8000))
structure oI (x:e9):Prop where
 aP: ∀h∈x.ap,ac.bB h.body≤10000
 hp: ∀h∈x.ap,h.ps.length≤1000000
 o6: ∀o∈x.os,ad.bB o.args≤10000∧ad.bB o.dT≤10000
 nS:x.vars.length≤1000000
 nh:x.ap.length≤1000000
 no:x.os.length≤1000000
theorem Cv {x:e9}(hb:oI x) (J:qX x=true) (aa:py x=true):CU x:=by
 simp only[qX,Bool.and_eq_true,decide_eq_true_eq]at J
 simp only[py,Bool.and_eq_true]at aa
 obtain⟨bC,bA,cO,fC,lH,MB⟩:=J
 obtain⟨g1,g2,g3⟩:=aa
 refine⟨g1,g2,g3,fun h hm=>by have:=hb.aP h hm; omega,fun o hm=>by have:=hb.o6 o hm; omega,hb.nS,hb.nh,hb.no,?_⟩
 have ar:=tz bC
 have ax:=tz bA
 have cw:=tz cO
 have fq:=A3 jT 1000 x.vars fun v af=>SA (List.all_eq_true.1 g1 v af)
 have lB:=A3 jb 3000000 x.ap fun v af=>YE (List.all_eq_true.1 g2 v af) (hb.aP v af)
 have AP:=A3 jJ 5000000 x.os fun v af=>aj9 (List.all_eq_true.1 g3 v af) (hb.o6 v af)
 simp only[iK,s5,List.flatten_cons,List.flatten_nil,List.length_append,List.length_cons,List.length_nil]
 omega
end Go.bc
namespace Go.bc
open Go
section
variable {en:Int}
theorem bind_mono {α β:Type}{R jt:dL α}{F tF:α→List ba→dL β}(J:R≠ .out→jt=R) (aa: ∀a r,R= .ok a r→F a r≠ .out→tF a r=F a r) (h:R.bind F≠ .out):jt.bind tF=R.bind F:=by
 cases R with
 |ok a r=>rw[J (by intro e; cases e)]; exact aa a r rfl h
 |err p e=>rw[J (by intro e; cases e)]; rfl
 |out=>exact absurd rfl h
theorem kO {β:Type}{c:Prop}[Decidable c]{A ya B qb:dL β}(J:A≠ .out→ya=A) (aa:B≠ .out→qb=B) (h:(if c then A else B)≠ .out):(if c then ya else qb)=(if c then A else B):=by
 by_cases ah:c
 ·rw[if_pos ah]at h ⊢; rw[if_pos ah]; exact J h
 ·rw[if_neg ah]at h ⊢; rw[if_neg ah]; exact aa h
theorem eV {β:Type}{A:dL β}(_:A≠ .out):A=A:=rfl
theorem uB: ∀n,(∀l,ht en n l≠ .out→∀m,n≤m→ht en m l=ht en n l)∧(∀k l,gY en n k l≠ .out→∀m,n≤m→gY en m k l=gY en n k l)∧(∀k y l,jw en n k y l≠ .out→∀m,n≤m→jw en m k y l=jw en n k y l)
 |0=>⟨fun l h=>absurd (by simp [ht]) h,fun k l h=>absurd (by simp [gY]) h,fun k y l h=>absurd (by simp [jw]) h⟩
 |n+1=>by
  obtain⟨i1,i2,i3⟩:=uB n
  refine⟨fun l h m hm=> ?_,fun k l h m hm=> ?_,fun k y l h m hm=> ?_⟩
  ·obtain⟨m,rfl⟩: ∃q,m=q+1:=⟨m-1,by omega⟩
   simp only[ht]at h ⊢
   refine kO (bind_mono (fun h=>i2 _ _ h m (by omega)) fun a r _ h=>eV h) (kO (bind_mono eV fun a r _=>bind_mono (fun h=>i2 _ _ h m (by omega)) fun a r _ h=>eV h) (kO (bind_mono (fun h=>i1 _ h m (by omega)) fun a r _ h=>eV h) (kO (bind_mono (fun h=>i1 _ h m (by omega)) fun a r _ h=>eV h) eV))) h
  ·obtain⟨m,rfl⟩: ∃q,m=q+1:=⟨m-1,by omega⟩
   simp only[gY]at h ⊢
   exact bind_mono (fun h=>i1 _ h m (by omega)) (fun a r _ h=>i3 _ _ _ h m (by omega)) h
  ·obtain⟨m,rfl⟩: ∃q,m=q+1:=⟨m-1,by omega⟩
   cases l with
   |nil=>rfl
   |cons t l=>
    simp only[jw]at h ⊢
    exact kO (kO eV (bind_mono (fun h=>i2 _ _ h m (by omega)) fun a r _ h=>i3 _ _ _ h m (by omega))) eV h
theorem vi: ∀n,(∀l,iP en n l≠ .out→∀m,n≤m→iP en m l=iP en n l)∧(∀acc l,jK en n acc l≠ .out→∀m,n≤m→jK en m acc l=jK en n acc l)∧(∀l,je en n l≠ .out→∀m,n≤m→je en m l=je en n l)∧(∀l,iQ en n l≠ .out→∀m,n≤m→iQ en m l=iQ en n l)
 |0=>⟨fun l h=>absurd (by simp [iP]) h,fun a l h=>absurd (by simp [jK]) h,fun l h=>absurd (by simp [je]) h,fun l h=>absurd (by simp [iQ]) h⟩
 |n+1=>by
  obtain⟨i1,i2,i3,i4⟩:=vi n
  have ax:=(uB (en:=en) n).2.1
  refine⟨fun l h m hm=> ?_,fun a l h m hm=> ?_,fun l h m hm=> ?_,fun l h m hm=> ?_⟩
  all_goals obtain⟨m,rfl⟩: ∃q,m=q+1:=⟨m-1,by omega⟩
  ·simp only[iP]at h ⊢
   exact bind_mono eV (fun a r _ h=>i2 _ _ h m (by omega)) h
  ·simp only[jK]at h ⊢
   exact kO eV (bind_mono (fun h=>i3 _ h m (by omega)) fun a r _ h=>i2 _ _ h m (by omega)) h
  ·simp only[je]at h ⊢
   refine kO (fun h=>i4 _ h m (by omega)) (kO (bind_mono (fun h=>ax _ _ h m (by omega)) fun a r _=>bind_mono eV fun a r _=>kO eV (bind_mono eV fun a r _=>bind_mono (fun h=>i1 _ h m (by omega)) fun a r _ h=>eV h)) (bind_mono eV fun a r _=>bind_mono eV fun a r _=>bind_mono (fun h=>ax _ _ h m (by omega)) fun a r _ h=>eV h)) h
  ·simp only[iQ]at h ⊢
   refine bind_mono (fun h=>ax _ _ h m (by omega)) (fun a r _=>bind_mono (fun h=>i1 _ h m (by omega)) fun a r _=>kO (kO (bind_mono (fun h=>i4 _ h m (by omega)) fun a r _ h=>eV h) (bind_mono (fun h=>i1 _ h m (by omega)) fun a r _ h=>eV h)) eV) h
theorem dj {α β:Type}{R:dL α}{F:α→List ba→dL β}(J:R≠ .out) (aa: ∀a r,R= .ok a r→F a r≠ .out):R.bind F≠ .out:=by
 cases R with
 |ok a r=>exact aa a r rfl
 |err p e=>intro h; cases h
 |out=>exact absurd rfl J
theorem iz {β:Type}{c:Prop}[Decidable c]{A B:dL β}(J:c→A≠ .out) (aa: ¬c→B≠ .out):(if c then A else B)≠ .out:=by
 by_cases ah:c
 ·rw[if_pos ah]; exact J ah
 ·rw[if_neg ah]; exact aa ah
theorem fr {β:Type}{a:β}{r:List ba}:dL.ok a r≠ .out:=by intro h; cases h
theorem vh {β:Type}{p e:Int}:(dL.err p e:dL β)≠ .out:=by intro h; cases h
theorem jM {s:List UInt8}{l:List ba}:gm en s l≠ .out:=iz (fun _=>fr) fun _=>vh
theorem ta {k:Int}{l:List ba}:jN en k l≠ .out:=by
 cases l with
 |nil=>exact vh
 |cons t l=>exact iz (fun _=>fr) fun _=>vh
theorem pZ {l:List ba}:jO en l≠ .out:=iz (fun _=>dj ta fun _ _ _=>fr) fun _=>vh
theorem E8 {l:List ba}:mD en l≠ .out:=iz (fun _=>dj ta fun _ _ _=>fr) fun _=>dj ta fun _ _ _=>fr
theorem zt: ∀n,(∀l:List ba,2*l.length+1≤n→ht en n l≠ .out)∧(∀k (l:List ba),2*l.length+2≤n→gY en n k l≠ .out)∧(∀k y (l:List ba),2*l.length+1≤n→jw en n k y l≠ .out)
 |0=>⟨fun l h=>by omega,fun k l h=>by omega,fun k y l h=>by omega⟩
 |n+1=>by
  obtain⟨i1,i2,i3⟩:=zt n
  have ar:=(nT (en:=en) n).1
  have ax:=(nT (en:=en) n).2.1
  refine⟨fun l h=> ?_,fun k l h=> ?_,fun k y l h=> ?_⟩
  ·simp only[ht]
   refine iz (fun aw=> ?_) fun _=>iz (fun aw=> ?_) fun _=>iz (fun aw=> ?_) fun _=>iz (fun aw=> ?_) fun _=>iz (fun _=>dj pZ fun _ _ _=>fr) fun _=>iz (fun _=>dj ta fun _ _ _=>fr) fun _=>iz (fun _=>vh) fun _=>dj ta fun _ _ _=>fr
   all_goals have:=eZ aw
   ·exact dj (i2 _ _ (by omega)) fun _ _ _=>dj jM fun _ _ _=>fr
   ·refine dj jM fun _ r J=> ?_
    have:=ea J
    exact dj (i2 _ _ (by omega)) fun _ _ _=>dj jM fun _ _ _=>fr
   ·exact dj (i1 _ (by omega)) fun _ _ _=>fr
   ·exact dj (i1 _ (by omega)) fun _ _ _=>fr
  ·simp only[gY]
   refine dj (i1 _ (by omega)) fun x r J=> ?_
   have:=ar _ _ _ J
   exact i3 _ _ _ (by omega)
  ·cases l with
   |nil=>exact fr
   |cons t l=>
    simp only[List.length_cons]at h
    simp only[jw]
    refine iz (fun _=>iz (fun _=>fr) fun _=>dj (i2 _ _ (by omega)) fun x r J=> ?_) fun _=>fr
    have:=ax _ _ _ _ J
    exact i3 _ _ _ (by omega)
theorem On: ∀n,(∀l:List ba,3*l.length+2≤n→iP en n l≠ .out)∧(∀acc (l:List ba),3*l.length+4≤n→jK en n acc l≠ .out)∧(∀l:List ba,3*l.length+3≤n→je en n l≠ .out)∧(∀l:List ba,3*l.length+3≤n→iQ en n l≠ .out)
 |0=>⟨fun l h=>by omega,fun a l h=>by omega,fun l h=>by omega,fun l h=>by omega⟩
 |n+1=>by
  obtain⟨i1,i2,i3,i4⟩:=On n
  have ax:=(nT (en:=en) n).2.1
  have g2:=(zt (en:=en) n).2.1
  obtain⟨f1,f2,f3,f4⟩:=zu (en:=en) n
  refine⟨fun l h=> ?_,fun a l h=> ?_,fun l h=> ?_,fun l h=> ?_⟩
  ·simp only[iP]
   refine dj jM fun _ r J=> ?_
   have:=ea J
   exact i2 _ _ (by omega)
  ·simp only[jK]
   refine iz (fun _=>fr) fun _=>dj (i3 _ (by omega)) fun x r J=> ?_
   have:=f3 _ _ _ J
   exact i2 _ _ (by omega)
  ·simp only[je]
   refine iz (fun aw=> ?_) fun _=>iz (fun aw=> ?_) fun _=> ?_
   ·have:=eZ aw
    exact i4 _ (by omega)
   ·have:=eZ aw
    refine dj (g2 _ _ (by omega)) fun x r J=>dj jM fun _ r aa=>iz (fun _=>vh) fun _=>dj ta fun _ r au=> ?_
    have:=ax _ _ _ _ J
    have:=ea aa
    have:=ow au
    exact dj (i1 _ (by omega)) fun _ _ _=>fr
   ·refine dj pZ fun x r J=>dj jM fun _ r aa=> ?_
    have:=gR J
    have:=ea aa
    exact dj (g2 _ _ (by omega)) fun _ _ _=>dj jM fun _ _ _=>fr
  ·simp only[iQ]
   refine dj (g2 _ _ (by omega)) fun x r J=> ?_
   have:=ax _ _ _ _ J
   refine dj (i1 _ (by omega)) fun x r aa=> ?_
   have:=f1 _ _ _ aa
   refine iz (fun aw=> ?_) fun _=>fr
   have:=eZ aw
   refine iz (fun au=> ?_) fun _=>dj (i1 _ (by omega)) fun _ _ _=>fr
   have:=eZ au
   exact dj (i4 _ (by omega)) fun _ _ _=>fr
theorem Od: ∀(n:Nat) (s:List UInt8) (l:List ba),l.length+1≤n→l6 en n s l≠ .out
 |0,_,_,h=>by omega
 |n+1,s,l,h=>by
  simp only[l6]
  refine iz (fun aw=>dj pZ fun w r J=> ?_) fun _=>fr
  have:=eZ aw
  have:=gR J
  exact Od n _ _ (by omega)
theorem Oi {n:Nat}{l:List ba}(h:l.length+1≤n):nU en n l≠ .out:=dj pZ fun w r J=>by
 have:=gR J
 exact Od n _ _ (by omega)
theorem N9: ∀(n:Nat) (acc:List (List UInt8)) (l:List ba),l.length+1≤n→lm en n acc l≠ .out
 |0,_,_,h=>by omega
 |n+1,s,l,h=>by
  simp only[lm]
  refine iz (fun aw=>dj pZ fun w r J=> ?_) fun _=>fr
  have:=eZ aw
  have:=gR J
  exact N9 n _ _ (by omega)
theorem N1: ∀(n:Nat) (acc:List ad) (l:List ba),2*l.length+2≤n→ll en n acc l≠ .out
 |0,_,_,h=>by omega
 |n+1,s,l,h=>by
  simp only[ll]
  refine iz (fun aw=> ?_) fun _=>fr
  have:=eZ aw
  refine dj ((zt n).2.1 _ _ (by omega)) fun w r J=> ?_
  have:=(nT n).2.1 _ _ _ _ J
  exact N1 n _ _ (by omega)
theorem N6 {n:Nat}{l r:List ba}{a:List (List UInt8)}(h:nn en n l= .ok a r):r.length<l.length:=by
 unfold nn at h
 split at h
 ·rename_i aw
  cases h
  have:=eZ aw
  omega
 ·obtain⟨w,bO,J,h⟩:=cg h
  obtain⟨ps,b4,aa,h⟩:=cg h
  obtain⟨_,cJ,au,h⟩:=cg h
  cases h
  have:=gR J
  have:=E1 aa
  have:=ea au
  omega
theorem NY {n:Nat}{l r:List ba}{a:List ad}(h:nj en n l= .ok a r):r.length<l.length:=by
 unfold nj at h
 split at h
 ·rename_i aw
  cases h
  have:=eZ aw
  omega
 ·obtain⟨w,bO,J,h⟩:=cg h
  obtain⟨ps,b4,aa,h⟩:=cg h
  obtain⟨_,cJ,au,h⟩:=cg h
  cases h
  have:=(nT n).2.1 _ _ _ _ J
  have:=EY aa
  have:=ea au
  omega
theorem ao0 {n:Nat}{l:List ba}(h:l.length+1≤n):nn en n l≠ .out:=iz (fun _=>fr) fun _=>dj pZ fun w r J=>by
 have:=gR J
 exact dj (N9 n _ _ (by omega)) fun _ _ _=>dj jM fun _ _ _=>fr
theorem am1 {n:Nat}{l:List ba}(h:2*l.length+2≤n):nj en n l≠ .out:=iz (fun _=>fr) fun _=>dj ((zt n).2.1 _ _ h) fun w r J=>by
 have:=(nT n).2.1 _ _ _ _ J
 exact dj (N1 n _ _ (by omega)) fun _ _ _=>dj jM fun _ _ _=>fr
theorem ap4 {n:Nat}{l:List ba}(h:2*l.length+2≤n):ox en n l≠ .out:=iz (fun aw=>by
 have:=eZ aw
 exact dj ((zt n).2.1 _ _ (by omega)) fun _ _ _=>fr) fun _=>fr
theorem ao4 {l:List ba}:r8 en l≠ .out:=iz (fun _=>dj ta fun _ _ _=>dj jM fun _ _ _=>dj ta fun _ _ _=>fr) fun _=>dj jM fun _ _ _=>dj E8 fun _ _ _=>dj jM fun _ _ _=>dj E8 fun _ _ _=>fr
theorem an2 {l:List ba}:r7 en l≠ .out:=iz (fun _=>dj ta fun _ _ _=>fr) fun _=>dj E8 fun _ _ _=>fr
theorem ap1 {l:List ba}:qW en l≠ .out:=dj pZ fun _ _ _=>dj jM fun _ _ _=>dj ao4 fun _ _ _=>dj jM fun _ _ _=>dj an2 fun _ _ _=>dj jM fun _ _ _=>fr
theorem am8 {n:Nat}{l:List ba}(h:3*l.length+2≤n):nk en n l≠ .out:=dj (Oi (by omega)) fun m r J=>dj jM fun _ r aa=>by
 have:=uE J
 have:=ea aa
 refine dj (ao0 (by omega)) fun ps r au=>dj jM fun _ r bn=>dj pZ fun p r bL=> ?_
 have:=N6 au
 have:=ea bn
 have:=gR bL
 exact dj ((On n).1 _ (by omega)) fun _ _ _=>fr
theorem an6 {n:Nat}{l:List ba}(h:2*l.length+2≤n):nl en n l≠ .out:=dj (Oi (by omega)) fun m r J=>dj jM fun _ r aa=>by
 have:=uE J
 have:=ea aa
 refine dj (am1 (by omega)) fun ps r au=>dj jM fun _ r bn=>dj pZ fun p r bL=> ?_
 have:=NY au
 have:=ea bn
 have:=gR bL
 exact dj (ap4 (by omega)) fun _ _ _=>dj jM fun _ _ _=>fr
theorem Ow (n:Nat): ∀(m:Nat) (acc:List cb) (l:List ba),l.length+1≤m→lp en n m acc l≠ .out
 |0,_,_,h=>by omega
 |m+1,s,l,h=>by
  simp only[lp]
  refine iz (fun aw=>dj ap1 fun w r J=> ?_) fun _=>fr
  have:=eZ aw
  have:=BV J
  exact Ow n m _ _ (by omega)
theorem Fb (n:Nat): ∀ {m:Nat}{acc:List cb}{l r:List ba}{a:List cb},lp en n m acc l= .ok a r→r.length≤l.length
 |0,_,_,_,_,h=>by cases h
 |m+1,s,l,r,a,h=>by
  simp only[lp]at h
  split at h
  ·rename_i aw
   obtain⟨w,bO,J,h⟩:=cg h
   have:=eZ aw
   have:=BV J
   have:=Fb n h
   omega
  ·cases h
   exact Nat.le_refl _
theorem E4 (n:Nat): ∀(m:Nat) (ap:List cd) (os:List ca) (l:List ba),l.length+1≤m→3*l.length+2≤n→ln en n m ap os l≠ .out
 |0,_,_,_,h,_=>by omega
 |m+1,ap,os,l,h,a6=>by
  simp only[ln]
  refine iz (fun _=>fr) fun _=>iz (fun aw=> ?_) fun _=>dj jM fun _ r J=> ?_
  ·have:=eZ aw
   refine dj (am8 (by omega)) fun x r J=> ?_
   have:=EZ J
   exact E4 n m _ _ _ (by omega) (by omega)
  ·have:=ea J
   refine dj (an6 (by omega)) fun x r aa=> ?_
   have:=E0 aa
   exact E4 n m _ _ _ (by omega) (by omega)
theorem Oq {n:Nat}{l:List ba}(h:3*l.length+2≤n):lo en n l≠ .out:=dj jM fun _ r J=>dj pZ fun _ r aa=>dj jM fun _ r au=>dj pZ fun _ r bn=>dj jM fun _ r bL=>dj pZ fun _ r cq=>dj jM fun _ r j0=>by
 have:=ea J
 have:=gR aa
 have:=ea au
 have:=gR bn
 have:=ea bL
 have:=gR cq
 have:=ea j0
 refine dj (Ow n _ _ _ (by omega)) fun ay r j7=> ?_
 have:=Fb n j7
 refine dj (E4 n _ _ _ _ (by omega) (by omega)) fun p r rN=> ?_
 cases r with
 |nil=>exact fr
 |cons t r=>exact vh
theorem Je: ∀(n:Nat) (s:List UInt8) (l:List ba),l6 en n s l≠ .out→∀m,n≤m→l6 en m s l=l6 en n s l
 |0,_,_,h,_,_=>absurd rfl h
 |n+1,s,l,h,m,hm=>by
  obtain⟨m,rfl⟩: ∃q,m=q+1:=⟨m-1,by omega⟩
  simp only[l6]at h ⊢
  exact kO (bind_mono eV fun w r _ h=>Je n _ _ h m (by omega)) eV h
theorem JX {n:Nat}{l:List ba}(h:nU en n l≠ .out){m:Nat}(hm:n≤m):nU en m l=nU en n l:=bind_mono eV (fun w r _ h=>Je n _ _ h m hm) h
theorem Ja: ∀(n:Nat) (s:List (List UInt8)) (l:List ba),lm en n s l≠ .out→∀m,n≤m→lm en m s l=lm en n s l
 |0,_,_,h,_,_=>absurd rfl h
 |n+1,s,l,h,m,hm=>by
  obtain⟨m,rfl⟩: ∃q,m=q+1:=⟨m-1,by omega⟩
  simp only[lm]at h ⊢
  exact kO (bind_mono eV fun w r _ h=>Ja n _ _ h m (by omega)) eV h
theorem Ik: ∀(n:Nat) (s:List ad) (l:List ba),ll en n s l≠ .out→∀m,n≤m→ll en m s l=ll en n s l
 |0,_,_,h,_,_=>absurd rfl h
 |n+1,s,l,h,m,hm=>by
  obtain⟨m,rfl⟩: ∃q,m=q+1:=⟨m-1,by omega⟩
  simp only[ll]at h ⊢
  exact kO (bind_mono (fun h=>(uB n).2.1 _ _ h m (by omega)) fun w r _ h=>Ik n _ _ h m (by omega)) eV h
theorem Xb {n:Nat}{l:List ba}(h:nn en n l≠ .out){m:Nat}(hm:n≤m):nn en m l=nn en n l:=kO eV (bind_mono eV fun w r _=>bind_mono (fun h=>Ja n _ _ h m hm) fun w r _ h=>eV h) h
theorem Vc {n:Nat}{l:List ba}(h:nj en n l≠ .out){m:Nat}(hm:n≤m):nj en m l=nj en n l:=kO eV (bind_mono (fun h=>(uB n).2.1 _ _ h m hm) fun w r _=>bind_mono (fun h=>Ik n _ _ h m hm) fun w r _ h=>eV h) h
theorem Y2 {n:Nat}{l:List ba}(h:ox en n l≠ .out){m:Nat}(hm:n≤m):ox en m l=ox en n l:=kO (bind_mono (fun h=>(uB n).2.1 _ _ h m hm) fun w r _ h=>eV h) eV h
theorem Vt {n:Nat}{l:List ba}(h:nk en n l≠ .out){m:Nat}(hm:n≤m):nk en m l=nk en n l:=bind_mono (fun h=>JX h hm) (fun w r _=>bind_mono eV fun w r _=>bind_mono (fun h=>Xb h hm) fun w r _=>bind_mono eV fun w r _=>bind_mono eV fun w r _=>bind_mono (fun h=>(vi n).1 _ h m hm) fun w r _ h=>eV h) h
theorem WW {n:Nat}{l:List ba}(h:nl en n l≠ .out){m:Nat}(hm:n≤m):nl en m l=nl en n l:=bind_mono (fun h=>JX h hm) (fun w r _=>bind_mono eV fun w r _=>bind_mono (fun h=>Vc h hm) fun w r _=>bind_mono eV fun w r _=>bind_mono eV fun w r _=>bind_mono (fun h=>Y2 h hm) fun w r _=>bind_mono eV fun w r _ h=>eV h) h
theorem J7 (n k:Nat): ∀(m:Nat) (s:List cb) (l:List ba),lp en n m s l≠ .out→∀j,m≤j→lp en k j s l=lp en n m s l
 |0,_,_,h,_,_=>absurd rfl h
 |m+1,s,l,h,j,bq=>by
  obtain⟨j,rfl⟩: ∃q,j=q+1:=⟨j-1,by omega⟩
  simp only[lp]at h ⊢
  exact kO (bind_mono eV fun w r _ h=>J7 n k m _ _ h j (by omega)) eV h
theorem Ca {n k:Nat}(aC:n≤k): ∀(m:Nat) (ap:List cd) (os:List ca) (l:List ba),ln en n m ap os l≠ .out→∀j,m≤j→ln en k j ap os l=ln en n m ap os l
 |0,_,_,_,h,_,_=>absurd rfl h
 |m+1,ap,os,l,h,j,bq=>by
  obtain⟨j,rfl⟩: ∃q,j=q+1:=⟨j-1,by omega⟩
  simp only[ln]at h ⊢
  exact kO eV (kO (bind_mono (fun h=>Vt h aC) fun w r _ h=>Ca aC m _ _ _ h j (by omega)) (bind_mono eV fun w r _=>bind_mono (fun h=>WW h aC) fun w r _ h=>Ca aC m _ _ _ h j (by omega))) h
theorem J1 {n:Nat}{l:List ba}(h:lo en n l≠ .out){m:Nat}(hm:n≤m):lo en m l=lo en n l:=bind_mono eV (fun w r _=>bind_mono eV fun w r _=>bind_mono eV fun w r _=>bind_mono eV fun w r _=>bind_mono eV fun w r _=>bind_mono eV fun w r _=>bind_mono eV fun w r _=>bind_mono (fun h=>J7 n m n _ _ h m hm) fun w r _=>bind_mono (fun h=>Ca hm n _ _ _ h m hm) fun w r _=>by cases r<;>exact eV) h
end
def ba.c (t:ba):ba:=⟨t.kind,t.text,t.val,0⟩
def rE {α:Type}(B9:α→α→Prop):dL α→dL α→Prop
 | .ok a r,.ok cp dn=>B9 a cp∧dn=r.map ba.c
 | .err _ e,.err _ cC=>e=cC
 | .out,.out=>True
 | _,_=>False
abbrev cc {α:Type}(R jt:dL α):Prop:=rE (fun a b=>a=b) R jt
theorem km (s:List UInt8) (l:List ba):eQ s (l.map ba.c)=eQ s l:=by cases l<;>rfl
theorem N3 (k:Int) (l:List ba):qN k (l.map ba.c)=qN k l:=by cases l<;>rfl
theorem MN (l:List ba):nP (l.map ba.c)=nP l:=by cases l<;>rfl
theorem TH (l:List ba):u7 (l.map ba.c)=u7 l:=by cases l<;>rfl
theorem TB (l:List ba):u6 (l.map ba.c)=u6 l:=by cases l<;>rfl
theorem n1 (l:List ba):(l.map ba.c).tail=l.tail.map ba.c:=by cases l<;>rfl
theorem cc.bind {α β:Type}{B9:α→α→Prop}{s9:β→β→Prop}{R jt:dL α}{F tF:α→List ba→dL β}(h:rE B9 R jt) (aW: ∀a cp r,B9 a cp→rE s9 (F a r) (tF cp (r.map ba.c))):rE s9 (R.bind F) (jt.bind tF):=by
 match R,jt,h with
 | .ok a r,.ok cp dn,⟨J,aa⟩=>subst aa; exact aW a cp r J
 | .err p e,.err aR3 cC,h=>exact h
 | .out,.out,_=>trivial
theorem cc.bind' {α β:Type}{s9:β→β→Prop}{R jt:dL α}{F tF:α→List ba→dL β}(h:cc R jt) (aW: ∀a r,rE s9 (F a r) (tF a (r.map ba.c))):rE s9 (R.bind F) (jt.bind tF):=cc.bind h fun a cp r e=>by subst e; exact aW a r
theorem cc.ite {β:Type}{s9:β→β→Prop}{a b:Bool}{A ya B qb:dL β}(h:b=a) (J:rE s9 A ya) (aa:rE s9 B qb):rE s9 (if a=true then A else B) (if b=true then ya else qb):=by
 subst h
 cases b
 ·exact aa
 ·exact J
section
variable (en cX:Int)
theorem jL (s:List UInt8) (l:List ba):cc (gm en s l) (gm cX s (l.map ba.c)):=by
 unfold gm
 rw[n1]
 exact cc.ite (km s l) ⟨rfl,rfl⟩ rfl
theorem sD (k:Int) (l:List ba):rE (fun t dx=>dx=t.c) (jN en k l) (jN cX k (l.map ba.c)):=by
 cases l with
 |nil=>rfl
 |cons t l=>
  simp only[jN,List.map_cons]
  by_cases h:t.kind=k
  ·rw[if_pos h,if_pos (show t.c.kind=k from h)]
   exact⟨rfl,rfl⟩
  ·rw[if_neg h,if_neg (show ¬t.c.kind=k from h)]
   rfl
theorem qu (l:List ba):cc (jO en l) (jO cX (l.map ba.c)):=
 cc.ite (MN l) (cc.bind (sD en cX 1 l) fun a cp r h=>by subst h; exact⟨rfl,rfl⟩) rfl
theorem Om: ∀(n:Nat) (s:List UInt8) (l:List ba),cc (l6 en n s l) (l6 cX n s (l.map ba.c))
 |0,_,_=>trivial
 |n+1,s,l=>by
  simp only[l6,n1]
  exact cc.ite (km _ l) (cc.bind' (qu en cX _) fun w r=>Om n _ r) ⟨rfl,rfl⟩
theorem Ov (n:Nat) (l:List ba):cc (nU en n l) (nU cX n (l.map ba.c)):=cc.bind' (qu en cX l) fun w r=>Om en cX n w r
theorem Fa (l:List ba):cc (mD en l) (mD cX (l.map ba.c)):=by
 unfold mD
 rw[n1]
 exact cc.ite (km _ l) (cc.bind (sD en cX 2 _) fun a cp r h=>by subst h; exact⟨rfl,rfl⟩) (cc.bind (sD en cX 2 _) fun a cp r h=>by subst h; exact⟨rfl,rfl⟩)
theorem zf: ∀n,(∀l,cc (ht en n l) (ht cX n (l.map ba.c)))∧(∀k l,cc (gY en n k l) (gY cX n k (l.map ba.c)))∧(∀k y l,cc (jw en n k y l) (jw cX n k y (l.map ba.c)))
 |0=>⟨fun l=>trivial,fun k l=>trivial,fun k y l=>trivial⟩
 |n+1=>by
  obtain⟨i1,i2,i3⟩:=zf n
  refine⟨fun l=> ?_,fun k l=> ?_,fun k y l=> ?_⟩
  ·simp only[ht,n1]
   refine cc.ite (km _ l) (cc.bind' (i2 _ _) fun x r=>cc.bind' (jL en cX _ r) fun _ r=>⟨rfl,rfl⟩) ?_
   refine cc.ite (km _ l) (cc.bind' (jL en cX _ _) fun _ r=>cc.bind' (i2 _ _) fun x r=>cc.bind' (jL en cX _ r) fun _ r=>⟨rfl,rfl⟩) ?_
   refine cc.ite (km _ l) (cc.bind' (i1 _) fun x r=>⟨rfl,rfl⟩) ?_
   refine cc.ite (km _ l) (cc.bind' (i1 _) fun x r=>⟨rfl,rfl⟩) ?_
   refine cc.ite (MN l) (cc.bind' (qu en cX l) fun x r=>⟨rfl,rfl⟩) ?_
   refine cc.ite (N3 _ l) (cc.bind (sD en cX 3 l) fun a cp r h=>by subst h; exact⟨rfl,rfl⟩) ?_
   refine cc.ite (TH l) rfl (cc.bind (sD en cX 2 l) fun a cp r h=>by subst h; exact⟨rfl,rfl⟩)
  ·simp only[gY]
   exact cc.bind' (i1 l) fun x r=>i3 _ _ r
  ·cases l with
   |nil=>exact⟨rfl,rfl⟩
   |cons t l=>
    simp only[jw,List.map_cons,show t.c.kind=t.kind from rfl,show t.c.text=t.text from rfl]
    by_cases h:t.kind=4
    ·rw[if_pos h,if_pos h]
     by_cases aa:cV t.text<k
     ·rw[if_pos aa,if_pos aa]
      exact⟨rfl,rfl⟩
     ·rw[if_neg aa,if_neg aa]
      exact cc.bind' (i2 _ _) fun x r=>i3 _ _ r
    ·rw[if_neg h,if_neg h]
     exact⟨rfl,rfl⟩
theorem Oy: ∀n,(∀l,cc (iP en n l) (iP cX n (l.map ba.c)))∧(∀acc l,cc (jK en n acc l) (jK cX n acc (l.map ba.c)))∧(∀l,cc (je en n l) (je cX n (l.map ba.c)))∧(∀l,cc (iQ en n l) (iQ cX n (l.map ba.c)))
 |0=>⟨fun l=>trivial,fun k l=>trivial,fun l=>trivial,fun l=>trivial⟩
 |n+1=>by
  obtain⟨i1,i2,i3,i4⟩:=Oy n
  have ax:=(zf en cX n).2.1
  refine⟨fun l=> ?_,fun a l=> ?_,fun l=> ?_,fun l=> ?_⟩
  ·simp only[iP]
   exact cc.bind' (jL en cX _ l) fun _ r=>i2 _ r
  ·simp only[jK,n1]
   exact cc.ite (km _ l) ⟨rfl,rfl⟩ (cc.bind' (i3 _) fun _ r=>i2 _ r)
  ·simp only[je,n1]
   refine cc.ite (km _ l) (i4 _) (cc.ite (km _ l) (cc.bind' (ax _ _) fun x r=>cc.bind' (jL en cX _ r) fun _ r=>cc.ite (TB r) rfl (cc.bind (sD en cX 2 r) fun a cp r h=> ?_)) (cc.bind' (qu en cX _) fun x r=>cc.bind' (jL en cX _ _) fun _ r=>cc.bind' (ax _ _) fun _ r=>cc.bind' (jL en cX _ _) fun _ r=>⟨rfl,rfl⟩))
   subst h
   exact cc.bind' (i1 _) fun _ r=>⟨rfl,rfl⟩
  ·simp only[iQ]
   refine cc.bind' (ax _ _) fun x r=>cc.bind' (i1 _) fun b r=> ?_
   rw[n1,n1]
   exact cc.ite (km _ r) (cc.ite (km _ _) (cc.bind' (i4 _) fun _ r=>⟨rfl,rfl⟩) (cc.bind' (i1 _) fun _ r=>⟨rfl,rfl⟩)) ⟨rfl,rfl⟩
theorem ao2 (l:List ba):cc (r8 en l) (r8 cX (l.map ba.c)):=by
 unfold r8
 rw[n1]
 refine cc.ite (km _ l) (cc.bind (sD en cX 2 _) fun a cp r h=> ?_) (cc.bind' (jL en cX _ _) fun _ r=>cc.bind' (Fa en cX _) fun _ r=>cc.bind' (jL en cX _ _) fun _ r=>cc.bind' (Fa en cX _) fun _ r=>⟨rfl,rfl⟩)
 subst h
 refine cc.bind' (jL en cX _ _) fun _ r=>cc.bind (sD en cX 2 _) fun a cp r h=> ?_
 subst h
 exact⟨rfl,rfl⟩
theorem an5 (l:List ba):cc (r7 en l) (r7 cX (l.map ba.c)):=
 cc.ite (N3 _ l) (cc.bind (sD en cX 3 _) fun a cp r h=>by subst h; exact⟨rfl,rfl⟩) (cc.bind' (Fa en cX _) fun _ r=>⟨rfl,rfl⟩)
theorem ap0 (l:List ba):cc (qW en l) (qW cX (l.map ba.c)):=
 cc.bind' (qu en cX _) fun _ r=>cc.bind' (jL en cX _ _) fun _ r=>cc.bind' (ao2 en cX _) fun _ r=>cc.bind' (jL en cX _ _) fun _ r=>cc.bind' (an5 en cX _) fun _ r=>cc.bind' (jL en cX _ _) fun _ r=>⟨rfl,rfl⟩
theorem Oj: ∀(n:Nat) (s:List (List UInt8)) (l:List ba),cc (lm en n s l) (lm cX n s (l.map ba.c))
 |0,_,_=>trivial
 |n+1,s,l=>by
  simp only[lm,n1]
  exact cc.ite (km _ l) (cc.bind' (qu en cX _) fun w r=>Oj n _ r) ⟨rfl,rfl⟩
theorem an9 (n:Nat) (l:List ba):cc (nn en n l) (nn cX n (l.map ba.c)):=by
 unfold nn
 rw[n1]
 exact cc.ite (km _ l) ⟨rfl,rfl⟩ (cc.bind' (qu en cX _) fun w r=>cc.bind' (Oj en cX n _ _) fun _ r=>cc.bind' (jL en cX _ _) fun _ r=>⟨rfl,rfl⟩)
theorem an0 (n:Nat) (l:List ba):cc (nk en n l) (nk cX n (l.map ba.c)):=
 cc.bind' (Ov en cX n _) fun _ r=>cc.bind' (jL en cX _ _) fun _ r=>cc.bind' (an9 en cX n _) fun _ r=>cc.bind' (jL en cX _ _) fun _ r=>cc.bind' (qu en cX _) fun _ r=>cc.bind' ((Oy en cX n).1 _) fun _ r=>⟨rfl,rfl⟩
theorem Oc: ∀(n:Nat) (s:List ad) (l:List ba),cc (ll en n s l) (ll cX n s (l.map ba.c))
 |0,_,_=>trivial
 |n+1,s,l=>by
  simp only[ll,n1]
  exact cc.ite (km _ l) (cc.bind' ((zf en cX n).2.1 _ _) fun w r=>Oc n _ r) ⟨rfl,rfl⟩
theorem am4 (n:Nat) (l:List ba):cc (nj en n l) (nj cX n (l.map ba.c)):=by
 unfold nj
 rw[n1]
 exact cc.ite (km _ l) ⟨rfl,rfl⟩ (cc.bind' ((zf en cX n).2.1 _ _) fun w r=>cc.bind' (Oc en cX n _ _) fun _ r=>cc.bind' (jL en cX _ _) fun _ r=>⟨rfl,rfl⟩)
theorem ap3 (n:Nat) (l:List ba):cc (ox en n l) (ox cX n (l.map ba.c)):=by
 unfold ox
 rw[n1]
 exact cc.ite (km _ l) (cc.bind' ((zf en cX n).2.1 _ _) fun _ r=>⟨rfl,rfl⟩) ⟨rfl,rfl⟩
theorem an7 (n:Nat) (l:List ba):cc (nl en n l) (nl cX n (l.map ba.c)):=
 cc.bind' (Ov en cX n _) fun _ r=>cc.bind' (jL en cX _ _) fun _ r=>cc.bind' (am4 en cX n _) fun _ r=>cc.bind' (jL en cX _ _) fun _ r=>cc.bind' (qu en cX _) fun _ r=>cc.bind' (ap3 en cX n _) fun _ r=>cc.bind' (jL en cX _ _) fun _ r=>⟨rfl,rfl⟩
theorem OH (n:Nat): ∀(m:Nat) (s:List cb) (l:List ba),cc (lp en n m s l) (lp cX n m s (l.map ba.c))
 |0,_,_=>trivial
 |m+1,s,l=>by
  simp only[lp,n1]
  exact cc.ite (km _ l) (cc.bind' (ap0 en cX _) fun w r=>OH n m _ r) ⟨rfl,rfl⟩
theorem E6 (n:Nat): ∀(m:Nat) (ap:List cd) (os:List ca) (l:List ba),cc (ln en n m ap os l) (ln cX n m ap os (l.map ba.c))
 |0,_,_,_=>trivial
 |m+1,ap,os,l=>by
  simp only[ln,n1]
  refine cc.ite (km _ l) ⟨rfl,rfl⟩ (cc.ite (km _ l) (cc.bind' (an0 en cX n _) fun w r=>E6 n m _ _ r) (cc.bind' (jL en cX _ _) fun _ r=>cc.bind' (an7 en cX n _) fun _ r=>E6 n m _ _ r))
theorem ao7 (n:Nat) (l:List ba):cc (lo en n l) (lo cX n (l.map ba.c)):=by
 refine cc.bind' (jL en cX _ _) fun _ r=>cc.bind' (qu en cX _) fun _ r=>cc.bind' (jL en cX _ _) fun _ r=>cc.bind' (qu en cX _) fun _ r=>cc.bind' (jL en cX _ _) fun _ r=>cc.bind' (qu en cX _) fun _ r=>cc.bind' (jL en cX _ _) fun _ r=>cc.bind' (OH en cX n n _ _) fun _ r=>cc.bind' (E6 en cX n n _ _ _) fun _ r=> ?_
 cases r with
 |nil=>exact⟨rfl,rfl⟩
 |cons t r=>exact rfl
end
end Go.bc
namespace Go.bc
open Go Go.bc.T.N
def dH (s:a7):ba:=⟨1,s,0,0⟩
def cy (s:a7):ba:=⟨4,s,0,0⟩
def kr (v:Int):ba:=⟨2,[],v,0⟩
def p6 (s:a7):ba:=⟨3,s,0,0⟩
abbrev bH:=List ba
def kf (x:ad) (s:bH) (k:Int):bH:=if x.kind=6∧cV x.op<k then[cy [40]]++s++[cy [41]] else s
def ah7:List bH→bH
 |s:: _=>[dH [108,101,110],cy [40]]++s++[cy [41]]
 |[]=>[]
def aH8 (o:a7):List ad→List bH→bH
 |x:: _,s:: _=>[cy o]++kf x s 7
 | _,_=>[]
def TP (o:a7):List ad→List bH→bH
 |x::y:: _,s::u:: _=>kf x s (cV o)++[cy o]++kf y u (cV o+1)
 | _,_=>[]
def X8 (k:Int) (o m t:a7) (n:Int) (l:List ad) (lL:List bH):bH:=
 if k=1 then[kr n] else if k=2 then[p6 t] else if k=3 then[dH m] else if k=4 then ah7 lL else if k=5 then aH8 o l lL else TP o l lL
mutual
def gF:ad→bH
 | .mk k o m t n l=>X8 k o m t n l (Sc l)
def Sc:List ad→List bH
 |[]=>[]
 |x::l=>gF x::Sc l
end
theorem wL {x:ad}(h:dB x=true):(∃n,x= .mk 1 [] [] [] n []∧0≤n∧n≤1000)∨(∃t,x= .mk 2 [] [] t 0 []∧lM t=true)∨(∃m,x= .mk 3 [] m [] 0 []∧db m=true)∨(∃y,x= .mk 4 [] [] [] 0 [y]∧dB y=true)∨(∃o y,x= .mk 5 o [] [] 0 [y]∧(o=[45]∨o=[33])∧dB y=true)∨(∃o y z,x= .mk 6 o [] [] 0 [y,z]∧cV o≠0∧dB y=true∧dB z=true):=by
 obtain⟨k,o,m,t,n,l⟩:=x
 simp only[dB,Bool.and_eq_true]at h
 obtain⟨h,aH⟩:=h
 unfold fL at h
 by_cases J:k=1
 ·simp [J]at h
  obtain⟨a,b,rfl,rfl,rfl,rfl⟩:=h
  exact .inl ⟨n,by rw[J],a,b⟩
 by_cases aa:k=2
 ·simp [aa]at h
  obtain⟨a,rfl,rfl,rfl,rfl⟩:=h
  exact .inr (.inl ⟨t,by rw[aa],a⟩)
 by_cases au:k=3
 ·simp [au]at h
  obtain⟨a,rfl,rfl,rfl,rfl⟩:=h
  exact .inr (.inr (.inl ⟨m,by rw[au],a⟩))
 by_cases bn:k=4
 ·simp [bn]at h
  obtain⟨a,rfl,rfl,rfl,rfl⟩:=h
  match l,a with
  |[y],_=>exact .inr (.inr (.inr (.inl ⟨y,by rw[bn],by simpa [mY] using aH⟩)))
 by_cases bL:k=5
 ·simp [bL]at h
  obtain⟨a,b,rfl,rfl,rfl⟩:=h
  match l,b with
  |[y],_=>exact .inr (.inr (.inr (.inr (.inl ⟨o,y,by rw[bL],a,by simpa [mY] using aH⟩))))
 by_cases cq:k=6
 ·simp [cq]at h
  obtain⟨a,b,rfl,rfl,rfl⟩:=h
  match l,b with
  |[y,z],_=>
   simp only[mY,Bool.and_eq_true]at aH
   exact .inr (.inr (.inr (.inr (.inr ⟨o,y,z,by rw[cq],a,aH.1,aH.2.1⟩))))
 simp [J,aa,au,bn,bL,cq]at h
def js (l:bH) (x:ad) (r:bH):Prop:=∃n,ht 0 n l= .ok x r
def kN (k:Int) (l:bH) (x:ad) (r:bH):Prop:=∃n,gY 0 n k l= .ok x r
def kV (k:Int) (y:ad) (l:bH) (x:ad) (r:bH):Prop:=∃n,jw 0 n k y l= .ok x r
theorem ao9 {n m:Nat}{l:bH}{x:ad}{r:bH}(h:ht 0 n l= .ok x r) (hm:n≤m):ht 0 m l= .ok x r:=by rw[(uB n).1 l (by rw[h]; exact fr) m hm,h]
theorem uc {n m:Nat}{k:Int}{l:bH}{x:ad}{r:bH}(h:gY 0 n k l= .ok x r) (hm:n≤m):gY 0 m k l= .ok x r:=by rw[(uB n).2.1 k l (by rw[h]; exact fr) m hm,h]
theorem Og {n m:Nat}{k:Int}{y:ad}{l:bH}{x:ad}{r:bH}(h:jw 0 n k y l= .ok x r) (hm:n≤m):jw 0 m k y l= .ok x r:=by rw[(uB n).2.2 k y l (by rw[h]; exact fr) m hm,h]
theorem kN.mk {k:Int}{l r b4:bH}{x y:ad}(J:js l x r) (aa:kV k x r y b4):kN k l y b4:=by
 obtain⟨n,J⟩:=J
 obtain⟨m,aa⟩:=aa
 refine⟨max n m+1,?_⟩
 simp only[gY]
 rw[ao9 J (Nat.le_max_left n m),okB,Og aa (Nat.le_max_right n m)]
def pY (k:Int):bH→Prop
 |[]=>True
 |t:: _=>t.kind=4→cV t.text<k
theorem pY.mono {k j:Int}{r:bH}(h:pY k r) (bq:k≤j):pY j r:=by
 cases r with
 |nil=>trivial
 |cons t r=>exact fun bn=>Int.lt_of_lt_of_le (h bn) bq
theorem kV.stop {k:Int}{x:ad}{r:bH}(h:pY k r):kV k x r x r:=by
 refine⟨1,?_⟩
 cases r with
 |nil=>rfl
 |cons t r=>
  simp only[jw]
  by_cases bn:t.kind=4
  ·rw[if_pos bn,if_pos (h bn)]
  ·rw[if_neg bn]
theorem kV.go {k:Int}{o:a7}{x y z:ad}{l r b4:bH}(aC:k≤cV o) (J:kN (cV o+1) l y r) (aa:kV k (.mk 6 o [] [] 0 [x,y]) r z b4):kV k x (cy o::l) z b4:=by
 obtain⟨n,J⟩:=J
 obtain⟨m,aa⟩:=aa
 refine⟨max n m+1,?_⟩
 simp only[jw]
 rw[if_pos (show (cy o).kind=4 from rfl),if_neg (show ¬cV (cy o).text<k from by show ¬cV o<k; omega)]
 show (gY 0 (max n m) (cV o+1) l).bind _= _
 rw[uc J (Nat.le_max_left n m),okB]
 exact Og aa (Nat.le_max_right n m)
theorem kW (s o:a7) (l:bH):eQ s (cy o::l)=decide (o=s):=Bool.and_true _
theorem ka (s o:a7) (l:bH):eQ s (dH o::l)=decide (o=s):=Bool.and_true _
theorem E5 (s:a7) (v:Int) (l:bH):eQ s (kr v::l)=false:=by simp [eQ,kr]
theorem MM (s o:a7) (l:bH):eQ s (p6 o::l)=false:=by simp [eQ,p6]
theorem mC (s:a7) (l:bH):gm 0 s (cy s::l)= .ok () l:=by simp [gm,kW]
theorem uo (s:a7) (l:bH):gm 0 s (dH s::l)= .ok () l:=by simp [gm,ka]
theorem wX (v:Int) (l:bH):jN 0 2 (kr v::l)= .ok (kr v) l:=by simp [jN,kr]
theorem Oh (s:a7) (l:bH):jN 0 3 (p6 s::l)= .ok (p6 s) l:=by simp [jN,p6]
theorem qD {s:a7}(h:db s=true) (l:bH):jO 0 (dH s::l)= .ok s l:=by
 simp [jO,nP,dH,h,jN,okB]
theorem ss {s:a7}(h:db s=true) (k:a7) (aC:db k=false): ¬s=k:=by
 intro e
 rw[e,aC]at h
 cases h
theorem js.num {n:Int}{r:bH}(aw:n≤1000):js (kr n::r) (.mk 1 [] [] [] n []) r:=by
 refine⟨1,?_⟩
 have hb:u7 (kr n::r)=false:=by
  simp only[u7,kr,Bool.and_eq_false_iff]
  right
  exact decide_eq_false (by omega)
 simp only[ht,E5,Bool.false_eq_true,if_false]
 rw[if_neg (by simp [nP,kr]),if_neg (by simp [qN,kr]),if_neg (by rw[hb]; decide),wX,okB]
 rfl
theorem js.text {t:a7}{r:bH}:js (p6 t::r) (.mk 2 [] [] t 0 []) r:=by
 refine⟨1,?_⟩
 simp only[ht,MM,Bool.false_eq_true,if_false]
 rw[if_neg (by simp [nP,p6]),if_pos (by simp [qN,p6]),Oh,okB]
 rfl
theorem js.word {m:a7}{r:bH}(h:db m=true):js (dH m::r) (.mk 3 [] m [] 0 []) r:=by
 refine⟨1,?_⟩
 simp only[ht,ka,decide_eq_true_eq]
 rw[if_neg (ss h _ (by decide)),if_neg (ss h _ (by decide)),if_neg (ss h _ (by decide)),if_neg (ss h _ (by decide)),if_pos (by simp [nP,dH,h]),qD h,okB]
theorem js.ap6 {x:ad}{l r:bH}(h:kN 1 l x (cy [41]::r)):js (cy [40]::l) x r:=by
 obtain⟨n,h⟩:=h
 refine⟨n+1,?_⟩
 simp only[ht,kW,decide_true,if_true,List.tail_cons]
 rw[h,okB,mC,okB]
theorem js.len {x:ad}{l r:bH}(h:kN 1 l x (cy [41]::r)):js (dH [108,101,110]::cy [40]::l) (.mk 4 [] [] [] 0 [x]) r:=by
 obtain⟨n,h⟩:=h
 refine⟨n+1,?_⟩
 simp only[ht,ka,decide_true,if_true,List.tail_cons]
 rw[if_neg (by decide),mC,okB,h,okB,mC,okB]
theorem js.un {o:a7}(aq:o=[45]∨o=[33]){x:ad}{l r:bH}(h:js l x r):js (cy o::l) (.mk 5 o [] [] 0 [x]) r:=by
 obtain⟨n,h⟩:=h
 refine⟨n+1,?_⟩
 rcases aq with rfl|rfl
 ·simp only[ht,kW,List.tail_cons]
  rw[if_neg (by decide),if_neg (by decide),if_pos (by decide),h,okB]
 ·simp only[ht,kW,List.tail_cons]
  rw[if_neg (by decide),if_neg (by decide),if_neg (by decide),if_pos (by decide),h,okB]
def pF (x:ad):Int:=if x.kind=6 then cV x.op else 7
theorem R0 {k:Int}(aC:1≤k) (r:bH):pY k (cy [41]::r):=fun _=>by
 show cV [41]<k
 rw[show cV [41]=0 from by decide]
 omega
theorem zs: ∀(N:Nat) (x:ad),x.bI≤N→dB x=true→(∀r,pF x=7→js (gF x++r) x r)∧(∀k r z dn,1≤k→k≤pF x→pY (pF x+1) r→kV k x r z dn→kN k (gF x++r) z dn)
 |0,x,h,_=>by cases x; simp only[ad.bI]at h; omega
 |N+1,x,bW,aY=>by
  have leaf: ∀x:ad,pF x=7→(∀r,js (gF x++r) x r)→(∀r,pF x=7→js (gF x++r) x r)∧(∀k r z dn,1≤k→k≤pF x→pY (pF x+1) r→kV k x r z dn→kN k (gF x++r) z dn):=fun x _ h=>⟨fun r _=>h r,fun k r z dn _ _ _ aa=>kN.mk (h r) aa⟩
  have wr: ∀(y:ad) (r:bH),y.bI≤N→dB y=true→kN 1 (gF y++(cy [41]::r)) y (cy [41]::r):=fun y r J aa=>by
   have aH:1≤pF y:=by
    rcases wL aa with ⟨_,rfl,_⟩|⟨_,rfl,_⟩|⟨_,rfl,_⟩|⟨_,rfl,_⟩|⟨_,_,rfl,_⟩|⟨o,_,_,rfl,au,_⟩
    all_goals try (show (1:Int)≤7; decide)
    have:=(uG o).1
    show 1≤cV o
    omega
   exact (zs N y J aa).2 1 _ _ _ (Int.le_refl _) aH (R0 (by omega) r) (kV.stop (R0 (Int.le_refl _) r))
  have vP: ∀(y:ad) (k:Int),y.bI≤N→dB y=true→∀(r:bH),cV y.op<k∧y.kind=6→js (kf y (gF y) k++r) y r:=fun y k J aa r au=>by
   rw[kf,if_pos ⟨au.2,au.1⟩]
   simp only[List.append_assoc,List.cons_append,List.nil_append]
   exact js.ap6 (wr y r J aa)
  rcases wL aY with ⟨n,rfl,_,h⟩|⟨t,rfl,h⟩|⟨m,rfl,h⟩|⟨y,rfl,h⟩|⟨o,y,rfl,aq,h⟩|⟨o,y,z,rfl,aq,h,ij⟩
  ·exact leaf _ rfl fun r=>js.num h
  ·exact leaf _ rfl fun r=>js.text
  ·exact leaf _ rfl fun r=>js.word h
  ·simp only[ad.bI,ad.bB]at bW
   refine leaf _ rfl fun r=> ?_
   show js ([dH [108,101,110],cy [40]]++gF y++[cy [41]]++r) _ r
   simp only[List.append_assoc,List.cons_append,List.nil_append]
   exact js.len (wr y r (by omega) h)
  ·simp only[ad.bI,ad.bB]at bW
   refine leaf _ rfl fun r=> ?_
   show js ([cy o]++kf y (gF y) 7++r) _ r
   simp only[List.append_assoc,List.cons_append,List.nil_append]
   refine js.un aq ?_
   by_cases cq:y.kind=6
   ·exact vP y 7 (by omega) h r ⟨by have:=(uG y.op).2; omega,cq⟩
   ·rw[kf,if_neg (fun h=>cq h.1)]
    exact (zs N y (by omega) h).1 r (if_neg cq)
  ·simp only[ad.bI,ad.bB]at bW
   have hp:=uG o
   refine⟨fun r j0=> ?_,fun k r w dn J aC ap ek=> ?_⟩
   ·have:cV o=7:=j0
    omega
   have aC:k≤cV o:=aC
   have ap:pY (cV o+1) r:=ap
   show kN k (kf y (gF y) (cV o)++[cy o]++kf z (gF z) (cV o+1)++r) w dn
   simp only[List.append_assoc,List.cons_append,List.nil_append]
   have aB:kN (cV o+1) (kf z (gF z) (cV o+1)++r) z r:=by
    by_cases cq:z.kind=6∧cV z.op<cV o+1
    ·exact kN.mk (vP z _ (by omega) ij r ⟨cq.2,cq.1⟩) (kV.stop ap)
    ·rw[kf,if_neg cq]
     have aH:cV o+1≤pF z:=by
      unfold pF
      split
      ·rename_i h; by_cases j7:cV z.op<cV o+1
       ·exact absurd ⟨h,j7⟩ cq
       ·omega
      ·omega
     exact (zs N z (by omega) ij).2 _ _ _ _ (by omega) aH (ap.mono (by omega)) (kV.stop ap)
   have Mq:kV k y (cy o::(kf z (gF z) (cV o+1)++r)) w dn:=kV.go aC aB ek
   by_cases cq:y.kind=6∧cV y.op<cV o
   ·exact kN.mk (vP y _ (by omega) h _ ⟨cq.2,cq.1⟩) Mq
   ·rw[kf,if_neg cq]
    have aH:cV o≤pF y:=by
     unfold pF
     split
     ·rename_i h; by_cases j7:cV y.op<cV o
      ·exact absurd ⟨h,j7⟩ cq
      ·omega
     ·omega
    exact (zs N y (by omega) h).2 k _ _ _ J (by omega) (fun _=>by show cV o<pF y+1; omega) Mq
mutual
def kp:ac→bH
 | .mk k m x t a b=>if k=1 then dH m::cy [61]::(gF x++[cy [59]])
  else if k=3 then dH [119,104,105,108,101]::(gF x++dH [116,105,109,101,115]::kr t::cy [123]::(k0 a++[cy [125]]))
  else dH [105,102]::(gF x++cy [123]::(k0 a++cy [125]::(if jH b=true then zy b else if b.isEmpty=true then[] else dH [101,108,115,101]::cy [123]::(k0 b++[cy [125]]))))
def k0:List ac→bH
 |[]=>[]
 |x::l=>kp x++k0 l
def zy:List ac→bH
 |[]=>[]
 |y:: _=>dH [101,108,115,101]::kp y
end
theorem AK {x:ac}(h:hX x=true):(∃m y,x= .mk 1 m y 0 [] []∧db m=true∧dB y=true)∨(∃y a b,x= .mk 2 [] y 0 a b∧dB y=true∧ho a=true∧ho b=true)∨(∃y t a,x= .mk 3 [] y t a []∧1≤t∧t≤50∧dB y=true∧ho a=true):=by
 obtain⟨k,m,y,t,a,b⟩:=x
 simp only[hX,Bool.and_eq_true]at h
 obtain⟨h,aZ,aP,hb⟩:=h
 unfold eu at h
 by_cases J:k=1
 ·simp [J]at h
  obtain⟨g1,rfl,rfl,rfl⟩:=h
  exact .inl ⟨m,y,by rw[J],g1,aZ⟩
 by_cases aa:k=2
 ·simp [aa]at h
  obtain⟨rfl,rfl⟩:=h
  exact .inr (.inl ⟨y,a,b,by rw[aa],aZ,aP,hb⟩)
 by_cases au:k=3
 ·simp [au]at h
  obtain⟨rfl,g1,g2,rfl⟩:=h
  exact .inr (.inr ⟨y,t,a,by rw[au],g1,g2,aZ,aP⟩)
 simp [J,aa,au]at h
def oH (l:bH) (b:List ac) (r:bH):Prop:=∃n,iP 0 n l= .ok b r
def sw (acc:List ac) (l:bH) (b:List ac) (r:bH):Prop:=∃n,jK 0 n acc l= .ok b r
def mP (l:bH) (x:ac) (r:bH):Prop:=∃n,je 0 n l= .ok x r
def df (l:bH) (x:ac) (r:bH):Prop:=∃n,iQ 0 n l= .ok x r
theorem wS {n m:Nat}{l:bH}{x:List ac}{r:bH}(h:iP 0 n l= .ok x r) (hm:n≤m):iP 0 m l= .ok x r:=by rw[(vi n).1 l (by rw[h]; exact fr) m hm,h]
theorem am7 {n m:Nat}{acc:List ac}{l:bH}{x:List ac}{r:bH}(h:jK 0 n acc l= .ok x r) (hm:n≤m):jK 0 m acc l= .ok x r:=by rw[(vi n).2.1 acc l (by rw[h]; exact fr) m hm,h]
theorem ao3 {n m:Nat}{l:bH}{x:ac}{r:bH}(h:je 0 n l= .ok x r) (hm:n≤m):je 0 m l= .ok x r:=by rw[(vi n).2.2.1 l (by rw[h]; exact fr) m hm,h]
theorem am9 {n m:Nat}{l:bH}{x:ac}{r:bH}(h:iQ 0 n l= .ok x r) (hm:n≤m):iQ 0 m l= .ok x r:=by rw[(vi n).2.2.2 l (by rw[h]; exact fr) m hm,h]
theorem N5 {y:ad}(aa:dB y=true):1≤pF y:=by
 rcases wL aa with ⟨_,rfl,_⟩|⟨_,rfl,_⟩|⟨_,rfl,_⟩|⟨_,rfl,_⟩|⟨_,_,rfl,_⟩|⟨o,_,_,rfl,au,_⟩
 all_goals try (show (1:Int)≤7; decide)
 have:=(uG o).1
 show 1≤cV o
 omega
theorem xx {y:ad}(h:dB y=true){r:bH}(ap:pY 1 r):kN 1 (gF y++r) y r:=
 (zs _ y (Nat.le_refl _) h).2 1 _ _ _ (Int.le_refl _) (N5 h) (ap.mono (by have:=N5 h; omega)) (kV.stop ap)
theorem aG6 {k:Int}(s:a7) (r:bH):pY k (dH s::r):=fun h=>absurd h (by show ¬(1:Int)=4; decide)
theorem vY (s:a7) (r:bH) (h:cV s=0):pY 1 (cy s::r):=fun _=>by
 show cV s<1
 rw[h]
 decide
abbrev sC (r:bH):Prop:=eQ [101,108,115,101] r=false
theorem aj5 {l:List ac}(h:ho l=true) (r:bH):sC (k0 l++cy [125]::r):=by
 cases l with
 |nil=>simp only[sC,k0,List.nil_append,kW]; decide
 |cons x l=>
  simp only[ho,Bool.and_eq_true]at h
  rcases AK h.1 with ⟨m,y,rfl,J,_⟩|⟨y,a,b,rfl,_⟩|⟨y,t,a,rfl,_⟩
  ·simp only[sC,k0,kp,if_true,List.cons_append,ka]
   exact decide_eq_false (ss J _ (by decide))
  ·simp only[sC,k0,kp,show ¬(2:Int)=1 by decide,show ¬(2:Int)=3 by decide,if_false,List.cons_append,ka]
   decide
  ·simp only[sC,k0,kp,show ¬(3:Int)=1 by decide,if_true,if_false,List.cons_append,ka]
   decide
theorem oH.mk {l:bH}{b:List ac}{r:bH}(h:sw [] l b r):oH (cy [123]::l) b r:=by
 obtain⟨n,h⟩:=h
 refine⟨n+1,?_⟩
 simp only[iP]
 rw[mC,okB,h]
theorem sw.nil {acc:List ac}{r:bH}:sw acc (cy [125]::r) acc r:=⟨1,by simp only[jK,kW,decide_true,if_true,List.tail_cons]⟩
theorem sw.cons {acc:List ac}{l:bH}{x:ac}{r:bH}{b:List ac}{b4:bH}(aw:eQ [125] l=false) (J:mP l x r) (aa:sw (acc++[x]) r b b4):sw acc l b b4:=by
 obtain⟨n,J⟩:=J
 obtain⟨m,aa⟩:=aa
 refine⟨max n m+1,?_⟩
 simp only[jK]
 rw[if_neg (by rw[aw]; decide),ao3 J (Nat.le_max_left n m),okB,am7 aa (Nat.le_max_right n m)]
theorem aj7 {x:ac}(h:hX x=true) (r:bH):eQ [125] (kp x++r)=false:=by
 rcases AK h with ⟨m,y,rfl,J,_⟩|⟨y,a,b,rfl,_⟩|⟨y,t,a,rfl,_⟩
 ·simp only[kp,if_true,List.cons_append,ka]
  exact decide_eq_false (ss J _ (by decide))
 ·simp only[kp,show ¬(2:Int)=1 by decide,show ¬(2:Int)=3 by decide,if_false,List.cons_append,ka]
  decide
 ·simp only[kp,show ¬(3:Int)=1 by decide,if_true,if_false,List.cons_append,ka]
  decide
theorem mP.assign {m:a7}{l:bH}{x:ad}{r:bH}(hm:db m=true) (h:kN 1 l x (cy [59]::r)):mP (dH m::cy [61]::l) (.mk 1 m x 0 [] []) r:=by
 obtain⟨n,h⟩:=h
 refine⟨n+1,?_⟩
 simp only[je,ka,decide_eq_true_eq]
 rw[if_neg (ss hm _ (by decide)),if_neg (ss hm _ (by decide)),qD hm,okB,mC,okB,h,okB,mC,okB]
theorem mP.while {l:bH}{x:ad}{t:Int}{r:bH}{b:List ac}{b4:bH}(aw:1≤t) (J:t≤50) (h:kN 1 l x (dH [116,105,109,101,115]::kr t::r)) (hb:oH r b b4):mP (dH [119,104,105,108,101]::l) (.mk 3 [] x t b []) b4:=by
 obtain⟨n,h⟩:=h
 obtain⟨m,hb⟩:=hb
 refine⟨max n m+1,?_⟩
 have YV:u6 (kr t::r)=false:=by
  simp only[u6,kr,Bool.and_eq_false_iff,Bool.or_eq_false_iff]
  right
  exact⟨decide_eq_false (by omega),decide_eq_false (by omega)⟩
 simp only[je,ka]
 rw[if_neg (by decide),if_pos (by decide),List.tail_cons,uc h (Nat.le_max_left n m),okB,uo,okB,if_neg (by rw[YV]; decide),wX,okB,wS hb (Nat.le_max_right n m),okB]
 rfl
theorem mP.if {l:bH}{x:ac}{r:bH}(h:df l x r):mP (dH [105,102]::l) x r:=by
 obtain⟨n,h⟩:=h
 refine⟨n+1,?_⟩
 simp only[je,ka,decide_true,if_true,List.tail_cons]
 exact h
theorem df.one {l:bH}{x:ad}{r b4:bH}{b:List ac}(h:kN 1 l x r) (hb:oH r b b4) (a6:sC b4):df l (.mk 2 [] x 0 b []) b4:=by
 obtain⟨n,h⟩:=h
 obtain⟨m,hb⟩:=hb
 refine⟨max n m+1,?_⟩
 simp only[iQ]
 rw[uc h (Nat.le_max_left n m),okB,wS hb (Nat.le_max_right n m),okB,if_neg (by rw[a6]; decide)]
theorem df.two {l:bH}{x:ad}{r b4 cJ:bH}{b c:List ac}(h:kN 1 l x r) (hb:oH r b (dH [101,108,115,101]::cy [123]::b4)) (ah:oH (cy [123]::b4) c cJ):df l (.mk 2 [] x 0 b c) cJ:=by
 obtain⟨n,h⟩:=h
 obtain⟨m,hb⟩:=hb
 obtain⟨q,ah⟩:=ah
 refine⟨max n (max m q)+1,?_⟩
 simp only[iQ]
 rw[uc h (by omega),okB,wS hb (m:=max n (max m q)) (by omega),okB,if_pos (by rw[ka]; decide),List.tail_cons,if_neg (by rw[kW]; decide),wS ah (by omega),okB]
theorem df.rC {l:bH}{x:ad}{r b4 cJ:bH}{b:List ac}{y:ac}(h:kN 1 l x r) (hb:oH r b (dH [101,108,115,101]::dH [105,102]::b4)) (ah:df b4 y cJ):df l (.mk 2 [] x 0 b [y]) cJ:=by
 obtain⟨n,h⟩:=h
 obtain⟨m,hb⟩:=hb
 obtain⟨q,ah⟩:=ah
 refine⟨max n (max m q)+1,?_⟩
 simp only[iQ]
 rw[uc h (by omega),okB,wS hb (m:=max n (max m q)) (by omega),okB,if_pos (by rw[ka]; decide),List.tail_cons,if_pos (by rw[ka]; decide),List.tail_cons,am9 ah (by omega),okB]
def CT (N:Nat):Prop:=∀x:ac,x.bI≤N→hX x=true→(∀r,sC r→mP (kp x++r) x r)∧(x.kind=2→∃u,kp x=dH [105,102]::u∧∀r,sC r→df (u++r) x r)
theorem RG {N:Nat}(mo:CT N): ∀(l:List ac) (acc:List ac) (r:bH),ac.bB l≤N→ho l=true→sw acc (k0 l++cy [125]::r) (acc++l) r
 |[],acc,r,_,_=>by simp only[k0,List.nil_append,List.append_nil]; exact sw.nil
 |x::l,acc,r,bW,aY=>by
  simp only[ac.bB]at bW
  simp only[ho,Bool.and_eq_true]at aY
  simp only[k0,List.append_assoc]
  have aa:=RG mo l (acc++[x]) r (by omega) aY.2
  rw[List.append_assoc,List.cons_append,List.nil_append]at aa
  exact sw.cons (aj7 aY.1 _) ((mo x (by omega) aY.1).1 _ (aj5 aY.2 r)) aa
theorem xg {N:Nat}(mo:CT N) (l:List ac) (r:bH) (bW:ac.bB l≤N) (aY:ho l=true):oH (cy [123]::(k0 l++cy [125]::r)) l r:=oH.mk (by have:=RG mo l [] r bW aY; rwa [List.nil_append]at this)
theorem vW: ∀N,CT N
 |0,x,h,_=>by cases x; simp only[ac.bI]at h; omega
 |N+1,x,bW,aY=>by
  rcases AK aY with ⟨m,y,rfl,J,aa⟩|⟨y,a,b,rfl,aZ,aP,hb⟩|⟨y,t,a,rfl,aw,J,aZ,aP⟩
  ·refine⟨fun r _=> ?_,fun h=>absurd h (by show ¬(1:Int)=2; decide)⟩
   simp only[kp,if_true,List.cons_append,List.append_assoc,List.nil_append]
   exact mP.assign J (xx aa (vY _ _ (by decide)))
  ·have key: ∃u,kp (.mk 2 [] y 0 a b)=dH [105,102]::u∧∀r,sC r→df (u++r) (.mk 2 [] y 0 a b) r:=by
    simp only[ac.bI]at bW
    simp only[kp,show ¬(2:Int)=1 by decide,show ¬(2:Int)=3 by decide,if_false]
    refine⟨_,rfl,fun r ag=> ?_⟩
    simp only[List.append_assoc,List.cons_append]
    have he: ∀dn,kN 1 (gF y++cy [123]::dn) y (cy [123]::dn):=fun dn=>xx aZ (vY _ _ (by decide))
    by_cases oo:b=[]
    ·subst oo
     simp only[jH,List.isEmpty_nil,Bool.false_eq_true,if_false,if_true,List.nil_append]
     exact df.one (he _) (xg (vW N) a _ (by omega) aP) ag
    cases eU:jH b with
    |true=>
     simp only[if_true]
     match b,eU,hb,bW with
     |[gz],eU,hb,bW=>
     have aC:gz.kind=2:=of_decide_eq_true eU
     simp only[ho,Bool.and_true]at hb
     simp only[ac.bB]at bW
     obtain⟨u,hu,ah⟩:=(vW N gz (by omega) hb).2 aC
     simp only[zy,hu,List.cons_append]
     exact df.rC (he _) (xg (vW N) a _ (by omega) aP) (ah r ag)
    |false=>
     have xf:b.isEmpty=false:=by cases b with|nil=>exact absurd rfl oo|cons _ _=>rfl
     simp only[xf,Bool.false_eq_true,if_false,List.cons_append,List.append_assoc,List.nil_append]
     exact df.two (he _) (xg (vW N) a _ (by omega) aP) (xg (vW N) b _ (by omega) hb)
   refine⟨fun r ag=> ?_,fun _=>key⟩
   obtain⟨u,hu,ah⟩:=key
   rw[hu,List.cons_append]
   exact mP.if (ah r ag)
  ·refine⟨fun r _=> ?_,fun h=>absurd h (by show ¬(3:Int)=2; decide)⟩
   simp only[ac.bI]at bW
   simp only[kp,show ¬(3:Int)=1 by decide,if_true,if_false,List.cons_append,List.append_assoc,List.nil_append]
   exact mP.while aw J (xx aZ (aG6 _ _)) (xg (vW N) a _ (by omega) aP)
def iS:List UInt8→List (List UInt8)
 |[]=>[[]]
 |c::s=>if c=46 then[]::iS s else match iS s with
  |w::ws=>(c::w)::ws
  |[]=>[[c]]
theorem F9: ∀ {s:List UInt8},46∉s→iS s=[s]
 |[],_=>rfl
 |c::s,h=>by
  simp only[List.mem_cons,not_or]at h
  rw[iS,if_neg (fun e=>h.1 e.symm),F9 h.2]
theorem F8: ∀ {u:List UInt8}(v:List UInt8),46∉u→iS (u++46::v)=u::iS v
 |[],v,_=>rfl
 |c::u,v,h=>by
  simp only[List.mem_cons,not_or]at h
  rw[List.cons_append,iS,if_neg (fun e=>h.1 e.symm),F8 v h.2]
theorem MC: ∀ {u:List UInt8}(v:List UInt8),46∉u→Lib.indexByte (u++46::v) 46=(u.length:Int)
 |[],v,_=>by simp [Lib.indexByte]
 |c::u,v,h=>by
  simp only[List.mem_cons,not_or]at h
  have ai:=MC v h.2
  have ah:(c==46)=false:=by simpa using fun e:c=46=>h.1 e.symm
  simp only[List.cons_append,Lib.indexByte,ai,ah,List.length_cons]
  have:((u.length:Int)== -1)=false:=by simp
  simp only[this,Bool.false_eq_true,if_false,Int.natCast_add]
  rfl
theorem RZ: ∀(k:Nat) (s:List UInt8),s.count 46=k→(Lib.splitB pG 0 k ⟨⟨s⟩⟩).map (·.data.toList)=iS s
 |0,s,h=>by
  rw[Lib.splitB_zero,F9 (List.count_eq_zero.1 h)]
  rfl
 |k+1,s,h=>by
  obtain⟨u,v,rfl,hu⟩:=List.eq_append_cons_of_mem (List.count_pos_iff.1 (by omega:0<s.count 46))
  rw[List.count_append,List.count_cons_self,List.count_eq_zero.2 hu]at h
  have ZT:Lib.indexB ⟨⟨u++46::v⟩⟩ pG=(u.length:Int):=by
   show Lib.index (u++46::v) [46]= _
   rw[Lib.index_one,MC v hu]
  rw[Lib.splitB_hit pG 0 k _ u.length ZT,List.map_cons,F8 v hu]
  have ar:(ByteArray.extract ⟨⟨u++46::v⟩⟩ 0 (u.length+0)).data.toList=u:=by
   rw[ByteArray.data_extract,Array.toList_extract]
   simp [List.extract]
  have ax:ByteArray.extract ⟨⟨u++46::v⟩⟩ (u.length+pG.size) (ByteArray.size ⟨⟨u++46::v⟩⟩)=⟨⟨v⟩⟩:=by
   apply ByteArray.ext
   apply Array.ext'
   rw[ByteArray.data_extract,Array.toList_extract]
   show List.extract (u++46::v) (u.length+1) (u++46::v).length=v
   simp [List.extract,←List.drop_drop]
   exact List.take_of_length_le (by omega)
  rw[ar,ax,RZ k v (by omega)]
theorem Ga (s:List UInt8):sf s=iS s:=by
 unfold sf
 refine RZ _ s ?_
 show s.count 46=Lib.count s [46]
 rw[Lib.count_one]
end Go.bc
namespace Go.bc.T.N
open Go Go.bc Go.Proofs Go.RowKit
set_option maxRecDepth 100000
attribute [local irreducible] Go.bc.aj Go.bc.ae Go.bc.bz
section
attribute [local go_sem] ad.ct ad.b9 ad.de ac.ct ac.b9 ac.de cj eN fZ gJ dp of_flat cb.row dG fG
theorem B5 (x:e9) (hb:oI x):Pure Tryz.prog 16 [x.ir] (.bool (kJ x)):=by
 have AT:=qV x.name
 have Xk:=qV x.hD
 have Xj:=qV x.hA
 have Em:=hb.nS
 have Ek:=hb.nh
 have ck:=hb.no
 have AN:=ax1 ad9 iN x.vars (by omega) fun v _=>ax2 v
 have wN:=ax3 ae0 jZ x.ap (by omega) fun v af=>ax4 v (by have:=hb.aP v af; omega) (by have:=hb.hp v af; omega)
 have AO:=ax6 ae1 j6 x.os (by omega) fun v af=>ax7 v (by have:=hb.o6 v af; omega)
 have rA:qX x=true→py x=true→Pure Tryz.prog 52 [x.ir] (.str (iK x)):=fun J aa=>O1 x (Cv hb J aa)
 rw[lq]at rA ⊢
 have ky:((x.vars.map cb.row).length:Int)=(x.vars.length:Int):=by rw[List.length_map]
 have kZ:((x.ap.map cd.row).length:Int)=(x.ap.length:Int):=by rw[List.length_map]
 have mO:((x.os.map ca.row).length:Int)=(x.os.length:Int):=by rw[List.length_map]
 simp only[kJ,qX,py]at rA ⊢
 generalize db x.name=As at*
 generalize db x.hD=Tv at*
 generalize db x.hA=Tu at*
 generalize x.vars.all iN=Tw at*
 generalize x.ap.all jZ=C1 at*
 generalize x.os.all j6=aG at*
 generalize iK x=C at*
 generalize x.vars.length=nS at*
 generalize x.ap.length=nh at*
 generalize x.os.length=no at*
 refine cF bN Tryz.func16 UG (by simp only[b3,I.flat,dG,dp,of_flat,Bool.and_self]) rfl ?_
 unfold oQ P7
 simp(disch:=omega)only[go_sem,simprocAttr]
 refine ao ?_
 refine D.P (AT) ?_
 cases As
 ·refine ao ?_
  exact D.rx
 refine ao ?_
 refine D.P (Xk) ?_
 cases Tv
 ·refine ao ?_
  exact D.rx
 refine ao ?_
 refine D.P (Xj) ?_
 cases Tu
 ·refine ao ?_
  exact D.rx
 by_cases J:nS≤12
 rotate_left
 ·have d1:(12:Int)<(nS:Int):=by omega
  (have al:=ky;have z2:=d1;refine e8 ?_;clear al z2)
  refine D.r ?_
  refine⟨_,rfl,.av ?_ rfl,trivial,trivial⟩
  simp [I.av,J]
 have d1: ¬(12:Int)<(nS:Int):=by omega
 by_cases aa:nh≤40
 rotate_left
 ·have d2:(40:Int)<(nh:Int):=by omega
  (repeat' first|(apply ae.s rfl;(·simp(disch:=omega)only[go_sem,simprocAttr,ky,d1,kZ,d2]<;>with_reducible rfl))|(apply aj.s true true;(·simp(disch:=omega)only[go_sem,simprocAttr,ky,d1,kZ,d2]<;>with_reducible rfl))|apply ae.nil|(refine aj.b6 ?_)|(apply ae.eX;(·simp(disch:=omega)only[go_sem,simprocAttr,ky,d1,kZ,d2]<;>with_reducible rfl))|(apply ae.eY;(·rfl);(·simp(disch:=omega)only[go_sem,simprocAttr,ky,d1,kZ,d2]<;>with_reducible rfl))|(apply ae.gs;(·simp(disch:=omega)only[go_sem,simprocAttr,ky,d1,kZ,d2]<;>with_reducible rfl))|((first|apply ae.e3|apply ae.e4|apply ae.e5);(·simp(disch:=omega)only[go_sem,simprocAttr,ky,d1,kZ,d2]<;>with_reducible rfl);(·simp(disch:=omega)only[go_sem,simprocAttr,ky,d1,kZ,d2]<;>with_reducible rfl);(·assumption);(·omega))|intro h)
  refine D.r ?_
  refine⟨_,rfl,.av ?_ rfl,trivial,trivial⟩
  simp [I.av,aa]
 have d2: ¬(40:Int)<(nh:Int):=by omega
 by_cases au:no≤40
 rotate_left
 ·have d3:(40:Int)<(no:Int):=by omega
  (repeat' first|(apply ae.s rfl;(·simp(disch:=omega)only[go_sem,simprocAttr,ky,d1,kZ,d2,mO,d3]<;>with_reducible rfl))|(apply aj.s true true;(·simp(disch:=omega)only[go_sem,simprocAttr,ky,d1,kZ,d2,mO,d3]<;>with_reducible rfl))|apply ae.nil|(refine aj.b6 ?_)|(apply ae.eX;(·simp(disch:=omega)only[go_sem,simprocAttr,ky,d1,kZ,d2,mO,d3]<;>with_reducible rfl))|(apply ae.eY;(·rfl);(·simp(disch:=omega)only[go_sem,simprocAttr,ky,d1,kZ,d2,mO,d3]<;>with_reducible rfl))|(apply ae.gs;(·simp(disch:=omega)only[go_sem,simprocAttr,ky,d1,kZ,d2,mO,d3]<;>with_reducible rfl))|((first|apply ae.e3|apply ae.e4|apply ae.e5);(·simp(disch:=omega)only[go_sem,simprocAttr,ky,d1,kZ,d2,mO,d3]<;>with_reducible rfl);(·simp(disch:=omega)only[go_sem,simprocAttr,ky,d1,kZ,d2,mO,d3]<;>with_reducible rfl);(·assumption);(·omega))|intro h)
  refine D.r ?_
  refine⟨_,rfl,.av ?_ rfl,trivial,trivial⟩
  simp [I.av,au]
 have d3: ¬(40:Int)<(no:Int):=by omega
 simp only[decide_eq_true J,decide_eq_true aa,decide_eq_true au,Bool.true_and,Bool.and_true]at rA ⊢
 (repeat' first|(apply ae.s rfl;(·simp(disch:=omega)only[go_sem,simprocAttr,ky,d1,kZ,d2,mO,d3]<;>with_reducible rfl))|(apply aj.s true true;(·simp(disch:=omega)only[go_sem,simprocAttr,ky,d1,kZ,d2,mO,d3]<;>with_reducible rfl))|apply ae.nil|(refine aj.b6 ?_)|(apply ae.eX;(·simp(disch:=omega)only[go_sem,simprocAttr,ky,d1,kZ,d2,mO,d3]<;>with_reducible rfl))|(apply ae.eY;(·rfl);(·simp(disch:=omega)only[go_sem,simprocAttr,ky,d1,kZ,d2,mO,d3]<;>with_reducible rfl))|(apply ae.gs;(·simp(disch:=omega)only[go_sem,simprocAttr,ky,d1,kZ,d2,mO,d3]<;>with_reducible rfl))|((first|apply ae.e3|apply ae.e4|apply ae.e5);(·simp(disch:=omega)only[go_sem,simprocAttr,ky,d1,kZ,d2,mO,d3]<;>with_reducible rfl);(·simp(disch:=omega)only[go_sem,simprocAttr,ky,d1,kZ,d2,mO,d3]<;>with_reducible rfl);(·assumption);(·omega))|intro h)
 refine D.P (AN) ?_
 cases Tw
 ·refine ao ?_
  exact D.rx
 refine ao ?_
 refine D.P (wN) ?_
 cases C1
 ·refine ao ?_
  exact D.rx
 refine ao ?_
 refine D.P (AO) ?_
 cases aG
 ·refine ao ?_
  exact D.rx
 refine ao ?_
 refine D.P (rA (by first|trivial|rfl) (by first|trivial|rfl)) ?_
 refine ao ?_
 refine D.r ?_
 refine⟨_,rfl,.av ?_ rfl,trivial,trivial⟩
 simp only[I.av,I.bool.injEq,Bool.true_and]
 exact decide_eq_decide.2 (by omega)
def xC (x:e9):I:=if kJ x=true then .di [.str (iK x),.int .i64 0] else .di [.str [],.int .i64 1]
theorem OY (x:e9) (hb:oI x):Pure Tryz.prog 18 [x.ir] (xC x):=by
 have oQ:=B5 x hb
 have rA:kJ x=true→Pure Tryz.prog 52 [x.ir] (.str (iK x)):=fun h=>O1 x (by
  simp only[kJ,Bool.and_eq_true]at h
  exact Cv hb h.1 h.2.1)
 rw[lq]at rA oQ ⊢
 unfold xC
 generalize iK x=C at*
 generalize kJ x=b at*
 refine cF bN Tryz.func18 UY (by simp only[b3,I.flat,dG,dp,of_flat,Bool.and_self]) (by cases b<;>rfl) ?_
 unfold ve Qo
 simp(disch:=omega)only[go_sem,simprocAttr]
 refine ao ?_
 refine D.P (oQ) ?_
 cases b
 ·refine ao ?_
  exact D.rx
 refine ao ?_
 refine D.P (rA rfl) ?_
 refine ao ?_
 exact D.rx
end
end Go.bc.T.N
namespace Go.bc
open Go Go.bc.T.N
section
variable {en:Int}
theorem zr: ∀n,(∀l x r,ht en n l= .ok x r→x.bI+r.length≤l.length)∧(∀k l x r,gY en n k l= .ok x r→x.bI+r.length≤l.length)∧(∀k y l x r,jw en n k y l= .ok x r→x.bI+r.length≤y.bI+l.length)
 |0=>⟨fun l x r h=>by simp [ht]at h,fun k l x r h=>by simp [gY]at h,fun k y l x r h=>by simp [jw]at h⟩
 |n+1=>by
  obtain⟨i1,i2,i3⟩:=zr n
  refine⟨fun l x r h=> ?_,fun k l x r h=> ?_,fun k y l x r h=> ?_⟩
  ·simp only[ht]at h
   split at h
   ·rename_i aw
    obtain⟨x,bO,J,h⟩:=cg h
    obtain⟨_,b4,aa,h⟩:=cg h
    cases h
    have:=i2 _ _ _ _ J
    have:=ea aa
    have:=eZ aw
    omega
   split at h
   ·rename_i aw
    obtain⟨_,bO,J,h⟩:=cg h
    obtain⟨x,b4,aa,h⟩:=cg h
    obtain⟨_,cJ,au,h⟩:=cg h
    cases h
    have:=i2 _ _ _ _ aa
    have:=ea J
    have:=ea au
    have:=eZ aw
    simp only[ad.bI,ad.bB]
    omega
   split at h
   ·rename_i aw
    obtain⟨x,bO,J,h⟩:=cg h
    cases h
    have:=i1 _ _ _ J
    have:=eZ aw
    simp only[ad.bI,ad.bB]
    omega
   split at h
   ·rename_i aw
    obtain⟨x,bO,J,h⟩:=cg h
    cases h
    have:=i1 _ _ _ J
    have:=eZ aw
    simp only[ad.bI,ad.bB]
    omega
   split at h
   ·obtain⟨x,bO,J,h⟩:=cg h
    cases h
    have:=gR J
    simp only[ad.bI,ad.bB]
    omega
   split at h
   ·obtain⟨x,bO,J,h⟩:=cg h
    cases h
    have:=ow J
    simp only[ad.bI,ad.bB]
    omega
   split at h
   ·cases h
   ·obtain⟨x,bO,J,h⟩:=cg h
    cases h
    have:=ow J
    simp only[ad.bI,ad.bB]
    omega
  ·simp only[gY]at h
   obtain⟨y,bO,J,h⟩:=cg h
   have:=i1 _ _ _ J
   have:=i3 _ _ _ _ _ h
   omega
  ·simp only[jw]at h
   cases l with
   |nil=>cases h; exact Nat.le_refl _
   |cons t l=>
    simp only at h
    split at h
    ·split at h
     ·cases h; exact Nat.le_refl _
     ·obtain⟨z,bO,J,h⟩:=cg h
      have:=i2 _ _ _ _ J
      have au:=i3 _ _ _ _ _ h
      simp only[ad.bI,ad.bB]at au
      simp only[List.length_cons]
      omega
    ·cases h; exact Nat.le_refl _
theorem Ol: ∀n,(∀l x r,iP en n l= .ok x r→ac.bB x+r.length≤l.length)∧(∀acc l x r,jK en n acc l= .ok x r→ac.bB x+r.length≤ac.bB acc+l.length)∧(∀l x r,je en n l= .ok x r→x.bI+r.length≤l.length)∧(∀l x r,iQ en n l= .ok x r→x.bI+r.length≤l.length+1)
 |0=>⟨fun l x r h=>by simp [iP]at h,fun a l x r h=>by simp [jK]at h,fun l x r h=>by simp [je]at h,fun l x r h=>by simp [iQ]at h⟩
 |n+1=>by
  obtain⟨i1,i2,i3,i4⟩:=Ol n
  have ax:=(zr (en:=en) n).2.1
  refine⟨fun l x r h=> ?_,fun a l x r h=> ?_,fun l x r h=> ?_,fun l x r h=> ?_⟩
  ·simp only[iP]at h
   obtain⟨_,bO,J,h⟩:=cg h
   have:=ea J
   have aa:=i2 _ _ _ _ h
   simp only[ac.bB]at aa
   omega
  ·simp only[jK]at h
   split at h
   ·rename_i aw
    cases h
    have:=eZ aw
    omega
   ·obtain⟨y,bO,J,h⟩:=cg h
    have:=i3 _ _ _ J
    have aa:=i2 _ _ _ _ h
    rw[ac.u1]at aa
    simp only[ac.bB]at aa
    omega
  ·simp only[je]at h
   split at h
   ·rename_i aw
    have:=eZ aw
    have:=i4 _ _ _ h
    omega
   split at h
   ·rename_i aw
    have:=eZ aw
    obtain⟨y,bO,J,h⟩:=cg h
    obtain⟨_,b4,aa,h⟩:=cg h
    split at h
    ·cases h
    obtain⟨t,cJ,au,h⟩:=cg h
    obtain⟨b,fk,bn,h⟩:=cg h
    cases h
    have:=ax _ _ _ _ J
    have:=ea aa
    have:=ow au
    have:=i1 _ _ _ bn
    simp only[ac.bI,ac.bB]
    omega
   ·obtain⟨w,bO,J,h⟩:=cg h
    obtain⟨_,b4,aa,h⟩:=cg h
    obtain⟨y,cJ,au,h⟩:=cg h
    obtain⟨_,fk,bn,h⟩:=cg h
    cases h
    have:=gR J
    have:=ea aa
    have:=ax _ _ _ _ au
    have:=ea bn
    simp only[ac.bI,ac.bB]
    omega
  ·simp only[iQ]at h
   obtain⟨y,bO,J,h⟩:=cg h
   obtain⟨b,b4,aa,h⟩:=cg h
   have:=ax _ _ _ _ J
   have:=i1 _ _ _ aa
   split at h
   ·rename_i aw
    have:=eZ aw
    split at h
    ·rename_i bL
     have:=eZ bL
     obtain⟨z,cJ,au,h⟩:=cg h
     cases h
     have:=i4 _ _ _ au
     simp only[ac.bI,ac.bB]
     omega
    ·obtain⟨z,cJ,au,h⟩:=cg h
     cases h
     have:=i1 _ _ _ au
     simp only[ac.bI,ac.bB]
     omega
   ·cases h
    simp only[ac.bI,ac.bB]
    omega
theorem N7: ∀ {n:Nat}{acc:List (List UInt8)}{l r:List ba}{a:List (List UInt8)},lm en n acc l= .ok a r→a.length+r.length≤acc.length+l.length
 |0,_,_,_,_,h=>by cases h
 |n+1,acc,l,r,a,h=>by
  simp only[lm]at h
  split at h
  ·rename_i aw
   obtain⟨w,bO,J,h⟩:=cg h
   have:=eZ aw
   have:=gR J
   have aa:=N7 h
   simp only[List.length_append,List.length_cons,List.length_nil]at aa
   omega
  ·cases h
   exact Nat.le_refl _
theorem NZ: ∀ {n:Nat}{acc:List ad}{l r:List ba}{a:List ad},ll en n acc l= .ok a r→ad.bB a+r.length≤ad.bB acc+l.length
 |0,_,_,_,_,h=>by cases h
 |n+1,acc,l,r,a,h=>by
  simp only[ll]at h
  split at h
  ·rename_i aw
   obtain⟨w,bO,J,h⟩:=cg h
   have:=eZ aw
   have:=(zr n).2.1 _ _ _ _ J
   have aa:=NZ h
   rw[ad.u1]at aa
   simp only[ad.bB]at aa
   omega
  ·cases h
   exact Nat.le_refl _
def CN (h:cd) (K:Nat):Prop:=ac.bB h.body≤K∧h.ps.length≤K
def CP (o:ca) (K:Nat):Prop:=ad.bB o.args≤K∧ad.bB o.dT≤K
theorem am6 {n:Nat}{l r:List ba}{a:cd}(h:nk en n l= .ok a r):CN a l.length:=by
 unfold nk at h
 obtain⟨m,bO,J,h⟩:=cg h
 obtain⟨_,b4,aa,h⟩:=cg h
 obtain⟨ps,cJ,au,h⟩:=cg h
 obtain⟨_,fk,bn,h⟩:=cg h
 obtain⟨p,jQ,bL,h⟩:=cg h
 obtain⟨b,oz,cq,h⟩:=cg h
 cases h
 have:=uE J
 have:=ea aa
 have:=N6 au
 have:=ea bn
 have:=gR bL
 have:=(Ol n).1 _ _ _ cq
 refine⟨by show ac.bB b≤ _; omega,?_⟩
 show ps.length≤ _
 unfold nn at au
 split at au
 ·cases au; simp
 ·obtain⟨w,cI,bC,au⟩:=cg au
  obtain⟨im,c8,bA,au⟩:=cg au
  obtain⟨_,ep,cO,au⟩:=cg au
  cases au
  have:=gR bC
  have fC:=N7 bA
  simp only[List.length_cons,List.length_nil]at fC
  omega
theorem an4 {n:Nat}{l r:List ba}{a:ca}(h:nl en n l= .ok a r):CP a l.length:=by
 unfold nl at h
 obtain⟨m,bO,J,h⟩:=cg h
 obtain⟨_,b4,aa,h⟩:=cg h
 obtain⟨xs,cJ,au,h⟩:=cg h
 obtain⟨_,fk,bn,h⟩:=cg h
 obtain⟨p,jQ,bL,h⟩:=cg h
 obtain⟨w,oz,cq,h⟩:=cg h
 obtain⟨_,Ra,j0,h⟩:=cg h
 cases h
 have:=uE J
 have:=ea aa
 have:=NY au
 have:=ea bn
 have:=gR bL
 refine⟨?_,?_⟩
 ·show ad.bB xs≤ _
  unfold nj at au
  split at au
  ·cases au; simp [ad.bB]
  ·obtain⟨w,cI,bC,au⟩:=cg au
   obtain⟨im,c8,bA,au⟩:=cg au
   obtain⟨_,ep,cO,au⟩:=cg au
   cases au
   have:=(zr n).2.1 _ _ _ _ bC
   have fC:=NZ bA
   simp only[ad.bB]at fC
   omega
 ·show ad.bB w≤ _
  unfold ox at cq
  split at cq
  ·rename_i aw
   obtain⟨w,cI,bC,cq⟩:=cg cq
   cases cq
   have:=eZ aw
   have:=(zr n).2.1 _ _ _ _ bC
   simp only[ad.bB]
   omega
  ·cases cq; simp [ad.bB]
theorem Ou (n:Nat): ∀ {m:Nat}{acc:List cb}{l r:List ba}{a:List cb},lp en n m acc l= .ok a r→a.length≤acc.length+l.length
 |0,_,_,_,_,h=>by cases h
 |m+1,s,l,r,a,h=>by
  simp only[lp]at h
  split at h
  ·rename_i aw
   obtain⟨w,bO,J,h⟩:=cg h
   have:=eZ aw
   have:=BV J
   have aa:=Ou n h
   simp only[List.length_append,List.length_cons,List.length_nil]at aa
   omega
  ·cases h
   omega
theorem E2 (n K:Nat): ∀ {m:Nat}{ap:List cd}{os:List ca}{l r:List ba}{p:List cd×List ca},ln en n m ap os l= .ok p r→l.length≤K→(∀h∈ap,CN h K)→(∀o∈os,CP o K)→(∀h∈p.1,CN h K)∧(∀o∈p.2,CP o K)∧p.1.length+p.2.length≤ap.length+os.length+l.length
 |0,_,_,_,_,_,h,_,_,_=>by cases h
 |m+1,ap,os,l,r,p,h,dv,eD,qC=>by
  simp only[ln]at h
  split at h
  ·cases h
   exact⟨eD,qC,by show ap.length+os.length≤ _; omega⟩
  split at h
  ·rename_i aw
   obtain⟨x,bO,J,h⟩:=cg h
   have:=eZ aw
   have aa:=am6 J
   have:=EZ J
   obtain⟨g1,g2,g3⟩:=E2 n K h (by omega) (fun y aZ=>by
    rcases List.mem_append.1 aZ with aZ|aZ
    ·exact eD y aZ
    ·rw[List.mem_singleton.1 aZ]
     exact⟨by have:=aa.1; omega,by have:=aa.2; omega⟩) qC
   exact⟨g1,g2,by simp only[List.length_append,List.length_cons,List.length_nil]at g3; omega⟩
  ·obtain⟨_,bO,J,h⟩:=cg h
   obtain⟨x,b4,aa,h⟩:=cg h
   have:=ea J
   have au:=an4 aa
   have:=E0 aa
   obtain⟨g1,g2,g3⟩:=E2 n K h (by omega) eD (fun y aZ=>by
    rcases List.mem_append.1 aZ with aZ|aZ
    ·exact qC y aZ
    ·rw[List.mem_singleton.1 aZ]
     exact⟨by have:=au.1; omega,by have:=au.2; omega⟩)
   exact⟨g1,g2,by simp only[List.length_append,List.length_cons,List.length_nil]at g3; omega⟩
theorem Oo {n:Nat}{l r:List ba}{x:e9}(h:lo en n l= .ok x r) (aH:l.length≤10000):oI x:=by
 unfold lo at h
 obtain⟨_,bO,J,h⟩:=cg h
 obtain⟨a,b4,aa,h⟩:=cg h
 obtain⟨_,cJ,au,h⟩:=cg h
 obtain⟨b,fk,bn,h⟩:=cg h
 obtain⟨_,jQ,bL,h⟩:=cg h
 obtain⟨c,oz,cq,h⟩:=cg h
 obtain⟨_,Ra,j0,h⟩:=cg h
 obtain⟨ay,aR8,j7,h⟩:=cg h
 obtain⟨p,Rs,rN,h⟩:=cg h
 have:=ea J
 have:=gR aa
 have:=ea au
 have:=gR bn
 have:=ea bL
 have:=gR cq
 have:=ea j0
 have:=Fb n j7
 have bC:=Ou n j7
 obtain⟨g1,g2,g3⟩:=E2 n 10000 rN (by omega) (fun _ h=>by cases h) (fun _ h=>by cases h)
 simp only[List.length_nil]at bC g3
 cases Rs with
 |cons t Rs=>cases h
 |nil=>
  cases h
  exact⟨fun h hm=>(g1 h hm).1,fun h hm=>by have:=(g1 h hm).2; omega,fun o hm=>g2 o hm,by show ay.length≤ _; omega,by show p.1.length≤ _; omega,by show p.2.length≤ _; omega⟩
end
theorem MJ (N:Nat): ∀(n:Nat) (acc:List ba) (x:List UInt8) (l:List ba),qQ N n acc x= .ok l→l.length≤acc.length+n
 |0,acc,x,l,h=>by simp only[qQ]at h; cases h; omega
 |n+1,acc,x,l,h=>by
  rw[uw]at h
  cases aZ:ko (x.length+1) x with
  |nil=>rw[aZ]at h; simp only[lexB]at h; cases h; omega
  |cons c y=>
   rw[aZ]at h
   simp only[lexB]at h
   cases aO:l9 (c::y) with
   |err e=>rw[aO]at h; cases h
   |ok t r=>
    rw[aO]at h
    have:=MJ N n _ r l h
    simp only[List.length_append,List.length_cons,List.length_nil]at this
    omega
theorem MH {s:List UInt8}{l:List ba}(h:pV s= .ok l):s.length≤8000∧l.length≤8001:=by
 unfold pV at h
 split at h
 ·cases h
 ·rename_i j7
  have:=MJ _ _ _ _ _ h
  simp only[List.length_nil]at this
  omega
def zH:e9:=⟨[],[],[],[],[],[]⟩
def BX (en:Int) (l:List ba):e9×Int×Int:=match lo en (3*l.length+2) l with
 | .ok x _=>if kJ x=true then (x,0,0) else (zH,0,6)
 | .err p e=>(zH,p,e)
 | .out=>(zH,0,0)
def tb (s:List UInt8):e9×Int×Int:=match pV s with
 | .ok l=>BX s.length l
 | .err p e=>(zH,p,e)
def xA (q:e9×Int×Int):I:= .di [q.1.ir,.int .i64 q.2.1,.int .i64 q.2.2]
end Go.bc
namespace Go.bc.T.N
open Go Go.bc Go.Proofs Go.RowKit
set_option maxRecDepth 100000
attribute [local irreducible] Go.bc.aj Go.bc.ae Go.bc.bz
section
attribute [local go_sem] ad.ct ad.b9 ad.de ac.ct ac.b9 ac.de cj eN fZ gJ dp of_flat cb.row dG fG oC fz mV
theorem MI (N:Nat): ∀(n:Nat) (acc:List ba) (x:List UInt8) (p e:Int),qQ N n acc x= .err p e→e≠0
 |0,acc,x,p,e,h=>by simp only[qQ]at h; cases h
 |n+1,acc,x,p,e,h=>by
  rw[uw]at h
  cases aZ:ko (x.length+1) x with
  |nil=>rw[aZ]at h; simp only[lexB]at h; cases h
  |cons c y=>
   rw[aZ]at h
   simp only[lexB]at h
   cases aO:l9 (c::y) with
   |err cC=>rw[aO]at h; cases h; exact Sa aO
   |ok t r=>
    rw[aO]at h
    exact MI N n _ r p e h
theorem ah0 {s:List UInt8}{p e:Int}(h:pV s= .err p e):e≠0:=by
 unfold pV at h
 split at h
 ·cases h; decide
 ·exact MI _ _ _ _ _ _ h
theorem GP:qi [.str [],.str [],.str [],.aV,.aV,.aV] [.str [],.str [],.str [],.ay 7 [],.ay 4 [],.ay 4 []]:= .cons (.av rfl rfl) (.cons (.av rfl rfl) (.cons (.av rfl rfl) (.cons .nil (.cons .nil (.cons .nil .nil)))))
theorem aI3 (x:e9):kC (.agg [.str x.name,.str x.hD,.str x.hA,.ay 7 (x.vars.map cb.row),.ay 4 (x.ap.map cd.row),.ay 4 (x.os.map ca.row)]) x.ir:= .av rfl (by simp only[lq,I.flat,b3,dG,dp,of_flat,Bool.and_self])
theorem Fo (s:a7) (ap:s.length≤1000000):Pure Tryz.prog 12 [.str s] (xA (tb s)):=by
 have ry:=aw8 s ap
 obtain⟨R,an⟩: ∃R,R=tb s:=⟨_,rfl⟩
 rw[←an]
 have yU:(xA R).flat=true:=by simp only[xA,lq,I.flat,b3,dG,dp,of_flat,Bool.and_self]
 refine cF bN Tryz.func12 Dc rfl yU ?_
 unfold tb at an
 cases uj:pV s with
 |err p e=>
  have dw: ¬e=0:=ah0 uj
  rw[uj]at ry an
  simp only[BH]at ry
  simp only at an
  unfold pI Cc
  simp(disch:=omega)only[go_sem,simprocAttr]
  refine ao ?_
  refine D.P (ry) ?_
  (have al:=dw;refine bQ ?_;clear al)
  refine D.r ?_
  rw[an]
  exact⟨_,rfl,.di (.cons (.agg GP) (.cons (.av rfl rfl) (.cons (.av rfl rfl) .nil))),trivial,trivial⟩
 |ok l=>
  obtain⟨aQ6,j9⟩:=MH uj
  have ck:=Oq (en:=(s.length:Int)) (n:=3*l.length+2) (l:=l) (Nat.le_refl _)
  have rz:=aw9 (3*l.length+2) l (s.length:Int) (by omega) ck
  rw[uj]at ry an
  simp only[BH]at ry
  simp only[BX]at an
  cases fV:lo (s.length:Int) (3*l.length+2) l with
  |out=>exact absurd fV ck
  |err p e=>
   rw[fV]at rz an
   simp only[k7]at rz
   simp only at an
   unfold pI Cc
   simp(disch:=omega)only[go_sem,simprocAttr]
   refine ao ?_
   refine D.P (ry) ?_
   refine ao ?_
   refine aj.IB (cap:=[.t 2,.t 3,.t 4]) (Qp:=fun cY c1=>cY=og p e∧c1.H.aU 0=some (27,z31)∧c1.H.aU 1=some (3,[.int .i64 0])∧c1.H.aU 2=some (28,[.int .i64 0])) (kt:=[(2,.ptr 0 0),(3,.ptr 1 0),(4,.ptr 2 0)]) ?_ ?_ ?_ ?_ (fun gr h=>Ii gr h) rfl ?_ ?_
   ·intro q bG
    simp only[List.mem_cons,List.not_mem_nil,or_false]at bG
    rcases bG with rfl|rfl|rfl<;>rfl
   ·intro q bG
    simp only[List.mem_cons,List.not_mem_nil,or_false]at bG
    rcases bG with rfl|rfl|rfl<;>decide
   ·intro q bG
    simp only[List.mem_cons,List.not_mem_nil,or_false]at bG
    rcases bG with rfl|rfl|rfl<;>rfl
   ·kernel_rfl
   ·rintro cY c1 ⟨rfl,aw,J,aa⟩
    refine wq.mono (WA aw rfl J aa) ?_
    rintro c2 rfl
    rw[an]
    refine⟨.di [.agg z31,.int .i64 p,.int .i64 e],?_,⟨_,rfl,.di (.cons (.agg GP) (.cons (.av rfl rfl) (.cons (.av rfl rfl) .nil))),trivial,trivial⟩⟩
    simp [oa,tT,tU,Env.get,a1.ch,aA.ch,n9]
    rfl
   simp(disch:=omega)only[go_sem,simprocAttr]
   refine ao ?_
   refine D.S3 ⟨[3],[]⟩ rz ⟨rfl,?_,?_,?_⟩
   all_goals (rw[zn]; rfl)
  |ok x r=>
   have hb:=Oo fV (by omega)
   have oQ:=B5 x hb
   rw[fV]at rz an
   simp only[k7]at rz
   simp only at an
   rw[show A7 x= .agg [.str x.name,.str x.hD,.str x.hA,.ay 7 (x.vars.map cb.row),.ay 4 (x.ap.map cd.row),.ay 4 (x.os.map ca.row)] from rfl]at rz
   rw[lq]at oQ
   unfold pI Cc
   simp(disch:=omega)only[go_sem,simprocAttr]
   refine ao ?_
   refine D.P (ry) ?_
   refine ao ?_
   refine aj.IB (cap:=[.t 2,.t 3,.t 4]) (Qp:=fun _ _=>False) (kt:=[]) (fun q bG=>by cases bG) (fun q bG=>by cases bG) (fun q bG=>by cases bG) ?_ (fun gr h=>Ii gr h) rfl (fun _ _ h=>h.elim) ?_
   ·kernel_rfl
   simp(disch:=omega)only[go_sem,simprocAttr]
   refine ao ?_
   refine D.F ⟨[3],[]⟩ (rz) ?_
   refine ao ?_
   refine D.P (oQ) ?_
   cases aY:kJ x
   ·rw[if_neg (by rw[aY]; decide)]at an
    refine ao ?_
    refine D.r ?_
    rw[an]
    exact⟨_,rfl,.di (.cons (.agg GP) (.cons (.av rfl rfl) (.cons (.av rfl rfl) .nil))),trivial,trivial⟩
   ·rw[if_pos aY]at an
    refine ao ?_
    refine D.r ?_
    rw[an]
    exact⟨_,rfl,.di (.cons (aI3 x) (.cons (.av rfl rfl) (.cons (.av rfl rfl) .nil))),trivial,trivial⟩
end
section
attribute [local go_sem] ad.ct ac.ct ad.b9 ac.b9 cj eN fZ gJ dp of_flat
theorem Bc: ∀(N:Nat) (l:List ad),ad.bB l≤N→N≤1000000000→Pure Tryz.prog 44 [.ay 6 (l.map ad.row)] (.ay 6 (l.map ad.row))
 |N,l,bW,rO=>by
  have ek:l.length*88≤140737488355328:=by have:=ad.hZ l; omega
  refine cF bN Tryz.func44 Vv (by simp only[b3,I.flat,ad.b9,Bool.and_self]) (by simp only[b3,I.flat,ad.b9,Bool.and_self]) ?_
  unfold Kd QU
  simp(disch:=omega)only[go_sem,simprocAttr]
  refine aj.seq ?_
  refine aj.b6 ?_
  refine bK ?_
  refine aj.seq ?_
  refine aj.b6 ?_
  refine bK ?_
  refine aj.rL 3 6 51 rfl (by decide) ?_
  simp(disch:=omega)only[go_sem,simprocAttr]
  refine ao ?_
  refine aj.dd (X:=Nat) 0 (fun i=>[(0,.ay 6 (l.map ad.row)),(3,.own 0 6 ((l.take i).map ad.row)),(4,.int .i64 (i:Int))]) (fun _=>[]) (fun i=>[(0,.bJ 51 6 ((l.take i).map ad.row).length)]) (fun i=>i≤l.length) (fun i=>l.length-i) (Nat.zero_le _) ⟨rfl,rfl,rfl,trivial⟩ trivial ⟨rfl,trivial⟩ ?_
  intro i ai
  try simp only at ai ⊢
  cases af:l[i]? with
  |some v=>
   have cK:=(List.getElem?_eq_some_iff.1 af).1
   have hm:=ad.lh af
   have ev:=zx ad.row af
   have hlen:(l.take i).length=i:=by simp; omega
   obtain⟨k,o,m,t,n,a⟩:=v
   simp only[ad.ct]at ev
   have d1:(i:Int)<((l.map ad.row).length:Int):=by rw[List.length_map]; omega
   match N,bW with
   |0,bW=>simp only[ad.bI]at hm; omega
   |N+1,bW=>
   simp only[ad.bI]at hm
   have ar:=Bc N a (by omega) (by omega)
   (have al:=d1;refine pu ?_;clear al)
   refine aj.block ?_
   refine aj.seq ?_
   refine aj.b6 ?_
   refine bK ?_
   refine aj.fs (anns:=[.ay 6 (a.map ad.row)]) ?_
   refine bK ?_
   refine D.df ar ?_
   refine bK ?_
   refine D.gL ?_
   refine ao ?_
   refine aj.gT (i+1) (by omega) ⟨rfl,by simp only[ev]; rfl,rfl,trivial⟩ trivial ⟨by simp only[ev,List.length_append]; rfl,trivial⟩ rfl (by simp only[fY,dr,dP,dV,fO,I.cR,b2.bJ,go_sem]<;>rfl) (by show l.length-(i+1)<l.length-i; omega)
  |none=>
   have cM:=List.getElem?_eq_none_iff.1 af
   have e:i=l.length:=by omega
   subst e
   have d1: ¬(l.length:Int)<((l.map ad.row).length:Int):=by rw[List.length_map]; omega
   simp only[List.take_length]
   (have al:=d1;refine bQ ?_;clear al)
   refine D.r ?_
   exact⟨_,rfl,.av rfl (by simp only[I.flat,ad.b9]),trivial,trivial⟩
theorem Fy: ∀(N:Nat) (l:List ac),ac.bB l≤N→N≤100000000→Pure Tryz.prog 43 [.ay 11 (l.map ac.row)] (.ay 11 (l.map ac.row))
 |N,l,bW,rO=>by
  have ek:l.length*168≤140737488355328:=by have:=ac.hZ l; omega
  refine cF bN Tryz.func43 Vu (by simp only[b3,I.flat,ac.b9,Bool.and_self]) (by simp only[b3,I.flat,ac.b9,Bool.and_self]) ?_
  unfold Kc QT
  simp(disch:=omega)only[go_sem,simprocAttr]
  refine aj.seq ?_
  refine aj.b6 ?_
  refine bK ?_
  refine aj.seq ?_
  refine aj.b6 ?_
  refine bK ?_
  refine aj.rL 3 11 165 rfl (by decide) ?_
  simp(disch:=omega)only[go_sem,simprocAttr]
  refine ao ?_
  refine aj.dd (X:=Nat) 0 (fun i=>[(0,.ay 11 (l.map ac.row)),(3,.own 0 11 ((l.take i).map ac.row)),(4,.int .i64 (i:Int))]) (fun _=>[]) (fun i=>[(0,.bJ 165 11 ((l.take i).map ac.row).length)]) (fun i=>i≤l.length) (fun i=>l.length-i) (Nat.zero_le _) ⟨rfl,rfl,rfl,trivial⟩ trivial ⟨rfl,trivial⟩ ?_
  intro i ai
  try simp only at ai ⊢
  cases af:l[i]? with
  |some v=>
   have cK:=(List.getElem?_eq_some_iff.1 af).1
   have hm:=ac.lh af
   have ev:=zx ac.row af
   have hlen:(l.take i).length=i:=by simp; omega
   obtain⟨k,m,x,t,a,b⟩:=v
   have aQ8:x.bI≤N:=by simp only[ac.bI]at hm; omega
   have bE:Pure Tryz.prog 44 [.ay 6 [x.row]] (.ay 6 [x.row]):=Bc x.bI [x] (by simp [ad.bB]) (by omega)
   obtain⟨bA,gv,m2,t2,mA,dZ⟩:=x
   simp only[ac.ct,ad.ct,List.cons_append,List.nil_append]at ev
   simp(disch:=omega)only[go_sem,simprocAttr]at bE
   have d1:(i:Int)<((l.map ac.row).length:Int):=by rw[List.length_map]; omega
   match N,bW with
   |0,bW=>simp only[ac.bI]at hm; omega
   |N+1,bW=>
   simp only[ac.bI]at hm
   have ar:=Fy N a (by omega) (by omega)
   have ax:=Fy N b (by omega) (by omega)
   (have al:=d1;refine pu ?_;clear al)
   refine aj.block ?_
   refine aj.seq ?_
   refine aj.b6 ?_
   refine bK ?_
   refine aj.fs (anns:=[.ay 6 [[.int .i64 bA,.str gv,.str m2,.str t2,.int .i64 mA,.ay 6 (dZ.map ad.row)]],.ay 11 (a.map ac.row),.ay 11 (b.map ac.row)]) ?_
   refine bK ?_
   refine D.df bE ?_
   refine bK ?_
   refine D.df ar ?_
   refine bK ?_
   refine D.df ax ?_
   refine bK ?_
   refine D.gL ?_
   refine ao ?_
   refine aj.gT (i+1) (by omega) ⟨rfl,by simp only[ev]; rfl,rfl,trivial⟩ trivial ⟨by simp only[ev,List.length_append]; rfl,trivial⟩ rfl (by simp only[fY,dr,dP,dV,fO,I.cR,b2.bJ,go_sem]<;>rfl) (by show l.length-(i+1)<l.length-i; omega)
  |none=>
   have cM:=List.getElem?_eq_none_iff.1 af
   have e:i=l.length:=by omega
   subst e
   have d1: ¬(l.length:Int)<((l.map ac.row).length:Int):=by rw[List.length_map]; omega
   simp only[List.take_length]
   (have al:=d1;refine bQ ?_;clear al)
   refine D.r ?_
   exact⟨_,rfl,.av rfl (by simp only[I.flat,ac.b9]),trivial,trivial⟩
attribute [local go_sem] cb.row dG fG mV
abbrev zI:List I:=[.str [],.str [],.str [],.aV,.aV,.aV]
set_option maxHeartbeats 4000000 in
theorem at5 (x:e9) (ab:oI x):Pure Tryz.prog 15 [x.ir] x.ir:=by
 have aM:=ab.nS
 have dZ:=ab.nh
 have o2:=ab.no
 rw[lq]
 refine cF bN Tryz.func15 U0 (by simp only[b3,I.flat,dG,dp,of_flat,Bool.and_self]) (by simp only[b3,I.flat,dG,dp,of_flat,Bool.and_self]) ?_
 unfold Am Qr
 simp(disch:=omega)only[go_sem,simprocAttr]
 refine aj.seq ?_
 refine aj.b6 ?_
 refine bK ?_
 refine aj.seq ?_
 refine aj.b6 ?_
 refine bK ?_
 refine aj.oU 2 3 7 95 rfl rfl (by decide) ?_
 simp(disch:=omega)only[go_sem,simprocAttr]
 refine aj.oU 2 4 4 99 rfl rfl (by decide) ?_
 simp(disch:=omega)only[go_sem,simprocAttr]
 refine aj.oU 2 5 4 66 rfl rfl (by decide) ?_
 simp(disch:=omega)only[go_sem,simprocAttr]
 refine ao ?_
 refine aj.dd (X:=Nat) 0 (fun i=>[(1,.ptr 0 0),(2,.ptr 1 0),(3,.ptr 2 0),(4,.int .i64 (i:Int))]) (fun i=>[(0,27,x.cells),(1,35,zI),(2,35,[.str x.name,.str x.hD,.str x.hA,.own 0 7 ((x.vars.take i).map cb.row),.own 1 4 (([]:List cd).map cd.row),.own 2 4 (([]:List ca).map ca.row)])]) (fun i=>[(0,.bJ 95 7 ((x.vars.take i).map cb.row).length),(1,.bJ 99 4 (([]:List cd).map cd.row).length),(2,.bJ 66 4 (([]:List ca).map ca.row).length)]) (fun i=>i≤x.vars.length) (fun i=>x.vars.length-i) (Nat.zero_le _) ⟨rfl,rfl,rfl,rfl,trivial⟩ ⟨rfl,rfl,rfl,trivial⟩ ⟨rfl,rfl,rfl,trivial⟩ ?_
 intro i ai
 try simp only at ai ⊢
 cases af:x.vars[i]? with
 |some v=>
  have cK:=(List.getElem?_eq_some_iff.1 af).1
  have hlen:(x.vars.take i).length=i:=by simp; omega
  have ev:=zx cb.row af
  have d1:(i:Int)<((x.vars.map cb.row).length:Int):=by rw[List.length_map]; omega
  (have al:=d1;refine bQ ?_;clear al)
  refine D.gL ?_
  refine ao ?_
  refine aj.dK (i+1) (by omega) ⟨rfl,rfl,rfl,rfl,trivial⟩ (by refine⟨rfl,rfl,?_,trivial⟩; simp only[ev]; rfl) (by refine⟨?_,rfl,rfl,trivial⟩; simp only[ev,List.length_append]; rfl) rfl rfl (by show x.vars.length-(i+1)<x.vars.length-i; omega)
 |none=>
 have cM:=List.getElem?_eq_none_iff.1 af
 have e:i=x.vars.length:=by omega
 subst e
 have d1: ¬(x.vars.length:Int)<((x.vars.map cb.row).length:Int):=by rw[List.length_map]; omega
 simp only[List.take_length]
 clear ai af cM
 (have al:=d1;refine bQ ?_;clear al)
 refine aj.dd (X:=Nat) 0 (fun i=>[(1,.ptr 0 0),(2,.ptr 1 0),(3,.ptr 2 0),(5,.int .i64 (i:Int))]) (fun i=>[(0,27,x.cells),(1,35,zI),(2,35,[.str x.name,.str x.hD,.str x.hA,.own 0 7 (x.vars.map cb.row),.own 1 4 ((x.ap.take i).map cd.row),.own 2 4 (([]:List ca).map ca.row)])]) (fun i=>[(0,.bJ 95 7 (x.vars.map cb.row).length),(1,.bJ 99 4 ((x.ap.take i).map cd.row).length),(2,.bJ 66 4 (([]:List ca).map ca.row).length)]) (fun i=>i≤x.ap.length) (fun i=>x.ap.length-i) (Nat.zero_le _) ⟨rfl,rfl,rfl,rfl,trivial⟩ ⟨rfl,rfl,rfl,trivial⟩ ⟨rfl,rfl,rfl,trivial⟩ ?_
 intro i ai
 try simp only at ai ⊢
 cases af:x.ap[i]? with
 |some v=>
  have cK:=(List.getElem?_eq_some_iff.1 af).1
  have hlen:(x.ap.take i).length=i:=by simp; omega
  have ev:=zx cd.row af
  have d1:(i:Int)<((x.ap.map cd.row).length:Int):=by rw[List.length_map]; omega
  have ar:=Fy (ac.bB v.body) v.body (Nat.le_refl _) (by have:=ab.aP v (List.mem_of_getElem? af); omega)
  simp only[fZ]at ev
  (have al:=d1;refine pu ?_;clear al)
  refine aj.block ?_
  refine aj.seq ?_
  refine aj.b6 ?_
  refine bK ?_
  refine aj.fs (anns:=[.ay 11 (v.body.map ac.row)]) ?_
  refine bK ?_
  refine D.df ar ?_
  refine bK ?_
  refine D.gL ?_
  refine ao ?_
  refine aj.gT (i+1) (by omega) ⟨rfl,rfl,rfl,rfl,trivial⟩ (by refine⟨rfl,rfl,?_,trivial⟩; simp only[ev]; rfl) (by refine⟨rfl,?_,rfl,trivial⟩; simp only[ev,List.length_append]; rfl) rfl (by simp only[fG,zI,fY,dr,dP,dV,fO,I.cR,b2.bJ,dG,dp,of_flat,go_sem]<;>rfl) (by show x.ap.length-(i+1)<x.ap.length-i; omega)
 |none=>
 have cM:=List.getElem?_eq_none_iff.1 af
 have e:i=x.ap.length:=by omega
 subst e
 have d1: ¬(x.ap.length:Int)<((x.ap.map cd.row).length:Int):=by rw[List.length_map]; omega
 simp only[List.take_length]
 clear ai af cM
 (have al:=d1;refine bQ ?_;clear al)
 refine aj.dd (X:=Nat) 0 (fun i=>[(1,.ptr 0 0),(2,.ptr 1 0),(3,.ptr 2 0),(7,.int .i64 (i:Int))]) (fun i=>[(0,27,x.cells),(1,35,zI),(2,35,[.str x.name,.str x.hD,.str x.hA,.own 0 7 (x.vars.map cb.row),.own 1 4 (x.ap.map cd.row),.own 2 4 ((x.os.take i).map ca.row)])]) (fun i=>[(0,.bJ 95 7 (x.vars.map cb.row).length),(1,.bJ 99 4 (x.ap.map cd.row).length),(2,.bJ 66 4 ((x.os.take i).map ca.row).length)]) (fun i=>i≤x.os.length) (fun i=>x.os.length-i) (Nat.zero_le _) ⟨rfl,rfl,rfl,rfl,trivial⟩ ⟨rfl,rfl,rfl,trivial⟩ ⟨rfl,rfl,rfl,trivial⟩ ?_
 intro i ai
 try simp only at ai ⊢
 cases af:x.os[i]? with
 |some v=>
  have cK:=(List.getElem?_eq_some_iff.1 af).1
  have hlen:(x.os.take i).length=i:=by simp; omega
  have ev:=zx ca.row af
  have d1:(i:Int)<((x.os.map ca.row).length:Int):=by rw[List.length_map]; omega
  have ar:=Bc (ad.bB v.args) v.args (Nat.le_refl _) (by have:=ab.o6 v (List.mem_of_getElem? af); omega)
  have ax:=Bc (ad.bB v.dT) v.dT (Nat.le_refl _) (by have:=ab.o6 v (List.mem_of_getElem? af); omega)
  simp only[gJ]at ev
  (have al:=d1;refine pu ?_;clear al)
  refine aj.block ?_
  refine aj.seq ?_
  refine aj.b6 ?_
  refine bK ?_
  refine aj.fs (anns:=[.ay 6 (v.args.map ad.row),.ay 6 (v.dT.map ad.row)]) ?_
  refine bK ?_
  refine D.df ar ?_
  refine bK ?_
  refine D.df ax ?_
  refine bK ?_
  refine D.gL ?_
  refine ao ?_
  refine aj.gT (i+1) (by omega) ⟨rfl,rfl,rfl,rfl,trivial⟩ (by refine⟨rfl,rfl,?_,trivial⟩; simp only[ev]; rfl) (by refine⟨rfl,rfl,?_,trivial⟩; simp only[ev,List.length_append]; rfl) rfl (by simp only[fG,zI,fY,dr,dP,dV,fO,I.cR,b2.bJ,dG,dp,of_flat,go_sem]<;>rfl) (by show x.os.length-(i+1)<x.os.length-i; omega)
 |none=>
 have cM:=List.getElem?_eq_none_iff.1 af
 have e:i=x.os.length:=by omega
 subst e
 have d1: ¬(x.os.length:Int)<((x.os.map ca.row).length:Int):=by rw[List.length_map]; omega
 simp only[List.take_length]
 clear ai af cM
 (have al:=d1;refine bQ ?_;clear al)
 refine D.r ?_
 refine⟨_,rfl,?_,trivial,trivial⟩
 exact .av rfl (by simp only[b3,I.flat,dG,dp,of_flat,Bool.and_self])
end
section
attribute [local go_sem] ad.ct ac.ct ad.b9 ac.b9 cj eN fZ gJ dp of_flat
attribute [local go_sem] cb.row dG fG mV
theorem B7: ∀(N:Nat) (a b:List ad),ad.bB a≤N→N≤1000000000→Pure Tryz.prog 42 [.ay 6 (a.map ad.row),.ay 6 (b.map ad.row)] (.bool (lW a b))
  |N,a,b,bW,rO=>by
   have ek:a.length≤1000000000:=by have:=ad.hZ a; omega
   rw[AY]
   refine cF bN Tryz.func42 Vs (by simp only[b3,I.flat,ad.b9,Bool.and_self]) rfl ?_
   unfold Kb QK
   simp(disch:=omega)only[go_sem,simprocAttr]
   by_cases mq:a.length=b.length
   rotate_left
   ·have d0: ¬(((a.map ad.row).length:Int)=((b.map ad.row).length:Int)):=by simp only[List.length_map]; omega
    (have al:=d0;refine bQ ?_;clear al)
    refine D.r ?_
    exact⟨_,rfl,.av (by rw[pK mq]; rfl) rfl,trivial,trivial⟩
   have d0:((a.map ad.row).length:Int)=((b.map ad.row).length:Int):=by simp only[List.length_map]; omega
   (have al:=d0;refine bQ ?_;clear al)
   refine aj.dd (X:=Nat) 0 (fun i=>[(0,.ay 6 (a.map ad.row)),(1,.ay 6 (b.map ad.row)),(5,.int .i64 (i:Int))]) (fun _=>[]) (fun _=>[]) (fun i=>i≤a.length∧eL nF (a.drop i) (b.drop i)=eL nF a b) (fun i=>a.length-i) ⟨Nat.zero_le _,rfl⟩ ⟨rfl,rfl,rfl,trivial⟩ trivial trivial ?_
   rintro i ⟨ai,aB⟩
   try simp only at ai aB ⊢
   cases af:a[i]? with
   |some v=>
    have cK:=(List.getElem?_eq_some_iff.1 af).1
    obtain⟨u,hu⟩: ∃u,b[i]? =some u:=⟨_,List.getElem?_eq_getElem (by omega)⟩
    rw[oT af hu]at aB
    have d1:(i:Int)<((a.map ad.row).length:Int):=by rw[List.length_map]; omega
    have d2:(i:Int)<((b.map ad.row).length:Int):=by rw[List.length_map]; omega
    have hm:=ad.lh af
    obtain⟨k,o,m,t,n,l⟩:=v
    obtain⟨bA,gv,m2,t2,mA,dZ⟩:=u
    match N,bW with
    |0,bW=>simp only[ad.bI]at hm; omega
    |N+1,bW=>
    simp only[ad.bI]at hm
    have ar:=B7 N l dZ (by omega) (by omega)
    simp only[nF]at aB
    generalize lW l dZ=cW at ar aB
    clear hm
    (repeat' first|(apply ae.s rfl;(·simp(disch:=omega)only[go_sem,simprocAttr,d1,d2]<;>with_reducible rfl))|(apply aj.s true true;(·simp(disch:=omega)only[go_sem,simprocAttr,d1,d2]<;>with_reducible rfl))|apply ae.nil|(refine aj.b6 ?_)|(apply ae.eX;(·simp(disch:=omega)only[go_sem,simprocAttr,d1,d2]<;>with_reducible rfl))|(apply ae.eY;(·rfl);(·simp(disch:=omega)only[go_sem,simprocAttr,d1,d2]<;>with_reducible rfl))|(apply ae.gs;(·simp(disch:=omega)only[go_sem,simprocAttr,d1,d2]<;>with_reducible rfl))|((first|apply ae.e3|apply ae.e4|apply ae.e5);(·simp(disch:=omega)only[go_sem,simprocAttr,d1,d2]<;>with_reducible rfl);(·simp(disch:=omega)only[go_sem,simprocAttr,d1,d2]<;>with_reducible rfl);(·assumption);(·omega))|intro h)
    all_goals first
      |(refine D.R ?_
        refine⟨_,rfl,.av ?_ rfl,trivial,trivial⟩
        rw[←aB]
        simp_all [I.av])
      |skip
    refine D.P (ar) ?_
    (repeat' first|refine D.S ?_|refine D.cN true true ?_|refine ae.nil ?_|refine aj.b6 ?_|refine D.W ?_|refine D.Z ?_|refine D.G ?_ ?_|refine D.X ‹_› ?_|refine D.eh ‹_› ?_|refine D.ei ‹_› ?_|intro h|refine D.C ?_ ?_)
    ·refine D.r ?_
     refine⟨_,rfl,.av ?_ rfl,trivial,trivial⟩
     rw[←aB]
     simp_all [I.av]
    ·refine aj.gT (i+1) ⟨by omega,?_⟩ ⟨rfl,rfl,rfl,trivial⟩ trivial trivial rfl (by simp only[fY,dr,dP,dV,fO,I.cR,b2.bJ,go_sem]<;>rfl) (by show a.length-(i+1)<a.length-i; omega)
     rw[←aB]
     simp_all
   |none=>
    have cM:=List.getElem?_eq_none_iff.1 af
    have bE:i=a.length:=by omega
    subst bE
    have d1: ¬(a.length:Int)<((a.map ad.row).length:Int):=by rw[List.length_map]; omega
    have d2: ¬(a.length:Int)<((b.map ad.row).length:Int):=by rw[List.length_map]; omega
    rw[pJ (Nat.le_refl _) (by omega)]at aB
    rw[←aB]
    (have al:=d1;have z2:=d2;refine e8 ?_;clear al z2)
    exact D.rx
theorem FH: ∀(N:Nat) (a b:List ac),ac.bB a≤N→N≤1000000000→Pure Tryz.prog 41 [.ay 11 (a.map ac.row),.ay 11 (b.map ac.row)] (.bool (mH a b))
  |N,a,b,bW,rO=>by
   have ek:a.length≤1000000000:=by have:=ac.hZ a; omega
   rw[Ct]
   refine cF bN Tryz.func41 Vj (by simp only[b3,I.flat,ac.b9,Bool.and_self]) rfl ?_
   unfold Ka QJ
   simp(disch:=omega)only[go_sem,simprocAttr]
   by_cases mq:a.length=b.length
   rotate_left
   ·have d0: ¬(((a.map ac.row).length:Int)=((b.map ac.row).length:Int)):=by simp only[List.length_map]; omega
    (have al:=d0;refine bQ ?_;clear al)
    refine D.r ?_
    exact⟨_,rfl,.av (by rw[pK mq]; rfl) rfl,trivial,trivial⟩
   have d0:((a.map ac.row).length:Int)=((b.map ac.row).length:Int):=by simp only[List.length_map]; omega
   (have al:=d0;refine bQ ?_;clear al)
   refine aj.dd (X:=Nat) 0 (fun i=>[(0,.ay 11 (a.map ac.row)),(1,.ay 11 (b.map ac.row)),(5,.int .i64 (i:Int))]) (fun _=>[]) (fun _=>[]) (fun i=>i≤a.length∧eL q3 (a.drop i) (b.drop i)=eL q3 a b) (fun i=>a.length-i) ⟨Nat.zero_le _,rfl⟩ ⟨rfl,rfl,rfl,trivial⟩ trivial trivial ?_
   rintro i ⟨ai,aB⟩
   try simp only at ai aB ⊢
   cases af:a[i]? with
   |some v=>
    have cK:=(List.getElem?_eq_some_iff.1 af).1
    obtain⟨u,hu⟩: ∃u,b[i]? =some u:=⟨_,List.getElem?_eq_getElem (by omega)⟩
    rw[oT af hu]at aB
    have d1:(i:Int)<((a.map ac.row).length:Int):=by rw[List.length_map]; omega
    have d2:(i:Int)<((b.map ac.row).length:Int):=by rw[List.length_map]; omega
    have hm:=ac.lh af
    obtain⟨k,m,x,t,GM,GN⟩:=v
    obtain⟨bA,m2,rc,t2,tB,su⟩:=u
    match N,bW with
    |0,bW=>simp only[ac.bI]at hm; omega
    |N+1,bW=>
    simp only[ac.bI]at hm
    have bE:Pure Tryz.prog 42 [.ay 6 ([x].map ad.row),.ay 6 ([rc].map ad.row)] (.bool (lW [x] [rc])):=B7 (ad.bB [x]) [x] [rc] (Nat.le_refl _) (by simp only[ad.bB]; omega)
    have ar:=FH N GM tB (by omega) (by omega)
    have ax:=FH N GN su (by omega) (by omega)
    simp only[lW,Bool.and_true]at bE
    simp only[q3]at aB
    generalize nF x rc=hi at bE aB
    generalize mH GM tB=eB at ar aB
    generalize mH GN su=dU at ax aB
    clear hm
    obtain⟨ae4,o6,ah9,aI9,kk,qO⟩:=x
    obtain⟨EH,l5,ai1,pj,b7,af9⟩:=rc
    simp(disch:=omega)only[go_sem,simprocAttr]at bE
    (repeat' first|(apply ae.s rfl;(·simp(disch:=omega)only[go_sem,simprocAttr,d1,d2]<;>with_reducible rfl))|(apply aj.s true true;(·simp(disch:=omega)only[go_sem,simprocAttr,d1,d2]<;>with_reducible rfl))|apply ae.nil|(refine aj.b6 ?_)|(apply ae.eX;(·simp(disch:=omega)only[go_sem,simprocAttr,d1,d2]<;>with_reducible rfl))|(apply ae.eY;(·rfl);(·simp(disch:=omega)only[go_sem,simprocAttr,d1,d2]<;>with_reducible rfl))|(apply ae.gs;(·simp(disch:=omega)only[go_sem,simprocAttr,d1,d2]<;>with_reducible rfl))|((first|apply ae.e3|apply ae.e4|apply ae.e5);(·simp(disch:=omega)only[go_sem,simprocAttr,d1,d2]<;>with_reducible rfl);(·simp(disch:=omega)only[go_sem,simprocAttr,d1,d2]<;>with_reducible rfl);(·assumption);(·omega))|intro h)
    all_goals first
      |(refine D.R ?_
        refine⟨_,rfl,.av ?_ rfl,trivial,trivial⟩
        rw[←aB]
        simp_all [I.av])
      |skip
    refine D.P (bE) ?_
    (repeat' first|refine D.S ?_|refine D.cN true true ?_|refine ae.nil ?_|refine aj.b6 ?_|refine D.W ?_|refine D.Z ?_|refine D.G ?_ ?_|refine D.X ‹_› ?_|refine D.eh ‹_› ?_|refine D.ei ‹_› ?_|intro h)
    all_goals first
      |(refine D.R ?_
        refine⟨_,rfl,.av ?_ rfl,trivial,trivial⟩
        rw[←aB]
        simp_all [I.av])
      |skip
    refine D.P (ar) ?_
    (repeat' first|refine D.S ?_|refine D.cN true true ?_|refine ae.nil ?_|refine aj.b6 ?_|refine D.W ?_|refine D.Z ?_|refine D.G ?_ ?_|refine D.X ‹_› ?_|refine D.eh ‹_› ?_|refine D.ei ‹_› ?_|intro h)
    all_goals first
      |(refine D.R ?_
        refine⟨_,rfl,.av ?_ rfl,trivial,trivial⟩
        rw[←aB]
        simp_all [I.av])
      |skip
    refine D.P (ax) ?_
    (repeat' first|refine D.S ?_|refine D.cN true true ?_|refine ae.nil ?_|refine aj.b6 ?_|refine D.W ?_|refine D.Z ?_|refine D.G ?_ ?_|refine D.X ‹_› ?_|refine D.eh ‹_› ?_|refine D.ei ‹_› ?_|intro h|refine D.C ?_ ?_)
    ·refine D.r ?_
     refine⟨_,rfl,.av ?_ rfl,trivial,trivial⟩
     rw[←aB]
     simp_all [I.av]
    ·refine aj.gT (i+1) ⟨by omega,?_⟩ ⟨rfl,rfl,rfl,trivial⟩ trivial trivial rfl (by simp only[fY,dr,dP,dV,fO,I.cR,b2.bJ,go_sem]<;>rfl) (by show a.length-(i+1)<a.length-i; omega)
     rw[←aB]
     simp_all
   |none=>
    have cM:=List.getElem?_eq_none_iff.1 af
    have bE:i=a.length:=by omega
    subst bE
    have d1: ¬(a.length:Int)<((a.map ac.row).length:Int):=by rw[List.length_map]; omega
    have d2: ¬(a.length:Int)<((b.map ac.row).length:Int):=by rw[List.length_map]; omega
    rw[pJ (Nat.le_refl _) (by omega)]at aB
    rw[←aB]
    (have al:=d1;have z2:=d2;refine e8 ?_;clear al z2)
    exact D.rx
set_option maxHeartbeats 4000000 in
theorem ay5 (x y:e9) (ab:oI x):Pure Tryz.prog 14 [x.ir,y.ir] (.bool (xR x y)):=by
  have aM:=ab.nS
  have dZ:=ab.nh
  have o2:=ab.no
  replace aM:x.vars.length≤9223372036854775807:=by omega
  replace dZ:x.ap.length≤9223372036854775807:=by omega
  replace o2:x.os.length≤9223372036854775807:=by omega
  have mo:xR x y=(decide (x.name=y.name)&&(decide (x.hD=y.hD)&&(decide (x.hA=y.hA)&&(decide (x.vars=y.vars)&&(eL qE x.ap y.ap&&eL qT x.os y.os))))):=rfl
  have ol: ∃V,eL (fun a b=>decide (a=b)) x.vars y.vars=V:=⟨_,rfl⟩
  have eD: ∃V,eL qE x.ap y.ap=V:=⟨_,rfl⟩
  have qC: ∃V,eL qT x.os y.os=V:=⟨_,rfl⟩
  obtain⟨V,ol⟩:=ol
  obtain⟨H,eD⟩:=eD
  obtain⟨O,qC⟩:=qC
  have li:x.vars.length≠y.vars.length→V=false:=fun h=>by rw[←ol]; exact pK h
  have mA:x.ap.length≠y.ap.length→H=false:=fun h=>by rw[←eD]; exact pK h
  have MV:x.os.length≠y.os.length→O=false:=fun h=>by rw[←qC]; exact pK h
  rw[←yA x.vars y.vars,ol,eD,qC]at mo
  rw[mo]
  clear mo
  rw[lq,lq]
  refine cF bN Tryz.func14 UP (by simp only[b3,I.flat,dG,dp,of_flat,Bool.and_self]) rfl ?_
  unfold xz Qg
  simp(disch:=omega)only[go_sem,simprocAttr]
  (repeat' first|(apply ae.s rfl;(·simp(disch:=omega)only[go_sem,simprocAttr,List.length_map]<;>with_reducible rfl))|(apply aj.s true true;(·simp(disch:=omega)only[go_sem,simprocAttr,List.length_map]<;>with_reducible rfl))|apply ae.nil|(refine aj.b6 ?_)|(apply ae.eX;(·simp(disch:=omega)only[go_sem,simprocAttr,List.length_map]<;>with_reducible rfl))|(apply ae.eY;(·rfl);(·simp(disch:=omega)only[go_sem,simprocAttr,List.length_map]<;>with_reducible rfl))|(apply ae.gs;(·simp(disch:=omega)only[go_sem,simprocAttr,List.length_map]<;>with_reducible rfl))|((first|apply ae.e3|apply ae.e4|apply ae.e5);(·simp(disch:=omega)only[go_sem,simprocAttr,List.length_map]<;>with_reducible rfl);(·simp(disch:=omega)only[go_sem,simprocAttr,List.length_map]<;>with_reducible rfl);(·assumption);(·omega))|intro h|(apply aj.cond;(·simp(disch:=omega)only[go_sem,simprocAttr,List.length_map]<;>with_reducible rfl)))
  all_goals (simp only[decide_eq_true_eq,decide_eq_false_iff_not,Bool.not_eq_true',Bool.not_eq_false',Int.natCast_inj,Decidable.not_not,ne_eq]at*)
  all_goals first
    |(refine D.R ?_
      refine⟨_,rfl,.av ?_ rfl,trivial,trivial⟩
      simp_all [I.av])
    |skip
  refine aj.dd (X:=Nat) 0 (fun i=>[(2,.ptr 0 0),(3,.ptr 1 0),(5,.int .i64 (i:Int))]) (fun _=>[(0,35,x.cells),(1,35,y.cells)]) (fun _=>[]) (fun i=>i≤x.vars.length∧eL (fun a b=>decide (a=b)) (x.vars.drop i) (y.vars.drop i)=V) (fun i=>x.vars.length-i) ⟨Nat.zero_le _,ol⟩ ⟨rfl,rfl,rfl,trivial⟩ ⟨rfl,rfl,trivial⟩ trivial ?_
  rintro i ⟨ai,aB⟩
  try simp only at ai aB ⊢
  cases af:x.vars[i]? with
  |some v=>
   have cK:=(List.getElem?_eq_some_iff.1 af).1
   obtain⟨u,hu⟩: ∃u,y.vars[i]? =some u:=⟨_,List.getElem?_eq_getElem (by omega)⟩
   rw[oT af hu]at aB
   have d1:(i:Int)<((x.vars.map cb.row).length:Int):=by rw[List.length_map]; omega
   have d2:(i:Int)<((y.vars.map cb.row).length:Int):=by rw[List.length_map]; omega
   (repeat' first|(apply ae.s rfl;(·simp(disch:=omega)only[go_sem,simprocAttr,d1,d2]<;>with_reducible rfl))|(apply aj.s true true;(·simp(disch:=omega)only[go_sem,simprocAttr,d1,d2]<;>with_reducible rfl))|apply ae.nil|(refine aj.b6 ?_)|(apply ae.eX;(·simp(disch:=omega)only[go_sem,simprocAttr,d1,d2]<;>with_reducible rfl))|(apply ae.eY;(·rfl);(·simp(disch:=omega)only[go_sem,simprocAttr,d1,d2]<;>with_reducible rfl))|(apply ae.gs;(·simp(disch:=omega)only[go_sem,simprocAttr,d1,d2]<;>with_reducible rfl))|((first|apply ae.e3|apply ae.e4|apply ae.e5);(·simp(disch:=omega)only[go_sem,simprocAttr,d1,d2]<;>with_reducible rfl);(·simp(disch:=omega)only[go_sem,simprocAttr,d1,d2]<;>with_reducible rfl);(·assumption);(·omega))|intro h|(apply aj.cond;(·simp(disch:=omega)only[go_sem,simprocAttr,d1,d2]<;>with_reducible rfl)))
   ·refine D.r ?_
    refine⟨_,rfl,.av ?_ rfl,trivial,trivial⟩
    have dw: ¬v=u:=by rintro rfl; simp at h
    simp_all [I.av]
   ·refine aj.dK (i+1) ⟨by omega,?_⟩ ⟨rfl,rfl,rfl,trivial⟩ ⟨rfl,rfl,trivial⟩ trivial rfl rfl (by show x.vars.length-(i+1)<x.vars.length-i; omega)
    have qH:v=u:=by obtain⟨_,_,_,_,_,_,_⟩:=v; obtain⟨_,_,_,_,_,_,_⟩:=u; simp_all
    rw[←aB]
    simp [qH]
  |none=>
  have cM:=List.getElem?_eq_none_iff.1 af
  have bE:i=x.vars.length:=by omega
  subst bE
  have d1: ¬(x.vars.length:Int)<((x.vars.map cb.row).length:Int):=by rw[List.length_map]; omega
  rw[pJ (Nat.le_refl _) (by omega)]at aB
  subst aB
  clear ai af cM
  (have al:=d1;refine bQ ?_;clear al)
  refine aj.dd (X:=Nat) 0 (fun i=>[(2,.ptr 0 0),(3,.ptr 1 0),(6,.int .i64 (i:Int))]) (fun _=>[(0,35,x.cells),(1,35,y.cells)]) (fun _=>[]) (fun i=>i≤x.ap.length∧eL qE (x.ap.drop i) (y.ap.drop i)=H) (fun i=>x.ap.length-i) ⟨Nat.zero_le _,eD⟩ ⟨rfl,rfl,rfl,trivial⟩ ⟨rfl,rfl,trivial⟩ trivial ?_
  rintro i ⟨ai,aB⟩
  try simp only at ai aB ⊢
  cases af:x.ap[i]? with
  |some v=>
   have cK:=(List.getElem?_eq_some_iff.1 af).1
   obtain⟨u,hu⟩: ∃u,y.ap[i]? =some u:=⟨_,List.getElem?_eq_getElem (by omega)⟩
   rw[oT af hu]at aB
   have d1:(i:Int)<((x.ap.map cd.row).length:Int):=by rw[List.length_map]; omega
   have d2:(i:Int)<((y.ap.map cd.row).length:Int):=by rw[List.length_map]; omega
   have ar:=av4 v.ps u.ps (by have:=ab.hp v (List.mem_of_getElem? af); unfold maxLen; omega)
   have ax:=FH (ac.bB v.body) v.body u.body (Nat.le_refl _) (by have:=ab.aP v (List.mem_of_getElem? af); omega)
   simp only[qE]at aB
   generalize decide (v.ps=u.ps)=eB at ar aB
   generalize mH v.body u.body=dU at ax aB
   (repeat' first|(apply ae.s rfl;(·simp(disch:=omega)only[go_sem,simprocAttr,d1,d2]<;>with_reducible rfl))|(apply aj.s true true;(·simp(disch:=omega)only[go_sem,simprocAttr,d1,d2]<;>with_reducible rfl))|apply ae.nil|(refine aj.b6 ?_)|(apply ae.eX;(·simp(disch:=omega)only[go_sem,simprocAttr,d1,d2]<;>with_reducible rfl))|(apply ae.eY;(·rfl);(·simp(disch:=omega)only[go_sem,simprocAttr,d1,d2]<;>with_reducible rfl))|(apply ae.gs;(·simp(disch:=omega)only[go_sem,simprocAttr,d1,d2]<;>with_reducible rfl))|((first|apply ae.e3|apply ae.e4|apply ae.e5);(·simp(disch:=omega)only[go_sem,simprocAttr,d1,d2]<;>with_reducible rfl);(·simp(disch:=omega)only[go_sem,simprocAttr,d1,d2]<;>with_reducible rfl);(·assumption);(·omega))|intro h)
   all_goals first
     |(refine D.R ?_
       refine⟨_,rfl,.av ?_ rfl,trivial,trivial⟩
       simp_all [I.av])
     |skip
   refine D.P (ar) ?_
   (repeat' first|refine D.S ?_|refine D.cN true true ?_|refine ae.nil ?_|refine aj.b6 ?_|refine D.W ?_|refine D.Z ?_|refine D.G ?_ ?_|refine D.X ‹_› ?_|refine D.eh ‹_› ?_|refine D.ei ‹_› ?_|intro h)
   all_goals first
     |(refine D.R ?_
       refine⟨_,rfl,.av ?_ rfl,trivial,trivial⟩
       simp_all [I.av])
     |skip
   refine D.P (ax) ?_
   (repeat' first|refine D.S ?_|refine D.cN true true ?_|refine ae.nil ?_|refine aj.b6 ?_|refine D.W ?_|refine D.Z ?_|refine D.G ?_ ?_|refine D.X ‹_› ?_|refine D.eh ‹_› ?_|refine D.ei ‹_› ?_|intro h|refine D.C ?_ ?_)
   ·refine D.r ?_
    refine⟨_,rfl,.av ?_ rfl,trivial,trivial⟩
    simp_all [I.av]
   ·refine aj.gT (i+1) ⟨by omega,?_⟩ ⟨rfl,rfl,rfl,trivial⟩ ⟨rfl,rfl,trivial⟩ trivial rfl (by simp only[fG,fY,dr,dP,dV,fO,I.cR,b2.bJ,dG,dp,of_flat,go_sem]<;>rfl) (by show x.ap.length-(i+1)<x.ap.length-i; omega)
    rw[←aB]
    simp_all
  |none=>
  have cM:=List.getElem?_eq_none_iff.1 af
  have bE:i=x.ap.length:=by omega
  subst bE
  have d1: ¬(x.ap.length:Int)<((x.ap.map cd.row).length:Int):=by rw[List.length_map]; omega
  rw[pJ (Nat.le_refl _) (by omega)]at aB
  subst aB
  clear ai af cM
  (have al:=d1;refine bQ ?_;clear al)
  refine aj.dd (X:=Nat) 0 (fun i=>[(2,.ptr 0 0),(3,.ptr 1 0),(9,.int .i64 (i:Int))]) (fun _=>[(0,35,x.cells),(1,35,y.cells)]) (fun _=>[]) (fun i=>i≤x.os.length∧eL qT (x.os.drop i) (y.os.drop i)=O) (fun i=>x.os.length-i) ⟨Nat.zero_le _,qC⟩ ⟨rfl,rfl,rfl,trivial⟩ ⟨rfl,rfl,trivial⟩ trivial ?_
  rintro i ⟨ai,aB⟩
  try simp only at ai aB ⊢
  cases af:x.os[i]? with
  |some v=>
   have cK:=(List.getElem?_eq_some_iff.1 af).1
   obtain⟨u,hu⟩: ∃u,y.os[i]? =some u:=⟨_,List.getElem?_eq_getElem (by omega)⟩
   rw[oT af hu]at aB
   have d1:(i:Int)<((x.os.map ca.row).length:Int):=by rw[List.length_map]; omega
   have d2:(i:Int)<((y.os.map ca.row).length:Int):=by rw[List.length_map]; omega
   have ar:=B7 (ad.bB v.args) v.args u.args (Nat.le_refl _) (by have:=ab.o6 v (List.mem_of_getElem? af); omega)
   have ax:=B7 (ad.bB v.dT) v.dT u.dT (Nat.le_refl _) (by have:=ab.o6 v (List.mem_of_getElem? af); omega)
   simp only[qT]at aB
   generalize lW v.args u.args=eB at ar aB
   generalize lW v.dT u.dT=dU at ax aB
   (repeat' first|(apply ae.s rfl;(·simp(disch:=omega)only[go_sem,simprocAttr,d1,d2]<;>with_reducible rfl))|(apply aj.s true true;(·simp(disch:=omega)only[go_sem,simprocAttr,d1,d2]<;>with_reducible rfl))|apply ae.nil|(refine aj.b6 ?_)|(apply ae.eX;(·simp(disch:=omega)only[go_sem,simprocAttr,d1,d2]<;>with_reducible rfl))|(apply ae.eY;(·rfl);(·simp(disch:=omega)only[go_sem,simprocAttr,d1,d2]<;>with_reducible rfl))|(apply ae.gs;(·simp(disch:=omega)only[go_sem,simprocAttr,d1,d2]<;>with_reducible rfl))|((first|apply ae.e3|apply ae.e4|apply ae.e5);(·simp(disch:=omega)only[go_sem,simprocAttr,d1,d2]<;>with_reducible rfl);(·simp(disch:=omega)only[go_sem,simprocAttr,d1,d2]<;>with_reducible rfl);(·assumption);(·omega))|intro h)
   all_goals first
     |(refine D.R ?_
       refine⟨_,rfl,.av ?_ rfl,trivial,trivial⟩
       simp_all [I.av])
     |skip
   refine D.P (ar) ?_
   (repeat' first|refine D.S ?_|refine D.cN true true ?_|refine ae.nil ?_|refine aj.b6 ?_|refine D.W ?_|refine D.Z ?_|refine D.G ?_ ?_|refine D.X ‹_› ?_|refine D.eh ‹_› ?_|refine D.ei ‹_› ?_|intro h)
   all_goals first
     |(refine D.R ?_
       refine⟨_,rfl,.av ?_ rfl,trivial,trivial⟩
       simp_all [I.av])
     |skip
   refine D.P (ax) ?_
   (repeat' first|refine D.S ?_|refine D.cN true true ?_|refine ae.nil ?_|refine aj.b6 ?_|refine D.W ?_|refine D.Z ?_|refine D.G ?_ ?_|refine D.X ‹_› ?_|refine D.eh ‹_› ?_|refine D.ei ‹_› ?_|intro h|refine D.C ?_ ?_)
   ·refine D.r ?_
    refine⟨_,rfl,.av ?_ rfl,trivial,trivial⟩
    simp_all [I.av]
   ·refine aj.gT (i+1) ⟨by omega,?_⟩ ⟨rfl,rfl,rfl,trivial⟩ ⟨rfl,rfl,trivial⟩ trivial rfl (by simp only[fG,fY,dr,dP,dV,fO,I.cR,b2.bJ,dG,dp,of_flat,go_sem]<;>rfl) (by show x.os.length-(i+1)<x.os.length-i; omega)
    rw[←aB]
    simp_all
  |none=>
  have cM:=List.getElem?_eq_none_iff.1 af
  have bE:i=x.os.length:=by omega
  subst bE
  have d1: ¬(x.os.length:Int)<((x.os.map ca.row).length:Int):=by rw[List.length_map]; omega
  rw[pJ (Nat.le_refl _) (by omega)]at aB
  subst aB
  clear ai af cM
  (have al:=d1;refine bQ ?_;clear al)
  refine D.r ?_
  refine⟨_,rfl,.av ?_ rfl,trivial,trivial⟩
  simp_all [I.av]
end
section
attribute [local go_sem] ad.ct ac.ct ad.b9 ac.b9 cj eN fZ gJ dp of_flat
attribute [local go_sem] cb.row dG fG mV
def q0:List (List a7):=[[[124,124]],[[38,38]],[[61,61],[33,61]],[[60],[60,61],[62],[62,61]],[[43],[45]],[[42],[47],[37]]]
def vH (l:List a7):List I:=[.ay 1 (l.map cj)]
theorem ah6 (l:List (List a7)):fP (l.map vH)=true:=qx (fun l=>by simp only[vH,b3,I.flat,eN,Bool.and_self]) l
def wD:List (List a7)→a7→Nat→Int
 |[],_,_=>0
 |l::T,s,i=>if l.contains s=true then (i:Int)+1 else wD T s (i+1)
theorem XQ (s:a7):wD q0 s 0=cV s:=by
 by_cases J:s=[124,124]
 ·subst J; decide
 by_cases aa:s=[38,38]
 ·subst aa; decide
 by_cases au:s=[61,61]
 ·subst au; decide
 by_cases bn:s=[33,61]
 ·subst bn; decide
 by_cases bL:s=[60]
 ·subst bL; decide
 by_cases cq:s=[60,61]
 ·subst cq; decide
 by_cases j0:s=[62]
 ·subst j0; decide
 by_cases j7:s=[62,61]
 ·subst j7; decide
 by_cases rN:s=[43]
 ·subst rN; decide
 by_cases rM:s=[45]
 ·subst rM; decide
 by_cases ui:s=[42]
 ·subst ui; decide
 by_cases AR:s=[47]
 ·subst AR; decide
 by_cases AS:s=[37]
 ·subst AS; decide
 simp [q0,wD,cV,J,aa,au,bn,bL,cq,j0,j7,rN,rM,ui,AR,AS]
attribute [local go_sem] vH ah6
theorem yG:q0.length=6:=rfl
theorem Fw (s:a7):Pure Tryz.prog 24 [.str s] (.int .i64 (cV s)):=by
 have E3:=XQ s
 generalize cV s=R at E3 ⊢
 refine cF bN Tryz.func24 Vf rfl rfl ?_
 unfold J0 QD
 simp(disch:=omega)only[go_sem,simprocAttr]
 refine ao ?_
 refine aj.dd (X:=Nat) 0 (fun i=>[(0,.str s),(3,.ay 1 (q0.map vH)),(4,.int .i64 (i:Int))]) (fun _=>[]) (fun _=>[]) (fun i=>i≤6∧wD (q0.drop i) s i=R) (fun i=>6-i) ⟨by decide,E3⟩ ⟨rfl,rfl,rfl,trivial⟩ trivial trivial ?_
 rintro i ⟨ai,aB⟩
 try simp only at ai aB ⊢
 cases af:q0[i]? with
 |none=>
  have cM:=List.getElem?_eq_none_iff.1 af
  rw[yG]at cM
  have d1: ¬(i:Int)<((q0.map vH).length:Int):=by rw[List.length_map,yG]; omega
  rw[List.drop_eq_nil_of_le (by rw[yG]; exact cM)]at aB
  (have al:=d1;refine bQ ?_;clear al)
  refine D.r ?_
  refine⟨_,rfl,.av ?_ rfl,trivial,trivial⟩
  rw[←aB]
  rfl
 |some l=>
 have cK:=(List.getElem?_eq_some_iff.1 af).1
 rw[yG]at cK
 have d1:(i:Int)<((q0.map vH).length:Int):=by rw[List.length_map,yG]; omega
 have j9:l.length≤4:=by
  have:=List.mem_of_getElem? af
  simp [q0]at this
  rcases this with rfl|rfl|rfl|rfl|rfl|rfl<;>decide
 rw[iM af]at aB
 simp only[wD]at aB
 (have al:=d1;refine bQ ?_;clear al)
 refine aj.dd (X:=Nat) 0 (fun k=>[(0,.str s),(3,.ay 1 (q0.map vH)),(4,.int .i64 (i:Int)),(5,.int .i64 (k:Int))]) (fun _=>[]) (fun _=>[]) (fun k=>k≤l.length∧(if (l.drop k).contains s=true then (i:Int)+1 else wD (q0.drop (i+1)) s (i+1))=R) (fun k=>l.length-k) ⟨Nat.zero_le _,by simpa using aB⟩ ⟨rfl,rfl,rfl,rfl,trivial⟩ trivial trivial ?_
 clear aB E3
 rintro k ⟨aC,aB⟩
 try simp only at aC aB ⊢
 cases hw:l[k]? with
 |none=>
  have cM:=List.getElem?_eq_none_iff.1 hw
  have d2: ¬(k:Int)<((l.map cj).length:Int):=by rw[List.length_map]; omega
  rw[List.drop_eq_nil_of_le cM]at aB
  simp only[List.contains_nil,Bool.false_eq_true,if_false]at aB
  (have al:=d1;have z2:=d2;refine e8 ?_;clear al z2)
  refine aj.dK (i+1) ⟨by omega,aB⟩ ⟨rfl,rfl,by simp only[Int.natCast_add]; rfl,trivial⟩ trivial trivial rfl rfl (by show 6-(i+1)<6-i; omega)
 |some x=>
  have y0:=(List.getElem?_eq_some_iff.1 hw).1
  have d2:(k:Int)<((l.map cj).length:Int):=by rw[List.length_map]; omega
  rw[iM hw]at aB
  by_cases ab:x=s
  ·simp only[List.contains_cons,ab,beq_self_eq_true,Bool.true_or,if_true]at aB
   (have al:=d1;have z2:=d2;have z3:=ab;refine ji ?_;clear al z2 z3)
   refine D.r ?_
   refine⟨_,rfl,.av ?_ rfl,trivial,trivial⟩
   rw[←aB]
   rfl
  ·have hQ:(s==x)=false:=by simpa using fun e:s=x=>ab e.symm
   simp only[List.contains_cons,hQ,Bool.false_or]at aB
   (have al:=d1;have z2:=d2;have z3:=ab;refine ji ?_;clear al z2 z3)
   refine aj.dK (k+1) ⟨by omega,aB⟩ ⟨rfl,rfl,rfl,by simp only[Int.natCast_add]; rfl,trivial⟩ trivial trivial rfl rfl (by show l.length-(k+1)<l.length-k; omega)
theorem ap9 (s:a7):oI (tb s).1:=by
 have aw:oI zH:=⟨fun h hm=>(by cases hm),fun h hm=>(by cases hm),fun o hm=>(by cases hm),Nat.zero_le _,Nat.zero_le _,Nat.zero_le _⟩
 unfold tb
 cases uj:pV s with
 |err p e=>exact aw
 |ok l=>
  obtain⟨_,aH⟩:=MH uj
  simp only[BX]
  cases fV:lo (s.length:Int) (3*l.length+2) l with
  |out=>exact aw
  |err p e=>exact aw
  |ok x r=>
   simp only
   split
   ·exact Oo fV (by omega)
   ·exact aw
end
section
set_option maxRecDepth 1000000
attribute [local go_sem] ad.ct ac.ct ad.b9 ac.b9 cj eN fZ gJ dp of_flat
attribute [local go_sem] cb.row dG fG mV
def Cr:a7:=[115,101,114,118,105,99,101,32,83,32,112,108,97,121,115,32,97,32,111,102,32,80,123,118,97,114,32,110,58,105,110,116,32,48,46,46,57,61,49,59,111,110,32,109,40,120,41,102,114,111,109,32,98,123,110,61,120,59,125,111,102,102,101,114,32,107,40,110,43,49,41,116,111,32,98,32,119,104,101,114,101,32,110,60,53,59,125]
def NU:a7:=[115,101,114,118,105,99,101,32,83,32,112,108,97,121,115,32,97,32,111,102,32,80,32,123,10,9,118,97,114,32,110,58,32,105,110,116,32,48,32,46,46,32,57,32,61,32,49,59,10,9,111,110,32,109,40,120,41,32,102,114,111,109,32,98,32,123,10,9,9,110,32,61,32,120,59,10,9,125,10,9,111,102,102,101,114,32,107,40,110,32,43,32,49,41,32,116,111,32,98,32,119,104,101,114,101,32,110,32,60,32,53,59,10,125,10]
def st:e9:=⟨[83],[97],[80],[⟨[110],1,0,9,1,1,[]⟩],[⟨[109],[98],[[120]],[.mk 1 [110] (.mk 3 [] [120] [] 0 []) 0 [] []]⟩],[⟨[107],[98],[.mk 6 [43] [] [] 0 [.mk 3 [] [110] [] 0 [],.mk 1 [] [] [] 1 []]],[.mk 6 [60] [] [] 0 [.mk 3 [] [110] [] 0 [],.mk 1 [] [] [] 5 []]]⟩]⟩
theorem Oz:tb Cr=(st,0,0):=by kernel_rfl
theorem K4:kJ st=true:=by kernel_rfl
theorem V4:iK st=NU:=by kernel_rfl
theorem R3:oI st:=by
 have:=ap9 Cr
 rw[Oz]at this
 exact this
theorem ak2:st.ok 1000:=by
 refine⟨by decide,by decide,by decide,by decide,?_,by decide,?_,by decide,?_⟩
 ·intro v af
  rw[List.mem_singleton.1 af]
  exact⟨⟨by decide,by decide⟩,rfl,rfl,rfl,rfl,rfl⟩
 ·intro v af
  rw[List.mem_singleton.1 af]
  exact⟨by decide,by decide,by decide,by decide,by decide,⟨rfl,by decide,⟨rfl,by decide,by decide,by decide,rfl,by decide,trivial⟩,rfl,by decide,by decide,trivial,trivial⟩,trivial⟩
 ·intro v af
  rw[List.mem_singleton.1 af]
  exact⟨by decide,by decide,by decide,⟨⟨rfl,by decide,by decide,by decide,rfl,by decide,⟨rfl,by decide,by decide,by decide,rfl,by decide,trivial⟩,⟨rfl,by decide,by decide,by decide,rfl,by decide,trivial⟩,trivial⟩,trivial⟩,by decide,⟨⟨rfl,by decide,by decide,by decide,rfl,by decide,⟨rfl,by decide,by decide,by decide,rfl,by decide,trivial⟩,⟨rfl,by decide,by decide,by decide,rfl,by decide,trivial⟩,trivial⟩,trivial⟩⟩
theorem as6:Pure Tryz.prog 11 [] (.bool true):=by
 have ar:=Fo Cr (by decide)
 have ax:=OY st R3
 have cw:=B5 st R3
 have fq:=aw7 (R:=1000) (by decide) st st ak2
 rw[Oz]at ar
 rw[K4]at cw
 rw[R4]at fq
 unfold xC at ax
 rw[if_pos K4,V4]at ax
 simp only[xA]at ar
 rw[lq]at ar ax cw fq
 simp only[st]at ar ax cw fq
 simp(disch:=omega)only[go_sem,simprocAttr]at ar
 simp(disch:=omega)only[go_sem,simprocAttr]at ax
 simp(disch:=omega)only[go_sem,simprocAttr]at cw
 simp(disch:=omega)only[go_sem,simprocAttr]at fq
 unfold Cr at ar
 unfold NU at ax
 refine cF bN Tryz.func11 Db rfl rfl ?_
 unfold IR Pr
 simp(disch:=omega)only[go_sem,simprocAttr]
 refine ao ?_
 refine D.P (ar) ?_
 refine ao ?_
 refine D.P (ax) ?_
 refine ao ?_
 refine D.P (cw) ?_
 refine ao ?_
 refine D.P (fq) ?_
 refine ao ?_
 exact D.rx
end
end Go.bc.T.N
namespace Go.bc.T.N
open Go Go.bc Go.Proofs
theorem wf_u8 {a:Int}(h:(Lit.int .u8 a).wf=true): ∃n:Nat,a=(n:Int)∧n<256:=by
 have aa:IntKind.u8.min≤a∧a≤IntKind.u8.max:=by simpa [Lit.wf] using h
 have ar:IntKind.u8.min=0:=by decide
 have ax:IntKind.u8.max=255:=by decide
 rw[ar,ax]at aa
 refine⟨a.toNat,?_,?_⟩<;>omega
end Go.bc.T.N
namespace Go.Proofs.YtjkbgcgljnldeaaGreatDoor
open Go.ChangeShapes Go.WideShapes Go.ChangeAt Go.RowKit
def vF:=Rows.serviceEqualRow.laid
theorem Xa (os:Os) (args:Array Value):laidMetH Tryz.prog vF ((World.laidAll Tryz.prog os vF).forCall (fun _ _=>0) ⟨#[],args,[]⟩).memory:=by
 rw[MakeChecks.laidMetH_plain _ _ _ (by kernel_rfl)]
 exact laidMet_laidAll _ (by kernel_rfl) (by kernel_rfl)
section
variable {H:Type}{enc:TypeId×Value→H}
end
theorem A8:Tryz.prog.globalNamed "internal/strconv.uint64pow10" =some 1:=by kernel_rfl
theorem X2:(Tryz.prog.globals[1]?).map (·.type)=some 261:=by kernel_rfl
theorem Wh:Tryz.prog.cellsOf 261=20:=by kernel_rfl
theorem Wg:Tryz.prog.cellsOf 249=1:=by kernel_rfl
theorem aD1:(((begin Tryz.prog (fun _ _=>0) default).world.heap[1]?).bind Obj.row?).map (·.2)=some 261:=by kernel_rfl
theorem Yi:1<Tryz.prog.globals.size:=of_decide_eq_true (by kernel_rfl)
theorem TL {W:World}{g t:Nat}(ap:W.ShapedOpen Tryz.prog) (aY:g<Tryz.prog.globals.size) (h:(((begin Tryz.prog (fun _ _=>0) default).world.heap[g]?).bind Obj.row?).map (·.2)=some t){name:String}(a6:Tryz.prog.globalNamed name=some g){cs:Array Value}(af:W.var? Tryz.prog name=some cs):W.heap[g]? =some (.cells cs t (0,0)):=by
 obtain⟨⟨zero,dx⟩,J,aa⟩:=Option.map_eq_some_iff.1 h
 simp only at aa
 subst aa
 obtain⟨c3,au,_⟩:=ap.1 g zero dx aY J
 unfold World.var? at af
 rw[a6]at af
 simp only[Option.bind_some,au,Option.some.injEq]at af
 rw[au,af]
theorem X6 {W:World}(ap:W.ShapedOpen Tryz.prog) (h:laidMetH Tryz.prog vF W):Go.bc.nv W:=by
 rw[MakeChecks.laidMetH_plain _ _ _ (by kernel_rfl)]at h
 have aa:laidMet Tryz.prog (("internal/strconv.uint64pow10",Lib.tabData .u64 Lib.pow10Tab)::[("unicode/utf8.acceptRanges",Rows.laid_unicode_utf8_acceptRanges),("unicode/utf8.first",Rows.laid_unicode_utf8_first)]) W:=h.tail.tail
 have v3:Lib.TabIs Tryz.prog W "internal/strconv.uint64pow10" .u64 Lib.pow10Tab:=Lib.tabIs_of_head A8 X2 Tryz.underlying261 Tryz.underlying249 Wg Wh aa
 have jj:=TL ap Yi aD1 A8 v3
 intro p hp
 simp only[Go.bc.yH,List.mem_cons,List.not_mem_nil,or_false]at hp
 subst hp
 exact⟨_,jj,261,_,rfl⟩
end Go.Proofs.YtjkbgcgljnldeaaGreatDoor
namespace Go.bc
open Go Go.bc.T.N
def aT (s r:a7) (k6:bH):Prop:=∀(N n:Nat) (acc:List ba),s.length<n→∃Sd m,Sd.map ba.c=k6∧r.length<m∧qQ N n acc s=qQ N m (acc++Sd) r
theorem aT.refl (s:a7):aT s s []:=fun N n acc h=>⟨[],n,rfl,h,by rw[List.append_nil]⟩
theorem aT.trans {s r q:a7}{k6 us:bH}(J:aT s r k6) (aa:aT r q us):aT s q (k6++us):=fun N n acc h=>by
 obtain⟨a,m,ar,ax,cw⟩:=J N n acc h
 obtain⟨b,k,g1,g2,g3⟩:=aa N m (acc++a) ax
 exact⟨a++b,k,by rw[List.map_append,ar,g1],g2,by rw[cw,g3,List.append_assoc]⟩
theorem aT.Ui {c:UInt8}(ah:lS c=true) (s:a7):aT (c::s) s []:=fun N n acc h=>by
 obtain⟨n,rfl⟩: ∃k,n=k+1:=⟨n-1,by omega⟩
 refine⟨[],n+1,rfl,by simp only[List.length_cons]at h; omega,?_⟩
 rw[List.append_nil,uw,uw]
 congr 1
 show ko (s.length+1+1) (c::s)= _
 rw[ko,if_pos ah]
theorem aT.zF {c:UInt8}{y:a7}{t:ba}{r:a7}(hb:lS c=false) (DX:(c::y).take 2≠[47,47]) (aO:l9 (c::y)= .ok t r):aT (c::y) r [t.c]:=fun N n acc h=>by
 obtain⟨n,rfl⟩: ∃k,n=k+1:=⟨n-1,by omega⟩
 obtain⟨d,u,hu⟩:=Sb aO
 have aH:=congrArg List.length hu
 simp only[List.length_cons,List.length_append]at aH h
 refine⟨[{t with vj:=((N-(c::y).length:Nat):Int)}],n,rfl,by omega,?_⟩
 rw[uw]
 have:ko ((c::y).length+1) (c::y)=c::y:=by
  rw[ko,if_neg (by rw[hb]; decide),if_neg DX]
 rw[this]
 simp only[lexB,aO]
theorem aT.fin {s:a7}{k6:bH}(h:aT s [] k6) (ap:s.length≤8000): ∃l,pV s= .ok l∧l.map ba.c=k6:=by
 obtain⟨a,m,ar,ax,cw⟩:=h s.length (s.length+1) [] (by omega)
 obtain⟨m,rfl⟩: ∃k,m=k+1:=⟨m-1,by omega⟩
 refine⟨a,?_,ar⟩
 rw[pV,if_neg (by omega),cw,uw]
 simp [ko,lexB]
theorem aT.cW {c:UInt8}(ah:lS c=true){r q:a7}{us:bH}(h:aT r q us):aT (c::r) q us:=(aT.Ui ah r).trans h
theorem aT.ft {r q:a7}{us:bH}(h:aT r q us):aT (32::r) q us:=aT.cW rfl h
theorem aT.kQ {r q:a7}{us:bH}(h:aT r q us):aT (10::r) q us:=aT.cW rfl h
theorem aT.kj {r q:a7}{us:bH}(h:aT r q us): ∀d:Nat,aT (List.replicate d 9++r) q us
 |0=>h
 |d+1=>by rw[List.replicate_succ,List.cons_append]; exact aT.cW rfl (aT.kj h d)
theorem Gh {p:UInt8→Bool}: ∀ {w r:a7},w.all p=true→(∀c y,r=c::y→p c=false)→(w++r).takeWhile p=w∧(w++r).dropWhile p=r
 |[],r,_,h=>by
  cases r with
  |nil=>exact⟨rfl,rfl⟩
  |cons c y=>
   have:=h c y rfl
   simp [List.takeWhile_cons,List.dropWhile_cons,this]
 |a::w,r,aP,h=>by
  simp only[List.all_cons,Bool.and_eq_true]at aP
  obtain⟨J,aa⟩:=Gh (w:=w) aP.2 h
  simp [List.takeWhile_cons,List.dropWhile_cons,aP.1,J,aa]
theorem LW {r:a7}(h:ki r=false): ∀c y,r=c::y→iO c=false:=fun c y e=>by subst e; exact h
theorem ah8 {c:UInt8}(h:l1 c=true):lS c=false∧c≠47:=by
 constructor
 ·cases hb:lS c with
  |false=>rfl
  |true=>
   simp only[lS,Bool.or_eq_true,beq_iff_eq]at hb
   rcases hb with rfl|rfl|rfl|rfl<;>exact absurd h (by decide)
 ·rintro rfl; exact absurd h (by decide)
theorem aT.name {w r q:a7}{us:bH}(hw:mx w=true) (ag:ki r=false) (h:aT r q us):aT (w++r) q (dH w::us):=by
 cases w with
 |nil=>simp [mx]at hw
 |cons c w=>
  simp only[mx,Bool.and_eq_true,decide_eq_true_eq]at hw
  obtain⟨aH,ah,aP⟩:=hw
  obtain⟨ar,ax⟩:=Gh aP (LW ag)
  obtain⟨eB,dU⟩:=ah8 ah
  refine (aT.zF (t:=⟨1,c::w,0,0⟩) eB ?_ ?_).trans h
  ·intro e
   have bE:=congrArg List.head? e
   simp only[List.take_succ_cons,List.head?_cons,Option.some.injEq]at bE
   exact dU bE
  ·show l9 (c::(w++r))= _
   rw[l9,if_pos ah,vJ]
   rw[List.cons_append]at ar ax
   rw[ar,ax,if_neg (by omega)]
theorem aT.word {w r q:a7}{us:bH}(hw:db w=true) (ag:ki r=false) (h:aT r q us):aT (w++r) q (dH w::us):=aT.name (by simp only[db,Bool.and_eq_true]at hw; exact hw.1) ag h
theorem aj4: ∀c∈qS,lS c=false∧l1 c=false∧iY c=false∧¬c.toNat=34:=by decide
theorem aT.m1 {c:UInt8}{r q:a7}{us:bH}(ah:c∈qS) (aa:(c::r).take 2∉gO) (DX:(c::r).take 2≠[47,47]) (h:aT r q us):aT (c::r) q (cy [c]::us):=by
 have hb:=aj4 c ah
 refine (aT.zF (t:=⟨4,[c],0,0⟩) hb.1 DX ?_).trans h
 rw[l9,if_neg (by rw[hb.2.1]; decide),if_neg (by rw[hb.2.2.1]; decide),if_neg hb.2.2.2,ux,if_neg aa]
 simp only[if_pos ah]
theorem aT.m2 {a b:UInt8}{r q:a7}{us:bH}(hm:[a,b]∈gO) (h:aT r q us):aT (a::b::r) q (cy [a,b]::us):=by
 have hb:lS a=false∧l1 a=false∧iY a=false∧¬a.toNat=34∧[a,b]≠[47,47]:=by
  simp only[gO,List.mem_cons,List.cons.injEq,and_true,List.not_mem_nil,or_false]at hm
  rcases hm with ⟨rfl,rfl⟩|⟨rfl,rfl⟩|⟨rfl,rfl⟩|⟨rfl,rfl⟩|⟨rfl,rfl⟩|⟨rfl,rfl⟩|⟨rfl,rfl⟩|⟨rfl,rfl⟩<;>decide
 refine (aT.zF (t:=⟨4,[a,b],0,0⟩) hb.1 (by exact hb.2.2.2.2) ?_).trans h
 rw[l9,if_neg (by rw[hb.2.1]; decide),if_neg (by rw[hb.2.2.1]; decide),if_neg hb.2.2.2.1,ux,if_pos (by exact hm)]
 rfl
theorem Jc {k:Nat}(h:k<10):iY (UInt8.ofNat (48+k))=true∧((UInt8.ofNat (48+k)).toNat:Int)-48=k∧(k=0↔UInt8.ofNat (48+k)=48):=by
 have key: ∀k:Fin 10,iY (UInt8.ofNat (48+k.val))=true∧((UInt8.ofNat (48+k.val)).toNat:Int)-48=k.val∧(k.val=0↔UInt8.ofNat (48+k.val)=48):=by decide
 exact key ⟨k,h⟩
theorem SE: ∀(a b:a7) (v:Int),pk (a++b) v=pk b (pk a v)
 |[],b,v=>rfl
 |c::a,b,v=>by simp only[List.cons_append,pk,SE a b]
theorem IC: ∀(n:Nat),(Lib.decDigits n).all iY=true∧pk (Lib.decDigits n) 0=n∧(1<(Lib.decDigits n).length→(Lib.decDigits n).head?≠some 48)∧Lib.decDigits n≠[]∧(1≤n→(Lib.decDigits n).head?≠some 48):=by
 intro n
 induction n using Nat.strongRecOn with
 |ind n cv=>
  by_cases h:n<10
  ·rw[wK h]
   obtain⟨J,aa,au⟩:=Jc h
   refine⟨by simp only[List.all_cons,List.all_nil,J,Bool.and_true],by simp only[pk]; omega,by simp,by simp,fun h=> ?_⟩
   intro e
   simp only[List.head?_cons,Option.some.injEq]at e
   have:=au.2 e
   omega
  ·obtain⟨g1,g2,g3,g4,g5⟩:=cv (n/10) (by omega)
   obtain⟨J,aa,au⟩:=Jc (k:=n%10) (by omega)
   rw[yw h]
   have bh:(Lib.decDigits (n/10)++[UInt8.ofNat (48+n%10)]).head?=(Lib.decDigits (n/10)).head?:=by
    cases bw:Lib.decDigits (n/10) with
    |nil=>exact absurd bw g4
    |cons a l=>rfl
   refine⟨by simp only[List.all_append,List.all_cons,List.all_nil,g1,J,Bool.and_true],?_,fun _=> ?_,by simp,fun _=> ?_⟩
   ·rw[SE,g2]
    simp only[pk]
    omega
   ·rw[bh]; exact g5 (by omega)
   ·rw[bh]; exact g5 (by omega)
theorem W7 {n:Nat}(h:n<1000000):(Lib.decDigits n).length≤6:=by
 have key: ∀(k n:Nat),n<10^(k+1)→(Lib.decDigits n).length≤k+1:=by
  intro k
  induction k with
  |zero=>intro n h; rw[wK (by simpa using h)]; simp
  |succ k cv=>
   intro n h
   by_cases rN:n<10
   ·rw[wK rN]; simp
   ·rw[yw rN,List.length_append,List.length_cons,List.length_nil]
    have:=cv (n/10) (by rw[Nat.pow_succ]at h; omega)
    omega
 exact key 5 n (by simpa using h)
theorem Xn {c:UInt8}(h:iY c=true):lS c=false∧c≠47∧l1 c=false:=by
 have key: ∀n:Fin 256,iY (UInt8.ofNat n.val)=true→lS (UInt8.ofNat n.val)=false∧UInt8.ofNat n.val≠47∧l1 (UInt8.ofNat n.val)=false:=by decide+kernel
 have:=key ⟨c.toNat,c.toNat_lt⟩
 simp only[UInt8.ofNat_toNat]at this
 exact this h
theorem Xc {c:UInt8}(h:iY c=true):iO c=true:=by
 have key: ∀n:Fin 256,iY (UInt8.ofNat n.val)=true→iO (UInt8.ofNat n.val)=true:=by decide+kernel
 have:=key ⟨c.toNat,c.toNat_lt⟩
 simp only[UInt8.ofNat_toNat]at this
 exact this h
theorem aT.num {n:Nat}{r q:a7}{us:bH}(a6:n<1000000) (ag:ki r=false) (h:aT r q us):aT (Lib.decDigits n++r) q (kr n::us):=by
 obtain⟨f1,f2,f3,f4,_⟩:=IC n
 have f5:=W7 a6
 have ck: ∀c y,r=c::y→iY c=false:=fun c y e=>by
  cases bw:iY c with
  |false=>rfl
  |true=>rw[←LW ag c y e]; exact (Xc bw).symm
 obtain⟨ar,ax⟩:=Gh f1 ck
 generalize Lib.decDigits n=w at*
 cases w with
 |nil=>exact absurd rfl f4
 |cons c w=>
  simp only[List.all_cons,Bool.and_eq_true]at f1
  obtain⟨eB,dU,jj⟩:=Xn f1.1
  refine (aT.zF (t:=⟨2,[],(n:Int),0⟩) eB ?_ ?_).trans h
  ·intro e
   have bE:=congrArg List.head? e
   simp only[List.take_succ_cons,List.head?_cons,Option.some.injEq]at bE
   exact dU bE
  ·show l9 (c::(w++r))= _
   rw[l9,if_neg (by rw[jj]; decide),if_pos f1.1,vL]
   rw[List.cons_append]at ar ax
   rw[ar,ax,zl,if_neg (by rw[ag]; decide),if_neg,f2]
   rintro (cq|⟨cq,j0⟩)
   ·omega
   ·exact f3 cq j0
theorem Sz: ∀(s b r:a7),s.all eo=true→jy b (iC s++34::r)=(if 40<b.length+s.length then .err 6 else .ok ⟨3,b++s,0,0⟩ r)
 |[],b,r,_=>by
  show jy b (34::r)= _
  cases r with
  |nil=>rw[jy,if_pos (by decide)]; simp
  |cons d y=>rw[jy,if_pos (by decide)]; simp
 |c::s,b,r,h=>by
  simp only[List.all_cons,Bool.and_eq_true]at h
  have cv:=Sz s (b++[c]) r h.2
  have aH:(b++[c]).length+s.length=b.length+(c::s).length:=by simp; omega
  have hb:b++[c]++s=b++c::s:=by simp
  rw[aH,hb]at cv
  rw[←cv]
  simp only[iC]
  by_cases bG:c.toNat=34∨c.toNat=92
  ·rw[if_pos bG]
   simp only[List.cons_append,List.nil_append]
   rw[jy,if_neg (by decide),if_pos (by decide)]
   simp only[if_pos bG]
  ·rw[if_neg bG]
   simp only[not_or]at bG
   simp only[List.cons_append,List.nil_append]
   have ah:=h.1
   simp only[eo,Bool.and_eq_true,decide_eq_true_eq]at ah
   cases ab:iC s++34::r with
   |nil=>simp at ab
   |cons d y=>
    rw[jy,if_neg bG.1,if_neg bG.2,if_neg (by omega)]
theorem aT.text {s r q:a7}{us:bH}(ap:lM s=true) (h:aT r q us):aT (p4 s++r) q (p6 s::us):=by
 simp only[lM,Bool.and_eq_true,decide_eq_true_eq]at ap
 have bG:p4 s++r=34::(iC s++34::r):=by simp [p4]
 rw[bG]
 refine (aT.zF (t:=⟨3,s,0,0⟩) (by decide) (fun e=> ?_) ?_).trans h
 ·have bE:=congrArg List.head? e
  simp at bE
 ·rw[l9,if_neg (by decide),if_neg (by decide),if_pos (by decide),Sz s [] r ap.2,if_neg (by simp; omega)]
  rfl
def AV:List a7:=[[124,124],[38,38],[61,61],[33,61],[60],[60,61],[62],[62,61],[43],[45],[42],[47],[37]]
theorem aq7 {o:a7}(h:cV o≠0):o∈AV:=by
 by_cases hm:o∈AV
 ·exact hm
 ·exfalso
  apply h
  simp only[AV,List.mem_cons,List.not_mem_nil,or_false,not_or]at hm
  obtain⟨J,aa,au,bn,bL,cq,j0,j7,rN,rM,ui,AR,AS⟩:=hm
  simp [cV,J,aa,au,bn,bL,cq,j0,j7,rN,rM,ui,AR,AS]
theorem aT.op {o r q:a7}{us:bH}(aq:cV o≠0) (h:aT (32::r) q us):aT (o++32::r) q (cy o::us):=by
 have hm:=aq7 aq
 simp only[AV,List.mem_cons,List.not_mem_nil,or_false]at hm
 rcases hm with rfl|rfl|rfl|rfl|rfl|rfl|rfl|rfl|rfl|rfl|rfl|rfl|rfl
 ·exact aT.m2 (by decide) h
 ·exact aT.m2 (by decide) h
 ·exact aT.m2 (by decide) h
 ·exact aT.m2 (by decide) h
 ·exact aT.m1 (by decide) (by show ([60,32]:a7)∉gO; decide) (by show ([60,32]:a7)≠ _; decide) h
 ·exact aT.m2 (by decide) h
 ·exact aT.m1 (by decide) (by show ([62,32]:a7)∉gO; decide) (by show ([62,32]:a7)≠ _; decide) h
 ·exact aT.m2 (by decide) h
 ·exact aT.m1 (by decide) (by show ([43,32]:a7)∉gO; decide) (by show ([43,32]:a7)≠ _; decide) h
 ·exact aT.m1 (by decide) (by show ([45,32]:a7)∉gO; decide) (by show ([45,32]:a7)≠ _; decide) h
 ·exact aT.m1 (by decide) (by show ([42,32]:a7)∉gO; decide) (by show ([42,32]:a7)≠ _; decide) h
 ·exact aT.m1 (by decide) (by show ([47,32]:a7)∉gO; decide) (by show ([47,32]:a7)≠ _; decide) h
 ·exact aT.m1 (by decide) (by show ([37,32]:a7)∉gO; decide) (by show ([37,32]:a7)≠ _; decide) h
def lone (c:UInt8):Bool:=c==40||c==41||c==123||c==125||c==44||c==59||c==58
theorem aT.lone {c:UInt8}(ah:lone c=true){r q:a7}{us:bH}(h:aT r q us):aT (c::r) q (cy [c]::us):=by
 have J:c=40∨c=41∨c=123∨c=125∨c=44∨c=59∨c=58:=by
  simp only[bc.lone,Bool.or_eq_true,beq_iff_eq]at ah
  rcases ah with ((((((h|h)|h)|h)|h)|h)|h)<;>simp [h]
 have key: ∀r:a7,c∈qS∧(c::r).take 2∉gO∧(c::r).take 2≠[47,47]:=by
  intro r
  have aa: ∀d:UInt8,[c,d]∉gO:=by
   intro d hm
   simp only[gO,List.mem_cons,List.cons.injEq,and_true,List.not_mem_nil,or_false]at hm
   rcases J with rfl|rfl|rfl|rfl|rfl|rfl|rfl<;>simp at hm
  have au:c≠47:=by rintro rfl; simp at J
  refine⟨by rcases J with rfl|rfl|rfl|rfl|rfl|rfl|rfl<;>decide,?_,?_⟩
  ·cases r with
   |nil=>
    intro hm
    simp [gO]at hm
   |cons d r=>exact aa d
  ·intro e
   have bE:=congrArg List.head? e
   simp only[List.take_succ_cons,List.head?_cons,Option.some.injEq]at bE
   exact au bE
 exact aT.m1 (key r).1 (key r).2.1 (key r).2.2 h
theorem aT.minus {c:UInt8}{r q:a7}{us:bH}(ah:c≠62) (h:aT (c::r) q us):aT (45::c::r) q (cy [45]::us):=by
 refine aT.m1 (by decide) ?_ ?_ h
 ·show ([45,c]:a7)∉gO
  simp [gO,ah]
 ·show ([45,c]:a7)≠ _
  simp
theorem aT.not {c:UInt8}{r q:a7}{us:bH}(ah:c≠61) (h:aT (c::r) q us):aT (33::c::r) q (cy [33]::us):=by
 refine aT.m1 (by decide) ?_ ?_ h
 ·show ([33,c]:a7)∉gO
  simp [gO,ah]
 ·show ([33,c]:a7)≠ _
  simp
theorem aT.eq {r q:a7}{us:bH}(h:aT (32::r) q us):aT (61::32::r) q (cy [61]::us):=aT.m1 (by decide) (by show ([61,32]:a7)∉gO; decide) (by show ([61,32]:a7)≠ _; decide) h
def rX (s:a7):Prop:=∃c y,s=c::y∧c≠61∧c≠62
theorem rX.dM {s r:a7}(h:rX s):rX (s++r):=by
 obtain⟨c,y,rfl,J,aa⟩:=h
 exact⟨c,y++r,rfl,J,aa⟩
theorem L1 {x:ad}{s:a7}{k:Int}(h:rX s):rX (fX x s k):=by
 unfold fX
 split
 ·exact⟨40,s++[41],by simp,by decide,by decide⟩
 ·exact h
theorem aM8 {w:a7}(h:db w=true):rX w:=by
 cases w with
 |nil=>simp [db,mx]at h
 |cons c w=>
  simp only[db,mx,Bool.and_eq_true]at h
  refine⟨c,w,rfl,?_,?_⟩<;>(rintro rfl; exact absurd h.1.2.1 (by decide))
theorem I9 (n:Nat):rX (Lib.decDigits n):=by
 obtain⟨f1,_,_,f4,_⟩:=IC n
 cases bw:Lib.decDigits n with
 |nil=>exact absurd bw f4
 |cons c w=>
  rw[bw]at f1
  simp only[List.all_cons,Bool.and_eq_true]at f1
  refine⟨c,w,rfl,?_,?_⟩<;>(rintro rfl; exact absurd f1.1 (by decide))
theorem MZ {n:Int}(h:0≤n):Lib.itoa n=Lib.decDigits n.toNat:=by
 unfold Lib.itoa
 rw[if_neg (by omega)]
theorem ae6 {n:Int}(h:n<0):Lib.itoa n=45::Lib.decDigits (-n).toNat:=by
 unfold Lib.itoa
 rw[if_pos h,show n.natAbs=(-n).toNat by omega]
theorem RV: ∀(N:Nat) (x:ad),x.bI≤N→dB x=true→rX (cm x)
 |0,x,h,_=>by cases x; simp only[ad.bI]at h; omega
 |N+1,x,bW,aY=>by
  rcases wL aY with ⟨n,rfl,aw,J⟩|⟨t,rfl,h⟩|⟨m,rfl,h⟩|⟨y,rfl,h⟩|⟨o,y,rfl,aq,h⟩|⟨o,y,z,rfl,aq,h,ij⟩
  ·show rX (Lib.itoa n)
   rw[MZ aw]
   exact I9 _
  ·exact⟨34,iC t++[34],by show p4 t= _; simp [p4],by decide,by decide⟩
  ·exact aM8 h
  ·exact⟨108,_,rfl,by decide,by decide⟩
  ·rcases aq with rfl|rfl
   ·exact⟨45,_,rfl,by decide,by decide⟩
   ·exact⟨33,_,rfl,by decide,by decide⟩
  ·simp only[ad.bI,ad.bB]at bW
   show rX (fX y (cm y) (cV o)++[32]++o++[32]++fX z (cm z) (cV o+1))
   exact ((((L1 (RV N y (by omega) h)).dM).dM).dM).dM
theorem aT.int {n:Int}{r q:a7}{us:bH}(aw:0≤n) (J:n<1000000) (ag:ki r=false) (h:aT r q us):aT (Lib.itoa n++r) q (kr n::us):=by
 rw[MZ aw]
 have:=aT.num (n:=n.toNat) (by omega) ag h
 rw[show ((n.toNat:Nat):Int)=n by omega]at this
 exact this
theorem Cg: ∀(N:Nat) (x:ad),x.bI≤N→dB x=true→∀(r q:a7) (us:bH),ki r=false→aT r q us→aT (cm x++r) q (gF x++us)
 |0,x,h,_=>by cases x; simp only[ad.bI]at h; omega
 |N+1,x,bW,aY=>by
  have vP: ∀(y:ad) (k:Int) (r q:a7) (us:bH),y.bI≤N→dB y=true→ki r=false→aT r q us→aT (fX y (cm y) k++r) q (kf y (gF y) k++us):=by
   intro y k r q us J aa ag h
   unfold fX kf
   by_cases ah:y.kind=6∧cV y.op<k
   ·rw[if_pos ah,if_pos ah]
    simp only[List.append_assoc,List.cons_append,List.nil_append]
    exact aT.lone rfl (Cg N y J aa _ _ _ rfl (aT.lone rfl h))
   ·rw[if_neg ah,if_neg ah]
    exact Cg N y J aa _ _ _ ag h
  intro r q us ag h
  rcases wL aY with ⟨n,rfl,aw,J⟩|⟨t,rfl,aO⟩|⟨m,rfl,hm⟩|⟨y,rfl,aZ⟩|⟨o,y,rfl,aq,aZ⟩|⟨o,y,z,rfl,aq,aZ,aB⟩
  ·exact aT.int aw (by omega) ag h
  ·exact aT.text aO h
  ·exact aT.word hm ag h
  ·simp only[ad.bI,ad.bB]at bW
   show aT ([108,101,110,40]++cm y++[41]++r) q ([dH [108,101,110],cy [40]]++gF y++[cy [41]]++us)
   simp only[List.append_assoc,List.cons_append,List.nil_append]
   refine aT.name (w:=[108,101,110]) rfl rfl ?_
   exact aT.lone rfl (Cg N y (by omega) aZ _ _ _ rfl (aT.lone rfl h))
  ·simp only[ad.bI,ad.bB]at bW
   show aT (o++fX y (cm y) 7++r) q ([cy o]++kf y (gF y) 7++us)
   have jG:=vP y 7 r q us (by omega) aZ ag h
   obtain⟨c,bM,ap,c1,c2⟩:=(L1 (x:=y) (k:=7) (RV N y (by omega) aZ)).dM (r:=r)
   rw[List.append_assoc,List.append_assoc]
   rw[ap]at jG ⊢
   rcases aq with rfl|rfl
   ·exact aT.minus c2 jG
   ·exact aT.not c1 jG
  ·simp only[ad.bI,ad.bB]at bW
   show aT (fX y (cm y) (cV o)++[32]++o++[32]++fX z (cm z) (cV o+1)++r) q (kf y (gF y) (cV o)++[cy o]++kf z (gF z) (cV o+1)++us)
   simp only[List.append_assoc,List.cons_append,List.nil_append]
   refine vP y _ _ _ _ (by omega) aZ rfl (aT.ft ?_)
   exact aT.op aq (aT.ft (vP z _ _ _ _ (by omega) aB ag h))
theorem aT.ex {x:ad}(aY:dB x=true){r q:a7}{us:bH}(ag:ki r=false) (h:aT r q us):aT (cm x++r) q (gF x++us):=Cg _ x (Nat.le_refl _) aY r q us ag h
end Go.bc
